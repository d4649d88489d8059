/- Part 7. -/
import Derived.Test.YtckpegkpdepokaaGreatPD2
import Derived.Test.YtckpegkpdepokaaGreatPD3
import Derived.Test.YtckpegkpdepokaaGreatPD6
/-! Ft13 -/
namespace Go.Proofs.YtckpegkpdepokaaGreat
open Go Go.Sx
set_option maxRecDepth 100000
set_option maxHeartbeats 4000000
set_option linter.unusedVariables false
set_option linter.unusedSimpArgs false
attribute [local irreducible] J JQ QS Con W opW
open Go.MapKept Go.WideMaps Go.Maps
theorem cloneO_con (v : Value) (xs : List UInt8) (w : World) (h : BR w v xs) (hl : xs.length ≤ 1000000000) : Con Tryz.prog 26 [v] w [] fun u S' => ∃ c : SH, S' = [c] ∧ Sx.Own 5 1 (ints xs) u c := by
  refine con_of_tree mix Tryz.func26 T26_ok (by kernel_rfl) ?_
  unfold T26
  have hf := br_form h
  obtain ⟨A, cap, hv, hcap⟩ := hf
  subst hv
  refine j_q (qs_ac) ?_
  refine j_q (qs_slnil Tryz.underlying32 rfl) ?_
  refine j_cond rfl (fun hc0 => ?_) (fun hc0 => ?_)
  · skip
    have h0 : A = none := by cases A with
      | none => rfl
      | some a => simp at hc0
    subst h0
    have hx0 : xs = [] := by
      rcases h with ⟨_, h⟩ | ⟨a, c, e, _⟩
      · exact h
      · cases e
    subst hx0
    refine j_q (qs_ac) ?_
    refine j_subl (S' := [[]]) (by simp) ?_
    refine j_ret_con (vs := [_]) (fun w' hw' => ⟨rfl, trivial⟩) ?_
    exact ⟨[], rfl, own_nil⟩
  · skip
    obtain ⟨a, rfl⟩ : ∃ a, A = some a := by
      cases A with
      | none => simp at hc0
      | some a => exact ⟨a, rfl⟩
    have hcl : Cells w a (ints xs) := by
      rcases h with ⟨e, _⟩ | ⟨a', c, e, _, _, h⟩
      · cases e
      · injection e with e1 e2 e3
        injection e1 with e1
        rw [e1]
        exact h
    refine j_lit (vs := []) Tryz.underlying32 sz5 zero5 rfl (by simp [oneV]) ⟨rfl, by decide⟩ (fun g3 v3 c3 hv3 hc3 ho3 => ?_)
    subst hv3 hc3
    refine j_append 0 Tryz.underlying32 Tryz.underlying32 (.inr ⟨_, rfl⟩) sb5 zero5 rfl ho3 rfl (src_sl (rd_cells hcl (by simp)) (by rw [ints_length, Nat.mul_one])) ints_one ⟨(by rw [ints_length]; simp only [List.length_nil]; omega), (by decide)⟩ (fun v4 c4 ho4 => ?_)
    rw [List.nil_append] at ho4
    refine j_subl (S' := [c4]) (by repeat first | exact slR _ | exact slN _ | apply slC | apply slD) ?_
    refine j_ret_con (vs := [_]) (fun w' hw' => ⟨rfl, trivial⟩) ?_
    exact ⟨c4, rfl, ho4⟩
theorem readO_con (f : FM) (B : Nat) (n : List UInt8) (w : World) (hin : In w f.heap) (hok : f.Ok B) (hn : strOk n) (x : FL) (hx : x ∈ f.now.fs) (hlk : alook f.now.ml n = some (x.g, x.id)) : Con Tryz.prog 16 [f.ptr, .string (bs n)] w [] fun u S' => ∃ (v : Value) (c : SH), u = .tuple #[v, .int .i64 0] ∧ S' = [c] ∧ Sx.Own 5 1 (ints x.xs) v c := by
  refine con_of_tree mix Tryz.func16 T16_ok (by kernel_rfl) ?_
  unfold T16
  obtain ⟨xA, xc, hxv, hxl⟩ := hok.raw.form x hx
  refine j_q (qs_ac) ?_
  refine j_q (qs_ac) ?_
  refine j_q (qs_pnil Tryz.underlying25 rfl) ?_
  refine j_g rfl (fun hb => qs_mt rfl) ?_
  refine j_g rfl (fun hb => qs_nil (gd_eq hb)) ?_
  refine j_g rfl (fun hb => qs_field Tryz.underlying52 rfl sz48 (by decide) (gd_eq hb)) ?_
  refine j_g rfl (fun hb => qs_loadO (rdo_base (FM.in_gf hin) (by simp)) Tryz.underlying48 rfl (gd_eq hb) rfl) ?_
  refine j_g rfl (fun hb => qs_pnil Tryz.underlying48 (gd_eq hb)) ?_
  refine j_q (qs_or rfl rfl) ?_
  refine j_g rfl (fun hb => qs_mt rfl) ?_
  refine j_g rfl (fun hb => qs_nil (gd_eq hb)) ?_
  refine j_g rfl (fun hb => qs_field Tryz.underlying52 rfl sz48 (by decide) (gd_eq hb)) ?_
  refine j_g rfl (fun hb => qs_loadO (rdo_base (FM.in_gf hin) (by simp)) Tryz.underlying48 rfl (gd_eq hb) rfl) ?_
  refine j_g rfl (fun hb => qs_nil (gd_eq hb)) ?_
  refine j_g rfl (fun hb => qs_field Tryz.underlying69 rfl sz67 (by decide) (gd_eq hb)) ?_
  refine j_g rfl (fun hb => qs_loadO (rdo_base (SM.in_gs (FM.in_now hin)) (by simp)) Tryz.underlying67 rfl (gd_eq hb) rfl) ?_
  refine j_g rfl (fun hb => qs_mt rfl) ?_
  refine j_g rfl (fun hb => qs_lookupR (key := n) strKey (rdo_base (SM.in_gm (FM.in_now hin)) (by simp)) Tryz.underlying67 zv63 (gd_eq hb) (gd_eq hb) hok.raw.map hn) ?_
  rw [mlook_map fptr, getD_fptr, hlk, Option.map_some]
  refine j_g rfl (fun hb => qs_pnil Tryz.underlying66 (gd_eq hb)) ?_
  refine j_q (qs_or rfl rfl) ?_
  refine j_cond rfl (fun hc0 => ?_) (fun hc0 => ?_)
  · skip
    simp [gd] at hc0
  · skip
    refine j_q (qs_nil rfl) ?_
    refine j_q (qs_field Tryz.underlying52 rfl sz48 (by decide) rfl) ?_
    refine j_q (qs_loadO (rdo_base (FM.in_gf hin) (by simp)) Tryz.underlying48 rfl rfl rfl) ?_
    refine j_q (qs_nil rfl) ?_
    refine j_q (qs_field Tryz.underlying69 rfl sz67 (by decide) rfl) ?_
    refine j_q (qs_loadO (rdo_base (SM.in_gs (FM.in_now hin)) (by simp)) Tryz.underlying67 rfl rfl rfl) ?_
    refine j_q (qs_lookupR (key := n) strKey (rdo_base (SM.in_gm (FM.in_now hin)) (by simp)) Tryz.underlying67 zv63 rfl rfl hok.raw.map hn) ?_
    rw [mlook_map fptr, getD_fptr, hlk, Option.map_some]
    refine j_q (qs_nil rfl) ?_
    refine j_q (qs_field Tryz.underlying75 rfl sz32 (by decide) rfl) ?_
    refine j_q (qs_loadO (rdo_base (SM.in_f (FM.in_now hin) hx) (by simp)) Tryz.underlying32 rfl rfl rfl) ?_
    refine j_call0 ent26 rfl rfl rfl (fun w' hw' => cloneO_con x.v x.xs w' (br_rv (hok.vw x hx).rv (in_keep0 (FM.in_P hin) hw')) hxl) (fun u S2 hu1 => ?_)
    obtain ⟨Q, rfl, hrv⟩ := hu1
    refine j_subl (S' := [Q]) (by repeat first | exact slR _ | exact slN _ | apply slC | apply slD) ?_
    refine j_q (qs_ac) ?_
    refine j_ret_con (vs := [_, _]) (fun w' hw' => ⟨rfl, rfl, trivial⟩) ?_
    exact ⟨_, Q, rfl, rfl, hrv⟩
theorem readRO_con (r : FR) (a : AF) (n : List UInt8) (w : World) (hin : In w r.heap) (hok : r.Ok a) (hn : strOk n) : Con Tryz.prog 16 [r.ptr, .string (bs n)] w [] fun u S' => ∃ (v : Value) (c : SH), u = .tuple #[v, .int .i64 (readE a.now n)] ∧ S' = [c] ∧ Sx.Own 5 1 (ints (contA a.now n)) v c := by
  cases h : alook a.now.nm n with
  | none =>
    refine (readZ_con r.fm a.pend.length n w hin (hok.fm (Nat.le_refl _)) hn (look_rep0 hok.now.raw hok.now.rep h)).mono (fun u S' hu => ?_)
    obtain ⟨rfl, rfl⟩ := hu
    refine ⟨.slice none 0 0, [], ?_, rfl, ?_⟩
    · unfold readE
      rw [if_pos h]
    · simp only [contA, h]
      exact own_nil
  | some i =>
    obtain ⟨f, hf, hl, hi, hx⟩ := look_rep hok.now.raw hok.now.rep h
    refine (readO_con r.fm a.pend.length n w hin (hok.fm (Nat.le_refl _)) hn f hf hl).mono (fun u S' hu => ?_)
    obtain ⟨v, Q, rfl, rfl, hv⟩ := hu
    refine ⟨v, Q, ?_, rfl, ?_⟩
    · unfold readE
      rw [if_neg (by rw [h]; simp)]
    · simp only [contA, h]
      rw [← hx]
      exact hv
end Go.Proofs.YtckpegkpdepokaaGreat
/-! Rg0 -/
namespace Go.Proofs.YtckpegkpdepokaaGreat
open Go Go.Sx Go.MapKept Go.WideMaps Go.Maps
set_option maxRecDepth 100000
set_option linter.unusedVariables false
set_option linter.unusedSimpArgs false
set_option linter.unusedSectionVars false
theorem less_iff {x y : List UInt8} {r : Bool} (h : Op.bytesLess x y = r) : (x < y) ↔ r = true := by
  rw [← h, bytesLess_eq, decide_eq_true_eq]
section
variable {α β : Type}
abbrev NL (α : Type) := List (List UInt8 × α)
def Rise (nm : NL α) : Prop := nm.Pairwise fun x y => x.1 < y.1
structure Spot (nm : NL α) (n : List UInt8) (k : Nat) : Prop where
  le : k ≤ nm.length
  lo : ∀ p ∈ nm.take k, p.1 < n
  hi : ∀ p ∈ nm.drop k, ¬ p.1 < n
def setN (nm : NL α) (n : List UInt8) (v : α) : NL α := nm.filter (fun p => decide (p.1 < n)) ++ (n, v) :: nm.filter (fun p => decide (n < p.1))
theorem lt_irr (n : List UInt8) : ¬ n < n := List.lt_irrefl n
theorem lt_tri {a b : List UInt8} (h1 : ¬ a < b) (h2 : a ≠ b) : b < a := by
  rcases List.le_iff_lt_or_eq.1 (List.not_lt.1 h1) with h | h
  · exact h
  · exact absurd h.symm h2
theorem Rise.nd {nm : NL α} (h : Rise nm) : (nm.map Prod.fst).Nodup := by
  unfold List.Nodup
  rw [List.pairwise_map]
  exact h.imp fun hab e => by rw [e] at hab; exact lt_irr _ hab
theorem filt_all {nm : NL α} {p : List UInt8 × α → Bool} (h : ∀ q ∈ nm, p q = true) : nm.filter p = nm := List.filter_eq_self.2 h
theorem filt_none {nm : NL α} {p : List UInt8 × α → Bool} (h : ∀ q ∈ nm, ¬ p q = true) : nm.filter p = [] := List.filter_eq_nil_iff.2 h
theorem Spot.low {nm : NL α} {n : List UInt8} {k : Nat} (h : Spot nm n k) : nm.filter (fun p => decide (p.1 < n)) = nm.take k := by
  conv => lhs; rw [← List.take_append_drop k nm]
  rw [List.filter_append, filt_all (fun q hq => by simpa using h.lo q hq), filt_none (fun q hq => by simpa using h.hi q hq), List.append_nil]
theorem drop_hit {nm : NL α} {k : Nat} {p : List UInt8 × α} (h : nm[k]? = some p) : nm.drop k = p :: nm.drop (k + 1) := by
  obtain ⟨hlt, rfl⟩ := List.getElem?_eq_some_iff.1 h
  exact List.drop_eq_getElem_cons hlt
theorem Spot.hit {nm : NL α} (hr : Rise nm) {n : List UInt8} {k : Nat} (h : Spot nm n k) {p : List UInt8 × α} (hp : nm[k]? = some p) (hn : p.1 = n) : nm.filter (fun p => decide (n < p.1)) = nm.drop (k + 1) := by
  conv => lhs; rw [← List.take_append_drop k nm]
  have hd := drop_hit hp
  have hr2 : Rise (nm.drop k) := List.Pairwise.sublist (List.drop_sublist _ _) hr
  rw [hd] at hr2 ⊢
  obtain ⟨h1, h2⟩ := List.pairwise_cons.1 hr2
  rw [List.filter_append, filt_none (fun q hq => by simpa using fun h3 => lt_irr _ (List.lt_trans (h.lo q hq) h3)), List.nil_append, List.filter_cons_of_neg (by simp [hn, lt_irr]), filt_all (fun q hq => by simpa [← hn] using h1 q hq)]
theorem Spot.miss {nm : NL α} (hr : Rise nm) {n : List UInt8} {k : Nat} (h : Spot nm n k) (hn : ∀ q ∈ nm, q.1 ≠ n) : nm.filter (fun p => decide (n < p.1)) = nm.drop k := by
  conv => lhs; rw [← List.take_append_drop k nm]
  rw [List.filter_append, filt_none (fun q hq => by simpa using fun h3 => lt_irr _ (List.lt_trans (h.lo q hq) h3)), List.nil_append, filt_all (fun q hq => by simpa using lt_tri (h.hi q hq) (hn q (List.mem_of_mem_drop hq)))]
theorem Spot.set_hit {nm : NL α} (hr : Rise nm) {n : List UInt8} {k : Nat} (h : Spot nm n k) {p : List UInt8 × α} (hp : nm[k]? = some p) (hn : p.1 = n) (v : α) : setN nm n v = nm.take k ++ (n, v) :: nm.drop (k + 1) := by
  unfold setN
  rw [h.low, h.hit hr hp hn]
theorem Spot.set_miss {nm : NL α} (hr : Rise nm) {n : List UInt8} {k : Nat} (h : Spot nm n k) (hn : ∀ q ∈ nm, q.1 ≠ n) (v : α) : setN nm n v = nm.take k ++ (n, v) :: nm.drop k := by
  unfold setN
  rw [h.low, h.miss hr hn]
theorem Spot.del {nm : NL α} (hr : Rise nm) {n : List UInt8} {k : Nat} (h : Spot nm n k) {p : List UInt8 × α} (hp : nm[k]? = some p) (hn : p.1 = n) : mdel nm n = nm.take k ++ nm.drop (k + 1) := by
  have hd := drop_hit hp
  have hr2 : Rise (nm.drop k) := List.Pairwise.sublist (List.drop_sublist _ _) hr
  rw [hd] at hr2
  obtain ⟨h1, h2⟩ := List.pairwise_cons.1 hr2
  unfold mdel
  conv => lhs; rw [← List.take_append_drop k nm]
  rw [hd, List.filter_append, List.filter_cons_of_neg (by simp [hn]), filt_all (nm := nm.take k) (fun q hq => by simpa using fun e : q.1 = n => lt_irr n (by have := h.lo q hq; rwa [e] at this)), filt_all (nm := nm.drop (k + 1)) (fun q hq => by simpa using fun e : q.1 = n => lt_irr n (by have := h1 q hq; rwa [e, hn] at this))]
theorem Spot.iff {nm : NL α} (hr : Rise nm) {n : List UInt8} {k : Nat} (h : Spot nm n k) : (∃ p, nm[k]? = some p ∧ p.1 = n) ↔ (alook nm n).isSome = true := by
  constructor
  · rintro ⟨⟨a, v⟩, hp, rfl⟩
    rw [alook_of_mem hr.nd (List.mem_of_getElem? hp)]
    rfl
  · intro h1
    obtain ⟨v, hv⟩ := Option.isSome_iff_exists.1 h1
    have hm := alook_mem hv
    rw [← List.take_append_drop k nm] at hm
    rcases List.mem_append.1 hm with hm | hm
    · exact absurd (h.lo _ hm) (lt_irr n)
    · obtain ⟨i, hi, he⟩ := List.getElem_of_mem hm
      rw [List.getElem_drop] at he
      cases i with
      | zero => exact ⟨(n, v), by rw [← he]; exact List.getElem?_eq_getElem _, rfl⟩
      | succ i =>
        exfalso
        rw [List.length_drop] at hi
        have hk : k < nm.length := by omega
        have h2 := List.pairwise_iff_getElem.1 hr k (k + (i + 1)) hk (by omega) (by omega)
        rw [he] at h2
        exact h.hi nm[k] (by rw [List.drop_eq_getElem_cons hk]; exact List.mem_cons_self ..) h2
theorem Spot.val {nm : NL α} (hr : Rise nm) {n : List UInt8} {k : Nat} (h : Spot nm n k) {p : List UInt8 × α} (hp : nm[k]? = some p) (hn : p.1 = n) : alook nm n = some p.2 := by
  subst hn
  exact alook_of_mem hr.nd (List.mem_of_getElem? hp)
theorem rise_set {nm : NL α} (hr : Rise nm) (n : List UInt8) (v : α) : Rise (setN nm n v) := by
  unfold setN
  refine List.pairwise_append.2 ⟨List.Pairwise.sublist List.filter_sublist hr, List.pairwise_cons.2 ⟨fun q hq => ?_, List.Pairwise.sublist List.filter_sublist hr⟩, fun x hx y hy => ?_⟩
  · simpa using (List.mem_filter.1 hq).2
  · have h1 : x.1 < n := by simpa using (List.mem_filter.1 hx).2
    rcases List.mem_cons.1 hy with rfl | hy
    · exact h1
    · exact List.lt_trans h1 (by simpa using (List.mem_filter.1 hy).2)
theorem rise_del {nm : NL α} (hr : Rise nm) (n : List UInt8) : Rise (mdel nm n) := List.Pairwise.sublist List.filter_sublist hr
theorem set_perm (nm : NL α) (n : List UInt8) (v : α) : (setN nm n v).Perm ((n, v) :: mdel nm n) := by
  unfold setN
  refine List.perm_middle.trans (List.Perm.cons _ ?_)
  unfold mdel
  induction nm with
  | nil => exact .nil
  | cons q nm ih =>
    rw [List.filter_cons, List.filter_cons, List.filter_cons]
    by_cases h1 : q.1 < n
    · have h2 : ¬ n < q.1 := fun h => lt_irr _ (List.lt_trans h1 h)
      have h3 : q.1 ≠ n := fun e => by rw [e] at h1; exact lt_irr _ h1
      rw [if_pos (by simpa using h1), if_neg (by simpa using h2), if_pos (by simpa using h3)]
      exact List.Perm.cons _ ih
    · by_cases h2 : n < q.1
      · have h3 : q.1 ≠ n := fun e => by rw [e] at h2; exact lt_irr _ h2
        rw [if_neg (by simpa using h1), if_pos (by simpa using h2), if_pos (by simpa using h3)]
        exact List.perm_middle.trans (List.Perm.cons _ ih)
      · have h3 : q.1 = n := Classical.byContradiction fun h => h2 (lt_tri h1 h)
        rw [if_neg (by simpa using h1), if_neg (by simpa using h2), if_neg (by simpa using h3)]
        exact ih
theorem set_map (f : α → β) (nm : NL α) (n : List UInt8) (v : α) : (setN nm n v).map (fun p => (p.1, f p.2)) = setN (nm.map fun p => (p.1, f p.2)) n (f v) := by
  unfold setN
  rw [List.map_append, List.map_cons, List.filter_map, List.filter_map]
  rfl
theorem set_fst (nm : NL α) (n : List UInt8) (v : α) : ∀ q ∈ setN nm n v, q = (n, v) ∨ q ∈ nm := fun q hq => by
  rcases List.mem_append.1 hq with hq | hq
  · exact .inr (List.mem_filter.1 hq).1
  · rcases List.mem_cons.1 hq with hq | hq
    · exact .inl hq
    · exact .inr (List.mem_filter.1 hq).1
theorem set_len (nm : NL α) (hr : Rise nm) (n : List UInt8) (v : α) : (setN nm n v).length = nm.length + (if alook nm n = none then 1 else 0) := by
  rw [(set_perm nm n v).length_eq, List.length_cons]
  split
  · rename_i h
    unfold mdel
    rw [filt_all (fun q hq => by simpa using alook_none.1 h q hq)]
  · rename_i h
    obtain ⟨i, hi⟩ := Option.ne_none_iff_exists'.1 h
    obtain ⟨A, B, e, hA⟩ := alook_split hi
    have hn := hr.nd
    rw [e] at hn ⊢
    rw [List.map_append, List.map_cons, List.nodup_append, List.nodup_cons] at hn
    have hb : ∀ q ∈ B, q.1 ≠ n := fun q hq e => hn.2.1.1 (by rw [← e]; exact List.mem_map.2 ⟨q, hq, rfl⟩)
    have e1 : mdel (A ++ (n, i) :: B) n = A ++ B := by
      unfold mdel
      rw [List.filter_append, List.filter_cons_of_neg (by simp), filt_all (fun q hq => by simpa using hA q hq), filt_all (fun q hq => by simpa using hb q hq)]
    rw [e1]
    simp only [List.length_append, List.length_cons]
    omega
theorem spot_of {nm : NL α} {n : List UInt8} {k : Nat} (hle : k ≤ nm.length) (h1 : ∀ i, i < k → (nm.map Prod.fst).getD i [] < n) (h2 : ∀ i, k ≤ i → i < nm.length → ¬ (nm.map Prod.fst).getD i [] < n) : Spot nm n k := by
  have hg : ∀ i (hi : i < nm.length), (nm.map Prod.fst).getD i [] = (nm[i]'hi).1 := fun i hi => by
    rw [List.getD_eq_getElem?_getD, List.getElem?_map, List.getElem?_eq_getElem hi]
    rfl
  refine ⟨hle, fun p hp => ?_, fun p hp => ?_⟩
  · obtain ⟨i, hi, rfl⟩ := List.getElem_of_mem hp
    rw [List.length_take] at hi
    rw [List.getElem_take, ← hg i (by omega)]
    exact h1 i (by omega)
  · obtain ⟨i, hi, rfl⟩ := List.getElem_of_mem hp
    rw [List.length_drop] at hi
    rw [List.getElem_drop, ← hg (k + i) (by omega)]
    exact h2 (k + i) (by omega) (by omega)
theorem rise_get {nm : NL α} (hr : Rise nm) {i j : Nat} (hij : i < j) (hj : j < nm.length) : (nm.map Prod.fst).getD i [] < (nm.map Prod.fst).getD j [] := by
  have hg : ∀ i (hi : i < nm.length), (nm.map Prod.fst).getD i [] = (nm[i]'hi).1 := fun i hi => by
    rw [List.getD_eq_getElem?_getD, List.getElem?_map, List.getElem?_eq_getElem hi]
    rfl
  rw [hg i (by omega), hg j hj]
  exact List.pairwise_iff_getElem.1 hr i j (by omega) hj hij
end
theorem ins_eq {xs rest : List Value} {z y : Value} {i n : Nat} (hn : xs.length = n) (hi : i ≤ n) : (((xs ++ [z]) ++ rest).take (i + 1) ++ (((xs ++ [z]).drop i).take (n - i)) ++ ((xs ++ [z]) ++ rest).drop (i + 1 + (n - i))).set i y = (xs.take i ++ y :: xs.drop i) ++ rest := by
  subst hn
  have e1 : ((xs ++ [z]).drop i).take (xs.length - i) = xs.drop i := by
    rw [List.drop_append_of_le_length hi, List.take_append_of_le_length (by rw [List.length_drop]; exact Nat.le_refl _), List.take_of_length_le (by rw [List.length_drop]; exact Nat.le_refl _)]
  have e2 : ((xs ++ [z]) ++ rest).drop (i + 1 + (xs.length - i)) = rest := by
    rw [show i + 1 + (xs.length - i) = (xs ++ [z]).length by simp; omega, List.drop_left]
  have e3 : ((xs ++ [z]) ++ rest).take (i + 1) = xs.take i ++ [((xs ++ [z]) ++ rest)[i]'(by simp; omega)] := by
    rw [List.take_succ_eq_append_getElem (by simp; omega)]
    congr 1
    rw [List.take_append_of_le_length (by simp; omega), List.take_append_of_le_length hi]
  rw [e1, e2, e3, List.append_assoc, List.append_assoc, List.set_append_right _ _ (by rw [List.length_take]; omega), List.length_take, Nat.min_eq_left hi, Nat.sub_self]
  simp
theorem own_set {e : TypeId} {xs : List Value} {n cap g i : Nat} {rest : List Value} {fz : Nat × Nat} {y : Value} (h1 : xs.length = n * 1) (h2 : (xs ++ rest).length = cap * 1) (h3 : n ≤ cap) (h4 : ∀ j, j < (xs ++ rest).length → ¬ (fz.1 ≤ j ∧ j < fz.2)) (hi : i < n) : Sx.Own e 1 (xs.set i y) (.slice (some ⟨g, 0, none⟩) n cap) [(g, .cells ((xs ++ rest).set i y).toArray e fz)] := by
  rw [List.set_append_left _ _ (by omega)]
  exact own_mk (by rw [List.length_set]; exact h1) (by simpa using h2) h3 (by simpa using h4)
section
variable {P : Program} {R : Ending → World → Prop} {env : Env} {b : Base} {S : List SH} {B : JB} {T : Tree} {ty : TypeId}
theorem j_copyZ {t t' e : TypeId} {x y : Operand} {g off dn cap m : Nat} {l news : List Value} {e' : TypeId} {fz : Nat × Nat} (k : Nat) (ht : P.underlying t = some (.slice e)) (hz : (P.info? e).map (·.size) = some 1) (hx : ev env x = .slice (if cap = off then some ⟨g, 0, none⟩ else (some (⟨g, 0, none⟩ : Addr)).map (·.add (off * 1))) dn (cap - off)) (hd : dn ≤ cap - off) (hy : Src b S 1 (ev env y) m news) (hk : S[k]? = some [(g, .cells l.toArray e' fz)])
    (hone : ∀ u ∈ news, oneV u = true) (hi : off + dn ≤ l.length) (hf : ∀ j, j < l.length → ¬ (fz.1 ≤ j ∧ j < fz.2))
    (h : J P R T (.int .i64 (min m dn : Nat) :: env) (S.set k [(g, .cells (l.take off ++ news.take (min m dn) ++ l.drop (off + min m dn)).toArray e' fz)]) b B) :
    J P R (.op (O (.call ⟨.builtin .copy, #[x, y], #[t, t']⟩) ty) T) env S b B := by
  by_cases hc : cap = off
  · rw [if_pos hc] at hx
    obtain rfl : dn = 0 := by omega
    refine j_copy (off := 0) k ht hz hx hy hk hone (by omega) (fun j _ h2 => by omega) ?_
    rw [show min m 0 = 0 by omega] at h ⊢
    simp only [List.take_zero, List.append_nil, Nat.add_zero, List.take_append_drop] at h ⊢
    exact h
  · rw [if_neg hc] at hx
    have e1 : (some (⟨g, 0, none⟩ : Addr)).map (·.add (off * 1)) = some ⟨g, off, none⟩ := by
      rw [Option.map_some, Nat.mul_one, add_off, Nat.zero_add]
    rw [e1] at hx
    exact j_copy k ht hz hx hy hk hone hi (fun j _ h2 => hf j (by omega)) h
end
end Go.Proofs.YtckpegkpdepokaaGreat
/-! Rg1 -/
namespace Go.Proofs.YtckpegkpdepokaaGreat
open Go Go.Sx
set_option maxRecDepth 100000
set_option maxHeartbeats 4000000
set_option linter.unusedVariables false
set_option linter.unusedSimpArgs false
attribute [local irreducible] J JQ QS Con W opW
open Go.MapKept Go.WideMaps Go.Maps
structure RFl where
  g : Nat
  id : Nat
  v : Value
  xs : List UInt8
def RFl.h (f : RFl) : Nat × Obj := (f.g, .cells [f.v].toArray 100 (0, 0))
structure RM where
  gs : Nat
  nv : Value
  nc : SH
  fv : Value
  fc : SH
  nm : NL (Nat × Nat)
  fs : List RFl
abbrev rmcells (s : RM) : List Value := [s.nv, s.fv]
abbrev RM.sobj (s : RM) : Obj := .cells (rmcells s).toArray 57 (0, 0)
def RM.heap (s : RM) : SH := [(s.gs, s.sobj)] ++ s.nc ++ s.fc ++ s.fs.map RFl.h
abbrev RM.ptr (s : RM) : Value := .pointer (some ⟨s.gs, 0, none⟩)
abbrev RM.ns (s : RM) : List (List UInt8) := s.nm.map Prod.fst
def RM.ps (s : RM) : List Value := s.nm.map fun q => fptr q.2
structure RM.Raw (s : RM) : Prop where
  on : Sx.Own 9 1 (strs s.ns) s.nv s.nc
  ow : Sx.Own 98 1 s.ps s.fv s.fc
  rise : Rise s.nm
  ids : (s.fs.map RFl.id).Nodup
  gnd : (s.fs.map RFl.g).Nodup
  has : ∀ q ∈ s.nm, ∃ f ∈ s.fs, f.g = q.2.1 ∧ f.id = q.2.2
  ok : ∀ q ∈ s.nm, strOk q.1
  le : s.nm.length ≤ 100000
abbrev RM.parts (s : RM) : List SH := [[(s.gs, s.sobj)], s.nc, s.fc, s.fs.map RFl.h]
theorem RM.split (s : RM) : ([s.heap] : List SH).flatten.Perm s.parts.flatten := by simp [RM.heap, RM.parts]
theorem RM.in_gs {s : RM} {w : World} (h : In w s.heap) : w.heap[s.gs]? = some s.sobj := h (s.gs, s.sobj) (by simp [RM.heap])
theorem RM.in_f {s : RM} {w : World} (h : In w s.heap) {f : RFl} (hf : f ∈ s.fs) : w.heap[f.g]? = some f.h.2 := h f.h (by unfold RM.heap; exact List.mem_append_right _ (List.mem_map.2 ⟨f, hf, rfl⟩))
theorem RM.rn {s : RM} {w : World} (hr : s.Raw) (h : In w s.heap) : RSl w s.nv (strs s.ns) := rsl_in hr.on (fun q hq => h q (by simp [RM.heap, hq]))
theorem RM.rf {s : RM} {w : World} (hr : s.Raw) (h : In w s.heap) : RSl w s.fv s.ps := rsl_in hr.ow (fun q hq => h q (by simp [RM.heap, hq]))
theorem RM.ns_len (s : RM) : s.ns.length = s.nm.length := List.length_map ..
theorem RM.ps_len (s : RM) : s.ps.length = s.nm.length := List.length_map ..
theorem rdst_at {s : RM} {i : Nat} {p : List UInt8 × (Nat × Nat)} (h : s.nm[i]? = some p) : s.ps[i]? = some (fptr p.2) := by
  unfold RM.ps
  rw [List.getElem?_map, h]
  rfl
theorem ns_at {s : RM} {i : Nat} {p : List UInt8 × (Nat × Nat)} (h : s.nm[i]? = some p) : s.ns.getD i [] = p.1 := by
  rw [List.getD_eq_getElem?_getD, List.getElem?_map, h]
  rfl
theorem fs_of {s : RM} (hr : s.Raw) {f : RFl} (hf : f ∈ s.fs) {x : RFl} (hx : x ∈ s.fs) (hg : x.g = f.g) : x = f := by
  obtain ⟨a, b, hab⟩ := List.append_of_mem hf
  have h := hr.gnd
  rw [hab] at h hx
  rw [List.map_append, List.map_cons, List.nodup_append, List.nodup_cons] at h
  rcases List.mem_append.1 hx with hx | hx
  · exact absurd hg (h.2.2 x.g (List.mem_map.2 ⟨x, hx, rfl⟩) f.g (by simp))
  · rcases List.mem_cons.1 hx with hx | hx
    · exact hx
    · exact absurd (List.mem_map.2 ⟨x, hx, hg⟩) h.2.1.1
theorem fs_ofi {s : RM} (hr : s.Raw) {f : RFl} (hf : f ∈ s.fs) {x : RFl} (hx : x ∈ s.fs) (hg : x.id = f.id) : x = f := by
  obtain ⟨a, b, hab⟩ := List.append_of_mem hf
  have h := hr.ids
  rw [hab] at h hx
  rw [List.map_append, List.map_cons, List.nodup_append, List.nodup_cons] at h
  rcases List.mem_append.1 hx with hx | hx
  · exact absurd hg (h.2.2 x.id (List.mem_map.2 ⟨x, hx, rfl⟩) f.id (by simp))
  · rcases List.mem_cons.1 hx with hx | hx
    · exact hx
    · exact absurd (List.mem_map.2 ⟨x, hx, hg⟩) h.2.1.1
def cntR (nm : NL (Nat × Nat)) (i : Nat) : Nat := (nm.filter fun q => decide (q.2.2 = i)).length
theorem cntR_le (nm : NL (Nat × Nat)) (i : Nat) : cntR nm i ≤ nm.length := List.length_filter_le _ _
theorem cntR_succ {nm : NL (Nat × Nat)} {j : Nat} {p : List UInt8 × (Nat × Nat)} (h : nm[j]? = some p) (i : Nat) : cntR (nm.take (j + 1)) i = cntR (nm.take j) i + if p.2.2 = i then 1 else 0 := by
  unfold cntR
  rw [List.take_add_one, h, Option.toList_some, List.filter_append, List.length_append]
  by_cases hx : p.2.2 = i
  · rw [if_pos hx, List.filter_cons_of_pos (by simpa using hx)]
    rfl
  · rw [if_neg hx, List.filter_cons_of_neg (by simpa using hx)]
    rfl
def gadr (o : Option (Nat × Nat)) : Value := .pointer (o.map fun p => ⟨p.1, 0, none⟩)
theorem rspot_con (s : RM) (n : List UInt8) (w : World) (hin : In w s.heap) (h : s.Raw) : Con Tryz.prog 83 [s.ptr, .string (bs n)] w [] fun u _ => ∃ k : Nat, u = .tuple #[.int .i64 (k : Int), .bool (alook s.nm n).isSome] ∧ Spot s.nm n k := by
  refine con_of_tree mix Tryz.func83 T83_ok (by kernel_rfl) ?_
  unfold T83
  obtain ⟨A, cap, hnv, hcap⟩ := rsl_form (RM.rn h hin)
  rw [strs_length, RM.ns_len] at hnv hcap
  have hrn := RM.rn h hin
  rw [hnv] at hrn
  have hle := h.le
  refine j_q (qs_ac) ?_
  refine j_q (qs_ac) ?_
  refine j_draw ?_
  refine jq_q (qs_nil rfl) ?_
  refine jq_q (qs_field Tryz.underlying57 rfl sz54 (by decide) rfl) ?_
  refine jq_q (qs_loadO (rdo_base (RM.in_gs hin) (by simp)) Tryz.underlying54 rfl rfl rfl) ?_
  refine jq_q (qs_lenl (n := s.nm.length) (A := A) (c := cap) Tryz.underlying54 hnv) ?_
  refine jq_q (qs_ac) ?_
  refine jq_nil ?_
  refine j_loop (fun m vs S' => ∃ lo hi : Nat, vs = [.int .i64 (lo : Int), .int .i64 (hi : Int)] ∧ S' = [[]] ∧ lo ≤ hi ∧ hi ≤ s.nm.length ∧ (∀ i, i < lo → s.ns.getD i [] < n) ∧ (∀ i, hi ≤ i → i < s.nm.length → ¬ s.ns.getD i [] < n) ∧ m = hi - lo) ⟨_, 0, s.nm.length, rfl, rfl, Nat.zero_le _, Nat.le_refl _, fun i h => by omega, fun i h h2 => by omega, rfl⟩ ?_
  rintro m vs S' hlen ⟨lo, hi, rfl, rfl, hlh, hhn, hlo, hhi, rfl⟩
  refine j_q (qs_lss rfl rfl) ?_
  refine j_cond rfl (fun hc0 => ?_) (fun hc0 => ?_)
  · skip
    have hlt : lo < hi := by
      simp only [bnA] at *
      omega
    obtain ⟨g, off, rfl, _, hcl⟩ := rsl_addr hrn (by rw [strs_length, RM.ns_len]; omega)
    refine j_q (qs_add64 rfl rfl (by first | omega | (simp only [bnA] at *; omega))) ?_
    refine j_q (qs_quo64 rfl rfl (by first | omega | (simp only [bnA] at *; omega)) (by first | omega | (simp only [bnA] at *; omega)) (by first | omega | (simp only [bnA] at *; omega))) ?_
    rw [show ((lo : Int) + (hi : Int)) / 2 = (((lo + hi) / 2 : Nat) : Int) by omega]
    refine j_q (qs_nil rfl) ?_
    refine j_q (qs_field Tryz.underlying57 rfl sz54 (by decide) rfl) ?_
    refine j_q (qs_loadO (rdo_base (RM.in_gs hin) (by simp)) Tryz.underlying54 rfl rfl rfl) ?_
    refine j_q (qs_ixn (g := g) (off := off) (i := (lo + hi) / 2) Tryz.underlying54 sz9 hnv rfl (by omega)) ?_
    refine j_q (qs_loadR (v := .string (bs (s.ns.getD ((lo + hi) / 2) []))) (a := ⟨g, off, none⟩) (i := (lo + hi) / 2) (rd_cells hcl (by simp)) Tryz.underlying9 rfl (by rw [add_off]; show Value.pointer (some ⟨g, off + ((lo + hi) / 2) * 1, none⟩) = _; rw [Nat.mul_one]) (strs_get (by rw [RM.ns_len]; omega))) ?_
    refine j_q (qs_slss rfl rfl) ?_
    refine j_cond rfl (fun hc1 => ?_) (fun hc1 => ?_)
    · skip
      have hl8 : s.ns.getD ((lo + hi) / 2) [] < n := (less_iff rfl).2 hc1
      refine j_q (qs_add64 rfl rfl (by first | omega | (simp only [bnA] at *; omega))) ?_
      refine j_back rfl ?_
      exact ⟨hi - ((lo + hi) / 2 + 1), by omega, (lo + hi) / 2 + 1, hi, rfl, rfl, by omega, by omega, fun i hi' => by
        by_cases h1 : i < (lo + hi) / 2
        · exact List.lt_trans (rise_get h.rise (by omega) (by omega)) hl8
        · obtain rfl : i = (lo + hi) / 2 := by omega
          exact hl8, hhi, rfl⟩
    · skip
      have hl8 : ¬ s.ns.getD ((lo + hi) / 2) [] < n := fun h => by rw [(less_iff rfl).1 h] at hc1; cases hc1
      refine j_back rfl ?_
      exact ⟨(lo + hi) / 2 - lo, by omega, lo, (lo + hi) / 2, rfl, rfl, by omega, by omega, hlo, fun i h1 h2 h3 => by
        by_cases h4 : i = (lo + hi) / 2
        · subst h4; exact hl8 h3
        · exact hl8 (List.lt_trans (rise_get h.rise (by omega) h2) h3), rfl⟩
  · skip
    obtain rfl : lo = hi := by
      simp only [bnA] at *
      omega
    have hA : decide ((lo : Int) < (s.nm.length : Int)) = true → ∃ g off, A = some ⟨g, off, none⟩ ∧ Cells w ⟨g, off, none⟩ (strs s.ns) ∧ lo < s.nm.length := fun hb => by
      have hb2 : lo < s.nm.length := by simpa using hb
      obtain ⟨g, off, h1, _, h2⟩ := rsl_addr hrn (by rw [strs_length, RM.ns_len]; omega)
      exact ⟨g, off, h1, h2, hb2⟩
    refine j_draw ?_
    refine jq_q (qs_nil rfl) ?_
    refine jq_q (qs_field Tryz.underlying57 rfl sz54 (by decide) rfl) ?_
    refine jq_q (qs_loadO (rdo_base (RM.in_gs hin) (by simp)) Tryz.underlying54 rfl rfl rfl) ?_
    refine jq_q (qs_lenl (n := s.nm.length) (A := A) (c := cap) Tryz.underlying54 hnv) ?_
    refine jq_q (qs_lss rfl rfl) ?_
    refine jq_g rfl (fun hb => qs_mt rfl) ?_
    refine jq_g rfl (fun hb => qs_nil (gd_eq hb)) ?_
    refine jq_g rfl (fun hb => qs_field Tryz.underlying57 rfl sz54 (by decide) (gd_eq hb)) ?_
    refine jq_g rfl (fun hb => qs_loadO (rdo_base (RM.in_gs hin) (by simp)) Tryz.underlying54 rfl (gd_eq hb) rfl) ?_
    refine jq_g rfl (fun hb => qs_mt rfl) ?_
    refine jq_g (v := .pointer (A.map (·.add (lo * 1)))) rfl (fun hb => by
      obtain ⟨g, off, rfl, hcl, hb2⟩ := hA hb
      rw [Option.map_some, add_off]
      exact qs_ixn (g := g) (off := off) (i := lo) Tryz.underlying54 sz9 ((gd_eq hb).trans hnv) (gd_eq hb) hb2) ?_
    refine jq_g (v := .string (bs (s.ns.getD lo []))) rfl (fun hb => by
      obtain ⟨g, off, rfl, hcl, hb2⟩ := hA hb
      exact qs_loadR (a := ⟨g, off, none⟩) (i := lo) (rd_cells hcl (by simp)) Tryz.underlying9 rfl ((gd_eq hb).trans (by rw [Option.map_some, Nat.mul_one])) (strs_get (by rw [RM.ns_len]; exact hb2))) ?_
    refine jq_g rfl (fun hb => qs_mt rfl) ?_
    refine jq_g rfl (fun hb => qs_seql (gd_eq hb) (gd_eq hb)) ?_
    refine jq_q (qs_and rfl rfl) ?_
    refine jq_nil ?_
    refine j_ret_con (vs := [_, _]) (fun w' hw' => ⟨rfl, rfl, trivial⟩) ?_
    have hsp : Spot s.nm n lo := spot_of (by omega) hlo hhi
    refine ⟨lo, ?_, hsp⟩
    have e : (decide ((lo : Int) < (s.nm.length : Int)) && (s.ns.getD lo [] == n)) = (alook s.nm n).isSome := by
      rw [Bool.eq_iff_iff, ← hsp.iff h.rise, Bool.and_eq_true, decide_eq_true_eq, beq_iff_eq]
      constructor
      · rintro ⟨h1, h2⟩
        have h3 : lo < s.nm.length := by omega
        exact ⟨s.nm[lo], List.getElem?_eq_getElem h3, by rw [← h2]; exact (ns_at (List.getElem?_eq_getElem h3)).symm⟩
      · rintro ⟨p, h1, h2⟩
        have h3 := (List.getElem?_eq_some_iff.1 h1).1
        exact ⟨by omega, by rw [ns_at h1, h2]⟩
    rw [← e]
    rfl
theorem rget_con (s : RM) (n : List UInt8) (w : World) (hin : In w s.heap) (h : s.Raw) : Con Tryz.prog 68 [s.ptr, .string (bs n)] w [] fun u _ => u = gadr (alook s.nm n) := by
  refine con_of_tree mix Tryz.func68 T68_ok (by kernel_rfl) ?_
  unfold T68
  obtain ⟨A, cap, hfv, hcap⟩ := rsl_form (RM.rf h hin)
  rw [RM.ps_len] at hfv hcap
  have hrf := RM.rf h hin
  rw [hfv] at hrf
  have hle := h.le
  refine j_q (qs_ac) ?_
  refine j_call0 ent83 rfl rfl rfl (fun w' hw' => rspot_con s n w' (in_keep hin hw') h) (fun u S2 hu => ?_)
  obtain ⟨k, rfl, hsp⟩ := hu
  refine j_subl (S' := [[]]) (by simp) ?_
  refine j_q (qs_ext rfl rfl) ?_
  refine j_q (qs_ext rfl rfl) ?_
  refine j_q (qs_not rfl) ?_
  refine j_cond rfl (fun hc0 => ?_) (fun hc0 => ?_)
  · skip
    have hl : alook s.nm n = none := by
      cases hx : alook s.nm n with
      | none => rfl
      | some p => rw [hx] at hc0; simp at hc0
    refine j_q (qs_ac) ?_
    refine j_ret_con (vs := [_]) (fun w' hw' => ⟨rfl, trivial⟩) ?_
    rw [hl]
    rfl
  · skip
    obtain ⟨p, hp, hpn⟩ := (hsp.iff h.rise).2 (by
      cases hx : alook s.nm n with
      | some p => rfl
      | none => rw [hx] at hc0; simp at hc0)
    have hk : k < s.nm.length := (List.getElem?_eq_some_iff.1 hp).1
    obtain ⟨g, off, rfl, _, hcl⟩ := rsl_addr hrf (by rw [RM.ps_len]; omega)
    refine j_q (qs_nil rfl) ?_
    refine j_q (qs_field Tryz.underlying57 rfl sz55 (by decide) rfl) ?_
    refine j_q (qs_loadO (rdo_base (RM.in_gs hin) (by simp)) Tryz.underlying55 rfl rfl rfl) ?_
    refine j_q (qs_ixn (g := g) (off := off) (i := k) Tryz.underlying55 sz98 hfv rfl hk) ?_
    refine j_q (qs_loadR (v := fptr p.2) (a := ⟨g, off, none⟩) (i := k) (rd_cells hcl (by simp)) Tryz.underlying98 rfl (by rw [add_off]; show Value.pointer (some ⟨g, off + k * 1, none⟩) = _; rw [Nat.mul_one]) (rdst_at hp)) ?_
    refine j_ret_con (vs := [_]) (fun w' hw' => ⟨rfl, trivial⟩) ?_
    rw [hsp.val h.rise hp hpn]
    rfl
theorem rnames_con (s : RM) (f : RFl) (w : World) (hin : In w s.heap) (h : s.Raw) (hf : f ∈ s.fs) : Con Tryz.prog 78 [s.ptr, .pointer (some ⟨f.g, 0, none⟩)] w [] fun u _ => u = .int .i64 (cntR s.nm f.id : Int) := by
  refine con_of_tree mix Tryz.func78 T78_ok (by kernel_rfl) ?_
  unfold T78
  obtain ⟨A, cap, hfv, hcap⟩ := rsl_form (RM.rf h hin)
  rw [RM.ps_len] at hfv hcap
  have hrf := RM.rf h hin
  rw [hfv] at hrf
  have hle := h.le
  refine j_q (qs_ac) ?_
  refine j_q (qs_ac) ?_
  refine j_q (qs_ac) ?_
  refine j_loop (fun m vs S' => ∃ i : Nat, vs = [.int .i64 (cntR (s.nm.take i) f.id : Int), .int .i64 (i : Int)] ∧ S' = [[]] ∧ i ≤ s.nm.length ∧ m = s.nm.length - i) ⟨_, 0, rfl, rfl, Nat.zero_le _, rfl⟩ ?_
  rintro m vs S' hlen ⟨i, rfl, rfl, hi, rfl⟩
  have hcle := Nat.le_trans (cntR_le (s.nm.take i) f.id) (List.length_take_le _ _)
  refine j_q (qs_nil rfl) ?_
  refine j_q (qs_field Tryz.underlying57 rfl sz55 (by decide) rfl) ?_
  refine j_q (qs_loadO (rdo_base (RM.in_gs hin) (by simp)) Tryz.underlying55 rfl rfl rfl) ?_
  refine j_q (qs_lenl (n := s.nm.length) (A := A) (c := cap) Tryz.underlying55 hfv) ?_
  refine j_q (qs_lss rfl rfl) ?_
  refine j_cond rfl (fun hc0 => ?_) (fun hc0 => ?_)
  · skip
    have hi1 : i < s.nm.length := by
      simp only [bnA] at *
      omega
    obtain ⟨g, off, rfl, _, hcl⟩ := rsl_addr hrf (by rw [RM.ps_len]; omega)
    obtain ⟨p, hp⟩ : ∃ p, s.nm[i]? = some p := ⟨_, List.getElem?_eq_getElem hi1⟩
    obtain ⟨x, hx, hxg, hxi⟩ := h.has p (List.mem_of_getElem? hp)
    refine j_q (qs_nil rfl) ?_
    refine j_q (qs_field Tryz.underlying57 rfl sz55 (by decide) rfl) ?_
    refine j_q (qs_loadO (rdo_base (RM.in_gs hin) (by simp)) Tryz.underlying55 rfl rfl rfl) ?_
    refine j_q (qs_ixn (g := g) (off := off) (i := i) Tryz.underlying55 sz98 hfv rfl hi1) ?_
    refine j_q (qs_loadR (v := fptr p.2) (a := ⟨g, off, none⟩) (i := i) (rd_cells hcl (by simp)) Tryz.underlying98 rfl (by rw [add_off]; show Value.pointer (some ⟨g, off + i * 1, none⟩) = _; rw [Nat.mul_one]) (rdst_at hp)) ?_
    refine j_q (qs_peq (A := some ⟨p.2.1, 0, none⟩) Tryz.underlying98 sz100 (by decide) rfl rfl (fun a' ha' => by
      injection ha' with ha'
      subst ha'
      rw [← hxg]
      exact ⟨_, _, rdo_base (RM.in_f hin hx) (by simp)⟩) ⟨_, _, rdo_base (RM.in_f hin hf) (by simp)⟩) ?_
    refine j_cond rfl (fun hc1 => ?_) (fun hc1 => ?_)
    · skip
      have he : p.2.2 = f.id := by
        have h1 : p.2.1 = f.g := by simpa using hc1
        rw [← hxi, fs_of h hf hx (hxg.trans h1)]
      refine j_q (qs_add64 rfl rfl (by first | omega | (simp only [bnA] at *; omega))) ?_
      refine j_q (qs_add64 rfl rfl (by first | omega | (simp only [bnA] at *; omega))) ?_
      refine j_back rfl ?_
      refine ⟨s.nm.length - (i + 1), by omega, i + 1, ?_, rfl, by omega, rfl⟩
      rw [cntR_succ hp, if_pos he]
      rfl
    · skip
      have he : ¬ p.2.2 = f.id := fun e => by
        have h1 : p.2.1 = f.g := by rw [← hxg, fs_ofi h hf hx (hxi.trans e)]
        rw [h1] at hc1
        simp at hc1
      refine j_q (qs_add64 rfl rfl (by first | omega | (simp only [bnA] at *; omega))) ?_
      refine j_back rfl ?_
      refine ⟨s.nm.length - (i + 1), by omega, i + 1, ?_, rfl, by omega, rfl⟩
      rw [cntR_succ hp, if_neg he]
      rfl
  · skip
    obtain rfl : i = s.nm.length := by
      simp only [bnA] at *
      omega
    refine j_ret_con (vs := [_]) (fun w' hw' => ⟨rfl, trivial⟩) ?_
    rw [List.take_length]
    rfl
end Go.Proofs.YtckpegkpdepokaaGreat
/-! Rg2 -/
namespace Go.Proofs.YtckpegkpdepokaaGreat
open Go Go.Sx
set_option maxRecDepth 100000
set_option maxHeartbeats 4000000
set_option linter.unusedVariables false
set_option linter.unusedSimpArgs false
attribute [local irreducible] J JQ QS Con W opW
open Go.MapKept Go.WideMaps Go.Maps
theorem ins_eq2 {xs rest : List Value} {z y : Value} {i n : Nat} (hn : xs.length = n) (hi : i ≤ n) : (((xs ++ [z]) ++ rest).take (i + 1) ++ ((((xs ++ [z]).take (n + 1)).drop i).take (min (n + 1 - i) (n + 1 - (i + 1)))) ++ ((xs ++ [z]) ++ rest).drop (i + 1 + min (n + 1 - i) (n + 1 - (i + 1)))).set (0 + i * 1) y = (xs.take i ++ y :: xs.drop i) ++ rest := by
  rw [List.take_of_length_le (l := xs ++ [z]) (i := n + 1) (by simp [hn]), show min (n + 1 - i) (n + 1 - (i + 1)) = n - i by omega, show 0 + i * 1 = i by omega]
  exact ins_eq hn hi
theorem set_at {α : Type} {nm : NL α} (hr : Rise nm) {n : List UInt8} {k : Nat} (h : Spot nm n k) {p : List UInt8 × α} (hp : nm[k]? = some p) (hn : p.1 = n) (v : α) : setN nm n v = nm.set k (n, v) := by
  rw [h.set_hit hr hp hn, List.set_eq_take_append_cons_drop, if_pos (List.getElem?_eq_some_iff.1 hp).1]
abbrev RM.put (s : RM) (n : List UInt8) (p : Nat × Nat) (nv : Value) (nc : SH) (fv : Value) (fc : SH) : RM := { s with nv := nv, nc := nc, fv := fv, fc := fc, nm := setN s.nm n p }
theorem put_hit_ns {s : RM} (h : s.Raw) {n : List UInt8} {k : Nat} (hs : Spot s.nm n k) {p : List UInt8 × (Nat × Nat)} (hp : s.nm[k]? = some p) (hn : p.1 = n) (v : Nat × Nat) : (setN s.nm n v).map Prod.fst = s.ns := by
  rw [set_at h.rise hs hp hn, List.map_set]
  have hk := (List.getElem?_eq_some_iff.1 hp).1
  have e : (n, v).1 = (s.nm.map Prod.fst)[k]'(by rw [List.length_map]; exact hk) := by
    rw [List.getElem_map]
    rw [(List.getElem?_eq_some_iff.1 hp).2]
    exact hn.symm
  rw [e]
  exact List.set_getElem_self _
theorem put_hit_ps {s : RM} (h : s.Raw) {n : List UInt8} {k : Nat} (hs : Spot s.nm n k) {p : List UInt8 × (Nat × Nat)} (hp : s.nm[k]? = some p) (hn : p.1 = n) (v : Nat × Nat) : ((setN s.nm n v).map fun q => fptr q.2) = s.ps.set k (fptr v) := by
  rw [set_at h.rise hs hp hn, List.map_set]
  rfl
theorem put_miss_ns {s : RM} (h : s.Raw) {n : List UInt8} {k : Nat} (hs : Spot s.nm n k) (hn : alook s.nm n = none) (v : Nat × Nat) : strs ((setN s.nm n v).map Prod.fst) = (strs s.ns).take k ++ .string (bs n) :: (strs s.ns).drop k := by
  rw [hs.set_miss h.rise (fun q hq => alook_none.1 hn q hq), List.map_append, List.map_cons, strs_append, List.map_take, List.map_drop, strs_take, strs_drop]
  rfl
theorem put_miss_ps {s : RM} (h : s.Raw) {n : List UInt8} {k : Nat} (hs : Spot s.nm n k) (hn : alook s.nm n = none) (v : Nat × Nat) : ((setN s.nm n v).map fun q => fptr q.2) = s.ps.take k ++ fptr v :: s.ps.drop k := by
  rw [hs.set_miss h.rise (fun q hq => alook_none.1 hn q hq), List.map_append, List.map_cons, List.map_take, List.map_drop]
  rfl
theorem raw_put {s : RM} (h : s.Raw) {n : List UInt8} (hn : strOk n) (hl : s.nm.length < 100000) {f : RFl} (hf : f ∈ s.fs) {nv : Value} {nc : SH} {fv : Value} {fc : SH} (h1 : Sx.Own 9 1 (strs ((setN s.nm n (f.g, f.id)).map Prod.fst)) nv nc) (h2 : Sx.Own 98 1 ((setN s.nm n (f.g, f.id)).map fun q => fptr q.2) fv fc) : (s.put n (f.g, f.id) nv nc fv fc).Raw := by
  refine ⟨h1, h2, rise_set h.rise _ _, h.ids, h.gnd, fun q hq => ?_, fun q hq => ?_, ?_⟩
  · rcases set_fst _ _ _ q hq with rfl | hq
    · exact ⟨f, hf, rfl, rfl⟩
    · exact h.has q hq
  · rcases set_fst _ _ _ q hq with rfl | hq
    · exact hn
    · exact h.ok q hq
  · show (setN s.nm n (f.g, f.id)).length ≤ _
    rw [set_len _ h.rise]
    split <;> omega
theorem del_ns {s : RM} (h : s.Raw) {n : List UInt8} {k : Nat} (hs : Spot s.nm n k) {p : List UInt8 × (Nat × Nat)} (hp : s.nm[k]? = some p) (hn : p.1 = n) : strs ((mdel s.nm n).map Prod.fst) = (strs s.ns).take k ++ ((strs s.ns).take s.nm.length).drop (k + 1) := by
  rw [hs.del h.rise hp hn, List.map_append, List.map_take, List.map_drop, strs_append, ← strs_take, ← strs_drop, List.take_of_length_le (l := strs s.ns) (i := s.nm.length) (by rw [strs_length, RM.ns_len]; exact Nat.le_refl _)]
theorem del_ps {s : RM} (h : s.Raw) {n : List UInt8} {k : Nat} (hs : Spot s.nm n k) {p : List UInt8 × (Nat × Nat)} (hp : s.nm[k]? = some p) (hn : p.1 = n) : ((mdel s.nm n).map fun q => fptr q.2) = s.ps.take k ++ (s.ps.take s.nm.length).drop (k + 1) := by
  rw [hs.del h.rise hp hn, List.map_append, List.map_take, List.map_drop, List.take_of_length_le (l := s.ps) (i := s.nm.length) (by rw [RM.ps_len]; exact Nat.le_refl _)]
  rfl
theorem raw_del {s : RM} (h : s.Raw) {n : List UInt8} {nv : Value} {nc : SH} {fv : Value} {fc : SH} (h1 : Sx.Own 9 1 (strs ((mdel s.nm n).map Prod.fst)) nv nc) (h2 : Sx.Own 98 1 ((mdel s.nm n).map fun q => fptr q.2) fv fc) : RM.Raw { s with nv := nv, nc := nc, fv := fv, fc := fc, nm := mdel s.nm n } := by
  have hsub : ∀ q ∈ mdel s.nm n, q ∈ s.nm := fun q hq => (List.mem_filter.1 hq).1
  exact ⟨h1, h2, rise_del h.rise n, h.ids, h.gnd, fun q hq => h.has q (hsub q hq), fun q hq => h.ok q (hsub q hq), Nat.le_trans (List.length_filter_le _ _) h.le⟩
theorem del_none {s : RM} {n : List UInt8} (hn : alook s.nm n = none) : mdel s.nm n = s.nm := by
  unfold mdel
  exact filt_all (fun q hq => by simpa using alook_none.1 hn q hq)
def RM.gc (s : RM) : RM := { s with fs := s.fs.filter fun f => decide (∃ q ∈ s.nm, q.2.2 = f.id) }
theorem RM.gc_sub (s : RM) : s.gc.heap.Sublist s.heap := by
  unfold RM.heap
  exact List.Sublist.append (List.Sublist.refl _) (List.Sublist.map _ List.filter_sublist)
theorem RM.gc_raw {s : RM} (h : s.Raw) : s.gc.Raw := by
  refine ⟨h.on, h.ow, h.rise, List.Nodup.sublist (List.Sublist.map _ List.filter_sublist) h.ids, List.Nodup.sublist (List.Sublist.map _ List.filter_sublist) h.gnd, fun q hq => ?_, h.ok, h.le⟩
  obtain ⟨f, hf, h1, h2⟩ := h.has q hq
  exact ⟨f, List.mem_filter.2 ⟨hf, decide_eq_true ⟨q, hq, h2.symm⟩⟩, h1, h2⟩
theorem rset_con (s : RM) (n : List UInt8) (f : RFl) (w : World) (h : s.Raw) (hn : strOk n) (hl9 : s.nm.length < 100000) (hf : f ∈ s.fs) : Con Tryz.prog 84 [s.ptr, .string (bs n), .pointer (some ⟨f.g, 0, none⟩)] w s.heap fun _ S' => ∃ (nv : Value) (nc : SH) (fv : Value) (fc : SH), S' = [(s.put n (f.g, f.id) nv nc fv fc).heap] ∧ (s.put n (f.g, f.id) nv nc fv fc).Raw := by
  refine con_of_tree mix Tryz.func84 T84_ok (by kernel_rfl) ?_
  unfold T84
  obtain ⟨n1, A1, cap1, hnv, hn1⟩ := own_form h.on (by decide)
  rw [strs_length, RM.ns_len, Nat.mul_one] at hn1
  subst hn1
  obtain ⟨n2, A2, cap2, hfv, hn2⟩ := own_form h.ow (by decide)
  rw [RM.ps_len, Nat.mul_one] at hn2
  subst hn2
  have hon := h.on
  have how := h.ow
  refine j_call0 ent83 rfl rfl rfl (fun w' hw' => rspot_con s n w' (in_own hw' 0 rfl) h) (fun u S2 hu => ?_)
  obtain ⟨k, rfl, hsp⟩ := hu
  refine j_subl (S' := [s.heap]) (List.sublist_append_right _ _) ?_
  refine j_perm (S' := [[(s.gs, s.sobj)], s.nc, s.fc, s.fs.map RFl.h]) s.split ?_
  have hkl := hsp.le
  have hle := h.le
  refine j_q (qs_ext rfl rfl) ?_
  refine j_q (qs_ext rfl rfl) ?_
  refine j_cond rfl (fun hc0 => ?_) (fun hc0 => ?_)
  · skip
    obtain ⟨p, hp, hpn⟩ := (hsp.iff h.rise).2 (by
      cases hx : alook s.nm n with
      | some p => rfl
      | none => rw [hx] at hc0; simp at hc0)
    have hk : k < s.nm.length := (List.getElem?_eq_some_iff.1 hp).1
    rw [hfv] at how
    obtain ⟨g2, rfl⟩ := own_addr how (by rw [RM.ps_len]; omega)
    obtain ⟨rest2, fz2, hfc, hg22, hg23, hg24, hg25⟩ := own_row how
    rw [hfc]
    refine j_q (qs_nil rfl) ?_
    refine j_q (qs_field Tryz.underlying57 rfl sz55 (by decide) rfl) ?_
    refine j_q (qs_load (l := rmcells s) 0 Tryz.underlying55 rfl rfl rfl rfl) ?_
    refine j_q (qs_ixn (g := g2) (off := 0) (i := k) Tryz.underlying55 sz98 hfv rfl hk) ?_
    refine j_store (l := s.ps ++ rest2) (i := 0 + k * 1) 2 sz98 rfl rfl rfl rfl (by rw [List.length_append, RM.ps_len]; omega) (hg25 _ (by rw [List.length_append, RM.ps_len]; omega)) ?_
    have hput := put_hit_ps h hsp hp hpn (f.g, f.id)
    have hns := put_hit_ns h hsp hp hpn (f.g, f.id)
    have ho9 : Sx.Own 98 1 (s.ps.set (0 + k * 1) (fptr (f.g, f.id))) (.slice (some ⟨g2, 0, none⟩) s.nm.length cap2) _ := own_set hg22 hg23 hg24 hg25 (show 0 + k * 1 < s.nm.length by omega)
    rw [show 0 + k * 1 = k by omega, ← hput] at ho9
    rw [show 0 + k * 1 = k by omega]
    refine j_perm (S' := [(s.put n (f.g, f.id) _ _ _ _).heap]) (RM.split (s.put n (f.g, f.id) _ _ _ _)).symm ?_
    refine j_ret_con (vs := []) (fun w' hw' => trivial) ?_
    refine ⟨_, _, _, _, rfl, raw_put h hn hl9 hf (by rw [hns]; exact h.on) ?_⟩
    rw [← hfv] at ho9
    exact ho9
  · skip
    have hl : alook s.nm n = none := by
      cases hx : alook s.nm n with
      | none => rfl
      | some p => rw [hx] at hc0; simp at hc0
    refine j_q (qs_nil rfl) ?_
    refine j_q (qs_field Tryz.underlying57 rfl sz54 (by decide) rfl) ?_
    refine j_q (qs_load (l := rmcells s) 0 Tryz.underlying54 rfl rfl rfl rfl) ?_
    refine j_lit (vs := [.string (bs _)]) Tryz.underlying54 sz9 zero9 rfl (by simp [oneV]) ⟨rfl, by decide⟩ (fun g11 v11 c11 hv11 hc11 ho11 => ?_)
    subst hv11 hc11
    refine j_append 2 Tryz.underlying54 Tryz.underlying54 (.inr ⟨_, rfl⟩) sb9 zero9 rfl h.on rfl (.inl ⟨_, _, rfl, own_rd ho11 0 rfl, rfl⟩) (by intro u hu; rw [List.mem_singleton] at hu; rw [hu]; rfl) ⟨(by rw [strs_length, RM.ns_len s]; simp only [List.length_singleton]; omega), (by decide)⟩ (fun v12 c12 ho12 => ?_)
    refine j_q (qs_nil rfl) ?_
    refine j_q (qs_field Tryz.underlying57 rfl sz54 (by decide) rfl) ?_
    obtain ⟨g12, n12, cap12, hv12⟩ := own_some ho12 (by simp)
    subst hv12
    obtain ⟨rest12, fz12, rfl, hg122, hg123, hg124, hg125⟩ := own_row ho12
    obtain rfl : s.nm.length + 1 = n12 := by
      rw [List.length_append, strs_length, RM.ns_len, Nat.mul_one] at hg122
      exact hg122
    refine j_store (l := rmcells s) (i := 0) 1 sz54 rfl rfl rfl rfl (by simp) (by simp) ?_
    refine j_q (qs_nil rfl) ?_
    refine j_q (qs_field Tryz.underlying57 rfl sz55 (by decide) rfl) ?_
    refine j_q (qs_load (l := [_, s.fv]) 1 Tryz.underlying55 rfl rfl rfl rfl) ?_
    refine j_lit (vs := [.pointer none]) Tryz.underlying55 sz98 zero98 rfl (by intro u hu; rw [List.mem_singleton] at hu; rw [hu]; rfl) ⟨rfl, by decide⟩ (fun g19 v19 c19 hv19 hc19 ho19 => ?_)
    subst hv19 hc19
    refine j_append 4 Tryz.underlying55 Tryz.underlying55 (.inr ⟨_, rfl⟩) sb98 zero98 rfl h.ow rfl (.inl ⟨_, _, rfl, own_rd ho19 0 rfl, rfl⟩) (by intro u hu; rw [List.mem_singleton] at hu; rw [hu]; rfl) ⟨(by rw [RM.ps_len s]; simp only [List.length_singleton]; omega), (by decide)⟩ (fun v20 c20 ho20 => ?_)
    refine j_q (qs_nil rfl) ?_
    refine j_q (qs_field Tryz.underlying57 rfl sz55 (by decide) rfl) ?_
    obtain ⟨g20, n20, cap20, hv20⟩ := own_some ho20 (by simp)
    subst hv20
    obtain ⟨rest20, fz20, rfl, hg202, hg203, hg204, hg205⟩ := own_row ho20
    obtain rfl : s.nm.length + 1 = n20 := by
      rw [List.length_append, RM.ps_len, Nat.mul_one] at hg202
      exact hg202
    have hcap12 := own_cap ho12
    have hcap20 := own_cap ho20
    have hone12 : ∀ u ∈ strs s.ns ++ [.string (bs [])], oneV u = true := fun u hu => (List.mem_append.1 hu).elim (fun h => strs_one u h) (fun h => by rw [List.mem_singleton] at h; rw [h]; rfl)
    have hone20 : ∀ u ∈ s.ps ++ [Value.pointer none], oneV u = true := fun u hu => (List.mem_append.1 hu).elim (fun h => by obtain ⟨q, _, rfl⟩ := List.mem_map.1 h; rfl) (fun h => by rw [List.mem_singleton] at h; rw [h]; rfl)
    refine j_store (l := [.slice (some ⟨g12, 0, none⟩) (s.nm.length + 1) cap12, s.fv]) (i := 1) 2 sz55 rfl rfl rfl rfl (by simp) (by simp) ?_
    refine j_draw ?_
    refine jq_q (qs_nil rfl) ?_
    refine jq_q (qs_field Tryz.underlying57 rfl sz54 (by decide) rfl) ?_
    refine jq_q (qs_load (l := [_, _]) 2 Tryz.underlying54 rfl rfl rfl rfl) ?_
    refine jq_q (qs_add64 rfl rfl (by first | omega | (simp only [bnA] at *; omega))) ?_
    refine jq_q (qs_cutl (a := k + 1) (z := s.nm.length + 1) Tryz.underlying54 sz9 rfl ⟨.i64, rfl⟩ rfl (by omega) (by omega)) ?_
    refine jq_q (qs_nil rfl) ?_
    refine jq_q (qs_field Tryz.underlying57 rfl sz54 (by decide) rfl) ?_
    refine jq_q (qs_load (l := [_, _]) 2 Tryz.underlying54 rfl rfl rfl rfl) ?_
    refine jq_q (qs_cutl (a := k) (z := s.nm.length + 1) Tryz.underlying54 sz9 rfl ⟨.i64, rfl⟩ rfl (by omega) (by omega)) ?_
    refine jq_nil ?_
    refine j_copyZ (off := k + 1) (cap := cap12) (dn := s.nm.length + 1 - (k + 1)) 3 Tryz.underlying54 sz9 rfl (by omega) (src_cut (a := k) (z := s.nm.length + 1) ho12 3 rfl (by omega) (Nat.le_refl _)) rfl (fun u hu => hone12 u (List.mem_of_mem_take (List.mem_of_mem_drop hu))) (by rw [hg123]; omega) hg125 ?_
    refine j_draw ?_
    refine jq_q (qs_nil rfl) ?_
    refine jq_q (qs_field Tryz.underlying57 rfl sz55 (by decide) rfl) ?_
    refine jq_q (qs_load (l := [_, _]) 2 Tryz.underlying55 rfl rfl rfl rfl) ?_
    refine jq_q (qs_add64 rfl rfl (by first | omega | (simp only [bnA] at *; omega))) ?_
    refine jq_q (qs_cutl (a := k + 1) (z := s.nm.length + 1) Tryz.underlying55 sz98 rfl ⟨.i64, rfl⟩ rfl (by omega) (by omega)) ?_
    refine jq_q (qs_nil rfl) ?_
    refine jq_q (qs_field Tryz.underlying57 rfl sz55 (by decide) rfl) ?_
    refine jq_q (qs_load (l := [_, _]) 2 Tryz.underlying55 rfl rfl rfl rfl) ?_
    refine jq_q (qs_cutl (a := k) (z := s.nm.length + 1) Tryz.underlying55 sz98 rfl ⟨.i64, rfl⟩ rfl (by omega) (by omega)) ?_
    refine jq_nil ?_
    refine j_copyZ (off := k + 1) (cap := cap20) (dn := s.nm.length + 1 - (k + 1)) 4 Tryz.underlying55 sz98 rfl (by omega) (src_cut (a := k) (z := s.nm.length + 1) ho20 4 rfl (by omega) (Nat.le_refl _)) rfl (fun u hu => hone20 u (List.mem_of_mem_take (List.mem_of_mem_drop hu))) (by rw [hg203]; omega) hg205 ?_
    refine j_q (qs_nil rfl) ?_
    refine j_q (qs_field Tryz.underlying57 rfl sz54 (by decide) rfl) ?_
    refine j_q (qs_load (l := [_, _]) 2 Tryz.underlying54 rfl rfl rfl rfl) ?_
    refine j_q (qs_ixn (g := g12) (off := 0) (i := k) Tryz.underlying54 sz9 rfl rfl (by omega)) ?_
    have hL12 : (((strs s.ns ++ [Value.string (bs [])]) ++ rest12).take (k + 1) ++ (((strs s.ns ++ [Value.string (bs [])]).take (s.nm.length + 1)).drop k).take (min (s.nm.length + 1 - k) (s.nm.length + 1 - (k + 1))) ++ ((strs s.ns ++ [Value.string (bs [])]) ++ rest12).drop (k + 1 + min (s.nm.length + 1 - k) (s.nm.length + 1 - (k + 1)))).length = ((strs s.ns ++ [Value.string (bs [])]) ++ rest12).length := by
      have e := congrArg List.length (ins_eq2 (xs := strs s.ns) (rest := rest12) (z := Value.string (bs [])) (y := Value.string (bs n)) (i := k) (n := s.nm.length) (by rw [strs_length, RM.ns_len]) hkl)
      rw [List.length_set] at e
      rw [e]
      simp only [List.length_append, List.length_cons, List.length_take, List.length_drop, List.length_nil]
      rw [strs_length, RM.ns_len]
      omega
    refine j_store (i := 0 + k * 1) 3 sz9 rfl rfl rfl rfl (by rw [hL12, hg123]; omega) (hg125 _ (by rw [hg123]; omega)) ?_
    refine j_q (qs_nil rfl) ?_
    refine j_q (qs_field Tryz.underlying57 rfl sz55 (by decide) rfl) ?_
    refine j_q (qs_load (l := [_, _]) 2 Tryz.underlying55 rfl rfl rfl rfl) ?_
    refine j_q (qs_ixn (g := g20) (off := 0) (i := k) Tryz.underlying55 sz98 rfl rfl (by omega)) ?_
    have hL20 : (((s.ps ++ [Value.pointer none]) ++ rest20).take (k + 1) ++ (((s.ps ++ [Value.pointer none]).take (s.nm.length + 1)).drop k).take (min (s.nm.length + 1 - k) (s.nm.length + 1 - (k + 1))) ++ ((s.ps ++ [Value.pointer none]) ++ rest20).drop (k + 1 + min (s.nm.length + 1 - k) (s.nm.length + 1 - (k + 1)))).length = ((s.ps ++ [Value.pointer none]) ++ rest20).length := by
      have e := congrArg List.length (ins_eq2 (xs := s.ps) (rest := rest20) (z := Value.pointer none) (y := Value.pointer none) (i := k) (n := s.nm.length) (RM.ps_len s) hkl)
      rw [List.length_set] at e
      rw [e]
      simp only [List.length_append, List.length_cons, List.length_take, List.length_drop, List.length_nil]
      rw [RM.ps_len]
      omega
    refine j_store (i := 0 + k * 1) 4 sz98 rfl rfl rfl rfl (by rw [hL20, hg203]; omega) (hg205 _ (by rw [hg203]; omega)) ?_
    skip
    have e12 := ins_eq2 (xs := strs s.ns) (rest := rest12) (z := Value.string (bs [])) (y := Value.string (bs n)) (i := k) (n := s.nm.length) (by rw [strs_length, RM.ns_len]) hkl
    have e20 := ins_eq2 (xs := s.ps) (rest := rest20) (z := Value.pointer none) (y := fptr (f.g, f.id)) (i := k) (n := s.nm.length) (RM.ps_len s) hkl
    rw [← put_miss_ns h hsp hl (f.g, f.id)] at e12
    rw [← put_miss_ps h hsp hl (f.g, f.id)] at e20
    have hnl : (setN s.nm n (f.g, f.id)).length = s.nm.length + 1 := by rw [set_len _ h.rise, if_pos hl]
    have ho12' : Sx.Own 9 1 (strs ((setN s.nm n (f.g, f.id)).map Prod.fst)) (.slice (some ⟨g12, 0, none⟩) (s.nm.length + 1) cap12) [(g12, .cells (strs ((setN s.nm n (f.g, f.id)).map Prod.fst) ++ rest12).toArray 9 fz12)] := by
      refine own_mk (by rw [strs_length, List.length_map, hnl, Nat.mul_one]) ?_ hg124 ?_
      · rw [← hg123]
        simp only [List.length_append, strs_length, List.length_map, hnl, List.length_singleton]
      · intro j hj
        refine hg125 j ?_
        simp only [List.length_append, strs_length, List.length_map, hnl, List.length_singleton] at hj ⊢
        exact hj
    have ho20' : Sx.Own 98 1 ((setN s.nm n (f.g, f.id)).map fun q => fptr q.2) (.slice (some ⟨g20, 0, none⟩) (s.nm.length + 1) cap20) [(g20, .cells (((setN s.nm n (f.g, f.id)).map fun q => fptr q.2) ++ rest20).toArray 98 fz20)] := by
      refine own_mk (by rw [List.length_map, hnl, Nat.mul_one]) ?_ hg204 ?_
      · rw [← hg203]
        simp only [List.length_append, RM.ps_len, List.length_map, hnl, List.length_singleton]
      · intro j hj
        refine hg205 j ?_
        simp only [List.length_append, RM.ps_len, List.length_map, hnl, List.length_singleton] at hj ⊢
        exact hj
    rw [← e12] at ho12'
    rw [← e20] at ho20'
    refine j_subl (S' := [[(s.gs, .cells [.slice (some ⟨g12, 0, none⟩) (s.nm.length + 1) cap12, .slice (some ⟨g20, 0, none⟩) (s.nm.length + 1) cap20].toArray 57 (0, 0))], _, _, s.fs.map RFl.h]) (by repeat first | exact slR _ | exact slN _ | apply slC | apply slD) ?_
    refine j_perm (S' := [(s.put n (f.g, f.id) _ _ _ _).heap]) (RM.split (s.put n (f.g, f.id) _ _ _ _)).symm ?_
    refine j_ret_con (vs := []) (fun w' hw' => trivial) ?_
    exact ⟨_, _, _, _, rfl, raw_put h hn hl9 hf ho12' ho20'⟩
theorem runset_con (s : RM) (n : List UInt8) (w : World) (h : s.Raw) : Con Tryz.prog 85 [s.ptr, .string (bs n)] w s.heap fun _ S' => ∃ (nv : Value) (nc : SH) (fv : Value) (fc : SH), S' = [RM.heap { s with nv := nv, nc := nc, fv := fv, fc := fc, nm := mdel s.nm n }] ∧ RM.Raw { s with nv := nv, nc := nc, fv := fv, fc := fc, nm := mdel s.nm n } := by
  refine con_of_tree mix Tryz.func85 T85_ok (by kernel_rfl) ?_
  unfold T85
  obtain ⟨n1, A1, cap1, hnv, hn1⟩ := own_form h.on (by decide)
  rw [strs_length, RM.ns_len, Nat.mul_one] at hn1
  subst hn1
  obtain ⟨n2, A2, cap2, hfv, hn2⟩ := own_form h.ow (by decide)
  rw [RM.ps_len, Nat.mul_one] at hn2
  subst hn2
  have hon := h.on
  have how := h.ow
  refine j_call0 ent83 rfl rfl rfl (fun w' hw' => rspot_con s n w' (in_own hw' 0 rfl) h) (fun u S2 hu => ?_)
  obtain ⟨k, rfl, hsp⟩ := hu
  refine j_subl (S' := [s.heap]) (List.sublist_append_right _ _) ?_
  refine j_perm (S' := [[(s.gs, s.sobj)], s.nc, s.fc, s.fs.map RFl.h]) s.split ?_
  have hkl := hsp.le
  have hle := h.le
  refine j_q (qs_ext rfl rfl) ?_
  refine j_q (qs_ext rfl rfl) ?_
  refine j_cond rfl (fun hc0 => ?_) (fun hc0 => ?_)
  · skip
    obtain ⟨p, hp, hpn⟩ := (hsp.iff h.rise).2 (by
      cases hx : alook s.nm n with
      | some p => rfl
      | none => rw [hx] at hc0; simp at hc0)
    have hk : k < s.nm.length := (List.getElem?_eq_some_iff.1 hp).1
    rw [hfv] at how
    rw [hnv] at hon
    obtain ⟨g1, rfl⟩ := own_addr hon (by rw [strs_length, RM.ns_len]; omega)
    obtain ⟨g2, rfl⟩ := own_addr how (by rw [RM.ps_len]; omega)
    obtain ⟨rest1, fz1, hnc, hg12, hg13, hg14, hg15⟩ := own_row hon
    obtain ⟨rest2, fz2, hfc, hg22, hg23, hg24, hg25⟩ := own_row how
    rw [hfc, hnc]
    rw [hfc] at how
    rw [hnc] at hon
    have hcap1 := own_cap hon
    have hcap2 := own_cap how
    have eR1 : (strs s.ns) ++ rest1 = (strs s.ns).take k ++ ((strs s.ns).drop k ++ rest1) := by rw [← List.append_assoc, List.take_append_drop]
    rw [eR1] at hon ⊢
    have eR2 : s.ps ++ rest2 = s.ps.take k ++ (s.ps.drop k ++ rest2) := by rw [← List.append_assoc, List.take_append_drop]
    rw [eR2] at how ⊢
    have hp1 : Sx.Own 9 1 ((strs s.ns).take k) (.slice (some ⟨g1, 0, none⟩) k cap1) [(g1, .cells ((strs s.ns).take k ++ ((strs s.ns).drop k ++ rest1)).toArray 9 fz1)] := own_mk (by rw [List.length_take, strs_length, RM.ns_len]; omega) (by rw [← eR1]; exact hg13) (by omega) (by rw [← eR1]; exact hg15)
    have hp2 : Sx.Own 98 1 (s.ps.take k) (.slice (some ⟨g2, 0, none⟩) k cap2) [(g2, .cells (s.ps.take k ++ (s.ps.drop k ++ rest2)).toArray 98 fz2)] := own_mk (by rw [List.length_take, RM.ps_len]; omega) (by rw [← eR2]; exact hg23) (by omega) (by rw [← eR2]; exact hg25)
    have hone1 : ∀ u ∈ strs s.ns, oneV u = true := strs_one
    have hone2 : ∀ u ∈ s.ps, oneV u = true := fun u hu => by obtain ⟨q, _, rfl⟩ := List.mem_map.1 hu; rfl
    refine j_mix [[(s.gs, s.sobj)], s.fs.map RFl.h] (Le.of_sub (by repeat first | exact slR _ | exact slN _ | apply slC | apply slD)) ?_
    refine j_mq (qs_nil rfl) ?_
    refine j_mq (qs_field Tryz.underlying57 rfl sz54 (by decide) rfl) ?_
    refine j_mq (qs_load (l := rmcells s) 0 Tryz.underlying54 rfl rfl rfl rfl) ?_
    refine j_mq (qs_cutl (a := 0) (z := k) Tryz.underlying54 sz9 hnv rfl ⟨.i64, rfl⟩ (by omega) (by omega)) ?_
    rw [if_neg (by omega), Nat.sub_zero, Nat.sub_zero]
    refine j_mq (qs_nil rfl) ?_
    refine j_mq (qs_field Tryz.underlying57 rfl sz54 (by decide) rfl) ?_
    refine j_mq (qs_load (l := rmcells s) 0 Tryz.underlying54 rfl rfl rfl rfl) ?_
    refine j_mq (qs_add64 rfl rfl (by first | omega | (simp only [bnA] at *; omega))) ?_
    refine j_mq (qs_cutl (a := k + 1) (z := s.nm.length) Tryz.underlying54 sz9 hnv ⟨.i64, rfl⟩ rfl (by omega) (by omega)) ?_
    refine j_append 1 Tryz.underlying54 Tryz.underlying54 (.inr ⟨_, rfl⟩) sb9 zero9 rfl hp1 rfl (src_cut hon 1 rfl (by omega) (Nat.le_refl _)) (fun u hu => hone1 u (List.mem_of_mem_take (List.mem_of_mem_drop hu))) ⟨(by simp only [List.length_take, List.length_drop, strs_length, RM.ns_len]; omega), (by decide)⟩ (fun v12 c12 ho12 => ?_)
    refine j_mD0 (Le.of_sub (by repeat first | exact slR _ | exact slN _ | apply slC | apply slD)) ?_
    refine j_mq (qs_nil rfl) ?_
    refine j_mq (qs_field Tryz.underlying57 rfl sz54 (by decide) rfl) ?_
    refine j_store (l := rmcells s) (i := 0) 0 sz54 rfl rfl (by obtain ⟨a1, a2, a3, a4, _⟩ := own_form ho12 (by decide); show oneV v12 = true; rw [a4]; rfl) rfl (by simp) (by simp) ?_
    refine j_mR _ (.refl _) ?_
    refine j_mend ?_
    refine j_mix [[(s.gs, .cells [v12, s.fv].toArray 57 (0, 0))], s.fs.map RFl.h] (Le.of_sub (by repeat first | exact slR _ | exact slN _ | apply slC | apply slD)) ?_
    refine j_mq (qs_nil rfl) ?_
    refine j_mq (qs_field Tryz.underlying57 rfl sz55 (by decide) rfl) ?_
    refine j_mq (qs_load (l := [v12, s.fv]) 0 Tryz.underlying55 rfl rfl rfl rfl) ?_
    refine j_mq (qs_cutl (a := 0) (z := k) Tryz.underlying55 sz98 hfv rfl ⟨.i64, rfl⟩ (by omega) (by omega)) ?_
    rw [if_neg (by omega), Nat.sub_zero, Nat.sub_zero]
    refine j_mq (qs_nil rfl) ?_
    refine j_mq (qs_field Tryz.underlying57 rfl sz55 (by decide) rfl) ?_
    refine j_mq (qs_load (l := [v12, s.fv]) 0 Tryz.underlying55 rfl rfl rfl rfl) ?_
    refine j_mq (qs_add64 rfl rfl (by first | omega | (simp only [bnA] at *; omega))) ?_
    refine j_mq (qs_cutl (a := k + 1) (z := s.nm.length) Tryz.underlying55 sz98 hfv ⟨.i64, rfl⟩ rfl (by omega) (by omega)) ?_
    refine j_append 2 Tryz.underlying55 Tryz.underlying55 (.inr ⟨_, rfl⟩) sb98 zero98 rfl hp2 rfl (src_cut how 2 rfl (by omega) (Nat.le_refl _)) (fun u hu => hone2 u (List.mem_of_mem_take (List.mem_of_mem_drop hu))) ⟨(by simp only [List.length_take, List.length_drop, RM.ps_len]; omega), (by decide)⟩ (fun v25 c25 ho25 => ?_)
    refine j_mD0 (Le.of_sub (by repeat first | exact slR _ | exact slN _ | apply slC | apply slD)) ?_
    refine j_mq (qs_nil rfl) ?_
    refine j_mq (qs_field Tryz.underlying57 rfl sz55 (by decide) rfl) ?_
    refine j_store (l := [v12, s.fv]) (i := 1) 0 sz55 rfl rfl (by obtain ⟨a1, a2, a3, a4, _⟩ := own_form ho25 (by decide); show oneV v25 = true; rw [a4]; rfl) rfl (by simp) (by simp) ?_
    refine j_mR _ (.refl _) ?_
    refine j_mend ?_
    rw [← del_ns h hsp hp hpn] at ho12
    rw [← del_ps h hsp hp hpn] at ho25
    refine j_subl (S' := [[(s.gs, .cells [v12, v25].toArray 57 (0, 0))], c12, c25, s.fs.map RFl.h]) (by repeat first | exact slR _ | exact slN _ | apply slC | apply slD) ?_
    refine j_perm (S' := [RM.heap { s with nv := v12, nc := c12, fv := v25, fc := c25, nm := mdel s.nm n }]) (RM.split { s with nv := v12, nc := c12, fv := v25, fc := c25, nm := mdel s.nm n }).symm ?_
    refine j_ret_con (vs := []) (fun w' hw' => trivial) ?_
    exact ⟨_, _, _, _, rfl, raw_del h ho12 ho25⟩
  · skip
    have hl : alook s.nm n = none := by
      cases hx : alook s.nm n with
      | none => rfl
      | some p => rw [hx] at hc0; simp at hc0
    refine j_perm (S' := [s.heap]) s.split.symm ?_
    refine j_ret_con (vs := []) (fun w' hw' => trivial) ?_
    refine ⟨s.nv, s.nc, s.fv, s.fc, ?_, ?_⟩
    · rw [del_none hl]
    · rw [del_none hl]
      exact h
end Go.Proofs.YtckpegkpdepokaaGreat
/-! Rg3 -/
namespace Go.Proofs.YtckpegkpdepokaaGreat
open Go Go.Sx
set_option maxRecDepth 100000
set_option maxHeartbeats 4000000
set_option linter.unusedVariables false
set_option linter.unusedSimpArgs false
attribute [local irreducible] J JQ QS Con W opW
open Go.MapKept Go.WideMaps Go.Maps
structure RS0 (s : RM) (P : List BK) (a : AS) : Prop where
  raw : s.Raw
  nm : (s.nm.map fun q => (q.1, q.2.2)).Perm a.nm
  dt : ∀ f ∈ s.fs, a.dt f.id = f.xs
  rv : ∀ f ∈ s.fs, RV P f.v f.xs ∧ f.xs.length ≤ 1000000000
structure RS (s : RM) (P : List BK) (a : AS) : Prop extends RS0 s P a where
  live : ∀ f ∈ s.fs, ∃ q ∈ s.nm, q.2.2 = f.id
theorem RS0.gc {s : RM} {P : List BK} {a : AS} (h : RS0 s P a) : RS s.gc P a := by
  have hs : ∀ f ∈ s.gc.fs, f ∈ s.fs := fun f hf => (List.mem_filter.1 hf).1
  exact ⟨⟨RM.gc_raw h.raw, h.nm, fun f hf => h.dt f (hs f hf), fun f hf => h.rv f (hs f hf)⟩, fun f hf => of_decide_eq_true (List.mem_filter.1 hf).2⟩
theorem RV.subl {P Q : List BK} {v : Value} {xs : List UInt8} (h : RV P v xs) (hs : ∀ b ∈ P, b ∈ Q) : RV Q v xs := by
  rcases h with h | ⟨b, hb, h⟩
  · exact .inl h
  · exact .inr ⟨b, hs b hb, h⟩
theorem RS.more {s : RM} {P : List BK} {a : AS} (h : RS s P a) {P' : List BK} (hs : ∀ b ∈ P, b ∈ P') : RS s P' a := ⟨⟨h.raw, h.nm, h.dt, fun f hf => ⟨(h.rv f hf).1.subl hs, (h.rv f hf).2⟩⟩, h.live⟩
theorem RS0.ndm {s : RM} {P : List BK} {a : AS} (h : RS0 s P a) : ((s.nm.map fun q => (q.1, q.2.2)).map Prod.fst).Nodup := by
  rw [List.map_map]
  exact h.raw.rise.nd
theorem RS0.nd {s : RM} {P : List BK} {a : AS} (h : RS0 s P a) : (a.nm.map Prod.fst).Nodup := (h.nm.map Prod.fst).nodup_iff.1 h.ndm
theorem RS0.look {s : RM} {P : List BK} {a : AS} (h : RS0 s P a) (n : List UInt8) : (alook s.nm n).map Prod.snd = alook a.nm n := by
  rw [← alook_map Prod.snd]
  exact alook_perm h.nm h.ndm n
theorem RS0.len {s : RM} {P : List BK} {a : AS} (h : RS0 s P a) : s.nm.length = a.nm.length := by
  rw [← h.nm.length_eq, List.length_map]
theorem RS0.cnt {s : RM} {P : List BK} {a : AS} (h : RS0 s P a) (i : Nat) : cntR s.nm i = cntA a.nm i := by
  unfold cntR cntA
  rw [← (h.nm.filter _).length_eq, List.filter_map, List.length_map]
  rfl
theorem RS0.get {s : RM} {P : List BK} {a : AS} (h : RS0 s P a) {n : List UInt8} {i : Nat} (hl : alook a.nm n = some i) : ∃ f ∈ s.fs, alook s.nm n = some (f.g, f.id) ∧ f.id = i ∧ f.xs = a.dt i := by
  rw [← h.look n] at hl
  obtain ⟨p, hp, rfl⟩ := Option.map_eq_some_iff.1 hl
  obtain ⟨f, hf, h1, h2⟩ := h.raw.has _ (alook_mem hp)
  simp only at h1 h2
  exact ⟨f, hf, by rw [hp, h1, h2], h2, by rw [← h2]; exact (h.dt f hf).symm⟩
theorem RS0.get0 {s : RM} {P : List BK} {a : AS} (h : RS0 s P a) {n : List UInt8} : alook s.nm n = none ↔ alook a.nm n = none := by
  rw [← h.look n]
  cases alook s.nm n <;> simp
theorem set_nm {s : RM} {P : List BK} {a : AS} (h : RS0 s P a) (n : List UInt8) (p : Nat × Nat) : ((setN s.nm n p).map fun q => (q.1, q.2.2)).Perm ((n, p.2) :: mdel a.nm n) := by
  rw [set_map Prod.snd]
  refine (set_perm _ _ _).trans (List.Perm.cons _ ?_)
  exact h.nm.filter _
theorem del_nm {s : RM} {P : List BK} {a : AS} (h : RS0 s P a) (n : List UInt8) : ((mdel s.nm n).map fun q => (q.1, q.2.2)).Perm (mdel a.nm n) := by
  rw [← mdel_map Prod.snd]
  exact h.nm.filter _
theorem gives_nm {a : AS} (hn : (a.nm.map Prod.fst).Nodup) (n : List UInt8) (i : Nat) : (givesA a n i).nm.Perm ((n, i) :: mdel a.nm n) ∧ (givesA a n i).dt = a.dt := by
  unfold givesA
  split
  · rename_i h
    refine ⟨?_, rfl⟩
    obtain ⟨A, B, e, hA⟩ := alook_split h
    rw [e] at hn ⊢
    rw [List.map_append, List.map_cons, List.nodup_append, List.nodup_cons] at hn
    have hb : ∀ q ∈ B, q.1 ≠ n := fun q hq e => hn.2.1.1 (by rw [← e]; exact List.mem_map.2 ⟨q, hq, rfl⟩)
    have e1 : mdel (A ++ (n, i) :: B) n = A ++ B := by
      unfold mdel
      rw [List.filter_append, List.filter_cons_of_neg (by simp), filt_all (fun q hq => by simpa using hA q hq), filt_all (fun q hq => by simpa using hb q hq)]
    rw [e1]
    exact List.perm_middle
  · have e : (letsA a n).nm = mdel a.nm n ∧ (letsA a n).dt = a.dt := by
      unfold letsA
      split
      · rename_i h
        exact ⟨(by unfold mdel; exact (filt_all (fun q hq => by simpa using alook_none.1 h q hq)).symm), rfl⟩
      · exact ⟨rfl, rfl⟩
    refine ⟨?_, e.2⟩
    show ((letsA a n).nm ++ [(n, i)]).Perm _
    rw [e.1]
    exact List.perm_append_comm
theorem lets_nm (a : AS) (n : List UInt8) : (letsA a n).nm = mdel a.nm n ∧ (letsA a n).dt = a.dt := by
  unfold letsA
  split
  · rename_i h
    exact ⟨(by unfold mdel; exact (filt_all (fun q hq => by simpa using alook_none.1 h q hq)).symm), rfl⟩
  · exact ⟨rfl, rfl⟩
theorem rs_new {s : RM} {P : List BK} {a : AS} (h : RS s P a) {i g : Nat} {bv : Value} {xs : List UInt8} (hi : ∀ q ∈ a.nm, q.2 ≠ i) (hg : ∀ f ∈ s.fs, f.g ≠ g) (hb : RV P bv xs) (hl : xs.length ≤ 1000000000) : RS0 { s with fs := ⟨g, i, bv, xs⟩ :: s.fs } P { a with dt := updA a.dt i xs } := by
  have hid : ∀ f ∈ s.fs, f.id ≠ i := fun f hf e => by
    obtain ⟨q, hq, e2⟩ := h.live f hf
    exact hi (q.1, q.2.2) (h.nm.mem_iff.1 (List.mem_map.2 ⟨q, hq, rfl⟩)) (e2.trans e)
  refine ⟨⟨h.raw.on, h.raw.ow, h.raw.rise, ?_, ?_, fun q hq => ?_, h.raw.ok, h.raw.le⟩, h.nm, fun f hf => ?_, fun f hf => ?_⟩
  · rw [List.map_cons, List.nodup_cons]
    exact ⟨fun hm => by obtain ⟨f, hf, e⟩ := List.mem_map.1 hm; exact hid f hf e, h.raw.ids⟩
  · rw [List.map_cons, List.nodup_cons]
    exact ⟨fun hm => by obtain ⟨f, hf, e⟩ := List.mem_map.1 hm; exact hg f hf e, h.raw.gnd⟩
  · obtain ⟨f, hf, h1⟩ := h.raw.has q hq
    exact ⟨f, List.mem_cons_of_mem _ hf, h1⟩
  · rcases List.mem_cons.1 hf with rfl | hf
    · exact if_pos rfl
    · show updA a.dt i xs f.id = f.xs
      unfold updA
      rw [if_neg (hid f hf)]
      exact h.dt f hf
  · rcases List.mem_cons.1 hf with rfl | hf
    · exact ⟨hb, hl⟩
    · exact h.rv f hf
theorem rs_put {s : RM} {P : List BK} {a b : AS} (h : RS0 s P a) {n : List UInt8} {f : RFl} {nv : Value} {nc : SH} {fv : Value} {fc : SH} (hr : (s.put n (f.g, f.id) nv nc fv fc).Raw) (h1 : b.nm.Perm ((n, f.id) :: mdel a.nm n)) (h2 : b.dt = a.dt) : RS0 (s.put n (f.g, f.id) nv nc fv fc) P b :=
  ⟨hr, (set_nm h n (f.g, f.id)).trans h1.symm, fun x hx => by rw [h2]; exact h.dt x hx, h.rv⟩
theorem rs_del {s : RM} {P : List BK} {a b : AS} (h : RS0 s P a) {n : List UInt8} {nv : Value} {nc : SH} {fv : Value} {fc : SH} (hr : RM.Raw { s with nv := nv, nc := nc, fv := fv, fc := fc, nm := mdel s.nm n }) (h1 : b.nm.Perm (mdel a.nm n)) (h2 : b.dt = a.dt) : RS0 { s with nv := nv, nc := nc, fv := fv, fc := fc, nm := mdel s.nm n } P b :=
  ⟨hr, (del_nm h n).trans h1.symm, fun x hx => by rw [h2]; exact h.dt x hx, h.rv⟩
theorem in_addr {s : RM} {P : List BK} {a : AS} (h : RS0 s P a) {n : List UInt8} {f : RFl} (hl : alook s.nm n = some (f.g, f.id)) : gadr (alook s.nm n) = .pointer (some ⟨f.g, 0, none⟩) := by
  rw [hl]
  rfl
def rapp (s : RM) (i : Nat) (v : Value) (xs : List UInt8) : RM := { s with fs := s.fs.map fun f => if f.id = i then { f with v := v, xs := xs } else f }
theorem rapp_split {s : RM} (hr : s.Raw) {A B : List RFl} {f : RFl} (e : s.fs = A ++ f :: B) (v : Value) (xs : List UInt8) : (rapp s f.id v xs).fs = A ++ { f with v := v, xs := xs } :: B := by
  have h := hr.ids
  rw [e] at h
  rw [List.map_append, List.map_cons, List.nodup_append, List.nodup_cons] at h
  have hA : ∀ x ∈ A, x.id ≠ f.id := fun x hx e => h.2.2 x.id (List.mem_map.2 ⟨x, hx, rfl⟩) f.id (by simp) e
  have hB : ∀ x ∈ B, x.id ≠ f.id := fun x hx e => h.2.1.1 (by rw [← e]; exact List.mem_map.2 ⟨x, hx, rfl⟩)
  have hid : ∀ l : List RFl, (∀ x ∈ l, x.id ≠ f.id) → (l.map fun g => if g.id = f.id then { g with v := v, xs := xs } else g) = l := fun l hl => by
    conv => rhs; rw [← List.map_id l]
    exact List.map_congr_left fun x hx => by rw [if_neg (hl x hx)]; rfl
  unfold rapp
  simp only
  rw [e, List.map_append, List.map_cons, hid A hA, hid B hB, if_pos rfl]
theorem rapp_rs {s : RM} {P : List BK} {a : AS} (h : RS s P a) {f : RFl} (hf : f ∈ s.fs) {n xs : List UInt8} (hl : alook s.nm n = some (f.g, f.id)) {v : Value} (hv : RV P v (f.xs ++ xs)) (hx : f.xs.length + xs.length ≤ 1000000000) : RS (rapp s f.id v (f.xs ++ xs)) P (appA a n xs) := by
  have hla : alook a.nm n = some f.id := by rw [← h.look n, hl]; rfl
  have hd := h.dt f hf
  have e1 : (s.fs.map fun x => if x.id = f.id then { x with v := v, xs := f.xs ++ xs } else x).map RFl.id = s.fs.map RFl.id := by
    rw [List.map_map]
    exact List.map_congr_left fun x _ => by simp only [Function.comp]; split <;> rfl
  have e2 : (s.fs.map fun x => if x.id = f.id then { x with v := v, xs := f.xs ++ xs } else x).map RFl.g = s.fs.map RFl.g := by
    rw [List.map_map]
    exact List.map_congr_left fun x _ => by simp only [Function.comp]; split <;> rfl
  unfold appA
  rw [hla]
  simp only
  refine ⟨⟨⟨h.raw.on, h.raw.ow, h.raw.rise, ?_, ?_, fun q hq => ?_, h.raw.ok, h.raw.le⟩, h.nm, fun x hx2 => ?_, fun x hx2 => ?_⟩, fun x hx2 => ?_⟩
  · show ((s.fs.map fun x => if x.id = f.id then { x with v := v, xs := f.xs ++ xs } else x).map RFl.id).Nodup
    rw [e1]
    exact h.raw.ids
  · show ((s.fs.map fun x => if x.id = f.id then { x with v := v, xs := f.xs ++ xs } else x).map RFl.g).Nodup
    rw [e2]
    exact h.raw.gnd
  · obtain ⟨x, hx2, h1, h2⟩ := h.raw.has q hq
    exact ⟨_, List.mem_map.2 ⟨x, hx2, rfl⟩, by split <;> exact h1, by split <;> exact h2⟩
  · obtain ⟨y, hy, rfl⟩ := List.mem_map.1 hx2
    show updA a.dt f.id (a.dt f.id ++ xs) _ = _
    unfold updA
    split
    · show a.dt f.id ++ xs = f.xs ++ xs
      rw [hd]
    · exact h.dt y hy
  · obtain ⟨y, hy, rfl⟩ := List.mem_map.1 hx2
    split
    · exact ⟨hv, by rw [List.length_append]; exact hx⟩
    · exact h.rv y hy
  · obtain ⟨y, hy, rfl⟩ := List.mem_map.1 hx2
    obtain ⟨q, hq, e⟩ := h.live y hy
    exact ⟨q, hq, by split <;> exact e⟩
def rrest (s : RM) (A B : List RFl) : SH := [(s.gs, s.sobj)] ++ s.nc ++ s.fc ++ (A.map RFl.h ++ B.map RFl.h)
theorem RM.open_ {s : RM} {A B : List RFl} {f : RFl} (h : s.fs = A ++ f :: B) : ([s.heap] : List SH).flatten.Perm ([rrest s A B, [f.h]] : List SH).flatten := by
  classical
  refine List.perm_iff_count.2 fun x => ?_
  simp only [RM.heap, rrest, h, List.map_append, List.map_cons, List.flatten_cons, List.flatten_nil, List.append_nil, List.nil_append, List.cons_append, List.count_append, List.count_cons, List.count_nil] <;> omega
def encT : AT → Value → List Value
  | .wr n _ _, bv => [.int .i64 1, .string (bs []), .string (bs n), bv]
  | .ap n _, bv => [.int .i64 2, .string (bs []), .string (bs n), bv]
  | .li old n, bv => [.int .i64 3, .string (bs old), .string (bs n), bv]
  | .rn old n, bv => [.int .i64 4, .string (bs old), .string (bs n), bv]
  | .rm n, bv => [.int .i64 5, .string (bs []), .string (bs n), bv]
def okT (P : List BK) : AT → Value → Prop
  | .wr n xs _, bv => strOk n ∧ RV P bv xs ∧ xs.length ≤ 1048576
  | .ap n xs, bv => strOk n ∧ RV P bv xs ∧ xs.length ≤ 1048576
  | .li old n, bv => strOk old ∧ strOk n ∧ RV P bv []
  | .rn old n, bv => strOk old ∧ strOk n ∧ RV P bv []
  | .rm n, bv => strOk n ∧ RV P bv []
def canR (a : AS) (t : AT) : Prop := canA a t ∧ a.nm.length ≤ 16384
abbrev PostD (s : RM) (P : List BK) (a : AS) (t : AT) (S' : List SH) : Prop := ∃ (s' : RM) (Q : List BK), S' = [s'.heap, ph (Q ++ P)] ∧ s'.gs = s.gs ∧ RS s' (Q ++ P) (doA a t)
theorem rdwr_con (s : RM) (P : List BK) (a : AS) (n xs : List UInt8) (i : Nat) (bv : Value) (w : World) (h : RS s P a) (ht : okT P (.wr n xs i) bv) (hc : canR a (.wr n xs i)) : Con Tryz.prog 75 [s.ptr, .agg (encT (.wr n xs i) bv).toArray] w (s.heap ++ ph P) fun _ S' => PostD s P a (.wr n xs i) S' := by
  refine con_of_tree mix Tryz.func75 T75_ok (by kernel_rfl) ?_
  unfold T75
  obtain ⟨hn, hbv, hxl⟩ := ht
  obtain ⟨A, cap, hbf, _, _⟩ := hbv.form
  have hone : oneV bv = true := by rw [hbf]; rfl
  have hcl := cells_of_one hone
  have hle := h.len
  have hc2 := hc.2
  refine j_perm (S' := [s.heap, ph P]) (by simp) ?_
  refine j_box (l := encT (.wr n xs i) bv) rfl (fun g0 hg0 hs0 => ?_)
  refine j_q (qs_field Tryz.underlying109 rfl sz3 (by decide) rfl) ?_
  refine j_q (qs_load (l := encT (.wr n xs i) bv) 0 Tryz.underlying3 rfl rfl rfl rfl) ?_
  refine j_q (qs_eql rfl rfl) ?_
  refine j_cond rfl (fun hc0 => ?_) (fun hc0 => ?_)
  · skip
    refine j_q (qs_field Tryz.underlying109 rfl sz9 (by decide) rfl) ?_
    refine j_q (qs_load (l := encT (.wr n xs i) bv) 0 Tryz.underlying9 rfl rfl rfl rfl) ?_
    refine j_q (qs_field Tryz.underlying109 rfl sz32 (by decide) rfl) ?_
    refine j_q (qs_load (l := encT (.wr n xs i) bv) 0 Tryz.underlying32 rfl rfl rfl rfl) ?_
    refine j_q (qs_build (places := [(0, 1)]) (offs := [(0, [bv])]) Tryz.underlying100 zero100 (by kernel_rfl) rfl (by rintro (_ | j) p q hp hq <;> first | (simp at hp hq; subst hp hq; exact ⟨rfl, hcl, by simp⟩) | (simp at hp))) ?_
    refine j_box (l := [bv]) rfl (fun g9 hg9 hs9 => ?_)
    have hgf : ∀ f ∈ s.fs, f.g ≠ g9 := fun f hf e => hs9 (by rw [← e]; exact List.mem_map.2 ⟨f.h, mem_flatten_of (k := 1) rfl (by unfold RM.heap; exact List.mem_append_right _ (List.mem_map.2 ⟨f, hf, rfl⟩)), rfl⟩)
    have h1 := rs_new h hc.1 hgf hbv (by omega)
    refine j_perm (S' := [[(g0, .cells (encT (.wr n xs i) bv).toArray 109 (0, 0))], RM.heap ({ s with fs := ⟨g9, i, bv, xs⟩ :: s.fs } : RM), ph P]) (by
      classical
      refine List.perm_iff_count.2 fun x => ?_
      simp only [RM.heap, RM.sobj, rmcells, RFl.h, List.map_cons, List.flatten_cons, List.flatten_nil, List.append_nil, List.nil_append, List.cons_append, List.count_append, List.count_cons, List.count_nil] <;> omega) ?_
    refine j_call 1 ent84 rfl rfl rfl rfl (fun w' hw' => rset_con ({ s with fs := ⟨g9, i, bv, xs⟩ :: s.fs } : RM) n ⟨g9, i, bv, xs⟩ w' h1.raw hn (by show s.nm.length < _; omega) (List.mem_cons_self ..)) (fun u S2 hu => ?_)
    obtain ⟨nv, nc, fv, fc, rfl, hr1⟩ := hu
    refine j_subl (S' := [(RM.put ({ s with fs := ⟨g9, i, bv, xs⟩ :: s.fs } : RM) n (g9, i) nv nc fv fc).heap, ph P]) (by repeat first | exact slR _ | exact slN _ | apply slC | apply slD) ?_
    refine j_sub (S' := [(RM.put ({ s with fs := ⟨g9, i, bv, xs⟩ :: s.fs } : RM) n (g9, i) nv nc fv fc).gc.heap, ph P]) (by simp only [List.flatten_cons, List.flatten_nil, List.append_nil]; exact (RM.gc_sub (RM.put ({ s with fs := ⟨g9, i, bv, xs⟩ :: s.fs } : RM) n (g9, i) nv nc fv fc)).append_right _) ?_
    refine j_ret_con (vs := []) (fun w' hw' => trivial) ?_
    refine ⟨_, [], rfl, rfl, ?_⟩
    refine RS0.gc (rs_put (s := ({ s with fs := ⟨g9, i, bv, xs⟩ :: s.fs } : RM)) (f := ⟨g9, i, bv, xs⟩) h1 hr1 ?_ ?_)
    · show (writeA a n xs i).nm.Perm _
      rw [writeA_eq]
      show ((letsA a n).nm ++ [(n, i)]).Perm _
      rw [(lets_nm a n).1]
      exact List.perm_append_comm
    · show (writeA a n xs i).dt = _
      rw [writeA_eq]
      show updA (letsA a n).dt i xs = _
      rw [(lets_nm a n).2]
  · skip
    exact absurd hc0 (by decide)
theorem rdap_con (s : RM) (P : List BK) (a : AS) (n xs : List UInt8) (bv : Value) (w : World) (h : RS s P a) (ht : okT P (.ap n xs) bv) (hc : canR a (.ap n xs)) : Con Tryz.prog 75 [s.ptr, .agg (encT (.ap n xs) bv).toArray] w (s.heap ++ ph P) fun _ S' => PostD s P a (.ap n xs) S' := by
  refine con_of_tree mix Tryz.func75 T75_ok (by kernel_rfl) ?_
  unfold T75
  obtain ⟨hn, hbv, hxl⟩ := ht
  obtain ⟨i, hi, hil⟩ := hc.1
  obtain ⟨f, hf, hlk, hfi, hfx⟩ := h.get hi
  obtain ⟨A, B, hAB⟩ := List.append_of_mem hf
  obtain ⟨hfv, hfl⟩ := h.rv f hf
  obtain ⟨fA, fcp, hfv2, _, _⟩ := hfv.form
  obtain ⟨bA, bcp, hbf, _, _⟩ := hbv.form
  have hle := h.len
  have hc2 := hc.2
  refine j_perm (S' := [s.heap, ph P]) (by simp) ?_
  refine j_box (l := encT (.ap n xs) bv) rfl (fun g0 hg0 hs0 => ?_)
  refine j_q (qs_field Tryz.underlying109 rfl sz3 (by decide) rfl) ?_
  refine j_q (qs_load (l := encT (.ap n xs) bv) 0 Tryz.underlying3 rfl rfl rfl rfl) ?_
  refine j_q (qs_eql rfl rfl) ?_
  refine j_cond rfl (fun hc0 => ?_) (fun hc0 => ?_)
  · skip
    exact absurd hc0 (by decide)
  · skip
    refine j_q (qs_eql rfl rfl) ?_
    refine j_cond rfl (fun hc1 => ?_) (fun hc1 => ?_)
    · skip
      refine j_q (qs_field Tryz.underlying109 rfl sz9 (by decide) rfl) ?_
      refine j_q (qs_load (l := encT (.ap n xs) bv) 0 Tryz.underlying9 rfl rfl rfl rfl) ?_
      refine j_q (qs_call ent68 rfl rfl rfl (fun w' hw' => rget_con s n w' (in_own hw' 1 rfl) h.raw)) ?_
      rw [in_addr h.toRS0 hlk]
      refine j_perm (S' := [[(g0, .cells (encT (.ap n xs) bv).toArray 109 (0, 0))], rrest s A B, [f.h], ph P]) (by
        have h0 := (RM.open_ hAB).append_right (ph P)
        have h1 := List.Perm.append_left ([(g0, .cells (encT (.ap n xs) bv).toArray 109 (0, 0))] : SH) h0
        simpa using h1) ?_
      refine j_mix [[(g0, .cells (encT (.ap n xs) bv).toArray 109 (0, 0))], [f.h], ph P] (Le.of_sub (by repeat first | exact slR _ | exact slN _ | apply slC | apply slD)) ?_
      refine j_mq (qs_nil rfl) ?_
      refine j_mq (qs_field Tryz.underlying100 rfl sz32 (by decide) rfl) ?_
      refine j_mq (qs_load (l := [f.v]) 1 Tryz.underlying32 rfl rfl rfl rfl) ?_
      refine j_mq (qs_field Tryz.underlying109 rfl sz32 (by decide) rfl) ?_
      refine j_mq (qs_load (l := encT (.ap n xs) bv) 0 Tryz.underlying32 rfl rfl rfl rfl) ?_
      refine j_lit (vs := []) Tryz.underlying32 sz5 zero5 rfl (by simp [oneV]) ⟨rfl, by decide⟩ (fun g20 v20 c20 hv20 hc20 ho20 => ?_)
      subst hv20 hc20
      refine j_mD0 (Le.of_sub (by repeat first | exact slR _ | exact slN _ | apply slC | apply slD)) ?_
      refine j_append 0 Tryz.underlying32 Tryz.underlying32 (.inr ⟨_, rfl⟩) sb5 zero5 rfl ho20 rfl (src_rv hfv (fun k hk => mem_flatten_of (k := 4) rfl (List.mem_map.2 ⟨k, hk, rfl⟩))) ints_one ⟨(by rw [ints_length]; simp only [List.length_nil]; omega), (by decide)⟩ (fun v21 c21 ho21 => ?_)
      refine j_mD0 (Le.of_sub (by repeat first | exact slR _ | exact slN _ | apply slC | apply slD)) ?_
      refine j_append 0 Tryz.underlying32 Tryz.underlying32 (.inr ⟨_, rfl⟩) sb5 zero5 rfl ho21 rfl (src_rv hbv (fun k hk => mem_flatten_of (k := 4) rfl (List.mem_map.2 ⟨k, hk, rfl⟩))) ints_one ⟨(by simp only [List.nil_append, ints_length]; omega), (by decide)⟩ (fun v22 c22 ho22 => ?_)
      refine j_mD0 (Le.of_sub (by repeat first | exact slR _ | exact slN _ | apply slC | apply slD)) ?_
      refine j_mq (qs_nil rfl) ?_
      refine j_mq (qs_field Tryz.underlying100 rfl sz32 (by decide) rfl) ?_
      obtain ⟨m22, A22, cap22, hv22, _⟩ := own_form ho22 (by decide)
      refine j_store (l := [f.v]) (i := 0) 3 sz32 rfl rfl (by show oneV v22 = true; rw [hv22]; rfl) rfl (by simp) (by simp) ?_
      refine j_mR _ (.refl _) ?_
      refine j_mend ?_
      rw [List.nil_append, ← ints_append] at ho22
      obtain ⟨Q, rfl, hQ⟩ := own_pool ho22
      refine j_subl (S' := [ph Q, rrest s A B, [RFl.h { f with v := v22, xs := f.xs ++ xs }], ph P]) (by repeat first | exact slR _ | exact slN _ | apply slC | apply slD) ?_
      refine j_perm (S' := [(rapp s f.id v22 (f.xs ++ xs)).heap, ph (Q ++ P)]) (by
        classical
        refine List.perm_iff_count.2 fun x => ?_
        have e : ∀ s2 : RM, s2 = rapp s f.id v22 (f.xs ++ xs) → s2.heap = [(s.gs, s.sobj)] ++ s.nc ++ s.fc ++ (A ++ { f with v := v22, xs := f.xs ++ xs } :: B).map RFl.h := fun s2 e2 => by
          unfold RM.heap
          rw [e2, rapp_split h.raw hAB]
          rfl
        rw [e _ rfl]
        simp only [rrest, ph, List.map_append, List.map_cons, List.flatten_cons, List.flatten_nil, List.append_nil, List.nil_append, List.cons_append, List.count_append, List.count_cons, List.count_nil] <;> omega) ?_
      refine j_ret_con (vs := []) (fun w' hw' => trivial) ?_
      refine ⟨_, Q, rfl, rfl, ?_⟩
      have hs : ∀ b ∈ P, b ∈ Q ++ P := fun b hb => List.mem_append_right _ hb
      exact rapp_rs (h.more hs) hf hlk (hQ.subl fun b hb => List.mem_append_left _ hb) (by rw [hfx]; omega)
    · skip
      exact absurd hc1 (by decide)
theorem rdli_con (s : RM) (P : List BK) (a : AS) (old n : List UInt8) (bv : Value) (w : World) (h : RS s P a) (ht : okT P (.li old n) bv) (hc : canR a (.li old n)) : Con Tryz.prog 75 [s.ptr, .agg (encT (.li old n) bv).toArray] w (s.heap ++ ph P) fun _ S' => PostD s P a (.li old n) S' := by
  refine con_of_tree mix Tryz.func75 T75_ok (by kernel_rfl) ?_
  unfold T75
  obtain ⟨hso, hn, hbv⟩ := ht
  obtain ⟨i, hi⟩ := Option.isSome_iff_exists.1 hc.1
  obtain ⟨f, hf, hlk, hfi, hfx⟩ := h.get hi
  have hle := h.len
  have hc2 := hc.2
  refine j_perm (S' := [s.heap, ph P]) (by simp) ?_
  refine j_box (l := encT (.li old n) bv) rfl (fun g0 hg0 hs0 => ?_)
  refine j_q (qs_field Tryz.underlying109 rfl sz3 (by decide) rfl) ?_
  refine j_q (qs_load (l := encT (.li old n) bv) 0 Tryz.underlying3 rfl rfl rfl rfl) ?_
  refine j_q (qs_eql rfl rfl) ?_
  refine j_cond rfl (fun hc0 => ?_) (fun hc0 => ?_)
  · skip
    exact absurd hc0 (by decide)
  · skip
    refine j_q (qs_eql rfl rfl) ?_
    refine j_cond rfl (fun hc1 => ?_) (fun hc1 => ?_)
    · skip
      exact absurd hc1 (by decide)
    · skip
      refine j_q (qs_eql rfl rfl) ?_
      refine j_cond rfl (fun hc2 => ?_) (fun hc2 => ?_)
      · skip
        refine j_mix [[(g0, .cells (encT (.li old n) bv).toArray 109 (0, 0))]] (Le.of_sub (by repeat first | exact slR _ | exact slN _ | apply slC | apply slD)) ?_
        refine j_mq (qs_field Tryz.underlying109 rfl sz9 (by decide) rfl) ?_
        refine j_mq (qs_load (l := encT (.li old n) bv) 0 Tryz.underlying9 rfl rfl rfl rfl) ?_
        refine j_mq (qs_field Tryz.underlying109 rfl sz9 (by decide) rfl) ?_
        refine j_mq (qs_load (l := encT (.li old n) bv) 0 Tryz.underlying9 rfl rfl rfl rfl) ?_
        refine j_q (qs_call ent68 rfl rfl rfl (fun w' hw' => rget_con s old w' (in_own hw' 1 rfl) h.raw)) ?_
        rw [in_addr h.toRS0 hlk]
        refine j_mD0 (Le.of_sub (by repeat first | exact slR _ | exact slN _ | apply slC | apply slD)) ?_
        refine j_call 1 ent84 rfl rfl rfl rfl (fun w' hw' => rset_con s n f w' h.raw hn (by omega) hf) (fun u S2 hu => ?_)
        obtain ⟨nv, nc, fv, fc, rfl, hr1⟩ := hu
        refine j_mR _ (.refl _) ?_
        refine j_mend ?_
        refine j_subl (S' := [(RM.put s n (f.g, f.id) nv nc fv fc).heap, ph P]) (by repeat first | exact slR _ | exact slN _ | apply slC | apply slD) ?_
        refine j_sub (S' := [(RM.put s n (f.g, f.id) nv nc fv fc).gc.heap, ph P]) (by simp only [List.flatten_cons, List.flatten_nil, List.append_nil]; exact (RM.gc_sub (RM.put s n (f.g, f.id) nv nc fv fc)).append_right _) ?_
        refine j_ret_con (vs := []) (fun w' hw' => trivial) ?_
        refine ⟨_, [], rfl, rfl, ?_⟩
        have e : doA a (.li old n) = givesA a n f.id := by
          show (match alook a.nm old with | none => a | some i => givesA a n i) = _
          rw [hi, hfi]
        rw [e]
        exact RS0.gc (rs_put h.toRS0 hr1 (gives_nm h.nd n f.id).1 (gives_nm h.nd n f.id).2)
      · skip
        exact absurd hc2 (by decide)
theorem rdrn_con (s : RM) (P : List BK) (a : AS) (old n : List UInt8) (bv : Value) (w : World) (h : RS s P a) (ht : okT P (.rn old n) bv) (hc : canR a (.rn old n)) : Con Tryz.prog 75 [s.ptr, .agg (encT (.rn old n) bv).toArray] w (s.heap ++ ph P) fun _ S' => PostD s P a (.rn old n) S' := by
  refine con_of_tree mix Tryz.func75 T75_ok (by kernel_rfl) ?_
  unfold T75
  obtain ⟨hso, hn, hbv⟩ := ht
  obtain ⟨i, hi⟩ := Option.isSome_iff_exists.1 hc.1
  obtain ⟨f, hf, hlk, hfi, hfx⟩ := h.get hi
  have hle := h.len
  have hc2 := hc.2
  refine j_perm (S' := [s.heap, ph P]) (by simp) ?_
  refine j_box (l := encT (.rn old n) bv) rfl (fun g0 hg0 hs0 => ?_)
  refine j_q (qs_field Tryz.underlying109 rfl sz3 (by decide) rfl) ?_
  refine j_q (qs_load (l := encT (.rn old n) bv) 0 Tryz.underlying3 rfl rfl rfl rfl) ?_
  refine j_q (qs_eql rfl rfl) ?_
  refine j_cond rfl (fun hc0 => ?_) (fun hc0 => ?_)
  · skip
    exact absurd hc0 (by decide)
  · skip
    refine j_q (qs_eql rfl rfl) ?_
    refine j_cond rfl (fun hc1 => ?_) (fun hc1 => ?_)
    · skip
      exact absurd hc1 (by decide)
    · skip
      refine j_q (qs_eql rfl rfl) ?_
      refine j_cond rfl (fun hc2 => ?_) (fun hc2 => ?_)
      · skip
        exact absurd hc2 (by decide)
      · skip
        refine j_q (qs_eql rfl rfl) ?_
        refine j_cond rfl (fun hc3 => ?_) (fun hc3 => ?_)
        · skip
          refine j_q (qs_field Tryz.underlying109 rfl sz9 (by decide) rfl) ?_
          refine j_q (qs_load (l := encT (.rn old n) bv) 0 Tryz.underlying9 rfl rfl rfl rfl) ?_
          refine j_q (qs_field Tryz.underlying109 rfl sz9 (by decide) rfl) ?_
          refine j_q (qs_load (l := encT (.rn old n) bv) 0 Tryz.underlying9 rfl rfl rfl rfl) ?_
          refine j_q (qs_sneq rfl rfl) ?_
          refine j_cond rfl (fun hc4 => ?_) (fun hc4 => ?_)
          · skip
            have hne : old ≠ n := fun e => by
              subst e
              simp at hc4
            refine j_q (qs_field Tryz.underlying109 rfl sz9 (by decide) rfl) ?_
            refine j_q (qs_load (l := encT (.rn old n) bv) 0 Tryz.underlying9 rfl rfl rfl rfl) ?_
            refine j_q (qs_call ent68 rfl rfl rfl (fun w' hw' => rget_con s old w' (in_own hw' 1 rfl) h.raw)) ?_
            rw [in_addr h.toRS0 hlk]
            refine j_q (qs_field Tryz.underlying109 rfl sz9 (by decide) rfl) ?_
            refine j_q (qs_load (l := encT (.rn old n) bv) 0 Tryz.underlying9 rfl rfl rfl rfl) ?_
            refine j_call 1 ent85 rfl rfl rfl rfl (fun w' hw' => runset_con s old w' h.raw) (fun u S2 hu => ?_)
            obtain ⟨nv1, nc1, fv1, fc1, rfl, hr1⟩ := hu
            have h1 := rs_del (b := letsA a old) h.toRS0 hr1 (.of_eq (lets_nm a old).1) (lets_nm a old).2
            refine j_q (qs_field Tryz.underlying109 rfl sz9 (by decide) rfl) ?_
            refine j_q (qs_load (l := encT (.rn old n) bv) 1 Tryz.underlying9 rfl rfl rfl rfl) ?_
            refine j_subl (S' := [RM.heap ({ s with nv := nv1, nc := nc1, fv := fv1, fc := fc1, nm := mdel s.nm old } : RM), [(g0, .cells (encT (.rn old n) bv).toArray 109 (0, 0))], ph P]) (by repeat first | exact slR _ | exact slN _ | apply slC | apply slD) ?_
            refine j_call 0 ent84 rfl rfl rfl rfl (fun w' hw' => rset_con ({ s with nv := nv1, nc := nc1, fv := fv1, fc := fc1, nm := mdel s.nm old } : RM) n f w' hr1 hn (Nat.lt_of_le_of_lt (List.length_filter_le _ _) (by omega)) hf) (fun u S2 hu => ?_)
            obtain ⟨nv, nc, fv, fc, rfl, hr2⟩ := hu
            refine j_subl (S' := [(RM.put ({ s with nv := nv1, nc := nc1, fv := fv1, fc := fc1, nm := mdel s.nm old } : RM) n (f.g, f.id) nv nc fv fc).heap, ph P]) (by repeat first | exact slR _ | exact slN _ | apply slC | apply slD) ?_
            refine j_sub (S' := [(RM.put ({ s with nv := nv1, nc := nc1, fv := fv1, fc := fc1, nm := mdel s.nm old } : RM) n (f.g, f.id) nv nc fv fc).gc.heap, ph P]) (by simp only [List.flatten_cons, List.flatten_nil, List.append_nil]; exact (RM.gc_sub (RM.put ({ s with nv := nv1, nc := nc1, fv := fv1, fc := fc1, nm := mdel s.nm old } : RM) n (f.g, f.id) nv nc fv fc)).append_right _) ?_
            refine j_ret_con (vs := []) (fun w' hw' => trivial) ?_
            refine ⟨_, [], rfl, rfl, ?_⟩
            have e : doA a (.rn old n) = letsA (givesA a n f.id) old := by
              show (if old = n then a else match alook a.nm old with | none => a | some i => letsA (givesA a n i) old) = _
              rw [if_neg hne, hi, hfi]
            rw [e]
            have hg := gives_nm h.nd n f.id
            have hl1 := lets_nm (givesA a n f.id) old
            have hl2 := lets_nm a old
            refine RS0.gc (rs_put h1 hr2 ?_ ?_)
            · rw [hl1.1, hl2.1]
              refine (hg.1.filter _).trans ?_
              rw [List.filter_cons_of_pos (by simpa using fun e => hne e.symm)]
              refine List.Perm.cons _ (.of_eq ?_)
              unfold mdel
              rw [List.filter_filter, List.filter_filter]
              exact List.filter_congr fun q _ => Bool.and_comm _ _
            · rw [hl1.2, hl2.2, hg.2]
          · skip
            have heq : old = n := by simpa using hc4
            refine j_subl (S' := [s.heap, ph P]) (by repeat first | exact slR _ | exact slN _ | apply slC | apply slD) ?_
            refine j_ret_con (vs := []) (fun w' hw' => trivial) ?_
            refine ⟨s, [], rfl, rfl, ?_⟩
            have e : doA a (.rn old n) = a := if_pos heq
            rw [e]
            exact h
        · skip
          exact absurd hc3 (by decide)
theorem rdrm_con (s : RM) (P : List BK) (a : AS) (n : List UInt8) (bv : Value) (w : World) (h : RS s P a) (ht : okT P (.rm n) bv) (hc : canR a (.rm n)) : Con Tryz.prog 75 [s.ptr, .agg (encT (.rm n) bv).toArray] w (s.heap ++ ph P) fun _ S' => PostD s P a (.rm n) S' := by
  refine con_of_tree mix Tryz.func75 T75_ok (by kernel_rfl) ?_
  unfold T75
  obtain ⟨hn, hbv⟩ := ht
  have hle := h.len
  have hc2 := hc.2
  refine j_perm (S' := [s.heap, ph P]) (by simp) ?_
  refine j_box (l := encT (.rm n) bv) rfl (fun g0 hg0 hs0 => ?_)
  refine j_q (qs_field Tryz.underlying109 rfl sz3 (by decide) rfl) ?_
  refine j_q (qs_load (l := encT (.rm n) bv) 0 Tryz.underlying3 rfl rfl rfl rfl) ?_
  refine j_q (qs_eql rfl rfl) ?_
  refine j_cond rfl (fun hc0 => ?_) (fun hc0 => ?_)
  · skip
    exact absurd hc0 (by decide)
  · skip
    refine j_q (qs_eql rfl rfl) ?_
    refine j_cond rfl (fun hc1 => ?_) (fun hc1 => ?_)
    · skip
      exact absurd hc1 (by decide)
    · skip
      refine j_q (qs_eql rfl rfl) ?_
      refine j_cond rfl (fun hc2 => ?_) (fun hc2 => ?_)
      · skip
        exact absurd hc2 (by decide)
      · skip
        refine j_q (qs_eql rfl rfl) ?_
        refine j_cond rfl (fun hc3 => ?_) (fun hc3 => ?_)
        · skip
          exact absurd hc3 (by decide)
        · skip
          refine j_q (qs_eql rfl rfl) ?_
          refine j_cond rfl (fun hc5 => ?_) (fun hc5 => ?_)
          · skip
            refine j_q (qs_field Tryz.underlying109 rfl sz9 (by decide) rfl) ?_
            refine j_q (qs_load (l := encT (.rm n) bv) 0 Tryz.underlying9 rfl rfl rfl rfl) ?_
            refine j_call 1 ent85 rfl rfl rfl rfl (fun w' hw' => runset_con s n w' h.raw) (fun u S2 hu => ?_)
            obtain ⟨nv, nc, fv, fc, rfl, hr1⟩ := hu
            refine j_subl (S' := [({ s with nv := nv, nc := nc, fv := fv, fc := fc, nm := mdel s.nm n } : RM).heap, ph P]) (by repeat first | exact slR _ | exact slN _ | apply slC | apply slD) ?_
            refine j_sub (S' := [({ s with nv := nv, nc := nc, fv := fv, fc := fc, nm := mdel s.nm n } : RM).gc.heap, ph P]) (by simp only [List.flatten_cons, List.flatten_nil, List.append_nil]; exact (RM.gc_sub ({ s with nv := nv, nc := nc, fv := fv, fc := fc, nm := mdel s.nm n } : RM)).append_right _) ?_
            refine j_ret_con (vs := []) (fun w' hw' => trivial) ?_
            refine ⟨_, [], rfl, rfl, ?_⟩
            exact RS0.gc (rs_del (b := letsA a n) h.toRS0 hr1 (.of_eq (lets_nm a n).1) (lets_nm a n).2)
          · skip
            exact absurd hc5 (by decide)
theorem rdoes_con (s : RM) (P : List BK) (a : AS) (t : AT) (bv : Value) (w : World) (h : RS s P a) (ht : okT P t bv) (hc : canR a t) : Con Tryz.prog 75 [s.ptr, .agg (encT t bv).toArray] w (s.heap ++ ph P) fun _ S' => PostD s P a t S' := by
  cases t with
  | wr n xs i => exact rdwr_con s P a n xs i bv w h ht hc
  | ap n xs => exact rdap_con s P a n xs bv w h ht hc
  | li old n => exact rdli_con s P a old n bv w h ht hc
  | rn old n => exact rdrn_con s P a old n bv w h ht hc
  | rm n => exact rdrm_con s P a n bv w h ht hc
end Go.Proofs.YtckpegkpdepokaaGreat
/-! Rg4 -/
namespace Go.Proofs.YtckpegkpdepokaaGreat
open Go Go.Sx
set_option maxRecDepth 100000
set_option maxHeartbeats 4000000
set_option linter.unusedVariables false
set_option linter.unusedSimpArgs false
attribute [local irreducible] J JQ QS Con W opW
open Go.MapKept Go.WideMaps Go.Maps
theorem src_rslv {w : World} {v : Value} {vs : List Value} {S : List SH} (h : RSl w v vs) : Src ⟨w, dom []⟩ S 1 v vs.length vs := by
  obtain ⟨A, cap, rfl, _⟩ := rsl_form h
  exact src_rsl h (fun _ _ => by simp)
abbrev ptr0 (g : Nat) : Value := .pointer (some ⟨g, 0, none⟩)
theorem get_map {α : Type} {us : List α} {j : Nat} {x : α} (h : us[j]? = some x) (f : α → Value) : (us.map f)[j]? = some (f x) := by
  rw [List.getElem?_map, h]
  rfl
structure CL (s : RM) (i : Nat) (us : List (RFl × RFl)) (nm : NL (Nat × Nat)) : Prop where
  nmE : nm.map (fun q => (q.1, q.2.2)) = (s.nm.take i).map fun q => (q.1, q.2.2)
  has : ∀ q ∈ nm, ∃ p ∈ us, p.2.g = q.2.1 ∧ p.2.id = q.2.2
  usE : ∀ p ∈ us, p.1 ∈ s.fs ∧ p.2.id = p.1.id ∧ p.2.v = p.1.v ∧ p.2.xs = p.1.xs ∧ ∃ q ∈ nm, q.2.2 = p.1.id
  nd : (us.map fun p => p.1.id).Nodup
  gd : (us.map fun p => p.2.g).Nodup
  le : i ≤ s.nm.length ∧ us.length ≤ i
theorem cl_succ {s : RM} {i : Nat} {q : List UInt8 × (Nat × Nat)} (h : s.nm[i]? = some q) : (s.nm.take (i + 1)).map (fun q => (q.1, q.2.2)) = (s.nm.take i).map (fun q => (q.1, q.2.2)) ++ [(q.1, q.2.2)] := by
  rw [List.take_add_one, h, Option.toList_some, List.map_append]
  rfl
theorem CL.old {s : RM} {i : Nat} {us : List (RFl × RFl)} {nm : NL (Nat × Nat)} (h : CL s i us nm) {n : List UInt8} {f : RFl} (hq : s.nm[i]? = some (n, (f.g, f.id))) {x : RFl × RFl} (hx : x ∈ us) (he : x.1.id = f.id) : CL s (i + 1) us (nm ++ [(n, (x.2.g, x.2.id))]) := by
  have h1 := h.usE x hx
  have hlt := (List.getElem?_eq_some_iff.1 hq).1
  refine ⟨?_, fun q hq2 => ?_, fun p hp => ?_, h.nd, h.gd, hlt, Nat.le_succ_of_le h.le.2⟩
  · rw [cl_succ hq, List.map_append, h.nmE]
    show _ ++ [(n, x.2.id)] = _ ++ [(n, f.id)]
    rw [h1.2.1, he]
  · rcases List.mem_append.1 hq2 with hq2 | hq2
    · exact h.has q hq2
    · rw [List.mem_singleton] at hq2
      exact ⟨x, hx, by rw [hq2], by rw [hq2]⟩
  · obtain ⟨a1, a2, a3, a4, q, hq2, a5⟩ := h.usE p hp
    exact ⟨a1, a2, a3, a4, q, List.mem_append_left _ hq2, a5⟩
theorem CL.new {s : RM} {i : Nat} {us : List (RFl × RFl)} {nm : NL (Nat × Nat)} (h : CL s i us nm) {n : List UInt8} {f : RFl} (hf : f ∈ s.fs) (hq : s.nm[i]? = some (n, (f.g, f.id))) (hn : ∀ p ∈ us, p.1.id ≠ f.id) {g : Nat} (hg : ∀ p ∈ us, p.2.g ≠ g) : CL s (i + 1) (us ++ [(f, ⟨g, f.id, f.v, f.xs⟩)]) (nm ++ [(n, (g, f.id))]) := by
  have hlt := (List.getElem?_eq_some_iff.1 hq).1
  refine ⟨?_, fun q hq2 => ?_, fun p hp => ?_, ?_, ?_, hlt, by rw [List.length_append]; exact Nat.add_le_add_right h.le.2 1⟩
  · rw [cl_succ hq, List.map_append, h.nmE]
    rfl
  · rcases List.mem_append.1 hq2 with hq2 | hq2
    · obtain ⟨p, hp, h1⟩ := h.has q hq2
      exact ⟨p, List.mem_append_left _ hp, h1⟩
    · rw [List.mem_singleton] at hq2
      exact ⟨_, List.mem_append_right _ (List.mem_singleton.2 rfl), by rw [hq2], by rw [hq2]⟩
  · rcases List.mem_append.1 hp with hp | hp
    · obtain ⟨a1, a2, a3, a4, q, hq2, a5⟩ := h.usE p hp
      exact ⟨a1, a2, a3, a4, q, List.mem_append_left _ hq2, a5⟩
    · rw [List.mem_singleton] at hp
      subst hp
      exact ⟨hf, rfl, rfl, rfl, _, List.mem_append_right _ (List.mem_singleton.2 rfl), rfl⟩
  · rw [List.map_append, List.nodup_append]
    refine ⟨h.nd, by simp, fun x hx y hy e => ?_⟩
    obtain ⟨p, hp, rfl⟩ := List.mem_map.1 hx
    simp only [List.map_cons, List.map_nil, List.mem_singleton] at hy
    exact hn p hp (e.trans hy)
  · rw [List.map_append, List.nodup_append]
    refine ⟨h.gd, by simp, fun x hx y hy e => ?_⟩
    obtain ⟨p, hp, rfl⟩ := List.mem_map.1 hx
    simp only [List.map_cons, List.map_nil, List.mem_singleton] at hy
    exact hg p hp (e.trans hy)
theorem CL.done {s : RM} {P : List BK} {a : AS} (h : RS s P a) {us : List (RFl × RFl)} {nm : NL (Nat × Nat)} (hc : CL s s.nm.length us nm) {g : Nat} {nv : Value} {nc : SH} {fv : Value} {fc : SH} (h1 : Sx.Own 9 1 (strs s.ns) nv nc) (h2 : Sx.Own 98 1 (nm.map fun q => fptr q.2) fv fc) : RS ⟨g, nv, nc, fv, fc, nm, us.map Prod.snd⟩ P a := by
  have hnm := hc.nmE
  rw [List.take_length] at hnm
  have hns : nm.map Prod.fst = s.ns := by
    have := congrArg (List.map Prod.fst) hnm
    rw [List.map_map, List.map_map] at this
    exact this
  have hlen : nm.length = s.nm.length := by
    have := congrArg List.length hnm
    simpa using this
  have hids : ∀ p ∈ us, p.2.id = p.1.id := fun p hp => (hc.usE p hp).2.1
  refine ⟨⟨⟨?_, h2, ?_, ?_, ?_, fun q hq => ?_, fun q hq => ?_, ?_⟩, ?_, fun f hf => ?_, fun f hf => ?_⟩, fun f hf => ?_⟩
  · show Sx.Own 9 1 (strs (nm.map Prod.fst)) nv nc
    rw [hns]
    exact h1
  · have h3 := h.raw.rise
    show nm.Pairwise _
    have h4 : (nm.map Prod.fst).Pairwise (fun x y => x < y) := by
      rw [hns]
      exact List.pairwise_map.2 h3
    exact List.pairwise_map.1 h4
  · show ((us.map Prod.snd).map RFl.id).Nodup
    have e : (us.map Prod.snd).map RFl.id = us.map fun p => p.1.id := by
      rw [List.map_map]
      exact List.map_congr_left fun p hp => hids p hp
    rw [e]
    exact hc.nd
  · show ((us.map Prod.snd).map RFl.g).Nodup
    rw [List.map_map]
    exact hc.gd
  · obtain ⟨p, hp, e1, e2⟩ := hc.has q hq
    exact ⟨p.2, List.mem_map.2 ⟨p, hp, rfl⟩, e1, e2⟩
  · have : q.1 ∈ s.ns := by
      rw [← hns]
      exact List.mem_map.2 ⟨q, hq, rfl⟩
    obtain ⟨q2, hq2, e⟩ := List.mem_map.1 this
    rw [← e]
    exact h.raw.ok q2 hq2
  · show nm.length ≤ _
    rw [hlen]
    exact h.raw.le
  · show (nm.map fun q => (q.1, q.2.2)).Perm _
    rw [hnm]
    exact h.nm
  · obtain ⟨p, hp, rfl⟩ := List.mem_map.1 hf
    obtain ⟨a1, a2, a3, a4, _⟩ := hc.usE p hp
    rw [a2, a4]
    exact h.dt _ a1
  · obtain ⟨p, hp, rfl⟩ := List.mem_map.1 hf
    obtain ⟨a1, a2, a3, a4, _⟩ := hc.usE p hp
    rw [a3, a4]
    exact h.rv _ a1
  · obtain ⟨p, hp, rfl⟩ := List.mem_map.1 hf
    obtain ⟨a1, a2, a3, a4, q, hq, a5⟩ := hc.usE p hp
    exact ⟨q, hq, a5.trans a2.symm⟩
theorem rclone_con (s : RM) (P : List BK) (a : AS) (w : World) (hin : In w s.heap) (h : RS s P a) : Con Tryz.prog 23 [s.ptr] w [] fun v S' => ∃ s' : RM, S' = [s'.heap] ∧ v = s'.ptr ∧ RS s' P a := by
  refine con_of_tree mix Tryz.func23 T23_ok (by kernel_rfl) ?_
  unfold T23
  have hraw := h.raw
  obtain ⟨A, cap, hfv, hcap⟩ := rsl_form (RM.rf hraw hin)
  rw [RM.ps_len] at hfv hcap
  have hrf := RM.rf hraw hin
  rw [hfv] at hrf
  have hle := hraw.le
  refine j_q (qs_ac) ?_
  refine j_lit (vs := []) Tryz.underlying54 sz9 zero9 rfl (by simp [oneV]) ⟨rfl, by decide⟩ (fun g1 v1 c1 hv1 hc1 ho1 => ?_)
  subst hv1 hc1
  refine j_q (qs_nil rfl) ?_
  refine j_q (qs_field Tryz.underlying57 rfl sz54 (by decide) rfl) ?_
  refine j_q (qs_loadO (rdo_base (RM.in_gs hin) (by simp)) Tryz.underlying54 rfl rfl rfl) ?_
  refine j_append 0 Tryz.underlying54 Tryz.underlying54 (.inr ⟨_, rfl⟩) sb9 zero9 rfl ho1 rfl (src_rslv (RM.rn hraw hin)) strs_one ⟨(by rw [strs_length, RM.ns_len]; simp only [List.length_nil]; omega), (by decide)⟩ (fun v5 c5 ho5 => ?_)
  rw [List.nil_append] at ho5
  have hv5c : v5.cells = #[v5] := by
    obtain ⟨n', A', cap', e', _⟩ := own_form ho5 (by decide)
    rw [e']
    rfl
  refine j_q (qs_build (places := [(0, 1), (1, 1)]) (offs := [(0, [v5])]) Tryz.underlying57 zero57 (by kernel_rfl) rfl (by rintro (_ | j) p q hp hq <;> first | (simp at hp hq; subst hp hq; exact ⟨rfl, hv5c, by simp⟩) | (simp at hp))) ?_
  refine j_box (l := [v5, .slice none 0 0]) rfl (fun g7 hg7 hs7 => ?_)
  refine j_q (qs_ac) ?_
  refine j_q (qs_ac) ?_
  refine j_q (qs_ac) ?_
  refine j_perm (S' := [[(g7, .cells [v5, .slice none 0 0].toArray 57 (0, 0))], c5, [], [], [], []]) (by simp) ?_
  refine j_loop (fun m vs S' => ∃ (i : Nat) (us : List (RFl × RFl)) (nm : NL (Nat × Nat)) (vo vf fv : Value) (co cr cf : SH), vs = [vo, vf, .int .i64 (i : Int)] ∧ S' = [[(g7, .cells [v5, fv].toArray 57 (0, 0))], c5, cf, co, cr, us.map fun p => p.2.h] ∧ Sx.Own 98 1 (us.map fun p => ptr0 p.1.g) vo co ∧ Sx.Own 98 1 (us.map fun p => ptr0 p.2.g) vf cr ∧ Sx.Own 98 1 (nm.map fun q => fptr q.2) fv cf ∧ CL s i us nm ∧ m = s.nm.length - i) ⟨_, 0, [], [], .slice none 0 0, .slice none 0 0, .slice none 0 0, [], [], [], rfl, rfl, own_nil, own_nil, own_nil, ⟨rfl, (fun q hq => by cases hq), (fun p hp => by cases hp), .nil, .nil, Nat.zero_le _, Nat.le_refl _⟩, rfl⟩ ?_
  rintro m vs S' hlen ⟨i, us, nm, vo, vf, fv, co, cr, cf, rfl, rfl, hoo, hof, how, hcl0, rfl⟩
  obtain ⟨no, Ao, capo, rfl, hno⟩ := own_form hoo (by decide)
  rw [List.length_map, Nat.mul_one] at hno
  subst hno
  obtain ⟨nf, Af, capf, rfl, hnf⟩ := own_form hof (by decide)
  rw [List.length_map, Nat.mul_one] at hnf
  subst hnf
  have hil := hcl0.le
  have hnl : nm.length = i := by
    have e := congrArg List.length hcl0.nmE
    simp only [List.length_map, List.length_take] at e
    have := hcl0.le.1
    omega
  refine j_q (qs_nil rfl) ?_
  refine j_q (qs_field Tryz.underlying57 rfl sz55 (by decide) rfl) ?_
  refine j_q (qs_loadO (rdo_base (RM.in_gs hin) (by simp)) Tryz.underlying55 rfl rfl rfl) ?_
  refine j_q (qs_lenl (n := s.nm.length) (A := A) (c := cap) Tryz.underlying55 hfv) ?_
  refine j_q (qs_lss rfl rfl) ?_
  refine j_cond rfl (fun hc0 => ?_) (fun hc0 => ?_)
  · skip
    have hi1 : i < s.nm.length := by
      simp only [bnA] at *
      omega
    obtain ⟨g, off, rfl, _, hcl⟩ := rsl_addr hrf (by rw [RM.ps_len]; omega)
    obtain ⟨⟨n, gq, iq⟩, hq⟩ : ∃ q, s.nm[i]? = some q := ⟨_, List.getElem?_eq_getElem hi1⟩
    obtain ⟨f, hf, hfg, hfi⟩ := hraw.has _ (List.mem_of_getElem? hq)
    simp only at hfg hfi
    subst hfg hfi
    refine j_q (qs_ac) ?_
    refine j_q (qs_ac) ?_
    refine j_loop (fun m vs S' => ∃ (j : Nat) (k : Int), vs = [.int .i64 k, .int .i64 (j : Int)] ∧ S' = [[(g7, .cells [v5, fv].toArray 57 (0, 0))], c5, cf, co, cr, us.map fun p => p.2.h] ∧ j ≤ us.length ∧ ((k = -1 ∧ ∀ jj x, jj < j → us[jj]? = some x → x.1.g ≠ f.g) ∨ ∃ (kk : Nat) (x : RFl × RFl), k = (kk : Int) ∧ kk < j ∧ us[kk]? = some x ∧ x.1.g = f.g) ∧ m = us.length - j) ⟨_, 0, -1, rfl, rfl, Nat.zero_le _, .inl ⟨rfl, fun jj x hjj => by omega⟩, rfl⟩ ?_
    rintro m vs S' hlen ⟨j, k, rfl, rfl, hj, hk, rfl⟩
    refine j_q (qs_lenl (n := us.length) (A := Ao) (c := capo) Tryz.underlying55 rfl) ?_
    refine j_q (qs_lss rfl rfl) ?_
    refine j_cond rfl (fun hc1 => ?_) (fun hc1 => ?_)
    · skip
      have hj1 : j < us.length := by
        simp only [bnA] at *
        omega
      obtain ⟨go, rfl⟩ := own_addr hoo (by rw [List.length_map]; omega)
      obtain ⟨x, hx⟩ : ∃ x, us[j]? = some x := ⟨_, List.getElem?_eq_getElem hj1⟩
      have hx1 := (hcl0.usE x (List.mem_of_getElem? hx)).1
      refine j_draw ?_
      refine jq_q (qs_ixn (g := go) (off := 0) (i := j) Tryz.underlying55 sz98 rfl rfl hj1) ?_
      refine jq_q (qs_loadR (v := ptr0 x.1.g) (a := ⟨go, 0, none⟩) (i := j) (own_rd hoo 3 rfl) Tryz.underlying98 rfl (by rw [add_off]; show Value.pointer (some ⟨go, 0 + j * 1, none⟩) = _; rw [Nat.mul_one]) (get_map hx _)) ?_
      refine jq_q (qs_nil rfl) ?_
      refine jq_q (qs_field Tryz.underlying57 rfl sz55 (by decide) rfl) ?_
      refine jq_q (qs_loadO (rdo_base (RM.in_gs hin) (by simp)) Tryz.underlying55 rfl rfl rfl) ?_
      refine jq_q (qs_ixn (g := g) (off := off) (i := i) Tryz.underlying55 sz98 hfv rfl hi1) ?_
      refine jq_q (qs_loadR (v := fptr (f.g, f.id)) (a := ⟨g, off, none⟩) (i := i) (rd_cells hcl (by simp)) Tryz.underlying98 rfl (by rw [add_off]; show Value.pointer (some ⟨g, off + i * 1, none⟩) = _; rw [Nat.mul_one]) (rdst_at hq)) ?_
      refine jq_q (qs_peq (A := some ⟨x.1.g, 0, none⟩) Tryz.underlying98 sz100 (by decide) rfl rfl (fun a' ha' => by
        injection ha' with ha'
        subst ha'
        exact ⟨_, _, rdo_base (RM.in_f hin hx1) (by simp)⟩) ⟨_, _, rdo_base (RM.in_f hin hf) (by simp)⟩) ?_
      refine jq_nil ?_
      refine j_cond rfl (fun hc2 => ?_) (fun hc2 => ?_)
      · skip
        have he : x.1.g = f.g := by simpa [fptr] using hc2
        refine j_q (qs_add64 rfl rfl (by first | omega | (simp only [bnA] at *; omega))) ?_
        refine j_back rfl ?_
        exact ⟨us.length - (j + 1), by omega, j + 1, (j : Int), rfl, rfl, hj1, .inr ⟨j, x, rfl, by omega, hx, he⟩, rfl⟩
      · skip
        have he : x.1.g ≠ f.g := fun e => by
          rw [e] at hc2
          simp [fptr] at hc2
        refine j_q (qs_add64 rfl rfl (by first | omega | (simp only [bnA] at *; omega))) ?_
        refine j_back rfl ?_
        refine ⟨us.length - (j + 1), by omega, j + 1, k, rfl, rfl, hj1, ?_, rfl⟩
        rcases hk with ⟨h1, h2⟩ | ⟨kk, x2, h1, h2, h3⟩
        · refine .inl ⟨h1, fun jj x2 hjj hx2 => ?_⟩
          rcases Nat.lt_or_ge jj j with h4 | h4
          · exact h2 jj x2 h4 hx2
          · obtain rfl : jj = j := by omega
            rw [hx] at hx2
            injection hx2 with hx2
            rw [← hx2]
            exact he
        · exact .inr ⟨kk, x2, h1, by omega, h3⟩
    · skip
      obtain rfl : j = us.length := by
        simp only [bnA] at *
        omega
      refine j_q (qs_lss rfl rfl) ?_
      refine j_cond rfl (fun hc3 => ?_) (fun hc3 => ?_)
      · skip
        have hno : ∀ p ∈ us, p.1.id ≠ f.id := fun p hp e => by
          rcases hk with ⟨_, h2⟩ | ⟨kk, x, rfl, h2, _⟩
          · obtain ⟨jj, hjj, e2⟩ := List.getElem_of_mem hp
            exact h2 jj p hjj (by rw [List.getElem?_eq_getElem hjj, e2]) (by rw [fs_ofi hraw hf (hcl0.usE p hp).1 e])
          · simp only [decide_eq_true_eq] at hc3
            omega
        refine j_q (qs_lenl (n := us.length) (A := Ao) (c := capo) Tryz.underlying55 rfl) ?_
        refine j_q (qs_nil rfl) ?_
        refine j_q (qs_field Tryz.underlying57 rfl sz55 (by decide) rfl) ?_
        refine j_q (qs_loadO (rdo_base (RM.in_gs hin) (by simp)) Tryz.underlying55 rfl rfl rfl) ?_
        refine j_q (qs_ixn (g := g) (off := off) (i := i) Tryz.underlying55 sz98 hfv rfl hi1) ?_
        refine j_q (qs_loadR (v := fptr (f.g, f.id)) (a := ⟨g, off, none⟩) (i := i) (rd_cells hcl (by simp)) Tryz.underlying98 rfl (by rw [add_off]; show Value.pointer (some ⟨g, off + i * 1, none⟩) = _; rw [Nat.mul_one]) (rdst_at hq)) ?_
        refine j_lit (vs := [fptr (f.g, f.id)]) Tryz.underlying55 sz98 zero98 rfl (by intro u hu; rw [List.mem_singleton] at hu; rw [hu]; rfl) ⟨rfl, by decide⟩ (fun g37 v37 c37 hv37 hc37 ho37 => ?_)
        subst hv37 hc37
        refine j_append 4 Tryz.underlying55 Tryz.underlying55 (.inr ⟨_, rfl⟩) sb98 zero98 rfl hoo rfl (.inl ⟨_, _, rfl, own_rd ho37 0 rfl, rfl⟩) (by intro u hu; rw [List.mem_singleton] at hu; rw [hu]; rfl) ⟨(by rw [List.length_map]; simp only [List.length_singleton]; omega), (by decide)⟩ (fun v38 c38 ho38 => ?_)
        refine j_q (qs_nil rfl) ?_
        refine j_q (qs_field Tryz.underlying57 rfl sz55 (by decide) rfl) ?_
        refine j_q (qs_loadO (rdo_base (RM.in_gs hin) (by simp)) Tryz.underlying55 rfl rfl rfl) ?_
        refine j_q (qs_ixn (g := g) (off := off) (i := i) Tryz.underlying55 sz98 hfv rfl hi1) ?_
        refine j_q (qs_loadR (v := fptr (f.g, f.id)) (a := ⟨g, off, none⟩) (i := i) (rd_cells hcl (by simp)) Tryz.underlying98 rfl (by rw [add_off]; show Value.pointer (some ⟨g, off + i * 1, none⟩) = _; rw [Nat.mul_one]) (rdst_at hq)) ?_
        refine j_q (qs_nil rfl) ?_
        refine j_q (qs_field Tryz.underlying100 rfl sz32 (by decide) rfl) ?_
        refine j_q (qs_loadO (rdo_base (RM.in_f hin hf) (by simp)) Tryz.underlying32 rfl rfl rfl) ?_
        obtain ⟨fA, fcp, hfv2, _, _⟩ := (h.rv f hf).1.form
        have hcl2 : f.v.cells = #[f.v] := by rw [hfv2]; rfl
        refine j_q (qs_build (places := [(0, 1)]) (offs := [(0, [f.v])]) Tryz.underlying100 zero100 (by kernel_rfl) rfl (by rintro (_ | j) p q hp hq <;> first | (simp at hp hq; subst hp hq; exact ⟨rfl, hcl2, by simp⟩) | (simp at hp))) ?_
        refine j_box (l := [f.v]) rfl (fun g48 hg48 hs48 => ?_)
        refine j_lit (vs := [ptr0 g48]) Tryz.underlying55 sz98 zero98 rfl (by intro u hu; rw [List.mem_singleton] at hu; rw [hu]; rfl) ⟨rfl, by decide⟩ (fun g49 v49 c49 hv49 hc49 ho49 => ?_)
        subst hv49 hc49
        refine j_append 7 Tryz.underlying55 Tryz.underlying55 (.inr ⟨_, rfl⟩) sb98 zero98 rfl hof rfl (.inl ⟨_, _, rfl, own_rd ho49 0 rfl, rfl⟩) (by intro u hu; rw [List.mem_singleton] at hu; rw [hu]; rfl) ⟨(by rw [List.length_map]; simp only [List.length_singleton]; omega), (by decide)⟩ (fun v50 c50 ho50 => ?_)
        obtain ⟨g50, n50, cap50, hv50⟩ := own_some ho50 (by simp)
        subst hv50
        have hn50 : us.length + 1 = n50 := by
          obtain ⟨n', A', cap', e', h50⟩ := own_form ho50 (by decide)
          injection e' with e1 e2 e3
          rw [List.length_append, List.length_map, List.length_singleton, Nat.mul_one] at h50
          omega
        refine j_mix [[(g7, .cells [v5, fv].toArray 57 (0, 0))], c50] (Le.of_sub (by repeat first | exact slR _ | exact slN _ | apply slC | apply slD)) ?_
        refine j_mq (qs_nil rfl) ?_
        refine j_mq (qs_field Tryz.underlying57 rfl sz55 (by decide) rfl) ?_
        refine j_mq (qs_load (l := [v5, fv]) 0 Tryz.underlying55 rfl rfl rfl rfl) ?_
        refine j_mq (qs_ixn (g := g50) (off := 0) (i := us.length) Tryz.underlying55 sz98 rfl rfl (by omega)) ?_
        refine j_mq (qs_loadR (v := ptr0 g48) (a := ⟨g50, 0, none⟩) (i := us.length) (own_rd ho50 1 rfl) Tryz.underlying98 rfl (by rw [add_off]; show Value.pointer (some ⟨g50, 0 + us.length * 1, none⟩) = _; rw [Nat.mul_one]) (by rw [List.getElem?_append_right (by rw [List.length_map]; exact Nat.le_refl _), List.length_map, Nat.sub_self]; rfl)) ?_
        refine j_lit (vs := [ptr0 g48]) Tryz.underlying55 sz98 zero98 rfl (by intro u hu; rw [List.mem_singleton] at hu; rw [hu]; rfl) ⟨rfl, by decide⟩ (fun g56 v56 c56 hv56 hc56 ho56 => ?_)
        subst hv56 hc56
        refine j_mD0 (Le.of_sub (by repeat first | exact slR _ | exact slN _ | apply slC | apply slD)) ?_
        refine j_append 6 Tryz.underlying55 Tryz.underlying55 (.inr ⟨_, rfl⟩) sb98 zero98 rfl how rfl (.inl ⟨_, _, rfl, own_rd ho56 0 rfl, rfl⟩) (by intro u hu; rw [List.mem_singleton] at hu; rw [hu]; rfl) ⟨(by rw [List.length_map]; simp only [List.length_singleton]; omega), (by decide)⟩ (fun v57 c57 ho57 => ?_)
        refine j_mD0 (Le.of_sub (by repeat first | exact slR _ | exact slN _ | apply slC | apply slD)) ?_
        refine j_mq (qs_nil rfl) ?_
        refine j_mq (qs_field Tryz.underlying57 rfl sz55 (by decide) rfl) ?_
        refine j_store (l := [v5, fv]) (i := 1) 4 sz55 rfl rfl (by obtain ⟨a1, a2, a3, a4, _⟩ := own_form ho57 (by decide); show oneV v57 = true; rw [a4]; rfl) rfl (by simp) (by simp) ?_
        refine j_mR _ (.refl _) ?_
        refine j_mend ?_
        refine j_q (qs_add64 rfl rfl (by first | omega | (simp only [bnA] at *; omega))) ?_
        refine j_subl (S' := [[(g48, .cells [f.v].toArray 100 (0, 0))], [(g7, .cells [v5, v57].toArray 57 (0, 0))], c5, c57, c38, c50, us.map fun p => p.2.h]) (by repeat first | exact slR _ | exact slN _ | apply slC | apply slD) ?_
        refine j_perm (S' := [[(g7, .cells [v5, v57].toArray 57 (0, 0))], c5, c57, c38, c50, (us ++ [(f, (⟨g48, f.id, f.v, f.xs⟩ : RFl))]).map fun p => p.2.h]) (by
          classical
          refine List.perm_iff_count.2 fun x => ?_
          simp only [RFl.h, List.map_append, List.map_cons, List.map_nil, List.set, List.flatten_cons, List.flatten_nil, List.append_nil, List.nil_append, List.cons_append, List.count_append, List.count_cons, List.count_nil] <;> omega) ?_
        refine j_back rfl ?_
        have hg : ∀ p ∈ us, p.2.g ≠ g48 := fun p hp e => hs48 (by rw [← e]; exact List.mem_map.2 ⟨p.2.h, mem_flatten_of (k := 6) rfl (List.mem_map.2 ⟨p, hp, rfl⟩), rfl⟩)
        have hnw := hcl0.new hf hq hno hg
        exact ⟨s.nm.length - (i + 1), by omega, i + 1, _, _, _, _, _, _, _, _, rfl, rfl, by rw [List.map_append]; exact ho38, by rw [List.map_append]; exact ho50, by rw [List.map_append]; exact ho57, hnw, rfl⟩
      · skip
        obtain ⟨kk, x, rfl, hkk, hx, hxg⟩ : ∃ (kk : Nat) (x : RFl × RFl), k = (kk : Int) ∧ kk < us.length ∧ us[kk]? = some x ∧ x.1.g = f.g := by
          rcases hk with ⟨h2, _⟩ | h2
          · rw [h2] at hc3
            simp at hc3
          · exact h2
        have hxm := List.mem_of_getElem? hx
        have hxi : x.1.id = f.id := by rw [fs_of hraw hf (hcl0.usE x hxm).1 hxg]
        obtain ⟨gr, rfl⟩ := own_addr hof (by rw [List.length_map]; omega)
        refine j_mix [[(g7, .cells [v5, fv].toArray 57 (0, 0))], cr] (Le.of_sub (by repeat first | exact slR _ | exact slN _ | apply slC | apply slD)) ?_
        refine j_mq (qs_nil rfl) ?_
        refine j_mq (qs_field Tryz.underlying57 rfl sz55 (by decide) rfl) ?_
        refine j_mq (qs_load (l := [v5, fv]) 0 Tryz.underlying55 rfl rfl rfl rfl) ?_
        refine j_mq (qs_ixn (g := gr) (off := 0) (i := kk) Tryz.underlying55 sz98 rfl rfl (by omega)) ?_
        refine j_mq (qs_loadR (v := ptr0 x.2.g) (a := ⟨gr, 0, none⟩) (i := kk) (own_rd hof 1 rfl) Tryz.underlying98 rfl (by rw [add_off]; show Value.pointer (some ⟨gr, 0 + kk * 1, none⟩) = _; rw [Nat.mul_one]) (get_map hx _)) ?_
        refine j_lit (vs := [ptr0 x.2.g]) Tryz.underlying55 sz98 zero98 rfl (by intro u hu; rw [List.mem_singleton] at hu; rw [hu]; rfl) ⟨rfl, by decide⟩ (fun g67 v67 c67 hv67 hc67 ho67 => ?_)
        subst hv67 hc67
        refine j_mD0 (Le.of_sub (by repeat first | exact slR _ | exact slN _ | apply slC | apply slD)) ?_
        refine j_append 3 Tryz.underlying55 Tryz.underlying55 (.inr ⟨_, rfl⟩) sb98 zero98 rfl how rfl (.inl ⟨_, _, rfl, own_rd ho67 0 rfl, rfl⟩) (by intro u hu; rw [List.mem_singleton] at hu; rw [hu]; rfl) ⟨(by rw [List.length_map]; simp only [List.length_singleton]; omega), (by decide)⟩ (fun v68 c68 ho68 => ?_)
        refine j_mD0 (Le.of_sub (by repeat first | exact slR _ | exact slN _ | apply slC | apply slD)) ?_
        refine j_mq (qs_nil rfl) ?_
        refine j_mq (qs_field Tryz.underlying57 rfl sz55 (by decide) rfl) ?_
        refine j_store (l := [v5, fv]) (i := 1) 1 sz55 rfl rfl (by obtain ⟨a1, a2, a3, a4, _⟩ := own_form ho68 (by decide); show oneV v68 = true; rw [a4]; rfl) rfl (by simp) (by simp) ?_
        refine j_mR _ (.refl _) ?_
        refine j_mend ?_
        refine j_q (qs_add64 rfl rfl (by first | omega | (simp only [bnA] at *; omega))) ?_
        refine j_subl (S' := [[(g7, .cells [v5, v68].toArray 57 (0, 0))], c5, c68, co, cr, us.map fun p => p.2.h]) (by repeat first | exact slR _ | exact slN _ | apply slC | apply slD) ?_
        refine j_back rfl ?_
        exact ⟨s.nm.length - (i + 1), by omega, i + 1, us, _, _, _, _, _, _, _, rfl, rfl, hoo, hof, by rw [List.map_append]; exact ho68, hcl0.old hq hxm hxi, rfl⟩
  · skip
    obtain rfl : i = s.nm.length := by
      simp only [bnA] at *
      omega
    refine j_subl (S' := [[(g7, .cells [v5, fv].toArray 57 (0, 0))], c5, cf, us.map fun p => p.2.h]) (by repeat first | exact slR _ | exact slN _ | apply slC | apply slD) ?_
    refine j_perm (S' := [RM.heap ⟨g7, v5, c5, fv, cf, nm, us.map Prod.snd⟩]) (by
      have e := RM.split ⟨g7, v5, c5, fv, cf, nm, us.map Prod.snd⟩
      simp only [RM.parts, List.map_map] at e
      exact e.symm) ?_
    refine j_ret_con (vs := [_]) (fun w' hw' => ⟨rfl, trivial⟩) ?_
    exact ⟨_, rfl, rfl, CL.done h hcl0 ho5 how⟩
end Go.Proofs.YtckpegkpdepokaaGreat
