/- Part 10. -/
import Derived.Test.YtfebkkmmagbnlaaGreatDoorPW3
import Derived.Test.YtfebkkmmagbnlaaGreatDoorPW4
import Derived.Test.YtfebkkmmagbnlaaGreatDoorPW9
import Derived.Test.YtfebkkmmagbnlaaGreatDoorPW7
import Derived.Test.YtfebkkmmagbnlaaGreatDoorPW8
/-! Pg4 -/
namespace Go.Proofs.YtfebkkmmagbnlaaGreatDoor
open Go Go.Sx
set_option maxRecDepth 100000
set_option maxHeartbeats 4000000
set_option linter.unusedVariables false
set_option linter.unusedSimpArgs false
attribute [local irreducible] J JQ QS Con W opW
theorem own_one {e : TypeId} {sz : Nat} {xs : List Value} {v : Value} {c : SH} (h : Sx.Own e sz xs v c) (hz : 0 < sz) : oneV v = true := by
 obtain ⟨n, A, cap, e, _⟩ := own_form h hz
 rw [e]
 rfl
theorem pl_len {fp : Value} {name : List UInt8} {jp cv : Value} {free : Int} {lv : Value} {ws : List Nat} {bh : List Value} {dead : Bool} (hw : ws.length = 256) (hb : bh.length = 256) : (pl fp name jp cv free lv ws bh dead).length = 776 := by
 unfold pl
 simp only [List.length_append, List.length_cons, List.length_replicate, List.length_map, hw, hb, List.length_nil]
theorem freeN_take {l : List PE} {i : Nat} (h : i < l.length) : freeN (l.take (i + 1)) = freeN (l.take i) + (if (l.getD i PE0).1 then 0 else 1) := by
 unfold freeN
 rw [List.take_add_one, List.getElem?_eq_getElem h, Option.toList_some, List.filter_append, List.length_append, List.getD_eq_getElem?_getD, List.getElem?_eq_getElem h, Option.getD_some]
 cases hx : l[i].1 <;> simp [hx]
def zeroed (ws : List Nat) (i : Nat) : List Nat := List.replicate i 0 ++ ws.drop i
theorem zeroed_len {ws : List Nat} {i : Nat} (h : i ≤ ws.length) : (zeroed ws i).length = ws.length := by
 unfold zeroed
 rw [List.length_append, List.length_replicate, List.length_drop]
 omega
theorem zeroed_set {ws : List Nat} {i : Nat} (h : i < ws.length) : (zeroed ws i).set i 0 = zeroed ws (i + 1) := by
 unfold zeroed
 rw [List.set_append_right _ _ (by rw [List.length_replicate]; exact Nat.le_refl _), List.length_replicate, Nat.sub_self, List.drop_eq_getElem_cons h, List.set_cons_zero, List.replicate_succ']
 simp
theorem zeroed_0 (ws : List Nat) : zeroed ws 0 = ws := by unfold zeroed; simp
theorem zeroed_all {ws : List Nat} {n : Nat} (h : ws.length = n) : zeroed ws n = List.replicate n 0 := by
 unfold zeroed
 rw [List.drop_eq_nil_of_le (by omega), List.append_nil]
theorem bits_rep (n i : Nat) : bitsL (List.replicate n 0) i = [] := by
 induction n generalizing i with
 | zero => rfl
 | succ n ih => rw [List.replicate_succ, bitsL, bits_zero, ih]; rfl
def PM.withF (p : PM) (n : Int) : PM := { p with free := n }
def PM.withW (p : PM) (ws : List Nat) : PM := { p with ws := ws }
def PM.keep (p : PM) (v : Value) (c : SH) : PM := { p with lv := v, lc := c, last := p.cur }
def PM.back (p : PM) (v : Value) (c : SH) : PM := { p with cv := v, cc := c, cur := p.last }
theorem withF_ok {p : PM} (h : p.Ok0) (n : Int) : (p.withF n).Ok0 := ⟨h.cu, h.la, h.pc, h.pl, h.wl, h.wb, h.bl, h.nl, h.nm⟩
theorem withW_ok {p : PM} (h : p.Ok0) {ws : List Nat} (h1 : ws.length = 256) (h2 : ∀ x ∈ ws, x < 2 ^ 64) : (p.withW ws).Ok0 := ⟨h.cu, h.la, h.pc, h.pl, h1, h2, h.bl, h.nl, h.nm⟩
theorem keep_ok {p : PM} (h : p.Ok0) {v : Value} {c : SH} (ho : Sx.Own 92 2 ((p.cur.map encP).flatten) v c) : (p.keep v c).Ok0 := ⟨h.cu, ho, h.pc, h.pc, h.wl, h.wb, h.bl, ⟨h.nl.1, h.nl.1⟩, h.nm⟩
theorem back_ok {p : PM} (h : p.Ok0) {v : Value} {c : SH} (ho : Sx.Own 92 2 ((p.last.map encP).flatten) v c) : (p.back v c).Ok0 := ⟨ho, h.la, h.pl, h.pl, h.wl, h.wb, h.bl, ⟨h.nl.2, h.nl.2⟩, h.nm⟩
def nums (l : List Nat) : List Value := l.map fun n : Nat => Value.int .i64 (n : Int)
theorem nums_length (l : List Nat) : (nums l).length = l.length := List.length_map _
theorem nums_append (l m : List Nat) : nums (l ++ m) = nums l ++ nums m := by
 unfold nums
 rw [List.map_append]
theorem bitsL_take {l : List Nat} {i : Nat} (h : i < l.length) : bitsL (l.take (i + 1)) 0 = bitsL (l.take i) 0 ++ bitsOf i (l.getD i 0) := by
 rw [List.take_add_one, List.getElem?_eq_getElem h, Option.toList_some, bitsL_append, List.length_take, Nat.min_eq_left (by omega), Nat.zero_add, List.getD_eq_getElem?_getD, List.getElem?_eq_getElem h, Option.getD_some]
 simp [bitsL]
theorem bitsOf_len (i x : Nat) : (bitsOf i x).length ≤ 64 := by
 unfold bitsOf
 rw [List.length_map]
 exact Nat.le_trans (List.length_filter_le _ _) (by rw [List.length_range]; exact Nat.le_refl _)
theorem bitsL_len (l : List Nat) (i : Nat) : (bitsL l i).length ≤ 64 * l.length := by
 induction l generalizing i with
 | nil => exact Nat.le_refl _
 | cons x l ih =>
  have h1 := ih (i + 1)
  have h2 := bitsOf_len i x
  rw [bitsL, List.length_append, List.length_cons]
  omega
theorem sub_w {x : Nat} (h0 : 0 < x) (h : x < 2 ^ 64) : IntKind.u64.wrap ((x : Int) - 1) = ((x - 1 : Nat) : Int) := by
 rw [IntKind.wrap_u64]
 have h3 : (2 : Nat) ^ 64 = 18446744073709551616 := by decide
 omega
theorem and_w {k m : Nat} (h : 2 ^ k * (2 * m + 1) < 2 ^ 64) : bw .and .u64 ((2 ^ k * (2 * m + 1) : Nat) : Int) ((2 ^ k * (2 * m + 1) - 1 : Nat) : Int) = ((2 ^ (k + 1) * m : Nat) : Int) := by
 rw [bw_and64 _ _ h (Nat.lt_of_le_of_lt (Nat.sub_le _ _) h), and_pred]
theorem counts_con (p : PM) (w : World) (hok : p.Ok0) : Con Tryz.prog 43 [p.ptr] w p.heap fun u S' => u = .tuple #[] ∧ S' = [(p.withF ((freeN p.c : Nat) : Int)).heap] := by
 refine con_of_tree mix Tryz.func43 T43_ok (by kernel_rfl) ?_
 unfold T43
 obtain ⟨A, cap, hcv, hA⟩ := row_form hok.cu
 have hrow0 := hok.cu
 rw [hcv] at hrow0
 have hnl := hok.nl.1
 refine j_perm (S' := [[(p.g, p.obj)], p.cc, p.lc, p.P]) (by simpa using perm_pm p) ?_
 refine j_q (qs_nil rfl) ?_
 refine j_q (qs_field U78 rfl sz3 (by decide) rfl) ?_
 refine j_store (l := p.l) (i := 261) (v := .int .i64 0) 0 sz3 rfl rfl rfl rfl (by rw [pl_len hok.wl hok.bl]; decide) (by simp) ?_
 rw [pl_set_free]
 refine j_q (qs_nil rfl) ?_
 refine j_q (qs_field U78 rfl sz69 (by decide) rfl) ?_
 refine j_q (qs_load (l := (pl p.fp p.name p.jp p.cv (0) p.lv p.ws p.bh p.dead)) (v := .slice A p.cur.length cap) 0 U69 rfl rfl rfl (by rw [← hcv]; exact pl_cv)) ?_
 refine j_q (qs_lenl U69 rfl) ?_
 refine j_q (qs_mc) ?_
 refine j_loop (fun m vs S' => ∃ i : Nat, vs = [.int .i64 (i : Int)] ∧ S' = [[(p.g, .cells (pl p.fp p.name p.jp p.cv (((freeN (p.c.take i) : Nat) : Int)) p.lv p.ws p.bh p.dead).toArray 78 (0, 0))], p.cc, p.lc, p.P] ∧ i ≤ p.cur.length ∧ m = p.cur.length - i) ⟨_, 0, rfl, rfl, Nat.zero_le _, rfl⟩ ?_
 rintro m vs S' hlen ⟨i, rfl, rfl, hi, rfl⟩
 refine j_q (qs_lss rfl rfl) ?_
 refine j_cond rfl (fun hc0 => ?_) (fun hc0 => ?_)
 ·skip
  have hi1 : i < p.cur.length := by
   simp only [bnA] at *
   omega
  obtain ⟨g, hg⟩ := hA (by omega)
  have hrow := hrow0
  rw [hg] at hrow
  have hft := freeN_take (l := p.c) (i := i) (by rw [c_len]; exact hi1)
  rw [c_get p hi1] at hft
  refine j_q (qs_ixn (g := g) (off := 0) (n := p.cur.length) (c := cap) (i := i) U69 sz92 (by rw [← hg]; rfl) rfl hi1) ?_
  refine j_q (qs_loadrecw (encA := encP) (rs := p.cur) (d := PV0) (i := i) encP_len (own_rd hrow 1 rfl) hi1 U92 rfl sz92 rfl) ?_
  refine j_alloc zero92 (fun g11 hg11 hs11 => ?_)
  refine j_storew 0 sz92 rfl rfl rfl (enc_one (hok.pc _ (getD_mem hi1))) rfl rfl ?_
  refine j_perm (S' := [[(g11, .cells (encP (p.cur.getD i PV0)).toArray 92 (0, 0))], [(p.g, .cells (pl p.fp p.name p.jp p.cv (((freeN (p.c.take i) : Nat) : Int)) p.lv p.ws p.bh p.dead).toArray 78 (0, 0))], p.cc, p.lc, p.P]) (by simp [encP]) ?_
  refine j_q (qs_field U92 rfl sz4 (by decide) rfl) ?_
  refine j_q (qs_load (l := encP (p.cur.getD i PV0)) 0 U4 rfl rfl rfl rfl) ?_
  refine j_q (qs_not rfl) ?_
  refine j_cond rfl (fun hc1 => ?_) (fun hc1 => ?_)
  ·skip
   have ht : (p.cur.getD i PV0).t = false := by simpa using hc1
   rw [show (p.cur.getD i PV0).pe.1 = false from ht] at hft
   have hfm : freeN (p.c.take i) ≤ i := by
    unfold freeN
    refine Nat.le_trans (List.length_filter_le _ _) ?_
    rw [List.length_take]
    omega
   refine j_q (qs_nil rfl) ?_
   refine j_q (qs_field U78 rfl sz3 (by decide) rfl) ?_
   refine j_q (qs_load (l := (pl p.fp p.name p.jp p.cv (((freeN (p.c.take i) : Nat) : Int)) p.lv p.ws p.bh p.dead)) (v := .int .i64 ((freeN (p.c.take i) : Nat) : Int)) 1 U3 rfl rfl rfl pl_free) ?_
   refine j_q (qs_add64 rfl rfl (by first | omega | (simp only [bnA] at *; omega))) ?_
   refine j_q (qs_nil rfl) ?_
   refine j_q (qs_field U78 rfl sz3 (by decide) rfl) ?_
   refine j_store (l := (pl p.fp p.name p.jp p.cv (((freeN (p.c.take i) : Nat) : Int)) p.lv p.ws p.bh p.dead)) (i := 261) (v := .int .i64 (((freeN (p.c.take i) : Nat) : Int) + 1)) 1 sz3 rfl rfl rfl rfl (by rw [pl_len hok.wl hok.bl]; decide) (by simp) ?_
   rw [pl_set_free]
   refine j_q (qs_add64 rfl rfl (by first | omega | (simp only [bnA] at *; omega))) ?_
   refine j_subl (S' := [[(p.g, .cells (pl p.fp p.name p.jp p.cv (((freeN (p.c.take i) : Nat) : Int) + 1) p.lv p.ws p.bh p.dead).toArray 78 (0, 0))], p.cc, p.lc, p.P]) (by repeat first | exact slR _ | exact slN _ | apply slC | apply slD) ?_
   refine j_back rfl ?_
   refine ⟨_, by omega, i + 1, rfl, ?_, hi1, rfl⟩
   rw [hft]
   rfl
  ·skip
   have ht : (p.cur.getD i PV0).t = true := by simpa using hc1
   rw [show (p.cur.getD i PV0).pe.1 = true from ht] at hft
   refine j_q (qs_add64 rfl rfl (by first | omega | (simp only [bnA] at *; omega))) ?_
   refine j_subl (S' := [[(p.g, .cells (pl p.fp p.name p.jp p.cv (((freeN (p.c.take i) : Nat) : Int)) p.lv p.ws p.bh p.dead).toArray 78 (0, 0))], p.cc, p.lc, p.P]) (by repeat first | exact slR _ | exact slN _ | apply slC | apply slD) ?_
   refine j_back rfl ?_
   refine ⟨_, by omega, i + 1, rfl, ?_, hi1, rfl⟩
   rw [hft]
   rfl
 ·skip
  have hi1 : i = p.cur.length := by
   simp only [bnA] at *
   omega
  rw [hi1, ← c_len, List.take_length]
  refine j_perm (S' := [(p.withF ((freeN p.c : Nat) : Int)).heap]) (by simp [PM.heap, PM.withF]) ?_
  refine j_ret_con (vs := []) (fun w' hw' => trivial) ?_
  exact ⟨rfl, rfl⟩
def PM.kept (p : PM) (v : Value) (c : SH) : PM := ((p.keep v c).withF ((freeN (p.keep v c).c : Nat) : Int)).withW (List.replicate 256 0)
def PM.drop (p : PM) (v : Value) (c : SH) : PM := ((p.back v c).withF ((freeN (p.back v c).c : Nat) : Int)).withW (List.replicate 256 0)
theorem keeps_con (p : PM) (w : World) (hok : p.Ok0) : Con Tryz.prog 35 [p.ptr] w p.heap fun u S' => u = .tuple #[] ∧ ∃ v c, S' = [(p.kept v c).heap] ∧ (p.kept v c).Ok := by
 refine con_of_tree mix Tryz.func35 T35_ok (by kernel_rfl) ?_
 unfold T35
 obtain ⟨msrc, hsrc0, hml⟩ : ∃ m, (∀ (b : Base) (S : List SH) (k : Nat), S[k]? = some p.cc → Src b S 2 p.cv m ((p.cur.map encP).flatten)) ∧ ((p.cur.map encP).flatten).length = m * 2 := ⟨p.cur.length, fun b S k hk => by
  obtain ⟨m, h1, h2⟩ := src_own k hok.cu hk (b := b)
  have h3 : ((p.cur.map encP).flatten).length = p.cur.length * 2 := flat_len encP_len _
  obtain rfl : m = p.cur.length := by omega
  exact h1, flat_len encP_len _⟩
 refine j_perm (S' := [[], [(p.g, p.obj)], p.cc, p.lc, p.P]) (by simpa using perm_pm p) ?_
 refine j_q (qs_nil rfl) ?_
 refine j_q (qs_field U78 rfl sz69 (by decide) rfl) ?_
 refine j_q (qs_load (l := p.l) (v := p.cv) 1 U69 rfl rfl rfl pl_cv) ?_
 refine j_append 0 U69 U69 (.inr ⟨_, rfl⟩) sb92 zero92 rfl own_nil rfl (hsrc0 _ _ 2 rfl) (flat_one hok.pc) ⟨(by rw [flat_len encP_len]; have := hok.nl; simp only [List.length_nil]; omega), (by decide)⟩ (fun v3 c3 ho3 => ?_)
 refine j_q (qs_nil rfl) ?_
 refine j_q (qs_field U78 rfl sz69 (by decide) rfl) ?_
 refine j_store (l := p.l) (i := 262) (v := v3) 1 sz69 rfl rfl (own_one ho3 (by decide)) rfl (by rw [pl_len hok.wl hok.bl]; decide) (by simp) ?_
 rw [pl_set_lv]
 refine j_subl (S' := [c3, [(p.g, .cells (pl p.fp p.name p.jp p.cv p.free v3 p.ws p.bh p.dead).toArray 78 (0, 0))], p.cc, p.P]) (by repeat first | exact slR _ | exact slN _ | apply slC | apply slD) ?_
 refine j_perm (S' := [(p.keep v3 c3).heap]) (by
  have e : (p.keep v3 c3).heap = (p.g, .cells (pl p.fp p.name p.jp p.cv p.free v3 p.ws p.bh p.dead).toArray 78 (0, 0)) :: (p.cc ++ (c3 ++ p.P)) := rfl
  rw [e]
  classical
  refine List.perm_iff_count.2 fun x => ?_
  simp only [List.set, List.flatten_cons, List.flatten_nil, List.append_nil, List.nil_append, List.cons_append, List.count_append, List.count_cons, List.count_nil]
  all_goals omega) ?_
 have hk0 : (p.keep v3 c3).Ok0 := keep_ok hok (by rw [List.nil_append] at ho3; exact ho3)
 refine j_call 0 ent43 rfl rfl rfl rfl (fun w' hw' => counts_con (p.keep v3 c3) w' hk0) (fun u S2 hu => ?_)
 obtain ⟨rfl, rfl⟩ := hu
 refine j_subl (S' := [((p.keep v3 c3).withF ((freeN (p.keep v3 c3).c : Nat) : Int)).heap]) (by repeat first | exact slR _ | exact slN _ | apply slC | apply slD) ?_
 refine j_q (qs_mc) ?_
 refine j_loop (fun m vs S' => ∃ i : Nat, vs = [.int .i64 (i : Int)] ∧ S' = [(((p.keep v3 c3).withF ((freeN (p.keep v3 c3).c : Nat) : Int)).withW (zeroed p.ws i)).heap] ∧ i ≤ 256 ∧ m = 256 - i) ⟨_, 0, rfl, (by rw [zeroed_0]; rfl), Nat.zero_le _, rfl⟩ ?_
 rintro m vs S' hlen ⟨i, rfl, rfl, hi, rfl⟩
 refine j_q (qs_lss rfl rfl) ?_
 refine j_cond rfl (fun hc0 => ?_) (fun hc0 => ?_)
 ·skip
  have hi1 : i < 256 := by
   simp only [bnA] at *
   omega
  refine j_q (qs_nil rfl) ?_
  refine j_q (qs_field U78 rfl sz75 (by decide) rfl) ?_
  refine j_q (v := .pointer (some ⟨p.g, 263 + i, none⟩)) (qs_ixa1 (i := i) U75 sz74 rfl rfl (by omega)) ?_
  obtain ⟨z, hz⟩ : ∃ z, z = (((p.keep v3 c3).withF ((freeN (p.keep v3 c3).c : Nat) : Int)).withW (zeroed p.ws i)) := ⟨_, rfl⟩
  have hzg : z.g = p.g := by rw [hz]; rfl
  have hzw : z.ws = zeroed p.ws i := by rw [hz]; rfl
  have hzb : z.withW (zeroed p.ws (i + 1)) = (((p.keep v3 c3).withF ((freeN (p.keep v3 c3).c : Nat) : Int)).withW (zeroed p.ws (i + 1))) := by rw [hz]; rfl
  have hzl : i < z.ws.length := by rw [hzw, zeroed_len (by rw [hok.wl]; omega), hok.wl]; exact hi1
  rw [← hz, ← hzg]
  refine j_perm (S' := [[(z.g, z.obj)], z.cc, z.lc, z.P]) (by simpa using perm_pm z) ?_
  refine j_call 0 ent44 rfl rfl rfl rfl (fun w' hw' => ustore_con z.g (263 + i) z.l 78 _ 0 w' (pl_w hzl)) (fun u S2 hu => ?_)
  obtain ⟨rfl, rfl⟩ := hu
  rw [show (Value.int IntKind.u64 0) = .int .u64 ((0 : Nat) : Int) from rfl, pl_set_w hzl, hzw, zeroed_set (by rw [hok.wl]; exact hi1)]
  refine j_subl (S' := [[(z.g, (z.withW (zeroed p.ws (i + 1))).obj)], z.cc, z.lc, z.P]) (by repeat first | exact slR _ | exact slN _ | apply slC | apply slD) ?_
  refine j_perm (S' := [(z.withW (zeroed p.ws (i + 1))).heap]) (by simp [PM.heap, PM.withW]) ?_
  rw [hzb]
  refine j_q (qs_add64 rfl rfl (by first | omega | (simp only [bnA] at *; omega))) ?_
  refine j_back rfl ?_
  exact ⟨_, by omega, i + 1, rfl, rfl, hi1, rfl⟩
 ·skip
  have hi1 : i = 256 := by
   simp only [bnA] at *
   omega
  rw [hi1, zeroed_all hok.wl]
  refine j_ret_con (vs := []) (fun w' hw' => trivial) ?_
  exact ⟨rfl, v3, c3, rfl, withW_ok (withF_ok hk0 _) (by rw [List.length_replicate]) (fun x hx => by rw [(List.mem_replicate.1 hx).2]; decide), rfl⟩
theorem pdrop_con (p : PM) (w : World) (hok : p.Ok0) : Con Tryz.prog 17 [p.ptr] w p.heap fun u S' => u = .tuple #[] ∧ ∃ v c, S' = [(p.drop v c).heap] ∧ (p.drop v c).Ok := by
 refine con_of_tree mix Tryz.func17 T17_ok (by kernel_rfl) ?_
 unfold T17
 obtain ⟨msrc, hsrc0, hml⟩ : ∃ m, (∀ (b : Base) (S : List SH) (k : Nat), S[k]? = some p.lc → Src b S 2 p.lv m ((p.last.map encP).flatten)) ∧ ((p.last.map encP).flatten).length = m * 2 := ⟨p.last.length, fun b S k hk => by
  obtain ⟨m, h1, h2⟩ := src_own k hok.la hk (b := b)
  have h3 : ((p.last.map encP).flatten).length = p.last.length * 2 := flat_len encP_len _
  obtain rfl : m = p.last.length := by omega
  exact h1, flat_len encP_len _⟩
 refine j_perm (S' := [[], [(p.g, p.obj)], p.cc, p.lc, p.P]) (by simpa using perm_pm p) ?_
 refine j_q (qs_pnil U27 rfl) ?_
 refine j_cond rfl (fun hc0 => ?_) (fun hc0 => ?_)
 ·skip
  simp at hc0
 ·skip
  refine j_q (qs_nil rfl) ?_
  refine j_q (qs_field U78 rfl sz69 (by decide) rfl) ?_
  refine j_q (qs_load (l := p.l) (v := p.lv) 1 U69 rfl rfl rfl pl_lv) ?_
  refine j_append 0 U69 U69 (.inr ⟨_, rfl⟩) sb92 zero92 rfl own_nil rfl (hsrc0 _ _ 3 rfl) (flat_one hok.pl) ⟨(by rw [flat_len encP_len]; have := hok.nl; simp only [List.length_nil]; omega), (by decide)⟩ (fun v4 c4 ho4 => ?_)
  refine j_q (qs_nil rfl) ?_
  refine j_q (qs_field U78 rfl sz69 (by decide) rfl) ?_
  refine j_store (l := p.l) (i := 260) (v := v4) 1 sz69 rfl rfl (own_one ho4 (by decide)) rfl (by rw [pl_len hok.wl hok.bl]; decide) (by simp) ?_
  rw [pl_set_cv]
  refine j_subl (S' := [c4, [(p.g, .cells (pl p.fp p.name p.jp v4 p.free p.lv p.ws p.bh p.dead).toArray 78 (0, 0))], p.lc, p.P]) (by repeat first | exact slR _ | exact slN _ | apply slC | apply slD) ?_
  refine j_perm (S' := [(p.back v4 c4).heap]) (by
   have e : (p.back v4 c4).heap = (p.g, .cells (pl p.fp p.name p.jp v4 p.free p.lv p.ws p.bh p.dead).toArray 78 (0, 0)) :: (c4 ++ (p.lc ++ p.P)) := rfl
   rw [e]
   classical
   refine List.perm_iff_count.2 fun x => ?_
   simp only [List.set, List.flatten_cons, List.flatten_nil, List.append_nil, List.nil_append, List.cons_append, List.count_append, List.count_cons, List.count_nil]
   all_goals omega) ?_
  have hk0 : (p.back v4 c4).Ok0 := back_ok hok (by rw [List.nil_append] at ho4; exact ho4)
  refine j_call 0 ent43 rfl rfl rfl rfl (fun w' hw' => counts_con (p.back v4 c4) w' hk0) (fun u S2 hu => ?_)
  obtain ⟨rfl, rfl⟩ := hu
  refine j_subl (S' := [((p.back v4 c4).withF ((freeN (p.back v4 c4).c : Nat) : Int)).heap]) (by repeat first | exact slR _ | exact slN _ | apply slC | apply slD) ?_
  refine j_q (qs_mc) ?_
  refine j_loop (fun m vs S' => ∃ i : Nat, vs = [.int .i64 (i : Int)] ∧ S' = [(((p.back v4 c4).withF ((freeN (p.back v4 c4).c : Nat) : Int)).withW (zeroed p.ws i)).heap] ∧ i ≤ 256 ∧ m = 256 - i) ⟨_, 0, rfl, (by rw [zeroed_0]; rfl), Nat.zero_le _, rfl⟩ ?_
  rintro m vs S' hlen ⟨i, rfl, rfl, hi, rfl⟩
  refine j_q (qs_lss rfl rfl) ?_
  refine j_cond rfl (fun hc1 => ?_) (fun hc1 => ?_)
  ·skip
   have hi1 : i < 256 := by
    simp only [bnA] at *
    omega
   refine j_q (qs_nil rfl) ?_
   refine j_q (qs_field U78 rfl sz75 (by decide) rfl) ?_
   refine j_q (v := .pointer (some ⟨p.g, 263 + i, none⟩)) (qs_ixa1 (i := i) U75 sz74 rfl rfl (by omega)) ?_
   obtain ⟨z, hz⟩ : ∃ z, z = (((p.back v4 c4).withF ((freeN (p.back v4 c4).c : Nat) : Int)).withW (zeroed p.ws i)) := ⟨_, rfl⟩
   have hzg : z.g = p.g := by rw [hz]; rfl
   have hzw : z.ws = zeroed p.ws i := by rw [hz]; rfl
   have hzb : z.withW (zeroed p.ws (i + 1)) = (((p.back v4 c4).withF ((freeN (p.back v4 c4).c : Nat) : Int)).withW (zeroed p.ws (i + 1))) := by rw [hz]; rfl
   have hzl : i < z.ws.length := by rw [hzw, zeroed_len (by rw [hok.wl]; omega), hok.wl]; exact hi1
   rw [← hz, ← hzg]
   refine j_perm (S' := [[(z.g, z.obj)], z.cc, z.lc, z.P]) (by simpa using perm_pm z) ?_
   refine j_call 0 ent44 rfl rfl rfl rfl (fun w' hw' => ustore_con z.g (263 + i) z.l 78 _ 0 w' (pl_w hzl)) (fun u S2 hu => ?_)
   obtain ⟨rfl, rfl⟩ := hu
   rw [show (Value.int IntKind.u64 0) = .int .u64 ((0 : Nat) : Int) from rfl, pl_set_w hzl, hzw, zeroed_set (by rw [hok.wl]; exact hi1)]
   refine j_subl (S' := [[(z.g, (z.withW (zeroed p.ws (i + 1))).obj)], z.cc, z.lc, z.P]) (by repeat first | exact slR _ | exact slN _ | apply slC | apply slD) ?_
   refine j_perm (S' := [(z.withW (zeroed p.ws (i + 1))).heap]) (by simp [PM.heap, PM.withW]) ?_
   rw [hzb]
   refine j_q (qs_add64 rfl rfl (by first | omega | (simp only [bnA] at *; omega))) ?_
   refine j_back rfl ?_
   exact ⟨_, by omega, i + 1, rfl, rfl, hi1, rfl⟩
  ·skip
   have hi1 : i = 256 := by
    simp only [bnA] at *
    omega
   rw [hi1, zeroed_all hok.wl]
   refine j_ret_con (vs := []) (fun w' hw' => trivial) ?_
   exact ⟨rfl, v4, c4, rfl, withW_ok (withF_ok hk0 _) (by rw [List.length_replicate]) (fun x hx => by rw [(List.mem_replicate.1 hx).2]; decide), rfl⟩
theorem changed_con (p : PM) (w : World) (hin : In w p.heap) (hok : p.Ok0) (hT : TB w) : Con Tryz.prog 40 [p.ptr] w [] fun u S' => ∃ v c, u = v ∧ S' = [c] ∧ Sx.Own 3 1 (nums (bitsL p.ws 0)) v c := by
 refine con_of_tree mix Tryz.func40 T40_ok (by kernel_rfl) ?_
 unfold T40
 refine j_q (qs_ac) ?_
 refine j_q (qs_ac) ?_
 refine j_q (qs_mc) ?_
 refine j_loop (fun m vs S' => ∃ (i : Nat) (v : Value) (c : SH), vs = [v, .int .i64 (i : Int)] ∧ S' = [c] ∧ Sx.Own 3 1 (nums (bitsL (p.ws.take i) 0)) v c ∧ i ≤ 256 ∧ m = 256 - i) ⟨_, 0, nilS, [], rfl, rfl, own_nil, Nat.zero_le _, rfl⟩ ?_
 rintro m vs S' hlen ⟨i, v, c, rfl, rfl, ho, hi, rfl⟩
 refine j_q (qs_lss rfl rfl) ?_
 refine j_cond rfl (fun hc0 => ?_) (fun hc0 => ?_)
 ·skip
  have hi1 : i < 256 := by
   simp only [bnA] at *
   omega
  have hwb := hok.wb _ (getD_mem (d := 0) (l := p.ws) (i := i) (by rw [hok.wl]; exact hi1))
  have hbl := bitsL_len (p.ws.take i) 0
  have htl : (p.ws.take i).length ≤ 256 := by rw [List.length_take]; omega
  have hbt := bitsL_take (l := p.ws) (i := i) (by rw [hok.wl]; exact hi1)
  have hb64 := bitsOf_len i (p.ws.getD i 0)
  refine j_q (qs_nil rfl) ?_
  refine j_q (qs_field U78 rfl sz75 (by decide) rfl) ?_
  refine j_q (v := .pointer (some ⟨p.g, 263 + i, none⟩)) (qs_ixa1 (i := i) U75 sz74 rfl rfl (by omega)) ?_
  refine j_q (qs_call ent66 rfl rfl rfl (fun w' hw' => uload_con p.g (263 + i) p.l 78 (0, 0) ((p.ws.getD i 0 : Nat) : Int) w' ((hw'.frame p.g (lt_of_get (PM.in_o hin)) (by simp)).trans (PM.in_o hin)) (pl_w (by rw [hok.wl]; exact hi1)))) ?_
  refine j_loop (fun m vs S' => ∃ (x : Nat) (done : List Nat) (v2 : Value) (c2 : SH), vs = [v2, .int .u64 (x : Int)] ∧ S' = [c2] ∧ x < 2 ^ 64 ∧ bitsOf i (p.ws.getD i 0) = done ++ bitsOf i x ∧ Sx.Own 3 1 (nums (bitsL (p.ws.take i) 0 ++ done)) v2 c2 ∧ m = (bitsOf i x).length) ⟨_, p.ws.getD i 0, [], v, c, rfl, rfl, hwb, rfl, (by rw [List.append_nil]; exact ho), rfl⟩ ?_
  rintro m vs S' hlen ⟨x, done, v2, c2, rfl, rfl, hx64, hbo, ho2, rfl⟩
  refine j_q (qs_neq rfl rfl) ?_
  refine j_cond rfl (fun hc1 => ?_) (fun hc1 => ?_)
  ·skip
   have hx0 : x ≠ 0 := by
    intro e
    rw [e] at hc1
    simp at hc1
   obtain ⟨k, m1, hxe⟩ := odd_part x hx0
   subst hxe
   obtain ⟨hk, hbs⟩ := bits_step i k m1 hx64
   have hdl : done.length ≤ 64 := by
    rw [hbo, List.length_append] at hb64
    omega
   refine j_q (qs_mul64 rfl rfl (by first | omega | (simp only [bnA] at *; omega))) ?_
   refine j_q (qs_call ent67 rfl rfl rfl (fun w' hw' => tz_con k m1 w' hx64 (hT.keep hw' (by simp)))) ?_
   refine j_q (qs_add64 rfl rfl (by omega)) ?_
   rw [show (i : Int) * 64 + (k : Int) = ((i * 64 + k : Nat) : Int) by omega]
   refine j_lit (vs := [.int .i64 (((i * 64 + k : Nat)) : Int)]) U49 sz3 zero3 rfl (by simp [oneV]) ⟨rfl, by decide⟩ (fun g12 v12 c12 hv12 hc12 ho12 => ?_)
   subst hv12 hc12
   refine j_append 1 U49 U49 (.inr ⟨_, rfl⟩) sb3 zero3 rfl ho2 rfl (.inl ⟨_, _, rfl, rd_own (off := 0) (n := 1) 0 rfl rfl, rfl⟩) (by simp [oneV]) ⟨(by simp [nums_length]; omega), (by decide)⟩ (fun v13 c13 ho13 => ?_)
   refine j_q (qs_sub rfl rfl) ?_
   rw [sub_w (Nat.mul_pos (pow_pos2 k) (by omega)) hx64]
   refine j_q (qs_and_ rfl rfl) ?_
   rw [and_w hx64]
   refine j_subl (S' := [c13]) (by repeat first | exact slR _ | exact slN _ | apply slC | apply slD) ?_
   refine j_back rfl ?_
   refine ⟨_, ?_, 2 ^ (k + 1) * m1, done ++ [i * 64 + k], v13, c13, rfl, rfl, ?_, ?_, ?_, rfl⟩
   ·rw [hbs, List.length_cons]
    omega
   ·have h9 : 2 ^ (k + 1) * m1 ≤ 2 ^ k * (2 * m1 + 1) := by
     rw [Nat.pow_succ, Nat.mul_assoc]
     exact Nat.mul_le_mul_left _ (by omega)
    omega
   ·rw [hbo, hbs]
    simp
   ·rw [← List.append_assoc, nums_append]
    exact ho13
  ·skip
   have hx0 : x = 0 := by
    simp at hc1
    omega
   subst hx0
   rw [bits_zero, List.append_nil] at hbo
   refine j_q (qs_add64 rfl rfl (by first | omega | (simp only [bnA] at *; omega))) ?_
   refine j_back rfl ?_
   refine ⟨_, by omega, i + 1, v2, c2, rfl, rfl, ?_, hi1, rfl⟩
   rw [hbt, hbo]
   exact ho2
 ·skip
  have hi1 : i = 256 := by
   simp only [bnA] at *
   omega
  refine j_ret_con (vs := [_]) (fun w' hw' => ⟨rfl, trivial⟩) ?_
  rw [hi1, List.take_of_length_le (by rw [hok.wl]; exact Nat.le_refl _)] at ho
  exact ⟨v, c, rfl, rfl, ho⟩
end Go.Proofs.YtfebkkmmagbnlaaGreatDoor
/-! Pg5 -/
namespace Go.Proofs.YtfebkkmmagbnlaaGreatDoor
open Go Go.Sx
set_option maxRecDepth 100000
set_option maxHeartbeats 4000000
set_option linter.unusedVariables false
set_option linter.unusedSimpArgs false
attribute [local irreducible] J JQ QS Con W opW
structure PAb where
 c : List PE
 k : List PE
 ws : List Nat
 dead : Bool
def PM.ab (p : PM) : PAb := ⟨p.c, p.k, p.ws, p.dead⟩
structure PM.Same (p p' : PM) : Prop where
 g : p'.g = p.g
 fp : p'.fp = p.fp
 nm : p'.name = p.name
 jp : p'.jp = p.jp
theorem PM.Same.refl (p : PM) : PM.Same p p := ⟨rfl, rfl, rfl, rfl⟩
theorem PM.Same.trans {p q r : PM} (h : PM.Same p q) (h2 : PM.Same q r) : PM.Same p r := ⟨h2.g.trans h.g, h2.fp.trans h.fp, h2.nm.trans h.nm, h2.jp.trans h.jp⟩
def layA (a : PAb) (n : Nat) (x : PE) : PAb := { a with c := a.c.set n x, ws := a.ws.set (n / 64) (a.ws.getD (n / 64) 0 ||| 2 ^ (n % 64)) }
def freeI (l : List PE) : Nat := l.findIdx fun x => !x.1
def newA (a : PAb) : PAb := layA { a with c := if freeI a.c < a.c.length then a.c else a.c ++ [PE0] } (freeI a.c) (true, [])
def putE (a : PAb) (n : Int) (xs : List UInt8) : Int := if a.dead then 26 else if hasB a.c n then (if 512 < xs.length then 5 else 0) else 7
def putA (a : PAb) (n : Int) (xs : List UInt8) : PAb := if putE a n xs = 0 then layA a n.toNat (true, xs) else a
def frE (a : PAb) (n : Int) : Int := if a.dead then 26 else if hasB a.c n then 0 else 7
def frA (a : PAb) (n : Int) : PAb := if frE a n = 0 then layA a n.toNat PE0 else a
theorem hasB_b {l : List PE} {n : Int} (h : hasB l n = true) : 0 ≤ n ∧ n.toNat < l.length ∧ (l.getD n.toNat PE0).1 = true := by
 unfold hasB at h
 simp only [Bool.and_eq_true, decide_eq_true_eq] at h
 exact ⟨h.1, by omega, h.2.2⟩
theorem freeN_set {l : List PE} {n : Nat} (h : n < l.length) (x : PE) : freeN (l.set n x) + (if (l.getD n PE0).1 then 0 else 1) = freeN l + (if x.1 then 0 else 1) := by
 induction l generalizing n with
 | nil => simp at h
 | cons y l ih =>
  have hc : ∀ (z : PE) (m : List PE), freeN (z :: m) = (if z.1 then 0 else 1) + freeN m := fun z m => by
   unfold freeN
   rw [List.filter_cons]
   cases z.1 <;> simp
   omega
  cases n with
  | zero =>
   rw [List.set_cons_zero, hc, hc, List.getD_cons_zero]
   omega
  | succ n =>
   have := ih (n := n) (by simpa using h)
   rw [List.set_cons_succ, hc, hc, List.getD_cons_succ]
   omega
theorem freeI_lt {l : List PE} (h : 0 < freeN l) : freeI l < l.length := by
 unfold freeI
 rw [List.findIdx_lt_length]
 unfold freeN at h
 obtain ⟨x, hx⟩ := List.exists_mem_of_length_pos h
 exact ⟨x, (List.mem_filter.1 hx).1, (List.mem_filter.1 hx).2⟩
theorem freeI_ge {l : List PE} (h : freeN l = 0) : freeI l = l.length := by
 unfold freeI
 refine List.findIdx_eq_length.2 fun x hx => ?_
 unfold freeN at h
 have h2 := List.length_eq_zero_iff.1 h
 have h3 := List.filter_eq_nil_iff.1 h2 x hx
 simpa using h3
theorem freeI_at {l : List PE} (h : freeI l < l.length) : (l.getD (freeI l) PE0).1 = false := by
 have h1 := List.findIdx_getElem (xs := l) (p := fun x : PE => !x.1) (w := h)
 rw [List.getD_eq_getElem?_getD, List.getElem?_eq_getElem h, Option.getD_some]
 have h2 : (!(l[freeI l]'h).1) = true := h1
 cases hx : (l[freeI l]'h).1
 ·rfl
 ·rw [hx] at h2
  cases h2
theorem freeI_before {l : List PE} {i : Nat} (h : i < freeI l) : (l.getD i PE0).1 = true := by
 have h0 : i < l.length := Nat.lt_of_lt_of_le h (List.findIdx_le_length)
 have h1 := List.not_of_lt_findIdx h
 rw [List.getD_eq_getElem?_getD, List.getElem?_eq_getElem h0, Option.getD_some]
 simpa using h1
theorem PM.mono {p : PM} (h : p.Ok0) (c : SH) : ({ p with P := c ++ p.P } : PM).Ok0 := ⟨h.cu, h.la, (fun x hx => (h.pc x hx).mono fun q hq => List.mem_append_right _ hq), (fun x hx => (h.pl x hx).mono fun q hq => List.mem_append_right _ hq), h.wl, h.wb, h.bl, h.nl, h.nm⟩
theorem lay_ab (p : PM) (n : Nat) (x : PV) (cc : SH) : (p.lay n x cc).ab = layA p.ab n x.pe := by
 unfold PM.ab
 rw [lay_c]
 rfl
def PM.more (p : PM) (v : Value) (c : SH) : PM := { p with cv := v, cc := c, cur := p.cur ++ [PV0] }
theorem more_ok {p : PM} (h : p.Ok0) (hl : p.cur.length < 16384) {v : Value} {c : SH} (ho : Sx.Own 92 2 (((p.cur ++ [PV0]).map encP).flatten) v c) : (p.more v c).Ok0 := by
 refine ⟨ho, h.la, fun x hx => ?_, h.pl, h.wl, h.wb, h.bl, ⟨by show (p.cur ++ [PV0]).length ≤ _; rw [List.length_append, List.length_singleton]; omega, h.nl.2⟩, h.nm⟩
 rcases List.mem_append.1 hx with hx | hx
 ·exact h.pc x hx
 ·rw [List.mem_singleton.1 hx]
  exact pv0_ok _
theorem more_c (p : PM) (v : Value) (c : SH) : (p.more v c).c = p.c ++ [PE0] := by
 unfold PM.c PM.more
 rw [List.map_append]
 rfl
theorem freeN_snoc (l : List PE) : freeN (l ++ [PE0]) = freeN l + 1 := by
 unfold freeN
 rw [List.filter_append, List.length_append]
 rfl
theorem count_con (p : PM) (w : World) (hin : In w p.heap) (hok : p.Ok0) : Con Tryz.prog 18 [p.ptr] w [] fun u _ => u = .tuple #[.int .i64 (p.c.length : Int), .int .i64 p.free] := by
 refine con_of_tree mix Tryz.func18 T18_ok (by kernel_rfl) ?_
 unfold T18
 obtain ⟨A, cap, hcv, hA⟩ := row_form hok.cu
 refine j_q (qs_ac) ?_
 refine j_q (qs_ac) ?_
 refine j_q (qs_pnil U27 rfl) ?_
 refine j_cond rfl (fun hc0 => ?_) (fun hc0 => ?_)
 ·skip
  simp at hc0
 ·skip
  refine j_mix _ (.refl _) ?_
  refine j_mq (qs_nil rfl) ?_
  refine j_mq (qs_field U78 rfl sz69 (by decide) rfl) ?_
  refine j_mq (qs_loadR (v := .slice A p.cur.length cap) (a := ⟨p.g, 0, none⟩) (i := 260) (vs := p.l) (rd_cells (PM.cells hin) (by simp)) U69 rfl rfl (by rw [← hcv]; exact pl_cv)) ?_
  refine j_mq (qs_lenl (n := p.cur.length) (A := A) (c := cap) U69 rfl) ?_
  refine j_mq (qs_nil rfl) ?_
  refine j_mq (qs_field U78 rfl sz3 (by decide) rfl) ?_
  refine j_mq (qs_loadR (v := .int .i64 p.free) (a := ⟨p.g, 0, none⟩) (i := 261) (vs := p.l) (rd_cells (PM.cells hin) (by simp)) U3 rfl rfl pl_free) ?_
  refine j_mend ?_
  refine j_ret_con (vs := [_, _]) (fun w' hw' => ⟨rfl, rfl, trivial⟩) ?_
  rw [c_len]
  rfl
theorem dirty_con (p : PM) (w : World) (hin : In w p.heap) (hok : p.Ok0) (hT : TB w) : Con Tryz.prog 19 [p.ptr] w [] fun u _ => u = .int .i64 (((bitsL p.ws 0).length : Nat) : Int) := by
 refine con_of_tree mix Tryz.func19 T19_ok (by kernel_rfl) ?_
 unfold T19
 refine j_q (qs_ac) ?_
 refine j_q (qs_pnil U27 rfl) ?_
 refine j_cond rfl (fun hc0 => ?_) (fun hc0 => ?_)
 ·skip
  simp at hc0
 ·skip
  refine j_call0 ent40 rfl rfl rfl (fun w' hw' => changed_con p w' (fun q hq => (hw'.frame q.1 (lt_of_get (hin q hq)) (by simp)).trans (hin q hq)) hok (hT.keep hw' (by simp))) (fun u S2 hu => ?_)
  obtain ⟨v, c, rfl, rfl, ho⟩ := hu
  obtain ⟨nn, A, cap, rfl, hnn⟩ := own_form ho (by decide)
  rw [nums_length, Nat.mul_one] at hnn
  refine j_q (qs_lenl U49 rfl) ?_
  refine j_ret_con (vs := [_]) (fun w' hw' => ⟨rfl, trivial⟩) ?_
  rw [hnn]
  rfl
theorem get_con (p : PM) (n : Int) (w : World) (hin : In w p.heap) (hok : p.Ok0) (hn : -9223372036854775808 ≤ n ∧ n ≤ 9223372036854775807) : Con Tryz.prog 14 [p.ptr, .int .i64 n] w [] fun u S' => ∃ v c, u = .tuple #[v, .int .i64 (if hasB p.c n then 0 else 7)] ∧ S' = [c] ∧ Sx.Own 5 1 (ints (if hasB p.c n then (p.c.getD n.toNat PE0).2 else [])) v c := by
 refine con_of_tree mix Tryz.func14 T14_ok (by kernel_rfl) ?_
 unfold T14
 obtain ⟨A, cap, hcv, hA⟩ := row_form hok.cu
 refine j_q (qs_ac) ?_
 refine j_q (qs_ac) ?_
 refine j_q (qs_pnil U27 rfl) ?_
 rw [show (some (⟨p.g, 0, none⟩ : Addr)).isNone = false from rfl]
 refine j_gt rfl (qs_mt rfl) ?_
 refine j_gt rfl (qs_mt rfl) ?_
 refine j_gt rfl (qs_call ent38 rfl rfl rfl (fun w' hw' => has_con p n w' (fun q hq => (hw'.frame q.1 (lt_of_get (hin q hq)) (by simp)).trans (hin q hq)) hok hn)) ?_
 refine j_gt rfl (qs_not rfl) ?_
 refine j_q (qs_or (b0 := false) (b1 := !hasB p.c n) rfl rfl) ?_
 refine j_cond rfl (fun hc0 => ?_) (fun hc0 => ?_)
 ·skip
  have hb : hasB p.c n = false := by simpa using hc0
  refine j_q (qs_ac) ?_
  refine j_q (qs_ac) ?_
  refine j_ret_con (vs := [_, _]) (fun w' hw' => ⟨rfl, rfl, trivial⟩) ?_
  rw [hb]
  exact ⟨nilS, [], rfl, rfl, own_nil⟩
 ·skip
  have hb0 : hasB p.c n = true := by simpa using hc0
  have hb := hasB_b hb0
  have hb9 := hb.2.1
  rw [c_len] at hb9
  obtain ⟨g, hg⟩ := hA (by omega)
  have hrow := hok.cu
  rw [hcv, hg] at hrow
  have hpx := hok.pc _ (getD_mem (d := PV0) hb9)
  refine j_q (qs_nil rfl) ?_
  refine j_q (qs_field U78 rfl sz69 (by decide) rfl) ?_
  refine j_q (qs_loadR (v := .slice A p.cur.length cap) (a := ⟨p.g, 0, none⟩) (i := 260) (vs := p.l) (rd_cells (PM.cells hin) (by simp)) U69 rfl rfl (by rw [← hcv]; exact pl_cv)) ?_
  refine j_q (qs_ixn (g := g) (off := 0) (n := p.cur.length) (c := cap) (i := n.toNat) U69 sz92 (by rw [← hg]; rfl) (by rw [Int.toNat_of_nonneg hb.1]; rfl) hb9) ?_
  refine j_q (qs_field U92 rfl sz33 (by decide) rfl) ?_
  refine j_q (qs_loadR (v := (p.cur.getD n.toNat PV0).v) (a := ⟨g, 0, none⟩) (i := n.toNat * 2 + 1) (rd_cells (own_cellsN hrow (PM.in_c hin)) (by simp)) U33 rfl (congrArg (fun z => Value.pointer (some z)) (off2 g n.toNat 1)) (pv_get hb9 rfl)) ?_
  refine j_call0 ent39 rfl rfl rfl (fun w' hw' => cloneO_con (p.cur.getD n.toNat PV0).v (p.cur.getD n.toNat PV0).xs w' (hpx.br (fun q hq => (fun q hq => (hw'.frame q.1 (lt_of_get (hin q hq)) (by simp)).trans (hin q hq)) q (List.mem_cons_of_mem _ (List.mem_append_right _ (List.mem_append_right _ hq))))) (Nat.le_trans hpx.le (by decide))) (fun u S2 hu => ?_)
  obtain ⟨c, rfl, ho⟩ := hu
  refine j_subl (S' := [c]) (by repeat first | exact slR _ | exact slN _ | apply slC | apply slD) ?_
  refine j_q (qs_ac) ?_
  refine j_ret_con (vs := [_, _]) (fun w' hw' => ⟨rfl, rfl, trivial⟩) ?_
  rw [if_pos hb0, if_pos hb0, c_get p hb9]
  exact ⟨_, c, rfl, rfl, ho⟩
theorem put_con (p : PM) (n : Int) (bv : Value) (xs : List UInt8) (w : World) (hok : p.Ok) (hn : -9223372036854775808 ≤ n ∧ n ≤ 9223372036854775807) (hbr : BR w bv xs) (hbd : ∀ (a : Addr) (m c : Nat), bv = .slice (some a) m c → 0 < m → a.block ∉ dom p.heap) (hxl : xs.length ≤ 100000) : Con Tryz.prog 12 [p.ptr, .int .i64 n, bv] w p.heap fun u S' => u = .int .i64 (putE p.ab n xs) ∧ ∃ p' : PM, S' = [p'.heap] ∧ p'.Ok ∧ PM.Same p p' ∧ p'.ab = putA p.ab n xs := by
 refine con_of_tree mix Tryz.func12 T12_ok (by kernel_rfl) ?_
 unfold T12
 obtain ⟨bA, bcp, hbf, _⟩ := br_form hbr
 refine j_q (qs_ac) ?_
 refine j_q (qs_call ent36 rfl rfl rfl (fun w' hw' => pmay_con p w' (PM.in_o (in_own hw' 0 rfl)) hok.o.wl hok.o.bl)) ?_
 refine j_q (qs_neq rfl rfl) ?_
 refine j_cond rfl (fun hc0 => ?_) (fun hc0 => ?_)
 ·skip
  have hd : p.dead = true := by
   cases hx : p.dead
   ·rw [hx] at hc0
    simp at hc0
   ·rfl
  refine j_ret_con (vs := [_]) (fun w' hw' => ⟨rfl, trivial⟩) ?_
  have e : putE p.ab n xs = 26 := by simp [putE, PM.ab, hd]
  rw [e, hd]
  exact ⟨rfl, p, rfl, hok, .refl p, by rw [putA, e]; rfl⟩
 ·skip
  have hd : p.dead = false := by
   cases hx : p.dead
   ·rfl
   ·rw [hx] at hc0
    simp at hc0
  refine j_q (qs_call ent38 rfl rfl rfl (fun w' hw' => has_con p n w' (in_own hw' 0 rfl) hok.o hn)) ?_
  refine j_q (qs_not rfl) ?_
  refine j_cond rfl (fun hc1 => ?_) (fun hc1 => ?_)
  ·skip
   have hh : hasB p.c n = false := by simpa using hc1
   refine j_q (qs_ac) ?_
   refine j_ret_con (vs := [_]) (fun w' hw' => ⟨rfl, trivial⟩) ?_
   have e : putE p.ab n xs = 7 := by simp [putE, PM.ab, hd, hh]
   rw [e]
   exact ⟨rfl, p, rfl, hok, .refl p, by rw [putA, e]; rfl⟩
  ·skip
   have hh : hasB p.c n = true := by simpa using hc1
   have hb := hasB_b hh
   have hb9 := hb.2.1
   rw [c_len] at hb9
   refine j_q (qs_lenl (n := xs.length) (A := bA) (c := bcp) U33 hbf) ?_
   refine j_q (qs_gtr rfl rfl) ?_
   refine j_cond rfl (fun hc2 => ?_) (fun hc2 => ?_)
   ·skip
    have hl : 512 < xs.length := by
     have := of_decide_eq_true hc2
     omega
    refine j_q (qs_ac) ?_
    refine j_ret_con (vs := [_]) (fun w' hw' => ⟨rfl, trivial⟩) ?_
    have e : putE p.ab n xs = 5 := by simp [putE, PM.ab, hd, hh, hl]
    rw [e]
    exact ⟨rfl, p, rfl, hok, .refl p, by rw [putA, e]; rfl⟩
   ·skip
    have hl : ¬ 512 < xs.length := by
     have := of_decide_eq_false hc2
     omega
    refine j_call0 ent39 rfl rfl rfl (fun w' hw' => cloneO_con bv xs w' (br_keep hbr hbd hw') (by omega)) (fun u9 S2 hu => ?_)
    obtain ⟨c9, rfl, ho9⟩ := hu
    obtain ⟨n9, A9, cap9, rfl, _⟩ := own_form ho9 (by decide)
    refine j_perm (S' := [({ p with P := c9 ++ p.P } : PM).heap]) (by
     have e : ({ p with P := c9 ++ p.P } : PM).heap = (p.g, p.obj) :: (p.cc ++ (p.lc ++ (c9 ++ p.P))) := rfl
     have e2 : p.heap = (p.g, p.obj) :: (p.cc ++ (p.lc ++ p.P)) := rfl
     rw [e, e2]
     classical
     refine List.perm_iff_count.2 fun x => ?_
     simp only [List.set, List.flatten_cons, List.flatten_nil, List.append_nil, List.nil_append, List.cons_append, List.count_append, List.count_cons, List.count_nil]
     all_goals omega) ?_
    refine j_q (qs_run (v := .agg (encP ⟨true, .slice A9 n9 cap9, xs⟩).toArray) (fun w => by kernel_rfl)) ?_
    rw [show (Value.int IntKind.i64 n) = .int .i64 ((n.toNat : Nat) : Int) by rw [Int.toNat_of_nonneg hb.1]]
    refine j_call 0 ent37 rfl rfl rfl rfl (fun w' hw' => lay_con ({ p with P := c9 ++ p.P } : PM) n.toNat ⟨true, .slice A9 n9 cap9, xs⟩ w' (PM.mono hok.o c9) hb9 ⟨c9, ho9, fun q hq => List.mem_append_left _ hq, hxl⟩) (fun u S2 hu => ?_)
    obtain ⟨rfl, cc, rfl, hlo⟩ := hu
    refine j_subl (S' := [(({ p with P := c9 ++ p.P } : PM).lay n.toNat ⟨true, .slice A9 n9 cap9, xs⟩ cc).heap]) (by repeat first | exact slR _ | exact slN _ | apply slC | apply slD) ?_
    refine j_q (qs_ac) ?_
    refine j_ret_con (vs := [_]) (fun w' hw' => ⟨rfl, trivial⟩) ?_
    have e : putE p.ab n xs = 0 := by simp [putE, PM.ab, hd, hh, hl]
    rw [e]
    refine ⟨rfl, _, rfl, ⟨hlo, ?_⟩, ⟨rfl, rfl, rfl, rfl⟩, ?_⟩
    ·rw [lay_c]
     have h9 := freeN_set (l := p.c) hb.2.1 (true, xs)
     rw [hb.2.2] at h9
     show p.free = ((freeN (p.c.set n.toNat (true, xs)) : Nat) : Int)
     rw [hok.fr, show freeN (p.c.set n.toNat (true, xs)) = freeN p.c from h9]
    ·rw [lay_ab, putA, e]
     rfl
end Go.Proofs.YtfebkkmmagbnlaaGreatDoor
/-! Pn1 -/
namespace Go.Proofs.YtfebkkmmagbnlaaGreatDoor
open Go Go.Sx
set_option maxRecDepth 100000
set_option maxHeartbeats 4000000
set_option linter.unusedVariables false
set_option linter.unusedSimpArgs false
attribute [local irreducible] J JQ QS Con W opW
theorem pAppend_con (xs : List UInt8) (n : Nat) (v : Value) (c : SH) (w : World) (ho : Sx.Own 5 1 (ints xs) v c) (hn : n < 268435456) (hl : xs.length ≤ 1000000000) : Con Tryz.prog 74 [v, .int .u64 (n : Int)] w c fun u S' => ∃ c', S' = [c'] ∧ Sx.Own 5 1 (ints (xs ++ num n)) u c' := by
 refine con_of_tree mix Tryz.func74 T74_ok (by kernel_rfl) ?_
 unfold T74
 have hnl := num_len hn
 refine j_q (qs_ac) ?_
 refine j_loop (fun m vs S' => ∃ (ys : List UInt8) (k : Nat) (v' : Value) (c' : SH), vs = [v', .int .u64 (k : Int)] ∧ S' = [c'] ∧ Sx.Own 5 1 (ints ys) v' c' ∧ ys ++ num k = xs ++ num n ∧ k ≤ n ∧ k = m) ⟨_, xs, n, v, c, rfl, rfl, ho, rfl, Nat.le_refl _, rfl⟩ ?_
 rintro m vs S' hlen ⟨ys, k, v', c', rfl, rfl, ho', hys, hkn, rfl⟩
 have hyl : ys.length ≤ 1000000004 := by
  have := congrArg List.length hys
  simp only [List.length_append] at this
  omega
 refine j_q (qs_geq rfl rfl) ?_
 refine j_cond rfl (fun hc0 => ?_) (fun hc0 => ?_)
 ·skip
  have hk : 128 ≤ k := by
   simp only [bnA] at *
   omega
  refine j_q (qs_conv8 U64 U5 rfl) ?_
  refine j_q (qs_or_ rfl rfl) ?_
  rw [or128]
  refine j_lit (vs := [.int .u8 _]) U33 sz5 zero5 rfl (by simp [oneV]) ⟨rfl, by decide⟩ (fun g4 v4 c4 hv4 hc4 ho4 => ?_)
  subst hv4 hc4
  refine j_append 1 U33 U33 (.inr ⟨_, rfl⟩) sb5 zero5 rfl ho' rfl (.inl ⟨_, _, rfl, rd_own (off := 0) (n := 1) 0 rfl rfl, rfl⟩) (by simp [oneV]) ⟨(by simp only [ints_length]; simp; omega), (by decide)⟩ (fun v5 c5 ho5 => ?_)
  have ho6 : Sx.Own 5 1 (ints (ys ++ [UInt8.ofNat (k % 128 + 128)])) v5 c5 := by
   rw [ints_append]
   exact ho5
  refine j_subl (S' := [c5]) (by repeat first | exact slR _ | exact slN _ | apply slC | apply slD) ?_
  refine j_q (qs_shr rfl rfl (by first | omega | (simp only [bnA] at *; omega))) ?_
  rw [show Int.fdiv (k : Int) (2 ^ min (7 : Int).toNat IntKind.u64.bits) = ((k / 128 : Nat) : Int) from by
   show Int.fdiv (k : Int) 128 = _
   rw [Int.fdiv_eq_ediv_of_nonneg _ (by decide)]
   rfl]
  refine j_back rfl ?_
  refine ⟨k / 128, by omega, _, k / 128, _, _, rfl, rfl, ho6, ?_, by omega, rfl⟩
  rw [← hys, List.append_assoc, num_hi hk]
  rfl
 ·skip
  have hk : k < 128 := by
   simp only [bnA] at *
   omega
  refine j_q (qs_conv8 U64 U5 rfl) ?_
  rw [lo8, Nat.mod_eq_of_lt (show k < 256 by omega)]
  refine j_lit (vs := [.int .u8 _]) U33 sz5 zero5 rfl (by simp [oneV]) ⟨rfl, by decide⟩ (fun g8 v8 c8 hv8 hc8 ho8 => ?_)
  subst hv8 hc8
  refine j_append 1 U33 U33 (.inr ⟨_, rfl⟩) sb5 zero5 rfl ho' rfl (.inl ⟨_, _, rfl, rd_own (off := 0) (n := 1) 0 rfl rfl, rfl⟩) (by simp [oneV]) ⟨(by simp only [ints_length]; simp; omega), (by decide)⟩ (fun v9 c9 ho9 => ?_)
  refine j_subl (S' := [c9]) (by repeat first | exact slR _ | exact slN _ | apply slC | apply slD) ?_
  refine j_ret_con (vs := [_]) (fun w' hw' => ⟨rfl, trivial⟩) ?_
  refine ⟨_, rfl, ?_⟩
  rw [← hys, num_lo hk, ints_append]
  exact ho9
theorem pTake_con (n : Nat) (z : List UInt8) (v : Value) (w : World) (h : BR w v (num n ++ z)) (hn : n < 268435456) (hl : (num n ++ z).length ≤ 1000000000) : Con Tryz.prog 30 [v] w [] fun u _ => u = .tuple #[.int .u64 (n : Int), .int .i64 ((num n).length : Int)] := by
 refine con_of_tree mix Tryz.func30 T30_ok (by kernel_rfl) ?_
 unfold T30
 have hnl := num_len hn
 have hnp := num_pos n
 have hll : (num n ++ z).length = (num n).length + z.length := List.length_append
 rcases h with ⟨_, h⟩ | ⟨a, cap, hv, hcap, hbl, hcl⟩
 ·rw [h] at hll; simp at hll; omega
 subst hv
 refine j_q (qs_ac) ?_
 refine j_q (qs_ac) ?_
 refine j_q (qs_ac) ?_
 refine j_q (qs_lenl U33 rfl) ?_
 refine j_q (qs_mc) ?_
 refine j_loop (fun m vs S' => ∃ (i k acc : Nat), vs = [.int .u64 (acc : Int), .int .i64 (i : Int)] ∧ S' = [[]] ∧ (num n ++ z).drop i = num k ++ z ∧ i + (num k).length = (num n).length ∧ acc + k * 128 ^ i = n ∧ acc < 128 ^ i ∧ k = m) ⟨_, 0, n, 0, rfl, rfl, rfl, Nat.zero_add _, by simp, by simp, rfl⟩ ?_
 rintro m vs S' hlen ⟨i, k, acc, rfl, rfl, hdr, hlk, hacc, hlt, rfl⟩
 have hkp := num_pos k
 have hi3 : i ≤ 3 := by omega
 have hi : i < (num n ++ z).length := by omega
 have hp7 := pow7_le hi3
 have hp1 : 1 ≤ 128 ^ i := Nat.one_le_pow _ _ (by decide)
 have hkn : k ≤ n := by have := Nat.le_mul_of_pos_right k (show 0 < 128 ^ i by omega); omega
 have hg0 : (num n ++ z).getD i 0 = (num k ++ z).getD 0 0 := by rw [← hdr, List.getD_eq_getElem?_getD, List.getD_eq_getElem?_getD, List.getElem?_drop, Nat.add_zero]
 have hb := num_at hg0
 clear hg0
 have hkm : k * 128 ^ i ≤ n := by omega
 refine j_q (qs_lss rfl rfl) ?_
 refine j_cond rfl (fun hc0 => ?_) (fun hc0 => ?_)
 ·skip
  refine j_q (qs_ixl0 U33 sz5 rfl rfl ⟨(by first | omega | (simp only [bnA] at *; omega)), (by first | omega | (simp only [bnA] at *; omega))⟩) ?_
  refine j_q (qs_loadR (v := .int .u8 (((num n ++ z).getD i 0).toNat : Int)) (a := a) (i := i) (rd_cells hcl (by simp)) U5 rfl (by show Value.pointer (some (Addr.add a (i : Int).toNat)) = _; rw [Int.toNat_natCast]) (ints_get_lt hi)) ?_
  refine j_q (qs_eql rfl rfl) ?_
  refine j_cond rfl (fun hc1 => ?_) (fun hc1 => ?_)
  ·skip
   simp only [bnA] at *
   omega
  ·skip
   refine j_q (qs_lss rfl rfl) ?_
   refine j_cond rfl (fun hc2 => ?_) (fun hc2 => ?_)
   ·skip
    have hk : k < 128 := by
     by_cases hk : k < 128
     ·exact hk
     ·rw [if_neg hk] at hb
      rw [hb] at hc2
      simp at hc2
      omega
    rw [if_pos hk] at hb
    refine j_q (qs_eql rfl rfl) ?_
    refine j_g rfl (fun hb => qs_mt rfl) ?_
    refine j_g rfl (fun hb => qs_gtr (gd_eq hb) rfl) ?_
    refine j_q (qs_and rfl rfl) ?_
    refine j_cond rfl (fun hc3 => ?_) (fun hc3 => ?_)
    ·skip
     simp only [bnA] at *
     omega
    ·skip
     refine j_q (qs_conv U5 U64 rfl) ?_
     rw [hb, IntWalk.u64_in _ (by omega)]
     refine j_q (qs_mul64 rfl rfl (by first | omega | (simp only [bnA] at *; omega))) ?_
     refine j_q (qs_shl rfl rfl (by first | omega | (simp only [bnA] at *; omega))) ?_
     rw [shl7 hi3 hk]
     refine j_q (qs_or_ rfl rfl) ?_
     rw [bw_or_add (by rw [pow27]; exact hlt) (by omega) (by rw [pow27]; omega), pow27, hacc]
     refine j_q (qs_add64 rfl rfl (by first | omega | (simp only [bnA] at *; omega))) ?_
     refine j_ret_con (vs := [_, _]) (fun w' hw' => ⟨rfl, rfl, trivial⟩) ?_
     show Value.tuple #[_, Value.int .i64 ((i : Int) + 1)] = _
     rw [num_lo hk] at hlk
     rw [← hlk]
     rfl
   ·skip
    have hk : 128 ≤ k := by
     by_cases hk : k < 128
     ·rw [if_pos hk] at hb
      rw [hb] at hc2
      simp at hc2
      omega
     ·omega
    rw [if_neg (by omega)] at hb
    refine j_q (qs_and_ rfl rfl) ?_
    rw [and127, hb, show (k % 128 + 128) % 128 = k % 128 by omega]
    refine j_q (qs_conv U5 U64 rfl) ?_
    rw [IntWalk.u64_in _ (by omega)]
    refine j_q (qs_mul64 rfl rfl (by first | omega | (simp only [bnA] at *; omega))) ?_
    refine j_q (qs_shl rfl rfl (by first | omega | (simp only [bnA] at *; omega))) ?_
    rw [shl7 hi3 (by omega)]
    refine j_q (qs_or_ rfl rfl) ?_
    rw [bw_or_add (by rw [pow27]; exact hlt) (by omega) (by rw [pow27]; have := Nat.mul_le_mul_right (128 ^ i) (show k % 128 ≤ k by omega); omega), pow27]
    refine j_q (qs_add64 rfl rfl (by first | omega | (simp only [bnA] at *; omega))) ?_
    refine j_back rfl ?_
    have hsp : k = 128 * (k / 128) + k % 128 := (Nat.div_add_mod k 128).symm
    refine ⟨k / 128, by omega, i + 1, k / 128, _, rfl, rfl, ?_, ?_, ?_, ?_, rfl⟩
    ·rw [← List.drop_drop, hdr, num_hi hk]
     rfl
    ·rw [num_hi hk, List.length_cons] at hlk
     omega
    ·rw [Nat.pow_succ, ← hacc]
     have h8 : k / 128 * (128 ^ i * 128) = 128 * (k / 128) * 128 ^ i := by rw [Nat.mul_comm (128 ^ i) 128, ← Nat.mul_assoc, Nat.mul_comm (k / 128) 128]
     rw [h8, Nat.add_assoc, ← Nat.add_mul, Nat.add_comm (k % 128), ← hsp]
    ·rw [Nat.pow_succ]
     have := Nat.mul_le_mul_right (128 ^ i) (show k % 128 ≤ 127 by omega)
     omega
 ·skip
  simp only [bnA] at *
  omega
end Go.Proofs.YtfebkkmmagbnlaaGreatDoor
/-! Pg6 -/
namespace Go.Proofs.YtfebkkmmagbnlaaGreatDoor
open Go Go.Sx
set_option maxRecDepth 100000
set_option maxHeartbeats 4000000
set_option linter.unusedVariables false
set_option linter.unusedSimpArgs false
attribute [local irreducible] J JQ QS Con W opW
def recP (r : Nat × PE) : List UInt8 := num r.1 ++ ((if r.2.1 then 1 else 0) :: r.2.2)
theorem src_univ {e : TypeId} {sz : Nat} {xs : List Value} {v : Value} {c : SH} (h : Sx.Own e sz xs v c) (hz : 0 < sz) {m : Nat} (hm : xs.length = m * sz) (b : Base) (S : List SH) (k : Nat) (hk : S[k]? = some c) : Src b S sz v m xs := by
 obtain ⟨n, h1, h2⟩ := src_own (b := b) k h hk
 obtain rfl : n = m := Nat.eq_of_mul_eq_mul_right hz (h2.symm.trans hm)
 exact h1
theorem newA_lt {a : PAb} (h : freeI a.c < a.c.length) : newA a = layA a (freeI a.c) (true, []) := by
 unfold newA
 rw [if_pos h]
theorem newA_ge {a : PAb} (h : freeI a.c = a.c.length) : newA a = layA { a with c := a.c ++ [PE0] } a.c.length (true, []) := by
 unfold newA
 rw [if_neg (by omega), h]
theorem num_w {n : Nat} (h : n < 16384) : IntKind.u64.wrap (n : Int) = (n : Int) := by
 rw [IntKind.wrap_u64]
 omega
theorem pnew_con (p : PM) (w : World) (hok : p.Ok) (hlen : p.cur.length < 16384) : Con Tryz.prog 11 [p.ptr] w p.heap fun u S' => (if p.dead then u = .tuple #[.int .i64 0, .int .i64 26] else u = .tuple #[.int .i64 ((freeI p.c : Nat) : Int), .int .i64 0]) ∧ ∃ p' : PM, S' = [p'.heap] ∧ p'.Ok ∧ PM.Same p p' ∧ p'.ab = (if p.dead then p.ab else newA p.ab) := by
 refine con_of_tree mix Tryz.func11 T11_ok (by kernel_rfl) ?_
 unfold T11
 obtain ⟨A, cap, hcv, hA⟩ := row_form hok.o.cu
 have hrow0 := hok.o.cu
 rw [hcv] at hrow0
 have hfr := hok.fr
 have hfn : freeN p.c ≤ p.cur.length := by
  unfold freeN
  refine Nat.le_trans (List.length_filter_le _ _) ?_
  rw [c_len]
  exact Nat.le_refl _
 refine j_q (qs_ac) ?_
 refine j_q (qs_ac) ?_
 refine j_q (qs_call ent36 rfl rfl rfl (fun w' hw' => pmay_con p w' (PM.in_o (in_own hw' 0 rfl)) hok.o.wl hok.o.bl)) ?_
 refine j_q (qs_neq rfl rfl) ?_
 refine j_cond rfl (fun hc0 => ?_) (fun hc0 => ?_)
 ·skip
  have hd : p.dead = true := by
   cases hx : p.dead
   ·rw [hx] at hc0
    simp at hc0
   ·rfl
  refine j_q (qs_ac) ?_
  refine j_ret_con (vs := [_, _]) (fun w' hw' => ⟨rfl, rfl, trivial⟩) ?_
  rw [hd]
  exact ⟨rfl, p, rfl, hok, .refl p, rfl⟩
 ·skip
  have hd : p.dead = false := by
   cases hx : p.dead
   ·rfl
   ·rw [hx] at hc0
    simp at hc0
  refine j_perm (S' := [[(p.g, p.obj)], p.cc, p.lc, p.P]) (by simpa using perm_pm p) ?_
  refine j_q (qs_nil rfl) ?_
  refine j_q (qs_field U78 rfl sz69 (by decide) rfl) ?_
  refine j_q (qs_load (l := p.l) (v := .slice A p.cur.length cap) 0 U69 rfl rfl rfl (by rw [← hcv]; exact pl_cv)) ?_
  refine j_q (qs_lenl (n := p.cur.length) (A := A) (c := cap) U69 rfl) ?_
  refine j_q (qs_nil rfl) ?_
  refine j_q (qs_field U78 rfl sz3 (by decide) rfl) ?_
  refine j_q (qs_load (l := p.l) (v := .int .i64 p.free) 0 U3 rfl rfl rfl pl_free) ?_
  refine j_q (qs_gtr rfl rfl) ?_
  refine j_cond rfl (fun hc1 => ?_) (fun hc1 => ?_)
  ·skip
   have hF0 : freeI p.c < p.c.length := freeI_lt (by have := of_decide_eq_true hc1; omega)
   have hF : freeI p.c < p.cur.length := by rw [← c_len]; exact hF0
   obtain ⟨g, hg⟩ := hA (by omega)
   have hrow := hrow0
   rw [hg] at hrow
   refine j_q (qs_ac) ?_
   refine j_loop (fun m vs S' => ∃ i : Nat, vs = [.int .i64 (i : Int)] ∧ S' = [[(p.g, p.obj)], p.cc, p.lc, p.P] ∧ i ≤ freeI p.c ∧ m = freeI p.c - i) ⟨_, 0, rfl, rfl, Nat.zero_le _, rfl⟩ ?_
   rintro m vs S' hlen ⟨i, rfl, rfl, hi, rfl⟩
   have hi1 : i < p.cur.length := by omega
   refine j_q (qs_nil rfl) ?_
   refine j_q (qs_field U78 rfl sz69 (by decide) rfl) ?_
   refine j_q (qs_load (l := p.l) (v := .slice A p.cur.length cap) 0 U69 rfl rfl rfl (by rw [← hcv]; exact pl_cv)) ?_
   refine j_q (qs_ixn (g := g) (off := 0) (n := p.cur.length) (c := cap) (i := i) U69 sz92 (by rw [← hg]; rfl) rfl hi1) ?_
   refine j_q (qs_field U92 rfl sz4 (by decide) rfl) ?_
   refine j_q (qs_loadR (v := .bool (p.cur.getD i PV0).t) (a := ⟨g, 0, none⟩) (i := i * 2 + 0) (own_rd hrow 1 rfl) U4 rfl (congrArg (fun z => Value.pointer (some z)) (off2 g i 0)) (pv_get hi1 rfl)) ?_
   refine j_cond rfl (fun hc2 => ?_) (fun hc2 => ?_)
   ·skip
    have hne : i ≠ freeI p.c := fun e => by
     have h9 := freeI_at hF0
     rw [← e, c_get p hi1] at h9
     rw [show (p.cur.getD i PV0).t = false from h9] at hc2
     cases hc2
    refine j_q (qs_add64 rfl rfl (by first | omega | (simp only [bnA] at *; omega))) ?_
    refine j_back rfl ?_
    exact ⟨_, by omega, i + 1, rfl, rfl, by omega, rfl⟩
   ·skip
    obtain rfl : i = freeI p.c := by
     rcases Nat.lt_or_ge i (freeI p.c) with h | h
     ·have h9 := freeI_before h
      rw [c_get p hi1] at h9
      rw [show (p.cur.getD i PV0).t = true from h9] at hc2
      cases hc2
     ·omega
    refine j_q (qs_nil rfl) ?_
    refine j_q (qs_field U78 rfl sz3 (by decide) rfl) ?_
    refine j_q (qs_load (l := p.l) (v := .int .i64 p.free) 0 U3 rfl rfl rfl pl_free) ?_
    refine j_q (qs_sub64 rfl rfl (by omega)) ?_
    refine j_q (qs_nil rfl) ?_
    refine j_q (qs_field U78 rfl sz3 (by decide) rfl) ?_
    refine j_store (l := p.l) (i := 261) (v := .int .i64 (p.free - 1)) 0 sz3 rfl rfl rfl rfl (by rw [pl_len hok.o.wl hok.o.bl]; decide) (by simp) ?_
    rw [pl_set_free]
    refine j_subl (S' := [[(p.g, (p.withF (p.free - 1)).obj)], p.cc, p.lc, p.P]) (by repeat first | exact slR _ | exact slN _ | apply slC | apply slD) ?_
    refine j_perm (S' := [(p.withF (p.free - 1)).heap]) (by simp [PM.heap, PM.withF]) ?_
    refine j_q (qs_run (v := .agg (encP ⟨true, nilS, []⟩).toArray) (fun w => by kernel_rfl)) ?_
    refine j_call 0 ent37 rfl rfl rfl rfl (fun w' hw' => lay_con (p.withF (p.free - 1)) (freeI p.c) ⟨true, nilS, []⟩ w' (withF_ok hok.o _) hF ⟨[], own_nil, (fun q hq => by cases hq), Nat.zero_le _⟩) (fun u S2 hu => ?_)
    obtain ⟨rfl, cc, rfl, hlo⟩ := hu
    refine j_subl (S' := [((p.withF (p.free - 1)).lay (freeI p.c) ⟨true, nilS, []⟩ cc).heap]) (by repeat first | exact slR _ | exact slN _ | apply slC | apply slD) ?_
    refine j_q (qs_ac) ?_
    refine j_ret_con (vs := [_, _]) (fun w' hw' => ⟨rfl, rfl, trivial⟩) ?_
    rw [hd]
    refine ⟨rfl, _, rfl, ⟨hlo, ?_⟩, ⟨rfl, rfl, rfl, rfl⟩, ?_⟩
    ·rw [lay_c]
     have h9 := freeN_set (l := p.c) hF0 (true, [])
     rw [freeI_at hF0] at h9
     show p.free - 1 = ((freeN (p.c.set (freeI p.c) (true, [])) : Nat) : Int)
     simp only [Bool.false_eq_true, if_false, if_true] at h9
     omega
    ·rw [lay_ab]
     exact (newA_lt (a := p.ab) hF0).symm
  ·skip
   have hf0 : freeN p.c = 0 := by have := of_decide_eq_false hc1; omega
   have hF := freeI_ge hf0
   refine j_q (qs_geq rfl rfl) ?_
   refine j_cond rfl (fun hc3 => ?_) (fun hc3 => ?_)
   ·skip
    have := of_decide_eq_true hc3
    omega
   ·skip
    refine j_q (qs_nil rfl) ?_
    refine j_q (qs_field U78 rfl sz69 (by decide) rfl) ?_
    refine j_q (qs_load (l := p.l) (v := .slice A p.cur.length cap) 0 U69 rfl rfl rfl (by rw [← hcv]; exact pl_cv)) ?_
    refine j_q (qs_run (v := .agg (encP PV0).toArray) (fun w => by kernel_rfl)) ?_
    refine j_litw (vs := encP PV0) U69 sz92 zero92 rfl rfl ⟨rfl, by decide, by decide⟩ (fun g38 hg38 ho38 => ?_)
    refine j_append 2 U69 U69 (.inr ⟨_, rfl⟩) sb92 zero92 rfl hrow0 rfl (src_univ ho38 (by decide) (m := 1) rfl _ _ 0 rfl) (enc_one (pv0_ok [])) ⟨(by rw [flat_len encP_len]; simp [encP]; omega), (by decide)⟩ (fun v39 c39 ho39 => ?_)
    refine j_q (qs_nil rfl) ?_
    refine j_q (qs_field U78 rfl sz69 (by decide) rfl) ?_
    refine j_store (l := p.l) (i := 260) (v := v39) 1 sz69 rfl rfl (own_one ho39 (by decide)) rfl (by rw [pl_len hok.o.wl hok.o.bl]; decide) (by simp) ?_
    rw [pl_set_cv]
    refine j_subl (S' := [[(p.g, (p.more v39 c39).obj)], c39, p.lc, p.P]) (by repeat first | exact slR _ | exact slN _ | apply slC | apply slD) ?_
    refine j_perm (S' := [(p.more v39 c39).heap]) (by simp [PM.heap, PM.more]) ?_
    refine j_q (qs_run (v := .agg (encP ⟨true, nilS, []⟩).toArray) (fun w => by kernel_rfl)) ?_
    have hmo : (p.more v39 c39).Ok0 := more_ok hok.o hlen (by rw [List.map_append, List.flatten_append]; simpa using ho39)
    refine j_call 0 ent37 rfl rfl rfl rfl (fun w' hw' => lay_con (p.more v39 c39) p.cur.length ⟨true, nilS, []⟩ w' hmo (by show p.cur.length < (p.cur ++ [PV0]).length; rw [List.length_append, List.length_singleton]; omega) ⟨[], own_nil, (fun q hq => by cases hq), Nat.zero_le _⟩) (fun u S2 hu => ?_)
    obtain ⟨rfl, cc, rfl, hlo⟩ := hu
    refine j_subl (S' := [((p.more v39 c39).lay p.cur.length ⟨true, nilS, []⟩ cc).heap]) (by repeat first | exact slR _ | exact slN _ | apply slC | apply slD) ?_
    refine j_q (qs_ac) ?_
    refine j_ret_con (vs := [_, _]) (fun w' hw' => ⟨rfl, rfl, trivial⟩) ?_
    rw [hd]
    refine ⟨by rw [hF, c_len]; rfl, _, rfl, ⟨hlo, ?_⟩, ⟨rfl, rfl, rfl, rfl⟩, ?_⟩
    ·rw [lay_c, more_c]
     have h9 := freeN_set (l := p.c ++ [PE0]) (n := p.cur.length) (by rw [List.length_append, List.length_singleton, c_len]; omega) (true, [])
     rw [freeN_snoc, ← c_len, List.getD_eq_getElem?_getD, List.getElem?_append_right (Nat.le_refl _), Nat.sub_self] at h9
     simp only [List.getElem?_cons_zero, Option.getD_some, PE0, Bool.false_eq_true, if_false, if_true] at h9
     show p.free = ((freeN ((p.c ++ [PE0]).set p.cur.length (true, [])) : Nat) : Int)
     rw [← c_len]
     simp only [PE0]
     omega
    ·rw [lay_ab, newA_ge (a := p.ab) hF]
     have e : (p.more v39 c39).ab = { p.ab with c := p.ab.c ++ [PE0] } := by
      unfold PM.ab
      rw [more_c]
      rfl
     rw [e, show p.ab.c.length = p.cur.length from c_len p]
     rfl
theorem pfree_con (p : PM) (n : Int) (w : World) (hok : p.Ok) (hn : -9223372036854775808 ≤ n ∧ n ≤ 9223372036854775807) : Con Tryz.prog 13 [p.ptr, .int .i64 n] w p.heap fun u S' => u = .int .i64 (frE p.ab n) ∧ ∃ p' : PM, S' = [p'.heap] ∧ p'.Ok ∧ PM.Same p p' ∧ p'.ab = frA p.ab n := by
 refine con_of_tree mix Tryz.func13 T13_ok (by kernel_rfl) ?_
 unfold T13
 have hfr := hok.fr
 have hnl := hok.o.nl.1
 have hfn : freeN p.c ≤ p.cur.length := by
  unfold freeN
  refine Nat.le_trans (List.length_filter_le _ _) ?_
  rw [c_len]
  exact Nat.le_refl _
 refine j_q (qs_ac) ?_
 refine j_q (qs_call ent36 rfl rfl rfl (fun w' hw' => pmay_con p w' (PM.in_o (in_own hw' 0 rfl)) hok.o.wl hok.o.bl)) ?_
 refine j_q (qs_neq rfl rfl) ?_
 refine j_cond rfl (fun hc0 => ?_) (fun hc0 => ?_)
 ·skip
  have hd : p.dead = true := by
   cases hx : p.dead
   ·rw [hx] at hc0
    simp at hc0
   ·rfl
  refine j_ret_con (vs := [_]) (fun w' hw' => ⟨rfl, trivial⟩) ?_
  have e : frE p.ab n = 26 := by simp [frE, PM.ab, hd]
  rw [e, hd]
  exact ⟨rfl, p, rfl, hok, .refl p, by rw [frA, e]; rfl⟩
 ·skip
  have hd : p.dead = false := by
   cases hx : p.dead
   ·rfl
   ·rw [hx] at hc0
    simp at hc0
  refine j_q (qs_call ent38 rfl rfl rfl (fun w' hw' => has_con p n w' (in_own hw' 0 rfl) hok.o hn)) ?_
  refine j_q (qs_not rfl) ?_
  refine j_cond rfl (fun hc1 => ?_) (fun hc1 => ?_)
  ·skip
   have hh : hasB p.c n = false := by simpa using hc1
   refine j_q (qs_ac) ?_
   refine j_ret_con (vs := [_]) (fun w' hw' => ⟨rfl, trivial⟩) ?_
   have e : frE p.ab n = 7 := by simp [frE, PM.ab, hd, hh]
   rw [e]
   exact ⟨rfl, p, rfl, hok, .refl p, by rw [frA, e]; rfl⟩
  ·skip
   have hh : hasB p.c n = true := by simpa using hc1
   have hb := hasB_b hh
   have hb9 := hb.2.1
   rw [c_len] at hb9
   refine j_q (qs_run (v := .agg (encP PV0).toArray) (fun w => by kernel_rfl)) ?_
   rw [show (Value.int IntKind.i64 n) = .int .i64 ((n.toNat : Nat) : Int) by rw [Int.toNat_of_nonneg hb.1]]
   refine j_call 0 ent37 rfl rfl rfl rfl (fun w' hw' => lay_con p n.toNat PV0 w' hok.o hb9 (pv0_ok _)) (fun u S2 hu => ?_)
   obtain ⟨rfl, cc, rfl, hlo⟩ := hu
   refine j_subl (S' := [(p.lay n.toNat PV0 cc).heap]) (by repeat first | exact slR _ | exact slN _ | apply slC | apply slD) ?_
   refine j_q (qs_nil rfl) ?_
   refine j_q (qs_field U78 rfl sz3 (by decide) rfl) ?_
   refine j_perm (S' := [[(p.g, (p.lay n.toNat PV0 cc).obj)], (p.lay n.toNat PV0 cc).cc, (p.lay n.toNat PV0 cc).lc, (p.lay n.toNat PV0 cc).P]) (show ([(p.lay n.toNat PV0 cc).heap] : List SH).flatten.Perm ([[((p.lay n.toNat PV0 cc).g, (p.lay n.toNat PV0 cc).obj)], (p.lay n.toNat PV0 cc).cc, (p.lay n.toNat PV0 cc).lc, (p.lay n.toNat PV0 cc).P] : List SH).flatten by simpa using perm_pm (p.lay n.toNat PV0 cc)) ?_
   refine j_q (qs_load (l := (p.lay n.toNat PV0 cc).l) (v := .int .i64 p.free) 0 U3 rfl rfl rfl pl_free) ?_
   refine j_q (qs_add64 rfl rfl (by omega)) ?_
   refine j_q (qs_nil rfl) ?_
   refine j_q (qs_field U78 rfl sz3 (by decide) rfl) ?_
   refine j_store (l := (p.lay n.toNat PV0 cc).l) (i := 261) (v := .int .i64 (p.free + 1)) 0 sz3 rfl rfl rfl rfl (by rw [pl_len hlo.wl hlo.bl]; decide) (by simp) ?_
   rw [pl_set_free]
   refine j_subl (S' := [[(p.g, ((p.lay n.toNat PV0 cc).withF (p.free + 1)).obj)], (p.lay n.toNat PV0 cc).cc, (p.lay n.toNat PV0 cc).lc, (p.lay n.toNat PV0 cc).P]) (by repeat first | exact slR _ | exact slN _ | apply slC | apply slD) ?_
   refine j_perm (S' := [((p.lay n.toNat PV0 cc).withF (p.free + 1)).heap]) (by simp [PM.heap, PM.withF, PM.lay]) ?_
   refine j_q (qs_ac) ?_
   refine j_ret_con (vs := [_]) (fun w' hw' => ⟨rfl, trivial⟩) ?_
   have e : frE p.ab n = 0 := by simp [frE, PM.ab, hd, hh]
   rw [e]
   refine ⟨rfl, _, rfl, ⟨withF_ok hlo _, ?_⟩, ⟨rfl, rfl, rfl, rfl⟩, ?_⟩
   ·have h9 := freeN_set (l := p.c) hb.2.1 PE0
    rw [hb.2.2] at h9
    show p.free + 1 = ((freeN ((p.lay n.toNat PV0 cc).c) : Nat) : Int)
    rw [lay_c]
    simp only [PE0, Bool.false_eq_true, if_false, if_true] at h9
    show p.free + 1 = ((freeN (p.c.set n.toNat (false, [])) : Nat) : Int)
    omega
   ·show (p.lay n.toNat PV0 cc).ab = _
    rw [lay_ab, frA, e]
    rfl
theorem record_con (n : Nat) (x : PV) (w : World) (hn : n < 16384) (hbr : BR w x.v x.xs) (hxl : x.xs.length ≤ 100000) : Con Tryz.prog 70 [.int .i64 (n : Int), .agg (encP x).toArray] w [] fun u S' => ∃ c, S' = [c] ∧ Sx.Own 5 1 (ints (recP (n, x.pe))) u c := by
 refine con_of_tree mix Tryz.func70 T70_ok (by kernel_rfl) ?_
 unfold T70
 obtain ⟨bA, bcp, hbf, _⟩ := br_form hbr
 have hnl := num_len (show n < 268435456 by omega)
 rw [hbf] at hbr
 refine j_box (l := encP x) rfl (fun g0 hg0 hs0 => ?_)
 refine j_q (qs_ac) ?_
 refine j_q (qs_conv U3 U64 rfl) ?_
 rw [num_w hn]
 refine j_call0 ent74 rfl rfl rfl (fun w' hw' => pAppend_con [] n nilS [] w' own_nil (by omega) (by decide)) (fun u3 S2 hu => ?_)
 obtain ⟨c3, rfl, ho3⟩ := hu
 rw [List.nil_append] at ho3
 refine j_subl (S' := [c3, [(g0, .cells (encP x).toArray 92 (0, 0))]]) (by repeat first | exact slR _ | exact slN _ | apply slC | apply slD) ?_
 refine j_perm (S' := [[(g0, .cells (encP x).toArray 92 (0, 0))], c3]) (by
  classical
  refine List.perm_iff_count.2 fun x => ?_
  simp only [List.set, List.flatten_cons, List.flatten_nil, List.append_nil, List.nil_append, List.cons_append, List.count_append, List.count_cons, List.count_nil]
  all_goals omega) ?_
 refine j_q (qs_ac) ?_
 refine j_q (qs_field U92 rfl sz4 (by decide) rfl) ?_
 refine j_q (qs_load (l := encP x) 0 U4 rfl rfl rfl rfl) ?_
 refine j_cond rfl (fun hc0 => ?_) (fun hc0 => ?_)
 ·skip
  have ht : x.t = true := hc0
  refine j_q (qs_ac) ?_
  refine j_mix [[(g0, .cells (encP x).toArray 92 (0, 0))]] (Le.of_sub (by repeat first | exact slR _ | exact slN _ | apply slC | apply slD)) ?_
  refine j_mq (qs_field U92 rfl sz33 (by decide) rfl) ?_
  refine j_mq (qs_load (l := encP x) (v := .slice bA x.xs.length bcp) 0 U33 rfl rfl rfl (by rw [← hbf]; rfl)) ?_
  refine j_lit (vs := [.int .u8 1]) U33 sz5 zero5 rfl (by simp [oneV]) ⟨rfl, by decide⟩ (fun g10 v10 c10 hv10 hc10 ho10 => ?_)
  subst hv10 hc10
  refine j_mD0 (Le.of_sub (by repeat first | exact slR _ | exact slN _ | apply slC | apply slD)) ?_
  refine j_append 2 U33 U33 (.inr ⟨_, rfl⟩) sb5 zero5 rfl ho3 rfl (.inl ⟨_, _, rfl, rd_own (off := 0) (n := 1) 0 rfl rfl, rfl⟩) (by simp [oneV]) ⟨(by simp [ints_length]; omega), (by decide)⟩ (fun v11 c11 ho11 => ?_)
  refine j_mD0 (Le.of_sub (by repeat first | exact slR _ | exact slN _ | apply slC | apply slD)) ?_
  refine j_append 2 U33 U33 (.inr ⟨_, rfl⟩) sb5 zero5 rfl ho11 rfl (br_srcD hbr (fun z mm c e h0 => by simp [dom])) ints_one ⟨(by simp [ints_length]; omega), (by decide)⟩ (fun v12 c12 ho12 => ?_)
  refine j_mR _ (.refl _) ?_
  refine j_mend ?_
  refine j_subl (S' := [c12]) (by repeat first | exact slR _ | exact slN _ | apply slC | apply slD) ?_
  refine j_ret_con (vs := [_]) (fun w' hw' => ⟨rfl, trivial⟩) ?_
  refine ⟨c12, rfl, ?_⟩
  have e : ints (recP (n, x.pe)) = ints (num n) ++ [.int .u8 1] ++ ints x.xs := by
   unfold recP PV.pe
   rw [ht]
   simp [ints]
  rw [e]
  exact ho12
 ·skip
  have ht : x.t = false := hc0
  refine j_mix [[(g0, .cells (encP x).toArray 92 (0, 0))]] (Le.of_sub (by repeat first | exact slR _ | exact slN _ | apply slC | apply slD)) ?_
  refine j_mq (qs_field U92 rfl sz33 (by decide) rfl) ?_
  refine j_mq (qs_load (l := encP x) (v := .slice bA x.xs.length bcp) 0 U33 rfl rfl rfl (by rw [← hbf]; rfl)) ?_
  refine j_lit (vs := [.int .u8 0]) U33 sz5 zero5 rfl (by simp [oneV]) ⟨rfl, by decide⟩ (fun g15 v15 c15 hv15 hc15 ho15 => ?_)
  subst hv15 hc15
  refine j_mD0 (Le.of_sub (by repeat first | exact slR _ | exact slN _ | apply slC | apply slD)) ?_
  refine j_append 2 U33 U33 (.inr ⟨_, rfl⟩) sb5 zero5 rfl ho3 rfl (.inl ⟨_, _, rfl, rd_own (off := 0) (n := 1) 0 rfl rfl, rfl⟩) (by simp [oneV]) ⟨(by simp [ints_length]; omega), (by decide)⟩ (fun v16 c16 ho16 => ?_)
  refine j_mD0 (Le.of_sub (by repeat first | exact slR _ | exact slN _ | apply slC | apply slD)) ?_
  refine j_append 2 U33 U33 (.inr ⟨_, rfl⟩) sb5 zero5 rfl ho16 rfl (br_srcD hbr (fun z mm c e h0 => by simp [dom])) ints_one ⟨(by simp [ints_length]; omega), (by decide)⟩ (fun v17 c17 ho17 => ?_)
  refine j_mR _ (.refl _) ?_
  refine j_mend ?_
  refine j_subl (S' := [c17]) (by repeat first | exact slR _ | exact slN _ | apply slC | apply slD) ?_
  refine j_ret_con (vs := [_]) (fun w' hw' => ⟨rfl, trivial⟩) ?_
  refine ⟨c17, rfl, ?_⟩
  have e : ints (recP (n, x.pe)) = ints (num n) ++ [.int .u8 0] ++ ints x.xs := by
   unfold recP PV.pe
   rw [ht]
   simp [ints]
  rw [e]
  exact ho17
end Go.Proofs.YtfebkkmmagbnlaaGreatDoor
/-! Pg7 -/
namespace Go.Proofs.YtfebkkmmagbnlaaGreatDoor
open Go Go.Sx
set_option maxRecDepth 100000
set_option maxHeartbeats 4000000
set_option linter.unusedVariables false
set_option linter.unusedSimpArgs false
attribute [local irreducible] J JQ QS Con W opW
def PM.grow (p : PM) (v : Value) (c : SH) (j : Nat) : PM := { p with cv := v, cc := c, cur := p.cur ++ List.replicate j PV0 }
def PM.took (p : PM) (v : Value) (cc : SH) (j n : Nat) (x : PV) (c : SH) : PM := { p with cv := v, cc := cc, cur := (p.cur ++ List.replicate j PV0).set n x, P := c ++ p.P }
theorem took_ok {p : PM} (h : p.Ok0) {v : Value} {cc : SH} {j n : Nat} {x : PV} {c : SH} (hj : p.cur.length + j ≤ 16384) (hx : PVok (c ++ p.P) x) (ho : Sx.Own 92 2 ((((p.cur ++ List.replicate j PV0).set n x).map encP).flatten) v cc) : (p.took v cc j n x c).Ok0 := by
 refine ⟨ho, h.la, fun y hy => ?_, (fun y hy => (h.pl y hy).mono fun q hq => List.mem_append_right _ hq), h.wl, h.wb, h.bl, ⟨by show ((p.cur ++ List.replicate j PV0).set n x).length ≤ _; rw [List.length_set, List.length_append, List.length_replicate]; omega, h.nl.2⟩, h.nm⟩
 rcases List.mem_or_eq_of_mem_set hy with hy | rfl
 ·rcases List.mem_append.1 hy with hy | hy
  ·exact (h.pc y hy).mono fun q hq => List.mem_append_right _ hq
  ·rw [(List.mem_replicate.1 hy).2]
   exact pv0_ok _
 ·exact hx
theorem took_c (p : PM) (v : Value) (cc : SH) (j n : Nat) (x : PV) (c : SH) (hj : j = n + 1 - p.cur.length) : (p.took v cc j n x c).c = applyP p.c n x.pe := by
 unfold PM.c PM.took applyP
 rw [List.map_set, List.map_append, List.map_replicate, hj, List.length_map]
 rfl
theorem recP_len (n : Nat) (x : PE) : (recP (n, x)).length = (num n).length + (x.2.length + 1) := by
 unfold recP
 rw [List.length_append, List.length_cons]
theorem recP_at (n : Nat) (x : PE) : (recP (n, x)).getD (num n).length 0 = if x.1 then 1 else 0 := by
 unfold recP
 rw [List.getD_eq_getElem?_getD, List.getElem?_append_right (Nat.le_refl _), Nat.sub_self]
 rfl
theorem recP_tail (n : Nat) (x : PE) : (recP (n, x)).drop ((num n).length + 1) = x.2 := by
 show (num n ++ ((if x.1 then 1 else 0) :: x.2)).drop ((num n).length + 1) = x.2
 rw [List.drop_append, List.drop_eq_nil_of_le (by omega), List.nil_append, Nat.add_sub_cancel_left]
 rfl
theorem flag_int (b : Bool) : (((if b then 1 else 0 : UInt8).toNat : Nat) : Int) = if b then 1 else 0 := by cases b <;> rfl
theorem reads_con (p : PM) (n : Nat) (x : PE) (bv : Value) (w : World) (hok : p.Ok0) (hn : n < 16384) (hbr : BR w bv (recP (n, x))) (hbd : ∀ (a : Addr) (m c : Nat), bv = .slice (some a) m c → 0 < m → a.block ∉ dom p.heap) (hxl : x.2.length ≤ 100000) : Con Tryz.prog 31 [p.ptr, bv] w p.heap fun u S' => u = .bool true ∧ ∃ p' : PM, S' = [p'.heap] ∧ p'.Ok0 ∧ PM.Same p p' ∧ p'.ab = { p.ab with c := applyP p.c n x } ∧ p'.free = p.free ∧ p'.bh = p.bh := by
 refine con_of_tree mix Tryz.func31 T31_ok (by kernel_rfl) ?_
 unfold T31
 have hnum := num_len (show n < 268435456 by omega)
 have hnp := num_pos n
 have hrl := recP_len n x
 obtain ⟨bA, bcp, hbf, hbc0⟩ := br_form hbr
 rcases hbr with ⟨h1, h2⟩ | ⟨ab, bcp2, h1, h2, h3, h4⟩
 ·rw [h2] at hrl
  simp at hrl
 obtain ⟨rfl, rfl⟩ : bA = some ab ∧ bcp = bcp2 := by
  rw [hbf] at h1
  injection h1 with e1 e2 e3
  exact ⟨e1, e3⟩
 subst hbf
 have hab : (some ab : Option Addr) = some ab := rfl
 have hbc := h4
 have hbD : ab.block ∉ dom p.heap := hbd _ _ _ rfl (by omega)
 have hbr0 : BR w (.slice (some ab) (recP (n, x)).length bcp) (recP (n, x)) := .inr ⟨ab, bcp, rfl, h2, h3, h4⟩
 have hnl0 := hok.nl.1
 refine j_perm (S' := [[(p.g, p.obj)], p.cc, p.lc, p.P]) (by simpa using perm_pm p) ?_
 refine j_q (qs_ac) ?_
 refine j_q (qs_call ent30 rfl rfl rfl (fun w' hw' => pTake_con n ((if x.1 then 1 else 0) :: x.2) _ w' (br_keep hbr0 hbd hw') (by omega) (by show (recP (n, x)).length ≤ _; omega))) ?_
 refine j_q (qs_ext (vs := [.int .u64 (n : Int), .int .i64 ((num n).length : Int)]) rfl rfl) ?_
 refine j_q (qs_ext (vs := [.int .u64 (n : Int), .int .i64 ((num n).length : Int)]) rfl rfl) ?_
 refine j_q (qs_leq rfl rfl) ?_
 rw [decide_eq_false (show ¬ ((num n).length : Int) ≤ 0 by omega)]
 refine j_gt rfl (qs_mt rfl) ?_
 refine j_gt rfl (qs_geq rfl rfl) ?_
 rw [decide_eq_false (show ¬ (n : Int) ≥ 16384 by omega)]
 refine j_q (v := .bool false) (qs_or (b0 := false) (b1 := false) rfl rfl) ?_
 refine j_gt rfl (qs_mt rfl) ?_
 refine j_gt rfl (qs_lenl (n := (recP (n, x)).length) (A := some ab) (c := bcp) U33 rfl) ?_
 refine j_gt rfl (qs_mt rfl) ?_
 refine j_gt rfl (qs_leq rfl rfl) ?_
 rw [decide_eq_false (show ¬ ((recP (n, x)).length : Int) ≤ ((num n).length : Int) by omega)]
 refine j_q (v := .bool false) (qs_or (b0 := false) (b1 := false) rfl rfl) ?_
 refine j_gt rfl (qs_mt rfl) ?_
 refine j_gt rfl (qs_mt rfl) ?_
 refine j_gt rfl (qs_ixl0 (a := ab) (n := (recP (n, x)).length) (c := bcp) U33 sz5 (by rw [← hab]; rfl) rfl (by omega)) ?_
 refine j_gt rfl (qs_loadr8 (a := ab) (i := (num n).length) (l := recP (n, x)) (rd_cells hbc hbD) U5 (by show Value.pointer (some (ab.add (((num n).length : Int)).toNat)) = _; rw [Int.toNat_natCast]) (by omega)) ?_
 rw [recP_at, flag_int]
 refine j_gt rfl (qs_gtr rfl rfl) ?_
 rw [decide_eq_false (show ¬ (if x.1 then (1 : Int) else 0) > 1 by split <;> omega)]
 refine j_q (v := .bool false) (qs_or (b0 := false) (b1 := false) rfl rfl) ?_
 refine j_cond rfl (fun hc0 => ?_) (fun hc0 => ?_)
 ·skip
  simp at hc0
 ·skip
  refine j_loop (fun m vs S' => ∃ (j : Nat) (v : Value) (c : SH), vs = [] ∧ S' = [[(p.g, (p.grow v c j).obj)], c, p.lc, p.P] ∧ Sx.Own 92 2 (((p.cur ++ List.replicate j PV0).map encP).flatten) v c ∧ (j = 0 ∨ p.cur.length + j ≤ n + 1) ∧ m = n + 1 - (p.cur.length + j)) ⟨_, 0, p.cv, p.cc, rfl, rfl, (by rw [List.replicate_zero, List.append_nil]; exact hok.cu), .inl rfl, rfl⟩ ?_
  rintro m vs S' hlen ⟨j, v, c, rfl, rfl, ho, hj, rfl⟩
  have hj2 : p.cur.length + j ≤ 16384 := by omega
  obtain ⟨A, cap, hcv, hA⟩ := row_form ho
  rw [List.length_append, List.length_replicate] at hcv hA
  have hrow0 := ho
  rw [hcv] at hrow0
  refine j_q (qs_nil rfl) ?_
  refine j_q (qs_field U78 rfl sz69 (by decide) rfl) ?_
  refine j_q (qs_load (l := (p.grow v c j).l) (v := .slice A (p.cur.length + j) cap) 0 U69 rfl rfl rfl (by rw [← hcv]; exact pl_cv)) ?_
  refine j_q (qs_lenl (n := p.cur.length + j) (A := A) (c := cap) U69 rfl) ?_
  refine j_q (qs_conv U3 U64 rfl) ?_
  rw [show IntKind.u64.wrap ((p.cur.length + j : Nat) : Int) = ((p.cur.length + j : Nat) : Int) by rw [IntKind.wrap_u64]; omega]
  refine j_q (qs_leq rfl rfl) ?_
  refine j_cond rfl (fun hc1 => ?_) (fun hc1 => ?_)
  ·skip
   have hle : p.cur.length + j ≤ n := by
    have := of_decide_eq_true hc1
    omega
   refine j_q (qs_nil rfl) ?_
   refine j_q (qs_field U78 rfl sz69 (by decide) rfl) ?_
   refine j_q (qs_load (l := (p.grow v c j).l) (v := .slice A (p.cur.length + j) cap) 0 U69 rfl rfl rfl (by rw [← hcv]; exact pl_cv)) ?_
   refine j_q (qs_run (v := .agg (encP PV0).toArray) (fun w => by kernel_rfl)) ?_
   refine j_litw (vs := encP PV0) U69 sz92 zero92 rfl rfl ⟨rfl, by decide, by decide⟩ (fun g30 hg30 ho30 => ?_)
   refine j_append 2 U69 U69 (.inr ⟨_, rfl⟩) sb92 zero92 rfl hrow0 rfl (src_univ ho30 (by decide) (m := 1) rfl _ _ 0 rfl) (enc_one (pv0_ok [])) ⟨(by rw [flat_len encP_len, List.length_append, List.length_replicate]; simp [encP]; omega), (by decide)⟩ (fun v31 c31 ho31 => ?_)
   refine j_q (qs_nil rfl) ?_
   refine j_q (qs_field U78 rfl sz69 (by decide) rfl) ?_
   refine j_store (l := (p.grow v c j).l) (i := 260) (v := v31) 1 sz69 rfl rfl (own_one ho31 (by decide)) rfl (by show 260 < (pl p.fp p.name p.jp v p.free p.lv p.ws p.bh p.dead).length; rw [pl_len hok.wl hok.bl]; decide) (by simp) ?_
   rw [pl_set_cv]
   refine j_subl (S' := [[(p.g, (p.grow v31 c31 (j + 1)).obj)], c31, p.lc, p.P]) (by repeat first | exact slR _ | exact slN _ | apply slC | apply slD) ?_
   refine j_back rfl ?_
   exact ⟨_, by omega, j + 1, v31, c31, rfl, rfl, by rw [List.replicate_succ', ← List.append_assoc, List.map_append, List.flatten_append]; simpa using ho31, .inr (by omega), rfl⟩
  ·skip
   have hnl : n < p.cur.length + j := by
    have := of_decide_eq_false hc1
    omega
   obtain ⟨g, hg⟩ := hA (by omega)
   have hrow := hrow0
   rw [hg] at hrow
   refine j_mix [[(p.g, (p.grow v c j).obj)]] (Le.of_sub (by repeat first | exact slR _ | exact slN _ | apply slC | apply slD)) ?_
   refine j_mq (qs_nil rfl) ?_
   refine j_mq (qs_field U78 rfl sz69 (by decide) rfl) ?_
   refine j_mq (qs_load (l := (p.grow v c j).l) (v := .slice A (p.cur.length + j) cap) 0 U69 rfl rfl rfl (by rw [← hcv]; exact pl_cv)) ?_
   refine j_mq (qs_ixl0 (a := ab) (n := (recP (n, x)).length) (c := bcp) U33 sz5 (by rw [← hab]; rfl) rfl (by omega)) ?_
   refine j_mq (qs_loadr8 (a := ab) (i := (num n).length) (l := recP (n, x)) (rd_cells hbc hbD) U5 (by show Value.pointer (some (ab.add (((num n).length : Int)).toNat)) = _; rw [Int.toNat_natCast]) (by omega)) ?_
   rw [recP_at, flag_int]
   refine j_mq (qs_eql rfl rfl) ?_
   rw [show ((if x.1 then (1 : Int) else 0) == 1) = x.1 by cases x.1 <;> rfl]
   refine j_mq (qs_add64 rfl rfl (by first | omega | (simp only [bnA] at *; omega))) ?_
   refine j_mq (qs_cutl (a := (num n).length + 1) (z := (recP (n, x)).length) U33 sz5 rfl ⟨.i64, rfl⟩ rfl (by omega) (by omega)) ?_
   refine j_call0 ent39 rfl rfl rfl (fun w' hw' => cloneO_con _ x.2 w' (by
    have h9 := br_sub (br_keep hbr0 hbd hw') ((num n).length + 1) (recP (n, x)).length (by omega) (Nat.le_refl _)
    rw [List.take_length, recP_tail] at h9
    exact h9) (by omega)) (fun u9 S2 hu => ?_)
   obtain ⟨c43, rfl, ho43⟩ := hu
   obtain ⟨n9, A9, cap9, rfl, _⟩ := own_form ho43 (by decide)
   refine j_perm (S' := [c43, [(p.g, (p.grow v c j).obj)], c, p.lc, p.P]) (by
    classical
    refine List.perm_iff_count.2 fun x => ?_
    simp only [List.set, List.flatten_cons, List.flatten_nil, List.append_nil, List.nil_append, List.cons_append, List.count_append, List.count_cons, List.count_nil]
    all_goals omega) ?_
   refine j_mD0 (Le.of_sub (by repeat first | exact slR _ | exact slN _ | apply slC | apply slD)) ?_
   refine j_mq (qs_run (v := .agg (encP ⟨x.1, .slice A9 n9 cap9, x.2⟩).toArray) (fun w => by kernel_rfl)) ?_
   refine j_mq (qs_ixn (g := g) (off := 0) (n := p.cur.length + j) (c := cap) (i := n) U69 sz92 (by rw [← hg]; rfl) rfl hnl) ?_
   refine j_storerecw (g := g) (i := n) (rs := p.cur ++ List.replicate j PV0) ⟨x.1, .slice A9 n9 cap9, x.2⟩ 2 encP_len hrow rfl (by rw [List.length_append, List.length_replicate]; exact hnl) sz92 rfl rfl (fun u hu => by
    rcases List.mem_cons.1 hu with rfl | hu
    ·rfl
    ·rw [List.mem_singleton.1 hu]
     rfl) (fun c6 ho6 => ?_)
   refine j_subl (S' := [c43, [(p.g, (p.grow v c j).obj)], c6, p.lc, p.P]) (by repeat first | exact slR _ | exact slN _ | apply slC | apply slD) ?_
   refine j_mR _ (.refl _) ?_
   refine j_mend ?_
   refine j_q (qs_ac) ?_
   refine j_perm (S' := [(p.took v c6 j n ⟨x.1, .slice A9 n9 cap9, x.2⟩ c43).heap]) (by
    have e : (p.took v c6 j n ⟨x.1, .slice A9 n9 cap9, x.2⟩ c43).heap = (p.g, (p.grow v c j).obj) :: (c6 ++ (p.lc ++ (c43 ++ p.P))) := rfl
    rw [e]
    classical
    refine List.perm_iff_count.2 fun x => ?_
    simp only [List.set, List.flatten_cons, List.flatten_nil, List.append_nil, List.nil_append, List.cons_append, List.count_append, List.count_cons, List.count_nil]
    all_goals omega) ?_
   refine j_ret_con (vs := [_]) (fun w' hw' => ⟨rfl, trivial⟩) ?_
   exact ⟨rfl, _, rfl, took_ok hok hj2 ⟨c43, ho43, fun q hq => List.mem_append_left _ hq, hxl⟩ (by rw [hcv, hg]; exact ho6), ⟨rfl, rfl, rfl, rfl⟩, (by
    have hje : j = n + 1 - p.cur.length := by omega
    have h9 := took_c p v c6 j n ⟨x.1, .slice A9 n9 cap9, x.2⟩ c43 hje
    unfold PM.ab
    rw [h9]
    rfl), rfl, rfl⟩
end Go.Proofs.YtfebkkmmagbnlaaGreatDoor
/-! Pg8 -/
namespace Go.Proofs.YtfebkkmmagbnlaaGreatDoor
open Go Go.Sx
set_option maxRecDepth 100000
set_option maxHeartbeats 4000000
set_option linter.unusedVariables false
set_option linter.unusedSimpArgs false
attribute [local irreducible] J JQ QS Con W opW
theorem out_gen {w w' : World} {D : List Nat} {S : List SH} (hw : Sig ⟨w, D⟩ S w') {n : Nat} (h0 : n < w.heap.size) (hD : n ∉ D) {k : Nat} {c : SH} (hk : S[k]? = some c) : n ∉ dom c := fun h => by
 obtain ⟨q, hq, e⟩ := List.mem_map.1 h
 rcases hw.dom_ n (List.mem_map.2 ⟨q, mem_flatten_of hk hq, e⟩) with h1 | h1
 ·exact hD h1
 ·simp only at h1
  omega
def recsD (c : List PE) (D : List Nat) : List (List UInt8) := D.map fun n => recP (n, c.getD n PE0)
theorem recsD_take (c : List PE) {D : List Nat} {i : Nat} (h : i < D.length) : recsD c (D.take (i + 1)) = recsD c (D.take i) ++ [recP (D.getD i 0, c.getD (D.getD i 0) PE0)] := by
 unfold recsD
 rw [List.take_add_one, List.getElem?_eq_getElem h, Option.toList_some, List.map_append, List.getD_eq_getElem?_getD, List.getElem?_eq_getElem h]
 rfl
theorem sizeR_tk (rs : List (List UInt8)) (i : Nat) : sizeR (rs.take i) ≤ sizeR rs := by
 unfold sizeR
 have h : (rs.map List.length).sum = ((rs.take i).map List.length).sum + ((rs.drop i).map List.length).sum := by
  rw [← List.sum_append, ← List.map_append, List.take_append_drop]
 omega
theorem nums_get {D : List Nat} {i : Nat} (h : i < D.length) : (nums D)[i]? = some (.int .i64 ((D.getD i 0 : Nat) : Int)) := by
 unfold nums
 rw [List.getElem?_map, List.getElem?_eq_getElem h, List.getD_eq_getElem?_getD, List.getElem?_eq_getElem h]
 rfl
def PM.withB (p : PM) (bh : List Value) : PM := { p with bh := bh }
theorem withB_ok {p : PM} (h : p.Ok) {bh : List Value} (hb : bh.length = 256) : (p.withB bh).Ok := ⟨⟨h.o.cu, h.o.la, h.o.pc, h.o.pl, h.o.wl, h.o.wb, hb, h.o.nl, h.o.nm⟩, h.fr⟩
def PM.withD (p : PM) : PM := { p with dead := true }
theorem withD_ok {p : PM} (h : p.Ok) : p.withD.Ok := ⟨⟨h.o.cu, h.o.la, h.o.pc, h.o.pl, h.o.wl, h.o.wb, h.o.bl, h.o.nl, h.o.nm⟩, h.fr⟩
def aftJ (a : JA) (f : AF) (id : Nat) : JA := if comE a f id = 0 then comJ a f id else { comJ a f id with down := [] }
theorem comE_01' (a : JA) (f : AF) (id : Nat) : comE a f id = 0 ∨ comE a f id = 26 := by
 unfold comE
 repeat' split
 all_goals first | exact .inl rfl | exact .inr rfl
attribute [local irreducible] sum gsE headE fileN contA readE grpE fillE
theorem logs_con (p : PM) (j : JM) (a : JA) (r : FR) (f : AF) (id : Nat) (D : List Nat) (gl cap : Nat) (w : World) (hok : p.Ok) (hj : j.Ok a) (hr : r.Ok f) (hjp : p.jp = j.ptr) (hfp : j.fp = r.ptr) (hd : a.dead = false) (hD : ∀ n ∈ D, n < p.cur.length) (hsz : sizeR (recsD p.c D) ≤ 13000) (hDl : D.length ≤ 130) (hc : ComOk { a with down := recsD p.c D } f id) (hP : P10 w) (h1 : 1 ∉ dom (p.heap ++ (j.heap ++ r.heap))) (hcl : Cells w ⟨gl, 0, none⟩ (nums D)) (hgl : gl ∉ dom (p.heap ++ (j.heap ++ r.heap))) : Con Tryz.prog 41 [p.ptr, .slice (some ⟨gl, 0, none⟩) D.length cap] w (p.heap ++ (j.heap ++ r.heap)) fun u S' => u = .int .i64 (comE { a with down := recsD p.c D } f id) ∧ ∃ (bh : List Value) (j' : JM) (r' : FR), bh.length = 256 ∧ S' = [(p.withB bh).heap, j'.heap, r'.heap] ∧ j'.Ok (aftJ { a with down := recsD p.c D } f id) ∧ r'.Ok (comA { a with down := recsD p.c D } f id) ∧ j'.gj = j.gj ∧ j'.fp = j.fp ∧ r'.gf = r.gf := by
 refine con_of_tree mix Tryz.func41 T41_ok (by kernel_rfl) ?_
 unfold T41
 obtain ⟨A, capc, hcv, hA⟩ := row_form hok.o.cu
 have hrow0 := hok.o.cu
 rw [hcv] at hrow0
 have hnl := hok.o.nl.1
 refine j_perm (S' := [[(p.g, p.obj)], p.cc, p.lc, p.P, j.heap, r.heap]) (by
  have e : p.heap = (p.g, p.obj) :: (p.cc ++ (p.lc ++ p.P)) := rfl
  rw [e]
  classical
  refine List.perm_iff_count.2 fun x => ?_
  simp only [List.set, List.flatten_cons, List.flatten_nil, List.append_nil, List.nil_append, List.cons_append, List.count_append, List.count_cons, List.count_nil]
  all_goals omega) ?_
 refine j_q (qs_ac) ?_
 refine j_q (qs_nil rfl) ?_
 refine j_q (qs_field U78 rfl sz68 (by decide) rfl) ?_
 refine j_q (qs_load (l := p.l) (v := j.ptr) 0 U68 rfl rfl rfl (by rw [← hjp]; exact pl_j)) ?_
 refine j_call 4 ent68 rfl rfl rfl rfl (fun w' hw' => jdrop_con j a w' hj) (fun u S2 hu => ?_)
 obtain ⟨rfl, j0, rfl, hj0, hgj0, hpj0⟩ := hu
 refine j_perm (S' := [[(p.g, p.obj)], p.cc, p.lc, p.P, j0.heap, r.heap]) (by
  classical
  refine List.perm_iff_count.2 fun x => ?_
  simp only [List.set, List.flatten_cons, List.flatten_nil, List.append_nil, List.nil_append, List.cons_append, List.count_append, List.count_cons, List.count_nil]
  all_goals omega) ?_
 refine j_q (qs_lenl (n := D.length) (A := some ⟨gl, 0, none⟩) (c := cap) U49 rfl) ?_
 refine j_q (qs_mc) ?_
 refine j_loop (fun m vs S' => ∃ (i : Nat) (jx : JM), vs = [.int .i64 (i : Int)] ∧ S' = [[(p.g, p.obj)], p.cc, p.lc, p.P, jx.heap, r.heap] ∧ jx.Ok { a with down := recsD p.c (D.take i) } ∧ jx.gj = j.gj ∧ jx.fp = j.fp ∧ i ≤ D.length ∧ m = D.length - i) ⟨_, 0, j0, rfl, rfl, hj0, hgj0, hpj0, Nat.zero_le _, rfl⟩ ?_
 rintro m vs S' hlen ⟨i, jx, rfl, rfl, hjx, hgx, hpx, hi, rfl⟩
 refine j_q (qs_lss rfl rfl) ?_
 refine j_cond rfl (fun hc0 => ?_) (fun hc0 => ?_)
 ·skip
  have hi1 : i < D.length := by
   simp only [bnA] at *
   omega
  have hDi := hD _ (getD_mem (d := 0) hi1)
  obtain ⟨g, hg⟩ := hA (by omega)
  have hrow := hrow0
  rw [hg] at hrow
  have hst := sizeR_tk (recsD p.c D) (i + 1)
  rw [show (recsD p.c D).take (i + 1) = recsD p.c (D.take (i + 1)) by unfold recsD; rw [List.map_take], recsD_take p.c hi1, sizeR_snoc] at hst
  refine j_q (qs_ixl0 (a := ⟨gl, 0, none⟩) (n := D.length) (c := cap) U49 sz3 rfl rfl (by omega)) ?_
  refine j_q (qs_loadR (v := .int .i64 (((D.getD i 0) : Nat) : Int)) (a := ⟨gl, 0, none⟩) (i := i) (rd_cells hcl hgl) U3 rfl (by show Value.pointer (some (Addr.add ⟨gl, 0, none⟩ (i : Int).toNat)) = _; rw [Int.toNat_natCast]) (nums_get hi1)) ?_
  refine j_mix [[(p.g, p.obj)], p.cc] (Le.of_sub (by repeat first | exact slR _ | exact slN _ | apply slC | apply slD)) ?_
  refine j_mq (qs_nil rfl) ?_
  refine j_mq (qs_field U78 rfl sz68 (by decide) rfl) ?_
  have hjpjx := (show p.jp = jx.ptr by rw [hjp, JM.ptr, JM.ptr, hgx])
  refine j_mq (qs_load (l := p.l) (v := jx.ptr) 0 U68 rfl rfl rfl (by rw [← hjpjx]; exact pl_j)) ?_
  refine j_mq (qs_nil rfl) ?_
  refine j_mq (qs_field U78 rfl sz69 (by decide) rfl) ?_
  refine j_mq (qs_load (l := p.l) (v := .slice A p.cur.length capc) 0 U69 rfl rfl rfl (by rw [← hcv]; exact pl_cv)) ?_
  refine j_mq (qs_ixn (g := g) (off := 0) (n := p.cur.length) (c := capc) (i := (D.getD i 0)) U69 sz92 (by rw [← hg]; rfl) rfl hDi) ?_
  refine j_mq (qs_loadrecw (encA := encP) (rs := p.cur) (d := PV0) (i := (D.getD i 0)) encP_len (own_rd hrow 1 rfl) hDi U92 rfl sz92 rfl) ?_
  refine j_call0 ent70 rfl rfl rfl (fun w' hw' => record_con (D.getD i 0) (p.cur.getD (D.getD i 0) PV0) w' (by omega) ((hok.o.pc _ (getD_mem hDi)).br (in_own hw' 3 rfl)) (hok.o.pc _ (getD_mem hDi)).le) (fun u18 S2 hu => ?_)
  obtain ⟨c18, rfl, ho18⟩ := hu
  rw [← c_get p hDi] at ho18
  refine j_mD0 (Le.of_sub (by repeat first | exact slR _ | exact slN _ | apply slC | apply slD)) ?_
  refine j_call 5 ent69 rfl rfl rfl rfl (fun w' hw' => jadd_con jx { a with down := recsD p.c (D.take i) } u18 (recP ((D.getD i 0), p.c.getD (D.getD i 0) PE0)) w' hjx (own_br ho18 0 rfl hw') (sep_own ho18 (k := 0) (m := 5) rfl rfl (by decide) hw') (by show sizeR (recsD p.c (D.take i)) + _ ≤ _; omega) (by show (recsD p.c (D.take i)).length ≤ _; unfold recsD; rw [List.length_map, List.length_take]; omega)) (fun u S2 hu => ?_)
  obtain ⟨rfl, jy, rfl, hjy, hgy, hpy⟩ := hu
  rw [show mayJ { a with down := recsD p.c (D.take i) } = 0 by unfold mayJ; rw [show ({ a with down := recsD p.c (D.take i) } : JA).dead = false from hd]; rfl]
  rw [show addJ { a with down := recsD p.c (D.take i) } (recP ((D.getD i 0), p.c.getD (D.getD i 0) PE0)) = { a with down := recsD p.c (D.take (i + 1)) } by unfold addJ; rw [if_neg (by rw [show ({ a with down := recsD p.c (D.take i) } : JA).dead = false from hd]; simp), recsD_take p.c hi1]] at hjy
  refine j_subl (S' := [jy.heap, [(p.g, p.obj)], p.cc, p.lc, p.P, r.heap]) (by repeat first | exact slR _ | exact slN _ | apply slC | apply slD) ?_
  refine j_perm (S' := [[(p.g, p.obj)], p.cc, p.lc, p.P, jy.heap, r.heap]) (by
   classical
   refine List.perm_iff_count.2 fun x => ?_
   simp only [List.set, List.flatten_cons, List.flatten_nil, List.append_nil, List.nil_append, List.cons_append, List.count_append, List.count_cons, List.count_nil]
   all_goals omega) ?_
  refine j_mR _ (.refl _) ?_
  refine j_mend ?_
  refine j_q (qs_neq rfl rfl) ?_
  rw [show ((0 : Int) != 0) = false from rfl]
  refine j_cond rfl (fun hc1 => ?_) (fun hc1 => ?_)
  ·skip
   simp at hc1
  ·skip
   refine j_q (qs_add64 rfl rfl (by first | omega | (simp only [bnA] at *; omega))) ?_
   refine j_back rfl ?_
   exact ⟨_, by omega, i + 1, jy, rfl, rfl, hjy, hgy.trans hgx, hpy.trans hpx, hi1, rfl⟩
 ·skip
  obtain rfl : i = D.length := by
   simp only [bnA] at *
   omega
  rw [List.take_length] at hjx
  refine j_q (qs_nil rfl) ?_
  refine j_q (qs_field U78 rfl sz68 (by decide) rfl) ?_
  have hjpjx := (show p.jp = jx.ptr by rw [hjp, JM.ptr, JM.ptr, hgx])
  refine j_q (qs_load (l := p.l) (v := jx.ptr) 0 U68 rfl rfl rfl (by rw [← hjpjx]; exact pl_j)) ?_
  refine j_perm (S' := [jx.heap ++ r.heap, [(p.g, p.obj)], p.cc, p.lc, p.P]) (by
   classical
   refine List.perm_iff_count.2 fun x => ?_
   simp only [List.set, List.flatten_cons, List.flatten_nil, List.append_nil, List.nil_append, List.cons_append, List.count_append, List.count_cons, List.count_nil]
   all_goals omega) ?_
  refine j_call 0 ent71 rfl rfl rfl rfl (fun w' hw' => jcomU_con jx { a with down := recsD p.c D } r f id w' hjx hr (hpx.trans hfp) (fun _ _ => hc) (hP.keep hw' h1) (out_gen hw' hP.1 h1 (k := 0) rfl)) (fun u S2 hu => ?_)
  obtain ⟨rfl, j2, r2, rfl, hj2, hr2, hgj2, hpj2, hgr2⟩ := hu
  refine j_subl (S' := [j2.heap, r2.heap, [(p.g, p.obj)], p.cc, p.lc, p.P]) (by repeat first | exact slR _ | exact slN _ | apply slC | apply slD) ?_
  refine j_q (qs_neq rfl rfl) ?_
  refine j_cond rfl (fun hc2 => ?_) (fun hc2 => ?_)
  ·skip
   have hce : comE { a with down := recsD p.c D } f id ≠ 0 := by simpa using hc2
   refine j_q (qs_nil rfl) ?_
   refine j_q (qs_field U78 rfl sz68 (by decide) rfl) ?_
   have hjpj2 := (show p.jp = j2.ptr by rw [hjp, JM.ptr, JM.ptr, (hgj2.trans hgx)])
   refine j_q (qs_load (l := p.l) (v := j2.ptr) 2 U68 rfl rfl rfl (by rw [← hjpj2]; exact pl_j)) ?_
   refine j_call 0 ent68 rfl rfl rfl rfl (fun w' hw' => jdrop_con j2 _ w' hj2) (fun u S2 hu => ?_)
   obtain ⟨rfl, j3, rfl, hj3, hgj3, hpj3⟩ := hu
   refine j_subl (S' := [j3.heap, r2.heap, [(p.g, p.obj)], p.cc, p.lc, p.P]) (by repeat first | exact slR _ | exact slN _ | apply slC | apply slD) ?_
   refine j_perm (S' := [(p.withB p.bh).heap, j3.heap, r2.heap]) (by
    have e : (p.withB p.bh).heap = (p.g, p.obj) :: (p.cc ++ (p.lc ++ p.P)) := rfl
    rw [e]
    classical
    refine List.perm_iff_count.2 fun x => ?_
    simp only [List.set, List.flatten_cons, List.flatten_nil, List.append_nil, List.nil_append, List.cons_append, List.count_append, List.count_cons, List.count_nil]
    all_goals omega) ?_
   refine j_ret_con (vs := [_]) (fun w' hw' => ⟨rfl, trivial⟩) ?_
   exact ⟨rfl, p.bh, j3, r2, hok.o.bl, rfl, by rw [aftJ, if_neg hce]; exact hj3, hr2, (hgj3.trans hgj2).trans hgx, (hpj3.trans hpj2).trans hpx, hgr2⟩
  ·skip
   have hce : comE { a with down := recsD p.c D } f id = 0 := by simpa using hc2
   refine j_q (qs_lenl (n := D.length) (A := some ⟨gl, 0, none⟩) (c := cap) U49 rfl) ?_
   refine j_q (qs_mc) ?_
   refine j_loop (fun m vs S' => ∃ (i : Nat) (bh : List Value), vs = [.int .i64 (i : Int)] ∧ S' = [j2.heap, r2.heap, [(p.g, (p.withB bh).obj)], p.cc, p.lc, p.P] ∧ bh.length = 256 ∧ i ≤ D.length ∧ m = D.length - i) ⟨_, 0, p.bh, rfl, rfl, hok.o.bl, Nat.zero_le _, rfl⟩ ?_
   rintro m vs S' hlen ⟨i, bh, rfl, rfl, hbh, hi, rfl⟩
   refine j_q (qs_lss rfl rfl) ?_
   refine j_cond rfl (fun hc3 => ?_) (fun hc3 => ?_)
   ·skip
    have hi1 : i < D.length := by
     simp only [bnA] at *
     omega
    have hDi := hD _ (getD_mem (d := 0) hi1)
    refine j_q (qs_ixl0 (a := ⟨gl, 0, none⟩) (n := D.length) (c := cap) U49 sz3 rfl rfl (by omega)) ?_
    refine j_q (qs_loadR (v := .int .i64 (((D.getD i 0) : Nat) : Int)) (a := ⟨gl, 0, none⟩) (i := i) (rd_cells hcl hgl) U3 rfl (by show Value.pointer (some (Addr.add ⟨gl, 0, none⟩ (i : Int).toNat)) = _; rw [Int.toNat_natCast]) (nums_get hi1)) ?_
    refine j_q (qs_quo64 rfl rfl (by omega) (by decide) (by omega)) ?_
    rw [show (((D.getD i 0) : Nat) : Int) / 64 = (((D.getD i 0) / 64 : Nat) : Int) by omega]
    refine j_q (qs_nil rfl) ?_
    refine j_q (qs_field U78 rfl sz76 (by decide) rfl) ?_
    refine j_q (v := .pointer (some ⟨p.g, 519 + (D.getD i 0) / 64, none⟩)) (qs_ixa1 (i := (D.getD i 0) / 64) U76 sz4 rfl rfl (by omega)) ?_
    refine j_store (l := (p.withB bh).l) (i := 519 + (D.getD i 0) / 64) (v := .bool true) 2 sz4 rfl rfl rfl rfl (by show 519 + (D.getD i 0) / 64 < (pl p.fp p.name p.jp p.cv p.free p.lv p.ws bh p.dead).length; rw [pl_len hok.o.wl hbh]; omega) (by simp) ?_
    rw [show ((p.withB bh).l.set (519 + (D.getD i 0) / 64) (.bool true)) = (p.withB (bh.set ((D.getD i 0) / 64) (.bool true))).l from pl_set_bh hok.o.wl (by show _ < bh.length; rw [hbh]; omega) _]
    refine j_subl (S' := [j2.heap, r2.heap, [(p.g, (p.withB (bh.set ((D.getD i 0) / 64) (.bool true))).obj)], p.cc, p.lc, p.P]) (by repeat first | exact slR _ | exact slN _ | apply slC | apply slD) ?_
    refine j_q (qs_add64 rfl rfl (by first | omega | (simp only [bnA] at *; omega))) ?_
    refine j_back rfl ?_
    exact ⟨_, by omega, i + 1, _, rfl, rfl, by rw [List.length_set]; exact hbh, hi1, rfl⟩
   ·skip
    refine j_q (qs_ac) ?_
    refine j_perm (S' := [(p.withB bh).heap, j2.heap, r2.heap]) (by
     have e : (p.withB bh).heap = (p.g, (p.withB bh).obj) :: (p.cc ++ (p.lc ++ p.P)) := rfl
     rw [e]
     classical
     refine List.perm_iff_count.2 fun x => ?_
     simp only [List.set, List.flatten_cons, List.flatten_nil, List.append_nil, List.nil_append, List.cons_append, List.count_append, List.count_cons, List.count_nil]
     all_goals omega) ?_
    refine j_ret_con (vs := [_]) (fun w' hw' => ⟨rfl, trivial⟩) ?_
    rw [hce]
    exact ⟨rfl, bh, j2, r2, hbh, rfl, by rw [aftJ, if_pos hce]; exact hj2, hr2, hgj2.trans hgx, hpj2.trans hpx, hgr2⟩
end Go.Proofs.YtfebkkmmagbnlaaGreatDoor
/-! Pg9 -/
namespace Go.Proofs.YtfebkkmmagbnlaaGreatDoor
open Go Go.Sx
set_option maxRecDepth 100000
set_option maxHeartbeats 4000000
set_option linter.unusedVariables false
set_option linter.unusedSimpArgs false
attribute [local irreducible] J JQ QS Con W opW
attribute [local irreducible] sum gsE headE fileN contA readE grpE fillE
theorem pcom0_con (p : PM) (j : JM) (a : JA) (r : FR) (f : AF) (w : World) (hok : p.Ok) (hd : p.dead = false) (hD : bitsL p.ws 0 = []) (hT : TB w) (h0 : 0 ∉ dom (p.heap ++ (j.heap ++ r.heap))) : Con Tryz.prog 16 [p.ptr] w (p.heap ++ (j.heap ++ r.heap)) fun u S' => u = .int .i64 0 ∧ S' = [p.heap, j.heap, r.heap] := by
 refine con_of_tree mix Tryz.func16 T16_ok (by kernel_rfl) ?_
 unfold T16
 refine j_perm (S' := [p.heap, j.heap, r.heap]) (by simp) ?_
 refine j_q (qs_ac) ?_
 refine j_q (qs_call ent36 rfl rfl rfl (fun w' hw' => pmay_con p w' (PM.in_o (in_own hw' 0 rfl)) hok.o.wl hok.o.bl)) ?_
 refine j_q (qs_neq rfl rfl) ?_
 refine j_cond rfl (fun hc0 => ?_) (fun hc0 => ?_)
 ·skip
  rw [hd] at hc0
  simp at hc0
 ·skip
  refine j_call0 ent40 rfl rfl rfl (fun w' hw' => changed_con p w' (in_own hw' 0 rfl) hok.o (hT.keep hw' h0)) (fun u S2 hu => ?_)
  obtain ⟨v, cD, rfl, rfl, hoD⟩ := hu
  rw [hD] at hoD
  obtain ⟨nD, AD, capD, rfl, hnD⟩ := own_form hoD (by decide)
  obtain rfl : nD = 0 := by
   rw [Nat.mul_one] at hnD
   exact hnD.symm
  refine j_subl (S' := [p.heap, j.heap, r.heap]) (by repeat first | exact slR _ | exact slN _ | apply slC | apply slD) ?_
  refine j_q (qs_lenl U49 rfl) ?_
  refine j_q (qs_eql rfl rfl) ?_
  refine j_cond rfl (fun hc1 => ?_) (fun hc1 => ?_)
  ·skip
   refine j_q (qs_ac) ?_
   refine j_ret_con (vs := [_]) (fun w' hw' => ⟨rfl, trivial⟩) ?_
   exact ⟨rfl, rfl⟩
  ·skip
   simp at hc1
theorem pcom1_con (p : PM) (j : JM) (a : JA) (r : FR) (f : AF) (w : World) (hok : p.Ok) (id : Nat) (hj : j.Ok a) (hr : r.Ok f) (hjp : p.jp = j.ptr) (hfp : j.fp = r.ptr) (hpd : p.dead = false) (hd : a.dead = false) (hD0 : bitsL p.ws 0 ≠ []) (hD : ∀ n ∈ bitsL p.ws 0, n < p.cur.length) (hsz : sizeR (recsD p.c (bitsL p.ws 0)) ≤ 13000) (hDl : (bitsL p.ws 0).length ≤ 130) (hc : ComOk { a with down := recsD p.c (bitsL p.ws 0) } f id) (hP : P10 w) (hT : TB w) (h0 : 0 ∉ dom (p.heap ++ (j.heap ++ r.heap))) (h1 : 1 ∉ dom (p.heap ++ (j.heap ++ r.heap))) : Con Tryz.prog 16 [p.ptr] w (p.heap ++ (j.heap ++ r.heap)) fun u S' => u = .int .i64 (comE { a with down := recsD p.c (bitsL p.ws 0) } f id) ∧ ∃ (p' : PM) (j' : JM) (r' : FR), S' = [p'.heap, j'.heap, r'.heap] ∧ p'.Ok ∧ PM.Same p p' ∧ p'.ab = (if comE { a with down := recsD p.c (bitsL p.ws 0) } f id = 0 then ⟨p.c, p.c, List.replicate 256 0, p.dead⟩ else { p.ab with dead := true }) ∧ j'.Ok (aftJ { a with down := recsD p.c (bitsL p.ws 0) } f id) ∧ r'.Ok (comA { a with down := recsD p.c (bitsL p.ws 0) } f id) ∧ j'.gj = j.gj ∧ j'.fp = j.fp ∧ r'.gf = r.gf := by
 refine con_of_tree mix Tryz.func16 T16_ok (by kernel_rfl) ?_
 unfold T16
 refine j_perm (S' := [p.heap, j.heap, r.heap]) (by simp) ?_
 have hDp : 0 < (bitsL p.ws 0).length := List.length_pos_iff.2 hD0
 refine j_q (qs_ac) ?_
 refine j_q (qs_call ent36 rfl rfl rfl (fun w' hw' => pmay_con p w' (PM.in_o (in_own hw' 0 rfl)) hok.o.wl hok.o.bl)) ?_
 refine j_q (qs_neq rfl rfl) ?_
 refine j_cond rfl (fun hc0 => ?_) (fun hc0 => ?_)
 ·skip
  rw [hpd] at hc0
  simp at hc0
 ·skip
  refine j_call0 ent40 rfl rfl rfl (fun w' hw' => changed_con p w' (in_own hw' 0 rfl) hok.o (hT.keep hw' h0)) (fun u S2 hu => ?_)
  obtain ⟨v, cD, rfl, rfl, hoD⟩ := hu
  obtain ⟨gl, nD, capD, rfl⟩ := own_some hoD (by
   intro e
   refine hD0 (List.eq_nil_of_length_eq_zero ?_)
   rw [← nums_length, e]
   rfl)
  obtain ⟨restD, fzD, rfl, hnD, hnD2, hnD3, hnD4⟩ := own_row hoD
  rw [nums_length, Nat.mul_one] at hnD
  subst hnD
  refine j_q (qs_lenl U49 rfl) ?_
  refine j_q (qs_eql rfl rfl) ?_
  refine j_cond rfl (fun hc1 => ?_) (fun hc1 => ?_)
  ·skip
   rw [beq_iff_eq] at hc1
   omega
  ·skip
   refine j_q (qs_ac) ?_
   refine j_q (qs_lenl U49 rfl) ?_
   refine j_q (qs_leq rfl rfl) ?_
   refine j_cond rfl (fun hc2 => ?_) (fun hc2 => ?_)
   ·skip
    refine j_perm (S' := [p.heap ++ (j.heap ++ r.heap), [(gl, .cells (nums (bitsL p.ws 0) ++ restD).toArray 3 fzD)]]) (by
     classical
     refine List.perm_iff_count.2 fun x => ?_
     simp only [List.set, List.flatten_cons, List.flatten_nil, List.append_nil, List.nil_append, List.cons_append, List.count_append, List.count_cons, List.count_nil]
     all_goals omega) ?_
    refine j_call 0 ent41 rfl rfl rfl rfl (fun w' hw' => logs_con p j a r f id (bitsL p.ws 0) gl capD w' hok hj hr hjp hfp hd hD hsz hDl hc (hP.keep hw' h1) (out_gen hw' hP.1 h1 (k := 0) rfl) (rd_w (own_rd hoD 1 rfl) hw') (fun hm => sep_chunks hw'.nodup (k := 1) (m := 0) rfl rfl (by decide) (List.mem_singleton.2 rfl) hm)) (fun u S2 hu => ?_)
    obtain ⟨rfl, bh, j1, r1, hbh, rfl, hj1, hr1, hgj1, hpj1, hgr1⟩ := hu
    refine j_subl (S' := [(p.withB bh).heap, j1.heap, r1.heap]) (by repeat first | exact slR _ | exact slN _ | apply slC | apply slD) ?_
    refine j_q (qs_eql rfl rfl) ?_
    refine j_cond rfl (fun hc3 => ?_) (fun hc3 => ?_)
    ·skip
     rcases comE_01' { a with down := recsD p.c (bitsL p.ws 0) } f id with h | h <;> rw [h] at hc3 <;> simp at hc3
    ·skip
     refine j_q (qs_neq rfl rfl) ?_
     refine j_cond rfl (fun hc5 => ?_) (fun hc5 => ?_)
     ·skip
      have hce : comE { a with down := recsD p.c (bitsL p.ws 0) } f id ≠ 0 := by simpa using hc5
      have hce26 := (comE_01' { a with down := recsD p.c (bitsL p.ws 0) } f id).resolve_left hce
      refine j_q (qs_neq rfl rfl) ?_
      rw [hce26, show ((26 : Int) != 6) = true from rfl]
      refine j_q (qs_nil rfl) ?_
      refine j_q (qs_field U78 rfl sz4 (by decide) rfl) ?_
      refine j_perm (S' := [[(p.g, (p.withB bh).obj)], p.cc, p.lc, p.P, j1.heap, r1.heap]) (by
       have e : (p.withB bh).heap = (p.g, (p.withB bh).obj) :: (p.cc ++ (p.lc ++ p.P)) := rfl
       rw [e]
       classical
       refine List.perm_iff_count.2 fun x => ?_
       simp only [List.set, List.flatten_cons, List.flatten_nil, List.append_nil, List.nil_append, List.cons_append, List.count_append, List.count_cons, List.count_nil]
       all_goals omega) ?_
      refine j_store (l := (p.withB bh).l) (i := 775) (v := .bool true) 0 sz4 rfl rfl rfl rfl (by show 775 < (pl p.fp p.name p.jp p.cv p.free p.lv p.ws bh p.dead).length; rw [pl_len hok.o.wl hbh]; decide) (by simp) ?_
      rw [show ((p.withB bh).l.set 775 (.bool true)) = (p.withB bh).withD.l from pl_set_dead hok.o.wl hbh true]
      refine j_subl (S' := [[(p.g, (p.withB bh).withD.obj)], p.cc, p.lc, p.P, j1.heap, r1.heap]) (by repeat first | exact slR _ | exact slN _ | apply slC | apply slD) ?_
      refine j_perm (S' := [(p.withB bh).withD.heap, j1.heap, r1.heap]) (by
       have e : (p.withB bh).withD.heap = (p.g, (p.withB bh).withD.obj) :: (p.cc ++ (p.lc ++ p.P)) := rfl
       rw [e]
       classical
       refine List.perm_iff_count.2 fun x => ?_
       simp only [List.set, List.flatten_cons, List.flatten_nil, List.append_nil, List.nil_append, List.cons_append, List.count_append, List.count_cons, List.count_nil]
       all_goals omega) ?_
      refine j_ret_con (vs := [_]) (fun w' hw' => ⟨rfl, trivial⟩) ?_
      exact ⟨rfl, _, j1, r1, rfl, withD_ok (withB_ok hok hbh), ⟨rfl, rfl, rfl, rfl⟩, by rw [if_neg (by decide)]; rfl, hj1, hr1, hgj1, hpj1, hgr1⟩
     ·skip
      have hce : comE { a with down := recsD p.c (bitsL p.ws 0) } f id = 0 := by simpa using hc5
      refine j_call 0 ent35 rfl rfl rfl rfl (fun w' hw' => keeps_con (p.withB bh) w' (withB_ok hok hbh).o) (fun u S2 hu => ?_)
      obtain ⟨rfl, v, c, rfl, hk⟩ := hu
      refine j_subl (S' := [((p.withB bh).kept v c).heap, j1.heap, r1.heap]) (by repeat first | exact slR _ | exact slN _ | apply slC | apply slD) ?_
      refine j_q (qs_ac) ?_
      refine j_ret_con (vs := [_]) (fun w' hw' => ⟨rfl, trivial⟩) ?_
      exact ⟨by rw [hce]; rfl, _, j1, r1, rfl, hk, ⟨rfl, rfl, rfl, rfl⟩, by rw [if_pos hce]; rfl, hj1, hr1, hgj1, hpj1, hgr1⟩
   ·skip
    have := of_decide_eq_false hc2
    omega
end Go.Proofs.YtfebkkmmagbnlaaGreatDoor
/-! Pg10 -/
namespace Go.Proofs.YtfebkkmmagbnlaaGreatDoor
open Go Go.Sx
set_option maxRecDepth 100000
set_option maxHeartbeats 4000000
set_option linter.unusedVariables false
set_option linter.unusedSimpArgs false
attribute [local irreducible] J JQ QS Con W opW
attribute [local irreducible] sum gsE headE fileN contA readE grpE fillE
abbrev recG (g : List (Nat × PE)) : List (List UInt8) := g.map recP
abbrev gsP (G : List (List (Nat × PE))) : List (List (List UInt8)) := G.map recG
def okG (G : List (List (Nat × PE))) : Prop := ∀ g ∈ G, ∀ r ∈ g, r.1 < 16384 ∧ r.2.2.length ≤ 100000
theorem replayG_snoc (l : List PE) (g : List (Nat × PE)) (r : Nat × PE) : replayG l (g ++ [r]) = applyP (replayG l g) r.1 r.2 := by
 unfold replayG
 rw [List.foldl_append]
 rfl
theorem replayG_take (l : List PE) {g : List (Nat × PE)} {t : Nat} (h : t < g.length) : replayG l (g.take (t + 1)) = applyP (replayG l (g.take t)) (g.getD t (0, PE0)).1 (g.getD t (0, PE0)).2 := by
 rw [List.take_add_one, List.getElem?_eq_getElem h, Option.toList_some, replayG_snoc, List.getD_eq_getElem?_getD, List.getElem?_eq_getElem h]
 rfl
theorem replay_take {G : List (List (Nat × PE))} {k : Nat} (h : k < G.length) : replay (G.take (k + 1)) = replayG (replay (G.take k)) (G.getD k []) := by
 rw [List.take_add_one, List.getElem?_eq_getElem h, Option.toList_some, replay_snoc, List.getD_eq_getElem?_getD, List.getElem?_eq_getElem h]
 rfl
theorem own_sep {b : Base} {S : List SH} {w : World} {v : Value} {c H lf : SH} {xs : List UInt8} (ho : Sx.Own 5 1 (ints xs) v c) (hsub : ∀ q ∈ c, q ∈ lf) {k m : Nat} (hk : S[k]? = some lf) (hm : S[m]? = some H) (hkm : k ≠ m) (hw : Sig b S w) : ∀ (a : Addr) (n cp : Nat), v = .slice (some a) n cp → 0 < n → a.block ∉ dom H := fun a n cp e hn hd => by
 rcases ho with ⟨h1, _⟩ | ⟨g, n', cap, rest, fz, h1, rfl, _⟩
 ·rw [h1] at e
  cases e
 ·rw [h1] at e
  injection e with e1 e2 e3
  injection e1 with e1
  rw [← e1] at hd
  exact sep_chunks hw.nodup hk hm hkm (List.mem_map.2 ⟨_, hsub _ (List.mem_singleton.2 rfl), rfl⟩) hd
abbrev pm0 (g : Nat) (fp : Value) (name : List UInt8) (jp : Value) : PM := ⟨g, fp, name, jp, nilS, [], [], 0, nilS, [], [], List.replicate 256 0, List.replicate 256 (.bool false), false, []⟩
theorem pm0_ok (g : Nat) (fp : Value) (name : List UInt8) (jp : Value) (h : name.length ≤ 1000) : (pm0 g fp name jp).Ok0 :=
 ⟨own_nil, own_nil, (fun x hx => by cases hx), (fun x hx => by cases hx), List.length_replicate .., (fun x hx => by rw [(List.mem_replicate.1 hx).2]; decide), List.length_replicate .., ⟨Nat.zero_le _, Nat.zero_le _⟩, h⟩
structure OpI (g : Nat) (fp : Value) (name : List UInt8) (jp : Value) (p : PM) (c : List PE) : Prop where
 g : p.g = g
 fp : p.fp = fp
 nm : p.name = name
 jp : p.jp = jp
 ab : p.ab = ⟨c, [], List.replicate 256 0, false⟩
theorem rep_getD (i : Nat) : (List.replicate 256 (0 : Int)).getD i 0 = 0 := by
 rw [List.getD_eq_getElem?_getD, List.getElem?_replicate]
 split <;> rfl
theorem rec_get {g : List (Nat × PE)} {t : Nat} {z : List UInt8} (h : (recG g)[t]? = some z) : z = recP (g.getD t (0, PE0)) := by
 rw [List.getElem?_map] at h
 rcases hx : g[t]? with _ | r
 ·rw [hx] at h
  cases h
 ·rw [hx] at h
  injection h with h
  rw [← h, List.getD_eq_getElem?_getD, hx]
  rfl
theorem grp_get {G : List (List (Nat × PE))} {k : Nat} {z : List (List UInt8)} (h : (gsP G)[k]? = some z) : z = recG (G.getD k []) := by
 rw [List.getElem?_map] at h
 rcases hx : G[k]? with _ | r
 ·rw [hx] at h
  cases h
 ·rw [hx] at h
  injection h with h
  rw [← h, List.getD_eq_getElem?_getD, hx]
  rfl
theorem ks_zero : ks .u64 (List.replicate 256 0) = List.replicate 256 (Value.int .u64 0) := by
 unfold ks
 rw [List.map_replicate]
theorem pl_ages {fp : Value} {name : List UInt8} {jp cv : Value} {free : Int} {lv : Value} {ws : List Nat} {bh : List Value} {dead : Bool} {j : Nat} {u : Value} (h : (List.replicate 256 (Value.int .u64 0))[j]? = some u) : (pl fp name jp cv free lv ws bh dead)[3 + j]? = some u := by
 have hj := (List.getElem?_eq_some_iff.1 h).1
 rw [List.length_replicate] at hj
 unfold pl
 rw [List.getElem?_append_left (by rw [hd_len]; omega), show 3 + j = j + 1 + 1 + 1 by omega]
 simp only [List.getElem?_cons_succ]
 exact h
theorem popen_con (r : FR) (f : AF) (name : List UInt8) (G : List (List (Nat × PE))) (w : World) (hin : In w r.heap) (hok : r.Ok f) (hnl : 1 ≤ name.length ∧ name.length ≤ 90) (hnh : alook f.now.nm name = none) (hjs : JS (pjName name) 0 (gsP G) f.now) (hl : limG (gsP G)) (hG : okG G) (hP : P10 w) : Con Tryz.prog 10 [r.ptr, .string (bs name)] w [] fun u S' => ∃ (p : PM) (j : JM), u = .tuple #[p.ptr, .int .i64 0] ∧ S' = [p.heap, j.heap] ∧ p.Ok ∧ p.fp = r.ptr ∧ p.name = name ∧ p.jp = j.ptr ∧ j.Ok ⟨pjName name, 0, gsP G, [], false⟩ ∧ j.fp = r.ptr ∧ p.ab = ⟨replay G, replay G, List.replicate 256 0, false⟩ := by
 refine con_of_tree mix Tryz.func10 T10_ok (by kernel_rfl) ?_
 unfold T10
 have hGl : G.length ≤ 130 := by
  have h9 := hl.1
  rwa [List.length_map] at h9
 have hstr : strOk name := by show name.length ≤ _; omega
 have hpj : (pjName name).length ≤ 1000 := by
  have h9 := dec_len (show 0 < 10000 by decide)
  unfold pjName
  rw [List.length_append, List.length_append]
  show name.length + 2 + _ ≤ _
  omega
 refine j_q (qs_ac) ?_
 refine j_q (qs_ac) ?_
 refine j_q (qs_pnil U23 rfl) ?_
 rw [show (some (⟨r.gf, 0, none⟩ : Addr)).isNone = false from rfl]
 refine j_gt rfl (qs_mt rfl) ?_
 refine j_gt rfl (qs_lens (l := name) U9 rfl) ?_
 refine j_gt rfl (qs_lss rfl rfl) ?_
 rw [decide_eq_false (show ¬ (name.length : Int) < 1 by omega)]
 refine j_q (v := .bool false) (qs_or (b0 := false) (b1 := false) rfl rfl) ?_
 refine j_gt rfl (qs_mt rfl) ?_
 refine j_gt rfl (qs_lens (l := name) U9 rfl) ?_
 refine j_gt rfl (qs_gtr rfl rfl) ?_
 rw [decide_eq_false (show ¬ (name.length : Int) > 100 by omega)]
 refine j_q (v := .bool false) (qs_or (b0 := false) (b1 := false) rfl rfl) ?_
 refine j_cond rfl (fun hc0 => ?_) (fun hc0 => ?_)
 ·skip
  simp at hc0
 ·skip
  refine j_q (qs_run (v := .agg (pm0 0 r.ptr name (.pointer none)).l.toArray) (fun w => by kernel_rfl)) ?_
  refine j_box (l := (pm0 0 r.ptr name (.pointer none)).l) rfl (fun g14 hg14 hs14 => ?_)
  refine j_call0 ent27 rfl rfl rfl (fun w' hw' => readRO_con r f name w' (fun q hq => (hw'.frame q.1 (lt_of_get (hin q hq)) (by simp)).trans (hin q hq)) hok hstr) (fun u S2 hu => ?_)
  obtain ⟨v15, c15, rfl, rfl, ho15⟩ := hu
  refine j_subl (S' := [[(g14, (pm0 g14 r.ptr name (.pointer none)).obj)]]) (by repeat first | exact slR _ | exact slN _ | apply slC | apply slD) ?_
  refine j_q (qs_ext rfl rfl) ?_
  refine j_q (qs_ext rfl rfl) ?_
  refine j_q (qs_eql rfl rfl) ?_
  rw [show (readE f.now name == 0) = false by rw [beq_eq_false_iff_ne]; exact readE_1.2 hnh]
  refine j_cond rfl (fun hc1 => ?_) (fun hc1 => ?_)
  ·skip
   simp at hc1
  ·skip
   refine j_q (qs_nil rfl) ?_
   refine j_q (qs_field U78 rfl sz67 (by decide) rfl) ?_
   refine j_q (qs_field U67 rfl sz65 (by decide) rfl) ?_
   refine j_q (qs_loadwR (g := g14) (off := 3) (vs := List.replicate 256 (.int .u64 0)) (fun w' hw' i u hu => by rw [add_off, cell_of (hw'.at_ (k := 0) rfl)]; exact pl_ages hu) U65 rfl sz65 rfl (List.length_replicate ..)) ?_
   refine j_q (qs_mc) ?_
   refine j_loop (fun m vs S' => ∃ i : Nat, vs = [.int .i64 (i : Int)] ∧ S' = [[(g14, (pm0 g14 r.ptr name (.pointer none)).obj)]] ∧ i ≤ 256 ∧ m = 256 - i) ⟨_, 0, rfl, rfl, Nat.zero_le _, rfl⟩ ?_
   rintro m vs S' hlen ⟨i, rfl, rfl, hi, rfl⟩
   refine j_q (qs_lss rfl rfl) ?_
   refine j_cond rfl (fun hc11 => ?_) (fun hc11 => ?_)
   ·skip
    have hi1 : i < 256 := by
     simp only [bnA] at *
     omega
    refine j_q (qs_ixvk (ws := List.replicate 256 0) (m := (i : Int)) U65 U64 sz64 (by show Value.agg (List.replicate 256 (Value.int .u64 0)).toArray = _; rw [ks_zero]) rfl (by omega) (List.length_replicate ..)) ?_
    rw [show (List.replicate 256 (0 : Int)).getD (i : Int).toNat 0 = 0 from rep_getD _]
    refine j_q (qs_eql rfl rfl) ?_
    refine j_cond rfl (fun hc12 => ?_) (fun hc12 => ?_)
    ·skip
     refine j_q (qs_add64 rfl rfl (by first | omega | (simp only [bnA] at *; omega))) ?_
     refine j_back rfl ?_
     exact ⟨_, by omega, i + 1, rfl, rfl, hi1, rfl⟩
    ·skip
     simp at hc12
   ·skip
    refine j_q (qs_nil rfl) ?_
    refine j_q (qs_field U78 rfl sz67 (by decide) rfl) ?_
    refine j_q (qs_field U67 rfl sz64 (by decide) rfl) ?_
    refine j_q (qs_load (l := (pm0 g14 r.ptr name (.pointer none)).l) (v := .int .u64 0) 0 U64 rfl rfl rfl rfl) ?_
    refine j_q (qs_call ent33 rfl rfl rfl (fun w' hw' => plog_con g14 (pm0 g14 r.ptr name (.pointer none)).l name 78 (0, 0) w' (hw'.at_ (k := 0) rfl) rfl (by omega) (hP.keep hw' (by simp)))) ?_
    refine j_call0 ent32 rfl rfl rfl (fun w' hw' => within_con r f (pjName name) 0 (gsP G) w' (fun q hq => (hw'.frame q.1 (lt_of_get (hin q hq)) (by simp)).trans (hin q hq)) hok hjs hl (by decide) hpj (hP.keep hw' (by simp))) (fun u S2 hu => ?_)
    obtain ⟨j, rfl, rfl, hj, hjf⟩ := hu
    refine j_q (qs_ext rfl rfl) ?_
    refine j_q (qs_ext rfl rfl) ?_
    refine j_q (qs_neq rfl rfl) ?_
    rw [show ((0 : Int) != 0) = false from rfl]
    refine j_cond rfl (fun hc16 => ?_) (fun hc16 => ?_)
    ·skip
     simp at hc16
    ·skip
     refine j_q (qs_nil rfl) ?_
     refine j_q (qs_field U78 rfl sz68 (by decide) rfl) ?_
     refine j_store (l := (pm0 g14 r.ptr name (.pointer none)).l) (i := 259) (v := j.ptr) 1 sz68 rfl rfl rfl rfl (by rw [pl_len (List.length_replicate ..) (List.length_replicate ..)]; decide) (by simp) ?_
     rw [pl_set_j]
     refine j_subl (S' := [j.heap, [(g14, (pm0 g14 r.ptr name j.ptr).obj)]]) (by repeat first | exact slR _ | exact slN _ | apply slC | apply slD) ?_
     refine j_call0 ent34 rfl rfl rfl (fun w' hw' => jgroups_con j _ w' (in_own hw' 0 rfl) hj hl) (fun u S2 hu => ?_)
     obtain ⟨n, rfl, rfl, hn, hng⟩ := hu
     obtain ⟨An, capn, hnv, hnA⟩ := hn.form
     have hnG : n.L.length = G.length := by
      have h9 : n.gs.length = n.L.length := List.length_map _
      rw [← h9, hng]
      exact List.length_map _
     refine j_perm (S' := [n.c, n.lf, j.heap, (pm0 g14 r.ptr name j.ptr).heap]) (by
      have e : (pm0 g14 r.ptr name j.ptr).heap = [(g14, (pm0 g14 r.ptr name j.ptr).obj)] := rfl
      rw [e]
      classical
      refine List.perm_iff_count.2 fun x => ?_
      simp only [List.set, List.flatten_cons, List.flatten_nil, List.append_nil, List.nil_append, List.cons_append, List.count_append, List.count_cons, List.count_nil]
      all_goals omega) ?_
     refine j_q (qs_lenl (n := n.L.length) (A := An) (c := capn) U88 hnv) ?_
     refine j_q (qs_mc) ?_
     refine j_loop (fun m vs S' => ∃ (k : Nat) (p : PM), vs = [.int .i64 (k : Int)] ∧ S' = [n.c, n.lf, j.heap, p.heap] ∧ p.Ok0 ∧ OpI g14 r.ptr name j.ptr p (replay (G.take k)) ∧ k ≤ G.length ∧ m = G.length - k) ⟨_, 0, (pm0 g14 r.ptr name j.ptr), rfl, rfl, pm0_ok _ _ _ _ (by omega), ⟨rfl, rfl, rfl, rfl, rfl⟩, Nat.zero_le _, rfl⟩ ?_
     rintro m vs S' hlen ⟨k, p, rfl, rfl, hpo, hpi, hkk, rfl⟩
     refine j_q (qs_lss rfl rfl) ?_
     refine j_cond rfl (fun hc17 => ?_) (fun hc17 => ?_)
     ·skip
      have hk1 : k < n.L.length := by
       simp only [bnA] at *
       omega
      obtain ⟨g1, hg1⟩ := hnA (by omega)
      have hrow := hn.row
      rw [hnv, hg1] at hrow
      obtain ⟨x, hx⟩ : ∃ x, x = n.L[k] := ⟨_, rfl⟩
      have hxx : n.L[k]? = some x := by rw [hx]; exact List.getElem?_eq_getElem hk1
      have hxm := List.mem_of_getElem? hxx
      have hxo := hn.rr x hxm
      obtain ⟨Ax, capx, hxv, hxA⟩ := hxo.form
      have hxr : x.rs = recG (G.getD k []) := by
       have h9 : n.gs[k]? = some x.rs := by
        unfold NR.gs
        rw [List.getElem?_map, hxx]
        rfl
       rw [hng] at h9
       exact grp_get h9
      have hxl : x.L.length = (G.getD k []).length := by
       have h8 : x.rs.length = x.L.length := List.length_map _
       rw [← h8, hxr]
       exact List.length_map _
      have hgm : G.getD k [] ∈ G := getD_mem (by omega)
      have hgl : (G.getD k []).length ≤ 130 := by
       have h9 := (hl.2 _ (List.mem_map.2 ⟨_, hgm, rfl⟩)).1
       rwa [List.length_map] at h9
      refine j_q (qs_ixl0 (a := ⟨g1, 0, none⟩) (n := n.L.length) (c := capn) U88 sz90 (by show n.v = _; rw [hnv, hg1]) rfl (by omega)) ?_
      refine j_q (qs_loadR (v := x.v) (a := ⟨g1, 0, none⟩) (i := k) (own_rd hrow 0 rfl) U90 rfl (by show Value.pointer (some (Addr.add ⟨g1, 0, none⟩ (k : Int).toNat)) = _; rw [Int.toNat_natCast]) (by rw [List.getElem?_map, hxx]; rfl)) ?_
      rw [hxv]
      refine j_q (qs_lenl (n := x.L.length) (A := Ax) (c := capx) U90 rfl) ?_
      refine j_q (qs_mc) ?_
      refine j_loop (fun m vs S' => ∃ (t : Nat) (p : PM), vs = [.int .i64 (t : Int)] ∧ S' = [n.c, n.lf, j.heap, p.heap] ∧ p.Ok0 ∧ OpI g14 r.ptr name j.ptr p (replayG (replay (G.take k)) ((G.getD k []).take t)) ∧ t ≤ x.L.length ∧ m = x.L.length - t) ⟨_, 0, p, rfl, rfl, hpo, (by rw [List.take_zero]; exact hpi), Nat.zero_le _, rfl⟩ ?_
      rintro m vs S' hlen ⟨t, p, rfl, rfl, hpo, hpi, htt, rfl⟩
      refine j_q (qs_lss rfl rfl) ?_
      refine j_cond rfl (fun hc18 => ?_) (fun hc18 => ?_)
      ·skip
       have ht1 : t < x.L.length := by
        simp only [bnA] at *
        omega
       obtain ⟨g2, hg2⟩ := hxA (by omega)
       have hrow2 := hxo.row
       rw [hxv, hg2] at hrow2
       obtain ⟨y, hy⟩ : ∃ y, y = x.L[t] := ⟨_, rfl⟩
       have hyy : x.L[t]? = some y := by rw [hy]; exact List.getElem?_eq_getElem ht1
       have hym := List.mem_of_getElem? hyy
       have hyr : y.1 = recP ((G.getD k []).getD t (0, PE0)) := by
        have h9 : x.rs[t]? = some y.1 := by
         unfold RR.rs
         rw [List.getElem?_map, hyy]
         rfl
        rw [hxr] at h9
        exact rec_get h9
       have hrc := hG _ hgm _ (getD_mem (d := (0, PE0)) (l := G.getD k []) (i := t) (by omega))
       refine j_q (qs_ixl0 (a := ⟨g2, 0, none⟩) (n := x.L.length) (c := capx) U90 sz33 (by show Value.slice Ax _ _ = _; rw [hg2]) rfl (by omega)) ?_
       refine j_q (qs_loadR (v := y.2.1) (a := ⟨g2, 0, none⟩) (i := t) (fun w' hw' => own_cellsI hrow2 (fun q hq => NR.in_get (in_own hw' 1 rfl) hxm q (List.mem_append_left _ hq))) U33 rfl (by show Value.pointer (some (Addr.add ⟨g2, 0, none⟩ (t : Int).toNat)) = _; rw [Int.toNat_natCast]) (by rw [List.getElem?_map, hyy]; rfl)) ?_
       refine j_call 3 ent31 rfl rfl (by rw [← hpi.g]; rfl) rfl (fun w' hw' => reads_con p ((G.getD k []).getD t (0, PE0)).1 ((G.getD k []).getD t (0, PE0)).2 y.2.1 w' hpo hrc.1 (by show BR _ _ (recP ((G.getD k []).getD t (0, PE0))); rw [← hyr]; exact hxo.br (fun q hq => NR.in_get (in_own hw' 1 rfl) hxm q (List.mem_append_right _ hq)) hym) (own_sep (hxo.own y hym) (fun q hq => List.mem_flatten.2 ⟨_, List.mem_map.2 ⟨x, hxm, rfl⟩, List.mem_append_right _ (List.mem_flatten.2 ⟨_, List.mem_map.2 ⟨y, hym, rfl⟩, hq⟩)⟩) (k := 1) (m := 3) rfl rfl (by decide) hw') hrc.2) (fun u S2 hu => ?_)
       obtain ⟨rfl, p2, rfl, hp2, hsm, hab2, hfr2, hbh2⟩ := hu
       have hp2g : p2.g = g14 := hsm.g.trans hpi.g
       refine j_subl (S' := [p2.heap, n.c, n.lf, j.heap]) (by repeat first | exact slR _ | exact slN _ | apply slC | apply slD) ?_
       refine j_perm (S' := [n.c, n.lf, j.heap, p2.heap]) (by
        classical
        refine List.perm_iff_count.2 fun x => ?_
        simp only [List.set, List.flatten_cons, List.flatten_nil, List.append_nil, List.nil_append, List.cons_append, List.count_append, List.count_cons, List.count_nil]
        all_goals omega) ?_
       refine j_cond rfl (fun hc19 => ?_) (fun hc19 => ?_)
       ·skip
        refine j_q (qs_call ent30 rfl rfl rfl (fun w' hw' => pTake_con ((G.getD k []).getD t (0, PE0)).1 ((if ((G.getD k []).getD t (0, PE0)).2.1 then 1 else 0) :: ((G.getD k []).getD t (0, PE0)).2.2) y.2.1 w' (by show BR _ _ (recP ((G.getD k []).getD t (0, PE0))); rw [← hyr]; exact hxo.br (fun q hq => NR.in_get (in_own hw' 1 rfl) hxm q (List.mem_append_right _ hq)) hym) (by omega) (by
         have h9 := recP_len ((G.getD k []).getD t (0, PE0)).1 ((G.getD k []).getD t (0, PE0)).2
         have h8 := num_len (show ((G.getD k []).getD t (0, PE0)).1 < 268435456 by omega)
         show (recP (((G.getD k []).getD t (0, PE0)).1, ((G.getD k []).getD t (0, PE0)).2)).length ≤ _
         omega))) ?_
        refine j_q (qs_ext (vs := [.int .u64 (((G.getD k []).getD t (0, PE0)).1 : Int), .int .i64 ((num ((G.getD k []).getD t (0, PE0)).1).length : Int)]) rfl rfl) ?_
        refine j_q (qs_ext (vs := [.int .u64 (((G.getD k []).getD t (0, PE0)).1 : Int), .int .i64 ((num ((G.getD k []).getD t (0, PE0)).1).length : Int)]) rfl rfl) ?_
        refine j_q (qs_quou rfl rfl (by omega) (by decide) (by rw [IntKind.wrap_u64]; omega)) ?_
        rw [show ((((G.getD k []).getD t (0, PE0)).1 : Nat) : Int) / 64 = ((((G.getD k []).getD t (0, PE0)).1 / 64 : Nat) : Int) by omega]
        refine j_q (qs_nil rfl) ?_
        refine j_q (qs_field U78 rfl sz76 (by decide) rfl) ?_
        refine j_q (v := .pointer (some ⟨g14, 519 + ((G.getD k []).getD t (0, PE0)).1 / 64, none⟩)) (qs_ixa1 (i := ((G.getD k []).getD t (0, PE0)).1 / 64) U76 sz4 rfl rfl (by omega)) ?_
        refine j_perm (S' := [n.c, n.lf, j.heap, [(g14, p2.obj)], p2.cc, p2.lc, p2.P]) (by
         have e : p2.heap = (g14, p2.obj) :: (p2.cc ++ (p2.lc ++ p2.P)) := by rw [← hp2g]; rfl
         rw [e]
         classical
         refine List.perm_iff_count.2 fun x => ?_
         simp only [List.set, List.flatten_cons, List.flatten_nil, List.append_nil, List.nil_append, List.cons_append, List.count_append, List.count_cons, List.count_nil]
         all_goals omega) ?_
        refine j_store (l := p2.l) (i := 519 + ((G.getD k []).getD t (0, PE0)).1 / 64) (v := .bool true) 3 sz4 rfl rfl rfl rfl (by rw [pl_len hp2.wl hp2.bl]; omega) (by simp) ?_
        rw [pl_set_bh hp2.wl (by rw [hp2.bl]; omega)]
        refine j_subl (S' := [n.c, n.lf, j.heap, [(g14, ({ p2 with bh := p2.bh.set (((G.getD k []).getD t (0, PE0)).1 / 64) (.bool true) } : PM).obj)], p2.cc, p2.lc, p2.P]) (by repeat first | exact slR _ | exact slN _ | apply slC | apply slD) ?_
        refine j_perm (S' := [n.c, n.lf, j.heap, ({ p2 with bh := p2.bh.set (((G.getD k []).getD t (0, PE0)).1 / 64) (.bool true) } : PM).heap]) (by
         have e : ({ p2 with bh := p2.bh.set (((G.getD k []).getD t (0, PE0)).1 / 64) (.bool true) } : PM).heap = (g14, ({ p2 with bh := p2.bh.set (((G.getD k []).getD t (0, PE0)).1 / 64) (.bool true) } : PM).obj) :: (p2.cc ++ (p2.lc ++ p2.P)) := by rw [← hp2g]; rfl
         rw [e]
         classical
         refine List.perm_iff_count.2 fun x => ?_
         simp only [List.set, List.flatten_cons, List.flatten_nil, List.append_nil, List.nil_append, List.cons_append, List.count_append, List.count_cons, List.count_nil]
         all_goals omega) ?_
        refine j_q (qs_add64 rfl rfl (by first | omega | (simp only [bnA] at *; omega))) ?_
        refine j_back rfl ?_
        refine ⟨_, by omega, t + 1, ({ p2 with bh := p2.bh.set (((G.getD k []).getD t (0, PE0)).1 / 64) (.bool true) } : PM), rfl, rfl, ⟨hp2.cu, hp2.la, hp2.pc, hp2.pl, hp2.wl, hp2.wb, by rw [List.length_set]; exact hp2.bl, hp2.nl, hp2.nm⟩, ⟨hp2g, hsm.fp.trans hpi.fp, hsm.nm.trans hpi.nm, hsm.jp.trans hpi.jp, ?_⟩, ht1, rfl⟩
        rw [replayG_take _ (by omega)]
        have h9 : p2.ab = _ := hab2
        rw [hpi.ab] at h9
        have h8 : p.c = replayG (replay (G.take k)) ((G.getD k []).take t) := congrArg PAb.c hpi.ab
        rw [← h8]
        exact h9
       ·skip
        simp at hc19
      ·skip
       obtain rfl : t = x.L.length := by
        simp only [bnA] at *
        omega
       refine j_q (qs_add64 rfl rfl (by first | omega | (simp only [bnA] at *; omega))) ?_
       refine j_back rfl ?_
       refine ⟨_, by omega, k + 1, p, rfl, rfl, hpo, ?_, by omega, rfl⟩
       rw [replay_take (by omega)]
       rw [hxl, List.take_length] at hpi
       exact hpi
     ·skip
      obtain rfl : k = G.length := by
       simp only [bnA] at *
       omega
      refine j_call 3 ent35 rfl rfl (by rw [← hpi.g]; rfl) rfl (fun w' hw' => keeps_con p w' hpo) (fun u S2 hu => ?_)
      obtain ⟨rfl, v, c, rfl, hk⟩ := hu
      refine j_subl (S' := [(p.kept v c).heap, j.heap]) (by repeat first | exact slR _ | exact slN _ | apply slC | apply slD) ?_
      refine j_q (qs_ac) ?_
      refine j_ret_con (vs := [_, _]) (fun w' hw' => ⟨rfl, rfl, trivial⟩) ?_
      rw [List.take_length] at hpi
      have h8 : p.c = replay G := congrArg PAb.c hpi.ab
      have h7 : p.dead = false := congrArg PAb.dead hpi.ab
      refine ⟨p.kept v c, j, ?_, rfl, hk, hpi.fp, hpi.nm, hpi.jp, hj, hjf, ?_⟩
      ·rw [show (p.kept v c).ptr = .pointer (some ⟨g14, 0, none⟩) by rw [← hpi.g]; rfl]
       rfl
      ·rw [← h8, ← h7]
       rfl
end Go.Proofs.YtfebkkmmagbnlaaGreatDoor
