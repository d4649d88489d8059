/- Locks by names, as the document has them: what lies in memory; what is asked. -/
import Derived.Test.YtlgfpoelhjlifaaTa
import Derived.Test.YtlgfpoelhjlifaaLk9
import Derived.Test.YtlgfpoelhjlifaaSx19
namespace Go.Proofs.Ytlgfpoelhjlifaa
open Go Go.Sx
set_option maxRecDepth 100000
set_option maxHeartbeats 4000000
set_option linter.unusedVariables false
set_option linter.unusedSimpArgs false
attribute [local irreducible] J JQ QS Con W opW
theorem ent48 : Sx.Enters Try.prog 48 := ⟨_, Try.func48, by kernel_rfl, by kernel_rfl⟩
theorem ent58 : Sx.Enters Try.prog 58 := ⟨_, Try.func58, by kernel_rfl, by kernel_rfl⟩
theorem sz2 : (Try.prog.info? 2).map (·.size) = some 1 := by kernel_rfl
theorem sz36 : (Try.prog.info? 36).map (·.size) = some 1 := by kernel_rfl
theorem sz48 : (Try.prog.info? 48).map (·.size) = some 1 := by kernel_rfl
theorem sz110 : (Try.prog.info? 110).map (·.size) = some 1 := by kernel_rfl
theorem sz113 : (Try.prog.info? 113).map (·.size) = some 1 := by kernel_rfl
theorem sz115 : (Try.prog.info? 115).map (·.size) = some 4 := by kernel_rfl
theorem sz117 : (Try.prog.info? 117).map (·.size) = some 2 := by kernel_rfl

/-- a lock of the document's, in memory -/
structure RL where
  g : Nat
  name : List UInt8
  sh : Bool
  holds : List Int
  hv : Value
  hc : SH
  row : List (Int × Bool)
  rv : Value
  rc : SH
abbrev RL0 : RL := ⟨0, [], false, [], .slice none 0 0, [], [], .slice none 0 0, []⟩
abbrev rlcells (l : RL) : List Value := [.string (bs l.name), .bool l.sh, l.hv, l.rv]
abbrev RL.obj (l : RL) : Obj := .cells (rlcells l).toArray 115 (0, 0)
def RL.heap (l : RL) : SH := [(l.g, l.obj)] ++ l.hc ++ l.rc
def ptrR (l : RL) : Value := .pointer (some ⟨l.g, 0, none⟩)
structure RL.Ok (B : Nat) (l : RL) : Prop where
  h : Sx.Own 3 1 (ks .i64 l.holds) l.hv l.hc
  r : OwnO 117 2 (askers l.row) l.rv l.rc
  n : strOk l.name
  b : l.holds.length + l.row.length ≤ B
structure RT where
  gt : Nat
  lv : Value
  lc : SH
  ls : List RL
abbrev RT.tobj (p : RT) : Obj := .cells [p.lv].toArray 50 (0, 0)
def RT.heap (p : RT) : SH := [(p.gt, p.tobj)] ++ p.lc ++ (p.ls.map RL.heap).flatten
structure RT.Ok (B : Nat) (p : RT) : Prop where
  l : Sx.Own 110 1 (p.ls.map ptrR) p.lv p.lc
  each : ∀ l ∈ p.ls, l.Ok B
  lb : p.ls.length ≤ B
theorem RT.Ok.form {p : RT} {B : Nat} (h : p.Ok B) : ∃ A cap gl, p.lv = .slice A p.ls.length cap ∧ p.ls.length ≤ cap ∧ (0 < p.ls.length → A = some ⟨gl, 0, none⟩) := by
  obtain ⟨n, A, cap, e, hn⟩ := own_form h.l (by decide)
  rw [List.length_map, Nat.mul_one] at hn
  subst hn
  have ho := h.l
  rw [e] at ho
  by_cases h0 : 0 < p.ls.length
  · obtain ⟨g, rfl⟩ := own_addr ho (by rw [List.length_map]; exact h0)
    exact ⟨_, cap, g, e, own_cap ho, fun _ => rfl⟩
  · exact ⟨A, cap, 0, e, own_cap ho, fun h => absurd h h0⟩
theorem RT.in_gt {p : RT} {w : World} (h : In w p.heap) : w.heap[p.gt]? = some p.tobj := h (p.gt, p.tobj) (by simp [RT.heap])
theorem RT.in_lc {p : RT} {w : World} (h : In w p.heap) : In w p.lc := fun q hq => h q (by
  unfold RT.heap
  exact List.mem_append_left _ (List.mem_append_right _ hq))
theorem RT.in_l {p : RT} {w : World} (h : In w p.heap) {l : RL} (hl : l ∈ p.ls) : In w l.heap := fun q hq => h q (by
  unfold RT.heap
  exact List.mem_append_right _ (List.mem_flatten.2 ⟨l.heap, List.mem_map.2 ⟨l, hl, rfl⟩, hq⟩))
theorem RL.in_g {l : RL} {w : World} (h : In w l.heap) : w.heap[l.g]? = some l.obj := h (l.g, l.obj) (by simp [RL.heap])
theorem RL.in_hc {l : RL} {w : World} (h : In w l.heap) : In w l.hc := fun q hq => h q (by
  unfold RL.heap
  exact List.mem_append_left _ (List.mem_append_right _ hq))
theorem RL.in_rc {l : RL} {w : World} (h : In w l.heap) : In w l.rc := fun q hq => h q (by
  unfold RL.heap
  exact List.mem_append_right _ hq)
theorem lmem {ls : List RL} {i : Nat} (h : i < ls.length) : ls.getD i RL0 ∈ ls := by
  rw [List.getD_eq_getElem?_getD, List.getElem?_eq_getElem h, Option.getD_some]
  exact List.getElem_mem h
theorem lget {ls : List RL} {i : Nat} (h : i < ls.length) : (ls.map ptrR)[i]? = some (ptrR (ls.getD i RL0)) := by
  rw [List.getElem?_map, List.getD_eq_getElem?_getD, List.getElem?_eq_getElem h]
  rfl
theorem lgetq {ls : List RL} {i : Nat} (h : i < ls.length) : ls[i]? = some (ls.getD i RL0) := by
  rw [List.getD_eq_getElem?_getD, List.getElem?_eq_getElem h, Option.getD_some]
theorem ltake {ls : List RL} {i : Nat} (h : i < ls.length) : ls.take (i + 1) = ls.take i ++ [ls.getD i RL0] := by
  rw [List.take_add_one, List.getElem?_eq_getElem h, List.getD_eq_getElem?_getD, List.getElem?_eq_getElem h]
  rfl
theorem add0' (g i : Nat) : Value.pointer (some ⟨g, i, none⟩) = Value.pointer (some ((⟨g, 0, none⟩ : Addr).add i)) := by rw [add_off, Nat.zero_add]
/-- the lock of a name; the lock in whose row a task stands -/
def findN (ls : List RL) (n : List UInt8) : Option RL := ls.find? fun l => l.name == n
def inRow (l : RL) (t : Int) : Bool := l.row.any fun x => x.1 == t
def findW (ls : List RL) (t : Int) : Option RL := ls.find? fun l => inRow l t
def rholds (ls : List RL) (t : Int) (n : List UInt8) : Bool := match findN ls n with | none => false | some l => hasI l.holds t
theorem find_hit {p : RL → Bool} {ls : List RL} {i : Nat} (h : i < ls.length) (hno : (ls.take i).find? p = none) (hp : p (ls.getD i RL0) = true) : ls.find? p = some (ls.getD i RL0) := by
  conv => lhs; rw [← List.take_append_drop (i + 1) ls, ltake h, List.append_assoc]
  rw [List.find?_append, hno, Option.none_or, List.singleton_append, List.find?_cons_of_pos hp]
theorem find_miss {p : RL → Bool} {ls : List RL} {i : Nat} (h : i < ls.length) (hno : (ls.take i).find? p = none) (hp : p (ls.getD i RL0) = false) : (ls.take (i + 1)).find? p = none := by
  rw [ltake h, List.find?_append, hno, Option.none_or, List.find?_cons_of_neg (by rw [hp]; decide), List.find?_nil]
theorem rowmem {l : List (Int × Bool)} {j : Nat} (h : j < l.length) : l.getD j (0, false) ∈ l := by
  rw [List.getD_eq_getElem?_getD, List.getElem?_eq_getElem h, Option.getD_some]
  exact List.getElem_mem h
/-- whom a task waits for -/
def needsL (ls : List RL) (t : Int) : List Int := match findW ls t with | none => [] | some l => l.holds ++ (tw t l.row).map Prod.fst
theorem rd_ownO {b : Base} {S : List SH} {e : TypeId} {sz n cap : Nat} {xs : List Value} {a : Addr} {c : SH} (h : OwnO e sz xs (.slice (some a) n cap) c) (hin : In b.w0 c) (hD : ∀ q ∈ c, q.1 ∉ b.D) : Rd b S a xs := ownO_base h hin hD
theorem in_keep0 {w w' : World} {c : SH} {S : List SH} (h : In w c) (hs : Sig ⟨w, dom []⟩ S w') : In w' c := in_keep h hs
theorem own_rsl {w w' : World} {S : List SH} {e : TypeId} {xs : List Value} {v : Value} {c : SH} (ho : Sx.Own e 1 xs v c) (hin : In w c) (hs : Sig ⟨w, dom []⟩ S w') : RSl w' v xs := by
  rcases ho with ⟨rfl, rfl, rfl⟩ | ⟨g, n, cap, rest, fz, rfl, rfl, h1, h2, h3, h4⟩
  · exact .inl ⟨rfl, rfl⟩
  · have hg := in_keep hin hs (g, _) (List.mem_singleton.2 rfl)
    simp only at hg
    refine .inr ⟨g, 0, cap, by rw [h1, Nat.mul_one], lt_of_get hg, by omega, fun j u hu => ?_⟩
    rw [add_off, Nat.zero_add, cell_of hg]
    rw [List.getElem?_append_left (List.getElem?_eq_some_iff.1 hu).1]
    exact hu
/-- pantry.pantryref12.has -/
theorem rhas_con (l : List Int) (t : Int) (v : Value) (w : World) (h : RSl w v (ks .i64 l)) (hl : l.length ≤ 4611686018427387903) : Con Try.prog 58 [v, .int .i64 t] w [] fun u _ => u = .bool (hasI l t) := by
  refine con_of_tree mix Try.func58 T58_ok (by kernel_rfl) ?_
  unfold T58
  obtain ⟨A, c, rfl, hc'⟩ := rsl_form h
  rw [ks_length] at h hc' ⊢
  refine j_q (qs_ac) ?_
  refine j_q (qs_ac) ?_
  refine j_loop (fun m vs S' => ∃ i : Nat, vs = [.int .i64 (i : Int)] ∧ S' = [[]] ∧ hasI (l.take i) t = false ∧ i ≤ l.length ∧ m = l.length - i) ⟨_, 0, rfl, rfl, rfl, Nat.zero_le _, rfl⟩ ?_
  rintro m vs S' hlen ⟨i, rfl, rfl, hno, hi, rfl⟩
  refine j_q (qs_lenl Try.underlying36 rfl) ?_
  refine j_q (qs_lss rfl rfl) ?_
  refine j_cond rfl (fun hc0 => ?_) (fun hc0 => ?_)
  · skip
    have hi1 : i < l.length := by
      simp only [Bool.and_eq_true, Bool.or_eq_true, Bool.and_eq_false_iff, Bool.or_eq_false_iff, Bool.not_eq_true', Bool.not_eq_false', decide_eq_true_eq, decide_eq_false_iff_not, beq_iff_eq, beq_eq_false_iff_ne, bne_iff_ne, bne_eq_false_iff_eq, ne_eq, Int.toNat_natCast] at *
      omega
    obtain ⟨g1, o1, rfl, _, hcells1⟩ := rsl_addr h (by rw [ks_length]; omega)
    have htk : l.take (i + 1) = l.take i ++ [l.getD i 0] := by
      rw [List.take_add_one, List.getElem?_eq_getElem hi1, List.getD_eq_getElem?_getD, List.getElem?_eq_getElem hi1]
      rfl
    refine j_q (qs_ixl0 Try.underlying36 sz3 rfl rfl ⟨(by first | omega | (simp only [Bool.and_eq_true, Bool.or_eq_true, Bool.and_eq_false_iff, Bool.or_eq_false_iff, Bool.not_eq_true', Bool.not_eq_false', decide_eq_true_eq, decide_eq_false_iff_not, beq_iff_eq, beq_eq_false_iff_ne, bne_iff_ne, bne_eq_false_iff_eq, ne_eq, Int.toNat_natCast] at *; omega)), (by first | omega | (simp only [Bool.and_eq_true, Bool.or_eq_true, Bool.and_eq_false_iff, Bool.or_eq_false_iff, Bool.not_eq_true', Bool.not_eq_false', decide_eq_true_eq, decide_eq_false_iff_not, beq_iff_eq, beq_eq_false_iff_ne, bne_iff_ne, bne_eq_false_iff_eq, ne_eq, Int.toNat_natCast] at *; omega))⟩) ?_
    refine j_q (qs_loadrk (rd_cells hcells1 (by simp)) Try.underlying3 rfl (by simp only [Int.toNat_natCast]; omega)) ?_
    simp only [Int.toNat_natCast]
    refine j_q (qs_eql rfl rfl) ?_
    refine j_cond rfl (fun hc1 => ?_) (fun hc1 => ?_)
    · skip
      have hd : l.getD i 0 = t := by simpa using hc1
      refine j_q (qs_ac) ?_
      refine j_ret_con (vs := [_]) (fun w' hw' => ⟨rfl, trivial⟩) ?_
      show Value.bool _ = _
      congr 1
      symm
      rw [hasI_iff, ← hd, List.getD_eq_getElem?_getD, List.getElem?_eq_getElem hi1, Option.getD_some]
      exact List.getElem_mem hi1
    · skip
      have hd : l.getD i 0 ≠ t := by simpa using hc1
      refine j_q (qs_add64 rfl rfl (by first | omega | (simp only [Bool.and_eq_true, Bool.or_eq_true, Bool.and_eq_false_iff, Bool.or_eq_false_iff, Bool.not_eq_true', Bool.not_eq_false', decide_eq_true_eq, decide_eq_false_iff_not, beq_iff_eq, beq_eq_false_iff_ne, bne_iff_ne, bne_eq_false_iff_eq, ne_eq, Int.toNat_natCast] at *; omega))) ?_
      refine j_back rfl ?_
      exact ⟨l.length - (i + 1), by omega, i + 1, rfl, rfl, by rw [htk]; unfold hasI at hno ⊢; rw [List.any_append, hno]; simpa using hd, by omega, rfl⟩
  · skip
    have hi1 : i = l.length := by
      simp only [Bool.and_eq_true, Bool.or_eq_true, Bool.and_eq_false_iff, Bool.or_eq_false_iff, Bool.not_eq_true', Bool.not_eq_false', decide_eq_true_eq, decide_eq_false_iff_not, beq_iff_eq, beq_eq_false_iff_ne, bne_iff_ne, bne_eq_false_iff_eq, ne_eq, Int.toNat_natCast] at *
      omega
    rw [hi1, List.take_of_length_le (Nat.le_refl _)] at hno
    refine j_q (qs_ac) ?_
    refine j_ret_con (vs := [_]) (fun w' hw' => ⟨rfl, trivial⟩) ?_
    rw [hno]
    rfl
/-- (*pantry.pantryref12.Table).Holds -/
theorem rholds_con (B : Nat) (hB : B ≤ 1000000) (p : RT) (t : Int) (n : List UInt8) (w : World) (hin : In w p.heap) (hok : p.Ok B) : Con Try.prog 34 [.pointer (some ⟨p.gt, 0, none⟩), .int .i64 t, .string (bs n)] w [] fun v _ => v = .bool (rholds p.ls t n) := by
  refine con_of_tree mix Try.func34 T34_ok (by kernel_rfl) ?_
  unfold T34
  obtain ⟨A, cap, gl, hlv, hcap, hA⟩ := hok.form
  have hlb := hok.lb
  have rT : ∀ {S : List SH}, RdO ⟨w, dom []⟩ S p.gt p.tobj := fun {S} => rdo_base (RT.in_gt hin) (by simp)
  have rL : ∀ {S : List SH}, 0 < p.ls.length → Rd ⟨w, dom []⟩ S ⟨gl, 0, none⟩ (p.ls.map ptrR) := fun {S} h0 => by
    have h1 := hok.l
    rw [hlv, hA h0] at h1
    exact ownO_base h1.toO (RT.in_lc hin) (by simp)
  have rl : ∀ {S : List SH} {i : Nat}, i < p.ls.length → RdO ⟨w, dom []⟩ S (p.ls.getD i RL0).g (p.ls.getD i RL0).obj := fun {S i} h => rdo_base (RL.in_g (RT.in_l hin (lmem h))) (by simp)
  refine j_q (qs_ac) ?_
  refine j_q (qs_ac) ?_
  refine j_loop (fun m vs S' => ∃ i : Nat, vs = [.int .i64 (i : Int)] ∧ S' = [[]] ∧ (p.ls.take i).find? (fun l => l.name == n) = none ∧ i ≤ p.ls.length ∧ m = p.ls.length - i) ⟨_, 0, rfl, rfl, rfl, Nat.zero_le _, rfl⟩ ?_
  rintro m vs S' hlen ⟨i, rfl, rfl, hno, hi, rfl⟩
  refine j_q (qs_nil rfl) ?_
  refine j_q (qs_field Try.underlying50 rfl sz48 (by decide) rfl) ?_
  first
    | refine j_q (qs_loadO rT Try.underlying48 rfl rfl rfl) ?_
    | refine j_q (qs_loadR (v := ptrR (p.ls.getD i RL0)) (a := ⟨gl, 0, none⟩) (i := i) (rL (by omega)) Try.underlying48 rfl (Eq.trans rfl (add0' gl i)) (lget hi1)) ?_
    | refine j_q (qs_loadO (rl hi1) Try.underlying48 rfl rfl rfl) ?_
    | refine j_q (qs_load 0 Try.underlying48 rfl rfl rfl rfl) ?_
  refine j_q (qs_lenl (n := p.ls.length) (A := A) (c := cap) Try.underlying48 (Eq.trans rfl hlv)) ?_
  refine j_q (qs_lss rfl rfl) ?_
  refine j_cond rfl (fun hc0 => ?_) (fun hc0 => ?_)
  · skip
    have hi1 : i < p.ls.length := by
      simp only [Bool.and_eq_true, Bool.or_eq_true, Bool.and_eq_false_iff, Bool.or_eq_false_iff, Bool.not_eq_true', Bool.not_eq_false', decide_eq_true_eq, decide_eq_false_iff_not, beq_iff_eq, beq_eq_false_iff_ne, bne_iff_ne, bne_eq_false_iff_eq, ne_eq, Int.toNat_natCast] at *
      omega
    refine j_q (qs_nil rfl) ?_
    refine j_q (qs_field Try.underlying50 rfl sz48 (by decide) rfl) ?_
    first
      | refine j_q (qs_loadO rT Try.underlying48 rfl rfl rfl) ?_
      | refine j_q (qs_loadR (v := ptrR (p.ls.getD i RL0)) (a := ⟨gl, 0, none⟩) (i := i) (rL (by omega)) Try.underlying48 rfl (Eq.trans rfl (add0' gl i)) (lget hi1)) ?_
      | refine j_q (qs_loadO (rl hi1) Try.underlying48 rfl rfl rfl) ?_
      | refine j_q (qs_load 0 Try.underlying48 rfl rfl rfl rfl) ?_
    refine j_q (qs_ixg (g := gl) (n := p.ls.length) (c := cap) Try.underlying48 sz110 (Eq.trans rfl (hlv.trans (by rw [hA (by omega)]))) rfl (by omega)) ?_
    first
      | refine j_q (qs_loadO rT Try.underlying110 rfl rfl rfl) ?_
      | refine j_q (qs_loadR (v := ptrR (p.ls.getD i RL0)) (a := ⟨gl, 0, none⟩) (i := i) (rL (by omega)) Try.underlying110 rfl (Eq.trans rfl (add0' gl i)) (lget hi1)) ?_
      | refine j_q (qs_loadO (rl hi1) Try.underlying110 rfl rfl rfl) ?_
      | refine j_q (qs_load 0 Try.underlying110 rfl rfl rfl rfl) ?_
    refine j_q (qs_nil rfl) ?_
    refine j_q (qs_field Try.underlying115 rfl sz9 (by decide) rfl) ?_
    first
      | refine j_q (qs_loadO rT Try.underlying9 rfl rfl rfl) ?_
      | refine j_q (qs_loadR (v := ptrR (p.ls.getD i RL0)) (a := ⟨gl, 0, none⟩) (i := i) (rL (by omega)) Try.underlying9 rfl (Eq.trans rfl (add0' gl i)) (lget hi1)) ?_
      | refine j_q (qs_loadO (rl hi1) Try.underlying9 rfl rfl rfl) ?_
      | refine j_q (qs_load 0 Try.underlying9 rfl rfl rfl rfl) ?_
    refine j_q (qs_seql rfl rfl) ?_
    refine j_cond rfl (fun hc1 => ?_) (fun hc1 => ?_)
    · skip
      have hfd : findN p.ls n = some (p.ls.getD i RL0) := find_hit hi1 hno hc1
      have hlk := hok.each _ (lmem hi1)
      refine j_q (qs_nil rfl) ?_
      refine j_q (qs_field Try.underlying50 rfl sz48 (by decide) rfl) ?_
      first
        | refine j_q (qs_loadO rT Try.underlying48 rfl rfl rfl) ?_
        | refine j_q (qs_loadR (v := ptrR (p.ls.getD i RL0)) (a := ⟨gl, 0, none⟩) (i := i) (rL (by omega)) Try.underlying48 rfl (Eq.trans rfl (add0' gl i)) (lget hi1)) ?_
        | refine j_q (qs_loadO (rl hi1) Try.underlying48 rfl rfl rfl) ?_
        | refine j_q (qs_load 0 Try.underlying48 rfl rfl rfl rfl) ?_
      refine j_q (qs_ixg (g := gl) (n := p.ls.length) (c := cap) Try.underlying48 sz110 (Eq.trans rfl (hlv.trans (by rw [hA (by omega)]))) rfl (by omega)) ?_
      first
        | refine j_q (qs_loadO rT Try.underlying110 rfl rfl rfl) ?_
        | refine j_q (qs_loadR (v := ptrR (p.ls.getD i RL0)) (a := ⟨gl, 0, none⟩) (i := i) (rL (by omega)) Try.underlying110 rfl (Eq.trans rfl (add0' gl i)) (lget hi1)) ?_
        | refine j_q (qs_loadO (rl hi1) Try.underlying110 rfl rfl rfl) ?_
        | refine j_q (qs_load 0 Try.underlying110 rfl rfl rfl rfl) ?_
      refine j_q (qs_nil rfl) ?_
      refine j_q (qs_field Try.underlying115 rfl sz36 (by decide) rfl) ?_
      first
        | refine j_q (qs_loadO rT Try.underlying36 rfl rfl rfl) ?_
        | refine j_q (qs_loadR (v := ptrR (p.ls.getD i RL0)) (a := ⟨gl, 0, none⟩) (i := i) (rL (by omega)) Try.underlying36 rfl (Eq.trans rfl (add0' gl i)) (lget hi1)) ?_
        | refine j_q (qs_loadO (rl hi1) Try.underlying36 rfl rfl rfl) ?_
        | refine j_q (qs_load 0 Try.underlying36 rfl rfl rfl rfl) ?_
      refine j_q (qs_call ent58 rfl rfl rfl (fun w' hw' => rhas_con (p.ls.getD i RL0).holds t _ w' (own_rsl hlk.h ((RL.in_hc (RT.in_l hin (lmem hi1)))) hw') (by have := hlk.b; omega))) ?_
      refine j_ret_con (vs := [_]) (fun w' hw' => ⟨rfl, trivial⟩) ?_
      unfold rholds
      rw [hfd]
      rfl
    · skip
      have hno2 := find_miss hi1 hno hc1
      refine j_q (qs_add64 rfl rfl (by first | omega | (simp only [Bool.and_eq_true, Bool.or_eq_true, Bool.and_eq_false_iff, Bool.or_eq_false_iff, Bool.not_eq_true', Bool.not_eq_false', decide_eq_true_eq, decide_eq_false_iff_not, beq_iff_eq, beq_eq_false_iff_ne, bne_iff_ne, bne_eq_false_iff_eq, ne_eq, Int.toNat_natCast] at *; omega))) ?_
      refine j_back rfl ?_
      exact ⟨p.ls.length - (i + 1), by omega, i + 1, rfl, rfl, hno2, by omega, rfl⟩
  · skip
    obtain rfl : i = p.ls.length := by
      simp only [Bool.and_eq_true, Bool.or_eq_true, Bool.and_eq_false_iff, Bool.or_eq_false_iff, Bool.not_eq_true', Bool.not_eq_false', decide_eq_true_eq, decide_eq_false_iff_not, beq_iff_eq, beq_eq_false_iff_ne, bne_iff_ne, bne_eq_false_iff_eq, ne_eq, Int.toNat_natCast] at *
      omega
    rw [List.take_of_length_le (Nat.le_refl _)] at hno
    refine j_q (qs_ac) ?_
    refine j_ret_con (vs := [_]) (fun w' hw' => ⟨rfl, trivial⟩) ?_
    unfold rholds findN
    rw [hno]
    rfl
/-- (*pantry.pantryref12.Table).waits -/
theorem rwaits_con (B : Nat) (hB : B ≤ 1000000) (p : RT) (t : Int) (w : World) (hin : In w p.heap) (hok : p.Ok B) : Con Try.prog 48 [.pointer (some ⟨p.gt, 0, none⟩), .int .i64 t] w [] fun v _ => v = .pointer ((findW p.ls t).map fun l => ⟨l.g, 0, none⟩) := by
  refine con_of_tree mix Try.func48 T48_ok (by kernel_rfl) ?_
  unfold T48
  obtain ⟨A, cap, gl, hlv, hcap, hA⟩ := hok.form
  have hlb := hok.lb
  have rT : ∀ {S : List SH}, RdO ⟨w, dom []⟩ S p.gt p.tobj := fun {S} => rdo_base (RT.in_gt hin) (by simp)
  have rL : ∀ {S : List SH}, 0 < p.ls.length → Rd ⟨w, dom []⟩ S ⟨gl, 0, none⟩ (p.ls.map ptrR) := fun {S} h0 => by
    have h1 := hok.l
    rw [hlv, hA h0] at h1
    exact ownO_base h1.toO (RT.in_lc hin) (by simp)
  have rl : ∀ {S : List SH} {i : Nat}, i < p.ls.length → RdO ⟨w, dom []⟩ S (p.ls.getD i RL0).g (p.ls.getD i RL0).obj := fun {S i} h => rdo_base (RL.in_g (RT.in_l hin (lmem h))) (by simp)
  refine j_q (qs_ac) ?_
  refine j_q (qs_ac) ?_
  refine j_loop (fun m vs S' => ∃ i : Nat, vs = [.int .i64 (i : Int)] ∧ S' = [[]] ∧ (p.ls.take i).find? (fun l => inRow l t) = none ∧ i ≤ p.ls.length ∧ m = p.ls.length - i) ⟨_, 0, rfl, rfl, rfl, Nat.zero_le _, rfl⟩ ?_
  rintro m vs S' hlen ⟨i, rfl, rfl, hno, hi, rfl⟩
  refine j_q (qs_nil rfl) ?_
  refine j_q (qs_field Try.underlying50 rfl sz48 (by decide) rfl) ?_
  first
    | refine j_q (qs_loadO rT Try.underlying48 rfl rfl rfl) ?_
    | refine j_q (qs_loadR (v := ptrR (p.ls.getD i RL0)) (a := ⟨gl, 0, none⟩) (i := i) (rL (by omega)) Try.underlying48 rfl (Eq.trans rfl (add0' gl i)) (lget hi1)) ?_
    | refine j_q (qs_loadO (rl hi1) Try.underlying48 rfl rfl rfl) ?_
    | refine j_q (qs_load 0 Try.underlying48 rfl rfl rfl rfl) ?_
  refine j_q (qs_lenl (n := p.ls.length) (A := A) (c := cap) Try.underlying48 (Eq.trans rfl hlv)) ?_
  refine j_q (qs_lss rfl rfl) ?_
  refine j_cond rfl (fun hc0 => ?_) (fun hc0 => ?_)
  · skip
    have hi1 : i < p.ls.length := by
      simp only [Bool.and_eq_true, Bool.or_eq_true, Bool.and_eq_false_iff, Bool.or_eq_false_iff, Bool.not_eq_true', Bool.not_eq_false', decide_eq_true_eq, decide_eq_false_iff_not, beq_iff_eq, beq_eq_false_iff_ne, bne_iff_ne, bne_eq_false_iff_eq, ne_eq, Int.toNat_natCast] at *
      omega
    have hlk := hok.each _ (lmem hi1)
    have hbk := hlk.b
    obtain ⟨nr, Ar, capr, gr, ro, hrv, hnr, hcapr, hAr⟩ := row_first hlk.r
    subst hnr
    have rR : ∀ {S : List SH}, (p.ls.getD i RL0).row ≠ [] → Rd ⟨w, dom []⟩ S ⟨gr, ro, none⟩ (askers (p.ls.getD i RL0).row) := fun {S} h0 => by
      have h1 := hlk.r
      rw [hrv, hAr h0] at h1
      exact ownO_base h1 (RL.in_rc (RT.in_l hin (lmem hi1))) (by simp)
    refine j_q (qs_ac) ?_
    refine j_loop (fun m vs S' => ∃ j : Nat, vs = [.int .i64 (j : Int)] ∧ S' = [[]] ∧ ((p.ls.getD i RL0).row.take j).any (fun x => x.1 == t) = false ∧ j ≤ (p.ls.getD i RL0).row.length ∧ m = (p.ls.getD i RL0).row.length - j) ⟨_, 0, rfl, rfl, rfl, Nat.zero_le _, rfl⟩ ?_
    rintro m vs S' hlen ⟨j, rfl, rfl, hnj, hj, rfl⟩
    refine j_q (qs_nil rfl) ?_
    refine j_q (qs_field Try.underlying50 rfl sz48 (by decide) rfl) ?_
    first
      | refine j_q (qs_loadO rT Try.underlying48 rfl rfl rfl) ?_
      | refine j_q (qs_loadR (v := ptrR (p.ls.getD i RL0)) (a := ⟨gl, 0, none⟩) (i := i) (rL (by omega)) Try.underlying48 rfl (Eq.trans rfl (add0' gl i)) (lget hi1)) ?_
      | refine j_q (qs_loadO (rl hi1) Try.underlying48 rfl rfl rfl) ?_
      | refine j_q (qs_load 0 Try.underlying48 rfl rfl rfl rfl) ?_
    refine j_q (qs_ixg (g := gl) (n := p.ls.length) (c := cap) Try.underlying48 sz110 (Eq.trans rfl (hlv.trans (by rw [hA (by omega)]))) rfl (by omega)) ?_
    first
      | refine j_q (qs_loadO rT Try.underlying110 rfl rfl rfl) ?_
      | refine j_q (qs_loadR (v := ptrR (p.ls.getD i RL0)) (a := ⟨gl, 0, none⟩) (i := i) (rL (by omega)) Try.underlying110 rfl (Eq.trans rfl (add0' gl i)) (lget hi1)) ?_
      | refine j_q (qs_loadO (rl hi1) Try.underlying110 rfl rfl rfl) ?_
      | refine j_q (qs_load 0 Try.underlying110 rfl rfl rfl rfl) ?_
    refine j_q (qs_nil rfl) ?_
    refine j_q (qs_field Try.underlying115 rfl sz113 (by decide) rfl) ?_
    first
      | refine j_q (qs_loadO rT Try.underlying113 rfl rfl rfl) ?_
      | refine j_q (qs_loadR (v := ptrR (p.ls.getD i RL0)) (a := ⟨gl, 0, none⟩) (i := i) (rL (by omega)) Try.underlying113 rfl (Eq.trans rfl (add0' gl i)) (lget hi1)) ?_
      | refine j_q (qs_loadO (rl hi1) Try.underlying113 rfl rfl rfl) ?_
      | refine j_q (qs_load 0 Try.underlying113 rfl rfl rfl rfl) ?_
    refine j_q (qs_lenl (n := (p.ls.getD i RL0).row.length) (A := Ar) (c := capr) Try.underlying113 (Eq.trans rfl hrv)) ?_
    refine j_q (qs_lss rfl rfl) ?_
    refine j_cond rfl (fun hc1 => ?_) (fun hc1 => ?_)
    · skip
      have hj1 : j < (p.ls.getD i RL0).row.length := by
        simp only [Bool.and_eq_true, Bool.or_eq_true, Bool.and_eq_false_iff, Bool.or_eq_false_iff, Bool.not_eq_true', Bool.not_eq_false', decide_eq_true_eq, decide_eq_false_iff_not, beq_iff_eq, beq_eq_false_iff_ne, bne_iff_ne, bne_eq_false_iff_eq, ne_eq, Int.toNat_natCast] at *
        omega
      have hne : (p.ls.getD i RL0).row ≠ [] := fun e => by rw [e] at hj1; simp at hj1
      refine j_q (qs_nil rfl) ?_
      refine j_q (qs_field Try.underlying50 rfl sz48 (by decide) rfl) ?_
      first
        | refine j_q (qs_loadO rT Try.underlying48 rfl rfl rfl) ?_
        | refine j_q (qs_loadR (v := ptrR (p.ls.getD i RL0)) (a := ⟨gl, 0, none⟩) (i := i) (rL (by omega)) Try.underlying48 rfl (Eq.trans rfl (add0' gl i)) (lget hi1)) ?_
        | refine j_q (qs_loadO (rl hi1) Try.underlying48 rfl rfl rfl) ?_
        | refine j_q (qs_load 0 Try.underlying48 rfl rfl rfl rfl) ?_
      refine j_q (qs_ixg (g := gl) (n := p.ls.length) (c := cap) Try.underlying48 sz110 (Eq.trans rfl (hlv.trans (by rw [hA (by omega)]))) rfl (by omega)) ?_
      first
        | refine j_q (qs_loadO rT Try.underlying110 rfl rfl rfl) ?_
        | refine j_q (qs_loadR (v := ptrR (p.ls.getD i RL0)) (a := ⟨gl, 0, none⟩) (i := i) (rL (by omega)) Try.underlying110 rfl (Eq.trans rfl (add0' gl i)) (lget hi1)) ?_
        | refine j_q (qs_loadO (rl hi1) Try.underlying110 rfl rfl rfl) ?_
        | refine j_q (qs_load 0 Try.underlying110 rfl rfl rfl rfl) ?_
      refine j_q (qs_nil rfl) ?_
      refine j_q (qs_field Try.underlying115 rfl sz113 (by decide) rfl) ?_
      first
        | refine j_q (qs_loadO rT Try.underlying113 rfl rfl rfl) ?_
        | refine j_q (qs_loadR (v := ptrR (p.ls.getD i RL0)) (a := ⟨gl, 0, none⟩) (i := i) (rL (by omega)) Try.underlying113 rfl (Eq.trans rfl (add0' gl i)) (lget hi1)) ?_
        | refine j_q (qs_loadO (rl hi1) Try.underlying113 rfl rfl rfl) ?_
        | refine j_q (qs_load 0 Try.underlying113 rfl rfl rfl rfl) ?_
      refine j_q (qs_ixn (g := gr) (off := ro) (n := (p.ls.getD i RL0).row.length) (c := capr) Try.underlying113 sz117 (Eq.trans rfl (hrv.trans (by rw [hAr hne]))) rfl hj1) ?_
      refine j_q (qs_field Try.underlying117 rfl sz3 (by decide) rfl) ?_
      refine j_q (qs_loadrec (d := (0, false)) (encA := fun x : Int × Bool => [.int .i64 x.1, .bool x.2]) (fun _ => rfl) (rR hne) hj1 Try.underlying3 rfl rfl rfl) ?_
      refine j_q (qs_eql rfl rfl) ?_
      refine j_cond rfl (fun hc2 => ?_) (fun hc2 => ?_)
      · skip
        have hir : inRow (p.ls.getD i RL0) t = true := by
          unfold inRow
          rw [List.any_eq_true]
          exact ⟨(p.ls.getD i RL0).row.getD j (0, false), rowmem hj1, hc2⟩
        have hfd : findW p.ls t = some (p.ls.getD i RL0) := find_hit hi1 hno hir
        refine j_q (qs_nil rfl) ?_
        refine j_q (qs_field Try.underlying50 rfl sz48 (by decide) rfl) ?_
        first
          | refine j_q (qs_loadO rT Try.underlying48 rfl rfl rfl) ?_
          | refine j_q (qs_loadR (v := ptrR (p.ls.getD i RL0)) (a := ⟨gl, 0, none⟩) (i := i) (rL (by omega)) Try.underlying48 rfl (Eq.trans rfl (add0' gl i)) (lget hi1)) ?_
          | refine j_q (qs_loadO (rl hi1) Try.underlying48 rfl rfl rfl) ?_
          | refine j_q (qs_load 0 Try.underlying48 rfl rfl rfl rfl) ?_
        refine j_q (qs_ixg (g := gl) (n := p.ls.length) (c := cap) Try.underlying48 sz110 (Eq.trans rfl (hlv.trans (by rw [hA (by omega)]))) rfl (by omega)) ?_
        first
          | refine j_q (qs_loadO rT Try.underlying110 rfl rfl rfl) ?_
          | refine j_q (qs_loadR (v := ptrR (p.ls.getD i RL0)) (a := ⟨gl, 0, none⟩) (i := i) (rL (by omega)) Try.underlying110 rfl (Eq.trans rfl (add0' gl i)) (lget hi1)) ?_
          | refine j_q (qs_loadO (rl hi1) Try.underlying110 rfl rfl rfl) ?_
          | refine j_q (qs_load 0 Try.underlying110 rfl rfl rfl rfl) ?_
        refine j_ret_con (vs := [_]) (fun w' hw' => ⟨rfl, trivial⟩) ?_
        rw [hfd]
        rfl
      · skip
        have hnj2 : ((p.ls.getD i RL0).row.take (j + 1)).any (fun x => x.1 == t) = false := by
          rw [List.take_add_one, List.getElem?_eq_getElem hj1, List.any_append, hnj]
          rw [List.getD_eq_getElem?_getD, List.getElem?_eq_getElem hj1] at hc2
          simpa using hc2
        refine j_q (qs_add64 rfl rfl (by first | omega | (simp only [Bool.and_eq_true, Bool.or_eq_true, Bool.and_eq_false_iff, Bool.or_eq_false_iff, Bool.not_eq_true', Bool.not_eq_false', decide_eq_true_eq, decide_eq_false_iff_not, beq_iff_eq, beq_eq_false_iff_ne, bne_iff_ne, bne_eq_false_iff_eq, ne_eq, Int.toNat_natCast] at *; omega))) ?_
        refine j_back rfl ?_
        exact ⟨(p.ls.getD i RL0).row.length - (j + 1), by omega, j + 1, rfl, rfl, hnj2, by omega, rfl⟩
    · skip
      obtain rfl : j = (p.ls.getD i RL0).row.length := by
        simp only [Bool.and_eq_true, Bool.or_eq_true, Bool.and_eq_false_iff, Bool.or_eq_false_iff, Bool.not_eq_true', Bool.not_eq_false', decide_eq_true_eq, decide_eq_false_iff_not, beq_iff_eq, beq_eq_false_iff_ne, bne_iff_ne, bne_eq_false_iff_eq, ne_eq, Int.toNat_natCast] at *
        omega
      rw [List.take_of_length_le (Nat.le_refl _)] at hnj
      have hno2 := find_miss hi1 hno hnj
      refine j_q (qs_add64 rfl rfl (by first | omega | (simp only [Bool.and_eq_true, Bool.or_eq_true, Bool.and_eq_false_iff, Bool.or_eq_false_iff, Bool.not_eq_true', Bool.not_eq_false', decide_eq_true_eq, decide_eq_false_iff_not, beq_iff_eq, beq_eq_false_iff_ne, bne_iff_ne, bne_eq_false_iff_eq, ne_eq, Int.toNat_natCast] at *; omega))) ?_
      refine j_back rfl ?_
      exact ⟨p.ls.length - (i + 1), by omega, i + 1, rfl, rfl, hno2, by omega, rfl⟩
  · skip
    obtain rfl : i = p.ls.length := by
      simp only [Bool.and_eq_true, Bool.or_eq_true, Bool.and_eq_false_iff, Bool.or_eq_false_iff, Bool.not_eq_true', Bool.not_eq_false', decide_eq_true_eq, decide_eq_false_iff_not, beq_iff_eq, beq_eq_false_iff_ne, bne_iff_ne, bne_eq_false_iff_eq, ne_eq, Int.toNat_natCast] at *
      omega
    rw [List.take_of_length_le (Nat.le_refl _)] at hno
    refine j_q (qs_ac) ?_
    refine j_ret_con (vs := [_]) (fun w' hw' => ⟨rfl, trivial⟩) ?_
    unfold findW
    rw [hno]
    rfl
/-- (*pantry.pantryref12.Table).Waits -/
theorem rWaits_con (B : Nat) (hB : B ≤ 1000000) (p : RT) (t : Int) (w : World) (hin : In w p.heap) (hok : p.Ok B) : Con Try.prog 32 [.pointer (some ⟨p.gt, 0, none⟩), .int .i64 t] w [] fun v _ => v = .tuple #[.string (bs (match findW p.ls t with | some l => l.name | none => [])), .bool (findW p.ls t).isSome] := by
  refine con_of_tree mix Try.func32 T32_ok (by kernel_rfl) ?_
  unfold T32
  obtain ⟨o, ho⟩ : ∃ o, o = findW p.ls t := ⟨_, rfl⟩
  rw [← ho]
  have hmem : ∀ l, o = some l → l ∈ p.ls := fun l h => List.mem_of_find?_eq_some (ho.symm.trans h)
  refine j_q (qs_ac) ?_
  refine j_q (qs_ac) ?_
  refine j_q (qs_call ent48 rfl rfl rfl (fun w' hw' => rwaits_con B hB p t w' (in_keep0 hin hw') hok)) ?_
  rw [← ho]
  refine j_q (qs_pnil Try.underlying110 rfl) ?_
  refine j_cond rfl (fun hc0 => ?_) (fun hc0 => ?_)
  · skip
    obtain rfl : o = none := by
      cases o with
      | none => rfl
      | some l => simp at hc0
    refine j_q (qs_ac) ?_
    refine j_q (qs_ac) ?_
    refine j_ret_con (vs := [_, _]) (fun w' hw' => ⟨rfl, rfl, trivial⟩) ?_
    rfl
  · skip
    obtain ⟨l, rfl⟩ : ∃ l, o = some l := by
      cases o with
      | none => simp at hc0
      | some l => exact ⟨l, rfl⟩
    rw [Option.map_some]
    refine j_q (qs_nil rfl) ?_
    refine j_q (qs_field Try.underlying115 rfl sz9 (by decide) rfl) ?_
    refine j_q (qs_loadO (rdo_base (o := RL.obj l) (RL.in_g (RT.in_l hin (hmem l rfl))) (by simp)) Try.underlying9 rfl rfl rfl) ?_
    refine j_q (qs_ac) ?_
    refine j_ret_con (vs := [_, _]) (fun w' hw' => ⟨rfl, rfl, trivial⟩) ?_
    rfl
end Go.Proofs.Ytlgfpoelhjlifaa
