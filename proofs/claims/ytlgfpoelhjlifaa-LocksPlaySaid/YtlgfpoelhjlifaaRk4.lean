/- Locks by names, as the document has them: a lock is made; Take. -/
import Derived.Test.YtlgfpoelhjlifaaTa
import Derived.Test.YtlgfpoelhjlifaaRk3
namespace Go.Proofs.Ytlgfpoelhjlifaa
open Go Go.Sx
set_option maxRecDepth 100000
set_option maxHeartbeats 4000000
set_option linter.unusedVariables false
set_option linter.unusedSimpArgs false
attribute [local irreducible] J JQ QS Con W opW
theorem sb110 : (Try.prog.info? 110).map (fun i => (i.size, i.bytes)) = some (1, 8) := by kernel_rfl
theorem sb117 : (Try.prog.info? 117).map (fun i => (i.size, i.bytes)) = some (2, 16) := by kernel_rfl
theorem zero110 : zeroL Try.prog 110 = some ([.pointer none]) := by kernel_rfl
theorem zero115 : zeroL Try.prog 115 = some ([.string (bs []), .bool false, .slice none 0 0, .slice none 0 0]) := by kernel_rfl

/-- a lock without its places in memory -/
structure RE where
  name : List UInt8
  holds : List Int
  row : List (Int × Bool)
  sh : Bool
def RL.e (l : RL) : RE := ⟨l.name, l.holds, l.row, l.sh⟩
abbrev E0 (n : List UInt8) : RE := ⟨n, [], [], false⟩
def lessN (n : List UInt8) (e : RE) : Bool := Op.bytesLess e.name n
def ensureE (es : List RE) (n : List UInt8) : List RE :=
  match es.dropWhile (lessN n) with
  | [] => es.takeWhile (lessN n) ++ [E0 n]
  | e :: r => if e.name = n then es else es.takeWhile (lessN n) ++ E0 n :: e :: r
def lockE (es : List RE) (n : List UInt8) : RE :=
  match es.dropWhile (lessN n) with
  | [] => E0 n
  | e :: _ => if e.name = n then e else E0 n
def findNE (es : List RE) (n : List UInt8) : Option RE := es.find? fun e => e.name == n
def findWE (es : List RE) (t : Int) : Option RE := es.find? fun e => e.row.any fun x => x.1 == t
def holdsE (es : List RE) (t : Int) (n : List UInt8) : Bool := match findNE es n with | none => false | some e => hasI e.holds t
def needsE (es : List RE) (t : Int) : List Int := match findWE es t with | none => [] | some e => e.holds ++ (tw t e.row).map Prod.fst
inductive EReach (es : List RE) : Int → Int → Prop
  | one {a b : Int} : b ∈ needsE es a → EReach es a b
  | more {a b c : Int} : c ∈ needsE es a → EReach es c b → EReach es a b
def setE (es : List RE) (e : RE) : List RE := es.map fun x => if x.name = e.name then e else x
theorem findN_e (ls : List RL) (n : List UInt8) : findNE (ls.map RL.e) n = (findN ls n).map RL.e := by
  unfold findNE findN
  rw [List.find?_map]
  rfl
theorem findW_e (ls : List RL) (t : Int) : findWE (ls.map RL.e) t = (findW ls t).map RL.e := by
  unfold findWE findW
  rw [List.find?_map]
  rfl
theorem holds_e (ls : List RL) (t : Int) (n : List UInt8) : holdsE (ls.map RL.e) t n = rholds ls t n := by
  unfold holdsE rholds
  rw [findN_e]
  cases findN ls n <;> rfl
theorem needs_e (ls : List RL) (t : Int) : needsE (ls.map RL.e) t = needsL ls t := by
  unfold needsE needsL
  rw [findW_e]
  cases findW ls t <;> rfl
theorem reach_e (ls : List RL) (a b : Int) : EReach (ls.map RL.e) a b ↔ RReach ls a b := by
  constructor
  · intro h
    induction h with
    | one h => rw [needs_e] at h; exact .one h
    | more h _ ih => rw [needs_e] at h; exact .more h ih
  · intro h
    induction h with
    | one h => rw [← needs_e] at h; exact .one h
    | more h _ ih => rw [← needs_e] at h; exact .more h ih
/-- the rest of the locks -/
def restR (a b : List RL) : SH := (a.map RL.heap).flatten ++ (b.map RL.heap).flatten
theorem RT.open_ {p : RT} {a b : List RL} {l : RL} (h : p.ls = a ++ l :: b) : p.heap.Perm ([[(p.gt, p.tobj)], p.lc, l.heap, restR a b] : List SH).flatten := by
  classical
  refine List.perm_iff_count.2 fun x => ?_
  simp only [RT.heap, restR, h, List.map_append, List.map_cons, List.flatten_append, List.flatten_cons, List.flatten_nil, List.append_nil, List.nil_append, List.count_append, List.count_cons, List.count_nil] <;> omega
theorem RT.Ok.put {p : RT} {B B' : Nat} {a b : List RL} {l l' : RL} (h : p.Ok B) (e : p.ls = a ++ l :: b) (hg : l'.g = l.g) (hl : l'.Ok B') (hB : B ≤ B') : RT.Ok B' { p with ls := a ++ l' :: b } := by
  refine ⟨?_, fun x hx => ?_, ?_⟩
  · have h1 := h.l
    rw [e] at h1
    show Sx.Own 110 1 ((a ++ l' :: b).map ptrR) p.lv p.lc
    simp only [List.map_append, List.map_cons, ptrR, hg] at h1 ⊢
    exact h1
  · have up : ∀ y ∈ p.ls, y.Ok B' := fun y hy => by
      obtain ⟨h1, h2, h3, h4⟩ := h.each y hy
      exact ⟨h1, h2, h3, by omega⟩
    rcases List.mem_append.1 hx with hx | hx
    · exact up x (by rw [e]; exact List.mem_append_left _ hx)
    · rcases List.mem_cons.1 hx with rfl | hx
      · exact hl
      · exact up x (by rw [e]; exact List.mem_append_right _ (List.mem_cons_of_mem _ hx))
  · have := h.lb
    rw [e] at this
    simp only [List.length_append, List.length_cons] at this ⊢
    omega
theorem RT.Ok.up {p : RT} {B B' : Nat} (h : p.Ok B) (hB : B ≤ B') : p.Ok B' := ⟨h.l, fun x hx => by
  obtain ⟨h1, h2, h3, h4⟩ := h.each x hx
  exact ⟨h1, h2, h3, by omega⟩, by have := h.lb; omega⟩
/-- no name stands twice -/
def NamesNd (ls : List RL) : Prop := (ls.map RL.name).Nodup
theorem setE_split {a b : List RL} {l l' : RL} (h : NamesNd (a ++ l :: b)) (hn : l'.name = l.name) : (a ++ l' :: b).map RL.e = setE ((a ++ l :: b).map RL.e) l'.e := by
  unfold NamesNd at h
  rw [List.map_append, List.map_cons, List.nodup_append, List.nodup_cons] at h
  have hoff : ∀ {c : List RL}, (∀ x ∈ c, x.name ≠ l.name) → (c.map RL.e).map (fun x => if x.name = l'.e.name then l'.e else x) = c.map RL.e := fun {c} hc => by
    rw [List.map_map]
    refine List.map_congr_left fun x hx => ?_
    show (if x.name = l'.name then l'.e else x.e) = x.e
    rw [if_neg (by rw [hn]; exact hc x hx)]
  unfold setE
  rw [List.map_append, List.map_cons, List.map_append, List.map_cons, List.map_append, List.map_cons, hoff (fun x hx e => h.2.2 x.name (List.mem_map.2 ⟨x, hx, rfl⟩) l.name (by simp) e), hoff (fun x hx e => h.2.1.1 (by rw [← e]; exact List.mem_map.2 ⟨x, hx, rfl⟩))]
  congr 2
  show l'.e = if l.name = l'.name then l'.e else l.e
  rw [if_pos hn.symm]
theorem names_e (ls : List RL) : (ls.map RL.e).map RE.name = ls.map RL.name := by rw [List.map_map]; rfl
theorem split_mem {ls : List RL} {l : RL} (h : l ∈ ls) : ∃ a b, ls = a ++ l :: b := List.append_of_mem h
theorem tw_len {α : Type} {p : α → Bool} {l : List α} {k : Nat} (h : ∀ x ∈ l.take k, p x = true) (hk : k ≤ l.length) (he : ∀ x, l[k]? = some x → p x = false) : l.takeWhile p = l.take k ∧ l.dropWhile p = l.drop k := by
  induction l generalizing k with
  | nil => simp
  | cons a l ih =>
    cases k with
    | zero =>
      have ha := he a (by simp)
      simp [ha]
    | succ k =>
      have ha : p a = true := h a (by simp)
      obtain ⟨h1, h2⟩ := ih (k := k) (fun x hx => h x (by simp [hx])) (by simpa using hk) (fun x hx => he x (by simpa using hx))
      simp [ha, h1, h2]
theorem own_takes {e : TypeId} {xs : List Value} {v : Value} {c : SH} (h : Sx.Own e 1 xs v c) : ∃ A cap, v = .slice A xs.length cap := by
  obtain ⟨n, A, cap, rfl, hn⟩ := own_form h (by decide)
  rw [Nat.mul_one] at hn
  subst hn
  exact ⟨A, cap, rfl⟩
theorem ptrs_one {ls : List RL} {xs : List Value} (h : ∀ u ∈ xs, u ∈ ls.map ptrR) : ∀ u ∈ xs, oneV u = true := fun u hu => by
  obtain ⟨l, _, rfl⟩ := List.mem_map.1 (h u hu)
  rfl
/-- (*pantry.pantryref12.Table).lock -/
theorem rlock_con (B : Nat) (hB : B < 1000000) (p : RT) (n : List UInt8) (w : World) (hok : p.Ok B) (hn : strOk n) : Con Try.prog 49 [.pointer (some ⟨p.gt, 0, none⟩), .string (bs n)] w p.heap fun v S' => ∃ (p' : RT) (l : RL), S' = [p'.heap] ∧ v = ptrR l ∧ l ∈ p'.ls ∧ l.e = lockE (p.ls.map RL.e) n ∧ l.Ok B ∧ p'.Ok (B + 1) ∧ p'.gt = p.gt ∧ p'.ls.map RL.e = ensureE (p.ls.map RL.e) n := by
  refine con_of_tree mix Try.func49 T49_ok (by kernel_rfl) ?_
  unfold T49
  obtain ⟨A, cap, gl, hlv, hcap, hA⟩ := hok.form
  have hlb := hok.lb
  have rL : ∀ {b : Base} {S : List SH} (k : Nat), S[k]? = some p.lc → 0 < p.ls.length → Rd b S ⟨gl, 0, none⟩ (p.ls.map ptrR) := fun k hk h0 => by
    have h1 := hok.l
    rw [hlv, hA h0] at h1
    exact own_rd h1 k hk
  have lobj : ∀ {k : Nat}, k < p.ls.length → ((p.ls.getD k RL0).g, (p.ls.getD k RL0).obj) ∈ (p.ls.map RL.heap).flatten := fun {k} hk => List.mem_flatten.2 ⟨_, List.mem_map.2 ⟨_, lmem hk, rfl⟩, by simp [RL.heap]⟩
  refine j_perm (S' := [[(p.gt, p.tobj)], p.lc, (p.ls.map RL.heap).flatten]) (by simp [RT.heap]) ?_
  refine j_q (qs_ac) ?_
  refine j_q (qs_ac) ?_
  refine j_loop (fun m vs S' => ∃ k : Nat, vs = [.int .i64 (k : Int)] ∧ S' = [[(p.gt, p.tobj)], p.lc, (p.ls.map RL.heap).flatten] ∧ (∀ x ∈ (p.ls.map RL.e).take k, lessN n x = true) ∧ k ≤ p.ls.length ∧ m = p.ls.length - k) ⟨_, 0, rfl, rfl, (fun x h => by simp at h), Nat.zero_le _, rfl⟩ ?_
  rintro m vs S' hlen ⟨k, rfl, rfl, hless, hk, rfl⟩
  refine j_q (qs_nil rfl) ?_
  refine j_q (qs_field Try.underlying50 rfl sz48 (by decide) rfl) ?_
  refine j_q (qs_load (l := [p.lv]) 0 Try.underlying48 rfl rfl rfl rfl) ?_
  refine j_q (qs_lenl (n := p.ls.length) (A := A) (c := cap) Try.underlying48 (Eq.trans rfl hlv)) ?_
  refine j_q (qs_lss rfl rfl) ?_
  refine j_g rfl (fun hb => qs_mt rfl) ?_
  refine j_g rfl (fun hb => qs_nil (gd_eq hb)) ?_
  refine j_g rfl (fun hb => qs_field Try.underlying50 rfl sz48 (by decide) (gd_eq hb)) ?_
  refine j_g rfl (fun hb => qs_load (l := [p.lv]) 0 Try.underlying48 rfl (gd_eq hb) rfl rfl) ?_
  refine j_g rfl (fun hb => qs_mt rfl) ?_
  refine j_g rfl (fun hb => qs_ixn (g := gl) (off := 0) (n := p.ls.length) (c := cap) Try.underlying48 sz110 ((gd_eq hb).trans (hlv.trans (by rw [hA (by have h1 : (k : Int) < (p.ls.length : Nat) := (by simpa using hb); omega)]))) (gd_eq hb) (by have h1 : (k : Int) < (p.ls.length : Nat) := (by simpa using hb); omega)) ?_
  refine j_g rfl (fun hb => qs_loadR (v := ptrR (p.ls.getD k RL0)) (a := ⟨gl, 0, none⟩) (i := k) (rL 1 rfl (by have h1 : (k : Int) < (p.ls.length : Nat) := (by simpa using hb); omega)) Try.underlying110 rfl ((gd_eq hb).trans (addz gl k)) (lget (by have h1 : (k : Int) < (p.ls.length : Nat) := (by simpa using hb); omega))) ?_
  refine j_g rfl (fun hb => qs_nil (gd_eq hb)) ?_
  refine j_g rfl (fun hb => qs_field Try.underlying115 rfl sz9 (by decide) (gd_eq hb)) ?_
  refine j_g rfl (fun hb => qs_loadO (l := rlcells (p.ls.getD k RL0)) (rdo_mem (o := RL.obj (p.ls.getD k RL0)) 2 rfl (lobj (by have h1 : (k : Int) < (p.ls.length : Nat) := (by simpa using hb); omega))) Try.underlying9 rfl (gd_eq hb) rfl) ?_
  refine j_g rfl (fun hb => qs_mt rfl) ?_
  refine j_g rfl (fun hb => qs_slss (gd_eq hb) (gd_eq hb)) ?_
  refine j_q (qs_and rfl rfl) ?_
  refine j_cond rfl (fun hc0 => ?_) (fun hc0 => ?_)
  · skip
    have hk1 : k < p.ls.length := by
      simp only [Bool.and_eq_true, decide_eq_true_eq] at hc0
      omega
    have hkl : lessN n (p.ls.getD k RL0).e = true := by
      simp only [Bool.and_eq_true] at hc0
      exact hc0.2
    have hless2 : ∀ x ∈ (p.ls.map RL.e).take (k + 1), lessN n x = true := fun x hx => by
      rw [← List.map_take, ltake hk1, List.map_append] at hx
      rcases List.mem_append.1 hx with hx | hx
      · exact hless x (by rw [← List.map_take]; exact hx)
      · simp only [List.map_cons, List.map_nil, List.mem_singleton] at hx
        rw [hx]
        exact hkl
    refine j_q (qs_add64 rfl rfl (by first | omega | (simp only [Bool.and_eq_true, Bool.or_eq_true, Bool.and_eq_false_iff, Bool.or_eq_false_iff, Bool.not_eq_true', Bool.not_eq_false', decide_eq_true_eq, decide_eq_false_iff_not, beq_iff_eq, beq_eq_false_iff_ne, bne_iff_ne, bne_eq_false_iff_eq, ne_eq, Int.toNat_natCast] at *; omega))) ?_
    refine j_back rfl ?_
    exact ⟨p.ls.length - (k + 1), by omega, k + 1, rfl, rfl, hless2, by omega, rfl⟩
  · skip
    have hstop : ∀ x, (p.ls.map RL.e)[k]? = some x → lessN n x = false := fun x hx => by
      rw [List.getElem?_map] at hx
      obtain ⟨y, hy, rfl⟩ := Option.map_eq_some_iff.1 hx
      have hk1 := (List.getElem?_eq_some_iff.1 hy).1
      rw [lgetq hk1] at hy
      injection hy with hy
      rw [← hy]
      have h0 : decide ((k : Int) < (p.ls.length : Nat)) = true := decide_eq_true (by omega)
      rw [h0, Bool.true_and] at hc0
      exact hc0
    obtain ⟨htw, hdw⟩ := tw_len hless (by rw [List.length_map]; exact hk) hstop
    rw [← List.map_take] at htw
    rw [← List.map_drop] at hdw
    refine j_q (qs_nil rfl) ?_
    refine j_q (qs_field Try.underlying50 rfl sz48 (by decide) rfl) ?_
    refine j_q (qs_load (l := [p.lv]) 0 Try.underlying48 rfl rfl rfl rfl) ?_
    refine j_q (qs_lenl (n := p.ls.length) (A := A) (c := cap) Try.underlying48 (Eq.trans rfl hlv)) ?_
    refine j_q (qs_lss rfl rfl) ?_
    refine j_g rfl (fun hb => qs_mt rfl) ?_
    refine j_g rfl (fun hb => qs_nil (gd_eq hb)) ?_
    refine j_g rfl (fun hb => qs_field Try.underlying50 rfl sz48 (by decide) (gd_eq hb)) ?_
    refine j_g rfl (fun hb => qs_load (l := [p.lv]) 0 Try.underlying48 rfl (gd_eq hb) rfl rfl) ?_
    refine j_g rfl (fun hb => qs_mt rfl) ?_
    refine j_g rfl (fun hb => qs_ixn (g := gl) (off := 0) (n := p.ls.length) (c := cap) Try.underlying48 sz110 ((gd_eq hb).trans (hlv.trans (by rw [hA (by have h1 : (k : Int) < (p.ls.length : Nat) := (by simpa using hb); omega)]))) (gd_eq hb) (by have h1 : (k : Int) < (p.ls.length : Nat) := (by simpa using hb); omega)) ?_
    refine j_g rfl (fun hb => qs_loadR (v := ptrR (p.ls.getD k RL0)) (a := ⟨gl, 0, none⟩) (i := k) (rL 1 rfl (by have h1 : (k : Int) < (p.ls.length : Nat) := (by simpa using hb); omega)) Try.underlying110 rfl ((gd_eq hb).trans (addz gl k)) (lget (by have h1 : (k : Int) < (p.ls.length : Nat) := (by simpa using hb); omega))) ?_
    refine j_g rfl (fun hb => qs_nil (gd_eq hb)) ?_
    refine j_g rfl (fun hb => qs_field Try.underlying115 rfl sz9 (by decide) (gd_eq hb)) ?_
    refine j_g rfl (fun hb => qs_loadO (l := rlcells (p.ls.getD k RL0)) (rdo_mem (o := RL.obj (p.ls.getD k RL0)) 2 rfl (lobj (by have h1 : (k : Int) < (p.ls.length : Nat) := (by simpa using hb); omega))) Try.underlying9 rfl (gd_eq hb) rfl) ?_
    refine j_g rfl (fun hb => qs_mt rfl) ?_
    refine j_g rfl (fun hb => qs_seql (gd_eq hb) (gd_eq hb)) ?_
    refine j_q (qs_and rfl rfl) ?_
    refine j_cond rfl (fun hc1 => ?_) (fun hc1 => ?_)
    · skip
      have hk1 : k < p.ls.length ∧ (p.ls.getD k RL0).name = n := by
        simp only [Bool.and_eq_true, decide_eq_true_eq] at hc1
        refine ⟨by omega, ?_⟩
        simpa using hc1.2
      obtain ⟨hk1, hkn⟩ := hk1
      have hdc : p.ls.drop k = (p.ls.getD k RL0) :: p.ls.drop (k + 1) := by
        rw [List.drop_eq_getElem_cons hk1, List.getD_eq_getElem?_getD, List.getElem?_eq_getElem hk1]
        rfl
      rw [hdc, List.map_cons] at hdw
      refine j_q (qs_nil rfl) ?_
      refine j_q (qs_field Try.underlying50 rfl sz48 (by decide) rfl) ?_
      refine j_q (qs_load (l := [p.lv]) 0 Try.underlying48 rfl rfl rfl rfl) ?_
      refine j_q (qs_ixn (g := gl) (off := 0) (n := p.ls.length) (c := cap) Try.underlying48 sz110 (hlv.trans (by rw [hA (by omega)])) rfl hk1) ?_
      refine j_q (qs_loadR (v := ptrR (p.ls.getD k RL0)) (a := ⟨gl, 0, none⟩) (i := k) (rL 1 rfl (by omega)) Try.underlying110 rfl (addz gl k) (lget hk1)) ?_
      refine j_perm (S' := [p.heap]) (by simp [RT.heap]) ?_
      refine j_ret_con (vs := [_]) (fun w' hw' => ⟨rfl, trivial⟩) ?_
      refine ⟨p, (p.ls.getD k RL0), rfl, rfl, lmem hk1, ?_, hok.each _ (lmem hk1), hok.up (by omega), rfl, ?_⟩
      · unfold lockE
        rw [hdw]
        simp only
        rw [if_pos (by exact hkn)]
      · unfold ensureE
        rw [hdw]
        simp only
        rw [if_pos (by exact hkn)]
    · skip
      have hnot : ∀ y r, p.ls.drop k = y :: r → y.name ≠ n := fun y r hy e => by
        have hk1 : k < p.ls.length := by
          rcases Nat.lt_or_ge k p.ls.length with h | h
          · exact h
          · rw [List.drop_eq_nil_of_le h] at hy; cases hy
        have h0 : decide ((k : Int) < (p.ls.length : Nat)) = true := decide_eq_true (by omega)
        rw [h0, Bool.true_and] at hc1
        rw [List.drop_eq_getElem_cons hk1] at hy
        injection hy with hy _
        have h1 : (p.ls.getD k RL0) = y := by rw [List.getD_eq_getElem?_getD, List.getElem?_eq_getElem hk1, Option.getD_some, hy]
        rw [h1] at hc1
        exact absurd e (by simpa using hc1)
      obtain ⟨hoA, hoC, e0⟩ : ∃ A cap, p.lv = .slice A p.ls.length cap := ⟨A, cap, hlv⟩
      have hol := hok.l
      rw [hlv] at hol
      refine j_lit (vs := []) Try.underlying48 sz110 zero110 rfl (by simp [oneV]) ⟨rfl, by decide⟩ (fun g44 v44 c44 hv44 hc44 ho44 => ?_)
      subst hv44 hc44
      refine j_q (qs_nil rfl) ?_
      refine j_q (qs_field Try.underlying50 rfl sz48 (by decide) rfl) ?_
      refine j_q (qs_load (l := [p.lv]) 1 Try.underlying48 rfl rfl rfl rfl) ?_
      refine j_q (qs_cutl (a := 0) (z := k) Try.underlying48 sz110 hlv rfl ⟨.i64, rfl⟩ (Nat.zero_le _) (by omega)) ?_
      refine j_append 0 Try.underlying48 Try.underlying48 (.inr ⟨_, rfl⟩) sb110 zero110 rfl ho44 rfl (src_cut hol 2 rfl (Nat.zero_le _) hk) (ptrs_one fun u hu => by rw [List.drop_zero] at hu; exact List.mem_of_mem_take hu) ⟨(by have h1 : (List.drop 0 (List.take k (p.ls.map ptrR))).length ≤ p.ls.length := (by simp <;> omega); simp only [List.length_nil]; omega), (by decide)⟩ (fun v49 c49 ho49 => ?_)
      refine j_q (qs_build (places := [(0, 1), (1, 1), (2, 1), (3, 1)]) (offs := [(0, [.string (bs n)])]) Try.underlying115 zero115 (by kernel_rfl) rfl (by rintro (_ | j) p q hp hq <;> first | (simp at hp hq; subst hp hq; exact ⟨rfl, rfl, by simp⟩) | (simp at hp))) ?_
      refine j_box (l := [.string (bs n), .bool false, .slice none 0 0, .slice none 0 0]) rfl (fun g51 hg51 hs51 => ?_)
      refine j_lit (vs := [.pointer (some ⟨g51, 0, none⟩)]) Try.underlying48 sz110 zero110 rfl (by simp [oneV]) ⟨rfl, by decide⟩ (fun g52 v52 c52 hv52 hc52 ho52 => ?_)
      subst hv52 hc52
      refine j_append 2 Try.underlying48 Try.underlying48 (.inr ⟨_, rfl⟩) sb110 zero110 rfl ho49 rfl (.inl ⟨_, _, rfl, own_rd ho52 0 rfl, rfl⟩) (by intro u hu; rw [List.mem_singleton] at hu; rw [hu]; rfl) ⟨(by have h1 : (List.drop 0 (List.take k (p.ls.map ptrR))).length ≤ p.ls.length := (by simp <;> omega); simp only [List.length_append, List.length_nil, List.length_singleton]; omega), (by decide)⟩ (fun v53 c53 ho53 => ?_)
      refine j_q (qs_nil rfl) ?_
      refine j_q (qs_field Try.underlying50 rfl sz48 (by decide) rfl) ?_
      refine j_q (qs_load (l := [p.lv]) 3 Try.underlying48 rfl rfl rfl rfl) ?_
      refine j_q (qs_cutl (a := k) (z := p.ls.length) Try.underlying48 sz110 hlv ⟨.i64, rfl⟩ rfl hk hcap) ?_
      refine j_append 2 Try.underlying48 Try.underlying48 (.inr ⟨_, rfl⟩) sb110 zero110 rfl ho53 rfl (src_cut hol 4 rfl hk (Nat.le_refl _)) (ptrs_one fun u hu => List.mem_of_mem_take (List.mem_of_mem_drop hu)) ⟨(by have h1 : (List.drop 0 (List.take k (p.ls.map ptrR))).length ≤ p.ls.length := (by simp <;> omega); have h2 : (List.drop k (List.take p.ls.length (p.ls.map ptrR))).length ≤ p.ls.length := (by simp <;> omega); simp only [List.length_append, List.length_nil, List.length_singleton]; omega), (by decide)⟩ (fun v58 c58 ho58 => ?_)
      have ho58' : Sx.Own 110 1 ((p.ls.take k ++ (⟨g51, n, false, [], .slice none 0 0, [], [], .slice none 0 0, []⟩ : RL) :: p.ls.drop k).map ptrR) v58 c58 := by
        have e : (p.ls.take k ++ (⟨g51, n, false, [], .slice none 0 0, [], [], .slice none 0 0, []⟩ : RL) :: p.ls.drop k).map ptrR = [] ++ List.drop 0 (List.take k (p.ls.map ptrR)) ++ [Value.pointer (some ⟨g51, 0, none⟩)] ++ List.drop k (List.take p.ls.length (p.ls.map ptrR)) := by
          rw [List.nil_append, List.drop_zero, List.take_of_length_le (i := p.ls.length) (by rw [List.length_map]; exact Nat.le_refl _), List.map_append, List.map_cons, List.map_take, List.map_drop, List.append_assoc]
          rfl
        rw [e]
        exact ho58
      have hlen58 : (p.ls.take k ++ (⟨g51, n, false, [], .slice none 0 0, [], [], .slice none 0 0, []⟩ : RL) :: p.ls.drop k).length = p.ls.length + 1 := by
        rw [List.length_append, List.length_cons, List.length_take, List.length_drop]
        omega
      obtain ⟨g58, n58, cap58, hv58⟩ := own_some ho58' (by simp)
      obtain rfl : n58 = p.ls.length + 1 := by
        obtain ⟨A', cap', e'⟩ := own_takes ho58'
        rw [hv58, List.length_map, hlen58] at e'
        injection e'
      have hget : ((p.ls.take k ++ (⟨g51, n, false, [], .slice none 0 0, [], [], .slice none 0 0, []⟩ : RL) :: p.ls.drop k).map ptrR)[k]? = some (.pointer (some ⟨g51, 0, none⟩)) := by
        rw [List.getElem?_map, List.getElem?_append_right (by rw [List.length_take]; omega), List.length_take, Nat.min_eq_left hk, Nat.sub_self]
        rfl
      refine j_q (qs_nil rfl) ?_
      refine j_q (qs_field Try.underlying50 rfl sz48 (by decide) rfl) ?_
      refine j_store (l := [p.lv]) 3 sz48 rfl rfl (by obtain ⟨n', A', cap', e', _⟩ := own_form ho58 (by decide); show oneV v58 = true; rw [e']; rfl) rfl (by simp) (by simp) ?_
      refine j_q (qs_nil rfl) ?_
      refine j_q (qs_field Try.underlying50 rfl sz48 (by decide) rfl) ?_
      refine j_q (qs_load (l := [v58]) 3 Try.underlying48 rfl rfl rfl rfl) ?_
      refine j_q (qs_ixn (g := g58) (off := 0) (n := p.ls.length + 1) (c := cap58) Try.underlying48 sz110 hv58 rfl (by omega)) ?_
      refine j_q (qs_loadR (v := .pointer (some ⟨g51, 0, none⟩)) (a := ⟨g58, 0, none⟩) (i := k) (by have h1 := ho58'; rw [hv58] at h1; exact own_rd h1 2 rfl) Try.underlying110 rfl (addz g58 k) hget) ?_
      refine j_subl (S' := [[(g51, .cells [.string (bs n), .bool false, .slice none 0 0, .slice none 0 0].toArray 115 (0, 0))], c58, [(p.gt, .cells [v58].toArray 50 (0, 0))], (p.ls.map RL.heap).flatten]) (by repeat first | exact List.Sublist.refl _ | exact List.nil_sublist _ | apply List.Sublist.cons_cons | apply List.Sublist.cons) ?_
      refine j_perm (S' := [RT.heap ({ p with lv := v58, lc := c58, ls := p.ls.take k ++ (⟨g51, n, false, [], .slice none 0 0, [], [], .slice none 0 0, []⟩ : RL) :: p.ls.drop k } : RT)]) (by
        classical
        have hm : ((p.ls.take k).map RL.heap).flatten ++ ((p.ls.drop k).map RL.heap).flatten = (p.ls.map RL.heap).flatten := by rw [← List.flatten_append, ← List.map_append, List.take_append_drop]
        refine List.perm_iff_count.2 fun a => ?_
        rw [← hm]
        simp only [RT.heap, RT.tobj, RL.heap, RL.obj, rlcells, List.map_append, List.map_cons, List.flatten_append, List.flatten_cons, List.flatten_nil, List.append_nil, List.nil_append, List.cons_append, List.count_append, List.count_cons, List.count_nil] <;> omega) ?_
      refine j_ret_con (vs := [_]) (fun w' hw' => ⟨rfl, trivial⟩) ?_
      refine ⟨({ p with lv := v58, lc := c58, ls := p.ls.take k ++ (⟨g51, n, false, [], .slice none 0 0, [], [], .slice none 0 0, []⟩ : RL) :: p.ls.drop k } : RT), (⟨g51, n, false, [], .slice none 0 0, [], [], .slice none 0 0, []⟩ : RL), rfl, rfl, by show _ ∈ p.ls.take k ++ _ :: p.ls.drop k; simp, ?_, ⟨own_nil, ownO_nil, hn, Nat.zero_le _⟩, ⟨ho58', fun x hx => ?_, by show (p.ls.take k ++ _ :: p.ls.drop k).length ≤ B + 1; rw [hlen58]; omega⟩, rfl, ?_⟩
      · unfold lockE
        rw [hdw]
        cases hd : p.ls.drop k with
        | nil => rfl
        | cons y r =>
          simp only [List.map_cons]
          rw [if_neg (by exact hnot y r hd)]
          rfl
      · have hx' : x ∈ p.ls.take k ++ (⟨g51, n, false, [], .slice none 0 0, [], [], .slice none 0 0, []⟩ : RL) :: p.ls.drop k := hx
        have up : ∀ y ∈ p.ls, y.Ok (B + 1) := fun y hy => by
          obtain ⟨h1, h2, h3, h4⟩ := hok.each y hy
          exact ⟨h1, h2, h3, by omega⟩
        rcases List.mem_append.1 hx' with hx' | hx'
        · exact up x (List.mem_of_mem_take hx')
        · rcases List.mem_cons.1 hx' with rfl | hx'
          · exact ⟨own_nil, ownO_nil, hn, Nat.zero_le _⟩
          · exact up x (List.mem_of_mem_drop hx')
      · show (p.ls.take k ++ (⟨g51, n, false, [], .slice none 0 0, [], [], .slice none 0 0, []⟩ : RL) :: p.ls.drop k).map RL.e = _
        unfold ensureE
        rw [hdw, htw, List.map_append, List.map_cons]
        cases hd : p.ls.drop k with
        | nil => rfl
        | cons y r =>
          simp only [List.map_cons]
          rw [if_neg (by exact hnot y r hd)]
          rfl
end Go.Proofs.Ytlgfpoelhjlifaa
