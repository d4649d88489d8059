/- Derivations, plain: their texts, what is wrong with them. -/
import Derived.Test.YtfeabbeebkkhaaaGreatSx19
import Derived.Test.YtfeabbeebkkhaaaGreatBld
namespace Go.Proofs.YtfeabbeebkkhaaaGreat
open Go Go.Sx
set_option linter.unusedVariables false
set_option linter.unusedSimpArgs false
abbrev Bs := List UInt8
theorem hexL (h : List UInt8) : (hex h).length = 64 := hexN_length h 32
/-- a sign as it stands in a text -/
def esc (c : UInt8) : Bs := if c = 34 then [92, 34] else if c = 92 then [92, 92] else if c = 10 then [92, 110] else if c = 13 then [92, 114] else if c = 9 then [92, 116] else [c]
def es (s : Bs) : Bs := (s.map esc).flatten
def qt (s : Bs) : Bs := [34] ++ es s ++ [34]
/-- members with commas between them -/
def cms (l : List Bs) : Bs := (l.map fun x => 44 :: x).flatten.drop 1
def lst (o : Bs) (l : List Bs) (c : Bs) : Bs := o ++ cms l ++ c
theorem es_snoc (s : Bs) (c : UInt8) : es (s ++ [c]) = es s ++ esc c := by simp [es]
theorem esc_len (c : UInt8) : 1 ≤ (esc c).length ∧ (esc c).length ≤ 2 := by
  unfold esc
  repeat' split
  all_goals simp
theorem es_len (s : Bs) : s.length ≤ (es s).length ∧ (es s).length ≤ 2 * s.length := by
  induction s with
  | nil => simp [es]
  | cons c s ih =>
    have h := esc_len c
    have e : es (c :: s) = esc c ++ es s := by simp [es]
    rw [e, List.length_append, List.length_cons]
    omega
theorem qt_len (s : Bs) : (qt s).length = (es s).length + 2 := by simp [qt]
theorem cms_nil : cms [] = [] := rfl
theorem cms_snoc (l : List Bs) (x : Bs) : cms (l ++ [x]) = if l = [] then x else cms l ++ (44 :: x) := by
  unfold cms
  rw [List.map_append, List.flatten_append]
  cases l with
  | nil => simp
  | cons y l =>
    rw [if_neg (by simp), List.map_cons, List.flatten_cons, List.cons_append, List.cons_append, List.drop_succ_cons, List.drop_succ_cons, List.drop_zero, List.drop_zero]
    simp
theorem cms_one (x : Bs) : cms [x] = x := by simp [cms]
theorem cms_len (l : List Bs) : (cms l).length ≤ (l.map List.length).sum + l.length := by
  unfold cms
  rw [List.length_drop, List.length_flatten, List.map_map]
  have : (l.map (List.length ∘ fun x => 44 :: x)).sum = (l.map List.length).sum + l.length := by
    induction l with
    | nil => rfl
    | cons a l ih => simp only [List.map_cons, List.sum_cons, Function.comp, List.length_cons] at ih ⊢; omega
  omega
/-- an output, an input, a variable, a derivation -/
abbrev Hsh := { l : Bs // l.length = 32 }
structure PO where
  name : Bs
  path : Bs
  fixed : Bool
  hash : Hsh
structure PI where
  drv : Bs
  outs : List Bs
structure PV where
  name : Bs
  val : Bs
structure PD where
  name : Bs
  sys : Bs
  bld : Bs
  args : List Bs
  env : List PV
  ins : List PI
  srcs : List Bs
  outs : List PO
abbrev sSha : Bs := [115, 104, 97, 50, 53, 54]
abbrev sDrv : Bs := [46, 100, 114, 118]
abbrev sOut : Bs := [111, 117, 116]
abbrev sDerive : Bs := [68, 101, 114, 105, 118, 101]
def tup (l : List Bs) : Bs := lst [40] l [41]
def tO (o : PO) : Bs := tup [qt o.name, qt o.path, qt (if o.fixed then sSha else []), qt (if o.fixed then hex o.hash.1 else [])]
def tTs (l : List Bs) : Bs := lst [91] (l.map qt) [93]
def tI (x : PI) : Bs := tup [qt x.drv, tTs x.outs]
def tV (v : PV) : Bs := tup [qt v.name, qt v.val]
def dtext (d : PD) : Bs := sDerive ++ tup [qt d.name, lst [91] (d.outs.map tO) [93], lst [91] (d.ins.map tI) [93], tTs d.srcs, qt d.sys, qt d.bld, tTs d.args, lst [91] (d.env.map tV) [93]]
/-- the first that is not nothing -/
def firstE (f : Nat → Int) : Nat → Int
  | 0 => 0
  | n + 1 => if firstE f n ≠ 0 then firstE f n else f n
theorem firstE_zero {f : Nat → Int} {n : Nat} (h : ∀ j < n, f j = 0) : firstE f n = 0 := by
  induction n with
  | zero => rfl
  | succ n ih =>
    have := ih fun j hj => h j (by omega)
    rw [firstE, if_neg (by omega)]
    exact h n (by omega)
theorem firstE_at {f : Nat → Int} {n i : Nat} (h : ∀ j < i, f j = 0) (hi : i < n) (he : f i ≠ 0) : firstE f n = f i := by
  induction n with
  | zero => omega
  | succ n ih =>
    rw [firstE]
    by_cases hin : i = n
    · subst hin
      rw [if_neg (by rw [firstE_zero h]; decide)]
    · have := ih (by omega)
      rw [if_pos (by rw [this]; exact he)]
      exact this
theorem firstE_all {f : Nat → Int} {n : Nat} (h : firstE f n = 0) : ∀ j < n, f j = 0 := by
  intro j hj
  induction n with
  | zero => omega
  | succ n ih =>
    rw [firstE] at h
    by_cases h0 : firstE f n = 0
    · rw [if_neg (by omega)] at h
      by_cases hjn : j = n
      · rw [hjn]; exact h
      · exact ih h0 (by omega)
    · rw [if_pos h0] at h
      exact absurd h h0
theorem zero_snoc {f : Nat → Int} {i : Nat} (h : ∀ j < i, f j = 0) (hi : f i = 0) : ∀ j < i + 1, f j = 0 := fun j hj => by
  by_cases hji : j = i
  · rw [hji]; exact hi
  · exact h j (by omega)
def leB (a b : Bs) : Bool := Op.bytesLess a b || a == b
abbrev zHash : Hsh := ⟨List.replicate 32 0, rfl⟩
abbrev o0 : PO := ⟨[], [], false, zHash⟩
abbrev i0 : PI := ⟨[], []⟩
abbrev v0 : PV := ⟨[], []⟩
def isDrvP (p : Bs) : Bool := isPath p && decide (4 < (p.drop 33).length) && ((p.drop 33).drop ((p.drop 33).length - 4) == sDrv)
def badO (l : List PO) (i : Nat) : Bool := (decide (0 < i) && leB (l.getD i o0).name (l.getD (i - 1) o0).name) || ((!((l.getD i o0).path == [])) && !isPath (l.getD i o0).path) || ((l.getD i o0).fixed && (decide (1 < l.length) || !((l.getD i o0).name == sOut))) || (!(l.getD i o0).fixed && !((l.getD i o0).hash.1 == List.replicate 32 0))
def chkO (l : List PO) (i : Nat) : Int := if isName (l.getD i o0).name then (if badO l i then 3 else 0) else 9
def chkOuts (l : List PO) : Int := if l.length < 1 ∨ 16 < l.length then 1 else firstE (chkO l) l.length
def chkN (l : List Bs) (i : Nat) : Int := if isName (l.getD i []) then (if decide (0 < i) && leB (l.getD i []) (l.getD (i - 1) []) then 3 else 0) else 9
def chkI (l : List PI) (i : Nat) : Int := if !isDrvP (l.getD i i0).drv || (decide (0 < i) && leB (l.getD i i0).drv (l.getD (i - 1) i0).drv) || (l.getD i i0).outs.length == 0 then 3 else firstE (chkN (l.getD i i0).outs) (l.getD i i0).outs.length
def chkIns (l : List PI) : Int := firstE (chkI l) l.length
def chkS (l : List Bs) (i : Nat) : Int := if !isPath (l.getD i []) || (decide (0 < i) && leB (l.getD i []) (l.getD (i - 1) [])) then 3 else 0
def chkV (l : List PV) (i : Nat) : Int := if (l.getD i v0).name == [] || (decide (0 < i) && leB (l.getD i v0).name (l.getD (i - 1) v0).name) then 3 else 0
def orE (a b : Int) : Int := if a = 0 then b else a
/-- what is wrong with one, but for the text's length -/
def chk0 (d : PD) : Int := if isName d.name && isName (d.name ++ sDrv) then orE (chkOuts d.outs) (orE (chkIns d.ins) (orE (firstE (chkS d.srcs) d.srcs.length) (firstE (chkV d.env) d.env.length))) else 9
def chk (d : PD) : Int := orE (chk0 d) (if 262144 < (dtext d).length then 5 else 0)
theorem orE_zero {a b : Int} : orE a b = 0 ↔ a = 0 ∧ b = 0 := by
  unfold orE
  split <;> simp_all
/-! how much there is -/
def sl (l : List Bs) : Nat := (l.map List.length).sum
def big1 (d : PD) : Nat := d.name.length + d.sys.length + d.bld.length + 10 * (d.outs.length + d.ins.length + d.srcs.length + d.env.length + d.args.length)
def big2 (d : PD) : Nat := big1 d + (d.env.map fun v => v.name.length + v.val.length).sum + sl d.args + (d.ins.map fun x => x.drv.length + 10 * x.outs.length).sum + (d.outs.map fun o => o.name.length + o.path.length).sum + sl d.srcs
def heavyP (d : PD) : Bool := decide (4000 < big1 d) || decide (16000 < big2 d)
theorem sl_map_le {α : Type} (f g : α → Nat) (k : Nat) (l : List α) (h : ∀ x ∈ l, f x ≤ 2 * g x + k) : (l.map f).sum ≤ 2 * (l.map g).sum + k * l.length := by
  induction l with
  | nil => simp
  | cons a l ih =>
    have h1 := h a (by simp)
    have h2 := ih fun x hx => h x (by simp [hx])
    simp only [List.map_cons, List.sum_cons, List.length_cons, Nat.mul_add, Nat.mul_one]
    omega
theorem qt_le (s : Bs) : (qt s).length ≤ 2 * s.length + 2 := by
  have := es_len s
  rw [qt_len]
  omega
theorem tTs_le (l : List Bs) : (tTs l).length ≤ 2 * sl l + 3 * l.length + 2 := by
  have h := cms_len (l.map qt)
  have h2 : ((l.map qt).map List.length).sum ≤ 2 * sl l + 2 * l.length := by
    rw [List.map_map]
    exact sl_map_le _ _ 2 l fun x _ => qt_le x
  rw [List.length_map] at h
  simp only [tTs, lst, List.length_append, List.length_cons, List.length_nil]
  omega
theorem lst_le {α : Type} (f : α → Bs) (g : α → Nat) (k : Nat) (l : List α) (h : ∀ x ∈ l, (f x).length ≤ 2 * g x + k) (o c : UInt8) : (lst [o] (l.map f) [c]).length ≤ 2 * (l.map g).sum + (k + 1) * l.length + 2 := by
  have h1 := cms_len (l.map f)
  have h2 : ((l.map f).map List.length).sum ≤ 2 * (l.map g).sum + k * l.length := by
    rw [List.map_map]
    exact sl_map_le _ _ k l h
  rw [List.length_map] at h1
  simp only [lst, List.length_append, List.length_cons, List.length_nil, Nat.add_mul, Nat.one_mul]
  omega
theorem tup_le (l : List Bs) : (tup l).length ≤ sl l + l.length + 2 := by
  have h1 := cms_len l
  simp only [tup, lst, List.length_append, List.length_cons, List.length_nil, sl]
  omega
theorem tO_le (o : PO) : (tO o).length ≤ 2 * (o.name.length + o.path.length) + 170 := by
  have h := tup_le [qt o.name, qt o.path, qt (if o.fixed then sSha else []), qt (if o.fixed then hex o.hash.1 else [])]
  have h1 := qt_le o.name
  have h2 := qt_le o.path
  have h3 := qt_le (if o.fixed then sSha else [])
  have h4 := qt_le (if o.fixed then hex o.hash.1 else [])
  have hh : (hex o.hash.1).length ≤ 64 := by rw [hexL]; exact Nat.le_refl _
  have h5 : (if o.fixed then sSha else []).length ≤ 6 := by split <;> simp
  have h6 : (if o.fixed then hex o.hash.1 else []).length ≤ 64 := by split <;> simp [hh]
  simp only [sl, List.map_cons, List.map_nil, List.sum_cons, List.sum_nil, List.length_cons, List.length_nil] at h
  unfold tO
  omega
theorem tV_le (v : PV) : (tV v).length ≤ 2 * (v.name.length + v.val.length) + 10 := by
  have h := tup_le [qt v.name, qt v.val]
  have h1 := qt_le v.name
  have h2 := qt_le v.val
  simp only [sl, List.map_cons, List.map_nil, List.sum_cons, List.sum_nil, List.length_cons, List.length_nil] at h
  unfold tV
  omega
theorem sl_le80 {l : List Bs} (h : ∀ x ∈ l, x.length ≤ 80) : sl l ≤ 80 * l.length := by
  induction l with
  | nil => simp [sl]
  | cons a l ih =>
    have h1 := h a (by simp)
    have h2 := ih fun x hx => h x (by simp [hx])
    simp only [sl, List.map_cons, List.sum_cons, List.length_cons, Nat.mul_add, Nat.mul_one] at h2 ⊢
    omega
theorem tI_le (x : PI) (h : ∀ o ∈ x.outs, o.length ≤ 80) : (tI x).length ≤ 2 * (100 * (x.drv.length + 10 * x.outs.length)) + 10 := by
  have h0 := tup_le [qt x.drv, tTs x.outs]
  have h1 := qt_le x.drv
  have h2 := tTs_le x.outs
  have h3 := sl_le80 h
  simp only [sl, List.map_cons, List.map_nil, List.sum_cons, List.sum_nil, List.length_cons, List.length_nil] at h0
  unfold tI
  unfold sl at h2 h3
  omega
theorem chkN_len {l : List Bs} (h : firstE (chkN l) l.length = 0) : ∀ o ∈ l, o.length ≤ 80 := fun o ho => by
  obtain ⟨i, hi, rfl⟩ := List.getElem_of_mem ho
  have := firstE_all h i hi
  unfold chkN at this
  have hg : l.getD i [] = l[i] := by rw [List.getD_eq_getElem?_getD, List.getElem?_eq_getElem hi]; rfl
  split at this
  · rename_i hn
    rw [hg] at hn
    exact (isName_len hn).2
  · cases this
theorem chkI_outs {l : List PI} (h : chkIns l = 0) : ∀ x ∈ l, ∀ o ∈ x.outs, o.length ≤ 80 := fun x hx => by
  obtain ⟨i, hi, rfl⟩ := List.getElem_of_mem hx
  have := firstE_all h i hi
  unfold chkI at this
  have hg : l.getD i i0 = l[i] := by rw [List.getD_eq_getElem?_getD, List.getElem?_eq_getElem hi]; rfl
  rw [hg] at this
  split at this
  · cases this
  · exact chkN_len this
theorem chk0_parts {d : PD} (h : chk0 d = 0) : isName d.name = true ∧ isName (d.name ++ sDrv) = true ∧ chkOuts d.outs = 0 ∧ chkIns d.ins = 0 ∧ firstE (chkS d.srcs) d.srcs.length = 0 ∧ firstE (chkV d.env) d.env.length = 0 := by
  unfold chk0 at h
  split at h
  · rename_i hn
    rw [Bool.and_eq_true] at hn
    rw [orE_zero, orE_zero, orE_zero] at h
    exact ⟨hn.1, hn.2, h.1, h.2.1, h.2.2.1, h.2.2.2⟩
  · cases h
theorem sum_mul {α : Type} (g : α → Nat) (k : Nat) (l : List α) : (l.map fun x => k * g x).sum = k * (l.map g).sum := by
  induction l with
  | nil => simp
  | cons a l ih => simp only [List.map_cons, List.sum_cons, ih, Nat.mul_add]
/-- what stands in a text that is small -/
structure TB (d : PD) : Prop where
  o : (lst [91] (d.outs.map tO) [93]).length ≤ 100000000
  i : (lst [91] (d.ins.map tI) [93]).length ≤ 1000000000
  e : (lst [91] (d.env.map tV) [93]).length ≤ 100000000
  s : (tTs d.srcs).length ≤ 100000000
  a : (tTs d.args).length ≤ 100000000
  sm : big2 d ≤ 200000
  out : ∀ x ∈ d.ins, ∀ o ∈ x.outs, o.length ≤ 80
theorem tb_of {d : PD} (h : chkIns d.ins = 0) (hb : big2 d ≤ 200000) : TB d := by
  have h1 := lst_le tO (fun o : PO => o.name.length + o.path.length) 170 d.outs (fun x hx => tO_le x) 91 93
  have h2 := lst_le tI (fun x : PI => 100 * (x.drv.length + 10 * x.outs.length)) 10 d.ins (fun x hx => tI_le x (chkI_outs h x hx)) 91 93
  rw [sum_mul] at h2
  have h3 := lst_le tV (fun v : PV => v.name.length + v.val.length) 10 d.env (fun x _ => tV_le x) 91 93
  have h4 := tTs_le d.srcs
  have h5 := tTs_le d.args
  have hb' := hb
  unfold big2 big1 at hb
  generalize (d.env.map fun v => v.name.length + v.val.length).sum = n1 at *
  generalize (d.ins.map fun x => x.drv.length + 10 * x.outs.length).sum = n2 at *
  generalize (d.outs.map fun o => o.name.length + o.path.length).sum = n3 at *
  exact ⟨by omega, by omega, by omega, by omega, by omega, hb', chkI_outs h⟩
theorem dtext_le {d : PD} (h : TB d) : (dtext d).length ≤ 2000000000 := by
  have h0 := tup_le [qt d.name, lst [91] (d.outs.map tO) [93], lst [91] (d.ins.map tI) [93], tTs d.srcs, qt d.sys, qt d.bld, tTs d.args, lst [91] (d.env.map tV) [93]]
  have h1 := qt_le d.name
  have h2 := qt_le d.sys
  have h3 := qt_le d.bld
  obtain ⟨a1, a2, a3, a4, a5, a6, _⟩ := h
  unfold big2 big1 at a6
  simp only [sl, List.map_cons, List.map_nil, List.sum_cons, List.sum_nil, List.length_cons, List.length_nil] at h0
  unfold dtext
  rw [List.length_append]
  simp only [List.length_cons, List.length_nil]
  omega
end Go.Proofs.YtfeabbeebkkhaaaGreat
