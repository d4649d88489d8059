/- Derivations: their text. -/
import Derived.Test.YtfeabbeebkkhaaaGreatTa
import Derived.Test.YtfeabbeebkkhaaaGreatDv3
import Derived.Test.YtfeabbeebkkhaaaGreatSx18
namespace Go.Proofs.YtfeabbeebkkhaaaGreat
open Go Go.Sx
set_option maxRecDepth 100000
set_option maxHeartbeats 4000000
set_option linter.unusedVariables false
set_option linter.unusedSimpArgs false
attribute [local irreducible] J JQ QS Con W opW
theorem ent115 : Sx.Enters Tryz.prog 115 := ⟨_, Tryz.func115, by kernel_rfl, by kernel_rfl⟩
theorem ent116 : Sx.Enters Tryz.prog 116 := ⟨_, Tryz.func116, by kernel_rfl, by kernel_rfl⟩
theorem ent117 : Sx.Enters Tryz.prog 117 := ⟨_, Tryz.func117, by kernel_rfl, by kernel_rfl⟩
theorem sz23 : (Tryz.prog.info? 23).map (·.size) = some 1 := by kernel_rfl
theorem sz24 : (Tryz.prog.info? 24).map (·.size) = some 1 := by kernel_rfl
theorem sz25 : (Tryz.prog.info? 25).map (·.size) = some 1 := by kernel_rfl
theorem sz26 : (Tryz.prog.info? 26).map (·.size) = some 1 := by kernel_rfl
theorem sz28 : (Tryz.prog.info? 28).map (·.size) = some 8 := by kernel_rfl
theorem sz48 : (Tryz.prog.info? 48).map (·.size) = some 2 := by kernel_rfl
theorem sz49 : (Tryz.prog.info? 49).map (·.size) = some 1 := by kernel_rfl
theorem sz53 : (Tryz.prog.info? 53).map (·.size) = some 35 := by kernel_rfl
theorem sz68 : (Tryz.prog.info? 68).map (·.size) = some 2 := by kernel_rfl
theorem zero48 : zeroL Tryz.prog 48 = some ([.string (bs []), .string (bs [])]) := by kernel_rfl
theorem zero49 : zeroL Tryz.prog 49 = some ([.string (bs [])]) := by kernel_rfl
theorem zero53 : zeroL Tryz.prog 53 = some ([.string (bs []), .string (bs []), .bool false, .int .u8 0, .int .u8 0, .int .u8 0, .int .u8 0, .int .u8 0, .int .u8 0, .int .u8 0, .int .u8 0, .int .u8 0, .int .u8 0, .int .u8 0, .int .u8 0, .int .u8 0, .int .u8 0, .int .u8 0, .int .u8 0, .int .u8 0, .int .u8 0, .int .u8 0, .int .u8 0, .int .u8 0, .int .u8 0, .int .u8 0, .int .u8 0, .int .u8 0, .int .u8 0, .int .u8 0, .int .u8 0, .int .u8 0, .int .u8 0, .int .u8 0, .int .u8 0]) := by kernel_rfl
theorem zero68 : zeroL Tryz.prog 68 = some ([.string (bs []), .slice none 0 0]) := by kernel_rfl
theorem zero169 : zeroL Tryz.prog 169 = some ([.pointer none, .slice none 0 0]) := by kernel_rfl

/-- a slice of strings that can be read; an empty one may lie anywhere -/
def StrZ (w : World) (v : Value) (rs : List Bs) : Prop := ∃ A cap, v = .slice A rs.length cap ∧ rs.length ≤ cap ∧ (0 < rs.length → ∃ g off, A = some ⟨g, off, none⟩ ∧ g < w.heap.size ∧ Cells w ⟨g, off, none⟩ (strs rs)) ∧ (A = none → cap = 0)
theorem strz_of {w : World} {v : Value} {rs : List Bs} (h : StrSl w v rs) : StrZ w v rs := by
  rcases h with ⟨rfl, rfl⟩ | ⟨g, off, cap, rfl, h1, h2, h3⟩
  · exact ⟨none, 0, rfl, Nat.le_refl _, fun h => absurd h (Nat.lt_irrefl _), fun _ => rfl⟩
  · exact ⟨_, cap, rfl, h2, fun _ => ⟨g, off, rfl, h1, h3⟩, fun e => by cases e⟩
theorem strz_nil {w : World} : StrZ w (.slice none 0 0) [] := strz_of (.inl ⟨rfl, rfl⟩)
theorem strz_form {w : World} {v : Value} {rs : List Bs} (h : StrZ w v rs) : ∃ A cap, v = .slice A rs.length cap ∧ rs.length ≤ cap := by
  obtain ⟨A, cap, h1, h2, _⟩ := h
  exact ⟨A, cap, h1, h2⟩
theorem strz_addr {w : World} {A : Option Addr} {n cap : Nat} {rs : List Bs} (h : StrZ w (.slice A n cap) rs) (h0 : 0 < rs.length) : ∃ g off, A = some ⟨g, off, none⟩ ∧ g < w.heap.size ∧ Cells w ⟨g, off, none⟩ (strs rs) := by
  obtain ⟨A', cap', e, h2, h3, _⟩ := h
  injection e with e1
  subst e1
  exact h3 h0
theorem strz_keep {w w' : World} {v : Value} {rs : List Bs} (h : StrZ w v rs) {S : List SH} (hs : Sig ⟨w, dom []⟩ S w') : StrZ w' v rs := by
  obtain ⟨A, cap, h1, h2, h3, h4⟩ := h
  exact ⟨A, cap, h1, h2, fun h0 => by
    obtain ⟨g, off, rfl, h5, h6⟩ := h3 h0
    exact ⟨g, off, rfl, Nat.lt_of_lt_of_le h5 hs.size, cells_keep h6 hs⟩, h4⟩
theorem src_strz {w : World} {S : List SH} {A : Option Addr} {n cap : Nat} {rs : List Bs} (h : StrZ w (.slice A n cap) rs) : Src ⟨w, dom []⟩ S 1 (.slice A n cap) n (strs rs) := by
  obtain ⟨A', cap', e, h2, h3, h4⟩ := h
  injection e with e1 e2 e3
  subst e1 e2 e3
  rcases Nat.eq_zero_or_pos rs.length with h0 | h0
  · have hr : rs = [] := List.eq_nil_of_length_eq_zero h0
    subst hr
    cases A with
    | none => exact .inr (.inl ⟨cap, rfl, rfl, rfl⟩)
    | some a => exact .inl ⟨a, cap, rfl, fun w' hw' j u hu => by simp [strs] at hu, rfl⟩
  · obtain ⟨g, off, rfl, h5, h6⟩ := h3 h0
    exact .inl ⟨_, _, rfl, rd_cells (b := ⟨w, dom []⟩) h6 (by simp), by rw [strs_length, Nat.mul_one]⟩
theorem strz_own {b : Base} {S : List SH} {w : World} {e : TypeId} {xs : List Bs} {v : Value} {c : SH} (ho : Sx.Own e 1 (strs xs) v c) (k : Nat) (hk : S[k]? = some c) (hw : Sig b S w) : StrZ w v xs := strz_of (strsl_own ho k hk hw)
theorem strz_ownw {w : World} {e : TypeId} {xs : List Bs} {v : Value} {c : SH} (ho : Sx.Own e 1 (strs xs) v c) (h : ∀ p ∈ c, w.heap[p.1]? = some p.2) : StrZ w v xs := strz_of (strsl_ownw ho h)
def encO (o : PO) : List Value := .string (bs o.name) :: .string (bs o.path) :: .bool o.fixed :: ints o.hash.1
def encV (v : PV) : List Value := [.string (bs v.name), .string (bs v.val)]
/-- an input in memory -/
structure MI where
  drv : Bs
  outs : List Bs
  v : Value
def MI.pi (m : MI) : PI := ⟨m.drv, m.outs⟩
def encI (m : MI) : List Value := [.string (bs m.drv), m.v]
abbrev m0 : MI := ⟨[], [], .slice none 0 0⟩
theorem encO_len (o : PO) : (encO o).length = 35 := by
  unfold encO
  simp only [List.length_cons, ints_length, o.hash.2]
theorem encV_len (o : PV) : (encV o).length = 2 := rfl
theorem encI_len (o : MI) : (encI o).length = 2 := rfl
theorem encO_one (o : PO) : ∀ u ∈ encO o, oneV u = true := fun u hu => by
  simp only [encO, List.mem_cons] at hu
  rcases hu with rfl | rfl | rfl | hu
  · rfl
  · rfl
  · rfl
  · exact ints_one u hu
theorem encV_one (o : PV) : ∀ u ∈ encV o, oneV u = true := fun u hu => by
  simp only [encV, List.mem_cons, List.not_mem_nil, or_false] at hu
  rcases hu with rfl | rfl <;> rfl
/-- what a derivation's lists are in memory -/
structure DV where
  va : Value
  ve : Value
  vi : Value
  vs : Value
  vo : Value
  mi : List MI
def dcells (d : PD) (x : DV) : List Value := [.string (bs d.name), .string (bs d.sys), .string (bs d.bld), x.va, x.ve, x.vi, x.vs, x.vo]
abbrev dval (d : PD) (x : DV) : Value := .agg (dcells d x).toArray
structure DR (w : World) (d : PD) (x : DV) : Prop where
  a : StrZ w x.va d.args
  e : RSlN 2 w x.ve (d.env.map encV).flatten d.env.length
  i : RSlN 2 w x.vi (x.mi.map encI).flatten x.mi.length
  io : ∀ m ∈ x.mi, StrZ w m.v m.outs
  im : d.ins = x.mi.map MI.pi
  s : StrZ w x.vs d.srcs
  o : RSlN 35 w x.vo (d.outs.map encO).flatten d.outs.length
theorem DR.keep {w w' : World} {d : PD} {x : DV} (h : DR w d x) {S : List SH} (hs : Sig ⟨w, dom []⟩ S w') : DR w' d x :=
  ⟨strz_keep h.a hs, rsln_keep h.e hs, rsln_keep h.i hs, fun m hm => strz_keep (h.io m hm) hs, h.im, strz_keep h.s hs, rsln_keep h.o hs⟩
theorem slice_one {v : Value} {A : Option Addr} {n c : Nat} (h : v = .slice A n c) : oneV v = true := by rw [h]; rfl
theorem MI.one {w : World} {m : MI} (h : StrZ w m.v m.outs) : ∀ u ∈ encI m, oneV u = true := fun u hu => by
  obtain ⟨A, cap, e, _⟩ := strz_form h
  simp only [encI, List.mem_cons, List.not_mem_nil, or_false] at hu
  rcases hu with rfl | rfl
  · rfl
  · rw [e]; rfl
theorem take_map_snoc {α : Type} (g : α → Bs) {l : List α} {i : Nat} {d : α} (h : i < l.length) : (l.take (i + 1)).map g = (l.take i).map g ++ [g (l.getD i d)] := by
  rw [List.take_succ_eq_append_getElem h, List.map_append]
  congr 2
  rw [List.getD_eq_getElem?_getD, List.getElem?_eq_getElem h]
  rfl
theorem cms_take_le {α : Type} (g : α → Bs) (l : List α) (i : Nat) : (cms ((l.take i).map g)).length ≤ (cms (l.map g)).length := by
  unfold cms
  rw [List.length_drop, List.length_drop]
  have : ((l.map g).map fun x => (44 : UInt8) :: x).flatten = (((l.take i).map g).map fun x => (44 : UInt8) :: x).flatten ++ (((l.drop i).map g).map fun x => (44 : UInt8) :: x).flatten := by
    conv => lhs; rw [← List.take_append_drop i l]
    rw [List.map_append, List.map_append, List.flatten_append]
  rw [this, List.length_append]
  omega
theorem cms_step {α : Type} (g : α → Bs) {l : List α} {i : Nat} {d : α} (h : i < l.length) : cms ((l.take (i + 1)).map g) = if i = 0 then g (l.getD i d) else cms ((l.take i).map g) ++ (44 :: g (l.getD i d)) := by
  rw [take_map_snoc g h, cms_snoc]
  have : (l.take i).map g = [] ↔ i = 0 := by
    rw [List.map_eq_nil_iff, List.take_eq_nil_iff]
    constructor
    · rintro (h | h)
      · exact h
      · subst h; simp at h
    · exact fun h => .inl h
  by_cases h0 : i = 0
  · rw [if_pos (this.2 h0), if_pos h0]
  · rw [if_neg (fun e => h0 (this.1 e)), if_neg h0]
attribute [local irreducible] es qt cms hex Tbl Half
/-- pantry.drv.list[pantry.api.Output] -/
theorem listO_con (l : List PO) (v : Value) (o c : Bs) (f : Nat) (g : PO → Bs) (w : World) (hv : RSlN 35 w v (l.map encO).flatten l.length) (hen : Sx.Enters Tryz.prog f) (hf : ∀ i, i < l.length → ∀ S w', Sig ⟨w, dom []⟩ S w' → Con Tryz.prog f [.agg (encO (l.getD i o0)).toArray] w' [] fun u _ => u = .string (bs (g (l.getD i o0)))) (ho0 : o ≠ []) (hn : l.length ≤ 1099511627776) (hlen : (lst o (l.map g) c).length ≤ 1099511627776) : Con Tryz.prog 66 [.string (bs o), v, .func (.func f) #[] #[], .string (bs c)] w [] fun u _ => u = .string (bs (lst o (l.map g) c)) := by
  refine con_of_tree mix Tryz.func66 T66_ok (by kernel_rfl) ?_
  unfold T66
  obtain ⟨A, cap, ga, off, rfl, hcap, hA⟩ := rsln_form hv
  have hcl := cms_take_le g l
  have hlen2 := hlen
  simp only [lst, List.length_append] at hlen2
  refine j_q (qs_ac) ?_
  refine j_alloc zero169 (fun g1 hg1 hs1 => ?_)
  refine j_call 0 ent115 rfl rfl rfl rfl (fun w' hw' => writeString_con g1 none (.inl rfl) (.slice none 0 0) [] [] o own_nil (by simp; omega) w') (fun u S2 hu => ?_)
  obtain ⟨rfl, bv, cb, rfl, hob⟩ := hu
  rw [List.nil_append] at hob
  refine j_subl (S' := [((g1, .cells [.pointer (some ⟨g1, 0, none⟩), bv].toArray 169 (0, 0)) :: cb)]) (by repeat first | exact List.Sublist.refl _ | exact List.nil_sublist _ | apply List.Sublist.cons_cons | apply List.Sublist.cons) ?_
  refine j_q (qs_lenl Tryz.underlying26 rfl) ?_
  refine j_q (qs_mc) ?_
  refine j_loop (fun m vs S' => ∃ (i : Nat) (bv : Value) (cb : SH), vs = [.int .i64 (i : Int)] ∧ S' = [((g1, .cells [.pointer (some ⟨g1, 0, none⟩), bv].toArray 169 (0, 0)) :: cb)] ∧ Sx.Own 5 1 (ints (o ++ cms ((l.take i).map g))) bv cb ∧ i ≤ l.length ∧ m = l.length - i) ⟨_, 0, bv, cb, rfl, rfl, by rw [List.take_zero, show cms (([] : List _).map g) = [] by unfold cms; rfl, List.append_nil]; exact hob, Nat.zero_le _, rfl⟩ ?_
  rintro m vs S' hlen ⟨i, bv, cb, rfl, rfl, hob, hin, rfl⟩
  refine j_q (qs_lss rfl rfl) ?_
  refine j_cond rfl (fun hc0 => ?_) (fun hc0 => ?_)
  · skip
    have hi : i < l.length := by
      simp only [Bool.and_eq_true, Bool.or_eq_true, Bool.and_eq_false_iff, Bool.or_eq_false_iff, Bool.not_eq_true', Bool.not_eq_false', decide_eq_true_eq, decide_eq_false_iff_not, beq_iff_eq, beq_eq_false_iff_ne, bne_iff_ne, bne_eq_false_iff_eq, ne_eq, Int.toNat_natCast] at *
      omega
    obtain ⟨rfl, hga, hcells⟩ := hA (by omega)
    have hci := hcl i
    have hci1 := hcl (i + 1)
    refine j_q (qs_ixn (g := ga) (off := off) (i := i) Tryz.underlying26 sz53 rfl rfl (by omega)) ?_
    refine j_q (qs_loadrecw (encA := encO) (rs := l) (d := o0) (i := i) encO_len (rd_cells hcells (by simp)) hi Tryz.underlying53 rfl sz53 rfl) ?_
    refine j_alloc zero53 (fun g8 hg8 hs8 => ?_)
    refine j_storew (vs := encO (l.getD i o0)) 0 sz53 rfl rfl (encO_len _) (encO_one _) rfl rfl ?_
    refine j_q (qs_gtr rfl rfl) ?_
    refine j_cond rfl (fun hc1 => ?_) (fun hc1 => ?_)
    · skip
      have h0 : ¬ i = 0 := by
        simp only [Bool.and_eq_true, Bool.or_eq_true, Bool.and_eq_false_iff, Bool.or_eq_false_iff, Bool.not_eq_true', Bool.not_eq_false', decide_eq_true_eq, decide_eq_false_iff_not, beq_iff_eq, beq_eq_false_iff_ne, bne_iff_ne, bne_eq_false_iff_eq, ne_eq, Int.toNat_natCast] at *
        omega
      have hstep := cms_step g (d := o0) hi
      rw [if_neg h0] at hstep
      rw [hstep] at hci1
      simp only [List.length_append, List.length_cons] at hci1
      refine j_call 1 ent116 rfl rfl rfl rfl (fun w' hw' => writeByte_con g1 (some ⟨g1, 0, none⟩) (.inr rfl) bv cb _ 44 (by decide) hob (by simp only [List.length_append, List.length_cons, List.length_nil]; omega) w') (fun u S2 hu => ?_)
      obtain ⟨rfl, bv2, cb2, rfl, hob2⟩ := hu
      refine j_q (qs_loadw (l := encO (l.getD i o0)) 1 Tryz.underlying53 rfl sz53 rfl rfl (encO_len _)) ?_
      refine j_q (qs_callf (v := .string (bs (g (l.getD i o0)))) hen rfl rfl rfl (fun w' hw' => hf i hi _ w' hw')) ?_
      refine j_call 0 ent115 rfl rfl rfl rfl (fun w' hw' => writeString_con g1 (some ⟨g1, 0, none⟩) (.inr rfl) bv2 cb2 _ (g (l.getD i o0)) hob2 (by simp only [List.length_append, List.length_cons, List.length_nil]; omega) w') (fun u S2 hu => ?_)
      obtain ⟨rfl, bv3, cb3, rfl, hob3⟩ := hu
      have hob4 : Sx.Own 5 1 (ints (o ++ cms ((l.take (i + 1)).map g))) bv3 cb3 := by
        rw [hstep]
        have e : o ++ cms ((l.take i).map g) ++ [by8 44] ++ (g (l.getD i o0)) = o ++ (cms ((l.take i).map g) ++ (44 :: (g (l.getD i o0)))) := by rw [show by8 44 = (44 : UInt8) from rfl]; simp
        rw [← e]
        exact hob3
      refine j_subl (S' := [((g1, .cells [.pointer (some ⟨g1, 0, none⟩), bv3].toArray 169 (0, 0)) :: cb3)]) (by repeat first | exact List.Sublist.refl _ | exact List.nil_sublist _ | apply List.Sublist.cons_cons | apply List.Sublist.cons) ?_
      refine j_q (qs_add64 rfl rfl (by first | omega | (simp only [Bool.and_eq_true, Bool.or_eq_true, Bool.and_eq_false_iff, Bool.or_eq_false_iff, Bool.not_eq_true', Bool.not_eq_false', decide_eq_true_eq, decide_eq_false_iff_not, beq_iff_eq, beq_eq_false_iff_ne, bne_iff_ne, bne_eq_false_iff_eq, ne_eq, Int.toNat_natCast] at *; omega))) ?_
      refine j_back rfl ?_
      exact ⟨l.length - (i + 1), by omega, i + 1, bv3, cb3, rfl, rfl, hob4, by omega, rfl⟩
    · skip
      have h0 : i = 0 := by
        simp only [Bool.and_eq_true, Bool.or_eq_true, Bool.and_eq_false_iff, Bool.or_eq_false_iff, Bool.not_eq_true', Bool.not_eq_false', decide_eq_true_eq, decide_eq_false_iff_not, beq_iff_eq, beq_eq_false_iff_ne, bne_iff_ne, bne_eq_false_iff_eq, ne_eq, Int.toNat_natCast] at *
        omega
      have hstep := cms_step g (d := o0) hi
      rw [if_pos h0] at hstep
      rw [hstep] at hci1
      have hcm0 : cms ((l.take i).map g) = [] := by
        rw [h0, List.take_zero]
        unfold cms
        rfl
      refine j_q (qs_loadw (l := encO (l.getD i o0)) 0 Tryz.underlying53 rfl sz53 rfl rfl (encO_len _)) ?_
      refine j_q (qs_callf (v := .string (bs (g (l.getD i o0)))) hen rfl rfl rfl (fun w' hw' => hf i hi _ w' hw')) ?_
      refine j_call 1 ent115 rfl rfl rfl rfl (fun w' hw' => writeString_con g1 (some ⟨g1, 0, none⟩) (.inr rfl) bv cb _ (g (l.getD i o0)) hob (by simp only [List.length_append, List.length_cons, List.length_nil]; omega) w') (fun u S2 hu => ?_)
      obtain ⟨rfl, bv3, cb3, rfl, hob3⟩ := hu
      have hob4 : Sx.Own 5 1 (ints (o ++ cms ((l.take (i + 1)).map g))) bv3 cb3 := by
        rw [hstep]
        rw [hcm0, List.append_nil] at hob3
        exact hob3
      refine j_subl (S' := [((g1, .cells [.pointer (some ⟨g1, 0, none⟩), bv3].toArray 169 (0, 0)) :: cb3)]) (by repeat first | exact List.Sublist.refl _ | exact List.nil_sublist _ | apply List.Sublist.cons_cons | apply List.Sublist.cons) ?_
      refine j_q (qs_add64 rfl rfl (by first | omega | (simp only [Bool.and_eq_true, Bool.or_eq_true, Bool.and_eq_false_iff, Bool.or_eq_false_iff, Bool.not_eq_true', Bool.not_eq_false', decide_eq_true_eq, decide_eq_false_iff_not, beq_iff_eq, beq_eq_false_iff_ne, bne_iff_ne, bne_eq_false_iff_eq, ne_eq, Int.toNat_natCast] at *; omega))) ?_
      refine j_back rfl ?_
      exact ⟨l.length - (i + 1), by omega, i + 1, bv3, cb3, rfl, rfl, hob4, by omega, rfl⟩
  · skip
    obtain rfl : i = l.length := by
      simp only [Bool.and_eq_true, Bool.or_eq_true, Bool.and_eq_false_iff, Bool.or_eq_false_iff, Bool.not_eq_true', Bool.not_eq_false', decide_eq_true_eq, decide_eq_false_iff_not, beq_iff_eq, beq_eq_false_iff_ne, bne_iff_ne, bne_eq_false_iff_eq, ne_eq, Int.toNat_natCast] at *
      omega
    rw [List.take_length] at hob
    refine j_call 0 ent115 rfl rfl rfl rfl (fun w' hw' => writeString_con g1 (some ⟨g1, 0, none⟩) (.inr rfl) bv cb _ c hob (by simp only [List.length_append, List.length_cons, List.length_nil]; omega) w') (fun u S2 hu => ?_)
    obtain ⟨rfl, bv2, cb2, rfl, hob2⟩ := hu
    refine j_call 0 ent117 rfl rfl rfl rfl (fun w' hw' => string_con g1 _ bv2 cb2 _ (by simp [ho0]) (by simp only [List.length_append, List.length_cons, List.length_nil]; omega) hob2 w') (fun u S2 hu => ?_)
    obtain ⟨rfl, rfl⟩ := hu
    refine j_ret_con (vs := [_]) (fun w' hw' => ⟨rfl, trivial⟩) ?_
    rfl
/-- pantry.drv.list[pantry.api.Input] -/
theorem listI_con (l : List MI) (v : Value) (o c : Bs) (f : Nat) (g : MI → Bs) (w : World) (hv : RSlN 2 w v (l.map encI).flatten l.length) (hone : ∀ i, i < l.length → ∀ u ∈ encI (l.getD i m0), oneV u = true) (hen : Sx.Enters Tryz.prog f) (hf : ∀ i, i < l.length → ∀ S w', Sig ⟨w, dom []⟩ S w' → Con Tryz.prog f [.agg (encI (l.getD i m0)).toArray] w' [] fun u _ => u = .string (bs (g (l.getD i m0)))) (ho0 : o ≠ []) (hn : l.length ≤ 1099511627776) (hlen : (lst o (l.map g) c).length ≤ 1099511627776) : Con Tryz.prog 70 [.string (bs o), v, .func (.func f) #[] #[], .string (bs c)] w [] fun u _ => u = .string (bs (lst o (l.map g) c)) := by
  refine con_of_tree mix Tryz.func70 T70_ok (by kernel_rfl) ?_
  unfold T70
  obtain ⟨A, cap, ga, off, rfl, hcap, hA⟩ := rsln_form hv
  have hcl := cms_take_le g l
  have hlen2 := hlen
  simp only [lst, List.length_append] at hlen2
  refine j_q (qs_ac) ?_
  refine j_alloc zero169 (fun g1 hg1 hs1 => ?_)
  refine j_call 0 ent115 rfl rfl rfl rfl (fun w' hw' => writeString_con g1 none (.inl rfl) (.slice none 0 0) [] [] o own_nil (by simp; omega) w') (fun u S2 hu => ?_)
  obtain ⟨rfl, bv, cb, rfl, hob⟩ := hu
  rw [List.nil_append] at hob
  refine j_subl (S' := [((g1, .cells [.pointer (some ⟨g1, 0, none⟩), bv].toArray 169 (0, 0)) :: cb)]) (by repeat first | exact List.Sublist.refl _ | exact List.nil_sublist _ | apply List.Sublist.cons_cons | apply List.Sublist.cons) ?_
  refine j_q (qs_lenl Tryz.underlying24 rfl) ?_
  refine j_q (qs_mc) ?_
  refine j_loop (fun m vs S' => ∃ (i : Nat) (bv : Value) (cb : SH), vs = [.int .i64 (i : Int)] ∧ S' = [((g1, .cells [.pointer (some ⟨g1, 0, none⟩), bv].toArray 169 (0, 0)) :: cb)] ∧ Sx.Own 5 1 (ints (o ++ cms ((l.take i).map g))) bv cb ∧ i ≤ l.length ∧ m = l.length - i) ⟨_, 0, bv, cb, rfl, rfl, by rw [List.take_zero, show cms (([] : List _).map g) = [] by unfold cms; rfl, List.append_nil]; exact hob, Nat.zero_le _, rfl⟩ ?_
  rintro m vs S' hlen ⟨i, bv, cb, rfl, rfl, hob, hin, rfl⟩
  refine j_q (qs_lss rfl rfl) ?_
  refine j_cond rfl (fun hc0 => ?_) (fun hc0 => ?_)
  · skip
    have hi : i < l.length := by
      simp only [Bool.and_eq_true, Bool.or_eq_true, Bool.and_eq_false_iff, Bool.or_eq_false_iff, Bool.not_eq_true', Bool.not_eq_false', decide_eq_true_eq, decide_eq_false_iff_not, beq_iff_eq, beq_eq_false_iff_ne, bne_iff_ne, bne_eq_false_iff_eq, ne_eq, Int.toNat_natCast] at *
      omega
    obtain ⟨rfl, hga, hcells⟩ := hA (by omega)
    have hci := hcl i
    have hci1 := hcl (i + 1)
    refine j_q (qs_ixn (g := ga) (off := off) (i := i) Tryz.underlying24 sz68 rfl rfl (by omega)) ?_
    refine j_q (qs_loadrecw (encA := encI) (rs := l) (d := m0) (i := i) encI_len (rd_cells hcells (by simp)) hi Tryz.underlying68 rfl sz68 rfl) ?_
    refine j_alloc zero68 (fun g8 hg8 hs8 => ?_)
    refine j_storew (vs := encI (l.getD i m0)) 0 sz68 rfl rfl (encI_len _) (hone i hi) rfl rfl ?_
    refine j_q (qs_gtr rfl rfl) ?_
    refine j_cond rfl (fun hc1 => ?_) (fun hc1 => ?_)
    · skip
      have h0 : ¬ i = 0 := by
        simp only [Bool.and_eq_true, Bool.or_eq_true, Bool.and_eq_false_iff, Bool.or_eq_false_iff, Bool.not_eq_true', Bool.not_eq_false', decide_eq_true_eq, decide_eq_false_iff_not, beq_iff_eq, beq_eq_false_iff_ne, bne_iff_ne, bne_eq_false_iff_eq, ne_eq, Int.toNat_natCast] at *
        omega
      have hstep := cms_step g (d := m0) hi
      rw [if_neg h0] at hstep
      rw [hstep] at hci1
      simp only [List.length_append, List.length_cons] at hci1
      refine j_call 1 ent116 rfl rfl rfl rfl (fun w' hw' => writeByte_con g1 (some ⟨g1, 0, none⟩) (.inr rfl) bv cb _ 44 (by decide) hob (by simp only [List.length_append, List.length_cons, List.length_nil]; omega) w') (fun u S2 hu => ?_)
      obtain ⟨rfl, bv2, cb2, rfl, hob2⟩ := hu
      refine j_q (qs_loadw (l := encI (l.getD i m0)) 1 Tryz.underlying68 rfl sz68 rfl rfl (encI_len _)) ?_
      refine j_q (qs_callf (v := .string (bs (g (l.getD i m0)))) hen rfl rfl rfl (fun w' hw' => hf i hi _ w' hw')) ?_
      refine j_call 0 ent115 rfl rfl rfl rfl (fun w' hw' => writeString_con g1 (some ⟨g1, 0, none⟩) (.inr rfl) bv2 cb2 _ (g (l.getD i m0)) hob2 (by simp only [List.length_append, List.length_cons, List.length_nil]; omega) w') (fun u S2 hu => ?_)
      obtain ⟨rfl, bv3, cb3, rfl, hob3⟩ := hu
      have hob4 : Sx.Own 5 1 (ints (o ++ cms ((l.take (i + 1)).map g))) bv3 cb3 := by
        rw [hstep]
        have e : o ++ cms ((l.take i).map g) ++ [by8 44] ++ (g (l.getD i m0)) = o ++ (cms ((l.take i).map g) ++ (44 :: (g (l.getD i m0)))) := by rw [show by8 44 = (44 : UInt8) from rfl]; simp
        rw [← e]
        exact hob3
      refine j_subl (S' := [((g1, .cells [.pointer (some ⟨g1, 0, none⟩), bv3].toArray 169 (0, 0)) :: cb3)]) (by repeat first | exact List.Sublist.refl _ | exact List.nil_sublist _ | apply List.Sublist.cons_cons | apply List.Sublist.cons) ?_
      refine j_q (qs_add64 rfl rfl (by first | omega | (simp only [Bool.and_eq_true, Bool.or_eq_true, Bool.and_eq_false_iff, Bool.or_eq_false_iff, Bool.not_eq_true', Bool.not_eq_false', decide_eq_true_eq, decide_eq_false_iff_not, beq_iff_eq, beq_eq_false_iff_ne, bne_iff_ne, bne_eq_false_iff_eq, ne_eq, Int.toNat_natCast] at *; omega))) ?_
      refine j_back rfl ?_
      exact ⟨l.length - (i + 1), by omega, i + 1, bv3, cb3, rfl, rfl, hob4, by omega, rfl⟩
    · skip
      have h0 : i = 0 := by
        simp only [Bool.and_eq_true, Bool.or_eq_true, Bool.and_eq_false_iff, Bool.or_eq_false_iff, Bool.not_eq_true', Bool.not_eq_false', decide_eq_true_eq, decide_eq_false_iff_not, beq_iff_eq, beq_eq_false_iff_ne, bne_iff_ne, bne_eq_false_iff_eq, ne_eq, Int.toNat_natCast] at *
        omega
      have hstep := cms_step g (d := m0) hi
      rw [if_pos h0] at hstep
      rw [hstep] at hci1
      have hcm0 : cms ((l.take i).map g) = [] := by
        rw [h0, List.take_zero]
        unfold cms
        rfl
      refine j_q (qs_loadw (l := encI (l.getD i m0)) 0 Tryz.underlying68 rfl sz68 rfl rfl (encI_len _)) ?_
      refine j_q (qs_callf (v := .string (bs (g (l.getD i m0)))) hen rfl rfl rfl (fun w' hw' => hf i hi _ w' hw')) ?_
      refine j_call 1 ent115 rfl rfl rfl rfl (fun w' hw' => writeString_con g1 (some ⟨g1, 0, none⟩) (.inr rfl) bv cb _ (g (l.getD i m0)) hob (by simp only [List.length_append, List.length_cons, List.length_nil]; omega) w') (fun u S2 hu => ?_)
      obtain ⟨rfl, bv3, cb3, rfl, hob3⟩ := hu
      have hob4 : Sx.Own 5 1 (ints (o ++ cms ((l.take (i + 1)).map g))) bv3 cb3 := by
        rw [hstep]
        rw [hcm0, List.append_nil] at hob3
        exact hob3
      refine j_subl (S' := [((g1, .cells [.pointer (some ⟨g1, 0, none⟩), bv3].toArray 169 (0, 0)) :: cb3)]) (by repeat first | exact List.Sublist.refl _ | exact List.nil_sublist _ | apply List.Sublist.cons_cons | apply List.Sublist.cons) ?_
      refine j_q (qs_add64 rfl rfl (by first | omega | (simp only [Bool.and_eq_true, Bool.or_eq_true, Bool.and_eq_false_iff, Bool.or_eq_false_iff, Bool.not_eq_true', Bool.not_eq_false', decide_eq_true_eq, decide_eq_false_iff_not, beq_iff_eq, beq_eq_false_iff_ne, bne_iff_ne, bne_eq_false_iff_eq, ne_eq, Int.toNat_natCast] at *; omega))) ?_
      refine j_back rfl ?_
      exact ⟨l.length - (i + 1), by omega, i + 1, bv3, cb3, rfl, rfl, hob4, by omega, rfl⟩
  · skip
    obtain rfl : i = l.length := by
      simp only [Bool.and_eq_true, Bool.or_eq_true, Bool.and_eq_false_iff, Bool.or_eq_false_iff, Bool.not_eq_true', Bool.not_eq_false', decide_eq_true_eq, decide_eq_false_iff_not, beq_iff_eq, beq_eq_false_iff_ne, bne_iff_ne, bne_eq_false_iff_eq, ne_eq, Int.toNat_natCast] at *
      omega
    rw [List.take_length] at hob
    refine j_call 0 ent115 rfl rfl rfl rfl (fun w' hw' => writeString_con g1 (some ⟨g1, 0, none⟩) (.inr rfl) bv cb _ c hob (by simp only [List.length_append, List.length_cons, List.length_nil]; omega) w') (fun u S2 hu => ?_)
    obtain ⟨rfl, bv2, cb2, rfl, hob2⟩ := hu
    refine j_call 0 ent117 rfl rfl rfl rfl (fun w' hw' => string_con g1 _ bv2 cb2 _ (by simp [ho0]) (by simp only [List.length_append, List.length_cons, List.length_nil]; omega) hob2 w') (fun u S2 hu => ?_)
    obtain ⟨rfl, rfl⟩ := hu
    refine j_ret_con (vs := [_]) (fun w' hw' => ⟨rfl, trivial⟩) ?_
    rfl
/-- pantry.drv.list[pantry.api.Var] -/
theorem listV_con (l : List PV) (v : Value) (o c : Bs) (f : Nat) (g : PV → Bs) (w : World) (hv : RSlN 2 w v (l.map encV).flatten l.length) (hen : Sx.Enters Tryz.prog f) (hf : ∀ i, i < l.length → ∀ S w', Sig ⟨w, dom []⟩ S w' → Con Tryz.prog f [.agg (encV (l.getD i v0)).toArray] w' [] fun u _ => u = .string (bs (g (l.getD i v0)))) (ho0 : o ≠ []) (hn : l.length ≤ 1099511627776) (hlen : (lst o (l.map g) c).length ≤ 1099511627776) : Con Tryz.prog 73 [.string (bs o), v, .func (.func f) #[] #[], .string (bs c)] w [] fun u _ => u = .string (bs (lst o (l.map g) c)) := by
  refine con_of_tree mix Tryz.func73 T73_ok (by kernel_rfl) ?_
  unfold T73
  obtain ⟨A, cap, ga, off, rfl, hcap, hA⟩ := rsln_form hv
  have hcl := cms_take_le g l
  have hlen2 := hlen
  simp only [lst, List.length_append] at hlen2
  refine j_q (qs_ac) ?_
  refine j_alloc zero169 (fun g1 hg1 hs1 => ?_)
  refine j_call 0 ent115 rfl rfl rfl rfl (fun w' hw' => writeString_con g1 none (.inl rfl) (.slice none 0 0) [] [] o own_nil (by simp; omega) w') (fun u S2 hu => ?_)
  obtain ⟨rfl, bv, cb, rfl, hob⟩ := hu
  rw [List.nil_append] at hob
  refine j_subl (S' := [((g1, .cells [.pointer (some ⟨g1, 0, none⟩), bv].toArray 169 (0, 0)) :: cb)]) (by repeat first | exact List.Sublist.refl _ | exact List.nil_sublist _ | apply List.Sublist.cons_cons | apply List.Sublist.cons) ?_
  refine j_q (qs_lenl Tryz.underlying23 rfl) ?_
  refine j_q (qs_mc) ?_
  refine j_loop (fun m vs S' => ∃ (i : Nat) (bv : Value) (cb : SH), vs = [.int .i64 (i : Int)] ∧ S' = [((g1, .cells [.pointer (some ⟨g1, 0, none⟩), bv].toArray 169 (0, 0)) :: cb)] ∧ Sx.Own 5 1 (ints (o ++ cms ((l.take i).map g))) bv cb ∧ i ≤ l.length ∧ m = l.length - i) ⟨_, 0, bv, cb, rfl, rfl, by rw [List.take_zero, show cms (([] : List _).map g) = [] by unfold cms; rfl, List.append_nil]; exact hob, Nat.zero_le _, rfl⟩ ?_
  rintro m vs S' hlen ⟨i, bv, cb, rfl, rfl, hob, hin, rfl⟩
  refine j_q (qs_lss rfl rfl) ?_
  refine j_cond rfl (fun hc0 => ?_) (fun hc0 => ?_)
  · skip
    have hi : i < l.length := by
      simp only [Bool.and_eq_true, Bool.or_eq_true, Bool.and_eq_false_iff, Bool.or_eq_false_iff, Bool.not_eq_true', Bool.not_eq_false', decide_eq_true_eq, decide_eq_false_iff_not, beq_iff_eq, beq_eq_false_iff_ne, bne_iff_ne, bne_eq_false_iff_eq, ne_eq, Int.toNat_natCast] at *
      omega
    obtain ⟨rfl, hga, hcells⟩ := hA (by omega)
    have hci := hcl i
    have hci1 := hcl (i + 1)
    refine j_q (qs_ixn (g := ga) (off := off) (i := i) Tryz.underlying23 sz48 rfl rfl (by omega)) ?_
    refine j_q (qs_loadrecw (encA := encV) (rs := l) (d := v0) (i := i) encV_len (rd_cells hcells (by simp)) hi Tryz.underlying48 rfl sz48 rfl) ?_
    refine j_alloc zero48 (fun g8 hg8 hs8 => ?_)
    refine j_storew (vs := encV (l.getD i v0)) 0 sz48 rfl rfl (encV_len _) (encV_one _) rfl rfl ?_
    refine j_q (qs_gtr rfl rfl) ?_
    refine j_cond rfl (fun hc1 => ?_) (fun hc1 => ?_)
    · skip
      have h0 : ¬ i = 0 := by
        simp only [Bool.and_eq_true, Bool.or_eq_true, Bool.and_eq_false_iff, Bool.or_eq_false_iff, Bool.not_eq_true', Bool.not_eq_false', decide_eq_true_eq, decide_eq_false_iff_not, beq_iff_eq, beq_eq_false_iff_ne, bne_iff_ne, bne_eq_false_iff_eq, ne_eq, Int.toNat_natCast] at *
        omega
      have hstep := cms_step g (d := v0) hi
      rw [if_neg h0] at hstep
      rw [hstep] at hci1
      simp only [List.length_append, List.length_cons] at hci1
      refine j_call 1 ent116 rfl rfl rfl rfl (fun w' hw' => writeByte_con g1 (some ⟨g1, 0, none⟩) (.inr rfl) bv cb _ 44 (by decide) hob (by simp only [List.length_append, List.length_cons, List.length_nil]; omega) w') (fun u S2 hu => ?_)
      obtain ⟨rfl, bv2, cb2, rfl, hob2⟩ := hu
      refine j_q (qs_loadw (l := encV (l.getD i v0)) 1 Tryz.underlying48 rfl sz48 rfl rfl (encV_len _)) ?_
      refine j_q (qs_callf (v := .string (bs (g (l.getD i v0)))) hen rfl rfl rfl (fun w' hw' => hf i hi _ w' hw')) ?_
      refine j_call 0 ent115 rfl rfl rfl rfl (fun w' hw' => writeString_con g1 (some ⟨g1, 0, none⟩) (.inr rfl) bv2 cb2 _ (g (l.getD i v0)) hob2 (by simp only [List.length_append, List.length_cons, List.length_nil]; omega) w') (fun u S2 hu => ?_)
      obtain ⟨rfl, bv3, cb3, rfl, hob3⟩ := hu
      have hob4 : Sx.Own 5 1 (ints (o ++ cms ((l.take (i + 1)).map g))) bv3 cb3 := by
        rw [hstep]
        have e : o ++ cms ((l.take i).map g) ++ [by8 44] ++ (g (l.getD i v0)) = o ++ (cms ((l.take i).map g) ++ (44 :: (g (l.getD i v0)))) := by rw [show by8 44 = (44 : UInt8) from rfl]; simp
        rw [← e]
        exact hob3
      refine j_subl (S' := [((g1, .cells [.pointer (some ⟨g1, 0, none⟩), bv3].toArray 169 (0, 0)) :: cb3)]) (by repeat first | exact List.Sublist.refl _ | exact List.nil_sublist _ | apply List.Sublist.cons_cons | apply List.Sublist.cons) ?_
      refine j_q (qs_add64 rfl rfl (by first | omega | (simp only [Bool.and_eq_true, Bool.or_eq_true, Bool.and_eq_false_iff, Bool.or_eq_false_iff, Bool.not_eq_true', Bool.not_eq_false', decide_eq_true_eq, decide_eq_false_iff_not, beq_iff_eq, beq_eq_false_iff_ne, bne_iff_ne, bne_eq_false_iff_eq, ne_eq, Int.toNat_natCast] at *; omega))) ?_
      refine j_back rfl ?_
      exact ⟨l.length - (i + 1), by omega, i + 1, bv3, cb3, rfl, rfl, hob4, by omega, rfl⟩
    · skip
      have h0 : i = 0 := by
        simp only [Bool.and_eq_true, Bool.or_eq_true, Bool.and_eq_false_iff, Bool.or_eq_false_iff, Bool.not_eq_true', Bool.not_eq_false', decide_eq_true_eq, decide_eq_false_iff_not, beq_iff_eq, beq_eq_false_iff_ne, bne_iff_ne, bne_eq_false_iff_eq, ne_eq, Int.toNat_natCast] at *
        omega
      have hstep := cms_step g (d := v0) hi
      rw [if_pos h0] at hstep
      rw [hstep] at hci1
      have hcm0 : cms ((l.take i).map g) = [] := by
        rw [h0, List.take_zero]
        unfold cms
        rfl
      refine j_q (qs_loadw (l := encV (l.getD i v0)) 0 Tryz.underlying48 rfl sz48 rfl rfl (encV_len _)) ?_
      refine j_q (qs_callf (v := .string (bs (g (l.getD i v0)))) hen rfl rfl rfl (fun w' hw' => hf i hi _ w' hw')) ?_
      refine j_call 1 ent115 rfl rfl rfl rfl (fun w' hw' => writeString_con g1 (some ⟨g1, 0, none⟩) (.inr rfl) bv cb _ (g (l.getD i v0)) hob (by simp only [List.length_append, List.length_cons, List.length_nil]; omega) w') (fun u S2 hu => ?_)
      obtain ⟨rfl, bv3, cb3, rfl, hob3⟩ := hu
      have hob4 : Sx.Own 5 1 (ints (o ++ cms ((l.take (i + 1)).map g))) bv3 cb3 := by
        rw [hstep]
        rw [hcm0, List.append_nil] at hob3
        exact hob3
      refine j_subl (S' := [((g1, .cells [.pointer (some ⟨g1, 0, none⟩), bv3].toArray 169 (0, 0)) :: cb3)]) (by repeat first | exact List.Sublist.refl _ | exact List.nil_sublist _ | apply List.Sublist.cons_cons | apply List.Sublist.cons) ?_
      refine j_q (qs_add64 rfl rfl (by first | omega | (simp only [Bool.and_eq_true, Bool.or_eq_true, Bool.and_eq_false_iff, Bool.or_eq_false_iff, Bool.not_eq_true', Bool.not_eq_false', decide_eq_true_eq, decide_eq_false_iff_not, beq_iff_eq, beq_eq_false_iff_ne, bne_iff_ne, bne_eq_false_iff_eq, ne_eq, Int.toNat_natCast] at *; omega))) ?_
      refine j_back rfl ?_
      exact ⟨l.length - (i + 1), by omega, i + 1, bv3, cb3, rfl, rfl, hob4, by omega, rfl⟩
  · skip
    obtain rfl : i = l.length := by
      simp only [Bool.and_eq_true, Bool.or_eq_true, Bool.and_eq_false_iff, Bool.or_eq_false_iff, Bool.not_eq_true', Bool.not_eq_false', decide_eq_true_eq, decide_eq_false_iff_not, beq_iff_eq, beq_eq_false_iff_ne, bne_iff_ne, bne_eq_false_iff_eq, ne_eq, Int.toNat_natCast] at *
      omega
    rw [List.take_length] at hob
    refine j_call 0 ent115 rfl rfl rfl rfl (fun w' hw' => writeString_con g1 (some ⟨g1, 0, none⟩) (.inr rfl) bv cb _ c hob (by simp only [List.length_append, List.length_cons, List.length_nil]; omega) w') (fun u S2 hu => ?_)
    obtain ⟨rfl, bv2, cb2, rfl, hob2⟩ := hu
    refine j_call 0 ent117 rfl rfl rfl rfl (fun w' hw' => string_con g1 _ bv2 cb2 _ (by simp [ho0]) (by simp only [List.length_append, List.length_cons, List.length_nil]; omega) hob2 w') (fun u S2 hu => ?_)
    obtain ⟨rfl, rfl⟩ := hu
    refine j_ret_con (vs := [_]) (fun w' hw' => ⟨rfl, trivial⟩) ?_
    rfl
/-- pantry.drv.list[string] -/
theorem listS_con (l : List Bs) (v : Value) (o c : Bs) (f : Nat) (g : Bs → Bs) (w : World) (hv : StrZ w v l) (hen : Sx.Enters Tryz.prog f) (hf : ∀ i, i < l.length → ∀ S w', Sig ⟨w, dom []⟩ S w' → Con Tryz.prog f [.string (bs (l.getD i []))] w' [] fun u _ => u = .string (bs (g (l.getD i [])))) (ho0 : o ≠ []) (hn : l.length ≤ 1099511627776) (hlen : (lst o (l.map g) c).length ≤ 1099511627776) : Con Tryz.prog 118 [.string (bs o), v, .func (.func f) #[] #[], .string (bs c)] w [] fun u _ => u = .string (bs (lst o (l.map g) c)) := by
  refine con_of_tree mix Tryz.func118 T118_ok (by kernel_rfl) ?_
  unfold T118
  obtain ⟨A, cap, rfl, hcap⟩ := strz_form hv
  have hcl := cms_take_le g l
  have hlen2 := hlen
  simp only [lst, List.length_append] at hlen2
  refine j_q (qs_ac) ?_
  refine j_alloc zero169 (fun g1 hg1 hs1 => ?_)
  refine j_call 0 ent115 rfl rfl rfl rfl (fun w' hw' => writeString_con g1 none (.inl rfl) (.slice none 0 0) [] [] o own_nil (by simp; omega) w') (fun u S2 hu => ?_)
  obtain ⟨rfl, bv, cb, rfl, hob⟩ := hu
  rw [List.nil_append] at hob
  refine j_subl (S' := [((g1, .cells [.pointer (some ⟨g1, 0, none⟩), bv].toArray 169 (0, 0)) :: cb)]) (by repeat first | exact List.Sublist.refl _ | exact List.nil_sublist _ | apply List.Sublist.cons_cons | apply List.Sublist.cons) ?_
  refine j_q (qs_lenl Tryz.underlying22 rfl) ?_
  refine j_q (qs_mc) ?_
  refine j_loop (fun m vs S' => ∃ (i : Nat) (bv : Value) (cb : SH), vs = [.int .i64 (i : Int)] ∧ S' = [((g1, .cells [.pointer (some ⟨g1, 0, none⟩), bv].toArray 169 (0, 0)) :: cb)] ∧ Sx.Own 5 1 (ints (o ++ cms ((l.take i).map g))) bv cb ∧ i ≤ l.length ∧ m = l.length - i) ⟨_, 0, bv, cb, rfl, rfl, by rw [List.take_zero, show cms (([] : List _).map g) = [] by unfold cms; rfl, List.append_nil]; exact hob, Nat.zero_le _, rfl⟩ ?_
  rintro m vs S' hlen ⟨i, bv, cb, rfl, rfl, hob, hin, rfl⟩
  refine j_q (qs_lss rfl rfl) ?_
  refine j_cond rfl (fun hc0 => ?_) (fun hc0 => ?_)
  · skip
    have hi : i < l.length := by
      simp only [Bool.and_eq_true, Bool.or_eq_true, Bool.and_eq_false_iff, Bool.or_eq_false_iff, Bool.not_eq_true', Bool.not_eq_false', decide_eq_true_eq, decide_eq_false_iff_not, beq_iff_eq, beq_eq_false_iff_ne, bne_iff_ne, bne_eq_false_iff_eq, ne_eq, Int.toNat_natCast] at *
      omega
    obtain ⟨ga, off, rfl, hga, hcells⟩ := strz_addr hv (by omega)
    have hci := hcl i
    have hci1 := hcl (i + 1)
    refine j_q (qs_ixl0 Tryz.underlying22 sz9 rfl rfl (by omega)) ?_
    refine j_q (qs_loadrs (rd_cells hcells (by simp)) Tryz.underlying9 rfl (by simp only [Int.toNat_natCast]; omega)) ?_
    simp only [Int.toNat_natCast]
    refine j_q (qs_gtr rfl rfl) ?_
    refine j_cond rfl (fun hc1 => ?_) (fun hc1 => ?_)
    · skip
      have h0 : ¬ i = 0 := by
        simp only [Bool.and_eq_true, Bool.or_eq_true, Bool.and_eq_false_iff, Bool.or_eq_false_iff, Bool.not_eq_true', Bool.not_eq_false', decide_eq_true_eq, decide_eq_false_iff_not, beq_iff_eq, beq_eq_false_iff_ne, bne_iff_ne, bne_eq_false_iff_eq, ne_eq, Int.toNat_natCast] at *
        omega
      have hstep := cms_step g (d := []) hi
      rw [if_neg h0] at hstep
      rw [hstep] at hci1
      simp only [List.length_append, List.length_cons] at hci1
      refine j_call 0 ent116 rfl rfl rfl rfl (fun w' hw' => writeByte_con g1 (some ⟨g1, 0, none⟩) (.inr rfl) bv cb _ 44 (by decide) hob (by simp only [List.length_append, List.length_cons, List.length_nil]; omega) w') (fun u S2 hu => ?_)
      obtain ⟨rfl, bv2, cb2, rfl, hob2⟩ := hu
      refine j_q (qs_callf (v := .string (bs (g (l.getD i [])))) hen rfl rfl rfl (fun w' hw' => hf i hi _ w' hw')) ?_
      refine j_call 0 ent115 rfl rfl rfl rfl (fun w' hw' => writeString_con g1 (some ⟨g1, 0, none⟩) (.inr rfl) bv2 cb2 _ (g (l.getD i [])) hob2 (by simp only [List.length_append, List.length_cons, List.length_nil]; omega) w') (fun u S2 hu => ?_)
      obtain ⟨rfl, bv3, cb3, rfl, hob3⟩ := hu
      have hob4 : Sx.Own 5 1 (ints (o ++ cms ((l.take (i + 1)).map g))) bv3 cb3 := by
        rw [hstep]
        have e : o ++ cms ((l.take i).map g) ++ [by8 44] ++ (g (l.getD i [])) = o ++ (cms ((l.take i).map g) ++ (44 :: (g (l.getD i [])))) := by rw [show by8 44 = (44 : UInt8) from rfl]; simp
        rw [← e]
        exact hob3
      refine j_subl (S' := [((g1, .cells [.pointer (some ⟨g1, 0, none⟩), bv3].toArray 169 (0, 0)) :: cb3)]) (by repeat first | exact List.Sublist.refl _ | exact List.nil_sublist _ | apply List.Sublist.cons_cons | apply List.Sublist.cons) ?_
      refine j_q (qs_add64 rfl rfl (by first | omega | (simp only [Bool.and_eq_true, Bool.or_eq_true, Bool.and_eq_false_iff, Bool.or_eq_false_iff, Bool.not_eq_true', Bool.not_eq_false', decide_eq_true_eq, decide_eq_false_iff_not, beq_iff_eq, beq_eq_false_iff_ne, bne_iff_ne, bne_eq_false_iff_eq, ne_eq, Int.toNat_natCast] at *; omega))) ?_
      refine j_back rfl ?_
      exact ⟨l.length - (i + 1), by omega, i + 1, bv3, cb3, rfl, rfl, hob4, by omega, rfl⟩
    · skip
      have h0 : i = 0 := by
        simp only [Bool.and_eq_true, Bool.or_eq_true, Bool.and_eq_false_iff, Bool.or_eq_false_iff, Bool.not_eq_true', Bool.not_eq_false', decide_eq_true_eq, decide_eq_false_iff_not, beq_iff_eq, beq_eq_false_iff_ne, bne_iff_ne, bne_eq_false_iff_eq, ne_eq, Int.toNat_natCast] at *
        omega
      have hstep := cms_step g (d := []) hi
      rw [if_pos h0] at hstep
      rw [hstep] at hci1
      have hcm0 : cms ((l.take i).map g) = [] := by
        rw [h0, List.take_zero]
        unfold cms
        rfl
      refine j_q (qs_callf (v := .string (bs (g (l.getD i [])))) hen rfl rfl rfl (fun w' hw' => hf i hi _ w' hw')) ?_
      refine j_call 0 ent115 rfl rfl rfl rfl (fun w' hw' => writeString_con g1 (some ⟨g1, 0, none⟩) (.inr rfl) bv cb _ (g (l.getD i [])) hob (by simp only [List.length_append, List.length_cons, List.length_nil]; omega) w') (fun u S2 hu => ?_)
      obtain ⟨rfl, bv3, cb3, rfl, hob3⟩ := hu
      have hob4 : Sx.Own 5 1 (ints (o ++ cms ((l.take (i + 1)).map g))) bv3 cb3 := by
        rw [hstep]
        rw [hcm0, List.append_nil] at hob3
        exact hob3
      refine j_subl (S' := [((g1, .cells [.pointer (some ⟨g1, 0, none⟩), bv3].toArray 169 (0, 0)) :: cb3)]) (by repeat first | exact List.Sublist.refl _ | exact List.nil_sublist _ | apply List.Sublist.cons_cons | apply List.Sublist.cons) ?_
      refine j_q (qs_add64 rfl rfl (by first | omega | (simp only [Bool.and_eq_true, Bool.or_eq_true, Bool.and_eq_false_iff, Bool.or_eq_false_iff, Bool.not_eq_true', Bool.not_eq_false', decide_eq_true_eq, decide_eq_false_iff_not, beq_iff_eq, beq_eq_false_iff_ne, bne_iff_ne, bne_eq_false_iff_eq, ne_eq, Int.toNat_natCast] at *; omega))) ?_
      refine j_back rfl ?_
      exact ⟨l.length - (i + 1), by omega, i + 1, bv3, cb3, rfl, rfl, hob4, by omega, rfl⟩
  · skip
    obtain rfl : i = l.length := by
      simp only [Bool.and_eq_true, Bool.or_eq_true, Bool.and_eq_false_iff, Bool.or_eq_false_iff, Bool.not_eq_true', Bool.not_eq_false', decide_eq_true_eq, decide_eq_false_iff_not, beq_iff_eq, beq_eq_false_iff_ne, bne_iff_ne, bne_eq_false_iff_eq, ne_eq, Int.toNat_natCast] at *
      omega
    rw [List.take_length] at hob
    refine j_call 0 ent115 rfl rfl rfl rfl (fun w' hw' => writeString_con g1 (some ⟨g1, 0, none⟩) (.inr rfl) bv cb _ c hob (by simp only [List.length_append, List.length_cons, List.length_nil]; omega) w') (fun u S2 hu => ?_)
    obtain ⟨rfl, bv2, cb2, rfl, hob2⟩ := hu
    refine j_call 0 ent117 rfl rfl rfl rfl (fun w' hw' => string_con g1 _ bv2 cb2 _ (by simp [ho0]) (by simp only [List.length_append, List.length_cons, List.length_nil]; omega) hob2 w') (fun u S2 hu => ?_)
    obtain ⟨rfl, rfl⟩ := hu
    refine j_ret_con (vs := [_]) (fun w' hw' => ⟨rfl, trivial⟩) ?_
    rfl
/-- pantry.drv.list[pantry.api.Path] -/
theorem listP_con (l : List Bs) (v : Value) (o c : Bs) (f : Nat) (g : Bs → Bs) (w : World) (hv : StrZ w v l) (hen : Sx.Enters Tryz.prog f) (hf : ∀ i, i < l.length → ∀ S w', Sig ⟨w, dom []⟩ S w' → Con Tryz.prog f [.string (bs (l.getD i []))] w' [] fun u _ => u = .string (bs (g (l.getD i [])))) (ho0 : o ≠ []) (hn : l.length ≤ 1099511627776) (hlen : (lst o (l.map g) c).length ≤ 1099511627776) : Con Tryz.prog 123 [.string (bs o), v, .func (.func f) #[] #[], .string (bs c)] w [] fun u _ => u = .string (bs (lst o (l.map g) c)) := by
  refine con_of_tree mix Tryz.func123 T123_ok (by kernel_rfl) ?_
  unfold T123
  obtain ⟨A, cap, rfl, hcap⟩ := strz_form hv
  have hcl := cms_take_le g l
  have hlen2 := hlen
  simp only [lst, List.length_append] at hlen2
  refine j_q (qs_ac) ?_
  refine j_alloc zero169 (fun g1 hg1 hs1 => ?_)
  refine j_call 0 ent115 rfl rfl rfl rfl (fun w' hw' => writeString_con g1 none (.inl rfl) (.slice none 0 0) [] [] o own_nil (by simp; omega) w') (fun u S2 hu => ?_)
  obtain ⟨rfl, bv, cb, rfl, hob⟩ := hu
  rw [List.nil_append] at hob
  refine j_subl (S' := [((g1, .cells [.pointer (some ⟨g1, 0, none⟩), bv].toArray 169 (0, 0)) :: cb)]) (by repeat first | exact List.Sublist.refl _ | exact List.nil_sublist _ | apply List.Sublist.cons_cons | apply List.Sublist.cons) ?_
  refine j_q (qs_lenl Tryz.underlying25 rfl) ?_
  refine j_q (qs_mc) ?_
  refine j_loop (fun m vs S' => ∃ (i : Nat) (bv : Value) (cb : SH), vs = [.int .i64 (i : Int)] ∧ S' = [((g1, .cells [.pointer (some ⟨g1, 0, none⟩), bv].toArray 169 (0, 0)) :: cb)] ∧ Sx.Own 5 1 (ints (o ++ cms ((l.take i).map g))) bv cb ∧ i ≤ l.length ∧ m = l.length - i) ⟨_, 0, bv, cb, rfl, rfl, by rw [List.take_zero, show cms (([] : List _).map g) = [] by unfold cms; rfl, List.append_nil]; exact hob, Nat.zero_le _, rfl⟩ ?_
  rintro m vs S' hlen ⟨i, bv, cb, rfl, rfl, hob, hin, rfl⟩
  refine j_q (qs_lss rfl rfl) ?_
  refine j_cond rfl (fun hc0 => ?_) (fun hc0 => ?_)
  · skip
    have hi : i < l.length := by
      simp only [Bool.and_eq_true, Bool.or_eq_true, Bool.and_eq_false_iff, Bool.or_eq_false_iff, Bool.not_eq_true', Bool.not_eq_false', decide_eq_true_eq, decide_eq_false_iff_not, beq_iff_eq, beq_eq_false_iff_ne, bne_iff_ne, bne_eq_false_iff_eq, ne_eq, Int.toNat_natCast] at *
      omega
    obtain ⟨ga, off, rfl, hga, hcells⟩ := strz_addr hv (by omega)
    have hci := hcl i
    have hci1 := hcl (i + 1)
    refine j_q (qs_ixl0 Tryz.underlying25 sz49 rfl rfl (by omega)) ?_
    refine j_q (qs_loadrs (rd_cells hcells (by simp)) Tryz.underlying49 rfl (by simp only [Int.toNat_natCast]; omega)) ?_
    simp only [Int.toNat_natCast]
    refine j_q (qs_gtr rfl rfl) ?_
    refine j_cond rfl (fun hc1 => ?_) (fun hc1 => ?_)
    · skip
      have h0 : ¬ i = 0 := by
        simp only [Bool.and_eq_true, Bool.or_eq_true, Bool.and_eq_false_iff, Bool.or_eq_false_iff, Bool.not_eq_true', Bool.not_eq_false', decide_eq_true_eq, decide_eq_false_iff_not, beq_iff_eq, beq_eq_false_iff_ne, bne_iff_ne, bne_eq_false_iff_eq, ne_eq, Int.toNat_natCast] at *
        omega
      have hstep := cms_step g (d := []) hi
      rw [if_neg h0] at hstep
      rw [hstep] at hci1
      simp only [List.length_append, List.length_cons] at hci1
      refine j_call 0 ent116 rfl rfl rfl rfl (fun w' hw' => writeByte_con g1 (some ⟨g1, 0, none⟩) (.inr rfl) bv cb _ 44 (by decide) hob (by simp only [List.length_append, List.length_cons, List.length_nil]; omega) w') (fun u S2 hu => ?_)
      obtain ⟨rfl, bv2, cb2, rfl, hob2⟩ := hu
      refine j_q (qs_callf (v := .string (bs (g (l.getD i [])))) hen rfl rfl rfl (fun w' hw' => hf i hi _ w' hw')) ?_
      refine j_call 0 ent115 rfl rfl rfl rfl (fun w' hw' => writeString_con g1 (some ⟨g1, 0, none⟩) (.inr rfl) bv2 cb2 _ (g (l.getD i [])) hob2 (by simp only [List.length_append, List.length_cons, List.length_nil]; omega) w') (fun u S2 hu => ?_)
      obtain ⟨rfl, bv3, cb3, rfl, hob3⟩ := hu
      have hob4 : Sx.Own 5 1 (ints (o ++ cms ((l.take (i + 1)).map g))) bv3 cb3 := by
        rw [hstep]
        have e : o ++ cms ((l.take i).map g) ++ [by8 44] ++ (g (l.getD i [])) = o ++ (cms ((l.take i).map g) ++ (44 :: (g (l.getD i [])))) := by rw [show by8 44 = (44 : UInt8) from rfl]; simp
        rw [← e]
        exact hob3
      refine j_subl (S' := [((g1, .cells [.pointer (some ⟨g1, 0, none⟩), bv3].toArray 169 (0, 0)) :: cb3)]) (by repeat first | exact List.Sublist.refl _ | exact List.nil_sublist _ | apply List.Sublist.cons_cons | apply List.Sublist.cons) ?_
      refine j_q (qs_add64 rfl rfl (by first | omega | (simp only [Bool.and_eq_true, Bool.or_eq_true, Bool.and_eq_false_iff, Bool.or_eq_false_iff, Bool.not_eq_true', Bool.not_eq_false', decide_eq_true_eq, decide_eq_false_iff_not, beq_iff_eq, beq_eq_false_iff_ne, bne_iff_ne, bne_eq_false_iff_eq, ne_eq, Int.toNat_natCast] at *; omega))) ?_
      refine j_back rfl ?_
      exact ⟨l.length - (i + 1), by omega, i + 1, bv3, cb3, rfl, rfl, hob4, by omega, rfl⟩
    · skip
      have h0 : i = 0 := by
        simp only [Bool.and_eq_true, Bool.or_eq_true, Bool.and_eq_false_iff, Bool.or_eq_false_iff, Bool.not_eq_true', Bool.not_eq_false', decide_eq_true_eq, decide_eq_false_iff_not, beq_iff_eq, beq_eq_false_iff_ne, bne_iff_ne, bne_eq_false_iff_eq, ne_eq, Int.toNat_natCast] at *
        omega
      have hstep := cms_step g (d := []) hi
      rw [if_pos h0] at hstep
      rw [hstep] at hci1
      have hcm0 : cms ((l.take i).map g) = [] := by
        rw [h0, List.take_zero]
        unfold cms
        rfl
      refine j_q (qs_callf (v := .string (bs (g (l.getD i [])))) hen rfl rfl rfl (fun w' hw' => hf i hi _ w' hw')) ?_
      refine j_call 0 ent115 rfl rfl rfl rfl (fun w' hw' => writeString_con g1 (some ⟨g1, 0, none⟩) (.inr rfl) bv cb _ (g (l.getD i [])) hob (by simp only [List.length_append, List.length_cons, List.length_nil]; omega) w') (fun u S2 hu => ?_)
      obtain ⟨rfl, bv3, cb3, rfl, hob3⟩ := hu
      have hob4 : Sx.Own 5 1 (ints (o ++ cms ((l.take (i + 1)).map g))) bv3 cb3 := by
        rw [hstep]
        rw [hcm0, List.append_nil] at hob3
        exact hob3
      refine j_subl (S' := [((g1, .cells [.pointer (some ⟨g1, 0, none⟩), bv3].toArray 169 (0, 0)) :: cb3)]) (by repeat first | exact List.Sublist.refl _ | exact List.nil_sublist _ | apply List.Sublist.cons_cons | apply List.Sublist.cons) ?_
      refine j_q (qs_add64 rfl rfl (by first | omega | (simp only [Bool.and_eq_true, Bool.or_eq_true, Bool.and_eq_false_iff, Bool.or_eq_false_iff, Bool.not_eq_true', Bool.not_eq_false', decide_eq_true_eq, decide_eq_false_iff_not, beq_iff_eq, beq_eq_false_iff_ne, bne_iff_ne, bne_eq_false_iff_eq, ne_eq, Int.toNat_natCast] at *; omega))) ?_
      refine j_back rfl ?_
      exact ⟨l.length - (i + 1), by omega, i + 1, bv3, cb3, rfl, rfl, hob4, by omega, rfl⟩
  · skip
    obtain rfl : i = l.length := by
      simp only [Bool.and_eq_true, Bool.or_eq_true, Bool.and_eq_false_iff, Bool.or_eq_false_iff, Bool.not_eq_true', Bool.not_eq_false', decide_eq_true_eq, decide_eq_false_iff_not, beq_iff_eq, beq_eq_false_iff_ne, bne_iff_ne, bne_eq_false_iff_eq, ne_eq, Int.toNat_natCast] at *
      omega
    rw [List.take_length] at hob
    refine j_call 0 ent115 rfl rfl rfl rfl (fun w' hw' => writeString_con g1 (some ⟨g1, 0, none⟩) (.inr rfl) bv cb _ c hob (by simp only [List.length_append, List.length_cons, List.length_nil]; omega) w') (fun u S2 hu => ?_)
    obtain ⟨rfl, bv2, cb2, rfl, hob2⟩ := hu
    refine j_call 0 ent117 rfl rfl rfl rfl (fun w' hw' => string_con g1 _ bv2 cb2 _ (by simp [ho0]) (by simp only [List.length_append, List.length_cons, List.length_nil]; omega) hob2 w') (fun u S2 hu => ?_)
    obtain ⟨rfl, rfl⟩ := hu
    refine j_ret_con (vs := [_]) (fun w' hw' => ⟨rfl, trivial⟩) ?_
    rfl
end Go.Proofs.YtfeabbeebkkhaaaGreat
