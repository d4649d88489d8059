/- Part 6. -/
import Derived.Test.YtfeabbeebkkhaaaGreatPD2
import Derived.Test.YtfeabbeebkkhaaaGreatPD5
import Derived.Test.YtfeabbeebkkhaaaGreatPD4
/-! Dv4 -/
namespace Go.Proofs.YtfeabbeebkkhaaaGreat
open Go Go.Sx
set_option maxRecDepth 100000
set_option maxHeartbeats 4000000
set_option linter.unusedVariables false
set_option linter.unusedSimpArgs false
attribute [local irreducible] J JQ QS Con W opW
theorem ent115 : Sx.Enters Tryz.prog 115 := ⟨_, Tryz.func115, by kernel_rfl, by kernel_rfl⟩
theorem ent116 : Sx.Enters Tryz.prog 116 := ⟨_, Tryz.func116, by kernel_rfl, by kernel_rfl⟩
theorem ent117 : Sx.Enters Tryz.prog 117 := ⟨_, Tryz.func117, by kernel_rfl, by kernel_rfl⟩
theorem sz23 : (Tryz.prog.info? 23).map (·.size) = some 1 := by kernel_rfl
theorem sz24 : (Tryz.prog.info? 24).map (·.size) = some 1 := by kernel_rfl
theorem sz25 : (Tryz.prog.info? 25).map (·.size) = some 1 := by kernel_rfl
theorem sz26 : (Tryz.prog.info? 26).map (·.size) = some 1 := by kernel_rfl
theorem sz28 : (Tryz.prog.info? 28).map (·.size) = some 8 := by kernel_rfl
theorem sz48 : (Tryz.prog.info? 48).map (·.size) = some 2 := by kernel_rfl
theorem sz49 : (Tryz.prog.info? 49).map (·.size) = some 1 := by kernel_rfl
theorem sz53 : (Tryz.prog.info? 53).map (·.size) = some 35 := by kernel_rfl
theorem sz68 : (Tryz.prog.info? 68).map (·.size) = some 2 := by kernel_rfl
theorem zero48 : zeroL Tryz.prog 48 = some ([.string (bs []), .string (bs [])]) := by kernel_rfl
theorem zero49 : zeroL Tryz.prog 49 = some ([.string (bs [])]) := by kernel_rfl
theorem zero53 : zeroL Tryz.prog 53 = some ([.string (bs []), .string (bs []), .bool false, .int .u8 0, .int .u8 0, .int .u8 0, .int .u8 0, .int .u8 0, .int .u8 0, .int .u8 0, .int .u8 0, .int .u8 0, .int .u8 0, .int .u8 0, .int .u8 0, .int .u8 0, .int .u8 0, .int .u8 0, .int .u8 0, .int .u8 0, .int .u8 0, .int .u8 0, .int .u8 0, .int .u8 0, .int .u8 0, .int .u8 0, .int .u8 0, .int .u8 0, .int .u8 0, .int .u8 0, .int .u8 0, .int .u8 0, .int .u8 0, .int .u8 0, .int .u8 0]) := by kernel_rfl
theorem zero68 : zeroL Tryz.prog 68 = some ([.string (bs []), .slice none 0 0]) := by kernel_rfl
theorem zero169 : zeroL Tryz.prog 169 = some ([.pointer none, .slice none 0 0]) := by kernel_rfl
def StrZ (w : World) (v : Value) (rs : List Bs) : Prop := ∃ A cap, v = .slice A rs.length cap ∧ rs.length ≤ cap ∧ (0 < rs.length → ∃ g off, A = some ⟨g, off, none⟩ ∧ g < w.heap.size ∧ Cells w ⟨g, off, none⟩ (strs rs)) ∧ (A = none → cap = 0)
theorem strz_of {w : World} {v : Value} {rs : List Bs} (h : StrSl w v rs) : StrZ w v rs := by
  rcases h with ⟨rfl, rfl⟩ | ⟨g, off, cap, rfl, h1, h2, h3⟩
  · exact ⟨none, 0, rfl, Nat.le_refl _, fun h => absurd h (Nat.lt_irrefl _), fun _ => rfl⟩
  · exact ⟨_, cap, rfl, h2, fun _ => ⟨g, off, rfl, h1, h3⟩, fun e => by cases e⟩
theorem strz_nil {w : World} : StrZ w (.slice none 0 0) [] := strz_of (.inl ⟨rfl, rfl⟩)
theorem strz_form {w : World} {v : Value} {rs : List Bs} (h : StrZ w v rs) : ∃ A cap, v = .slice A rs.length cap ∧ rs.length ≤ cap := by
  obtain ⟨A, cap, h1, h2, _⟩ := h
  exact ⟨A, cap, h1, h2⟩
theorem strz_addr {w : World} {A : Option Addr} {n cap : Nat} {rs : List Bs} (h : StrZ w (.slice A n cap) rs) (h0 : 0 < rs.length) : ∃ g off, A = some ⟨g, off, none⟩ ∧ g < w.heap.size ∧ Cells w ⟨g, off, none⟩ (strs rs) := by
  obtain ⟨A', cap', e, h2, h3, _⟩ := h
  injection e with e1
  subst e1
  exact h3 h0
theorem strz_keep {w w' : World} {v : Value} {rs : List Bs} (h : StrZ w v rs) {S : List SH} (hs : Sig ⟨w, dom []⟩ S w') : StrZ w' v rs := by
  obtain ⟨A, cap, h1, h2, h3, h4⟩ := h
  exact ⟨A, cap, h1, h2, fun h0 => by
    obtain ⟨g, off, rfl, h5, h6⟩ := h3 h0
    exact ⟨g, off, rfl, Nat.lt_of_lt_of_le h5 hs.size, cells_keep h6 hs⟩, h4⟩
theorem strz_own {b : Base} {S : List SH} {w : World} {e : TypeId} {xs : List Bs} {v : Value} {c : SH} (ho : Sx.Own e 1 (strs xs) v c) (k : Nat) (hk : S[k]? = some c) (hw : Sig b S w) : StrZ w v xs := strz_of (strsl_own ho k hk hw)
theorem strz_ownw {w : World} {e : TypeId} {xs : List Bs} {v : Value} {c : SH} (ho : Sx.Own e 1 (strs xs) v c) (h : ∀ p ∈ c, w.heap[p.1]? = some p.2) : StrZ w v xs := strz_of (strsl_ownw ho h)
def encO (o : PO) : List Value := .string (bs o.name) :: .string (bs o.path) :: .bool o.fixed :: ints o.hash.1
def encV (v : PV) : List Value := [.string (bs v.name), .string (bs v.val)]
structure MI where
  drv : Bs
  outs : List Bs
  v : Value
def MI.pi (m : MI) : PI := ⟨m.drv, m.outs⟩
def encI (m : MI) : List Value := [.string (bs m.drv), m.v]
abbrev m0 : MI := ⟨[], [], .slice none 0 0⟩
theorem encO_len (o : PO) : (encO o).length = 35 := by
  unfold encO
  simp only [List.length_cons, ints_length, o.hash.2]
theorem encV_len (o : PV) : (encV o).length = 2 := rfl
theorem encI_len (o : MI) : (encI o).length = 2 := rfl
theorem encO_one (o : PO) : ∀ u ∈ encO o, oneV u = true := fun u hu => by
  simp only [encO, List.mem_cons] at hu
  rcases hu with rfl | rfl | rfl | hu
  · rfl
  · rfl
  · rfl
  · exact ints_one u hu
theorem encV_one (o : PV) : ∀ u ∈ encV o, oneV u = true := fun u hu => by
  simp only [encV, List.mem_cons, List.not_mem_nil, or_false] at hu
  rcases hu with rfl | rfl <;> rfl
structure DV where
  va : Value
  ve : Value
  vi : Value
  vs : Value
  vo : Value
  mi : List MI
def dcells (d : PD) (x : DV) : List Value := [.string (bs d.name), .string (bs d.sys), .string (bs d.bld), x.va, x.ve, x.vi, x.vs, x.vo]
abbrev dval (d : PD) (x : DV) : Value := .agg (dcells d x).toArray
structure DR (w : World) (d : PD) (x : DV) : Prop where
  a : StrZ w x.va d.args
  e : RSlN 2 w x.ve (d.env.map encV).flatten d.env.length
  i : RSlN 2 w x.vi (x.mi.map encI).flatten x.mi.length
  io : ∀ m ∈ x.mi, StrZ w m.v m.outs
  im : d.ins = x.mi.map MI.pi
  s : StrZ w x.vs d.srcs
  o : RSlN 35 w x.vo (d.outs.map encO).flatten d.outs.length
theorem DR.keep {w w' : World} {d : PD} {x : DV} (h : DR w d x) {S : List SH} (hs : Sig ⟨w, dom []⟩ S w') : DR w' d x :=
  ⟨strz_keep h.a hs, rsln_keep h.e hs, rsln_keep h.i hs, fun m hm => strz_keep (h.io m hm) hs, h.im, strz_keep h.s hs, rsln_keep h.o hs⟩
theorem MI.one {w : World} {m : MI} (h : StrZ w m.v m.outs) : ∀ u ∈ encI m, oneV u = true := fun u hu => by
  obtain ⟨A, cap, e, _⟩ := strz_form h
  simp only [encI, List.mem_cons, List.not_mem_nil, or_false] at hu
  rcases hu with rfl | rfl
  · rfl
  · rw [e]; rfl
theorem take_map_snoc {α : Type} (g : α → Bs) {l : List α} {i : Nat} {d : α} (h : i < l.length) : (l.take (i + 1)).map g = (l.take i).map g ++ [g (l.getD i d)] := by
  rw [List.take_succ_eq_append_getElem h, List.map_append]
  congr 2
  rw [List.getD_eq_getElem?_getD, List.getElem?_eq_getElem h]
  rfl
theorem cms_take_le {α : Type} (g : α → Bs) (l : List α) (i : Nat) : (cms ((l.take i).map g)).length ≤ (cms (l.map g)).length := by
  unfold cms
  rw [List.length_drop, List.length_drop]
  have : ((l.map g).map fun x => (44 : UInt8) :: x).flatten = (((l.take i).map g).map fun x => (44 : UInt8) :: x).flatten ++ (((l.drop i).map g).map fun x => (44 : UInt8) :: x).flatten := by
    conv => lhs; rw [← List.take_append_drop i l]
    rw [List.map_append, List.map_append, List.flatten_append]
  rw [this, List.length_append]
  omega
theorem cms_step {α : Type} (g : α → Bs) {l : List α} {i : Nat} {d : α} (h : i < l.length) : cms ((l.take (i + 1)).map g) = if i = 0 then g (l.getD i d) else cms ((l.take i).map g) ++ (44 :: g (l.getD i d)) := by
  rw [take_map_snoc g h, cms_snoc]
  have : (l.take i).map g = [] ↔ i = 0 := by
    rw [List.map_eq_nil_iff, List.take_eq_nil_iff]
    constructor
    · rintro (h | h)
      · exact h
      · subst h; simp at h
    · exact fun h => .inl h
  by_cases h0 : i = 0
  · rw [if_pos (this.2 h0), if_pos h0]
  · rw [if_neg (fun e => h0 (this.1 e)), if_neg h0]
attribute [local irreducible] es qt cms hex Tbl Half
theorem listO_con (l : List PO) (v : Value) (o c : Bs) (f : Nat) (g : PO → Bs) (w : World) (hv : RSlN 35 w v (l.map encO).flatten l.length) (hen : Sx.Enters Tryz.prog f) (hf : ∀ i, i < l.length → ∀ S w', Sig ⟨w, dom []⟩ S w' → Con Tryz.prog f [.agg (encO (l.getD i o0)).toArray] w' [] fun u _ => u = .string (bs (g (l.getD i o0)))) (ho0 : o ≠ []) (hn : l.length ≤ 1099511627776) (hlen : (lst o (l.map g) c).length ≤ 1099511627776) : Con Tryz.prog 66 [.string (bs o), v, .func (.func f) #[] #[], .string (bs c)] w [] fun u _ => u = .string (bs (lst o (l.map g) c)) := by
  refine con_of_tree mix Tryz.func66 T66_ok (by kernel_rfl) ?_
  unfold T66
  obtain ⟨A, cap, ga, off, rfl, hcap, hA⟩ := rsln_form hv
  have hcl := cms_take_le g l
  have hlen2 := hlen
  simp only [lst, List.length_append] at hlen2
  refine j_q (qs_ac) ?_
  refine j_alloc zero169 (fun g1 hg1 hs1 => ?_)
  refine j_call 0 ent115 rfl rfl rfl rfl (fun w' hw' => writeString_con g1 none (.inl rfl) (.slice none 0 0) [] [] o own_nil (by simp; omega) w') (fun u S2 hu => ?_)
  obtain ⟨rfl, bv, cb, rfl, hob⟩ := hu
  rw [List.nil_append] at hob
  refine j_subl (S' := [((g1, .cells [.pointer (some ⟨g1, 0, none⟩), bv].toArray 169 (0, 0)) :: cb)]) (by repeat first | exact slR _ | exact slN _ | apply slC | apply slD) ?_
  refine j_q (qs_lenl Tryz.underlying26 rfl) ?_
  refine j_q (qs_mc) ?_
  refine j_loop (fun m vs S' => ∃ (i : Nat) (bv : Value) (cb : SH), vs = [.int .i64 (i : Int)] ∧ S' = [((g1, .cells [.pointer (some ⟨g1, 0, none⟩), bv].toArray 169 (0, 0)) :: cb)] ∧ Sx.Own 5 1 (ints (o ++ cms ((l.take i).map g))) bv cb ∧ i ≤ l.length ∧ m = l.length - i) ⟨_, 0, bv, cb, rfl, rfl, by rw [List.take_zero, show cms (([] : List _).map g) = [] by unfold cms; rfl, List.append_nil]; exact hob, Nat.zero_le _, rfl⟩ ?_
  rintro m vs S' hlen ⟨i, bv, cb, rfl, rfl, hob, hin, rfl⟩
  refine j_q (qs_lss rfl rfl) ?_
  refine j_cond rfl (fun hc0 => ?_) (fun hc0 => ?_)
  · skip
    have hi : i < l.length := by
      simp only [bnA] at *
      omega
    obtain ⟨rfl, hga, hcells⟩ := hA (by omega)
    have hci := hcl i
    have hci1 := hcl (i + 1)
    refine j_q (qs_ixn (g := ga) (off := off) (i := i) Tryz.underlying26 sz53 rfl rfl (by omega)) ?_
    refine j_q (qs_loadrecw (encA := encO) (rs := l) (d := o0) (i := i) encO_len (rd_cells hcells (by simp)) hi Tryz.underlying53 rfl sz53 rfl) ?_
    refine j_alloc zero53 (fun g8 hg8 hs8 => ?_)
    refine j_storew (vs := encO (l.getD i o0)) 0 sz53 rfl rfl (encO_len _) (encO_one _) rfl rfl ?_
    refine j_q (qs_gtr rfl rfl) ?_
    refine j_cond rfl (fun hc1 => ?_) (fun hc1 => ?_)
    · skip
      have h0 : ¬ i = 0 := by
        simp only [bnA] at *
        omega
      have hstep := cms_step g (d := o0) hi
      rw [if_neg h0] at hstep
      rw [hstep] at hci1
      simp only [List.length_append, List.length_cons] at hci1
      refine j_call 1 ent116 rfl rfl rfl rfl (fun w' hw' => writeByte_con g1 (some ⟨g1, 0, none⟩) (.inr rfl) bv cb _ 44 (by decide) hob (by simp only [List.length_append, List.length_cons, List.length_nil]; omega) w') (fun u S2 hu => ?_)
      obtain ⟨rfl, bv2, cb2, rfl, hob2⟩ := hu
      refine j_q (qs_loadw (l := encO (l.getD i o0)) 1 Tryz.underlying53 rfl sz53 rfl rfl (encO_len _)) ?_
      refine j_q (qs_callf (v := .string (bs (g (l.getD i o0)))) hen rfl rfl rfl (fun w' hw' => hf i hi _ w' hw')) ?_
      refine j_call 0 ent115 rfl rfl rfl rfl (fun w' hw' => writeString_con g1 (some ⟨g1, 0, none⟩) (.inr rfl) bv2 cb2 _ (g (l.getD i o0)) hob2 (by simp only [List.length_append, List.length_cons, List.length_nil]; omega) w') (fun u S2 hu => ?_)
      obtain ⟨rfl, bv3, cb3, rfl, hob3⟩ := hu
      have hob4 : Sx.Own 5 1 (ints (o ++ cms ((l.take (i + 1)).map g))) bv3 cb3 := by
        rw [hstep]
        have e : o ++ cms ((l.take i).map g) ++ [by8 44] ++ (g (l.getD i o0)) = o ++ (cms ((l.take i).map g) ++ (44 :: (g (l.getD i o0)))) := by rw [show by8 44 = (44 : UInt8) from rfl]; simp
        rw [← e]
        exact hob3
      refine j_subl (S' := [((g1, .cells [.pointer (some ⟨g1, 0, none⟩), bv3].toArray 169 (0, 0)) :: cb3)]) (by repeat first | exact slR _ | exact slN _ | apply slC | apply slD) ?_
      refine j_q (qs_add64 rfl rfl (by first | omega | (simp only [bnA] at *; omega))) ?_
      refine j_back rfl ?_
      exact ⟨l.length - (i + 1), by omega, i + 1, bv3, cb3, rfl, rfl, hob4, by omega, rfl⟩
    · skip
      have h0 : i = 0 := by
        simp only [bnA] at *
        omega
      have hstep := cms_step g (d := o0) hi
      rw [if_pos h0] at hstep
      rw [hstep] at hci1
      have hcm0 : cms ((l.take i).map g) = [] := by
        rw [h0, List.take_zero]
        unfold cms
        rfl
      refine j_q (qs_loadw (l := encO (l.getD i o0)) 0 Tryz.underlying53 rfl sz53 rfl rfl (encO_len _)) ?_
      refine j_q (qs_callf (v := .string (bs (g (l.getD i o0)))) hen rfl rfl rfl (fun w' hw' => hf i hi _ w' hw')) ?_
      refine j_call 1 ent115 rfl rfl rfl rfl (fun w' hw' => writeString_con g1 (some ⟨g1, 0, none⟩) (.inr rfl) bv cb _ (g (l.getD i o0)) hob (by simp only [List.length_append, List.length_cons, List.length_nil]; omega) w') (fun u S2 hu => ?_)
      obtain ⟨rfl, bv3, cb3, rfl, hob3⟩ := hu
      have hob4 : Sx.Own 5 1 (ints (o ++ cms ((l.take (i + 1)).map g))) bv3 cb3 := by
        rw [hstep]
        rw [hcm0, List.append_nil] at hob3
        exact hob3
      refine j_subl (S' := [((g1, .cells [.pointer (some ⟨g1, 0, none⟩), bv3].toArray 169 (0, 0)) :: cb3)]) (by repeat first | exact slR _ | exact slN _ | apply slC | apply slD) ?_
      refine j_q (qs_add64 rfl rfl (by first | omega | (simp only [bnA] at *; omega))) ?_
      refine j_back rfl ?_
      exact ⟨l.length - (i + 1), by omega, i + 1, bv3, cb3, rfl, rfl, hob4, by omega, rfl⟩
  · skip
    obtain rfl : i = l.length := by
      simp only [bnA] at *
      omega
    rw [List.take_length] at hob
    refine j_call 0 ent115 rfl rfl rfl rfl (fun w' hw' => writeString_con g1 (some ⟨g1, 0, none⟩) (.inr rfl) bv cb _ c hob (by simp only [List.length_append, List.length_cons, List.length_nil]; omega) w') (fun u S2 hu => ?_)
    obtain ⟨rfl, bv2, cb2, rfl, hob2⟩ := hu
    refine j_call 0 ent117 rfl rfl rfl rfl (fun w' hw' => string_con g1 _ bv2 cb2 _ (by simp [ho0]) (by simp only [List.length_append, List.length_cons, List.length_nil]; omega) hob2 w') (fun u S2 hu => ?_)
    obtain ⟨rfl, rfl⟩ := hu
    refine j_ret_con (vs := [_]) (fun w' hw' => ⟨rfl, trivial⟩) ?_
    rfl
theorem listI_con (l : List MI) (v : Value) (o c : Bs) (f : Nat) (g : MI → Bs) (w : World) (hv : RSlN 2 w v (l.map encI).flatten l.length) (hone : ∀ i, i < l.length → ∀ u ∈ encI (l.getD i m0), oneV u = true) (hen : Sx.Enters Tryz.prog f) (hf : ∀ i, i < l.length → ∀ S w', Sig ⟨w, dom []⟩ S w' → Con Tryz.prog f [.agg (encI (l.getD i m0)).toArray] w' [] fun u _ => u = .string (bs (g (l.getD i m0)))) (ho0 : o ≠ []) (hn : l.length ≤ 1099511627776) (hlen : (lst o (l.map g) c).length ≤ 1099511627776) : Con Tryz.prog 70 [.string (bs o), v, .func (.func f) #[] #[], .string (bs c)] w [] fun u _ => u = .string (bs (lst o (l.map g) c)) := by
  refine con_of_tree mix Tryz.func70 T70_ok (by kernel_rfl) ?_
  unfold T70
  obtain ⟨A, cap, ga, off, rfl, hcap, hA⟩ := rsln_form hv
  have hcl := cms_take_le g l
  have hlen2 := hlen
  simp only [lst, List.length_append] at hlen2
  refine j_q (qs_ac) ?_
  refine j_alloc zero169 (fun g1 hg1 hs1 => ?_)
  refine j_call 0 ent115 rfl rfl rfl rfl (fun w' hw' => writeString_con g1 none (.inl rfl) (.slice none 0 0) [] [] o own_nil (by simp; omega) w') (fun u S2 hu => ?_)
  obtain ⟨rfl, bv, cb, rfl, hob⟩ := hu
  rw [List.nil_append] at hob
  refine j_subl (S' := [((g1, .cells [.pointer (some ⟨g1, 0, none⟩), bv].toArray 169 (0, 0)) :: cb)]) (by repeat first | exact slR _ | exact slN _ | apply slC | apply slD) ?_
  refine j_q (qs_lenl Tryz.underlying24 rfl) ?_
  refine j_q (qs_mc) ?_
  refine j_loop (fun m vs S' => ∃ (i : Nat) (bv : Value) (cb : SH), vs = [.int .i64 (i : Int)] ∧ S' = [((g1, .cells [.pointer (some ⟨g1, 0, none⟩), bv].toArray 169 (0, 0)) :: cb)] ∧ Sx.Own 5 1 (ints (o ++ cms ((l.take i).map g))) bv cb ∧ i ≤ l.length ∧ m = l.length - i) ⟨_, 0, bv, cb, rfl, rfl, by rw [List.take_zero, show cms (([] : List _).map g) = [] by unfold cms; rfl, List.append_nil]; exact hob, Nat.zero_le _, rfl⟩ ?_
  rintro m vs S' hlen ⟨i, bv, cb, rfl, rfl, hob, hin, rfl⟩
  refine j_q (qs_lss rfl rfl) ?_
  refine j_cond rfl (fun hc0 => ?_) (fun hc0 => ?_)
  · skip
    have hi : i < l.length := by
      simp only [bnA] at *
      omega
    obtain ⟨rfl, hga, hcells⟩ := hA (by omega)
    have hci := hcl i
    have hci1 := hcl (i + 1)
    refine j_q (qs_ixn (g := ga) (off := off) (i := i) Tryz.underlying24 sz68 rfl rfl (by omega)) ?_
    refine j_q (qs_loadrecw (encA := encI) (rs := l) (d := m0) (i := i) encI_len (rd_cells hcells (by simp)) hi Tryz.underlying68 rfl sz68 rfl) ?_
    refine j_alloc zero68 (fun g8 hg8 hs8 => ?_)
    refine j_storew (vs := encI (l.getD i m0)) 0 sz68 rfl rfl (encI_len _) (hone i hi) rfl rfl ?_
    refine j_q (qs_gtr rfl rfl) ?_
    refine j_cond rfl (fun hc1 => ?_) (fun hc1 => ?_)
    · skip
      have h0 : ¬ i = 0 := by
        simp only [bnA] at *
        omega
      have hstep := cms_step g (d := m0) hi
      rw [if_neg h0] at hstep
      rw [hstep] at hci1
      simp only [List.length_append, List.length_cons] at hci1
      refine j_call 1 ent116 rfl rfl rfl rfl (fun w' hw' => writeByte_con g1 (some ⟨g1, 0, none⟩) (.inr rfl) bv cb _ 44 (by decide) hob (by simp only [List.length_append, List.length_cons, List.length_nil]; omega) w') (fun u S2 hu => ?_)
      obtain ⟨rfl, bv2, cb2, rfl, hob2⟩ := hu
      refine j_q (qs_loadw (l := encI (l.getD i m0)) 1 Tryz.underlying68 rfl sz68 rfl rfl (encI_len _)) ?_
      refine j_q (qs_callf (v := .string (bs (g (l.getD i m0)))) hen rfl rfl rfl (fun w' hw' => hf i hi _ w' hw')) ?_
      refine j_call 0 ent115 rfl rfl rfl rfl (fun w' hw' => writeString_con g1 (some ⟨g1, 0, none⟩) (.inr rfl) bv2 cb2 _ (g (l.getD i m0)) hob2 (by simp only [List.length_append, List.length_cons, List.length_nil]; omega) w') (fun u S2 hu => ?_)
      obtain ⟨rfl, bv3, cb3, rfl, hob3⟩ := hu
      have hob4 : Sx.Own 5 1 (ints (o ++ cms ((l.take (i + 1)).map g))) bv3 cb3 := by
        rw [hstep]
        have e : o ++ cms ((l.take i).map g) ++ [by8 44] ++ (g (l.getD i m0)) = o ++ (cms ((l.take i).map g) ++ (44 :: (g (l.getD i m0)))) := by rw [show by8 44 = (44 : UInt8) from rfl]; simp
        rw [← e]
        exact hob3
      refine j_subl (S' := [((g1, .cells [.pointer (some ⟨g1, 0, none⟩), bv3].toArray 169 (0, 0)) :: cb3)]) (by repeat first | exact slR _ | exact slN _ | apply slC | apply slD) ?_
      refine j_q (qs_add64 rfl rfl (by first | omega | (simp only [bnA] at *; omega))) ?_
      refine j_back rfl ?_
      exact ⟨l.length - (i + 1), by omega, i + 1, bv3, cb3, rfl, rfl, hob4, by omega, rfl⟩
    · skip
      have h0 : i = 0 := by
        simp only [bnA] at *
        omega
      have hstep := cms_step g (d := m0) hi
      rw [if_pos h0] at hstep
      rw [hstep] at hci1
      have hcm0 : cms ((l.take i).map g) = [] := by
        rw [h0, List.take_zero]
        unfold cms
        rfl
      refine j_q (qs_loadw (l := encI (l.getD i m0)) 0 Tryz.underlying68 rfl sz68 rfl rfl (encI_len _)) ?_
      refine j_q (qs_callf (v := .string (bs (g (l.getD i m0)))) hen rfl rfl rfl (fun w' hw' => hf i hi _ w' hw')) ?_
      refine j_call 1 ent115 rfl rfl rfl rfl (fun w' hw' => writeString_con g1 (some ⟨g1, 0, none⟩) (.inr rfl) bv cb _ (g (l.getD i m0)) hob (by simp only [List.length_append, List.length_cons, List.length_nil]; omega) w') (fun u S2 hu => ?_)
      obtain ⟨rfl, bv3, cb3, rfl, hob3⟩ := hu
      have hob4 : Sx.Own 5 1 (ints (o ++ cms ((l.take (i + 1)).map g))) bv3 cb3 := by
        rw [hstep]
        rw [hcm0, List.append_nil] at hob3
        exact hob3
      refine j_subl (S' := [((g1, .cells [.pointer (some ⟨g1, 0, none⟩), bv3].toArray 169 (0, 0)) :: cb3)]) (by repeat first | exact slR _ | exact slN _ | apply slC | apply slD) ?_
      refine j_q (qs_add64 rfl rfl (by first | omega | (simp only [bnA] at *; omega))) ?_
      refine j_back rfl ?_
      exact ⟨l.length - (i + 1), by omega, i + 1, bv3, cb3, rfl, rfl, hob4, by omega, rfl⟩
  · skip
    obtain rfl : i = l.length := by
      simp only [bnA] at *
      omega
    rw [List.take_length] at hob
    refine j_call 0 ent115 rfl rfl rfl rfl (fun w' hw' => writeString_con g1 (some ⟨g1, 0, none⟩) (.inr rfl) bv cb _ c hob (by simp only [List.length_append, List.length_cons, List.length_nil]; omega) w') (fun u S2 hu => ?_)
    obtain ⟨rfl, bv2, cb2, rfl, hob2⟩ := hu
    refine j_call 0 ent117 rfl rfl rfl rfl (fun w' hw' => string_con g1 _ bv2 cb2 _ (by simp [ho0]) (by simp only [List.length_append, List.length_cons, List.length_nil]; omega) hob2 w') (fun u S2 hu => ?_)
    obtain ⟨rfl, rfl⟩ := hu
    refine j_ret_con (vs := [_]) (fun w' hw' => ⟨rfl, trivial⟩) ?_
    rfl
theorem listV_con (l : List PV) (v : Value) (o c : Bs) (f : Nat) (g : PV → Bs) (w : World) (hv : RSlN 2 w v (l.map encV).flatten l.length) (hen : Sx.Enters Tryz.prog f) (hf : ∀ i, i < l.length → ∀ S w', Sig ⟨w, dom []⟩ S w' → Con Tryz.prog f [.agg (encV (l.getD i v0)).toArray] w' [] fun u _ => u = .string (bs (g (l.getD i v0)))) (ho0 : o ≠ []) (hn : l.length ≤ 1099511627776) (hlen : (lst o (l.map g) c).length ≤ 1099511627776) : Con Tryz.prog 73 [.string (bs o), v, .func (.func f) #[] #[], .string (bs c)] w [] fun u _ => u = .string (bs (lst o (l.map g) c)) := by
  refine con_of_tree mix Tryz.func73 T73_ok (by kernel_rfl) ?_
  unfold T73
  obtain ⟨A, cap, ga, off, rfl, hcap, hA⟩ := rsln_form hv
  have hcl := cms_take_le g l
  have hlen2 := hlen
  simp only [lst, List.length_append] at hlen2
  refine j_q (qs_ac) ?_
  refine j_alloc zero169 (fun g1 hg1 hs1 => ?_)
  refine j_call 0 ent115 rfl rfl rfl rfl (fun w' hw' => writeString_con g1 none (.inl rfl) (.slice none 0 0) [] [] o own_nil (by simp; omega) w') (fun u S2 hu => ?_)
  obtain ⟨rfl, bv, cb, rfl, hob⟩ := hu
  rw [List.nil_append] at hob
  refine j_subl (S' := [((g1, .cells [.pointer (some ⟨g1, 0, none⟩), bv].toArray 169 (0, 0)) :: cb)]) (by repeat first | exact slR _ | exact slN _ | apply slC | apply slD) ?_
  refine j_q (qs_lenl Tryz.underlying23 rfl) ?_
  refine j_q (qs_mc) ?_
  refine j_loop (fun m vs S' => ∃ (i : Nat) (bv : Value) (cb : SH), vs = [.int .i64 (i : Int)] ∧ S' = [((g1, .cells [.pointer (some ⟨g1, 0, none⟩), bv].toArray 169 (0, 0)) :: cb)] ∧ Sx.Own 5 1 (ints (o ++ cms ((l.take i).map g))) bv cb ∧ i ≤ l.length ∧ m = l.length - i) ⟨_, 0, bv, cb, rfl, rfl, by rw [List.take_zero, show cms (([] : List _).map g) = [] by unfold cms; rfl, List.append_nil]; exact hob, Nat.zero_le _, rfl⟩ ?_
  rintro m vs S' hlen ⟨i, bv, cb, rfl, rfl, hob, hin, rfl⟩
  refine j_q (qs_lss rfl rfl) ?_
  refine j_cond rfl (fun hc0 => ?_) (fun hc0 => ?_)
  · skip
    have hi : i < l.length := by
      simp only [bnA] at *
      omega
    obtain ⟨rfl, hga, hcells⟩ := hA (by omega)
    have hci := hcl i
    have hci1 := hcl (i + 1)
    refine j_q (qs_ixn (g := ga) (off := off) (i := i) Tryz.underlying23 sz48 rfl rfl (by omega)) ?_
    refine j_q (qs_loadrecw (encA := encV) (rs := l) (d := v0) (i := i) encV_len (rd_cells hcells (by simp)) hi Tryz.underlying48 rfl sz48 rfl) ?_
    refine j_alloc zero48 (fun g8 hg8 hs8 => ?_)
    refine j_storew (vs := encV (l.getD i v0)) 0 sz48 rfl rfl (encV_len _) (encV_one _) rfl rfl ?_
    refine j_q (qs_gtr rfl rfl) ?_
    refine j_cond rfl (fun hc1 => ?_) (fun hc1 => ?_)
    · skip
      have h0 : ¬ i = 0 := by
        simp only [bnA] at *
        omega
      have hstep := cms_step g (d := v0) hi
      rw [if_neg h0] at hstep
      rw [hstep] at hci1
      simp only [List.length_append, List.length_cons] at hci1
      refine j_call 1 ent116 rfl rfl rfl rfl (fun w' hw' => writeByte_con g1 (some ⟨g1, 0, none⟩) (.inr rfl) bv cb _ 44 (by decide) hob (by simp only [List.length_append, List.length_cons, List.length_nil]; omega) w') (fun u S2 hu => ?_)
      obtain ⟨rfl, bv2, cb2, rfl, hob2⟩ := hu
      refine j_q (qs_loadw (l := encV (l.getD i v0)) 1 Tryz.underlying48 rfl sz48 rfl rfl (encV_len _)) ?_
      refine j_q (qs_callf (v := .string (bs (g (l.getD i v0)))) hen rfl rfl rfl (fun w' hw' => hf i hi _ w' hw')) ?_
      refine j_call 0 ent115 rfl rfl rfl rfl (fun w' hw' => writeString_con g1 (some ⟨g1, 0, none⟩) (.inr rfl) bv2 cb2 _ (g (l.getD i v0)) hob2 (by simp only [List.length_append, List.length_cons, List.length_nil]; omega) w') (fun u S2 hu => ?_)
      obtain ⟨rfl, bv3, cb3, rfl, hob3⟩ := hu
      have hob4 : Sx.Own 5 1 (ints (o ++ cms ((l.take (i + 1)).map g))) bv3 cb3 := by
        rw [hstep]
        have e : o ++ cms ((l.take i).map g) ++ [by8 44] ++ (g (l.getD i v0)) = o ++ (cms ((l.take i).map g) ++ (44 :: (g (l.getD i v0)))) := by rw [show by8 44 = (44 : UInt8) from rfl]; simp
        rw [← e]
        exact hob3
      refine j_subl (S' := [((g1, .cells [.pointer (some ⟨g1, 0, none⟩), bv3].toArray 169 (0, 0)) :: cb3)]) (by repeat first | exact slR _ | exact slN _ | apply slC | apply slD) ?_
      refine j_q (qs_add64 rfl rfl (by first | omega | (simp only [bnA] at *; omega))) ?_
      refine j_back rfl ?_
      exact ⟨l.length - (i + 1), by omega, i + 1, bv3, cb3, rfl, rfl, hob4, by omega, rfl⟩
    · skip
      have h0 : i = 0 := by
        simp only [bnA] at *
        omega
      have hstep := cms_step g (d := v0) hi
      rw [if_pos h0] at hstep
      rw [hstep] at hci1
      have hcm0 : cms ((l.take i).map g) = [] := by
        rw [h0, List.take_zero]
        unfold cms
        rfl
      refine j_q (qs_loadw (l := encV (l.getD i v0)) 0 Tryz.underlying48 rfl sz48 rfl rfl (encV_len _)) ?_
      refine j_q (qs_callf (v := .string (bs (g (l.getD i v0)))) hen rfl rfl rfl (fun w' hw' => hf i hi _ w' hw')) ?_
      refine j_call 1 ent115 rfl rfl rfl rfl (fun w' hw' => writeString_con g1 (some ⟨g1, 0, none⟩) (.inr rfl) bv cb _ (g (l.getD i v0)) hob (by simp only [List.length_append, List.length_cons, List.length_nil]; omega) w') (fun u S2 hu => ?_)
      obtain ⟨rfl, bv3, cb3, rfl, hob3⟩ := hu
      have hob4 : Sx.Own 5 1 (ints (o ++ cms ((l.take (i + 1)).map g))) bv3 cb3 := by
        rw [hstep]
        rw [hcm0, List.append_nil] at hob3
        exact hob3
      refine j_subl (S' := [((g1, .cells [.pointer (some ⟨g1, 0, none⟩), bv3].toArray 169 (0, 0)) :: cb3)]) (by repeat first | exact slR _ | exact slN _ | apply slC | apply slD) ?_
      refine j_q (qs_add64 rfl rfl (by first | omega | (simp only [bnA] at *; omega))) ?_
      refine j_back rfl ?_
      exact ⟨l.length - (i + 1), by omega, i + 1, bv3, cb3, rfl, rfl, hob4, by omega, rfl⟩
  · skip
    obtain rfl : i = l.length := by
      simp only [bnA] at *
      omega
    rw [List.take_length] at hob
    refine j_call 0 ent115 rfl rfl rfl rfl (fun w' hw' => writeString_con g1 (some ⟨g1, 0, none⟩) (.inr rfl) bv cb _ c hob (by simp only [List.length_append, List.length_cons, List.length_nil]; omega) w') (fun u S2 hu => ?_)
    obtain ⟨rfl, bv2, cb2, rfl, hob2⟩ := hu
    refine j_call 0 ent117 rfl rfl rfl rfl (fun w' hw' => string_con g1 _ bv2 cb2 _ (by simp [ho0]) (by simp only [List.length_append, List.length_cons, List.length_nil]; omega) hob2 w') (fun u S2 hu => ?_)
    obtain ⟨rfl, rfl⟩ := hu
    refine j_ret_con (vs := [_]) (fun w' hw' => ⟨rfl, trivial⟩) ?_
    rfl
theorem listS_con (l : List Bs) (v : Value) (o c : Bs) (f : Nat) (g : Bs → Bs) (w : World) (hv : StrZ w v l) (hen : Sx.Enters Tryz.prog f) (hf : ∀ i, i < l.length → ∀ S w', Sig ⟨w, dom []⟩ S w' → Con Tryz.prog f [.string (bs (l.getD i []))] w' [] fun u _ => u = .string (bs (g (l.getD i [])))) (ho0 : o ≠ []) (hn : l.length ≤ 1099511627776) (hlen : (lst o (l.map g) c).length ≤ 1099511627776) : Con Tryz.prog 118 [.string (bs o), v, .func (.func f) #[] #[], .string (bs c)] w [] fun u _ => u = .string (bs (lst o (l.map g) c)) := by
  refine con_of_tree mix Tryz.func118 T118_ok (by kernel_rfl) ?_
  unfold T118
  obtain ⟨A, cap, rfl, hcap⟩ := strz_form hv
  have hcl := cms_take_le g l
  have hlen2 := hlen
  simp only [lst, List.length_append] at hlen2
  refine j_q (qs_ac) ?_
  refine j_alloc zero169 (fun g1 hg1 hs1 => ?_)
  refine j_call 0 ent115 rfl rfl rfl rfl (fun w' hw' => writeString_con g1 none (.inl rfl) (.slice none 0 0) [] [] o own_nil (by simp; omega) w') (fun u S2 hu => ?_)
  obtain ⟨rfl, bv, cb, rfl, hob⟩ := hu
  rw [List.nil_append] at hob
  refine j_subl (S' := [((g1, .cells [.pointer (some ⟨g1, 0, none⟩), bv].toArray 169 (0, 0)) :: cb)]) (by repeat first | exact slR _ | exact slN _ | apply slC | apply slD) ?_
  refine j_q (qs_lenl Tryz.underlying22 rfl) ?_
  refine j_q (qs_mc) ?_
  refine j_loop (fun m vs S' => ∃ (i : Nat) (bv : Value) (cb : SH), vs = [.int .i64 (i : Int)] ∧ S' = [((g1, .cells [.pointer (some ⟨g1, 0, none⟩), bv].toArray 169 (0, 0)) :: cb)] ∧ Sx.Own 5 1 (ints (o ++ cms ((l.take i).map g))) bv cb ∧ i ≤ l.length ∧ m = l.length - i) ⟨_, 0, bv, cb, rfl, rfl, by rw [List.take_zero, show cms (([] : List _).map g) = [] by unfold cms; rfl, List.append_nil]; exact hob, Nat.zero_le _, rfl⟩ ?_
  rintro m vs S' hlen ⟨i, bv, cb, rfl, rfl, hob, hin, rfl⟩
  refine j_q (qs_lss rfl rfl) ?_
  refine j_cond rfl (fun hc0 => ?_) (fun hc0 => ?_)
  · skip
    have hi : i < l.length := by
      simp only [bnA] at *
      omega
    obtain ⟨ga, off, rfl, hga, hcells⟩ := strz_addr hv (by omega)
    have hci := hcl i
    have hci1 := hcl (i + 1)
    refine j_q (qs_ixl0 Tryz.underlying22 sz9 rfl rfl (by omega)) ?_
    refine j_q (qs_loadrs (rd_cells hcells (by simp)) Tryz.underlying9 rfl (by simp only [Int.toNat_natCast]; omega)) ?_
    simp only [Int.toNat_natCast]
    refine j_q (qs_gtr rfl rfl) ?_
    refine j_cond rfl (fun hc1 => ?_) (fun hc1 => ?_)
    · skip
      have h0 : ¬ i = 0 := by
        simp only [bnA] at *
        omega
      have hstep := cms_step g (d := []) hi
      rw [if_neg h0] at hstep
      rw [hstep] at hci1
      simp only [List.length_append, List.length_cons] at hci1
      refine j_call 0 ent116 rfl rfl rfl rfl (fun w' hw' => writeByte_con g1 (some ⟨g1, 0, none⟩) (.inr rfl) bv cb _ 44 (by decide) hob (by simp only [List.length_append, List.length_cons, List.length_nil]; omega) w') (fun u S2 hu => ?_)
      obtain ⟨rfl, bv2, cb2, rfl, hob2⟩ := hu
      refine j_q (qs_callf (v := .string (bs (g (l.getD i [])))) hen rfl rfl rfl (fun w' hw' => hf i hi _ w' hw')) ?_
      refine j_call 0 ent115 rfl rfl rfl rfl (fun w' hw' => writeString_con g1 (some ⟨g1, 0, none⟩) (.inr rfl) bv2 cb2 _ (g (l.getD i [])) hob2 (by simp only [List.length_append, List.length_cons, List.length_nil]; omega) w') (fun u S2 hu => ?_)
      obtain ⟨rfl, bv3, cb3, rfl, hob3⟩ := hu
      have hob4 : Sx.Own 5 1 (ints (o ++ cms ((l.take (i + 1)).map g))) bv3 cb3 := by
        rw [hstep]
        have e : o ++ cms ((l.take i).map g) ++ [by8 44] ++ (g (l.getD i [])) = o ++ (cms ((l.take i).map g) ++ (44 :: (g (l.getD i [])))) := by rw [show by8 44 = (44 : UInt8) from rfl]; simp
        rw [← e]
        exact hob3
      refine j_subl (S' := [((g1, .cells [.pointer (some ⟨g1, 0, none⟩), bv3].toArray 169 (0, 0)) :: cb3)]) (by repeat first | exact slR _ | exact slN _ | apply slC | apply slD) ?_
      refine j_q (qs_add64 rfl rfl (by first | omega | (simp only [bnA] at *; omega))) ?_
      refine j_back rfl ?_
      exact ⟨l.length - (i + 1), by omega, i + 1, bv3, cb3, rfl, rfl, hob4, by omega, rfl⟩
    · skip
      have h0 : i = 0 := by
        simp only [bnA] at *
        omega
      have hstep := cms_step g (d := []) hi
      rw [if_pos h0] at hstep
      rw [hstep] at hci1
      have hcm0 : cms ((l.take i).map g) = [] := by
        rw [h0, List.take_zero]
        unfold cms
        rfl
      refine j_q (qs_callf (v := .string (bs (g (l.getD i [])))) hen rfl rfl rfl (fun w' hw' => hf i hi _ w' hw')) ?_
      refine j_call 0 ent115 rfl rfl rfl rfl (fun w' hw' => writeString_con g1 (some ⟨g1, 0, none⟩) (.inr rfl) bv cb _ (g (l.getD i [])) hob (by simp only [List.length_append, List.length_cons, List.length_nil]; omega) w') (fun u S2 hu => ?_)
      obtain ⟨rfl, bv3, cb3, rfl, hob3⟩ := hu
      have hob4 : Sx.Own 5 1 (ints (o ++ cms ((l.take (i + 1)).map g))) bv3 cb3 := by
        rw [hstep]
        rw [hcm0, List.append_nil] at hob3
        exact hob3
      refine j_subl (S' := [((g1, .cells [.pointer (some ⟨g1, 0, none⟩), bv3].toArray 169 (0, 0)) :: cb3)]) (by repeat first | exact slR _ | exact slN _ | apply slC | apply slD) ?_
      refine j_q (qs_add64 rfl rfl (by first | omega | (simp only [bnA] at *; omega))) ?_
      refine j_back rfl ?_
      exact ⟨l.length - (i + 1), by omega, i + 1, bv3, cb3, rfl, rfl, hob4, by omega, rfl⟩
  · skip
    obtain rfl : i = l.length := by
      simp only [bnA] at *
      omega
    rw [List.take_length] at hob
    refine j_call 0 ent115 rfl rfl rfl rfl (fun w' hw' => writeString_con g1 (some ⟨g1, 0, none⟩) (.inr rfl) bv cb _ c hob (by simp only [List.length_append, List.length_cons, List.length_nil]; omega) w') (fun u S2 hu => ?_)
    obtain ⟨rfl, bv2, cb2, rfl, hob2⟩ := hu
    refine j_call 0 ent117 rfl rfl rfl rfl (fun w' hw' => string_con g1 _ bv2 cb2 _ (by simp [ho0]) (by simp only [List.length_append, List.length_cons, List.length_nil]; omega) hob2 w') (fun u S2 hu => ?_)
    obtain ⟨rfl, rfl⟩ := hu
    refine j_ret_con (vs := [_]) (fun w' hw' => ⟨rfl, trivial⟩) ?_
    rfl
theorem listP_con (l : List Bs) (v : Value) (o c : Bs) (f : Nat) (g : Bs → Bs) (w : World) (hv : StrZ w v l) (hen : Sx.Enters Tryz.prog f) (hf : ∀ i, i < l.length → ∀ S w', Sig ⟨w, dom []⟩ S w' → Con Tryz.prog f [.string (bs (l.getD i []))] w' [] fun u _ => u = .string (bs (g (l.getD i [])))) (ho0 : o ≠ []) (hn : l.length ≤ 1099511627776) (hlen : (lst o (l.map g) c).length ≤ 1099511627776) : Con Tryz.prog 123 [.string (bs o), v, .func (.func f) #[] #[], .string (bs c)] w [] fun u _ => u = .string (bs (lst o (l.map g) c)) := by
  refine con_of_tree mix Tryz.func123 T123_ok (by kernel_rfl) ?_
  unfold T123
  obtain ⟨A, cap, rfl, hcap⟩ := strz_form hv
  have hcl := cms_take_le g l
  have hlen2 := hlen
  simp only [lst, List.length_append] at hlen2
  refine j_q (qs_ac) ?_
  refine j_alloc zero169 (fun g1 hg1 hs1 => ?_)
  refine j_call 0 ent115 rfl rfl rfl rfl (fun w' hw' => writeString_con g1 none (.inl rfl) (.slice none 0 0) [] [] o own_nil (by simp; omega) w') (fun u S2 hu => ?_)
  obtain ⟨rfl, bv, cb, rfl, hob⟩ := hu
  rw [List.nil_append] at hob
  refine j_subl (S' := [((g1, .cells [.pointer (some ⟨g1, 0, none⟩), bv].toArray 169 (0, 0)) :: cb)]) (by repeat first | exact slR _ | exact slN _ | apply slC | apply slD) ?_
  refine j_q (qs_lenl Tryz.underlying25 rfl) ?_
  refine j_q (qs_mc) ?_
  refine j_loop (fun m vs S' => ∃ (i : Nat) (bv : Value) (cb : SH), vs = [.int .i64 (i : Int)] ∧ S' = [((g1, .cells [.pointer (some ⟨g1, 0, none⟩), bv].toArray 169 (0, 0)) :: cb)] ∧ Sx.Own 5 1 (ints (o ++ cms ((l.take i).map g))) bv cb ∧ i ≤ l.length ∧ m = l.length - i) ⟨_, 0, bv, cb, rfl, rfl, by rw [List.take_zero, show cms (([] : List _).map g) = [] by unfold cms; rfl, List.append_nil]; exact hob, Nat.zero_le _, rfl⟩ ?_
  rintro m vs S' hlen ⟨i, bv, cb, rfl, rfl, hob, hin, rfl⟩
  refine j_q (qs_lss rfl rfl) ?_
  refine j_cond rfl (fun hc0 => ?_) (fun hc0 => ?_)
  · skip
    have hi : i < l.length := by
      simp only [bnA] at *
      omega
    obtain ⟨ga, off, rfl, hga, hcells⟩ := strz_addr hv (by omega)
    have hci := hcl i
    have hci1 := hcl (i + 1)
    refine j_q (qs_ixl0 Tryz.underlying25 sz49 rfl rfl (by omega)) ?_
    refine j_q (qs_loadrs (rd_cells hcells (by simp)) Tryz.underlying49 rfl (by simp only [Int.toNat_natCast]; omega)) ?_
    simp only [Int.toNat_natCast]
    refine j_q (qs_gtr rfl rfl) ?_
    refine j_cond rfl (fun hc1 => ?_) (fun hc1 => ?_)
    · skip
      have h0 : ¬ i = 0 := by
        simp only [bnA] at *
        omega
      have hstep := cms_step g (d := []) hi
      rw [if_neg h0] at hstep
      rw [hstep] at hci1
      simp only [List.length_append, List.length_cons] at hci1
      refine j_call 0 ent116 rfl rfl rfl rfl (fun w' hw' => writeByte_con g1 (some ⟨g1, 0, none⟩) (.inr rfl) bv cb _ 44 (by decide) hob (by simp only [List.length_append, List.length_cons, List.length_nil]; omega) w') (fun u S2 hu => ?_)
      obtain ⟨rfl, bv2, cb2, rfl, hob2⟩ := hu
      refine j_q (qs_callf (v := .string (bs (g (l.getD i [])))) hen rfl rfl rfl (fun w' hw' => hf i hi _ w' hw')) ?_
      refine j_call 0 ent115 rfl rfl rfl rfl (fun w' hw' => writeString_con g1 (some ⟨g1, 0, none⟩) (.inr rfl) bv2 cb2 _ (g (l.getD i [])) hob2 (by simp only [List.length_append, List.length_cons, List.length_nil]; omega) w') (fun u S2 hu => ?_)
      obtain ⟨rfl, bv3, cb3, rfl, hob3⟩ := hu
      have hob4 : Sx.Own 5 1 (ints (o ++ cms ((l.take (i + 1)).map g))) bv3 cb3 := by
        rw [hstep]
        have e : o ++ cms ((l.take i).map g) ++ [by8 44] ++ (g (l.getD i [])) = o ++ (cms ((l.take i).map g) ++ (44 :: (g (l.getD i [])))) := by rw [show by8 44 = (44 : UInt8) from rfl]; simp
        rw [← e]
        exact hob3
      refine j_subl (S' := [((g1, .cells [.pointer (some ⟨g1, 0, none⟩), bv3].toArray 169 (0, 0)) :: cb3)]) (by repeat first | exact slR _ | exact slN _ | apply slC | apply slD) ?_
      refine j_q (qs_add64 rfl rfl (by first | omega | (simp only [bnA] at *; omega))) ?_
      refine j_back rfl ?_
      exact ⟨l.length - (i + 1), by omega, i + 1, bv3, cb3, rfl, rfl, hob4, by omega, rfl⟩
    · skip
      have h0 : i = 0 := by
        simp only [bnA] at *
        omega
      have hstep := cms_step g (d := []) hi
      rw [if_pos h0] at hstep
      rw [hstep] at hci1
      have hcm0 : cms ((l.take i).map g) = [] := by
        rw [h0, List.take_zero]
        unfold cms
        rfl
      refine j_q (qs_callf (v := .string (bs (g (l.getD i [])))) hen rfl rfl rfl (fun w' hw' => hf i hi _ w' hw')) ?_
      refine j_call 0 ent115 rfl rfl rfl rfl (fun w' hw' => writeString_con g1 (some ⟨g1, 0, none⟩) (.inr rfl) bv cb _ (g (l.getD i [])) hob (by simp only [List.length_append, List.length_cons, List.length_nil]; omega) w') (fun u S2 hu => ?_)
      obtain ⟨rfl, bv3, cb3, rfl, hob3⟩ := hu
      have hob4 : Sx.Own 5 1 (ints (o ++ cms ((l.take (i + 1)).map g))) bv3 cb3 := by
        rw [hstep]
        rw [hcm0, List.append_nil] at hob3
        exact hob3
      refine j_subl (S' := [((g1, .cells [.pointer (some ⟨g1, 0, none⟩), bv3].toArray 169 (0, 0)) :: cb3)]) (by repeat first | exact slR _ | exact slN _ | apply slC | apply slD) ?_
      refine j_q (qs_add64 rfl rfl (by first | omega | (simp only [bnA] at *; omega))) ?_
      refine j_back rfl ?_
      exact ⟨l.length - (i + 1), by omega, i + 1, bv3, cb3, rfl, rfl, hob4, by omega, rfl⟩
  · skip
    obtain rfl : i = l.length := by
      simp only [bnA] at *
      omega
    rw [List.take_length] at hob
    refine j_call 0 ent115 rfl rfl rfl rfl (fun w' hw' => writeString_con g1 (some ⟨g1, 0, none⟩) (.inr rfl) bv cb _ c hob (by simp only [List.length_append, List.length_cons, List.length_nil]; omega) w') (fun u S2 hu => ?_)
    obtain ⟨rfl, bv2, cb2, rfl, hob2⟩ := hu
    refine j_call 0 ent117 rfl rfl rfl rfl (fun w' hw' => string_con g1 _ bv2 cb2 _ (by simp [ho0]) (by simp only [List.length_append, List.length_cons, List.length_nil]; omega) hob2 w') (fun u S2 hu => ?_)
    obtain ⟨rfl, rfl⟩ := hu
    refine j_ret_con (vs := [_]) (fun w' hw' => ⟨rfl, trivial⟩) ?_
    rfl
end Go.Proofs.YtfeabbeebkkhaaaGreat
/-! Dv5 -/
namespace Go.Proofs.YtfeabbeebkkhaaaGreat
open Go Go.Sx
set_option maxRecDepth 100000
set_option maxHeartbeats 4000000
set_option linter.unusedVariables false
set_option linter.unusedSimpArgs false
attribute [local irreducible] J JQ QS Con W opW
theorem ent54 : Sx.Enters Tryz.prog 54 := ⟨_, Tryz.func54, by kernel_rfl, by kernel_rfl⟩
theorem ent66 : Sx.Enters Tryz.prog 66 := ⟨_, Tryz.func66, by kernel_rfl, by kernel_rfl⟩
theorem ent67 : Sx.Enters Tryz.prog 67 := ⟨_, Tryz.func67, by kernel_rfl, by kernel_rfl⟩
theorem ent68 : Sx.Enters Tryz.prog 68 := ⟨_, Tryz.func68, by kernel_rfl, by kernel_rfl⟩
theorem ent69 : Sx.Enters Tryz.prog 69 := ⟨_, Tryz.func69, by kernel_rfl, by kernel_rfl⟩
theorem ent70 : Sx.Enters Tryz.prog 70 := ⟨_, Tryz.func70, by kernel_rfl, by kernel_rfl⟩
theorem ent71 : Sx.Enters Tryz.prog 71 := ⟨_, Tryz.func71, by kernel_rfl, by kernel_rfl⟩
theorem ent72 : Sx.Enters Tryz.prog 72 := ⟨_, Tryz.func72, by kernel_rfl, by kernel_rfl⟩
theorem ent73 : Sx.Enters Tryz.prog 73 := ⟨_, Tryz.func73, by kernel_rfl, by kernel_rfl⟩
theorem ent74 : Sx.Enters Tryz.prog 74 := ⟨_, Tryz.func74, by kernel_rfl, by kernel_rfl⟩
theorem ent75 : Sx.Enters Tryz.prog 75 := ⟨_, Tryz.func75, by kernel_rfl, by kernel_rfl⟩
theorem ent118 : Sx.Enters Tryz.prog 118 := ⟨_, Tryz.func118, by kernel_rfl, by kernel_rfl⟩
theorem ent119 : Sx.Enters Tryz.prog 119 := ⟨_, Tryz.func119, by kernel_rfl, by kernel_rfl⟩
theorem ent122 : Sx.Enters Tryz.prog 122 := ⟨_, Tryz.func122, by kernel_rfl, by kernel_rfl⟩
theorem ent123 : Sx.Enters Tryz.prog 123 := ⟨_, Tryz.func123, by kernel_rfl, by kernel_rfl⟩
theorem ent124 : Sx.Enters Tryz.prog 124 := ⟨_, Tryz.func124, by kernel_rfl, by kernel_rfl⟩
theorem sz4 : (Tryz.prog.info? 4).map (·.size) = some 1 := by kernel_rfl
theorem mem_sum {α : Type} (f : α → Nat) {l : List α} {x : α} (h : x ∈ l) : f x ≤ (l.map f).sum := by
  induction l with
  | nil => cases h
  | cons a l ih =>
    rw [List.map_cons, List.sum_cons]
    rcases List.mem_cons.1 h with rfl | h
    · omega
    · have := ih h
      omega
theorem getD_mem {α : Type} {l : List α} {i : Nat} {d : α} (h : i < l.length) : l.getD i d ∈ l := by
  rw [List.getD_eq_getElem?_getD, List.getElem?_eq_getElem h]
  exact List.getElem_mem h
structure Few (d : PD) : Prop where
  nm : d.name.length ≤ 200000
  sy : d.sys.length ≤ 200000
  bl : d.bld.length ≤ 200000
  ar : ∀ x ∈ d.args, x.length ≤ 200000
  ev : ∀ x ∈ d.env, x.name.length + x.val.length ≤ 200000
  ip : ∀ x ∈ d.ins, x.drv.length + 10 * x.outs.length ≤ 200000
  ou : ∀ x ∈ d.outs, x.name.length + x.path.length ≤ 200000
  sr : ∀ x ∈ d.srcs, x.length ≤ 200000
  la : d.args.length ≤ 200000
  le : d.env.length ≤ 200000
  li : d.ins.length ≤ 200000
  lo : d.outs.length ≤ 200000
  ls : d.srcs.length ≤ 200000
theorem few_of {d : PD} (h : big2 d ≤ 200000) : Few d := by
  unfold big2 big1 at h
  refine ⟨by omega, by omega, by omega, fun x hx => ?_, fun x hx => ?_, fun x hx => ?_, fun x hx => ?_, fun x hx => ?_, by omega, by omega, by omega, by omega, by omega⟩
  · have := mem_sum List.length hx; unfold sl at h; omega
  · have := mem_sum (fun v : PV => v.name.length + v.val.length) hx; omega
  · have := mem_sum (fun x : PI => x.drv.length + 10 * x.outs.length) hx; omega
  · have := mem_sum (fun o : PO => o.name.length + o.path.length) hx; omega
  · have := mem_sum List.length hx; unfold sl at h; omega
theorem map_idB (l : List Bs) : l.map (fun s => s) = l := List.map_id' l
theorem lst_tTs (l : List Bs) : lst [91] (l.map qt) [93] = tTs l := rfl
attribute [local irreducible] es qt cms hex Tbl Half lst
theorem tuple1_con (s : Bs) (w : World) : Con Tryz.prog 119 [.string (bs s)] w [] fun v _ => v = .string (bs s) := by
  refine con_of_tree mix Tryz.func119 T119_ok (by kernel_rfl) ?_
  unfold T119
  refine j_q (qs_ac) ?_
  refine j_ret_con (vs := [_]) (fun w' hw' => ⟨rfl, trivial⟩) ?_
  rfl
theorem texts122_con (s : Bs) (w : World) (hs : s.length ≤ 1099511627776) : Con Tryz.prog 122 [.string (bs s)] w [] fun v _ => v = .string (bs (qt s)) := by
  refine con_of_tree mix Tryz.func122 T122_ok (by kernel_rfl) ?_
  unfold T122
  refine j_q (qs_ac) ?_
  refine j_q (qs_call ent69 rfl rfl rfl (fun w' hw' => quote_con s w' (by omega))) ?_
  refine j_ret_con (vs := [_]) (fun w' hw' => ⟨rfl, trivial⟩) ?_
  rfl
theorem texts124_con (s : Bs) (w : World) (hs : s.length ≤ 1099511627776) : Con Tryz.prog 124 [.string (bs s)] w [] fun v _ => v = .string (bs (qt s)) := by
  refine con_of_tree mix Tryz.func124 T124_ok (by kernel_rfl) ?_
  unfold T124
  refine j_q (qs_ac) ?_
  refine j_q (qs_call ent69 rfl rfl rfl (fun w' hw' => quote_con s w' (by omega))) ?_
  refine j_ret_con (vs := [_]) (fun w' hw' => ⟨rfl, trivial⟩) ?_
  rfl
theorem tuple_con (l : List Bs) (v : Value) (w : World) (hv : StrZ w v l) (hn : l.length ≤ 1000) (hl : (tup l).length ≤ 1099511627776) : Con Tryz.prog 68 [v] w [] fun u _ => u = .string (bs (tup l)) := by
  refine con_of_tree mix Tryz.func68 T68_ok (by kernel_rfl) ?_
  unfold T68
  refine j_q (qs_ac) ?_
  refine j_q (qs_call ent118 rfl rfl rfl (fun w' hw' => listS_con l _ [40] [41] 119 (fun s => s) w' (strz_keep hv hw') ent119 (fun i hi S w2 hs => tuple1_con _ w2) (by simp) (by omega) (by rw [map_idB]; exact hl))) ?_
  refine j_ret_con (vs := [_]) (fun w' hw' => ⟨rfl, trivial⟩) ?_
  rw [map_idB]
  rfl
theorem texts_72_con (l : List Bs) (v : Value) (w : World) (hv : StrZ w v l) (hm : ∀ x ∈ l, x.length ≤ 1099511627776) (hn : l.length ≤ 1000000) (hl : (tTs l).length ≤ 1099511627776) : Con Tryz.prog 72 [v] w [] fun u _ => u = .string (bs (tTs l)) := by
  refine con_of_tree mix Tryz.func72 T72_ok (by kernel_rfl) ?_
  unfold T72
  refine j_q (qs_ac) ?_
  refine j_q (qs_call ent118 rfl rfl rfl (fun w' hw' => listS_con l _ [91] [93] 122 qt w' (strz_keep hv hw') ent122 (fun i hi S w2 hs => texts122_con _ w2 (hm _ (getD_mem hi))) (by simp) (by omega) (by rw [lst_tTs]; exact hl))) ?_
  refine j_ret_con (vs := [_]) (fun w' hw' => ⟨rfl, trivial⟩) ?_
  rw [lst_tTs]
  rfl
theorem texts_75_con (l : List Bs) (v : Value) (w : World) (hv : StrZ w v l) (hm : ∀ x ∈ l, x.length ≤ 1099511627776) (hn : l.length ≤ 1000000) (hl : (tTs l).length ≤ 1099511627776) : Con Tryz.prog 75 [v] w [] fun u _ => u = .string (bs (tTs l)) := by
  refine con_of_tree mix Tryz.func75 T75_ok (by kernel_rfl) ?_
  unfold T75
  refine j_q (qs_ac) ?_
  refine j_q (qs_call ent123 rfl rfl rfl (fun w' hw' => listP_con l _ [91] [93] 124 qt w' (strz_keep hv hw') ent124 (fun i hi S w2 hs => texts124_con _ w2 (hm _ (getD_mem hi))) (by simp) (by omega) (by rw [lst_tTs]; exact hl))) ?_
  refine j_ret_con (vs := [_]) (fun w' hw' => ⟨rfl, trivial⟩) ?_
  rw [lst_tTs]
  rfl
theorem textO_con (o : PO) (w : World) (ho : o.name.length + o.path.length ≤ 1000000) : Con Tryz.prog 67 [.agg (encO o).toArray] w [] fun v _ => v = .string (bs (tO o)) := by
  refine con_of_tree mix Tryz.func67 T67_ok (by kernel_rfl) ?_
  unfold T67
  have hto := tO_le o
  have hhx : (hex o.hash.1).length = 64 := hexL _
  refine j_box (l := encO o) rfl (fun g0 hg0 hs0 => ?_)
  refine j_q (qs_ac) ?_
  refine j_q (qs_ac) ?_
  refine j_q (qs_ac) ?_
  refine j_q (qs_field Tryz.underlying53 rfl sz4 (by decide) rfl) ?_
  first
    | refine j_q (qs_load 0 Tryz.underlying4 rfl rfl rfl rfl) ?_
    | refine j_q (qs_load 1 Tryz.underlying4 rfl rfl rfl rfl) ?_
    | refine j_q (qs_load 2 Tryz.underlying4 rfl rfl rfl rfl) ?_
    | refine j_q (qs_load 3 Tryz.underlying4 rfl rfl rfl rfl) ?_
  refine j_cond rfl (fun hc0 => ?_) (fun hc0 => ?_)
  · skip
    have htoT : o.fixed = true → (tO o).length ≤ 1099511627776 := fun _ => by omega
    refine j_q (qs_field Tryz.underlying53 rfl sz51 (by decide) rfl) ?_
    refine j_q (qs_loada (i := 3) (n := 32) (l := encO o) 0 Tryz.underlying51 rfl sz51 rfl rfl (by rw [encO_len]; omega)) ?_
    rw [show ((encO o).drop 3).take 32 = ints o.hash.1 by show (ints o.hash.1).take 32 = _; rw [List.take_of_length_le (by rw [ints_length, o.hash.2]; omega)]]
    refine j_q (qs_call ent54 rfl rfl rfl (fun w' hw' => hex_con o.hash.1 w' o.hash.2)) ?_
    refine j_q (qs_ac) ?_
    refine j_draw ?_
    refine jq_q (qs_field Tryz.underlying53 rfl sz9 (by decide) rfl) ?_
    first
      | refine jq_q (qs_load 0 Tryz.underlying9 rfl rfl rfl rfl) ?_
      | refine jq_q (qs_load 1 Tryz.underlying9 rfl rfl rfl rfl) ?_
      | refine jq_q (qs_load 2 Tryz.underlying9 rfl rfl rfl rfl) ?_
      | refine jq_q (qs_load 3 Tryz.underlying9 rfl rfl rfl rfl) ?_
    refine jq_q (qs_call ent69 rfl rfl rfl (fun w' hw' => quote_con o.name w' (by first | omega | simp))) ?_
    refine jq_q (qs_field Tryz.underlying53 rfl sz49 (by decide) rfl) ?_
    first
      | refine jq_q (qs_load 0 Tryz.underlying49 rfl rfl rfl rfl) ?_
      | refine jq_q (qs_load 1 Tryz.underlying49 rfl rfl rfl rfl) ?_
      | refine jq_q (qs_load 2 Tryz.underlying49 rfl rfl rfl rfl) ?_
      | refine jq_q (qs_load 3 Tryz.underlying49 rfl rfl rfl rfl) ?_
    refine jq_q (qs_call ent69 rfl rfl rfl (fun w' hw' => quote_con o.path w' (by first | omega | simp))) ?_
    refine jq_q (qs_call ent69 rfl rfl rfl (fun w' hw' => quote_con sSha w' (by simp))) ?_
    refine jq_q (qs_call ent69 rfl rfl rfl (fun w' hw' => quote_con (hex o.hash.1) w' (by first | omega | simp))) ?_
    refine jq_nil ?_
    refine j_lit (vs := [.string (bs _), .string (bs _), .string (bs _), .string (bs _)]) Tryz.underlying22 sz9 zero9 rfl (by simp [oneV]) ⟨rfl, by decide⟩ (fun g18 v18 c18 hv18 hc18 ho18 => ?_)
    subst hv18 hc18
    refine j_q (qs_call ent68 rfl rfl rfl (fun w' hw' => tuple_con [qt o.name, qt o.path, qt sSha, qt (hex o.hash.1)] _ w' (strz_own (by exact ho18) 0 rfl hw') (by simp) (by have e := htoT hc0; unfold tO at e; rw [if_pos hc0, if_pos hc0] at e; exact e))) ?_
    refine j_ret_con (vs := [_]) (fun w' hw' => ⟨rfl, trivial⟩) ?_
    unfold tO
    rw [if_pos hc0, if_pos hc0]
    rfl
  · skip
    have htoT : o.fixed = false → (tO o).length ≤ 1099511627776 := fun _ => by omega
    refine j_draw ?_
    refine jq_q (qs_field Tryz.underlying53 rfl sz9 (by decide) rfl) ?_
    first
      | refine jq_q (qs_load 0 Tryz.underlying9 rfl rfl rfl rfl) ?_
      | refine jq_q (qs_load 1 Tryz.underlying9 rfl rfl rfl rfl) ?_
      | refine jq_q (qs_load 2 Tryz.underlying9 rfl rfl rfl rfl) ?_
      | refine jq_q (qs_load 3 Tryz.underlying9 rfl rfl rfl rfl) ?_
    refine jq_q (qs_call ent69 rfl rfl rfl (fun w' hw' => quote_con o.name w' (by first | omega | simp))) ?_
    refine jq_q (qs_field Tryz.underlying53 rfl sz49 (by decide) rfl) ?_
    first
      | refine jq_q (qs_load 0 Tryz.underlying49 rfl rfl rfl rfl) ?_
      | refine jq_q (qs_load 1 Tryz.underlying49 rfl rfl rfl rfl) ?_
      | refine jq_q (qs_load 2 Tryz.underlying49 rfl rfl rfl rfl) ?_
      | refine jq_q (qs_load 3 Tryz.underlying49 rfl rfl rfl rfl) ?_
    refine jq_q (qs_call ent69 rfl rfl rfl (fun w' hw' => quote_con o.path w' (by first | omega | simp))) ?_
    refine jq_q (qs_call ent69 rfl rfl rfl (fun w' hw' => quote_con [] w' (by first | omega | simp))) ?_
    refine jq_q (qs_call ent69 rfl rfl rfl (fun w' hw' => quote_con [] w' (by first | omega | simp))) ?_
    refine jq_nil ?_
    refine j_lit (vs := [.string (bs _), .string (bs _), .string (bs _), .string (bs _)]) Tryz.underlying22 sz9 zero9 rfl (by simp [oneV]) ⟨rfl, by decide⟩ (fun g28 v28 c28 hv28 hc28 ho28 => ?_)
    subst hv28 hc28
    refine j_q (qs_call ent68 rfl rfl rfl (fun w' hw' => tuple_con [qt o.name, qt o.path, qt [], qt []] _ w' (strz_own (by exact ho28) 0 rfl hw') (by simp) (by have e := htoT hc0; unfold tO at e; rw [if_neg (by rw [hc0]; decide), if_neg (by rw [hc0]; decide)] at e; exact e))) ?_
    refine j_ret_con (vs := [_]) (fun w' hw' => ⟨rfl, trivial⟩) ?_
    unfold tO
    rw [if_neg (by rw [hc0]; decide), if_neg (by rw [hc0]; decide)]
    rfl
theorem textI_con (m : MI) (w : World) (hs : StrZ w m.v m.outs) (h1 : m.drv.length ≤ 1000000) (h2 : ∀ x ∈ m.outs, x.length ≤ 1000000) (h3 : m.outs.length ≤ 1000000) (h4 : (tI m.pi).length ≤ 1099511627776) (h5 : (tTs m.outs).length ≤ 1099511627776) : Con Tryz.prog 71 [.agg (encI m).toArray] w [] fun v _ => v = .string (bs (tI m.pi)) := by
  refine con_of_tree mix Tryz.func71 T71_ok (by kernel_rfl) ?_
  unfold T71
  refine j_box (l := encI m) rfl (fun g0 hg0 hs0 => ?_)
  refine j_q (qs_ac) ?_
  refine j_draw ?_
  refine jq_q (qs_field Tryz.underlying68 rfl sz49 (by decide) rfl) ?_
  first
    | refine jq_q (qs_load 0 Tryz.underlying49 rfl rfl rfl rfl) ?_
    | refine jq_q (qs_load 1 Tryz.underlying49 rfl rfl rfl rfl) ?_
    | refine jq_q (qs_load 2 Tryz.underlying49 rfl rfl rfl rfl) ?_
    | refine jq_q (qs_load 3 Tryz.underlying49 rfl rfl rfl rfl) ?_
  refine jq_q (qs_call ent69 rfl rfl rfl (fun w' hw' => quote_con m.drv w' (by omega))) ?_
  refine jq_q (qs_field Tryz.underlying68 rfl sz22 (by decide) rfl) ?_
  first
    | refine jq_q (qs_load 0 Tryz.underlying22 rfl rfl rfl rfl) ?_
    | refine jq_q (qs_load 1 Tryz.underlying22 rfl rfl rfl rfl) ?_
    | refine jq_q (qs_load 2 Tryz.underlying22 rfl rfl rfl rfl) ?_
    | refine jq_q (qs_load 3 Tryz.underlying22 rfl rfl rfl rfl) ?_
  refine jq_q (qs_call ent72 rfl rfl rfl (fun w' hw' => texts_72_con m.outs m.v w' (strz_keep hs hw') (fun x hx => by have := h2 x hx; omega) h3 h5)) ?_
  refine jq_nil ?_
  refine j_lit (vs := [.string (bs _), .string (bs _)]) Tryz.underlying22 sz9 zero9 rfl (by simp [oneV]) ⟨rfl, by decide⟩ (fun g8 v8 c8 hv8 hc8 ho8 => ?_)
  subst hv8 hc8
  refine j_q (qs_call ent68 rfl rfl rfl (fun w' hw' => tuple_con [qt m.drv, tTs m.outs] _ w' (strz_own (by exact ho8) 0 rfl hw') (by simp) h4)) ?_
  refine j_ret_con (vs := [_]) (fun w' hw' => ⟨rfl, trivial⟩) ?_
  rfl
theorem textV_con (x : PV) (w : World) (h1 : x.name.length + x.val.length ≤ 1000000) : Con Tryz.prog 74 [.agg (encV x).toArray] w [] fun v _ => v = .string (bs (tV x)) := by
  refine con_of_tree mix Tryz.func74 T74_ok (by kernel_rfl) ?_
  unfold T74
  have htv := tV_le x
  refine j_box (l := encV x) rfl (fun g0 hg0 hs0 => ?_)
  refine j_q (qs_ac) ?_
  refine j_draw ?_
  refine jq_q (qs_field Tryz.underlying48 rfl sz9 (by decide) rfl) ?_
  first
    | refine jq_q (qs_load 0 Tryz.underlying9 rfl rfl rfl rfl) ?_
    | refine jq_q (qs_load 1 Tryz.underlying9 rfl rfl rfl rfl) ?_
    | refine jq_q (qs_load 2 Tryz.underlying9 rfl rfl rfl rfl) ?_
    | refine jq_q (qs_load 3 Tryz.underlying9 rfl rfl rfl rfl) ?_
  refine jq_q (qs_call ent69 rfl rfl rfl (fun w' hw' => quote_con x.name w' (by omega))) ?_
  refine jq_q (qs_field Tryz.underlying48 rfl sz9 (by decide) rfl) ?_
  first
    | refine jq_q (qs_load 0 Tryz.underlying9 rfl rfl rfl rfl) ?_
    | refine jq_q (qs_load 1 Tryz.underlying9 rfl rfl rfl rfl) ?_
    | refine jq_q (qs_load 2 Tryz.underlying9 rfl rfl rfl rfl) ?_
    | refine jq_q (qs_load 3 Tryz.underlying9 rfl rfl rfl rfl) ?_
  refine jq_q (qs_call ent69 rfl rfl rfl (fun w' hw' => quote_con x.val w' (by omega))) ?_
  refine jq_nil ?_
  refine j_lit (vs := [.string (bs _), .string (bs _)]) Tryz.underlying22 sz9 zero9 rfl (by simp [oneV]) ⟨rfl, by decide⟩ (fun g8 v8 c8 hv8 hc8 ho8 => ?_)
  subst hv8 hc8
  refine j_q (qs_call ent68 rfl rfl rfl (fun w' hw' => tuple_con [qt x.name, qt x.val] _ w' (strz_own (by exact ho8) 0 rfl hw') (by simp) (by unfold tV at htv; omega))) ?_
  refine j_ret_con (vs := [_]) (fun w' hw' => ⟨rfl, trivial⟩) ?_
  rfl
theorem dtext_con (d : PD) (x : DV) (w : World) (h : DR w d x) (tb : TB d) : Con Tryz.prog 36 [dval d x] w [] fun v _ => v = .string (bs (dtext d)) := by
  refine con_of_tree mix Tryz.func36 T36_ok (by kernel_rfl) ?_
  unfold T36
  have few := few_of tb.sm
  have hdl := dtext_le tb
  have hni : d.ins.length = x.mi.length := by rw [h.im, List.length_map]
  have tbo := tb.o
  have tbi := tb.i
  have tbe := tb.e
  have tbs := tb.s
  have tba := tb.a
  have few1 := few.nm
  have few2 := few.sy
  have few3 := few.bl
  have few4 := few.la
  have few5 := few.le
  have few6 := few.li
  have few7 := few.lo
  have few8 := few.ls
  have hmem : ∀ i, i < x.mi.length → (x.mi.getD i m0).pi ∈ d.ins := fun i hi => by rw [h.im]; exact List.mem_map_of_mem (getD_mem hi)
  have hmap : d.ins.map tI = x.mi.map (fun m => tI m.pi) := by rw [h.im, List.map_map]; rfl
  refine j_box (l := dcells d x) rfl (fun g0 hg0 hs0 => ?_)
  refine j_q (qs_ac) ?_
  refine j_q (qs_field Tryz.underlying28 rfl sz26 (by decide) rfl) ?_
  first
    | refine j_q (qs_load 0 Tryz.underlying26 rfl rfl rfl rfl) ?_
    | refine j_q (qs_load 1 Tryz.underlying26 rfl rfl rfl rfl) ?_
    | refine j_q (qs_load 2 Tryz.underlying26 rfl rfl rfl rfl) ?_
    | refine j_q (qs_load 3 Tryz.underlying26 rfl rfl rfl rfl) ?_
  refine j_q (qs_call ent66 rfl rfl rfl (fun w' hw' => listO_con d.outs x.vo [91] [93] 67 tO w' (rsln_keep h.o hw') ent67 (fun i hi S w2 hs => textO_con _ w2 (by have := few.ou _ (getD_mem (d := o0) hi); omega)) (by simp) (by omega) (by omega))) ?_
  refine j_q (qs_field Tryz.underlying28 rfl sz24 (by decide) rfl) ?_
  first
    | refine j_q (qs_load 0 Tryz.underlying24 rfl rfl rfl rfl) ?_
    | refine j_q (qs_load 1 Tryz.underlying24 rfl rfl rfl rfl) ?_
    | refine j_q (qs_load 2 Tryz.underlying24 rfl rfl rfl rfl) ?_
    | refine j_q (qs_load 3 Tryz.underlying24 rfl rfl rfl rfl) ?_
  refine j_q (qs_call ent70 rfl rfl rfl (fun w' hw' => listI_con x.mi x.vi [91] [93] 71 (fun m => tI m.pi) w' (rsln_keep h.i hw') (fun i hi => MI.one (h.io _ (getD_mem hi))) ent71 (fun i hi S w2 hs => textI_con _ w2 (strz_keep (strz_keep (h.io _ (getD_mem hi)) hw') hs) (by have := few.ip _ (hmem i hi); simp only [MI.pi] at this; omega) (fun y hy => by have := tb.out _ (hmem i hi) y hy; omega) (by have := few.ip _ (hmem i hi); simp only [MI.pi] at this; omega) (by have := tI_le _ (tb.out _ (hmem i hi)); have := few.ip _ (hmem i hi); omega) (by have h1 := tTs_le (x.mi.getD i m0).outs; have h2 := sl_le80 (tb.out _ (hmem i hi)); have h3 := few.ip _ (hmem i hi); simp only [MI.pi] at h2 h3; omega)) (by simp) (by omega) (by rw [← hmap]; omega))) ?_
  rw [← hmap]
  refine j_q (qs_field Tryz.underlying28 rfl sz23 (by decide) rfl) ?_
  first
    | refine j_q (qs_load 0 Tryz.underlying23 rfl rfl rfl rfl) ?_
    | refine j_q (qs_load 1 Tryz.underlying23 rfl rfl rfl rfl) ?_
    | refine j_q (qs_load 2 Tryz.underlying23 rfl rfl rfl rfl) ?_
    | refine j_q (qs_load 3 Tryz.underlying23 rfl rfl rfl rfl) ?_
  refine j_q (qs_call ent73 rfl rfl rfl (fun w' hw' => listV_con d.env x.ve [91] [93] 74 tV w' (rsln_keep h.e hw') ent74 (fun i hi S w2 hs => textV_con _ w2 (by have := few.ev _ (getD_mem (d := v0) hi); omega)) (by simp) (by omega) (by omega))) ?_
  refine j_draw ?_
  refine jq_q (qs_field Tryz.underlying28 rfl sz9 (by decide) rfl) ?_
  first
    | refine jq_q (qs_load 0 Tryz.underlying9 rfl rfl rfl rfl) ?_
    | refine jq_q (qs_load 1 Tryz.underlying9 rfl rfl rfl rfl) ?_
    | refine jq_q (qs_load 2 Tryz.underlying9 rfl rfl rfl rfl) ?_
    | refine jq_q (qs_load 3 Tryz.underlying9 rfl rfl rfl rfl) ?_
  refine jq_q (qs_call ent69 rfl rfl rfl (fun w' hw' => quote_con d.name w' (by omega))) ?_
  refine jq_q (qs_field Tryz.underlying28 rfl sz25 (by decide) rfl) ?_
  first
    | refine jq_q (qs_load 0 Tryz.underlying25 rfl rfl rfl rfl) ?_
    | refine jq_q (qs_load 1 Tryz.underlying25 rfl rfl rfl rfl) ?_
    | refine jq_q (qs_load 2 Tryz.underlying25 rfl rfl rfl rfl) ?_
    | refine jq_q (qs_load 3 Tryz.underlying25 rfl rfl rfl rfl) ?_
  refine jq_q (qs_call ent75 rfl rfl rfl (fun w' hw' => texts_75_con d.srcs x.vs w' (strz_keep h.s hw') (fun y hy => by have := few.sr y hy; omega) (by omega) (by omega))) ?_
  refine jq_q (qs_field Tryz.underlying28 rfl sz9 (by decide) rfl) ?_
  first
    | refine jq_q (qs_load 0 Tryz.underlying9 rfl rfl rfl rfl) ?_
    | refine jq_q (qs_load 1 Tryz.underlying9 rfl rfl rfl rfl) ?_
    | refine jq_q (qs_load 2 Tryz.underlying9 rfl rfl rfl rfl) ?_
    | refine jq_q (qs_load 3 Tryz.underlying9 rfl rfl rfl rfl) ?_
  refine jq_q (qs_call ent69 rfl rfl rfl (fun w' hw' => quote_con d.sys w' (by omega))) ?_
  refine jq_q (qs_field Tryz.underlying28 rfl sz9 (by decide) rfl) ?_
  first
    | refine jq_q (qs_load 0 Tryz.underlying9 rfl rfl rfl rfl) ?_
    | refine jq_q (qs_load 1 Tryz.underlying9 rfl rfl rfl rfl) ?_
    | refine jq_q (qs_load 2 Tryz.underlying9 rfl rfl rfl rfl) ?_
    | refine jq_q (qs_load 3 Tryz.underlying9 rfl rfl rfl rfl) ?_
  refine jq_q (qs_call ent69 rfl rfl rfl (fun w' hw' => quote_con d.bld w' (by omega))) ?_
  refine jq_q (qs_field Tryz.underlying28 rfl sz22 (by decide) rfl) ?_
  first
    | refine jq_q (qs_load 0 Tryz.underlying22 rfl rfl rfl rfl) ?_
    | refine jq_q (qs_load 1 Tryz.underlying22 rfl rfl rfl rfl) ?_
    | refine jq_q (qs_load 2 Tryz.underlying22 rfl rfl rfl rfl) ?_
    | refine jq_q (qs_load 3 Tryz.underlying22 rfl rfl rfl rfl) ?_
  refine jq_q (qs_call ent72 rfl rfl rfl (fun w' hw' => texts_72_con d.args x.va w' (strz_keep h.a hw') (fun y hy => by have := few.ar y hy; omega) (by omega) (by omega))) ?_
  refine jq_nil ?_
  refine j_lit (vs := [.string (bs _), .string (bs _), .string (bs _), .string (bs _), .string (bs _), .string (bs _), .string (bs _), .string (bs _)]) Tryz.underlying22 sz9 zero9 rfl (by simp [oneV]) ⟨rfl, by decide⟩ (fun g26 v26 c26 hv26 hc26 ho26 => ?_)
  subst hv26 hc26
  refine j_q (qs_call ent68 rfl rfl rfl (fun w' hw' => tuple_con [qt d.name, lst [91] (d.outs.map tO) [93], lst [91] (d.ins.map tI) [93], tTs d.srcs, qt d.sys, qt d.bld, tTs d.args, lst [91] (d.env.map tV) [93]] _ w' (strz_own (by exact ho26) 0 rfl hw') (by simp) (by unfold dtext at hdl; rw [List.length_append] at hdl; omega))) ?_
  refine j_q (qs_sadd (l := sDerive) rfl rfl (by unfold dtext at hdl; rw [List.length_append] at hdl; omega)) ?_
  refine j_ret_con (vs := [_]) (fun w' hw' => ⟨rfl, trivial⟩) ?_
  rfl
end Go.Proofs.YtfeabbeebkkhaaaGreat
/-! Dv6 -/
namespace Go.Proofs.YtfeabbeebkkhaaaGreat
open Go Go.Sx
set_option maxRecDepth 100000
set_option maxHeartbeats 4000000
set_option linter.unusedVariables false
set_option linter.unusedSimpArgs false
attribute [local irreducible] J JQ QS Con W opW
theorem ent41 : Sx.Enters Tryz.prog 41 := ⟨_, Tryz.func41, by kernel_rfl, by kernel_rfl⟩
theorem ent78 : Sx.Enters Tryz.prog 78 := ⟨_, Tryz.func78, by kernel_rfl, by kernel_rfl⟩
theorem ent79 : Sx.Enters Tryz.prog 79 := ⟨_, Tryz.func79, by kernel_rfl, by kernel_rfl⟩
theorem ent125 : Sx.Enters Tryz.prog 125 := ⟨_, Tryz.func125, by kernel_rfl, by kernel_rfl⟩
theorem ent146 : Sx.Enters Tryz.prog 146 := ⟨_, Tryz.func146, by kernel_rfl, by kernel_rfl⟩
theorem qs_ixm {P : Program} {env : Env} {b : Base} {S : List SH} {ty t e : TypeId} {x y : Operand} {n c sz g off i : Nat} {k : IntKind} {m : Int} (ht : P.underlying t = some (.slice e)) (hz : (P.info? e).map (·.size) = some sz) (hx : ev env x = .slice (some ⟨g, off, none⟩) n c) (hy : ev env y = .int k m) (hm : m = (i : Int)) (h : i < n) :
    QS P (O (.indexAddr t x y) ty) env b S (.pointer (some ⟨g, off + i * sz, none⟩)) := qs_ixn ht hz hx (by rw [hy, hm]) h
theorem gt0 (i : Nat) : decide ((i : Int) > 0) = decide (0 < i) := by
  rw [Bool.eq_iff_iff, decide_eq_true_eq, decide_eq_true_eq]
  omega
theorem suf4 {n : Bs} (h : isName n = true) : (decide (4 ≤ n.length) && (n.drop (n.length - 4) == sDrv)) = (decide (4 < n.length) && (n.drop (n.length - 4) == sDrv)) := by
  by_cases h4 : n.length = 4
  · have hne : (n.drop (n.length - 4) == sDrv) = false := by
      rw [h4, Nat.sub_self, List.drop_zero, beq_eq_false_iff_ne]
      rintro rfl
      revert h
      decide
    rw [hne, Bool.and_false, Bool.and_false]
  · congr 1
    rw [Bool.eq_iff_iff, decide_eq_true_eq, decide_eq_true_eq]
    omega
theorem isPath_name {p : Bs} (h : isPath p = true) : isName (p.drop 33) = true := by
  simp only [isPath, Bool.and_eq_true] at h
  exact h.1.2
theorem chkO_name {l : List PO} {i : Nat} (h : isName (l.getD i o0).name = false) : chkO l i = 9 := by unfold chkO; rw [h]; rfl
theorem chkO_bad {l : List PO} {i : Nat} (h : isName (l.getD i o0).name = true) (hb : badO l i = true) : chkO l i = 3 := by unfold chkO; rw [h, hb]; rfl
theorem chkO_ok {l : List PO} {i : Nat} (h : isName (l.getD i o0).name = true) (hb : badO l i = false) : chkO l i = 0 := by unfold chkO; rw [h, hb]; rfl
theorem chkOuts_at {l : List PO} {i : Nat} {e : Int} (hn : ¬ (l.length < 1 ∨ 16 < l.length)) (hz : ∀ j < i, chkO l j = 0) (hi : i < l.length) (h : chkO l i = e) (he : e ≠ 0) : chkOuts l = e := by
  unfold chkOuts
  rw [if_neg hn, firstE_at hz hi (by rw [h]; exact he), h]
theorem chkN_name {l : List Bs} {i : Nat} (h : isName (l.getD i []) = false) : chkN l i = 9 := by unfold chkN; rw [h]; rfl
theorem chkN_at {l : List Bs} {i : Nat} {b : Bool} (h : isName (l.getD i []) = true) (hb : (decide (0 < i) && (Op.bytesLess (l.getD i []) (l.getD (i - 1) []) || l.getD i [] == l.getD (i - 1) [])) = b) : chkN l i = if b then 3 else 0 := by
  have hb2 : (decide (0 < i) && leB (l.getD i []) (l.getD (i - 1) [])) = b := hb
  unfold chkN
  rw [h, hb2]
  rfl
abbrev badI (l : List PI) (i : Nat) : Bool := !isDrvP (l.getD i i0).drv || (decide (0 < i) && leB (l.getD i i0).drv (l.getD (i - 1) i0).drv) || (l.getD i i0).outs.length == 0
theorem chkI_bad {l : List PI} {i : Nat} (h : badI l i = true) : chkI l i = 3 := by unfold chkI; rw [if_pos h]
theorem chkI_in {l : List PI} {i : Nat} (h : badI l i = false) : chkI l i = firstE (chkN (l.getD i i0).outs) (l.getD i i0).outs.length := by unfold chkI; rw [if_neg (by unfold badI at h; rw [h]; decide)]
theorem getD_pi (l : List MI) (i : Nat) : (l.map MI.pi).getD i i0 = (l.getD i m0).pi := by
  rw [List.getD_eq_getElem?_getD, List.getD_eq_getElem?_getD, List.getElem?_map]
  cases l[i]? <;> rfl
section
variable {l : List PO} {i : Nat}
abbrev bo1 (l : List PO) (i : Nat) : Bool := decide (0 < i) && (Op.bytesLess (l.getD i o0).name (l.getD (i - 1) o0).name || (l.getD i o0).name == (l.getD (i - 1) o0).name)
abbrev bo2 (l : List PO) (i : Nat) : Bool := !((l.getD i o0).path == []) && !isPath (l.getD i o0).path
abbrev bo3 (l : List PO) (i : Nat) : Bool := (l.getD i o0).fixed && (decide ((l.length : Int) > 1) || !((l.getD i o0).name == sOut))
abbrev bo4 (l : List PO) (i : Nat) : Bool := !(l.getD i o0).fixed && !((l.getD i o0).hash.1 == List.replicate 32 0)
theorem badO_eq : badO l i = (bo1 l i || bo2 l i || bo3 l i || bo4 l i) := by
  have h : decide ((l.length : Int) > 1) = decide (1 < l.length) := by
    rw [Bool.eq_iff_iff, decide_eq_true_eq, decide_eq_true_eq]
    omega
  unfold badO leB bo1 bo2 bo3 bo4
  rw [h]
theorem badO_1 (h : bo1 l i = true) : badO l i = true := by rw [badO_eq, h]; rfl
theorem badO_2 (h : bo2 l i = true) : badO l i = true := by rw [badO_eq, h, Bool.or_true]; rfl
theorem badO_3 (h : bo3 l i = true) : badO l i = true := by rw [badO_eq, h, Bool.or_true]; rfl
theorem badO_4 (h : bo4 l i = true) : badO l i = true := by rw [badO_eq, h, Bool.or_true]
theorem badO_0 (h1 : bo1 l i = false) (h2 : bo2 l i = false) (h3 : bo3 l i = false) (h4 : bo4 l i = false) : badO l i = false := by rw [badO_eq, h1, h2, h3, h4]; rfl
end
theorem bi_eq {l : List MI} {i : Nat} : (!isDrvP (l.getD i m0).drv || (decide ((i : Int) > 0) && (Op.bytesLess (l.getD i m0).drv (l.getD (i - 1) m0).drv || (l.getD i m0).drv == (l.getD (i - 1) m0).drv)) || (((l.getD i m0).outs.length : Int) == 0)) = badI (l.map MI.pi) i := by
  have h : (((l.getD i m0).outs.length : Int) == 0) = ((l.getD i m0).outs.length == 0) := by
    rw [Bool.eq_iff_iff, beq_iff_eq, beq_iff_eq]
    omega
  unfold badI leB
  rw [gt0, getD_pi, getD_pi, h]
  rfl
attribute [local irreducible] es qt cms hex Tbl Half lst isName isPath isDrvP leB chkO chkOuts chkN chkI chkIns firstE spA spB spE
theorem disPath_con (p : Bs) (w : World) (hp : p.length ≤ 9223372036854775807) : Con Tryz.prog 41 [.string (bs p)] w [] fun v _ => v = .bool (isPath p) := by
  refine con_of_tree mix Tryz.func41 T41_ok (by kernel_rfl) ?_
  unfold T41
  refine j_q (qs_ac) ?_
  refine j_q (qs_call ent79 rfl rfl rfl (fun w' hw' => split_con p w' hp)) ?_
  unfold spl
  refine j_q (qs_ext (vs := [.string (bs (spA p)), .string (bs (spB p)), .int .i64 (spE p)]) rfl rfl) ?_
  refine j_q (qs_ext (vs := [.string (bs (spA p)), .string (bs (spB p)), .int .i64 (spE p)]) rfl rfl) ?_
  refine j_q (qs_ext (vs := [.string (bs (spA p)), .string (bs (spB p)), .int .i64 (spE p)]) rfl rfl) ?_
  refine j_q (qs_eql rfl rfl) ?_
  refine j_ret_con (vs := [_]) (fun w' hw' => ⟨rfl, trivial⟩) ?_
  show Value.bool _ = _
  congr 1
  unfold spE
  cases isPath p <;> rfl
theorem hasSuf0_con (s t : Bs) (w : World) (hs : s.length ≤ 9223372036854775807) (ht : t.length ≤ 9223372036854775807) : Con Tryz.prog 146 [.string (bs s), .string (bs t)] w [] fun v _ => v = .bool (decide (t.length ≤ s.length) && (s.drop (s.length - t.length) == t)) := by
  refine con_of_tree mix Tryz.func146 T146_ok (by kernel_rfl) ?_
  unfold T146
  refine j_q (qs_ac) ?_
  refine j_q (qs_lens Tryz.underlying9 rfl) ?_
  refine j_q (qs_lens Tryz.underlying9 rfl) ?_
  refine j_q (qs_geq rfl rfl) ?_
  refine j_g rfl (fun hb => qs_mt rfl) ?_
  refine j_g rfl (fun hb => qs_mt rfl) ?_
  refine j_g rfl (fun hb => qs_lens Tryz.underlying9 (gd_eq hb)) ?_
  refine j_g rfl (fun hb => qs_mt rfl) ?_
  refine j_g rfl (fun hb => qs_lens Tryz.underlying9 (gd_eq hb)) ?_
  refine j_g rfl (fun hb => qs_sub64 (gd_eq hb) (gd_eq hb) (by first | omega | (simp only [bnA] at *; omega))) ?_
  refine j_g rfl (fun hb => qs_cuts (a := s.length - t.length) (z := s.length) Tryz.underlying9 (gd_eq hb) ⟨.i64, (gd_eq hb).trans (congrArg (Value.int .i64) (by simp only [bnA] at *; omega))⟩ rfl (by omega) (by omega)) ?_
  rw [List.take_length]
  refine j_g rfl (fun hb => qs_mt rfl) ?_
  refine j_g rfl (fun hb => qs_seql (gd_eq hb) (gd_eq hb)) ?_
  refine j_q (qs_and rfl rfl) ?_
  refine j_ret_con (vs := [_]) (fun w' hw' => ⟨rfl, trivial⟩) ?_
  show Value.bool _ = _
  congr 2
  rw [Bool.eq_iff_iff, decide_eq_true_eq, decide_eq_true_eq]
  omega
theorem hasSuf_con (s t : Bs) (w : World) (hs : s.length ≤ 9223372036854775807) (ht : t.length ≤ 9223372036854775807) : Con Tryz.prog 125 [.string (bs s), .string (bs t)] w [] fun v _ => v = .bool (decide (t.length ≤ s.length) && (s.drop (s.length - t.length) == t)) := by
  refine con_of_tree mix Tryz.func125 T125_ok (by kernel_rfl) ?_
  unfold T125
  refine j_q (qs_ac) ?_
  refine j_q (qs_call ent146 rfl rfl rfl (fun w' hw' => hasSuf0_con s t w' hs ht)) ?_
  refine j_ret_con (vs := [_]) (fun w' hw' => ⟨rfl, trivial⟩) ?_
  rfl
theorem isDrv_con (p : Bs) (w : World) (hp : p.length ≤ 9223372036854775807) : Con Tryz.prog 78 [.string (bs p)] w [] fun v _ => v = .bool (isDrvP p) := by
  refine con_of_tree mix Tryz.func78 T78_ok (by kernel_rfl) ?_
  unfold T78
  refine j_q (qs_ac) ?_
  refine j_q (qs_call ent79 rfl rfl rfl (fun w' hw' => split_con p w' hp)) ?_
  unfold spl
  refine j_q (qs_ext (vs := [.string (bs (spA p)), .string (bs (spB p)), .int .i64 (spE p)]) rfl rfl) ?_
  refine j_q (qs_ext (vs := [.string (bs (spA p)), .string (bs (spB p)), .int .i64 (spE p)]) rfl rfl) ?_
  refine j_q (qs_ext (vs := [.string (bs (spA p)), .string (bs (spB p)), .int .i64 (spE p)]) rfl rfl) ?_
  refine j_q (qs_eql rfl rfl) ?_
  refine j_g rfl (fun hb => qs_mt rfl) ?_
  refine j_g rfl (fun hb => qs_call ent125 rfl rfl (args2 (gd_eq hb) rfl) (fun w' hw' => hasSuf_con (spB p) sDrv w' (by unfold spB; split <;> simp <;> omega) (by simp))) ?_
  refine j_q (qs_and rfl rfl) ?_
  refine j_ret_con (vs := [_]) (fun w' hw' => ⟨rfl, trivial⟩) ?_
  show Value.bool _ = _
  congr 1
  unfold spE spB isDrvP
  cases hp : isPath p
  · rfl
  · rw [if_pos rfl, if_pos rfl, show sDrv.length = 4 from rfl, suf4 (isPath_name hp)]
    rfl
theorem outputs_con (l : List PO) (v : Value) (w : World) (hv : RSlN 35 w v (l.map encO).flatten l.length) (hl : ∀ x ∈ l, x.name.length ≤ 1000000 ∧ x.path.length ≤ 1000000) : Con Tryz.prog 39 [v] w [] fun u _ => u = .int .i64 (chkOuts l) := by
  refine con_of_tree mix Tryz.func39 T39_ok (by kernel_rfl) ?_
  unfold T39
  obtain ⟨A, cap, ga, off, rfl, hcap, hA⟩ := rsln_form hv
  refine j_q (qs_ac) ?_
  refine j_q (qs_lenl Tryz.underlying26 rfl) ?_
  refine j_q (qs_lss rfl rfl) ?_
  refine j_g rfl (fun hb => qs_mt rfl) ?_
  refine j_g rfl (fun hb => qs_lenl Tryz.underlying26 (gd_eq hb)) ?_
  refine j_g rfl (fun hb => qs_gtr (gd_eq hb) rfl) ?_
  refine j_q (qs_or rfl rfl) ?_
  refine j_cond rfl (fun hc0 => ?_) (fun hc0 => ?_)
  · skip
    refine j_q (qs_ac) ?_
    refine j_ret_con (vs := [_]) (fun w' hw' => ⟨rfl, trivial⟩) ?_
    symm
    show _ = Value.int .i64 1
    congr 1
    unfold chkOuts
    rw [if_pos (by simp only [bnA] at *; omega)]
  · skip
    have hnn : ¬ (l.length < 1 ∨ 16 < l.length) := by
      simp only [bnA] at *
      omega
    refine j_q (qs_lenl Tryz.underlying26 rfl) ?_
    refine j_q (qs_mc) ?_
    refine j_loop (fun m vs S' => ∃ i : Nat, vs = [.int .i64 (i : Int)] ∧ S' = [[]] ∧ i ≤ l.length ∧ (∀ j < i, chkO l j = 0) ∧ m = l.length - i) ⟨_, 0, rfl, rfl, Nat.zero_le _, (fun j hj => absurd hj (Nat.not_lt_zero _)), rfl⟩ ?_
    rintro m vs S' hlen ⟨i, rfl, rfl, hin, hz, rfl⟩
    refine j_q (qs_lss rfl rfl) ?_
    refine j_cond rfl (fun hc1 => ?_) (fun hc1 => ?_)
    · skip
      have hi : i < l.length := by
        simp only [bnA] at *
        omega
      obtain ⟨rfl, hga, hcells⟩ := hA (by omega)
      obtain ⟨hl1, hl2⟩ := hl _ (getD_mem (d := o0) hi)
      refine j_q (qs_ixn (g := ga) (off := off) (i := i) Tryz.underlying26 sz53 rfl rfl (by omega)) ?_
      refine j_q (qs_loadrecw (encA := encO) (rs := l) (d := o0) (i := i) encO_len (rd_cells hcells (by simp)) hi Tryz.underlying53 rfl sz53 rfl) ?_
      refine j_alloc zero53 (fun g13 hg13 hs13 => ?_)
      refine j_storew (vs := encO (l.getD i o0)) 0 sz53 rfl rfl (encO_len _) (encO_one _) rfl rfl ?_
      refine j_q (qs_field Tryz.underlying53 rfl sz9 (by decide) rfl) ?_
      first
        | refine j_q (qs_load 0 Tryz.underlying9 rfl rfl rfl rfl) ?_
        | refine j_q (qs_load 1 Tryz.underlying9 rfl rfl rfl rfl) ?_
        | refine j_q (qs_load 2 Tryz.underlying9 rfl rfl rfl rfl) ?_
        | refine j_q (qs_load 3 Tryz.underlying9 rfl rfl rfl rfl) ?_
      refine j_q (qs_call ent38 rfl rfl rfl (fun w' hw' => isName_con _ w' (by omega))) ?_
      refine j_q (qs_not rfl) ?_
      refine j_cond rfl (fun hc2 => ?_) (fun hc2 => ?_)
      · skip
        have hnm : isName (l.getD i o0).name = false := by simpa using hc2
        refine j_q (qs_ac) ?_
        refine j_ret_con (vs := [_]) (fun w' hw' => ⟨rfl, trivial⟩) ?_
        symm
        show _ = Value.int .i64 9
        congr 1
        exact chkOuts_at hnn hz hi (chkO_name hnm) (by decide)
      · skip
        have hnm : isName (l.getD i o0).name = true := by simpa using hc2
        refine j_draw ?_
        refine jq_q (qs_gtr rfl rfl) ?_
        refine jq_g rfl (fun hb => qs_field Tryz.underlying53 rfl sz9 (by decide) rfl) ?_
        first
          | refine jq_g rfl (fun hb => qs_load 0 Tryz.underlying9 rfl (gd_eq hb) rfl rfl) ?_
          | refine jq_g rfl (fun hb => qs_load 1 Tryz.underlying9 rfl (gd_eq hb) rfl rfl) ?_
          | refine jq_g rfl (fun hb => qs_load 2 Tryz.underlying9 rfl (gd_eq hb) rfl rfl) ?_
          | refine jq_g rfl (fun hb => qs_load 3 Tryz.underlying9 rfl (gd_eq hb) rfl rfl) ?_
        refine jq_g rfl (fun hb => qs_mt rfl) ?_
        refine jq_g rfl (fun hb => qs_mt rfl) ?_
        refine jq_g rfl (fun hb => qs_sub64 (gd_eq hb) rfl (by first | omega | (simp only [bnA] at *; omega))) ?_
        refine jq_g rfl (fun hb => qs_ixm (g := ga) (off := off) (i := i - 1) Tryz.underlying26 sz53 (gd_eq hb) (gd_eq hb) (by simp only [bnA] at *; omega) (by omega)) ?_
        refine jq_g rfl (fun hb => qs_field Tryz.underlying53 rfl sz9 (by decide) (gd_eq hb)) ?_
        refine jq_g rfl (fun hb => qs_loadrec (v := .string (bs (l.getD (i - 1) o0).name)) (encA := encO) (rs := l) (d := o0) (i := i - 1) (fo := 0) encO_len (rd_cells hcells (by simp)) (by omega) Tryz.underlying9 rfl (gd_eq hb) rfl) ?_
        refine jq_g rfl (fun hb => qs_sleq (gd_eq hb) (gd_eq hb)) ?_
        refine jq_q (qs_and rfl rfl) ?_
        refine jq_nil ?_
        refine j_cond rfl (fun hc3 => ?_) (fun hc3 => ?_)
        · skip
          rw [gt0] at hc3
          refine j_cond rfl (fun hc4 => ?_) (fun hc4 => ?_)
          · skip
            refine j_q (qs_ac) ?_
            refine j_ret_con (vs := [_]) (fun w' hw' => ⟨rfl, trivial⟩) ?_
            symm
            show _ = Value.int .i64 3
            congr 1
            exact chkOuts_at hnn hz hi (chkO_bad hnm (badO_1 hc3)) (by decide)
          · skip
            rw [gt0, hc3] at hc4
            cases hc4
        · skip
          rw [gt0] at hc3
          refine j_q (qs_field Tryz.underlying53 rfl sz49 (by decide) rfl) ?_
          first
            | refine j_q (qs_load 0 Tryz.underlying49 rfl rfl rfl rfl) ?_
            | refine j_q (qs_load 1 Tryz.underlying49 rfl rfl rfl rfl) ?_
            | refine j_q (qs_load 2 Tryz.underlying49 rfl rfl rfl rfl) ?_
            | refine j_q (qs_load 3 Tryz.underlying49 rfl rfl rfl rfl) ?_
          refine j_q (qs_sneq rfl rfl) ?_
          refine j_g rfl (fun hb => qs_field Tryz.underlying53 rfl sz49 (by decide) rfl) ?_
          first
            | refine j_g rfl (fun hb => qs_load 0 Tryz.underlying49 rfl (gd_eq hb) rfl rfl) ?_
            | refine j_g rfl (fun hb => qs_load 1 Tryz.underlying49 rfl (gd_eq hb) rfl rfl) ?_
            | refine j_g rfl (fun hb => qs_load 2 Tryz.underlying49 rfl (gd_eq hb) rfl rfl) ?_
            | refine j_g rfl (fun hb => qs_load 3 Tryz.underlying49 rfl (gd_eq hb) rfl rfl) ?_
          refine j_g rfl (fun hb => qs_call ent41 rfl rfl (args1 (gd_eq hb)) (fun w' hw' => disPath_con _ w' (by omega))) ?_
          refine j_g rfl (fun hb => qs_not (gd_eq hb)) ?_
          refine j_q (qs_and rfl rfl) ?_
          refine j_cond rfl (fun hc8 => ?_) (fun hc8 => ?_)
          · skip
            refine j_q (qs_ac) ?_
            refine j_ret_con (vs := [_]) (fun w' hw' => ⟨rfl, trivial⟩) ?_
            symm
            show _ = Value.int .i64 3
            congr 1
            exact chkOuts_at hnn hz hi (chkO_bad hnm (badO_2 hc8)) (by decide)
          · skip
            refine j_q (qs_field Tryz.underlying53 rfl sz4 (by decide) rfl) ?_
            first
              | refine j_q (qs_load 0 Tryz.underlying4 rfl rfl rfl rfl) ?_
              | refine j_q (qs_load 1 Tryz.underlying4 rfl rfl rfl rfl) ?_
              | refine j_q (qs_load 2 Tryz.underlying4 rfl rfl rfl rfl) ?_
              | refine j_q (qs_load 3 Tryz.underlying4 rfl rfl rfl rfl) ?_
            refine j_g rfl (fun hb => qs_mt rfl) ?_
            refine j_g rfl (fun hb => qs_lenl Tryz.underlying26 (gd_eq hb)) ?_
            refine j_g rfl (fun hb => qs_gtr (gd_eq hb) rfl) ?_
            refine j_g rfl (fun hb => qs_move (gd_eq hb)) ?_
            refine j_gg rfl (fun hb hb1 => qs_field Tryz.underlying53 rfl sz9 (by decide) rfl) ?_
            first
              | refine j_gg rfl (fun hb hb1 => qs_load 0 Tryz.underlying9 rfl (gd_eq2 hb hb1) rfl rfl) ?_
              | refine j_gg rfl (fun hb hb1 => qs_load 1 Tryz.underlying9 rfl (gd_eq2 hb hb1) rfl rfl) ?_
              | refine j_gg rfl (fun hb hb1 => qs_load 2 Tryz.underlying9 rfl (gd_eq2 hb hb1) rfl rfl) ?_
              | refine j_gg rfl (fun hb hb1 => qs_load 3 Tryz.underlying9 rfl (gd_eq2 hb hb1) rfl rfl) ?_
            refine j_gg rfl (fun hb hb1 => qs_sneq (gd_eq2 hb hb1) rfl) ?_
            refine j_g rfl (fun hb => qs_or (gd_eq hb) (gd_eq hb)) ?_
            refine j_q (qs_and rfl rfl) ?_
            refine j_cond rfl (fun hc9 => ?_) (fun hc9 => ?_)
            · skip
              refine j_cond rfl (fun hc10 => ?_) (fun hc10 => ?_)
              · skip
                refine j_q (qs_ac) ?_
                refine j_ret_con (vs := [_]) (fun w' hw' => ⟨rfl, trivial⟩) ?_
                symm
                show _ = Value.int .i64 3
                congr 1
                exact chkOuts_at hnn hz hi (chkO_bad hnm (badO_3 hc9)) (by decide)
              · skip
                rw [hc9] at hc10
                cases hc10
            · skip
              refine j_q (qs_field Tryz.underlying53 rfl sz4 (by decide) rfl) ?_
              first
                | refine j_q (qs_load 0 Tryz.underlying4 rfl rfl rfl rfl) ?_
                | refine j_q (qs_load 1 Tryz.underlying4 rfl rfl rfl rfl) ?_
                | refine j_q (qs_load 2 Tryz.underlying4 rfl rfl rfl rfl) ?_
                | refine j_q (qs_load 3 Tryz.underlying4 rfl rfl rfl rfl) ?_
              refine j_q (qs_not rfl) ?_
              refine j_g rfl (fun hb => qs_field Tryz.underlying53 rfl sz51 (by decide) rfl) ?_
              refine j_g rfl (fun hb => qs_loada (i := 3) (n := 32) (l := encO (l.getD i o0)) 0 Tryz.underlying51 rfl sz51 (gd_eq hb) rfl (by rw [encO_len]; omega)) ?_
              rw [show ((encO (l.getD i o0)).drop 3).take 32 = ints (l.getD i o0).hash.1 by show (ints _).take 32 = _; rw [List.take_of_length_le (by rw [ints_length, (l.getD i o0).hash.2]; omega)]]
              refine j_g rfl (fun hb => qs_run (v := .agg (ints (List.replicate 32 0)).toArray) (fun w => by kernel_rfl)) ?_
              refine j_g rfl (fun hb => qs_ane (l := (l.getD i o0).hash.1) (m := List.replicate 32 0) Tryz.underlying51 Tryz.underlying5 (by kernel_rfl) (by kernel_rfl) (by kernel_rfl) (gd_eq hb) (gd_eq hb) (l.getD i o0).hash.2 (by simp)) ?_
              refine j_q (qs_and rfl rfl) ?_
              refine j_cond rfl (fun hc11 => ?_) (fun hc11 => ?_)
              · skip
                refine j_q (qs_ac) ?_
                refine j_ret_con (vs := [_]) (fun w' hw' => ⟨rfl, trivial⟩) ?_
                symm
                show _ = Value.int .i64 3
                congr 1
                exact chkOuts_at hnn hz hi (chkO_bad hnm (badO_4 hc11)) (by decide)
              · skip
                refine j_q (qs_add64 rfl rfl (by first | omega | (simp only [bnA] at *; omega))) ?_
                refine j_subl (S' := [[]]) (by repeat first | exact slR _ | exact slN _ | apply slC | apply slD) ?_
                refine j_back rfl ?_
                exact ⟨l.length - (i + 1), by omega, i + 1, rfl, rfl, by omega, zero_snoc hz (chkO_ok hnm (badO_0 hc3 hc8 hc9 hc11)), rfl⟩
    · skip
      obtain rfl : i = l.length := by
        simp only [bnA] at *
        omega
      refine j_q (qs_ac) ?_
      refine j_ret_con (vs := [_]) (fun w' hw' => ⟨rfl, trivial⟩) ?_
      symm
      show _ = Value.int .i64 0
      congr 1
      unfold chkOuts
      rw [if_neg hnn]
      exact firstE_zero hz
theorem inputs_con (l : List MI) (v : Value) (w : World) (hv : RSlN 2 w v (l.map encI).flatten l.length) (hio : ∀ m ∈ l, StrZ w m.v m.outs) (hl : ∀ x ∈ l, x.drv.length ≤ 1000000 ∧ x.outs.length ≤ 1000000 ∧ ∀ o ∈ x.outs, o.length ≤ 9223372036854775807) (hn : l.length ≤ 1000000) : Con Tryz.prog 40 [v] w [] fun u _ => u = .int .i64 (chkIns (l.map MI.pi)) := by
  refine con_of_tree mix Tryz.func40 T40_ok (by kernel_rfl) ?_
  unfold T40
  obtain ⟨A, cap, ga, off, rfl, hcap, hA⟩ := rsln_form hv
  refine j_q (qs_ac) ?_
  refine j_q (qs_lenl Tryz.underlying24 rfl) ?_
  refine j_q (qs_mc) ?_
  refine j_loop (fun m vs S' => ∃ i : Nat, vs = [.int .i64 (i : Int)] ∧ S' = [[]] ∧ i ≤ l.length ∧ (∀ j < i, chkI (l.map MI.pi) j = 0) ∧ m = l.length - i) ⟨_, 0, rfl, rfl, Nat.zero_le _, (fun j hj => absurd hj (Nat.not_lt_zero _)), rfl⟩ ?_
  rintro m vs S' hlen ⟨i, rfl, rfl, hin, hz, rfl⟩
  refine j_q (qs_lss rfl rfl) ?_
  refine j_cond rfl (fun hc0 => ?_) (fun hc0 => ?_)
  · skip
    have hi : i < l.length := by
      simp only [bnA] at *
      omega
    obtain ⟨rfl, hga, hcells⟩ := hA (by omega)
    obtain ⟨hl1, hl2, hl3⟩ := hl _ (getD_mem (d := m0) hi)
    have hsx := hio _ (getD_mem (d := m0) hi)
    obtain ⟨Ax, capx, hvx, hcapx⟩ := strz_form hsx
    have hone := MI.one hsx
    refine j_q (qs_ixn (g := ga) (off := off) (i := i) Tryz.underlying24 sz68 rfl rfl (by omega)) ?_
    refine j_q (qs_loadrecw (encA := encI) (rs := l) (d := m0) (i := i) encI_len (rd_cells hcells (by simp)) hi Tryz.underlying68 rfl sz68 rfl) ?_
    refine j_alloc zero68 (fun g6 hg6 hs6 => ?_)
    refine j_storew (vs := encI (l.getD i m0)) 0 sz68 rfl rfl (encI_len _) hone rfl rfl ?_
    refine j_draw ?_
    refine jq_q (qs_field Tryz.underlying68 rfl sz49 (by decide) rfl) ?_
    first
      | refine jq_q (qs_load 0 Tryz.underlying49 rfl rfl rfl rfl) ?_
      | refine jq_q (qs_load 1 Tryz.underlying49 rfl rfl rfl rfl) ?_
      | refine jq_q (qs_load 2 Tryz.underlying49 rfl rfl rfl rfl) ?_
      | refine jq_q (qs_load 3 Tryz.underlying49 rfl rfl rfl rfl) ?_
    refine jq_q (qs_call ent78 rfl rfl rfl (fun w' hw' => isDrv_con _ w' (by omega))) ?_
    refine jq_q (qs_not rfl) ?_
    refine jq_g rfl (fun hb => qs_mt rfl) ?_
    refine jq_g rfl (fun hb => qs_gtr (gd_eq hb) rfl) ?_
    refine jq_g rfl (fun hb => qs_move (gd_eq hb)) ?_
    refine jq_gg rfl (fun hb hb1 => qs_field Tryz.underlying68 rfl sz49 (by decide) rfl) ?_
    first
      | refine jq_gg rfl (fun hb hb1 => qs_load 0 Tryz.underlying49 rfl (gd_eq2 hb hb1) rfl rfl) ?_
      | refine jq_gg rfl (fun hb hb1 => qs_load 1 Tryz.underlying49 rfl (gd_eq2 hb hb1) rfl rfl) ?_
      | refine jq_gg rfl (fun hb hb1 => qs_load 2 Tryz.underlying49 rfl (gd_eq2 hb hb1) rfl rfl) ?_
      | refine jq_gg rfl (fun hb hb1 => qs_load 3 Tryz.underlying49 rfl (gd_eq2 hb hb1) rfl rfl) ?_
    refine jq_gg rfl (fun hb hb1 => qs_mt rfl) ?_
    refine jq_gg rfl (fun hb hb1 => qs_mt rfl) ?_
    refine jq_gg rfl (fun hb hb1 => qs_sub64 (gd_eq2 hb hb1) rfl (by first | omega | (simp only [bnA] at *; omega))) ?_
    refine jq_gg rfl (fun hb hb1 => qs_ixm (g := ga) (off := off) (i := i - 1) Tryz.underlying24 sz68 (gd_eq2 hb hb1) (gd_eq2 hb hb1) (by simp only [bnA] at *; omega) (by omega)) ?_
    refine jq_gg rfl (fun hb hb1 => qs_field Tryz.underlying68 rfl sz49 (by decide) (gd_eq2 hb hb1)) ?_
    refine jq_gg rfl (fun hb hb1 => qs_loadrec (v := .string (bs (l.getD (i - 1) m0).drv)) (encA := encI) (rs := l) (d := m0) (i := i - 1) (fo := 0) encI_len (rd_cells hcells (by simp)) (by omega) Tryz.underlying49 rfl (gd_eq2 hb hb1) rfl) ?_
    refine jq_gg rfl (fun hb hb1 => qs_sleq (gd_eq2 hb hb1) (gd_eq2 hb hb1)) ?_
    refine jq_g rfl (fun hb => qs_and (gd_eq hb) (gd_eq hb)) ?_
    refine jq_q (qs_or rfl rfl) ?_
    refine jq_g rfl (fun hb => qs_field Tryz.underlying68 rfl sz22 (by decide) rfl) ?_
    refine jq_g rfl (fun hb => qs_load (v := .slice Ax (l.getD i m0).outs.length capx) 0 Tryz.underlying22 rfl (gd_eq hb) rfl (congrArg some hvx)) ?_
    refine jq_g rfl (fun hb => qs_lenl Tryz.underlying22 (gd_eq hb)) ?_
    refine jq_g rfl (fun hb => qs_eql (gd_eq hb) rfl) ?_
    refine jq_q (qs_or rfl rfl) ?_
    refine jq_nil ?_
    refine j_cond rfl (fun hc1 => ?_) (fun hc1 => ?_)
    · skip
      have hbad : badI (l.map MI.pi) i = true := by
        rw [← bi_eq]
        exact hc1
      refine j_q (qs_ac) ?_
      refine j_ret_con (vs := [_]) (fun w' hw' => ⟨rfl, trivial⟩) ?_
      symm
      show _ = Value.int .i64 3
      congr 1
      unfold chkIns
      rw [List.length_map, firstE_at hz hi (by rw [chkI_bad hbad]; decide), chkI_bad hbad]
    · skip
      have hbad : badI (l.map MI.pi) i = false := by
        rw [← bi_eq]
        exact hc1
      have hci := chkI_in hbad
      rw [getD_pi] at hci
      change chkI (l.map MI.pi) i = firstE (chkN (l.getD i m0).outs) (l.getD i m0).outs.length at hci
      refine j_q (qs_field Tryz.underlying68 rfl sz22 (by decide) rfl) ?_
      refine j_q (qs_load (v := .slice Ax (l.getD i m0).outs.length capx) 0 Tryz.underlying22 rfl rfl rfl (congrArg some hvx)) ?_
      refine j_q (qs_lenl Tryz.underlying22 rfl) ?_
      refine j_q (qs_mc) ?_
      refine j_loop (fun m vs S' => ∃ k : Nat, vs = [.int .i64 (k : Int)] ∧ S' = [[(g6, .cells (encI (l.getD i m0)).toArray 68 (0, 0))], []] ∧ k ≤ (l.getD i m0).outs.length ∧ (∀ j < k, chkN (l.getD i m0).outs j = 0) ∧ m = (l.getD i m0).outs.length - k) ⟨_, 0, rfl, rfl, Nat.zero_le _, (fun j hj => absurd hj (Nat.not_lt_zero _)), rfl⟩ ?_
      rintro m vs S' hlen ⟨k, rfl, rfl, hkn, hzk, rfl⟩
      refine j_q (qs_lss rfl rfl) ?_
      refine j_cond rfl (fun hc2 => ?_) (fun hc2 => ?_)
      · skip
        have hk : k < (l.getD i m0).outs.length := by
          simp only [bnA] at *
          omega
        obtain ⟨gx, offx, rfl, hgx, hcellx⟩ := strz_addr (hvx ▸ hsx) (by omega)
        have hl4 := hl3 _ (getD_mem (d := []) hk)
        refine j_q (qs_ixl0 Tryz.underlying22 sz9 rfl rfl (by omega)) ?_
        refine j_q (qs_loadrs (rd_cells hcellx (by simp)) Tryz.underlying9 rfl (by simp only [Int.toNat_natCast]; omega)) ?_
        simp only [Int.toNat_natCast]
        refine j_q (qs_call ent38 rfl rfl rfl (fun w' hw' => isName_con _ w' (by omega))) ?_
        refine j_q (qs_not rfl) ?_
        refine j_cond rfl (fun hc3 => ?_) (fun hc3 => ?_)
        · skip
          have hnm : isName ((l.getD i m0).outs.getD k []) = false := by simpa using hc3
          refine j_q (qs_ac) ?_
          refine j_ret_con (vs := [_]) (fun w' hw' => ⟨rfl, trivial⟩) ?_
          symm
          show _ = Value.int .i64 9
          congr 1
          have h9 : chkI (l.map MI.pi) i = 9 := by rw [hci, firstE_at hzk hk (by rw [chkN_name hnm]; decide), chkN_name hnm]
          unfold chkIns
          rw [List.length_map, firstE_at hz hi (by rw [h9]; decide), h9]
        · skip
          have hnm : isName ((l.getD i m0).outs.getD k []) = true := by simpa using hc3
          refine j_q (qs_gtr rfl rfl) ?_
          refine j_g rfl (fun hb => qs_mt rfl) ?_
          refine j_g rfl (fun hb => qs_field Tryz.underlying68 rfl sz22 (by decide) rfl) ?_
          refine j_g rfl (fun hb => qs_load (v := .slice (some ⟨gx, offx, none⟩) (l.getD i m0).outs.length capx) 0 Tryz.underlying22 rfl (gd_eq hb) rfl (congrArg some hvx)) ?_
          refine j_g rfl (fun hb => qs_mt rfl) ?_
          refine j_g rfl (fun hb => qs_sub64 (gd_eq hb) rfl (by first | omega | (simp only [bnA] at *; omega))) ?_
          refine j_g rfl (fun hb => qs_ixm (g := gx) (off := offx) (i := k - 1) Tryz.underlying22 sz9 (gd_eq hb) (gd_eq hb) (by simp only [bnA] at *; omega) (by omega)) ?_
          refine j_g rfl (fun hb => qs_loadrs (i := k - 1) (rd_cells hcellx (by simp)) Tryz.underlying9 ((gd_eq hb).trans (by rw [add_off, Nat.mul_one])) (by omega)) ?_
          refine j_g rfl (fun hb => qs_sleq (gd_eq hb) (gd_eq hb)) ?_
          refine j_q (qs_and rfl rfl) ?_
          refine j_cond rfl (fun hc4 => ?_) (fun hc4 => ?_)
          · skip
            rw [gt0] at hc4
            have hck := chkN_at hnm hc4
            refine j_q (qs_ac) ?_
            refine j_ret_con (vs := [_]) (fun w' hw' => ⟨rfl, trivial⟩) ?_
            symm
            show _ = Value.int .i64 3
            congr 1
            have h9 : chkI (l.map MI.pi) i = 3 := by rw [hci, firstE_at hzk hk (by rw [hck]; decide), hck]; rfl
            unfold chkIns
            rw [List.length_map, firstE_at hz hi (by rw [h9]; decide), h9]
          · skip
            rw [gt0] at hc4
            have hck := chkN_at hnm hc4
            refine j_q (qs_add64 rfl rfl (by first | omega | (simp only [bnA] at *; omega))) ?_
            refine j_back rfl ?_
            exact ⟨(l.getD i m0).outs.length - (k + 1), by omega, k + 1, rfl, rfl, by omega, zero_snoc hzk hck, rfl⟩
      · skip
        obtain rfl : k = (l.getD i m0).outs.length := by
          simp only [bnA] at *
          omega
        have hc0' : chkI (l.map MI.pi) i = 0 := by rw [hci]; exact firstE_zero hzk
        refine j_q (qs_add64 rfl rfl (by first | omega | (simp only [bnA] at *; omega))) ?_
        refine j_subl (S' := [[]]) (by repeat first | exact slR _ | exact slN _ | apply slC | apply slD) ?_
        refine j_back rfl ?_
        exact ⟨l.length - (i + 1), by omega, i + 1, rfl, rfl, by omega, zero_snoc hz hc0', rfl⟩
  · skip
    obtain rfl : i = l.length := by
      simp only [bnA] at *
      omega
    refine j_q (qs_ac) ?_
    refine j_ret_con (vs := [_]) (fun w' hw' => ⟨rfl, trivial⟩) ?_
    symm
    show _ = Value.int .i64 0
    congr 1
    unfold chkIns
    rw [List.length_map]
    exact firstE_zero hz
end Go.Proofs.YtfeabbeebkkhaaaGreat
/-! Dv7 -/
namespace Go.Proofs.YtfeabbeebkkhaaaGreat
open Go Go.Sx
set_option maxRecDepth 100000
set_option maxHeartbeats 4000000
set_option linter.unusedVariables false
set_option linter.unusedSimpArgs false
attribute [local irreducible] J JQ QS Con W opW
theorem ent15 : Sx.Enters Tryz.prog 15 := ⟨_, Tryz.func15, by kernel_rfl, by kernel_rfl⟩
theorem ent36 : Sx.Enters Tryz.prog 36 := ⟨_, Tryz.func36, by kernel_rfl, by kernel_rfl⟩
theorem ent39 : Sx.Enters Tryz.prog 39 := ⟨_, Tryz.func39, by kernel_rfl, by kernel_rfl⟩
theorem ent40 : Sx.Enters Tryz.prog 40 := ⟨_, Tryz.func40, by kernel_rfl, by kernel_rfl⟩
theorem chkS_at {l : List Bs} {i : Nat} {b : Bool} (hb : (!isPath (l.getD i []) || (decide ((i : Int) > 0) && (Op.bytesLess (l.getD i []) (l.getD (i - 1) []) || l.getD i [] == l.getD (i - 1) []))) = b) : chkS l i = if b then 3 else 0 := by
  rw [gt0] at hb
  unfold chkS leB
  rw [hb]
theorem chkV_at {l : List PV} {i : Nat} {b : Bool} (hb : ((l.getD i v0).name == [] || (decide ((i : Int) > 0) && (Op.bytesLess (l.getD i v0).name (l.getD (i - 1) v0).name || (l.getD i v0).name == (l.getD (i - 1) v0).name))) = b) : chkV l i = if b then 3 else 0 := by
  rw [gt0] at hb
  unfold chkV leB
  rw [hb]
theorem nm_or {a b : Bool} (h : (!a || !b) = true) : (a && b) = false := by cases a <;> cases b <;> simp_all
theorem nm_and {a b : Bool} (h : (!a || !b) = false) : (a && b) = true := by cases a <;> cases b <;> simp_all
section
variable {d : PD}
theorem chk_1 (h : (isName d.name && isName (d.name ++ sDrv)) = false) : chk d = 9 := by unfold chk chk0 orE; rw [h]; rfl
theorem chk_2 {e : Int} (h : (isName d.name && isName (d.name ++ sDrv)) = true) (h2 : chkOuts d.outs = e) (he : e ≠ 0) : chk d = e := by
  unfold chk chk0
  rw [if_pos h, h2]
  unfold orE
  rw [if_neg he, if_neg he]
theorem chk_3 {e : Int} (h : (isName d.name && isName (d.name ++ sDrv)) = true) (h2 : chkOuts d.outs = 0) (h3 : chkIns d.ins = e) (he : e ≠ 0) : chk d = e := by
  unfold chk chk0
  rw [if_pos h, h2, h3]
  unfold orE
  rw [if_pos rfl, if_neg he, if_neg he]
theorem chk_4 {e : Int} (h : (isName d.name && isName (d.name ++ sDrv)) = true) (h2 : chkOuts d.outs = 0) (h3 : chkIns d.ins = 0) (h4 : firstE (chkS d.srcs) d.srcs.length = e) (he : e ≠ 0) : chk d = e := by
  unfold chk chk0
  rw [if_pos h, h2, h3, h4]
  unfold orE
  rw [if_pos rfl, if_pos rfl, if_neg he, if_neg he]
theorem chk_5 {e : Int} (h : (isName d.name && isName (d.name ++ sDrv)) = true) (h2 : chkOuts d.outs = 0) (h3 : chkIns d.ins = 0) (h4 : firstE (chkS d.srcs) d.srcs.length = 0) (h5 : firstE (chkV d.env) d.env.length = e) (he : e ≠ 0) : chk d = e := by
  unfold chk chk0
  rw [if_pos h, h2, h3, h4, h5]
  unfold orE
  rw [if_pos rfl, if_pos rfl, if_pos rfl, if_neg he]
theorem chk_6 (h : (isName d.name && isName (d.name ++ sDrv)) = true) (h2 : chkOuts d.outs = 0) (h3 : chkIns d.ins = 0) (h4 : firstE (chkS d.srcs) d.srcs.length = 0) (h5 : firstE (chkV d.env) d.env.length = 0) : chk d = if 262144 < (dtext d).length then 5 else 0 := by
  unfold chk chk0
  rw [if_pos h, h2, h3, h4, h5]
  unfold orE
  rw [if_pos rfl, if_pos rfl, if_pos rfl, if_pos rfl]
end
theorem chk_zero {d : PD} (h : chk d = 0) : chk0 d = 0 := by
  unfold chk at h
  exact (orE_zero.1 h).1
theorem tb_chk {d : PD} (h : chk d = 0) (hb : big2 d ≤ 200000) : TB d := tb_of (chk0_parts (chk_zero h)).2.2.2.1 hb
def prS (d : PD) : Bs := if chk d = 0 then dtext d else []
attribute [local irreducible] es qt cms hex Tbl Half lst isName isPath isDrvP leB chkO chkOuts chkN chkI chkIns firstE spA spB spE chkS chkV dtext chk chk0
theorem dcheck_con (d : PD) (x : DV) (w : World) (h : DR w d x) (hb : big2 d ≤ 200000) (hou : ∀ y ∈ d.ins, ∀ o ∈ y.outs, o.length ≤ 9223372036854775807) : Con Tryz.prog 15 [dval d x] w [] fun v _ => v = .int .i64 (chk d) := by
  refine con_of_tree mix Tryz.func15 T15_ok (by kernel_rfl) ?_
  unfold T15
  have few := few_of hb
  have few1 := few.nm
  have few4 := few.la
  have few5 := few.le
  have few6 := few.li
  have few7 := few.lo
  have few8 := few.ls
  have hni : d.ins.length = x.mi.length := by rw [h.im, List.length_map]
  obtain ⟨As, caps, hvs, hcaps⟩ := strz_form h.s
  obtain ⟨Ae, cape, ge, offe, hve, hcape, hAe⟩ := rsln_form h.e
  have hmem : ∀ m ∈ x.mi, m.pi ∈ d.ins := fun m hm => by rw [h.im]; exact List.mem_map_of_mem hm
  refine j_box (l := dcells d x) rfl (fun g0 hg0 hs0 => ?_)
  refine j_q (qs_ac) ?_
  refine j_q (qs_field Tryz.underlying28 rfl sz9 (by decide) rfl) ?_
  first
    | refine j_q (qs_load 0 Tryz.underlying9 rfl rfl rfl rfl) ?_
    | refine j_q (qs_load 1 Tryz.underlying9 rfl rfl rfl rfl) ?_
    | refine j_q (qs_load 2 Tryz.underlying9 rfl rfl rfl rfl) ?_
    | refine j_q (qs_load 3 Tryz.underlying9 rfl rfl rfl rfl) ?_
  refine j_q (qs_call ent38 rfl rfl rfl (fun w' hw' => isName_con d.name w' (by omega))) ?_
  refine j_q (qs_not rfl) ?_
  refine j_g rfl (fun hb => qs_field Tryz.underlying28 rfl sz9 (by decide) rfl) ?_
  first
    | refine j_g rfl (fun hb => qs_load 0 Tryz.underlying9 rfl (gd_eq hb) rfl rfl) ?_
    | refine j_g rfl (fun hb => qs_load 1 Tryz.underlying9 rfl (gd_eq hb) rfl rfl) ?_
    | refine j_g rfl (fun hb => qs_load 2 Tryz.underlying9 rfl (gd_eq hb) rfl rfl) ?_
    | refine j_g rfl (fun hb => qs_load 3 Tryz.underlying9 rfl (gd_eq hb) rfl rfl) ?_
  refine j_g rfl (fun hb1 => qs_sadd (l' := sDrv) (gd_eq hb1) rfl (by simp only [List.length_cons, List.length_nil]; omega)) ?_
  refine j_g rfl (fun hb => qs_call ent38 rfl rfl (args1 (gd_eq hb)) (fun w' hw' => isName_con (d.name ++ sDrv) w' (by simp only [List.length_append, List.length_cons, List.length_nil]; omega))) ?_
  refine j_g rfl (fun hb => qs_not (gd_eq hb)) ?_
  refine j_q (qs_or rfl rfl) ?_
  refine j_cond rfl (fun hc0 => ?_) (fun hc0 => ?_)
  · skip
    have hn0 := nm_or hc0
    refine j_q (qs_ac) ?_
    refine j_ret_con (vs := [_]) (fun w' hw' => ⟨rfl, trivial⟩) ?_
    symm
    show _ = Value.int .i64 9
    congr 1
    exact chk_1 hn0
  · skip
    have hn0 := nm_and hc0
    refine j_q (qs_field Tryz.underlying28 rfl sz26 (by decide) rfl) ?_
    first
      | refine j_q (qs_load 0 Tryz.underlying26 rfl rfl rfl rfl) ?_
      | refine j_q (qs_load 1 Tryz.underlying26 rfl rfl rfl rfl) ?_
      | refine j_q (qs_load 2 Tryz.underlying26 rfl rfl rfl rfl) ?_
      | refine j_q (qs_load 3 Tryz.underlying26 rfl rfl rfl rfl) ?_
    refine j_q (qs_call ent39 rfl rfl rfl (fun w' hw' => outputs_con d.outs x.vo w' (rsln_keep h.o hw') (fun y hy => by have := few.ou y hy; omega))) ?_
    refine j_q (qs_neq rfl rfl) ?_
    refine j_cond rfl (fun hc1 => ?_) (fun hc1 => ?_)
    · skip
      have ho1 : chkOuts d.outs ≠ 0 := by simpa using hc1
      refine j_ret_con (vs := [_]) (fun w' hw' => ⟨rfl, trivial⟩) ?_
      symm
      show _ = Value.int .i64 (chkOuts d.outs)
      congr 1
      exact chk_2 hn0 rfl ho1
    · skip
      have ho1 : chkOuts d.outs = 0 := by simpa using hc1
      refine j_q (qs_field Tryz.underlying28 rfl sz24 (by decide) rfl) ?_
      first
        | refine j_q (qs_load 0 Tryz.underlying24 rfl rfl rfl rfl) ?_
        | refine j_q (qs_load 1 Tryz.underlying24 rfl rfl rfl rfl) ?_
        | refine j_q (qs_load 2 Tryz.underlying24 rfl rfl rfl rfl) ?_
        | refine j_q (qs_load 3 Tryz.underlying24 rfl rfl rfl rfl) ?_
      refine j_q (qs_call ent40 rfl rfl rfl (fun w' hw' => inputs_con x.mi x.vi w' (rsln_keep h.i hw') (fun m hm => strz_keep (h.io m hm) hw') (fun m hm => ⟨by have := few.ip _ (hmem m hm); simp only [MI.pi] at this; omega, by have := few.ip _ (hmem m hm); simp only [MI.pi] at this; omega, hou _ (hmem m hm)⟩) (by omega))) ?_
      refine j_q (qs_neq rfl rfl) ?_
      refine j_cond rfl (fun hc2 => ?_) (fun hc2 => ?_)
      · skip
        have hi1 : chkIns d.ins ≠ 0 := by rw [h.im]; simpa using hc2
        refine j_ret_con (vs := [_]) (fun w' hw' => ⟨rfl, trivial⟩) ?_
        symm
        show _ = Value.int .i64 (chkIns (x.mi.map MI.pi))
        congr 1
        rw [← h.im]
        exact chk_3 hn0 ho1 rfl hi1
      · skip
        have hi1 : chkIns d.ins = 0 := by rw [h.im]; simpa using hc2
        refine j_q (qs_field Tryz.underlying28 rfl sz25 (by decide) rfl) ?_
        refine j_q (qs_load (l := dcells d x) (v := .slice As d.srcs.length caps) 0 Tryz.underlying25 rfl rfl rfl (congrArg some hvs)) ?_
        refine j_q (qs_lenl Tryz.underlying25 rfl) ?_
        refine j_q (qs_mc) ?_
        refine j_loop (fun m vs S' => ∃ i : Nat, vs = [.int .i64 (i : Int)] ∧ S' = [[(g0, .cells (dcells d x).toArray 28 (0, 0))], []] ∧ i ≤ d.srcs.length ∧ (∀ j < i, chkS d.srcs j = 0) ∧ m = d.srcs.length - i) ⟨_, 0, rfl, rfl, Nat.zero_le _, (fun j hj => absurd hj (Nat.not_lt_zero _)), rfl⟩ ?_
        rintro m vs S' hlen ⟨i, rfl, rfl, hin, hz, rfl⟩
        refine j_q (qs_lss rfl rfl) ?_
        refine j_cond rfl (fun hc3 => ?_) (fun hc3 => ?_)
        · skip
          have hi : i < d.srcs.length := by
            simp only [bnA] at *
            omega
          obtain ⟨gs, offs, rfl, hgs, hcells⟩ := strz_addr (hvs ▸ h.s) (by omega)
          have hsl := few.sr _ (getD_mem (d := []) hi)
          refine j_q (qs_ixl0 Tryz.underlying25 sz49 rfl rfl (by omega)) ?_
          refine j_q (qs_loadrs (rd_cells hcells (by simp)) Tryz.underlying49 rfl (by simp only [Int.toNat_natCast]; omega)) ?_
          simp only [Int.toNat_natCast]
          refine j_q (qs_call ent41 rfl rfl rfl (fun w' hw' => disPath_con _ w' (by omega))) ?_
          refine j_q (qs_not rfl) ?_
          refine j_g rfl (fun hb => qs_mt rfl) ?_
          refine j_g rfl (fun hb => qs_gtr (gd_eq hb) rfl) ?_
          refine j_g rfl (fun hb => qs_move (gd_eq hb)) ?_
          refine j_gg rfl (fun hb hb1 => qs_mt rfl) ?_
          refine j_gg rfl (fun hb hb1 => qs_field Tryz.underlying28 rfl sz25 (by decide) rfl) ?_
          refine j_gg rfl (fun hb1 hb2 => qs_load (l := dcells d x) (v := .slice (some ⟨gs, offs, none⟩) d.srcs.length caps) 0 Tryz.underlying25 rfl (gd_eq2 hb1 hb2) rfl (congrArg some hvs)) ?_
          refine j_gg rfl (fun hb hb1 => qs_mt rfl) ?_
          refine j_gg rfl (fun hb hb1 => qs_sub64 (gd_eq2 hb hb1) rfl (by first | omega | (simp only [bnA] at *; omega))) ?_
          refine j_gg rfl (fun hb1 hb2 => qs_ixm (g := gs) (off := offs) (i := i - 1) Tryz.underlying25 sz49 (gd_eq2 hb1 hb2) (gd_eq2 hb1 hb2) (by simp only [bnA] at *; omega) (by omega)) ?_
          refine j_gg rfl (fun hb1 hb2 => qs_loadrs (i := i - 1) (rd_cells hcells (by simp)) Tryz.underlying49 ((gd_eq2 hb1 hb2).trans (by rw [add_off, Nat.mul_one])) (by omega)) ?_
          refine j_gg rfl (fun hb hb1 => qs_sleq (gd_eq2 hb hb1) (gd_eq2 hb hb1)) ?_
          refine j_g rfl (fun hb => qs_and (gd_eq hb) (gd_eq hb)) ?_
          refine j_q (qs_or rfl rfl) ?_
          refine j_cond rfl (fun hc4 => ?_) (fun hc4 => ?_)
          · skip
            have hcs := chkS_at hc4
            refine j_q (qs_ac) ?_
            refine j_ret_con (vs := [_]) (fun w' hw' => ⟨rfl, trivial⟩) ?_
            symm
            show _ = Value.int .i64 3
            congr 1
            exact chk_4 hn0 ho1 hi1 (by rw [firstE_at hz hi (by rw [hcs]; decide), hcs]; rfl) (by decide)
          · skip
            have hcs := chkS_at hc4
            refine j_q (qs_add64 rfl rfl (by first | omega | (simp only [bnA] at *; omega))) ?_
            refine j_back rfl ?_
            exact ⟨d.srcs.length - (i + 1), by omega, i + 1, rfl, rfl, by omega, zero_snoc hz hcs, rfl⟩
        · skip
          obtain rfl : i = d.srcs.length := by
            simp only [bnA] at *
            omega
          have hS0 := firstE_zero hz
          refine j_q (qs_field Tryz.underlying28 rfl sz23 (by decide) rfl) ?_
          refine j_q (qs_load (l := dcells d x) (v := .slice Ae d.env.length cape) 0 Tryz.underlying23 rfl rfl rfl (congrArg some hve)) ?_
          refine j_q (qs_lenl Tryz.underlying23 rfl) ?_
          refine j_q (qs_mc) ?_
          refine j_loop (fun m vs S' => ∃ i : Nat, vs = [.int .i64 (i : Int)] ∧ S' = [[(g0, .cells (dcells d x).toArray 28 (0, 0))], []] ∧ i ≤ d.env.length ∧ (∀ j < i, chkV d.env j = 0) ∧ m = d.env.length - i) ⟨_, 0, rfl, rfl, Nat.zero_le _, (fun j hj => absurd hj (Nat.not_lt_zero _)), rfl⟩ ?_
          rintro m vs S' hlen ⟨i, rfl, rfl, hin, hz, rfl⟩
          refine j_q (qs_lss rfl rfl) ?_
          refine j_cond rfl (fun hc5 => ?_) (fun hc5 => ?_)
          · skip
            have hi : i < d.env.length := by
              simp only [bnA] at *
              omega
            obtain ⟨rfl, hge, hcells⟩ := hAe (by omega)
            have hsl := few.ev _ (getD_mem (d := v0) hi)
            refine j_q (qs_ixn (g := ge) (off := offe) (i := i) Tryz.underlying23 sz48 rfl rfl (by omega)) ?_
            refine j_q (qs_loadrecw (encA := encV) (rs := d.env) (d := v0) (i := i) encV_len (rd_cells hcells (by simp)) hi Tryz.underlying48 rfl sz48 rfl) ?_
            refine j_alloc zero48 (fun g52 hg52 hs52 => ?_)
            refine j_storew (vs := encV (d.env.getD i v0)) 0 sz48 rfl rfl (encV_len _) (encV_one _) rfl rfl ?_
            refine j_draw ?_
            refine jq_q (qs_field Tryz.underlying48 rfl sz9 (by decide) rfl) ?_
            first
              | refine jq_q (qs_load 0 Tryz.underlying9 rfl rfl rfl rfl) ?_
              | refine jq_q (qs_load 1 Tryz.underlying9 rfl rfl rfl rfl) ?_
              | refine jq_q (qs_load 2 Tryz.underlying9 rfl rfl rfl rfl) ?_
              | refine jq_q (qs_load 3 Tryz.underlying9 rfl rfl rfl rfl) ?_
            refine jq_q (qs_seql (l' := []) rfl rfl) ?_
            refine jq_g rfl (fun hb => qs_mt rfl) ?_
            refine jq_g rfl (fun hb => qs_gtr (gd_eq hb) rfl) ?_
            refine jq_g rfl (fun hb => qs_move (gd_eq hb)) ?_
            refine jq_gg rfl (fun hb hb1 => qs_field Tryz.underlying48 rfl sz9 (by decide) rfl) ?_
            first
              | refine jq_gg rfl (fun hb hb1 => qs_load 0 Tryz.underlying9 rfl (gd_eq2 hb hb1) rfl rfl) ?_
              | refine jq_gg rfl (fun hb hb1 => qs_load 1 Tryz.underlying9 rfl (gd_eq2 hb hb1) rfl rfl) ?_
              | refine jq_gg rfl (fun hb hb1 => qs_load 2 Tryz.underlying9 rfl (gd_eq2 hb hb1) rfl rfl) ?_
              | refine jq_gg rfl (fun hb hb1 => qs_load 3 Tryz.underlying9 rfl (gd_eq2 hb hb1) rfl rfl) ?_
            refine jq_gg rfl (fun hb hb1 => qs_field Tryz.underlying28 rfl sz23 (by decide) rfl) ?_
            refine jq_gg rfl (fun hb1 hb2 => qs_load (l := dcells d x) (v := .slice (some ⟨ge, offe, none⟩) d.env.length cape) 1 Tryz.underlying23 rfl (gd_eq2 hb1 hb2) rfl (congrArg some hve)) ?_
            refine jq_gg rfl (fun hb hb1 => qs_mt rfl) ?_
            refine jq_gg rfl (fun hb hb1 => qs_sub64 (gd_eq2 hb hb1) rfl (by first | omega | (simp only [bnA] at *; omega))) ?_
            refine jq_gg rfl (fun hb1 hb2 => qs_ixm (g := ge) (off := offe) (i := i - 1) Tryz.underlying23 sz48 (gd_eq2 hb1 hb2) (gd_eq2 hb1 hb2) (by simp only [bnA] at *; omega) (by omega)) ?_
            refine jq_gg rfl (fun hb hb1 => qs_field Tryz.underlying48 rfl sz9 (by decide) (gd_eq2 hb hb1)) ?_
            refine jq_gg rfl (fun hb1 hb2 => qs_loadrec (v := .string (bs (d.env.getD (i - 1) v0).name)) (encA := encV) (rs := d.env) (d := v0) (i := i - 1) (fo := 0) encV_len (rd_cells hcells (by simp)) (by omega) Tryz.underlying9 rfl (gd_eq2 hb1 hb2) rfl) ?_
            refine jq_gg rfl (fun hb hb1 => qs_sleq (gd_eq2 hb hb1) (gd_eq2 hb hb1)) ?_
            refine jq_g rfl (fun hb => qs_and (gd_eq hb) (gd_eq hb)) ?_
            refine jq_q (qs_or rfl rfl) ?_
            refine jq_nil ?_
            refine j_cond rfl (fun hc6 => ?_) (fun hc6 => ?_)
            · skip
              have hcs := chkV_at hc6
              refine j_q (qs_ac) ?_
              refine j_ret_con (vs := [_]) (fun w' hw' => ⟨rfl, trivial⟩) ?_
              symm
              show _ = Value.int .i64 3
              congr 1
              exact chk_5 hn0 ho1 hi1 hS0 (by rw [firstE_at hz hi (by rw [hcs]; decide), hcs]; rfl) (by decide)
            · skip
              have hcs := chkV_at hc6
              refine j_q (qs_add64 rfl rfl (by first | omega | (simp only [bnA] at *; omega))) ?_
              refine j_subl (S' := [[(g0, .cells (dcells d x).toArray 28 (0, 0))], []]) (by repeat first | exact slR _ | exact slN _ | apply slC | apply slD) ?_
              refine j_back rfl ?_
              exact ⟨d.env.length - (i + 1), by omega, i + 1, rfl, rfl, by omega, zero_snoc hz hcs, rfl⟩
          · skip
            obtain rfl : i = d.env.length := by
              simp only [bnA] at *
              omega
            have hV0 := firstE_zero hz
            have hchk := chk_6 hn0 ho1 hi1 hS0 hV0
            have tb : TB d := tb_of hi1 hb
            refine j_q (qs_loadw (l := dcells d x) 0 Tryz.underlying28 rfl sz28 rfl rfl rfl) ?_
            refine j_q (qs_call ent36 rfl rfl rfl (fun w' hw' => dtext_con d x w' (h.keep hw') tb)) ?_
            refine j_q (qs_lens Tryz.underlying9 rfl) ?_
            refine j_q (qs_gtr rfl rfl) ?_
            refine j_cond rfl (fun hc7 => ?_) (fun hc7 => ?_)
            · skip
              refine j_q (qs_ac) ?_
              refine j_ret_con (vs := [_]) (fun w' hw' => ⟨rfl, trivial⟩) ?_
              symm
              show _ = Value.int .i64 5
              congr 1
              rw [hchk, if_pos (by simp only [bnA] at *; omega)]
            · skip
              refine j_q (qs_ac) ?_
              refine j_ret_con (vs := [_]) (fun w' hw' => ⟨rfl, trivial⟩) ?_
              symm
              show _ = Value.int .i64 0
              congr 1
              rw [hchk, if_neg (by simp only [bnA] at *; omega)]
theorem dprint_con (d : PD) (x : DV) (w : World) (h : DR w d x) (hb : big2 d ≤ 200000) (hou : ∀ y ∈ d.ins, ∀ o ∈ y.outs, o.length ≤ 9223372036854775807) : Con Tryz.prog 13 [dval d x] w [] fun v _ => v = .tuple #[.string (bs (prS d)), .int .i64 (chk d)] := by
  refine con_of_tree mix Tryz.func13 T13_ok (by kernel_rfl) ?_
  unfold T13
  refine j_box (l := dcells d x) rfl (fun g0 hg0 hs0 => ?_)
  refine j_q (qs_ac) ?_
  refine j_q (qs_ac) ?_
  refine j_q (qs_loadw (l := dcells d x) 0 Tryz.underlying28 rfl sz28 rfl rfl rfl) ?_
  refine j_q (qs_call ent15 rfl rfl rfl (fun w' hw' => dcheck_con d x w' (h.keep hw') hb hou)) ?_
  refine j_q (qs_neq rfl rfl) ?_
  refine j_cond rfl (fun hc0 => ?_) (fun hc0 => ?_)
  · skip
    have hck : chk d ≠ 0 := by simpa using hc0
    refine j_q (qs_ac) ?_
    refine j_ret_con (vs := [_, _]) (fun w' hw' => ⟨rfl, rfl, trivial⟩) ?_
    show Value.tuple #[_, _] = _
    unfold prS
    rw [if_neg hck]
    rfl
  · skip
    have hck : chk d = 0 := by simpa using hc0
    refine j_q (qs_loadw (l := dcells d x) 0 Tryz.underlying28 rfl sz28 rfl rfl rfl) ?_
    refine j_q (qs_call ent36 rfl rfl rfl (fun w' hw' => dtext_con d x w' (h.keep hw') (tb_chk hck hb))) ?_
    refine j_q (qs_ac) ?_
    refine j_ret_con (vs := [_, _]) (fun w' hw' => ⟨rfl, rfl, trivial⟩) ?_
    show Value.tuple #[_, _] = _
    unfold prS
    rw [if_pos hck, hck]
    rfl
end Go.Proofs.YtfeabbeebkkhaaaGreat
/-! Sx23 -/
namespace Go.Sx
open Go
set_option linter.unusedVariables false
variable {P : Program} {R : Ending → World → Prop} {env : Env} {b : Base} {S : List SH} {B : JB} {T : Tree} {v : Value} {ty : TypeId}
theorem rsln_ownw {w : World} {e : TypeId} {sz len : Nat} {xs : List Value} {v : Value} {c : SH} (ho : Own e sz xs v c) (h0 : 0 < sz) (hl : xs.length = len * sz) (h : ∀ p ∈ c, w.heap[p.1]? = some p.2) : RSlN sz w v xs len := by
  rcases ho with ⟨rfl, rfl, rfl⟩ | ⟨g, n, cap, rest, fz, rfl, rfl, h1, h2, h3, h4⟩
  · refine ⟨hl, .inl ⟨rfl, ?_⟩⟩
    rcases Nat.eq_zero_or_pos len with h | h
    · exact h
    · have := Nat.mul_pos h h0
      simp at hl
      omega
  · obtain rfl : n = len := Nat.eq_of_mul_eq_mul_right h0 (h1.symm.trans hl)
    have hg := h (g, _) (List.mem_singleton.2 rfl)
    exact ⟨hl, .inr ⟨g, 0, cap, rfl, lt_of_get hg, h3, fun j u hu => by
      rw [add_off, Nat.zero_add, cell_of hg, List.getElem?_append_left (List.getElem?_eq_some_iff.1 hu).1]
      exact hu⟩⟩
end Go.Sx
/-! Dv11 -/
namespace Go.Proofs.YtfeabbeebkkhaaaGreat
open Go Go.Sx
set_option maxRecDepth 100000
set_option maxHeartbeats 4000000
set_option linter.unusedVariables false
set_option linter.unusedSimpArgs false
attribute [local irreducible] J JQ QS Con W opW
structure Szd (d : PD) : Prop where
  nm : d.name.length ≤ 140737488355328
  sy : d.sys.length ≤ 140737488355328
  bl : d.bld.length ≤ 140737488355328
  ar : ∀ x ∈ d.args, x.length ≤ 140737488355328
  ev : ∀ x ∈ d.env, x.name.length ≤ 140737488355328 ∧ x.val.length ≤ 140737488355328
  ip : ∀ x ∈ d.ins, x.drv.length ≤ 140737488355328 ∧ x.outs.length ≤ 140737488355328 ∧ ∀ o ∈ x.outs, o.length ≤ 140737488355328
  ou : ∀ x ∈ d.outs, x.name.length ≤ 140737488355328 ∧ x.path.length ≤ 140737488355328
  sr : ∀ x ∈ d.srcs, x.length ≤ 140737488355328
  la : d.args.length ≤ 140737488355328
  le : d.env.length ≤ 140737488355328
  li : d.ins.length ≤ 140737488355328
  lo : d.outs.length ≤ 140737488355328
  ls : d.srcs.length ≤ 140737488355328
attribute [local irreducible] es qt cms hex Tbl Half lst isName isPath isDrvP leB chkO chkOuts chkN chkI chkIns firstE spA spB spE chkS chkV dtext chk chk0 tTs
end Go.Proofs.YtfeabbeebkkhaaaGreat
