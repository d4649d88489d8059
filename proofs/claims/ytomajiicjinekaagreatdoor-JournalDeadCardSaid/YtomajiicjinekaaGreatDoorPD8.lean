/- Part 8. -/
import Derived.Test.YtomajiicjinekaaGreatDoorPD3
import Derived.Test.YtomajiicjinekaaGreatDoorPD7
import Derived.Test.YtomajiicjinekaaGreatDoorPD6
/-! Jn7 -/
namespace Go.Proofs.YtomajiicjinekaaGreatDoor
open Go Go.Sx
set_option maxRecDepth 100000
set_option maxHeartbeats 4000000
set_option linter.unusedVariables false
set_option linter.unusedSimpArgs false
attribute [local irreducible] J JQ QS Con W opW
structure GR where
  g : Nat
  r : RR
  o : List Value
def GR.heap (x : GR) : SH := (x.g, .cells (x.r.v :: x.o).toArray 77 (0, 0)) :: x.r.heap
structure GS where
  v : Value
  c : SH
  G : List GR
def GS.gl (s : GS) : SH := (s.G.map GR.heap).flatten
def GS.heap (s : GS) : SH := s.c ++ s.gl
def GS.gs (s : GS) : List (List (List UInt8)) := s.G.map fun x => x.r.rs
structure GS.Ok (s : GS) : Prop where
  row : Sx.Own 61 1 (s.G.map fun x => Value.pointer (some ⟨x.g, 0, none⟩)) s.v s.c
  rr : ∀ x ∈ s.G, x.r.Ok
def GS.add (s : GS) (v : Value) (c : SH) (x : GR) : GS := ⟨v, c, s.G ++ [x]⟩
theorem GS.add_gs (s : GS) {v : Value} {c : SH} {x : GR} : (s.add v c x).gs = s.gs ++ [x.r.rs] := by
  unfold GS.gs GS.add
  rw [List.map_append]
  rfl
theorem GS.add_gl (s : GS) {v : Value} {c : SH} {x : GR} : (s.add v c x).gl = s.gl ++ x.heap := by
  unfold GS.gl GS.add
  rw [List.map_append, List.flatten_append, List.map_singleton, List.flatten_singleton]
theorem GS.Ok.add {s : GS} (h : s.Ok) {v : Value} {c : SH} {x : GR} (hv : Sx.Own 61 1 ((s.G.map fun x => Value.pointer (some ⟨x.g, 0, none⟩)) ++ [.pointer (some ⟨x.g, 0, none⟩)]) v c) (hx : x.r.Ok) : (s.add v c x).Ok := by
  refine ⟨?_, fun t ht => ?_⟩
  · unfold GS.add
    rw [List.map_append]
    exact hv
  · rcases List.mem_append.1 ht with ht | ht
    · exact h.rr t ht
    · rw [List.mem_singleton.1 ht]
      exact hx
abbrev jl (fp : Value) (name : List UInt8) (age part : Nat) (filled : Int) (gv : Value) (size : Int) (lg : Nat) (dead : Int) : List Value := [fp, .string (bs name), .int .u64 (age : Int), .int .i64 (part : Int), .int .i64 filled, gv, .int .i64 size, .pointer (some ⟨lg, 0, none⟩), .int .u32 dead]
abbrev jobj (fp : Value) (name : List UInt8) (age part : Nat) (filled : Int) (gv : Value) (size : Int) (lg : Nat) (dead : Int) : Obj := .cells (jl fp name age part filled gv size lg dead).toArray 68 (0, 0)
def Sees (c : SH) (v : Value) (xs : List UInt8) : Prop := ∀ w, In w c → BR w v xs
def limG (gs : List (List (List UInt8))) : Prop := gs.length ≤ 100 ∧ ∀ g ∈ gs, limR g
theorem gsE_cons (g : List (List UInt8)) (gs : List (List (List UInt8))) : gsE (g :: gs) = grpE g ++ gsE gs := rfl
theorem gsE_drop {gs : List (List (List UInt8))} {i : Nat} (h : i < gs.length) : gsE (gs.drop i) = num (bodyE (gs.getD i [])).length ++ (bodyE (gs.getD i []) ++ (sum (bodyE (gs.getD i [])) ++ gsE (gs.drop (i + 1)))) := by
  rw [List.drop_eq_getElem_cons h, gsE_cons, List.getD_eq_getElem?_getD, List.getElem?_eq_getElem h]
  unfold grpE
  rw [List.append_assoc, List.append_assoc]
  rfl
theorem gsE_len {gs : List (List (List UInt8))} (h : ∀ g ∈ gs, limR g) : (gsE gs).length ≤ gs.length * 12440 := by
  induction gs with
  | nil => exact Nat.le_refl _
  | cons g gs ih =>
    have h1 := ih fun x hx => h x (List.mem_cons_of_mem _ hx)
    have h2 := grpE_lim (h g (List.mem_cons_self ..))
    rw [gsE_cons, List.length_append, List.length_cons]
    omega
theorem gsE_lim {gs : List (List (List UInt8))} (h : limG gs) : (gsE gs).length ≤ 1244000 := by
  have := gsE_len h.2
  have := h.1
  omega
theorem gsE_drop_le {gs : List (List (List UInt8))} (h : limG gs) (i : Nat) : (gsE (gs.drop i)).length ≤ 1244000 :=
  gsE_lim ⟨by rw [List.length_drop]; have := h.1; omega, fun g hg => h.2 g (List.mem_of_mem_drop hg)⟩
theorem sizeG_take {gs : List (List (List UInt8))} {i : Nat} (h : i < gs.length) : sizeG (gs.take (i + 1)) = sizeG (gs.take i) + sizeR (gs.getD i []) := by
  unfold sizeG
  rw [List.take_add_one, List.getElem?_eq_getElem h, Option.toList_some, List.map_append, List.sum_append, List.getD_eq_getElem?_getD, List.getElem?_eq_getElem h]
  simp
theorem sizeG_le {gs : List (List (List UInt8))} (h : ∀ g ∈ gs, limR g) : sizeG gs ≤ gs.length * 12000 := by
  induction gs with
  | nil => exact Nat.le_refl _
  | cons g gs ih =>
    have h1 := ih fun x hx => h x (List.mem_cons_of_mem _ hx)
    have h2 := (h g (List.mem_cons_self ..)).2
    unfold sizeG at *
    rw [List.map_cons, List.sum_cons, List.length_cons]
    omega
theorem sizeG_lim {gs : List (List (List UInt8))} (h : limG gs) (i : Nat) : sizeG (gs.take i) ≤ 1200000 := by
  have h1 := sizeG_le (gs := gs.take i) fun g hg => h.2 g (List.mem_of_mem_take hg)
  have h2 := h.1
  rw [List.length_take] at h1
  omega
theorem cut3 (a b c d : List UInt8) : ((a ++ (b ++ (c ++ d))).take (a.length + b.length + c.length)).drop (a.length + b.length) = c := by
  rw [show a ++ (b ++ (c ++ d)) = (a ++ b) ++ (c ++ d) by rw [List.append_assoc]]
  have h := mid_cut (a ++ b) c d
  rw [List.length_append] at h
  exact h
theorem cut4 (a b c d : List UInt8) : (a ++ (b ++ (c ++ d))).drop (a.length + b.length + c.length) = d := by
  rw [show a ++ (b ++ (c ++ d)) = (a ++ b ++ c) ++ d by rw [List.append_assoc, List.append_assoc]]
  rw [show a.length + b.length + c.length = (a ++ b ++ c).length by rw [List.length_append, List.length_append]]
  exact List.drop_left
theorem arr_br {b : Base} {S : List SH} {w : World} {g : Nat} {xs : List UInt8} {e : TypeId} {fz : Nat × Nat} (hw : Sig b ([(g, .cells (ints xs).toArray e fz)] :: S) w) {n : Nat} (hn : xs.length = n) : BR w (.slice (some ⟨g, 0, none⟩) n n) xs := by
  subst hn
  have hg := hw.at_ (k := 0) rfl
  refine .inr ⟨_, _, rfl, Nat.le_refl _, fun _ => lt_of_get hg, fun j u hu => ?_⟩
  rw [add_off, Nat.zero_add, cell_of hg]
  exact hu
attribute [local irreducible] sum
theorem jread_con (gj : Nat) (fp : Value) (name : List UInt8) (age part : Nat) (filled : Int) (s : GS) (sz : Int) (lg : Nat) (dead : Int) (gs : List (List (List UInt8))) (A : Option Addr) (cap : Nat) (cb : SH) (w : World) (hs : s.Ok) (hb : Sees cb (.slice A (gsE gs).length cap) (gsE gs)) (hcap : (gsE gs).length ≤ cap) (hl : limG gs) (hsz : 0 ≤ sz ∧ sz ≤ 1000000) (hgn : s.G.length ≤ 1000) : Con Tryz.prog 45 [.pointer (some ⟨gj, 0, none⟩), .slice A (gsE gs).length cap] w (cb ++ (gj, jobj fp name age part filled s.v sz lg dead) :: s.heap) fun u S' => ∃ t : GS, u = .bool true ∧ S' = [cb, [(gj, jobj fp name age part filled t.v (sz + ((sizeG gs : Nat) : Int)) lg dead)], t.c, t.gl] ∧ t.Ok ∧ t.gs = s.gs ++ gs := by
  refine con_of_tree mix Tryz.func45 T45_ok (by kernel_rfl) ?_
  unfold T45
  refine j_perm (S' := [cb, [(gj, jobj fp name age part filled s.v sz lg dead)], s.c, s.gl]) (by simp [GS.heap]) ?_
  have hl1 := hl.1
  refine j_q (qs_ac) ?_
  refine j_loop (fun m vs S' => ∃ (i : Nat) (A : Option Addr) (cap : Nat) (t : GS), vs = [(.slice A (gsE (gs.drop i)).length cap)] ∧ S' = [cb, [(gj, jobj fp name age part filled t.v (sz + ((sizeG (gs.take i) : Nat) : Int)) lg dead)], t.c, t.gl] ∧ Sees cb (.slice A (gsE (gs.drop i)).length cap) (gsE (gs.drop i)) ∧ (gsE (gs.drop i)).length ≤ cap ∧ t.Ok ∧ t.gs = s.gs ++ gs.take i ∧ i ≤ gs.length ∧ m = gs.length - i) ⟨_, 0, _, _, s, rfl, (by rw [List.take_zero, show sizeG [] = 0 from rfl, Int.natCast_zero, Int.add_zero]), hb, hcap, hs, (by rw [List.take_zero, List.append_nil]), Nat.zero_le _, rfl⟩ ?_
  rintro m vs S' hlen ⟨i, A, cap, t, rfl, rfl, hbr, hcap, hto, hts, hin, rfl⟩
  have hdl := gsE_drop_le hl i
  have hszl := sizeG_lim hl i
  have htn : t.G.length = s.G.length + i := by
    have h8 := congrArg List.length hts
    unfold GS.gs at h8
    rw [List.length_map, List.length_append, List.length_map, List.length_take] at h8
    omega
  refine j_q (qs_lenl Tryz.underlying39 rfl) ?_
  refine j_q (qs_gtr rfl rfl) ?_
  refine j_cond rfl (fun hc0 => ?_) (fun hc0 => ?_)
  · skip
    have hi : i < gs.length := by
      simp only [bnA] at *
      rcases Nat.lt_or_ge i gs.length with h | h
      · exact h
      · rw [List.drop_of_length_le h] at hc0
        simp [gsE] at hc0
    obtain ⟨g, hg⟩ : ∃ g, g = gs.getD i [] := ⟨_, rfl⟩
    have hdr := gsE_drop hi
    rw [← hg] at hdr
    have hgl : limR g := by
      rw [hg, List.getD_eq_getElem?_getD, List.getElem?_eq_getElem hi]
      exact hl.2 _ (List.getElem_mem hi)
    have hg2 := hgl.2
    have hbl := bodyE_lim hgl
    obtain ⟨n, hn⟩ : ∃ n, n = (bodyE g).length := ⟨_, rfl⟩
    rw [← hn] at hbl hdr
    have hnn := num_len (show n < 268435456 by omega)
    have hnp := num_pos n
    obtain ⟨rest, hrest⟩ : ∃ rest, rest = gsE (gs.drop (i + 1)) := ⟨_, rfl⟩
    rw [← hrest] at hdr
    have hsl : (sum (bodyE g)).length = 32 := sum_length _
    have hdd : (gsE (gs.drop i)).length = (num n).length + (n + (32 + rest.length)) := by rw [hdr, List.length_append, List.length_append, List.length_append, hsl, ← hn]
    have hsb : Sees cb (.slice (if cap = (num n).length then A else A.map (fun p : Addr => p.add ((num n).length * 1))) n (cap - (num n).length)) (bodyE g) := fun w h => by
      have h8 := br_sub (hbr w h) (num n).length ((num n).length + n) (by omega) (by omega)
      rw [show (num n).length + n - (num n).length = n by omega, hdr] at h8
      have h9 := mid_cut (num n) (bodyE g) (sum (bodyE g) ++ rest)
      rw [← hn] at h9
      rw [h9] at h8
      exact h8
    have hss : Sees cb (.slice (if cap = (num n).length + n then A else A.map (fun p : Addr => p.add (((num n).length + n) * 1))) 32 (cap - ((num n).length + n))) (sum (bodyE g)) := fun w h => by
      have h8 := br_sub (hbr w h) ((num n).length + n) ((num n).length + n + 32) (by omega) (by omega)
      rw [show (num n).length + n + 32 - ((num n).length + n) = 32 by omega, hdr] at h8
      have h9 := cut3 (num n) (bodyE g) (sum (bodyE g)) rest
      rw [← hn, hsl] at h9
      rw [h9] at h8
      exact h8
    have hse : Sees cb (.slice (if cap = (num n).length + n + 32 then A else A.map (fun p : Addr => p.add (((num n).length + n + 32) * 1))) rest.length (cap - ((num n).length + n + 32))) rest := fun w h => by
      have h8 := br_sub (hbr w h) ((num n).length + n + 32) (gsE (gs.drop i)).length (by omega) (Nat.le_refl _)
      rw [show (gsE (gs.drop i)).length - ((num n).length + n + 32) = rest.length by omega, List.take_length, hdr] at h8
      have h9 := cut4 (num n) (bodyE g) (sum (bodyE g)) rest
      rw [← hn, hsl] at h9
      rw [h9] at h8
      exact h8
    refine j_q (qs_call ent68 rfl rfl rfl (fun w' hw' => takeNum_con n (bodyE g ++ (sum (bodyE g) ++ rest)) _ w' (by rw [← hdr]; exact hbr w' (in_own hw' 0 rfl)) (by omega) (by rw [← hdr]; omega))) ?_
    refine j_q (qs_ext rfl rfl) ?_
    refine j_q (qs_ext rfl rfl) ?_
    refine j_q (qs_leq rfl rfl) ?_
    rw [decide_eq_false (show ¬ ((num n).length : Int) ≤ 0 by omega)]
    refine j_gt rfl (qs_mt rfl) ?_
    refine j_gt rfl (qs_mt rfl) ?_
    refine j_gt rfl (qs_lenl Tryz.underlying39 rfl) ?_
    refine j_gt rfl (qs_mt rfl) ?_
    refine j_gt rfl (qs_sub64 rfl rfl (by omega)) ?_
    refine j_gt rfl (qs_conv Tryz.underlying3 Tryz.underlying59 rfl) ?_
    rw [IntWalk.u64_in _ (by omega)]
    refine j_gt rfl (qs_gtr rfl rfl) ?_
    rw [decide_eq_false (show ¬ ((n : Nat) : Int) > ((gsE (gs.drop i)).length : Int) - ((num n).length : Int) by omega)]
    refine j_q (qs_or rfl rfl) ?_
    refine j_gt rfl (qs_mt rfl) ?_
    refine j_gt rfl (qs_lenl Tryz.underlying39 rfl) ?_
    refine j_gt rfl (qs_mt rfl) ?_
    refine j_gt rfl (qs_sub64 rfl rfl (by omega)) ?_
    refine j_gt rfl (qs_mt rfl) ?_
    refine j_gt rfl (qs_conv Tryz.underlying59 Tryz.underlying3 rfl) ?_
    rw [show IntKind.i64.wrap ((n : Nat) : Int) = (n : Int) from IntWalk.i64_in _ (by omega)]
    refine j_gt rfl (qs_sub64 rfl rfl (by omega)) ?_
    refine j_gt rfl (qs_lss rfl rfl) ?_
    rw [decide_eq_false (show ¬ ((gsE (gs.drop i)).length : Int) - ((num n).length : Int) - (n : Int) < 32 by omega)]
    refine j_q (qs_or rfl rfl) ?_
    refine j_cond rfl (fun hc1 => ?_) (fun hc1 => ?_)
    · skip
      simp at hc1
    · skip
      refine j_q (qs_conv Tryz.underlying59 Tryz.underlying3 rfl) ?_
      rw [show IntKind.i64.wrap ((n : Nat) : Int) = (n : Int) from IntWalk.i64_in _ (by omega)]
      refine j_q (qs_add64 rfl rfl (by first | omega | (simp only [bnA] at *; omega))) ?_
      refine j_q (qs_cutl (a := (num n).length) (z := (num n).length + n) Tryz.underlying39 sz5 rfl ⟨.i64, rfl⟩ ⟨.i64, by show Value.int _ _ = _; congr 1⟩ (by omega) (by omega)) ?_
      rw [show (num n).length + n - (num n).length = n by omega]
      refine j_q (qs_call ent50 rfl rfl rfl (fun w' hw' => sumB_con (bodyE g) _ w' (hsb w' (in_own hw' 0 rfl)) (fun h0 => by have h8 := num_pos g.length; unfold bodyE at h0; rw [List.append_eq_nil_iff] at h0; rw [h0.1] at h8; simp at h8) (by omega))) ?_
      refine j_alloc zero96 (fun g29 hg29 hs29 => ?_)
      refine j_storew 0 sz96 rfl rfl (by first | (rw [ints_length]; exact sum_length _) | rfl) ints_one rfl (by first | (rw [ints_length]; exact sum_length _) | rfl) ?_
      refine j_draw ?_
      refine jq_q (qs_cuta  Tryz.underlying96 sz5 rfl rfl rfl (by first | omega | (simp only [bnA] at *; omega)) (by first | omega | (simp only [bnA] at *; omega))) ?_
      refine jq_q (qs_conv Tryz.underlying59 Tryz.underlying3 rfl) ?_
      rw [show IntKind.i64.wrap ((n : Nat) : Int) = (n : Int) from IntWalk.i64_in _ (by omega)]
      refine jq_q (qs_add64 rfl rfl (by first | omega | (simp only [bnA] at *; omega))) ?_
      refine jq_q (qs_conv Tryz.underlying59 Tryz.underlying3 rfl) ?_
      rw [show IntKind.i64.wrap ((n : Nat) : Int) = (n : Int) from IntWalk.i64_in _ (by omega)]
      refine jq_q (qs_add64 rfl rfl (by first | omega | (simp only [bnA] at *; omega))) ?_
      refine jq_q (qs_add64 rfl rfl (by first | omega | (simp only [bnA] at *; omega))) ?_
      refine jq_q (qs_cutl (a := (num n).length + n) (z := (num n).length + n + 32) Tryz.underlying39 sz5 rfl ⟨.i64, by show Value.int _ _ = _; congr 1⟩ ⟨.i64, by show Value.int _ _ = _; congr 1⟩ (by omega) (by omega)) ?_
      rw [show (num n).length + n + 32 - ((num n).length + n) = 32 by omega]
      refine jq_q (qs_call ent69 rfl rfl rfl (fun w' hw' => equal_con (sum (bodyE g)) (sum (bodyE g)) _ _ w' (arr_br hw' hsl) (hss w' (in_own hw' 1 rfl)))) ?_
      rw [beq_self_eq_true]
      refine jq_q (qs_not rfl) ?_
      refine jq_nil ?_
      refine j_cond rfl (fun hc2 => ?_) (fun hc2 => ?_)
      · skip
        simp at hc2
      · skip
        refine j_call0 ent70 rfl rfl rfl (fun w' hw' => readGroup_con g _ w' (hsb w' (in_own hw' 1 rfl)) hgl) (fun u S2 hu => ?_)
        obtain ⟨gg, r, rfl, rfl, hro, hrs⟩ := hu
        refine j_q (qs_ext rfl rfl) ?_
        refine j_q (qs_ext rfl rfl) ?_
        refine j_q (qs_not rfl) ?_
        refine j_cond rfl (fun hc3 => ?_) (fun hc3 => ?_)
        · skip
          simp at hc3
        · skip
          refine j_q (qs_nil rfl) ?_
          refine j_q (qs_field Tryz.underlying68 rfl sz60 (by decide) rfl) ?_
          refine j_q (qs_load (l := jl fp name age part filled t.v (sz + ((sizeG (gs.take i) : Nat) : Int)) lg dead) (v := t.v) 5 Tryz.underlying60 rfl rfl rfl rfl) ?_
          refine j_lit (vs := [.pointer (some ⟨gg, 0, none⟩)]) Tryz.underlying60 sz61 zero61 rfl (by simp [oneV]) ⟨rfl, by decide⟩ (fun g49 v49 c49 hv49 hc49 ho49 => ?_)
          subst hv49 hc49
          refine j_append 7 Tryz.underlying60 Tryz.underlying60 (.inr ⟨_, rfl⟩) sb61 zero61 rfl hto.row rfl (.inl ⟨_, _, rfl, rd_own (off := 0) (n := 1) 0 rfl rfl, rfl⟩) (by simp [oneV]) ⟨(by simp only [List.length_map]; simp; omega), (by decide)⟩ (fun v50 c50 ho50 => ?_)
          obtain ⟨n50, A50, cap50, rfl, hn50⟩ := own_form ho50 (by decide)
          refine j_q (qs_nil rfl) ?_
          refine j_q (qs_field Tryz.underlying68 rfl sz60 (by decide) rfl) ?_
          refine j_store (l := jl fp name age part filled t.v (sz + ((sizeG (gs.take i) : Nat) : Int)) lg dead) 6 sz60 rfl rfl rfl rfl (by simp) (by simp) ?_
          refine j_draw ?_
          refine jq_q (qs_nil rfl) ?_
          refine jq_q (qs_field Tryz.underlying68 rfl sz3 (by decide) rfl) ?_
          refine jq_q (qs_load (l := jl fp name age part filled (.slice A50 n50 cap50) (sz + ((sizeG (gs.take i) : Nat) : Int)) lg dead) (v := .int .i64 (sz + ((sizeG (gs.take i) : Nat) : Int))) 6 Tryz.underlying3 rfl rfl rfl rfl) ?_
          refine jq_q (qs_nil rfl) ?_
          refine jq_q (qs_field Tryz.underlying77 rfl sz3 (by decide) rfl) ?_
          refine jq_q (qs_load (l := r.v :: [.int .i64 ((sizeR g : Nat) : Int), .int .u32 0, .int .i32 0, .int .u32 0, nilS]) (v := .int .i64 ((sizeR g : Nat) : Int)) 1 Tryz.underlying3 rfl rfl rfl rfl) ?_
          refine jq_q (qs_add64 rfl rfl (by first | omega | (simp only [bnA] at *; omega))) ?_
          refine jq_q (qs_nil rfl) ?_
          refine jq_q (qs_field Tryz.underlying68 rfl sz3 (by decide) rfl) ?_
          refine jq_nil ?_
          refine j_store (l := jl fp name age part filled (.slice A50 n50 cap50) (sz + ((sizeG (gs.take i) : Nat) : Int)) lg dead) 6 sz3 rfl rfl rfl rfl (by simp) (by simp) ?_
          refine j_q (qs_conv Tryz.underlying59 Tryz.underlying3 rfl) ?_
          rw [show IntKind.i64.wrap ((n : Nat) : Int) = (n : Int) from IntWalk.i64_in _ (by omega)]
          refine j_q (qs_add64 rfl rfl (by first | omega | (simp only [bnA] at *; omega))) ?_
          refine j_q (qs_add64 rfl rfl (by first | omega | (simp only [bnA] at *; omega))) ?_
          refine j_q (qs_cutl (a := (num n).length + n + 32) (z := (gsE (gs.drop i)).length) Tryz.underlying39 sz5 rfl ⟨.i64, by show Value.int _ _ = _; congr 1⟩ rfl (by omega) (by omega)) ?_
          rw [show (gsE (gs.drop i)).length - ((num n).length + n + 32) = rest.length by omega]
          refine j_subl (S' := [[(gg, .cells (r.v :: [.int .i64 ((sizeR g : Nat) : Int), .int .u32 0, .int .i32 0, .int .u32 0, nilS]).toArray 77 (0, 0))], r.c, r.lf, cb, [(gj, jobj fp name age part filled (.slice A50 n50 cap50) (sz + ((sizeG (gs.take i) : Nat) : Int) + ((sizeR g : Nat) : Int)) lg dead)], c50, t.gl]) (by repeat first | exact slR _ | exact slN _ | apply slC | apply slD) ?_
          refine j_perm (S' := [cb, [(gj, jobj fp name age part filled (.slice A50 n50 cap50) (sz + ((sizeG (gs.take i) : Nat) : Int) + ((sizeR g : Nat) : Int)) lg dead)], c50, t.gl ++ GR.heap ⟨gg, r, [.int .i64 ((sizeR g : Nat) : Int), .int .u32 0, .int .i32 0, .int .u32 0, nilS]⟩]) (by
            classical
            refine List.perm_iff_count.2 fun x => ?_
            simp only [RR.heap, GR.heap, GS.heap, List.set, List.flatten_cons, List.flatten_nil, List.append_nil, List.nil_append, List.cons_append, List.count_append, List.count_cons, List.count_nil]
            omega) ?_
          refine j_back rfl ?_
          subst hrest
          refine ⟨_, by omega, i + 1, _, _, t.add (.slice A50 n50 cap50) c50 ⟨gg, r, [.int .i64 ((sizeR g : Nat) : Int), .int .u32 0, .int .i32 0, .int .u32 0, nilS]⟩, rfl, ?_, hse, by omega, hto.add ho50 hro, ?_, by omega, rfl⟩
          · rw [sizeG_take hi, ← hg, GS.add_gl, Int.natCast_add, ← Int.add_assoc]
            rfl
          · rw [GS.add_gs, hts, List.append_assoc, List.take_add_one, List.getElem?_eq_getElem hi, hrs, hg, List.getD_eq_getElem?_getD, List.getElem?_eq_getElem hi]
            rfl
  · skip
    have hi : i = gs.length := by
      simp only [bnA] at *
      rcases Nat.lt_or_ge i gs.length with h | h
      · have h8 := gsE_drop h
        have h9 := num_pos (bodyE (gs.getD i [])).length
        rw [h8, List.length_append] at hc0
        omega
      · omega
    refine j_q (qs_ac) ?_
    refine j_ret_con (vs := [_]) (fun w' hw' => ⟨rfl, trivial⟩) ?_
    refine ⟨t, rfl, ?_, hto, ?_⟩
    · rw [hi, List.take_length]
    · rw [hts, hi, List.take_length]
end Go.Proofs.YtomajiicjinekaaGreatDoor
/-! Jn8 -/
namespace Go.Proofs.YtomajiicjinekaaGreatDoor
open Go Go.Sx
set_option maxRecDepth 100000
set_option maxHeartbeats 4000000
set_option linter.unusedVariables false
set_option linter.unusedSimpArgs false
attribute [local irreducible] J JQ QS Con W opW
structure JS (name : List UInt8) (age : Nat) (gs : List (List (List UInt8))) (s : AS) : Prop where
  hd : (age = 0 ∧ alook s.nm name = none) ∨ (alook s.nm name ≠ none ∧ contA s name = headE age)
  f0 : (gs = [] ∧ alook s.nm (fileN name age 0) = none) ∨ (gs ≠ [] ∧ alook s.nm (fileN name age 0) ≠ none ∧ contA s (fileN name age 0) = gsE gs)
  f1 : alook s.nm (fileN name age 1) = none
  nx : ∀ a, age < a → ∀ p, alook s.nm (fileN name a p) = none
def fillE (gs : List (List (List UInt8))) : Int := if gs = [] then -1 else ((gsE gs).length : Int)
structure JM where
  gj : Nat
  lg : Nat
  fp : Value
  name : List UInt8
  age : Nat
  fl : Int
  s : GS
  laid : RR
  dead : Int
abbrev JM.ptr (j : JM) : Value := .pointer (some ⟨j.gj, 0, none⟩)
abbrev JM.obj (j : JM) : Obj := jobj j.fp j.name j.age 0 j.fl j.s.v ((sizeG j.s.gs : Nat) : Int) j.lg j.dead
abbrev JM.lobj (j : JM) : Obj := gobj j.laid.v ((sizeR j.laid.rs : Nat) : Int) 0 0 0 nilS
def JM.heap (j : JM) : SH := (j.gj, j.obj) :: (j.lg, j.lobj) :: (j.s.heap ++ j.laid.heap)
structure JA where
  name : List UInt8
  age : Nat
  gs : List (List (List UInt8))
  down : List (List UInt8)
  dead : Bool
structure JM.Ok (j : JM) (a : JA) : Prop where
  s : j.s.Ok
  l : j.laid.Ok
  nm : j.name = a.name
  ag : j.age = a.age
  gs : j.s.gs = a.gs
  dn : j.laid.rs = a.down
  dd : j.dead = if a.dead then 1 else 0
  fl : a.dead = false → j.fl = fillE a.gs
theorem gs0 : GS.Ok ⟨nilS, [], []⟩ := ⟨own_nil, fun t ht => by cases ht⟩
theorem readE_0 {s : AS} {n : List UInt8} : readE s n = 0 ↔ alook s.nm n ≠ none := by
  unfold readE
  split
  · rename_i h
    simp [h]
  · rename_i h
    simp [h]
theorem readE_1 {s : AS} {n : List UInt8} : readE s n ≠ 0 ↔ alook s.nm n = none := by
  rw [ne_eq, readE_0, Classical.not_not]
theorem strOk_file {name : List UInt8} {age part : Nat} (h1 : name.length ≤ 1000) (h2 : age < 10000) (h3 : part < 100) : strOk (fileN name age part) := by
  have h4 := dec_len h2
  have h5 := dec_len (show part < 10000 by omega)
  show (fileN name age part).length ≤ _
  unfold fileN
  simp only [List.length_append, List.length_cons, List.length_nil]
  omega
theorem own_cap {xs : List UInt8} {A : Option Addr} {n cap : Nat} {c : SH} (h : Sx.Own 5 1 (ints xs) (.slice A n cap) c) : n ≤ cap := by
  rcases h with ⟨h, _⟩ | ⟨g, n', cap', rest, fz, h, _, _, _, h4, _⟩
  · injection h with h1 h2 h3
    omega
  · injection h with h1 h2 h3
    omega
theorem perm_jm (j : JM) : ([[(j.gj, j.obj)], [(j.lg, j.lobj)], j.s.c, j.s.gl, j.laid.heap] : List SH).flatten.Perm [j.heap].flatten := by
  classical
  refine List.perm_iff_count.2 fun x => ?_
  simp only [GS.heap, JM.heap, List.flatten_cons, List.flatten_nil, List.append_nil, List.nil_append, List.cons_append, List.count_append, List.count_cons, List.count_nil]
  omega
attribute [local irreducible] sum gsE headE fileN contA readE
theorem within_con (r : FR) (a : AF) (name : List UInt8) (age : Nat) (gs : List (List (List UInt8))) (w : World) (hin : In w r.heap) (hok : r.Ok a) (hj : JS name age gs a.now) (hl : limG gs) (hag : age < 10000) (hnl : name.length ≤ 1000) (hP : P10 w) : Con Tryz.prog 24 [r.ptr, .string (bs name)] w [] fun u S' => ∃ j : JM, u = .tuple #[j.ptr, .int .i64 0] ∧ S' = [j.heap] ∧ j.Ok ⟨name, age, gs, [], false⟩ ∧ j.fp = r.ptr := by
  refine con_of_tree mix Tryz.func24 T24_ok (by kernel_rfl) ?_
  unfold T24
  refine j_q (qs_ac) ?_
  refine j_q (qs_ac) ?_
  refine j_q (qs_run (v := .agg ([nilS, .int .i64 0, .int .u32 0, .int .i32 0, .int .u32 0, nilS]).toArray) (fun w => by kernel_rfl)) ?_
  refine j_box (l := [nilS, .int .i64 0, .int .u32 0, .int .i32 0, .int .u32 0, nilS]) rfl (fun g3 hg3 hs3 => ?_)
  refine j_q (qs_build (places := [(0, 1), (1, 1), (2, 1), (3, 1), (4, 1), (5, 1), (6, 1), (7, 1), (8, 1)]) (offs := [(0, [r.ptr]), (1, [.string (bs name)]), (7, [.pointer (some ⟨g3, 0, none⟩)])]) Tryz.underlying68 zero68 (by kernel_rfl) rfl (by rintro (_ | _ | _ | _ | j) p q hp hq <;> first | (simp at hp hq; subst hp hq; exact ⟨rfl, rfl, by simp⟩) | (simp at hp))) ?_
  refine j_box (l := jl r.ptr name 0 0 0 nilS 0 g3 0) rfl (fun g5 hg5 hs5 => ?_)
  refine j_subl (S' := [[(g5, .cells (jl r.ptr name 0 0 0 nilS 0 g3 0).toArray 68 (0, 0))], [(g3, gobj nilS 0 0 0 0 nilS)]]) (by repeat first | exact slR _ | exact slN _ | apply slC | apply slD) ?_
  refine j_call0 ent43 rfl rfl rfl (fun w' hw' => readRO_con r a name w' (in_keep0 hin hw') hok (by show name.length ≤ _; omega)) (fun u S2 hu => ?_)
  obtain ⟨v6, c6, rfl, rfl, ho6⟩ := hu
  refine j_q (qs_ext (vs := [v6, .int .i64 (readE a.now name)]) rfl rfl) ?_
  refine j_q (qs_ext (vs := [v6, .int .i64 (readE a.now name)]) rfl rfl) ?_
  refine j_q (qs_eql rfl rfl) ?_
  refine j_cond rfl (fun hc0 => ?_) (fun hc0 => ?_)
  · skip
    have hrd : readE a.now name = 0 := by simpa using hc0
    have hhd : contA a.now name = headE age := by
      rcases hj.hd with ⟨_, h⟩ | ⟨_, h⟩
      · exact absurd h (readE_0.1 hrd)
      · exact h
    rw [hhd] at ho6
    refine j_q (qs_call ent44 rfl rfl rfl (fun w' hw' => readAge_con age _ w' (own_br ho6 0 rfl hw') (by omega))) ?_
    refine j_q (qs_nil rfl) ?_
    refine j_q (qs_field Tryz.underlying68 rfl sz59 (by decide) rfl) ?_
    refine j_store (l := jl r.ptr name 0 0 0 nilS 0 g3 0) 1 sz59 rfl rfl rfl rfl (by simp) (by simp) ?_
    refine j_subl (S' := [[(g5, .cells (jl r.ptr name age 0 0 nilS 0 g3 0).toArray 68 (0, 0))], [(g3, gobj nilS 0 0 0 0 nilS)]]) (by repeat first | exact slR _ | exact slN _ | apply slC | apply slD) ?_
    refine j_q (qs_nil rfl) ?_
    refine j_q (qs_field Tryz.underlying68 rfl sz3 (by decide) rfl) ?_
    refine j_store (l := jl r.ptr name age 0 0 nilS 0 g3 0) 0 sz3 rfl rfl rfl rfl (by simp) (by simp) ?_
    refine j_subl (S' := [[(g5, jobj r.ptr name age 0 (-1) nilS 0 g3 0)], [(g3, gobj nilS 0 0 0 0 nilS)]]) (by repeat first | exact slR _ | exact slN _ | apply slC | apply slD) ?_
    refine j_perm (S' := [[(g5, jobj r.ptr name age 0 (-1) nilS 0 g3 0)], [(g3, gobj nilS 0 0 0 0 nilS)], [], []]) (by simp) ?_
    refine j_q (qs_ac) ?_
    refine j_loop (fun m vs S' => ∃ (p : Nat) (t : GS) (fl : Int), vs = [.int .i64 (p : Int)] ∧ S' = [[(g5, .cells (jl r.ptr name age 0 fl t.v ((sizeG t.gs : Nat) : Int) g3 0).toArray 68 (0, 0))], [(g3, gobj nilS 0 0 0 0 nilS)], t.c, t.gl] ∧ t.Ok ∧ ((p = 0 ∧ t = ⟨nilS, [], []⟩ ∧ fl = -1) ∨ (p = 1 ∧ t.gs = gs ∧ gs ≠ [] ∧ fl = ((gsE gs).length : Int))) ∧ m = 1 - p) ⟨_, 0, ⟨nilS, [], []⟩, -1, rfl, rfl, gs0, .inl ⟨rfl, rfl, rfl⟩, rfl⟩ ?_
    rintro m vs S' hlen ⟨p, t, fl, rfl, rfl, hto, hcase, rfl⟩
    have hp1 : p ≤ 1 := by rcases hcase with ⟨h, _⟩ | ⟨h, _⟩ <;> omega
    refine j_q (qs_call ent33 rfl rfl rfl (fun w' hw' => file_con g5 r.ptr name age p _ w' (hw'.at_ (k := 0) rfl) (hP.keep hw' (by simp)) (by omega) (by omega) hnl)) ?_
    refine j_call0 ent43 rfl rfl rfl (fun w' hw' => readRO_con r a (fileN name age p) w' (in_keep0 hin hw') hok (strOk_file hnl (by omega) (by omega))) (fun u S2 hu => ?_)
    obtain ⟨v19, c19, rfl, rfl, ho19⟩ := hu
    refine j_q (qs_ext (vs := [v19, .int .i64 (readE a.now (fileN name age p))]) rfl rfl) ?_
    refine j_q (qs_ext (vs := [v19, .int .i64 (readE a.now (fileN name age p))]) rfl rfl) ?_
    refine j_q (qs_neq rfl rfl) ?_
    refine j_cond rfl (fun hc1 => ?_) (fun hc1 => ?_)
    · skip
      have hno : alook a.now.nm (fileN name age p) = none := readE_1.1 (by simpa using hc1)
      have htg : t.gs = gs ∧ fl = fillE gs := by
        rcases hcase with ⟨h1, h2, h3⟩ | ⟨h1, h2, h3, h4⟩
        · rcases hj.f0 with ⟨h5, _⟩ | ⟨_, h5, _⟩
          · rw [h2, h3, h5]
            exact ⟨rfl, rfl⟩
          · rw [h1] at hno
            exact absurd hno h5
        · exact ⟨h2, by rw [h4, fillE, if_neg h3]⟩
      refine j_q (qs_ac) ?_
      refine j_subl (S' := [[(g5, .cells (jl r.ptr name age 0 fl t.v ((sizeG t.gs : Nat) : Int) g3 0).toArray 68 (0, 0))], [(g3, gobj nilS 0 0 0 0 nilS)], t.c, t.gl]) (by repeat first | exact slR _ | exact slN _ | apply slC | apply slD) ?_
      refine j_perm (S' := [JM.heap ⟨g5, g3, r.ptr, name, age, fl, t, ⟨nilS, [], []⟩, 0⟩]) (by
        exact perm_jm ⟨g5, g3, r.ptr, name, age, fl, t, ⟨nilS, [], []⟩, 0⟩) ?_
      refine j_ret_con (vs := [_, _]) (fun w' hw' => ⟨rfl, rfl, trivial⟩) ?_
      exact ⟨⟨g5, g3, r.ptr, name, age, fl, t, ⟨nilS, [], []⟩, 0⟩, rfl, rfl, ⟨hto, rr0, rfl, rfl, htg.1, rfl, rfl, fun _ => htg.2⟩, rfl⟩
    · skip
      have hyes : alook a.now.nm (fileN name age p) ≠ none := readE_0.1 (by simpa using hc1)
      obtain ⟨rfl, rfl, rfl⟩ : p = 0 ∧ t = ⟨nilS, [], []⟩ ∧ fl = -1 := by
        rcases hcase with h | ⟨h1, _⟩
        · exact h
        · rw [h1] at hyes
          exact absurd hj.f1 hyes
      obtain ⟨hgn, _, hcon⟩ : gs ≠ [] ∧ alook a.now.nm (fileN name age 0) ≠ none ∧ contA a.now (fileN name age 0) = gsE gs := by
        rcases hj.f0 with ⟨_, h⟩ | h
        · exact absurd h hyes
        · exact h
      rw [hcon] at ho19
      obtain ⟨n19, A19, cap19, rfl, hn19⟩ := own_form ho19 (by decide)
      rw [ints_length, Nat.mul_one] at hn19
      subst hn19
      have hcp : (gsE gs).length ≤ cap19 := own_cap ho19
      refine j_q (qs_lenl Tryz.underlying39 rfl) ?_
      refine j_q (qs_nil rfl) ?_
      refine j_q (qs_field Tryz.underlying68 rfl sz3 (by decide) rfl) ?_
      refine j_store (l := jl r.ptr name age 0 (-1) nilS 0 g3 0) 1 sz3 rfl rfl rfl rfl (by simp) (by simp) ?_
      refine j_q (qs_nil rfl) ?_
      refine j_q (qs_field Tryz.underlying68 rfl sz3 (by decide) rfl) ?_
      refine j_store (l := jl r.ptr name age 0 (-1) nilS 0 g3 0) 1 sz3 rfl rfl rfl rfl (by simp) (by simp) ?_
      refine j_subl (S' := [c19, [(g5, .cells (jl r.ptr name age 0 ((gsE gs).length : Int) nilS 0 g3 0).toArray 68 (0, 0))], [(g3, gobj nilS 0 0 0 0 nilS)]]) (by repeat first | exact slR _ | exact slN _ | apply slC | apply slD) ?_
      refine j_perm (S' := [c19 ++ (g5, .cells (jl r.ptr name age 0 ((gsE gs).length : Int) nilS 0 g3 0).toArray 68 (0, 0)) :: GS.heap ⟨nilS, [], []⟩, [(g3, gobj nilS 0 0 0 0 nilS)]]) (by
        classical
        refine List.perm_iff_count.2 fun x => ?_
        simp only [RR.heap, GR.heap, GS.heap, GS.gl, List.map_nil, JM.heap, List.set, List.flatten_cons, List.flatten_nil, List.append_nil, List.nil_append, List.cons_append, List.count_append, List.count_cons, List.count_nil]
        omega) ?_
      refine j_call 0 ent45 rfl rfl rfl rfl (fun w' hw' => jread_con g5 r.ptr name age 0 ((gsE gs).length : Int) ⟨nilS, [], []⟩ 0 g3 0 gs A19 cap19 c19 w' gs0 (fun w h => own_brI ho19 h) hcp hl (by decide) (by decide)) (fun u S2 hu => ?_)
      obtain ⟨t2, rfl, rfl, hto2, hts2⟩ := hu
      refine j_q (qs_not rfl) ?_
      refine j_cond rfl (fun hc2 => ?_) (fun hc2 => ?_)
      · skip
        simp at hc2
      · skip
        refine j_q (qs_add64 rfl rfl (by decide)) ?_
        refine j_subl (S' := [[(g5, .cells (jl r.ptr name age 0 ((gsE gs).length : Int) t2.v (0 + ((sizeG gs : Nat) : Int)) g3 0).toArray 68 (0, 0))], t2.c, t2.gl, [(g3, gobj nilS 0 0 0 0 nilS)]]) (by repeat first | exact slR _ | exact slN _ | apply slC | apply slD) ?_
        refine j_perm (S' := [[(g5, .cells (jl r.ptr name age 0 ((gsE gs).length : Int) t2.v (0 + ((sizeG gs : Nat) : Int)) g3 0).toArray 68 (0, 0))], [(g3, gobj nilS 0 0 0 0 nilS)], t2.c, t2.gl]) (by
          classical
          refine List.perm_iff_count.2 fun x => ?_
          simp only [RR.heap, GR.heap, GS.heap, JM.heap, List.set, List.flatten_cons, List.flatten_nil, List.append_nil, List.nil_append, List.cons_append, List.count_append, List.count_cons, List.count_nil]
          omega) ?_
        refine j_back rfl ?_
        have hts3 : t2.gs = gs := hts2
        refine ⟨_, by omega, 1, t2, _, rfl, ?_, hto2, .inr ⟨rfl, hts3, hgn, rfl⟩, rfl⟩
        rw [hts3, Int.zero_add]
  · skip
    have hrd : readE a.now name ≠ 0 := by simpa using hc0
    have hag : age = 0 := by
      rcases hj.hd with ⟨h, _⟩ | ⟨h, _⟩
      · exact h
      · exact absurd (readE_1.1 hrd) h
    subst hag
    refine j_subl (S' := [[(g5, .cells (jl r.ptr name 0 0 0 nilS 0 g3 0).toArray 68 (0, 0))], [(g3, gobj nilS 0 0 0 0 nilS)]]) (by repeat first | exact slR _ | exact slN _ | apply slC | apply slD) ?_
    refine j_q (qs_nil rfl) ?_
    refine j_q (qs_field Tryz.underlying68 rfl sz3 (by decide) rfl) ?_
    refine j_store (l := jl r.ptr name 0 0 0 nilS 0 g3 0) 0 sz3 rfl rfl rfl rfl (by simp) (by simp) ?_
    refine j_subl (S' := [[(g5, jobj r.ptr name 0 0 (-1) nilS 0 g3 0)], [(g3, gobj nilS 0 0 0 0 nilS)]]) (by repeat first | exact slR _ | exact slN _ | apply slC | apply slD) ?_
    refine j_perm (S' := [[(g5, jobj r.ptr name 0 0 (-1) nilS 0 g3 0)], [(g3, gobj nilS 0 0 0 0 nilS)], [], []]) (by simp) ?_
    refine j_q (qs_ac) ?_
    refine j_loop (fun m vs S' => ∃ (p : Nat) (t : GS) (fl : Int), vs = [.int .i64 (p : Int)] ∧ S' = [[(g5, .cells (jl r.ptr name 0 0 fl t.v ((sizeG t.gs : Nat) : Int) g3 0).toArray 68 (0, 0))], [(g3, gobj nilS 0 0 0 0 nilS)], t.c, t.gl] ∧ t.Ok ∧ ((p = 0 ∧ t = ⟨nilS, [], []⟩ ∧ fl = -1) ∨ (p = 1 ∧ t.gs = gs ∧ gs ≠ [] ∧ fl = ((gsE gs).length : Int))) ∧ m = 1 - p) ⟨_, 0, ⟨nilS, [], []⟩, -1, rfl, rfl, gs0, .inl ⟨rfl, rfl, rfl⟩, rfl⟩ ?_
    rintro m vs S' hlen ⟨p, t, fl, rfl, rfl, hto, hcase, rfl⟩
    have hp1 : p ≤ 1 := by rcases hcase with ⟨h, _⟩ | ⟨h, _⟩ <;> omega
    refine j_q (qs_call ent33 rfl rfl rfl (fun w' hw' => file_con g5 r.ptr name 0 p _ w' (hw'.at_ (k := 0) rfl) (hP.keep hw' (by simp)) (by omega) (by omega) hnl)) ?_
    refine j_call0 ent43 rfl rfl rfl (fun w' hw' => readRO_con r a (fileN name 0 p) w' (in_keep0 hin hw') hok (strOk_file hnl (by omega) (by omega))) (fun u S2 hu => ?_)
    obtain ⟨v19, c19, rfl, rfl, ho19⟩ := hu
    refine j_q (qs_ext (vs := [v19, .int .i64 (readE a.now (fileN name 0 p))]) rfl rfl) ?_
    refine j_q (qs_ext (vs := [v19, .int .i64 (readE a.now (fileN name 0 p))]) rfl rfl) ?_
    refine j_q (qs_neq rfl rfl) ?_
    refine j_cond rfl (fun hc3 => ?_) (fun hc3 => ?_)
    · skip
      have hno : alook a.now.nm (fileN name 0 p) = none := readE_1.1 (by simpa using hc3)
      have htg : t.gs = gs ∧ fl = fillE gs := by
        rcases hcase with ⟨h1, h2, h3⟩ | ⟨h1, h2, h3, h4⟩
        · rcases hj.f0 with ⟨h5, _⟩ | ⟨_, h5, _⟩
          · rw [h2, h3, h5]
            exact ⟨rfl, rfl⟩
          · rw [h1] at hno
            exact absurd hno h5
        · exact ⟨h2, by rw [h4, fillE, if_neg h3]⟩
      refine j_q (qs_ac) ?_
      refine j_subl (S' := [[(g5, .cells (jl r.ptr name 0 0 fl t.v ((sizeG t.gs : Nat) : Int) g3 0).toArray 68 (0, 0))], [(g3, gobj nilS 0 0 0 0 nilS)], t.c, t.gl]) (by repeat first | exact slR _ | exact slN _ | apply slC | apply slD) ?_
      refine j_perm (S' := [JM.heap ⟨g5, g3, r.ptr, name, 0, fl, t, ⟨nilS, [], []⟩, 0⟩]) (by
        exact perm_jm ⟨g5, g3, r.ptr, name, 0, fl, t, ⟨nilS, [], []⟩, 0⟩) ?_
      refine j_ret_con (vs := [_, _]) (fun w' hw' => ⟨rfl, rfl, trivial⟩) ?_
      exact ⟨⟨g5, g3, r.ptr, name, 0, fl, t, ⟨nilS, [], []⟩, 0⟩, rfl, rfl, ⟨hto, rr0, rfl, rfl, htg.1, rfl, rfl, fun _ => htg.2⟩, rfl⟩
    · skip
      have hyes : alook a.now.nm (fileN name 0 p) ≠ none := readE_0.1 (by simpa using hc3)
      obtain ⟨rfl, rfl, rfl⟩ : p = 0 ∧ t = ⟨nilS, [], []⟩ ∧ fl = -1 := by
        rcases hcase with h | ⟨h1, _⟩
        · exact h
        · rw [h1] at hyes
          exact absurd hj.f1 hyes
      obtain ⟨hgn, _, hcon⟩ : gs ≠ [] ∧ alook a.now.nm (fileN name 0 0) ≠ none ∧ contA a.now (fileN name 0 0) = gsE gs := by
        rcases hj.f0 with ⟨_, h⟩ | h
        · exact absurd h hyes
        · exact h
      rw [hcon] at ho19
      obtain ⟨n19, A19, cap19, rfl, hn19⟩ := own_form ho19 (by decide)
      rw [ints_length, Nat.mul_one] at hn19
      subst hn19
      have hcp : (gsE gs).length ≤ cap19 := own_cap ho19
      refine j_q (qs_lenl Tryz.underlying39 rfl) ?_
      refine j_q (qs_nil rfl) ?_
      refine j_q (qs_field Tryz.underlying68 rfl sz3 (by decide) rfl) ?_
      refine j_store (l := jl r.ptr name 0 0 (-1) nilS 0 g3 0) 1 sz3 rfl rfl rfl rfl (by simp) (by simp) ?_
      refine j_q (qs_nil rfl) ?_
      refine j_q (qs_field Tryz.underlying68 rfl sz3 (by decide) rfl) ?_
      refine j_store (l := jl r.ptr name 0 0 (-1) nilS 0 g3 0) 1 sz3 rfl rfl rfl rfl (by simp) (by simp) ?_
      refine j_subl (S' := [c19, [(g5, .cells (jl r.ptr name 0 0 ((gsE gs).length : Int) nilS 0 g3 0).toArray 68 (0, 0))], [(g3, gobj nilS 0 0 0 0 nilS)]]) (by repeat first | exact slR _ | exact slN _ | apply slC | apply slD) ?_
      refine j_perm (S' := [c19 ++ (g5, .cells (jl r.ptr name 0 0 ((gsE gs).length : Int) nilS 0 g3 0).toArray 68 (0, 0)) :: GS.heap ⟨nilS, [], []⟩, [(g3, gobj nilS 0 0 0 0 nilS)]]) (by
        classical
        refine List.perm_iff_count.2 fun x => ?_
        simp only [RR.heap, GR.heap, GS.heap, GS.gl, List.map_nil, JM.heap, List.set, List.flatten_cons, List.flatten_nil, List.append_nil, List.nil_append, List.cons_append, List.count_append, List.count_cons, List.count_nil]
        omega) ?_
      refine j_call 0 ent45 rfl rfl rfl rfl (fun w' hw' => jread_con g5 r.ptr name 0 0 ((gsE gs).length : Int) ⟨nilS, [], []⟩ 0 g3 0 gs A19 cap19 c19 w' gs0 (fun w h => own_brI ho19 h) hcp hl (by decide) (by decide)) (fun u S2 hu => ?_)
      obtain ⟨t2, rfl, rfl, hto2, hts2⟩ := hu
      refine j_q (qs_not rfl) ?_
      refine j_cond rfl (fun hc4 => ?_) (fun hc4 => ?_)
      · skip
        simp at hc4
      · skip
        refine j_q (qs_add64 rfl rfl (by decide)) ?_
        refine j_subl (S' := [[(g5, .cells (jl r.ptr name 0 0 ((gsE gs).length : Int) t2.v (0 + ((sizeG gs : Nat) : Int)) g3 0).toArray 68 (0, 0))], t2.c, t2.gl, [(g3, gobj nilS 0 0 0 0 nilS)]]) (by repeat first | exact slR _ | exact slN _ | apply slC | apply slD) ?_
        refine j_perm (S' := [[(g5, .cells (jl r.ptr name 0 0 ((gsE gs).length : Int) t2.v (0 + ((sizeG gs : Nat) : Int)) g3 0).toArray 68 (0, 0))], [(g3, gobj nilS 0 0 0 0 nilS)], t2.c, t2.gl]) (by
          classical
          refine List.perm_iff_count.2 fun x => ?_
          simp only [RR.heap, GR.heap, GS.heap, JM.heap, List.set, List.flatten_cons, List.flatten_nil, List.append_nil, List.nil_append, List.cons_append, List.count_append, List.count_cons, List.count_nil]
          omega) ?_
        refine j_back rfl ?_
        have hts3 : t2.gs = gs := hts2
        refine ⟨_, by omega, 1, t2, _, rfl, ?_, hto2, .inr ⟨rfl, hts3, hgn, rfl⟩, rfl⟩
        rw [hts3, Int.zero_add]
end Go.Proofs.YtomajiicjinekaaGreatDoor
/-! Jn9 -/
namespace Go.Proofs.YtomajiicjinekaaGreatDoor
open Go Go.Sx
set_option maxRecDepth 100000
set_option maxHeartbeats 4000000
set_option linter.unusedVariables false
set_option linter.unusedSimpArgs false
attribute [local irreducible] J JQ QS Con W opW
abbrev JM.jl (j : JM) : List Value := Go.Proofs.YtomajiicjinekaaGreatDoor.jl j.fp j.name j.age 0 j.fl j.s.v ((sizeG j.s.gs : Nat) : Int) j.lg j.dead
abbrev JM.ll (j : JM) : List Value := gl j.laid.v ((sizeR j.laid.rs : Nat) : Int) 0 0 0 nilS
def mayJ (a : JA) : Int := if a.dead then 26 else 0
def addJ (a : JA) (x : List UInt8) : JA := if a.dead then a else { a with down := a.down ++ [x] }
theorem sizeR_snoc (rs : List (List UInt8)) (x : List UInt8) : sizeR (rs ++ [x]) = sizeR rs + x.length := by
  unfold sizeR
  rw [List.map_append, List.sum_append]
  simp
theorem perm_j5 (j : JM) : j.heap.Perm ([[(j.gj, j.obj)], [(j.lg, j.lobj)], j.s.heap, j.laid.c, j.laid.lf] : List SH).flatten := by
  classical
  refine List.perm_iff_count.2 fun x => ?_
  simp only [RR.heap, JM.heap, List.flatten_cons, List.flatten_nil, List.append_nil, List.nil_append, List.cons_append, List.count_append, List.count_cons, List.count_nil]
  all_goals omega
theorem jadd_perm (j : JM) {v : Value} {c : SH} {xs : List UInt8} {xv : Value} {xc : SH} : ([xc, [(j.gj, j.obj)], [(j.lg, gobj v (((sizeR j.laid.rs : Nat) : Int) + (xs.length : Int)) 0 0 0 nilS)], j.s.heap, c, j.laid.lf] : List SH).flatten.Perm [JM.heap ⟨j.gj, j.lg, j.fp, j.name, j.age, j.fl, j.s, j.laid.add v c xs xv xc, j.dead⟩].flatten := by
  have e : JM.lobj ⟨j.gj, j.lg, j.fp, j.name, j.age, j.fl, j.s, j.laid.add v c xs xv xc, j.dead⟩ = gobj v (((sizeR j.laid.rs : Nat) : Int) + (xs.length : Int)) 0 0 0 nilS := by
    unfold JM.lobj
    simp only
    rw [RR.add_rs, sizeR_snoc, Int.natCast_add]
    rfl
  have e2 : RR.heap (j.laid.add v c xs xv xc) = c ++ (j.laid.lf ++ xc) := by
    unfold RR.heap
    rw [RR.add_lf]
    rfl
  classical
  refine List.perm_iff_count.2 fun x => ?_
  have e3 : JM.obj ⟨j.gj, j.lg, j.fp, j.name, j.age, j.fl, j.s, j.laid.add v c xs xv xc, j.dead⟩ = j.obj := rfl
  unfold JM.heap
  rw [e, e3]
  simp only
  rw [e2]
  simp only [List.flatten_cons, List.flatten_nil, List.append_nil, List.nil_append, List.cons_append, List.count_append, List.count_cons, List.count_nil]
  omega
attribute [local irreducible] sum gsE headE fileN contA readE
theorem b32_con (w : World) : Con Tryz.prog 83 [.bool true] w [] fun v _ => v = .int .u32 1 := by
  refine con_of_tree mix Tryz.func83 T83_ok (by kernel_rfl) ?_
  unfold T83
  refine j_q (qs_ac) ?_
  refine j_cond rfl (fun hc0 => ?_) (fun hc0 => ?_)
  · skip
    refine j_q (qs_ac) ?_
    refine j_ret_con (vs := [_]) (fun w' hw' => ⟨rfl, trivial⟩) ?_
    rfl
  · skip
    simp at hc0
theorem bstore_con (g i : Nat) (l : List Value) (e : TypeId) (n : Int) (w : World) (hi : l[i]? = some (.int .u32 n)) : Con Tryz.prog 61 [.pointer (some ⟨g, i, none⟩), .bool true] w [(g, .cells l.toArray e (0, 0))] fun v S' => v = .tuple #[] ∧ S' = [[(g, .cells (l.set i (.int .u32 1)).toArray e (0, 0))]] := by
  refine con_of_tree mix Tryz.func61 T61_ok (by kernel_rfl) ?_
  unfold T61
  refine j_mix [] (Le.of_sub (List.nil_sublist _)) ?_
  refine j_mq (qs_nil rfl) ?_
  refine j_mq (qs_field Tryz.underlying66 rfl sz64 (by decide) rfl) ?_
  refine j_q (qs_call ent83 rfl rfl rfl (fun w' hw' => b32_con w')) ?_
  refine j_mD0 (Le.of_sub (by repeat first | exact slR _ | exact slN _ | apply slC | apply slD)) ?_
  refine j_extset (u := .int .u32 1) 0 rfl rfl rfl rfl (fun w' hw' => run_call_store Tryz.func82 (by kernel_rfl) (by kernel_rfl) (by kernel_rfl) (by kernel_rfl) (k := .u32) (y := 1) (by rw [cell_of hw']; exact hi) (notFrozen hw')) ?_
  refine j_mR _ (.refl _) ?_
  refine j_mend ?_
  refine j_ret_con (vs := []) (fun w' hw' => trivial) ?_
  exact ⟨rfl, rfl⟩
theorem jmay_con (j : JM) (a : JA) (w : World) (hok : j.Ok a) (hc : w.heap[j.gj]? = some j.obj) : Con Tryz.prog 29 [j.ptr] w [] fun v _ => v = .int .i64 (mayJ a) := by
  refine con_of_tree mix Tryz.func29 T29_ok (by kernel_rfl) ?_
  unfold T29
  refine j_q (qs_ac) ?_
  refine j_q (qs_pnil Tryz.underlying29 rfl) ?_
  refine j_cond rfl (fun hc0 => ?_) (fun hc0 => ?_)
  · skip
    simp at hc0
  · skip
    refine j_q (qs_nil rfl) ?_
    refine j_q (qs_field Tryz.underlying68 rfl sz66 (by decide) rfl) ?_
    refine j_q (qs_call ent46 rfl rfl rfl (fun w' hw' => bload_con j.gj 8 j.jl 68 (0, 0) j.dead w' ((hw'.frame j.gj (lt_of_get hc) (by simp)).trans hc) rfl)) ?_
    refine j_cond rfl (fun hc1 => ?_) (fun hc1 => ?_)
    · skip
      have hd : a.dead = true := by
        cases hx : a.dead
        · rw [hok.dd, hx] at hc1
          simp at hc1
        · rfl
      refine j_q (qs_ac) ?_
      refine j_ret_con (vs := [_]) (fun w' hw' => ⟨rfl, trivial⟩) ?_
      rw [mayJ, hd]
      rfl
    · skip
      have hd : a.dead = false := by
        cases hx : a.dead
        · rfl
        · rw [hok.dd, hx] at hc1
          simp at hc1
      refine j_q (qs_ac) ?_
      refine j_ret_con (vs := [_]) (fun w' hw' => ⟨rfl, trivial⟩) ?_
      rw [mayJ, hd]
      rfl
theorem jadd_con (j : JM) (a : JA) (bv : Value) (xs : List UInt8) (w : World) (hok : j.Ok a) (hbr : BR w bv xs) (hbd : ∀ (a : Addr) (m c : Nat), bv = .slice (some a) m c → 0 < m → a.block ∉ dom j.heap) (hsz : sizeR a.down + xs.length ≤ 24000) (hdn : a.down.length ≤ 1000) : Con Tryz.prog 16 [j.ptr, bv] w j.heap fun u S' => u = .int .i64 (mayJ a) ∧ ∃ j' : JM, S' = [j'.heap] ∧ j'.Ok (addJ a xs) ∧ j'.gj = j.gj ∧ j'.fp = j.fp := by
  refine con_of_tree mix Tryz.func16 T16_ok (by kernel_rfl) ?_
  unfold T16
  obtain ⟨Ab, capb, rfl, hcapb⟩ := br_form hbr
  obtain ⟨A, cap, hv, hA⟩ := hok.l.form
  have hlr : j.laid.L.length = a.down.length := by
    rw [← hok.dn]
    exact (List.length_map _).symm
  rw [← hok.dn] at hsz
  refine j_perm (S' := [[(j.gj, j.obj)], [(j.lg, j.lobj)], j.s.heap, j.laid.c, j.laid.lf]) (by simpa using perm_j5 j) ?_
  refine j_q (qs_ac) ?_
  refine j_q (qs_call ent29 rfl rfl rfl (fun w' hw' => jmay_con j a w' hok (hw'.at_ (k := 0) rfl))) ?_
  refine j_q (qs_neq rfl rfl) ?_
  refine j_cond rfl (fun hc0 => ?_) (fun hc0 => ?_)
  · skip
    have hd : a.dead = true := by
      cases hx : a.dead
      · unfold mayJ at hc0
        rw [hx] at hc0
        simp at hc0
      · rfl
    refine j_perm (S' := [j.heap]) (by simpa using (perm_j5 j).symm) ?_
    refine j_ret_con (vs := [_]) (fun w' hw' => ⟨rfl, trivial⟩) ?_
    exact ⟨rfl, j, rfl, by rw [addJ, hd, if_pos rfl]; exact hok, rfl, rfl⟩
  · skip
    have hd : a.dead = false := by
      cases hx : a.dead
      · rfl
      · unfold mayJ at hc0
        rw [hx] at hc0
        simp at hc0
    refine j_q (qs_lenl Tryz.underlying39 rfl) ?_
    refine j_q (qs_nil rfl) ?_
    refine j_q (qs_field Tryz.underlying68 rfl sz61 (by decide) rfl) ?_
    refine j_q (qs_load (l := j.jl) (v := .pointer (some ⟨j.lg, 0, none⟩)) 0 Tryz.underlying61 rfl rfl rfl rfl) ?_
    refine j_q (qs_nil rfl) ?_
    refine j_q (qs_field Tryz.underlying77 rfl sz3 (by decide) rfl) ?_
    refine j_q (qs_load (l := j.ll) (v := .int .i64 ((sizeR j.laid.rs : Nat) : Int)) 1 Tryz.underlying3 rfl rfl rfl rfl) ?_
    refine j_q (qs_sub64 rfl rfl (by first | omega | (simp only [bnA] at *; omega))) ?_
    refine j_q (qs_gtr rfl rfl) ?_
    rw [decide_eq_false (show ¬ (xs.length : Int) > 524288 - ((sizeR j.laid.rs : Nat) : Int) by omega)]
    refine j_gt rfl (qs_mt rfl) ?_
    refine j_gt rfl (qs_nil rfl) ?_
    refine j_gt rfl (qs_field Tryz.underlying68 rfl sz61 (by decide) rfl) ?_
    refine j_gt rfl (qs_load (l := j.jl) (v := .pointer (some ⟨j.lg, 0, none⟩)) 0 Tryz.underlying61 rfl rfl rfl rfl) ?_
    refine j_gt rfl (qs_nil rfl) ?_
    refine j_gt rfl (qs_field Tryz.underlying77 rfl sz34 (by decide) rfl) ?_
    refine j_gt rfl (qs_load (l := j.ll) (v := j.laid.v) 1 Tryz.underlying34 rfl rfl rfl rfl) ?_
    rw [hv]
    refine j_gt rfl (qs_lenl Tryz.underlying34 rfl) ?_
    refine j_gt rfl (qs_geq rfl rfl) ?_
    rw [decide_eq_false (show ¬ ((j.laid.L.length : Nat) : Int) ≥ 4096 by omega)]
    refine j_q (qs_or rfl rfl) ?_
    refine j_cond rfl (fun hc1 => ?_) (fun hc1 => ?_)
    · skip
      simp at hc1
    · skip
      refine j_mix [[(j.gj, j.obj)], [(j.lg, j.lobj)]] (Le.of_sub (by repeat first | exact slR _ | exact slN _ | apply slC | apply slD)) ?_
      refine j_mq (qs_nil rfl) ?_
      refine j_mq (qs_field Tryz.underlying68 rfl sz61 (by decide) rfl) ?_
      refine j_mq (qs_load (l := j.jl) (v := .pointer (some ⟨j.lg, 0, none⟩)) 0 Tryz.underlying61 rfl rfl rfl rfl) ?_
      refine j_mq (qs_nil rfl) ?_
      refine j_mq (qs_field Tryz.underlying68 rfl sz61 (by decide) rfl) ?_
      refine j_mq (qs_load (l := j.jl) (v := .pointer (some ⟨j.lg, 0, none⟩)) 0 Tryz.underlying61 rfl rfl rfl rfl) ?_
      refine j_mq (qs_nil rfl) ?_
      refine j_mq (qs_field Tryz.underlying77 rfl sz34 (by decide) rfl) ?_
      refine j_mq (qs_load (l := j.ll) (v := j.laid.v) 1 Tryz.underlying34 rfl rfl rfl rfl) ?_
      refine j_call0 ent27 rfl rfl rfl (fun w' hw' => cloneO_con _ xs w' (br_keep hbr hbd hw') (by omega)) (fun u S2 hu => ?_)
      obtain ⟨c32, rfl, ho32⟩ := hu
      obtain ⟨n32, A32, cap32, rfl, hn32⟩ := own_form ho32 (by decide)
      refine j_mD0 (Le.of_sub (by repeat first | exact slR _ | exact slN _ | apply slC | apply slD)) ?_
      refine j_lit (vs := [.slice A32 n32 cap32]) Tryz.underlying34 sz39 zero39 rfl (by simp [oneV]) ⟨rfl, by decide⟩ (fun g33 v33 c33 hv33 hc33 ho33 => ?_)
      subst hv33 hc33
      refine j_mD0 (Le.of_sub (by repeat first | exact slR _ | exact slN _ | apply slC | apply slD)) ?_
      refine j_append 5 Tryz.underlying34 Tryz.underlying34 (.inr ⟨_, rfl⟩) sb39 zero39 rfl hok.l.row rfl (.inl ⟨_, _, rfl, rd_own (off := 0) (n := 1) 0 rfl rfl, rfl⟩) (by simp [oneV]) ⟨(by simp only [List.length_map]; simp; omega), (by decide)⟩ (fun v34 c34 ho34 => ?_)
      obtain ⟨n34, A34, cap34, rfl, hn34⟩ := own_form ho34 (by decide)
      refine j_mD0 (Le.of_sub (by repeat first | exact slR _ | exact slN _ | apply slC | apply slD)) ?_
      refine j_mq (qs_nil rfl) ?_
      refine j_mq (qs_field Tryz.underlying77 rfl sz34 (by decide) rfl) ?_
      refine j_store (l := j.ll) 3 sz34 rfl rfl rfl rfl (by simp) (by simp) ?_
      refine j_mR _ (.refl _) ?_
      refine j_mend ?_
      refine j_q (qs_nil rfl) ?_
      refine j_q (qs_field Tryz.underlying68 rfl sz61 (by decide) rfl) ?_
      refine j_q (qs_load (l := j.jl) (v := .pointer (some ⟨j.lg, 0, none⟩)) 2 Tryz.underlying61 rfl rfl rfl rfl) ?_
      refine j_q (qs_nil rfl) ?_
      refine j_q (qs_field Tryz.underlying77 rfl sz3 (by decide) rfl) ?_
      refine j_q (qs_load (l := (gl (.slice A34 n34 cap34) ((sizeR j.laid.rs : Nat) : Int) 0 0 0 nilS)) (v := .int .i64 ((sizeR j.laid.rs : Nat) : Int)) 3 Tryz.underlying3 rfl rfl rfl rfl) ?_
      refine j_q (qs_lenl Tryz.underlying39 rfl) ?_
      refine j_q (qs_add64 rfl rfl (by first | omega | (simp only [bnA] at *; omega))) ?_
      refine j_q (qs_nil rfl) ?_
      refine j_q (qs_field Tryz.underlying77 rfl sz3 (by decide) rfl) ?_
      refine j_store (l := (gl (.slice A34 n34 cap34) ((sizeR j.laid.rs : Nat) : Int) 0 0 0 nilS)) 3 sz3 rfl rfl rfl rfl (by simp) (by simp) ?_
      refine j_q (qs_ac) ?_
      refine j_subl (S' := [c32, [(j.gj, j.obj)], [(j.lg, gobj (.slice A34 n34 cap34) (((sizeR j.laid.rs : Nat) : Int) + (xs.length : Int)) 0 0 0 nilS)], j.s.heap, c34, j.laid.lf]) (by repeat first | exact slR _ | exact slN _ | apply slC | apply slD) ?_
      refine j_perm (S' := [JM.heap ⟨j.gj, j.lg, j.fp, j.name, j.age, j.fl, j.s, j.laid.add (.slice A34 n34 cap34) c34 xs (.slice A32 n32 cap32) c32, j.dead⟩]) (jadd_perm j) ?_
      refine j_ret_con (vs := [_]) (fun w' hw' => ⟨rfl, trivial⟩) ?_
      exact ⟨by rw [mayJ, hd]; rfl, ⟨j.gj, j.lg, j.fp, j.name, j.age, j.fl, j.s, j.laid.add (.slice A34 n34 cap34) c34 xs (.slice A32 n32 cap32) c32, j.dead⟩, rfl, by rw [addJ, hd, if_neg (by simp)]; exact ⟨hok.s, hok.l.add ho34 ho32, hok.nm, hok.ag, hok.gs, by rw [RR.add_rs, hok.dn], by rw [hok.dd, hd], fun _ => hok.fl hd⟩, rfl, rfl⟩
end Go.Proofs.YtomajiicjinekaaGreatDoor
/-! Jn10 -/
namespace Go.Proofs.YtomajiicjinekaaGreatDoor
open Go Go.Sx
set_option maxRecDepth 100000
set_option maxHeartbeats 4000000
set_option linter.unusedVariables false
set_option linter.unusedSimpArgs false
attribute [local irreducible] J JQ QS Con W opW
structure NR where
  v : Value
  c : SH
  L : List RR
def NR.lf (n : NR) : SH := (n.L.map RR.heap).flatten
def NR.gs (n : NR) : List (List (List UInt8)) := n.L.map RR.rs
structure NR.Ok (n : NR) : Prop where
  row : Sx.Own 34 1 (n.L.map RR.v) n.v n.c
  rr : ∀ x ∈ n.L, x.Ok
def NR.add (n : NR) (v : Value) (c : SH) (x : RR) : NR := ⟨v, c, n.L ++ [x]⟩
theorem NR.add_gs (n : NR) {v : Value} {c : SH} {x : RR} : (n.add v c x).gs = n.gs ++ [x.rs] := by
  unfold NR.gs NR.add
  rw [List.map_append]
  rfl
theorem NR.add_lf (n : NR) {v : Value} {c : SH} {x : RR} : (n.add v c x).lf = n.lf ++ x.heap := by
  unfold NR.lf NR.add
  rw [List.map_append, List.flatten_append, List.map_singleton, List.flatten_singleton]
theorem NR.Ok.add {n : NR} (h : n.Ok) {v : Value} {c : SH} {x : RR} (hv : Sx.Own 34 1 ((n.L.map RR.v) ++ [x.v]) v c) (hx : x.Ok) : (n.add v c x).Ok := by
  refine ⟨?_, fun t ht => ?_⟩
  · unfold NR.add
    rw [List.map_append]
    exact hv
  · rcases List.mem_append.1 ht with ht | ht
    · exact h.rr t ht
    · rw [List.mem_singleton.1 ht]
      exact hx
theorem nr0 : NR.Ok ⟨nilS, [], []⟩ := ⟨own_nil, fun t ht => by cases ht⟩
theorem own_cellsI {e : TypeId} {xs : List Value} {g n cap : Nat} {c : SH} {w : World} (h : Sx.Own e 1 xs (.slice (some ⟨g, 0, none⟩) n cap) c) (hin : In w c) : Cells w ⟨g, 0, none⟩ xs := by
  obtain ⟨rest, fz, rfl, h1, h2, h3, h4⟩ := own_row h
  intro j u hu
  rw [add_off, Nat.zero_add, cell_of (hin _ (List.mem_singleton.2 rfl))]
  show (xs ++ rest)[j]? = some u
  rw [List.getElem?_append_left (List.getElem?_eq_some_iff.1 hu).1]
  exact hu
theorem GS.Ok.form {s : GS} (h : s.Ok) : ∃ A cap, s.v = .slice A s.G.length cap ∧ (0 < s.G.length → ∃ g, A = some ⟨g, 0, none⟩) := by
  rcases h.row with ⟨h1, h2, h3⟩ | ⟨g, n, cap, rest, fz, h1, h2, h3, h4, h5, h6⟩
  · have : s.G = [] := by simpa using h2
    exact ⟨none, 0, by rw [h1, this]; rfl, fun hp => by rw [this] at hp; simp at hp⟩
  · rw [List.length_map, Nat.mul_one] at h3
    exact ⟨_, cap, by rw [h1, h3], fun _ => ⟨g, rfl⟩⟩
theorem GS.in_get {s : GS} {w : World} (h : In w s.heap) {x : GR} (hx : x ∈ s.G) : In w x.heap := fun q hq => h q (List.mem_append_right _ (List.mem_flatten.2 ⟨_, List.mem_map.2 ⟨x, hx, rfl⟩, hq⟩))
theorem JM.in_s {j : JM} {w : World} (h : In w j.heap) : In w j.s.heap := fun q hq => h q (List.mem_cons_of_mem _ (List.mem_cons_of_mem _ (List.mem_append_left _ hq)))
theorem JM.in_j {j : JM} {w : World} (h : In w j.heap) : w.heap[j.gj]? = some j.obj := h (j.gj, j.obj) (List.mem_cons_self ..)
theorem notin0 (g : Nat) : g ∉ dom [] := by simp [dom]
attribute [local irreducible] sum gsE headE fileN contA readE
theorem open_con (r : FR) (a : AF) (name : List UInt8) (age : Nat) (gs : List (List (List UInt8))) (w : World) (hin : In w r.heap) (hok : r.Ok a) (hj : JS name age gs a.now) (hl : limG gs) (hag : age < 10000) (hnl : name.length ≤ 100) (hn1 : 1 ≤ name.length) (hP : P10 w) : Con Tryz.prog 10 [r.ptr, .string (bs name)] w [] fun u S' => ∃ j : JM, u = .tuple #[j.ptr, .int .i64 0] ∧ S' = [j.heap] ∧ j.Ok ⟨name, age, gs, [], false⟩ ∧ j.fp = r.ptr := by
  refine con_of_tree mix Tryz.func10 T10_ok (by kernel_rfl) ?_
  unfold T10
  refine j_q (qs_ac) ?_
  refine j_q (qs_ac) ?_
  refine j_q (qs_pnil Tryz.underlying25 rfl) ?_
  refine j_gt rfl (qs_mt rfl) ?_
  refine j_gt rfl (qs_lens Tryz.underlying9 rfl) ?_
  refine j_gt rfl (qs_lss rfl rfl) ?_
  rw [decide_eq_false (show ¬ ((name.length : Nat) : Int) < 1 by omega)]
  refine j_q (qs_or rfl rfl) ?_
  refine j_gt rfl (qs_mt rfl) ?_
  refine j_gt rfl (qs_lens Tryz.underlying9 rfl) ?_
  refine j_gt rfl (qs_gtr rfl rfl) ?_
  rw [decide_eq_false (show ¬ ((name.length : Nat) : Int) > 100 by omega)]
  refine j_q (qs_or rfl rfl) ?_
  refine j_cond rfl (fun hc0 => ?_) (fun hc0 => ?_)
  · skip
    simp at hc0
  · skip
    refine j_call0 ent24 rfl rfl rfl (fun w' hw' => within_con r a name age gs w' (in_keep0 hin hw') hok hj hl hag (by omega) (hP.keep hw' (by simp))) (fun u S2 hu => ?_)
    obtain ⟨j, rfl, rfl, hjo, hjf⟩ := hu
    refine j_q (qs_ext rfl rfl) ?_
    refine j_q (qs_ext rfl rfl) ?_
    refine j_subl (S' := [j.heap]) (by repeat first | exact slR _ | exact slN _ | apply slC | apply slD) ?_
    refine j_ret_con (vs := [_, _]) (fun w' hw' => ⟨rfl, rfl, trivial⟩) ?_
    exact ⟨j, rfl, rfl, hjo, hjf⟩
theorem jgroups_con (j : JM) (a : JA) (w : World) (hin : In w j.heap) (hok : j.Ok a) (hl : limG a.gs) : Con Tryz.prog 12 [j.ptr] w [] fun u S' => ∃ n : NR, u = n.v ∧ S' = [n.c, n.lf] ∧ n.Ok ∧ n.gs = a.gs := by
  refine con_of_tree mix Tryz.func12 T12_ok (by kernel_rfl) ?_
  unfold T12
  obtain ⟨A, cap, hv, hA⟩ := hok.s.form
  have hgj : w.heap[j.gj]? = some (.cells j.jl.toArray 68 (0, 0)) := JM.in_j hin
  have hds := notin0
  have hl1 := hl.1
  have hgl : j.s.G.length = a.gs.length := by
    rw [← hok.gs]
    exact (List.length_map _).symm
  refine j_q (qs_ac) ?_
  refine j_q (qs_pnil Tryz.underlying29 rfl) ?_
  refine j_cond rfl (fun hc0 => ?_) (fun hc0 => ?_)
  · skip
    simp at hc0
  · skip
    refine j_q (qs_ac) ?_
    refine j_q (qs_nil rfl) ?_
    refine j_q (qs_field Tryz.underlying68 rfl sz60 (by decide) rfl) ?_
    refine j_q (qs_loadO (rdo_base hgj (hds _)) Tryz.underlying60 rfl rfl rfl) ?_
    rw [hv]
    refine j_perm (S' := [[], []]) (by simp) ?_
    refine j_q (qs_lenl Tryz.underlying60 rfl) ?_
    refine j_q (qs_mc) ?_
    refine j_loop (fun m vs S' => ∃ (i : Nat) (n : NR), vs = [n.v, .int .i64 (i : Int)] ∧ S' = [n.c, n.lf] ∧ n.Ok ∧ n.gs = j.s.gs.take i ∧ i ≤ j.s.G.length ∧ m = j.s.G.length - i) ⟨_, 0, ⟨nilS, [], []⟩, rfl, rfl, nr0, rfl, Nat.zero_le _, rfl⟩ ?_
    rintro m vs S' hlen ⟨i, n, rfl, rfl, hno, hng, hin2, rfl⟩
    refine j_q (qs_lss rfl rfl) ?_
    refine j_cond rfl (fun hc1 => ?_) (fun hc1 => ?_)
    · skip
      have hi : i < j.s.G.length := by
        simp only [bnA] at *
        omega
      obtain ⟨g0, hg0⟩ := hA (by omega)
      have hrow := hok.s.row
      rw [hv, hg0] at hrow
      have hsin := JM.in_s hin
      have hcl := own_cellsI hrow (fun q hq => hsin q (List.mem_append_left _ hq))
      obtain ⟨x, hx⟩ : ∃ x, x = j.s.G[i] := ⟨_, rfl⟩
      have hxm : x ∈ j.s.G := by rw [hx]; exact List.getElem_mem hi
      have hxh := GS.in_get hsin hxm
      have hxg : w.heap[x.g]? = some (.cells (x.r.v :: x.o).toArray 77 (0, 0)) := hxh (x.g, _) (List.mem_cons_self ..)
      have hxo := hok.s.rr x hxm
      obtain ⟨Ax, capx, hxv, hAx⟩ := hxo.form
      have hxlf : In w x.r.lf := fun q hq => hxh q (List.mem_cons_of_mem _ (List.mem_append_right _ hq))
      have hxc : In w x.r.c := fun q hq => hxh q (List.mem_cons_of_mem _ (List.mem_append_left _ hq))
      have hxl : limR x.r.rs := by
        refine hl.2 _ ?_
        rw [← hok.gs]
        exact List.mem_map.2 ⟨x, hxm, rfl⟩
      have hxn : x.r.rs.length = x.r.L.length := List.length_map _
      have hxl1 := hxl.1
      refine j_q (qs_ixl0 (a := ⟨g0, 0, none⟩) (n := j.s.G.length) (c := cap) Tryz.underlying60 sz61 (by show Value.slice A _ _ = _; rw [hg0]) rfl (by omega)) ?_
      refine j_q (qs_loadR (v := .pointer (some ⟨x.g, 0, none⟩)) (a := ⟨g0, 0, none⟩) (i := i) (rd_cells hcl (by simp)) Tryz.underlying61 rfl (by show Value.pointer (some (Addr.add ⟨g0, 0, none⟩ (i : Int).toNat)) = _; rw [Int.toNat_natCast]) (by rw [List.getElem?_map, List.getElem?_eq_getElem hi, hx]; rfl)) ?_
      refine j_q (qs_ac) ?_
      refine j_q (qs_nil rfl) ?_
      refine j_q (qs_field Tryz.underlying77 rfl sz34 (by decide) rfl) ?_
      refine j_q (qs_loadO (rdo_base hxg (hds _)) Tryz.underlying34 rfl rfl rfl) ?_
      rw [hxv]
      refine j_perm (S' := [n.c, n.lf, [], []]) (by simp) ?_
      refine j_q (qs_lenl Tryz.underlying34 rfl) ?_
      refine j_q (qs_mc) ?_
      refine j_loop (fun m vs S' => ∃ (k : Nat) (r : RR), vs = [r.v, .int .i64 (k : Int)] ∧ S' = [n.c, n.lf, r.c, r.lf] ∧ r.Ok ∧ r.rs = x.r.rs.take k ∧ k ≤ x.r.L.length ∧ m = x.r.L.length - k) ⟨_, 0, ⟨nilS, [], []⟩, rfl, rfl, rr0, rfl, Nat.zero_le _, rfl⟩ ?_
      rintro m vs S' hlen ⟨k, r, rfl, rfl, hro, hrs, hkn, rfl⟩
      refine j_q (qs_lss rfl rfl) ?_
      refine j_cond rfl (fun hc2 => ?_) (fun hc2 => ?_)
      · skip
        have hk : k < x.r.L.length := by
          simp only [bnA] at *
          omega
        obtain ⟨g1, hg1⟩ := hAx (by omega)
        have hrowx := hxo.row
        rw [hxv, hg1] at hrowx
        have hclx := own_cellsI hrowx hxc
        obtain ⟨t, ht⟩ : ∃ t, t = x.r.L[k] := ⟨_, rfl⟩
        have htm : t ∈ x.r.L := by rw [ht]; exact List.getElem_mem hk
        have htx : x.r.L[k]? = some t := by rw [ht]; exact List.getElem?_eq_getElem hk
        have htl : t.1.length ≤ 12000 := Nat.le_trans (sizeR_get (rs := x.r.rs) (List.mem_map.2 ⟨t, htm, rfl⟩)) hxl.2
        have hrl : r.L.length = k := by
          have h8 : r.rs.length = r.L.length := List.length_map _
          rw [← h8, hrs, List.length_take]
          omega
        refine j_q (qs_ixl0 (a := ⟨g1, 0, none⟩) (n := x.r.L.length) (c := capx) Tryz.underlying34 sz39 (by show Value.slice Ax _ _ = _; rw [hg1]) rfl (by omega)) ?_
        refine j_q (qs_loadR (v := t.2.1) (a := ⟨g1, 0, none⟩) (i := k) (rd_cells hclx (by simp)) Tryz.underlying39 rfl (by show Value.pointer (some (Addr.add ⟨g1, 0, none⟩ (k : Int).toNat)) = _; rw [Int.toNat_natCast]) (by rw [List.getElem?_map, htx]; rfl)) ?_
        refine j_call0 ent27 rfl rfl rfl (fun w' hw' => cloneO_con t.2.1 t.1 w' (br0 (hxo.br hxlf htm) hw') (by omega)) (fun u S2 hu => ?_)
        obtain ⟨c21, rfl, ho21⟩ := hu
        obtain ⟨n21, A21, cap21, rfl, hn21⟩ := own_form ho21 (by decide)
        refine j_lit (vs := [.slice A21 n21 cap21]) Tryz.underlying34 sz39 zero39 rfl (by simp [oneV]) ⟨rfl, by decide⟩ (fun g22 v22 c22 hv22 hc22 ho22 => ?_)
        subst hv22 hc22
        refine j_append 4 Tryz.underlying34 Tryz.underlying34 (.inr ⟨_, rfl⟩) sb39 zero39 rfl hro.row rfl (.inl ⟨_, _, rfl, rd_own (off := 0) (n := 1) 0 rfl rfl, rfl⟩) (by simp [oneV]) ⟨(by simp only [List.length_map]; simp; omega), (by decide)⟩ (fun v23 c23 ho23 => ?_)
        refine j_q (qs_add64 rfl rfl (by omega)) ?_
        refine j_subl (S' := [c21, n.c, n.lf, c23, r.lf]) (by repeat first | exact slR _ | exact slN _ | apply slC | apply slD) ?_
        refine j_perm (S' := [n.c, n.lf, c23, r.lf ++ c21]) (by
          classical
          refine List.perm_iff_count.2 fun x => ?_
          simp only [RR.heap, List.set, List.flatten_cons, List.flatten_nil, List.append_nil, List.nil_append, List.cons_append, List.count_append, List.count_cons, List.count_nil]
          omega) ?_
        refine j_back rfl ?_
        refine ⟨_, by omega, k + 1, r.add _ c23 t.1 (.slice A21 n21 cap21) c21, rfl, ?_, hro.add ho23 ho21, ?_, by omega, rfl⟩
        · rw [RR.add_lf]
          rfl
        · rw [RR.add_rs, hrs, List.take_add_one]
          unfold RR.rs
          rw [List.getElem?_map, htx]
          rfl
      · skip
        have hk : k = x.r.L.length := by
          simp only [bnA] at *
          omega
        have hnl : n.L.length = i := by
          have h8 : n.gs.length = n.L.length := List.length_map _
          rw [← h8, hng, List.length_take]
          have h9 : j.s.gs.length = j.s.G.length := List.length_map _
          omega
        obtain ⟨Ar, capr, hrv, _⟩ := hro.form
        rw [hrv]
        refine j_lit (vs := [.slice Ar r.L.length capr]) Tryz.underlying33 sz34 zero34 rfl (by simp [oneV]) ⟨rfl, by decide⟩ (fun g25 v25 c25 hv25 hc25 ho25 => ?_)
        subst hv25 hc25
        refine j_append 1 Tryz.underlying33 Tryz.underlying33 (.inr ⟨_, rfl⟩) sb34 zero34 rfl hno.row rfl (.inl ⟨_, _, rfl, rd_own (off := 0) (n := 1) 0 rfl rfl, rfl⟩) (by simp [oneV]) ⟨(by simp only [List.length_map]; simp; omega), (by decide)⟩ (fun v26 c26 ho26 => ?_)
        refine j_q (qs_add64 rfl rfl (by omega)) ?_
        refine j_subl (S' := [c26, n.lf, r.c, r.lf]) (by repeat first | exact slR _ | exact slN _ | apply slC | apply slD) ?_
        refine j_perm (S' := [c26, n.lf ++ r.heap]) (by simp [RR.heap]) ?_
        refine j_back rfl ?_
        refine ⟨_, by omega, i + 1, n.add _ c26 r, rfl, ?_, hno.add (by rw [hrv]; exact ho26) hro, ?_, by omega, rfl⟩
        · rw [NR.add_lf]
          rfl
        · rw [NR.add_gs, hng, List.take_add_one]
          unfold GS.gs
          rw [List.getElem?_map, List.getElem?_eq_getElem hi, hrs, hk, ← hxn, List.take_length, hx]
          rfl
    · skip
      have hi : i = j.s.G.length := by
        simp only [bnA] at *
        omega
      refine j_ret_con (vs := [_]) (fun w' hw' => ⟨rfl, trivial⟩) ?_
      refine ⟨n, rfl, rfl, hno, ?_⟩
      rw [hng, hi, ← hok.gs]
      have h9 : j.s.gs.length = j.s.G.length := List.length_map _
      rw [← h9, List.take_length]
end Go.Proofs.YtomajiicjinekaaGreatDoor
/-! Jn11 -/
namespace Go.Proofs.YtomajiicjinekaaGreatDoor
open Go Go.Sx
set_option maxRecDepth 100000
set_option maxHeartbeats 4000000
set_option linter.unusedVariables false
set_option linter.unusedSimpArgs false
attribute [local irreducible] J JQ QS Con W opW
def burnt (f : AF) : Bool := f.fused && decide (f.left = 0)
def comT (a : JA) (id : Nat) : AT := if a.gs = [] then .wr (fileN a.name a.age 0) (grpE a.down) id else .ap (fileN a.name a.age 0) (grpE a.down)
def comE (a : JA) (f : AF) (id : Nat) : Int := if a.dead then 26 else if a.down = [] then 0 else if burnt f then 26 else if burnt (stepF f (comT a id)) then 26 else 0
def comJ (a : JA) (f : AF) (id : Nat) : JA := if a.dead then a else if a.down = [] then a else if burnt f then { a with dead := true } else if burnt (stepF f (comT a id)) then { a with dead := true } else { a with gs := a.gs ++ [a.down], down := [] }
def comA (a : JA) (f : AF) (id : Nat) : AF := if a.dead then f else if a.down = [] then f else if burnt f then f else if burnt (stepF f (comT a id)) then stepF f (comT a id) else syncF (stepF f (comT a id))
theorem mayE_b (f : AF) {ns : List (List UInt8)} (h : ns.all nameOk = true) : mayE f.fused f.left ns = if burnt f then 26 else 0 := by
  unfold mayE burnt
  rw [h]
  simp
theorem sep_chunks {S : List SH} (hn : (dom S.flatten).Nodup) {k m g : Nat} {c H : SH} (hk : S[k]? = some c) (hm : S[m]? = some H) (hkm : k ≠ m) (h1 : g ∈ dom c) (h2 : g ∈ dom H) : False := by
  unfold dom at hn
  rw [List.map_flatten] at hn
  have h3 := (List.pairwise_flatten.1 hn).2
  have hk' : (S.map (List.map Prod.fst))[k]? = some (dom c) := by rw [List.getElem?_map, hk]; rfl
  have hm' : (S.map (List.map Prod.fst))[m]? = some (dom H) := by rw [List.getElem?_map, hm]; rfl
  obtain ⟨hkl, hk2⟩ := List.getElem?_eq_some_iff.1 hk'
  obtain ⟨hml, hm2⟩ := List.getElem?_eq_some_iff.1 hm'
  rcases Nat.lt_or_gt_of_ne hkm with h | h
  · have := List.pairwise_iff_getElem.1 h3 k m hkl hml h
    rw [hk2, hm2] at this
    exact this g h1 g h2 rfl
  · have := List.pairwise_iff_getElem.1 h3 m k hml hkl h
    rw [hk2, hm2] at this
    exact this g h2 g h1 rfl
theorem sep_own {b : Base} {S : List SH} {w : World} {v : Value} {c H : SH} {xs : List UInt8} (ho : Sx.Own 5 1 (ints xs) v c) {k m : Nat} (hk : S[k]? = some c) (hm : S[m]? = some H) (hkm : k ≠ m) (hw : Sig b S w) : ∀ (a : Addr) (n cp : Nat), v = .slice (some a) n cp → 0 < n → a.block ∉ dom H := fun a n cp e hn hd => by
  rcases ho with ⟨h1, _⟩ | ⟨g, n', cap, rest, fz, h1, rfl, _⟩
  · rw [h1] at e
    cases e
  · rw [h1] at e
    injection e with e1 e2 e3
    injection e1 with e1
    rw [← e1] at hd
    exact sep_chunks hw.nodup hk hm hkm (List.mem_singleton.2 rfl) hd
theorem wrE_val {f : AF} {n xs : List UInt8} (hn : nameOk n = true) (hx : xs.length ≤ 1048576) (hf : ¬ fullA f n xs) : wrE f n xs = if burnt f then 26 else 0 := by
  unfold wrE
  rw [mayE_b f (by simp [hn])]
  cases hb : burnt f
  · rw [show (if false = true then (26 : Int) else 0) = 0 from rfl, if_neg (show ¬ ((0 : Int) ≠ 0) by simp), if_neg (show ¬ 1048576 < xs.length by omega), if_neg hf]
  · rw [show (if true = true then (26 : Int) else 0) = 26 from rfl, if_pos (show ((26 : Int) ≠ 0) by decide)]
theorem appE_val {f : AF} {n xs : List UInt8} (hn : nameOk n = true) (ha : alook f.now.nm n ≠ none) (hx : sizeA f.now n + xs.length ≤ 1048576) (hr : f.now.used + (xs.length : Int) ≤ f.room) : appE f n xs = if burnt f then 26 else 0 := by
  unfold appE
  rw [mayE_b f (by simp [hn])]
  cases hb : burnt f
  · rw [show (if false = true then (26 : Int) else 0) = 0 from rfl, if_neg (show ¬ ((0 : Int) ≠ 0) by simp), if_neg ha, if_neg (show ¬ 1048576 < sizeA f.now n + xs.length by omega), if_neg (show ¬ f.room < f.now.used + (xs.length : Int) by omega)]
  · rw [show (if true = true then (26 : Int) else 0) = 26 from rfl, if_pos (show ((26 : Int) ≠ 0) by decide)]
theorem sizeA_cont (s : AS) (n : List UInt8) : sizeA s n = (contA s n).length := by
  unfold sizeA contA
  cases alook s.nm n with
  | none => rfl
  | some i => rfl
theorem nameOk_file {name : List UInt8} {age : Nat} (h1 : name.length ≤ 100) (h2 : age < 10000) : nameOk (fileN name age 0) = true := by
  have h4 := dec_len h2
  have h5 := dec_len (show 0 < 10000 by omega)
  have h6 : (fileN name age 0).length = name.length + 1 + (dec age).length + 1 + (dec 0).length := by
    unfold fileN
    simp only [List.length_append, List.length_cons, List.length_nil]
  unfold nameOk
  rw [decide_eq_true (by omega), decide_eq_true (by omega)]
  rfl
theorem jmet_con (gj : Nat) (l : List Value) (n : Int) (w : World) (hl : l[8]? = some (.int .u32 n)) : Con Tryz.prog 35 [.pointer (some ⟨gj, 0, none⟩), .int .i64 26] w [(gj, .cells l.toArray 68 (0, 0))] fun u S' => u = .int .i64 26 ∧ S' = [[(gj, .cells (l.set 8 (.int .u32 1)).toArray 68 (0, 0))]] := by
  refine con_of_tree mix Tryz.func35 T35_ok (by kernel_rfl) ?_
  unfold T35
  refine j_q (qs_ac) ?_
  refine j_q (qs_neq rfl rfl) ?_
  rw [show ((26 : Int) != 0) = true from rfl]
  refine j_gt rfl (qs_mt rfl) ?_
  refine j_gt rfl (qs_neq rfl rfl) ?_
  rw [show ((26 : Int) != 6) = true from rfl]
  refine j_q (qs_and rfl rfl) ?_
  refine j_cond rfl (fun hc0 => ?_) (fun hc0 => ?_)
  · skip
    refine j_q (qs_nil rfl) ?_
    refine j_q (qs_field Tryz.underlying68 rfl sz66 (by decide) rfl) ?_
    refine j_call 0 ent61 rfl rfl rfl rfl (fun w' hw' => bstore_con gj 8 l 68 n w' hl) (fun u S2 hu => ?_)
    obtain ⟨rfl, rfl⟩ := hu
    refine j_subl (S' := [[(gj, .cells (l.set 8 (.int .u32 1)).toArray 68 (0, 0))]]) (by repeat first | exact slR _ | exact slN _ | apply slC | apply slD) ?_
    refine j_ret_con (vs := [_]) (fun w' hw' => ⟨rfl, trivial⟩) ?_
    exact ⟨rfl, rfl⟩
  · skip
    simp at hc0
end Go.Proofs.YtomajiicjinekaaGreatDoor
/-! Jn12 -/
namespace Go.Proofs.YtomajiicjinekaaGreatDoor
open Go Go.Sx
set_option maxRecDepth 100000
set_option maxHeartbeats 4000000
set_option linter.unusedVariables false
set_option linter.unusedSimpArgs false
attribute [local irreducible] J JQ QS Con W opW
structure ComOk (a : JA) (f : AF) (id : Nat) : Prop where
  js : JS a.name a.age a.gs f.now
  ln : a.gs.length ≤ 99
  lg : ∀ g ∈ a.gs, limR g
  dn : limR a.down
  sz : sizeG a.gs ≤ 500000
  by_ : (gsE a.gs).length + (grpE a.down).length ≤ 1048576
  rm : f.room ≤ 1073741824
  us : 0 ≤ f.now.used ∧ f.now.used + ((grpE a.down).length : Int) ≤ f.room
  nm : f.now.nm.length < 16384
  pd : f.pend.length < 16000
  id : ∀ q ∈ f.now.nm, q.2 ≠ id
  ag : a.age < 10000
  nl : a.name.length ≤ 100
theorem com1 {a : JA} {f : AF} {id : Nat} (hd : a.dead = false) (hdn : a.down ≠ []) (hb : burnt f = true) : comE a f id = 26 ∧ comJ a f id = { a with dead := true } ∧ comA a f id = f := by
  unfold comE comJ comA
  rw [hd, hb]
  simp [hdn]
theorem com2 {a : JA} {f : AF} {id : Nat} (hd : a.dead = false) (hdn : a.down ≠ []) (hb : burnt f = false) (hb2 : burnt (stepF f (comT a id)) = true) : comE a f id = 26 ∧ comJ a f id = { a with dead := true } ∧ comA a f id = stepF f (comT a id) := by
  unfold comE comJ comA
  rw [hd, hb, hb2]
  simp [hdn]
theorem com3 {a : JA} {f : AF} {id : Nat} (hd : a.dead = false) (hdn : a.down ≠ []) (hb : burnt f = false) (hb2 : burnt (stepF f (comT a id)) = false) : comE a f id = 0 ∧ comJ a f id = { a with gs := a.gs ++ [a.down], down := [] } ∧ comA a f id = syncF (stepF f (comT a id)) := by
  unfold comE comJ comA
  rw [hd, hb, hb2]
  simp [hdn]
theorem fillE_nil {gs : List (List (List UInt8))} (h : gs = []) : fillE gs = -1 := by rw [fillE, if_pos h]
theorem fillE_cons {gs : List (List (List UInt8))} (h : gs ≠ []) : fillE gs = ((gsE gs).length : Int) := by rw [fillE, if_neg h]
theorem perm_c7 (j : JM) (r : FR) : (j.heap ++ r.heap).Perm ([[(j.gj, j.obj)], [(j.lg, j.lobj)], j.s.c, j.s.gl, j.laid.c, j.laid.lf, r.heap] : List SH).flatten := by
  classical
  refine List.perm_iff_count.2 fun x => ?_
  simp only [RR.heap, GS.heap, JM.heap, List.flatten_cons, List.flatten_nil, List.append_nil, List.nil_append, List.cons_append, List.count_append, List.count_cons, List.count_nil]
  omega
theorem notFull {a : JA} {f : AF} {id : Nat} (h : ComOk a f id) (hg : a.gs = []) : ¬ fullA f (fileN a.name a.age 0) (grpE a.down) := by
  have hno : alook f.now.nm (fileN a.name a.age 0) = none := by
    rcases h.js.f0 with ⟨_, h2⟩ | ⟨h2, _⟩
    · exact h2
    · exact absurd hg h2
  have hu := h.us
  have hn := h.nm
  unfold fullA
  rintro (⟨_, h2⟩ | h2)
  · omega
  · have : (0 : Int) ≤ (freesA f.now (fileN a.name a.age 0) : Int) := Int.natCast_nonneg _
    have h3 : freesA f.now (fileN a.name a.age 0) = 0 := by
      unfold freesA
      rw [hno]
    rw [h3] at h2
    omega
theorem writeG_con (r : FR) (a : AF) (n : List UInt8) (bv : Value) (xs : List UInt8) (id : Nat) (w : World) (hok : r.Ok a) (hn : strOk n) (hbr : BR w bv xs) (hbd : ∀ (a : Addr) (m c : Nat), bv = .slice (some a) m c → 0 < m → a.block ∉ dom r.heap) (hxl : xs.length ≤ 1000000000) (hB : a.pend.length < 16384) (hrm : a.room ≤ 1073741824) (hid : ∀ q ∈ a.now.nm, q.2 ≠ id) : Con Tryz.prog 32 [r.ptr, .string (bs n), bv] w r.heap fun v S' => v = .int .i64 (wrE a n xs) ∧ ∃ r' : FR, S' = [r'.heap] ∧ r'.Ok (if wrE a n xs = 0 then stepF a (.wr n xs id) else a) ∧ r'.gf = r.gf :=
  (write_con' r a n bv xs id w hok hn hbr hbd hxl hB hrm hid).mono fun u S' hu => by
    obtain ⟨h1, r', h2, h3, h4⟩ := hu
    exact ⟨h1, r', h2, h3, h4.gf⟩
theorem appendG_con (r : FR) (a : AF) (n : List UInt8) (bv : Value) (xs : List UInt8) (w : World) (hok : r.Ok a) (hB : a.pend.length < 16384) (hn : strOk n) (hbr : BR w bv xs) (hbd : ∀ (a : Addr) (m c : Nat), bv = .slice (some a) m c → 0 < m → a.block ∉ dom r.heap) (hxl : xs.length ≤ 1000000000) (hrm : a.room ≤ 1073741824) : Con Tryz.prog 34 [r.ptr, .string (bs n), bv] w r.heap fun v S' => v = .int .i64 (appE a n xs) ∧ ∃ r' : FR, S' = [r'.heap] ∧ r'.Ok (if appE a n xs = 0 then stepF a (.ap n xs) else a) ∧ r'.gf = r.gf :=
  (appendR_con r a n bv xs w hok hB hn hbr hbd hxl hrm).mono fun u S' hu => by
    obtain ⟨h1, r', h2, h3, h4⟩ := hu
    exact ⟨h1, r', h2, h3, h4.gf⟩
theorem syncG_con (r : FR) (a : AF) (w : World) (hok : r.Ok a) : Con Tryz.prog 36 [r.ptr] w r.heap fun v S' => v = .int .i64 (mayE a.fused a.left []) ∧ ∃ r' : FR, S' = [r'.heap] ∧ r'.Ok (if mayE a.fused a.left [] = 0 then syncF a else a) ∧ r'.gf = r.gf :=
  (sync_con r a w hok).mono fun u S' hu => by
    obtain ⟨h1, r', h2, h3, h4⟩ := hu
    exact ⟨h1, r', h2, h3, h4.gf⟩
theorem gsE_nil : gsE [] = [] := rfl
theorem gsE_snoc (gs : List (List (List UInt8))) (g : List (List UInt8)) : gsE (gs ++ [g]) = gsE gs ++ grpE g := by
  unfold gsE
  rw [List.map_append, List.flatten_append, List.map_singleton, List.flatten_singleton]
theorem sizeG_snoc (gs : List (List (List UInt8))) (g : List (List UInt8)) : sizeG (gs ++ [g]) = sizeG gs + sizeR g := by
  unfold sizeG
  rw [List.map_append, List.sum_append]
  simp
theorem jm_fin (j : JM) (r : FR) : ([[(j.gj, j.obj)], [(j.lg, j.lobj)], j.s.c, j.s.gl, r.heap, j.laid.c, j.laid.lf] : List SH).flatten.Perm [j.heap, r.heap].flatten := by
  classical
  refine List.perm_iff_count.2 fun x => ?_
  simp only [RR.heap, GS.heap, JM.heap, List.flatten_cons, List.flatten_nil, List.append_nil, List.nil_append, List.cons_append, List.count_append, List.count_cons, List.count_nil]
  omega
theorem jm_com (j : JM) (r : FR) {fl : Int} {v bv : Value} {c : SH} {g82 g31 : Nat} : ([[(g82, gobj nilS 0 0 0 0 nilS)], [(j.gj, .cells (jl j.fp j.name j.age 0 fl v (((sizeG j.s.gs : Nat) : Int) + ((sizeR j.laid.rs : Nat) : Int)) g82 j.dead).toArray 68 (0, 0))], c, j.s.gl, r.heap, [(g31, gobj j.laid.v ((sizeR j.laid.rs : Nat) : Int) 1 0 0 bv)], j.laid.c, j.laid.lf] : List SH).flatten.Perm [JM.heap ⟨j.gj, g82, j.fp, j.name, j.age, fl, j.s.add v c ⟨g31, j.laid, [.int .i64 ((sizeR j.laid.rs : Nat) : Int), .int .u32 1, .int .i32 0, .int .u32 0, bv]⟩, ⟨nilS, [], []⟩, j.dead⟩, r.heap].flatten := by
  have e1 : JM.obj ⟨j.gj, g82, j.fp, j.name, j.age, fl, j.s.add v c ⟨g31, j.laid, [.int .i64 ((sizeR j.laid.rs : Nat) : Int), .int .u32 1, .int .i32 0, .int .u32 0, bv]⟩, ⟨nilS, [], []⟩, j.dead⟩ = .cells (jl j.fp j.name j.age 0 fl v (((sizeG j.s.gs : Nat) : Int) + ((sizeR j.laid.rs : Nat) : Int)) g82 j.dead).toArray 68 (0, 0) := by
    unfold JM.obj
    simp only
    rw [GS.add_gs, sizeG_snoc, Int.natCast_add]
    rfl
  have e2 : JM.lobj ⟨j.gj, g82, j.fp, j.name, j.age, fl, j.s.add v c ⟨g31, j.laid, [.int .i64 ((sizeR j.laid.rs : Nat) : Int), .int .u32 1, .int .i32 0, .int .u32 0, bv]⟩, ⟨nilS, [], []⟩, j.dead⟩ = gobj nilS 0 0 0 0 nilS := rfl
  have e3 : GS.heap (j.s.add v c ⟨g31, j.laid, [.int .i64 ((sizeR j.laid.rs : Nat) : Int), .int .u32 1, .int .i32 0, .int .u32 0, bv]⟩) = c ++ (j.s.gl ++ ((g31, gobj j.laid.v ((sizeR j.laid.rs : Nat) : Int) 1 0 0 bv) :: (j.laid.c ++ j.laid.lf))) := by
    unfold GS.heap
    rw [GS.add_gl]
    rfl
  have e4 : RR.heap ⟨nilS, [], []⟩ = [] := rfl
  classical
  refine List.perm_iff_count.2 fun x => ?_
  unfold JM.heap
  rw [e1, e2]
  simp only
  rw [e3, e4]
  simp only [List.flatten_cons, List.flatten_nil, List.append_nil, List.nil_append, List.cons_append, List.count_append, List.count_cons, List.count_nil]
  omega
attribute [local irreducible] sum gsE headE fileN contA readE grpE fillE
theorem jcom_con (j : JM) (a : JA) (r : FR) (f : AF) (id : Nat) (w : World) (hok : j.Ok a) (hfo : r.Ok f) (hfp : j.fp = r.ptr) (hd : a.dead = false) (hdn : a.down ≠ []) (hc : ComOk a f id) (hP : P10 w) (h0 : 0 ∉ dom (j.heap ++ r.heap)) : Con Tryz.prog 18 [j.ptr] w (j.heap ++ r.heap) fun u S' => u = .int .i64 (comE a f id) ∧ ∃ (j' : JM) (r' : FR), S' = [j'.heap, r'.heap] ∧ j'.Ok (comJ a f id) ∧ r'.Ok (comA a f id) ∧ j'.gj = j.gj ∧ j'.fp = j.fp ∧ r'.gf = r.gf := by
  refine con_of_tree mix Tryz.func18 T18_ok (by kernel_rfl) ?_
  unfold T18
  obtain ⟨A, cap, hv, hA⟩ := hok.l.form
  have hlr : j.laid.L.length = a.down.length := by
    rw [← hok.dn]
    exact (List.length_map _).symm
  have hdl : 0 < a.down.length := List.length_pos_iff.2 hdn
  have hgr := grpE_lim hc.dn
  have hszl := hc.sz
  have hs2 := hc.dn.2
  have hby := hc.by_
  have hjg : j.s.G.length = a.gs.length := by
    rw [← hok.gs]
    exact (List.length_map _).symm
  have hln := hc.ln
  rw [← hok.gs] at hszl
  rw [← hok.dn] at hs2
  refine j_perm (S' := [[(j.gj, j.obj)], [(j.lg, j.lobj)], j.s.c, j.s.gl, j.laid.c, j.laid.lf, r.heap]) (by simpa using perm_c7 j r) ?_
  refine j_q (qs_ac) ?_
  refine j_q (qs_call ent29 rfl rfl rfl (fun w' hw' => jmay_con j a w' hok (hw'.at_ (k := 0) rfl))) ?_
  refine j_q (qs_neq rfl rfl) ?_
  rw [mayJ, hd, if_neg (show ¬ (false = true) by simp), show ((0 : Int) != 0) = false from rfl]
  refine j_gt rfl (qs_mt rfl) ?_
  refine j_gt rfl (qs_nil rfl) ?_
  refine j_gt rfl (qs_field Tryz.underlying68 rfl sz61 (by decide) rfl) ?_
  refine j_gt rfl (qs_load (l := j.jl) (v := .pointer (some ⟨j.lg, 0, none⟩)) 0 Tryz.underlying61 rfl rfl rfl rfl) ?_
  refine j_gt rfl (qs_nil rfl) ?_
  refine j_gt rfl (qs_field Tryz.underlying77 rfl sz34 (by decide) rfl) ?_
  refine j_gt rfl (qs_load (l := j.ll) (v := .slice A j.laid.L.length cap) 1 Tryz.underlying34 rfl rfl rfl (congrArg some hv)) ?_
  refine j_gt rfl (qs_lenl Tryz.underlying34 rfl) ?_
  refine j_gt rfl (qs_eql rfl rfl) ?_
  rw [show (((j.laid.L.length : Nat) : Int) == 0) = false by rw [beq_eq_false_iff_ne]; omega]
  refine j_q (qs_or rfl rfl) ?_
  refine j_cond rfl (fun hc0 => ?_) (fun hc0 => ?_)
  · skip
    simp at hc0
  · skip
    refine j_q (qs_nil rfl) ?_
    refine j_q (qs_field Tryz.underlying68 rfl sz3 (by decide) rfl) ?_
    refine j_q (qs_load (l := j.jl) (v := .int .i64 ((sizeG j.s.gs : Nat) : Int)) 0 Tryz.underlying3 rfl rfl rfl rfl) ?_
    refine j_q (qs_geq rfl rfl) ?_
    refine j_cond rfl (fun hc1 => ?_) (fun hc1 => ?_)
    · skip
      simp at hc1
      omega
    · skip
      refine j_mix [[(j.gj, .cells (j.jl).toArray 68 (0, 0))], [(j.lg, j.lobj)]] (Le.of_sub (by repeat first | exact slR _ | exact slN _ | apply slC | apply slD)) ?_
      refine j_mq (qs_nil rfl) ?_
      refine j_mq (qs_field Tryz.underlying68 rfl sz61 (by decide) rfl) ?_
      refine j_mq (qs_load (l := j.jl) (v := .pointer (some ⟨j.lg, 0, none⟩)) 0 Tryz.underlying61 rfl rfl rfl rfl) ?_
      refine j_mq (qs_nil rfl) ?_
      refine j_mq (qs_field Tryz.underlying77 rfl sz34 (by decide) rfl) ?_
      refine j_mq (qs_load (l := j.ll) (v := .slice A j.laid.L.length cap) 1 Tryz.underlying34 rfl rfl rfl (congrArg some hv)) ?_
      refine j_mq (qs_nil rfl) ?_
      refine j_mq (qs_field Tryz.underlying68 rfl sz61 (by decide) rfl) ?_
      refine j_mq (qs_load (l := j.jl) (v := .pointer (some ⟨j.lg, 0, none⟩)) 0 Tryz.underlying61 rfl rfl rfl rfl) ?_
      refine j_mq (qs_nil rfl) ?_
      refine j_mq (qs_field Tryz.underlying77 rfl sz3 (by decide) rfl) ?_
      refine j_mq (qs_load (l := j.ll) (v := .int .i64 ((sizeR j.laid.rs : Nat) : Int)) 1 Tryz.underlying3 rfl rfl rfl rfl) ?_
      refine j_mq (qs_build (places := [(0, 1), (1, 1), (2, 3), (5, 1)]) (offs := [(0, [.slice A j.laid.L.length cap]), (1, [.int .i64 ((sizeR j.laid.rs : Nat) : Int)])]) Tryz.underlying77 zero77 (by kernel_rfl) rfl (by rintro (_ | _ | _ | _ | j) p q hp hq <;> first | (simp at hp hq; subst hp hq; exact ⟨rfl, rfl, by simp⟩) | (simp at hp))) ?_
      refine j_box (l := gl (.slice A j.laid.L.length cap) ((sizeR j.laid.rs : Nat) : Int) 0 0 0 nilS) rfl (fun g31 hg31 hs31 => ?_)
      refine j_mR _ (.refl _) ?_
      refine j_mend ?_
      rw [← hv]
      refine j_subl (S' := [[(g31, gobj j.laid.v ((sizeR j.laid.rs : Nat) : Int) 0 0 0 nilS)], [(j.gj, .cells (j.jl).toArray 68 (0, 0))], [(j.lg, j.lobj)], j.s.c, j.s.gl, j.laid.c, j.laid.lf, r.heap]) (by repeat first | exact slR _ | exact slN _ | apply slC | apply slD) ?_
      refine j_perm (S' := [(g31, gobj j.laid.v ((sizeR j.laid.rs : Nat) : Int) 0 0 0 nilS) :: j.laid.heap, [(j.gj, .cells (j.jl).toArray 68 (0, 0))], [(j.lg, j.lobj)], j.s.c, j.s.gl, r.heap]) (by
        classical
        refine List.perm_iff_count.2 fun x => ?_
        simp only [RR.heap, GS.heap, List.set, List.flatten_cons, List.flatten_nil, List.append_nil, List.nil_append, List.cons_append, List.count_append, List.count_cons, List.count_nil]
        omega) ?_
      refine j_call 0 ent31 rfl rfl rfl rfl (fun w' hw' => made_con g31 j.laid ((sizeR j.laid.rs : Nat) : Int) w' hok.l (by rw [hok.dn]; exact hc.dn)) (fun u S2 hu => ?_)
      obtain ⟨bv, cb, rfl, rfl, hcb⟩ := hu
      rw [hok.dn] at hcb
      obtain ⟨nb, Ab, capb, rfl, hnb⟩ := own_form hcb (by decide)
      rw [ints_length, Nat.mul_one] at hnb
      subst hnb
      refine j_perm (S' := [[(j.gj, .cells (j.jl).toArray 68 (0, 0))], [(j.lg, j.lobj)], j.s.c, j.s.gl, r.heap, cb, [(g31, gobj j.laid.v ((sizeR j.laid.rs : Nat) : Int) 1 0 0 (.slice Ab (grpE a.down).length capb))], j.laid.c, j.laid.lf]) (by
        classical
        refine List.perm_iff_count.2 fun x => ?_
        simp only [RR.heap, GS.heap, List.set, List.flatten_cons, List.flatten_nil, List.append_nil, List.nil_append, List.cons_append, List.count_append, List.count_cons, List.count_nil]
        omega) ?_
      refine j_mix [[(j.gj, .cells (j.jl).toArray 68 (0, 0))]] (Le.of_sub (by repeat first | exact slR _ | exact slN _ | apply slC | apply slD)) ?_
      refine j_mq (qs_nil rfl) ?_
      refine j_mq (qs_field Tryz.underlying68 rfl sz3 (by decide) rfl) ?_
      refine j_mq (qs_load (l := j.jl) (v := .int .i64 0) 0 Tryz.underlying3 rfl rfl rfl rfl) ?_
      refine j_mq (qs_nil rfl) ?_
      refine j_mq (qs_field Tryz.underlying68 rfl sz3 (by decide) rfl) ?_
      refine j_mq (qs_load (l := j.jl) (v := .int .i64 j.fl) 0 Tryz.underlying3 rfl rfl rfl rfl) ?_
      refine j_mend ?_
      refine j_q (qs_ac) ?_
      refine j_q (qs_lss rfl rfl) ?_
      refine j_cond rfl (fun hc2 => ?_) (fun hc2 => ?_)
      · skip
        have hg0 : a.gs = [] := by
          rcases Classical.em (a.gs = []) with h | h
          · exact h
          · have h8 := hok.fl hd
            rw [fillE_cons h] at h8
            simp only [bnA] at *
            omega
        have hwr := wrE_val (f := f) (nameOk_file hc.nl hc.ag) (show (grpE a.down).length ≤ 1048576 by omega) (notFull hc hg0)
        have hcT : comT a id = .wr (fileN a.name a.age 0) (grpE a.down) id := by rw [comT, if_pos hg0]
        refine j_mix [[(j.gj, .cells (j.jl).toArray 68 (0, 0))]] (Le.of_sub (by repeat first | exact slR _ | exact slN _ | apply slC | apply slD)) ?_
        refine j_mq (qs_nil rfl) ?_
        refine j_mq (qs_field Tryz.underlying68 rfl sz25 (by decide) rfl) ?_
        refine j_mq (qs_load (l := j.jl) (v := r.ptr) 0 Tryz.underlying25 rfl rfl rfl (congrArg some hfp)) ?_
        refine j_q (qs_call ent33 rfl rfl rfl (fun w' hw' => file_con j.gj j.fp a.name a.age 0 _ w' (by rw [← hok.nm, ← hok.ag]; exact hw'.at_ (k := 0) rfl) (hP.keep hw' h0) hc.ag (by decide) (by have := hc.nl; omega))) ?_
        refine j_mD0 (Le.of_sub (by repeat first | exact slR _ | exact slN _ | apply slC | apply slD)) ?_
        refine j_call 4 ent32 rfl rfl rfl rfl (fun w' hw' => writeG_con r f (fileN a.name a.age 0) _ (grpE a.down) id w' hfo (strOk_file (by have := hc.nl; omega) hc.ag (by decide)) (own_br hcb 5 rfl hw') (sep_own hcb (k := 5) (m := 4) rfl rfl (by decide) hw') (by omega) (by have := hc.pd; omega) hc.rm hc.id) (fun u S2 hu => ?_)
        obtain ⟨rfl, r1, rfl, hr1, hto1⟩ := hu
        rw [hwr] at hr1 ⊢
        rw [← hcT] at hr1
        refine j_mR _ (.refl _) ?_
        refine j_mend ?_
        refine j_perm (S' := [[(j.gj, .cells (j.jl).toArray 68 (0, 0))], [(j.lg, j.lobj)], j.s.c, j.s.gl, r1.heap, cb, [(g31, gobj j.laid.v ((sizeR j.laid.rs : Nat) : Int) 1 0 0 (.slice Ab (grpE a.down).length capb))], j.laid.c, j.laid.lf]) (by
          classical
          refine List.perm_iff_count.2 fun x => ?_
          simp only [RR.heap, GS.heap, List.set, List.flatten_cons, List.flatten_nil, List.append_nil, List.nil_append, List.cons_append, List.count_append, List.count_cons, List.count_nil]
          omega) ?_
        refine j_q (qs_ac) ?_
        refine j_q (qs_neq rfl rfl) ?_
        refine j_cond rfl (fun hc3 => ?_) (fun hc3 => ?_)
        · skip
          have hb : burnt f = true := by
            cases hx : burnt f
            · rw [hx] at hc3
              simp at hc3
            · rfl
          rw [hb] at hr1 ⊢
          rw [if_neg (by simp)] at hr1
          rw [if_pos rfl]
          refine j_call 0 ent35 rfl rfl rfl rfl (fun w' hw' => jmet_con j.gj j.jl j.dead w' rfl) (fun u S2 hu => ?_)
          obtain ⟨rfl, rfl⟩ := hu
          refine j_subl (S' := [[(j.gj, JM.obj ⟨j.gj, j.lg, j.fp, j.name, j.age, j.fl, j.s, j.laid, 1⟩)], [(j.lg, j.lobj)], j.s.c, j.s.gl, r1.heap, j.laid.c, j.laid.lf]) (by repeat first | exact slR _ | exact slN _ | apply slC | apply slD) ?_
          refine j_perm (S' := [JM.heap ⟨j.gj, j.lg, j.fp, j.name, j.age, j.fl, j.s, j.laid, 1⟩, r1.heap]) (jm_fin ⟨j.gj, j.lg, j.fp, j.name, j.age, j.fl, j.s, j.laid, 1⟩ r1) ?_
          refine j_ret_con (vs := [_]) (fun w' hw' => ⟨rfl, trivial⟩) ?_
          have hX := com1 (id := id) hd hdn hb
          exact ⟨by rw [hX.1]; rfl, ⟨j.gj, j.lg, j.fp, j.name, j.age, j.fl, j.s, j.laid, 1⟩, r1, rfl, by rw [hX.2.1]; exact ⟨hok.s, hok.l, hok.nm, hok.ag, hok.gs, hok.dn, rfl, fun h => by simp at h⟩, by rw [hX.2.2]; exact hr1, rfl, rfl, hto1⟩
        · skip
          have hb : burnt f = false := by
            cases hx : burnt f
            · rfl
            · rw [hx] at hc3
              simp at hc3
          rw [hb] at hr1
          rw [if_pos (by simp)] at hr1
          refine j_q (qs_lenl Tryz.underlying39 rfl) ?_
          refine j_q (qs_add64 rfl rfl (by first | omega | (simp only [bnA] at *; omega))) ?_
          refine j_q (qs_nil rfl) ?_
          refine j_q (qs_field Tryz.underlying68 rfl sz3 (by decide) rfl) ?_
          refine j_store (l := j.jl) 0 sz3 rfl rfl rfl rfl (by simp) (by simp) ?_
          refine j_q (qs_nil rfl) ?_
          refine j_q (qs_field Tryz.underlying68 rfl sz3 (by decide) rfl) ?_
          refine j_store (l := j.jl) 0 sz3 rfl rfl rfl rfl (by simp) (by simp) ?_
          refine j_q (qs_nil rfl) ?_
          refine j_q (qs_field Tryz.underlying68 rfl sz25 (by decide) rfl) ?_
          refine j_q (qs_load (l := jl j.fp j.name j.age 0 ((0 : Int) + ((grpE a.down).length : Int)) (j.s.v) (((sizeG j.s.gs : Nat) : Int)) j.lg j.dead) (v := r.ptr) 0 Tryz.underlying25 rfl rfl rfl (congrArg some hfp)) ?_
          rw [show r.ptr = r1.ptr from by rw [FR.ptr, FR.ptr, hto1]]
          refine j_call 4 ent36 rfl rfl rfl rfl (fun w' hw' => syncG_con r1 (stepF f (comT a id)) w' hr1) (fun u S2 hu => ?_)
          obtain ⟨rfl, r2, rfl, hr2, hto2⟩ := hu
          rw [mayE_b (stepF f (comT a id)) (ns := []) rfl] at hr2 ⊢
          refine j_subl (S' := [r2.heap, [(j.gj, .cells (jl j.fp j.name j.age 0 ((0 : Int) + ((grpE a.down).length : Int)) (j.s.v) (((sizeG j.s.gs : Nat) : Int)) j.lg j.dead).toArray 68 (0, 0))], [(j.lg, j.lobj)], j.s.c, j.s.gl, cb, [(g31, gobj j.laid.v ((sizeR j.laid.rs : Nat) : Int) 1 0 0 (.slice Ab (grpE a.down).length capb))], j.laid.c, j.laid.lf]) (by repeat first | exact slR _ | exact slN _ | apply slC | apply slD) ?_
          refine j_perm (S' := [[(j.gj, .cells (jl j.fp j.name j.age 0 ((0 : Int) + ((grpE a.down).length : Int)) (j.s.v) (((sizeG j.s.gs : Nat) : Int)) j.lg j.dead).toArray 68 (0, 0))], [(j.lg, j.lobj)], j.s.c, j.s.gl, r2.heap, cb, [(g31, gobj j.laid.v ((sizeR j.laid.rs : Nat) : Int) 1 0 0 (.slice Ab (grpE a.down).length capb))], j.laid.c, j.laid.lf]) (by
            classical
            refine List.perm_iff_count.2 fun x => ?_
            simp only [RR.heap, GS.heap, List.set, List.flatten_cons, List.flatten_nil, List.append_nil, List.nil_append, List.cons_append, List.count_append, List.count_cons, List.count_nil]
            omega) ?_
          refine j_q (qs_neq rfl rfl) ?_
          refine j_cond rfl (fun hc4 => ?_) (fun hc4 => ?_)
          · skip
            have hb2 : burnt (stepF f (comT a id)) = true := by
              cases hx : burnt (stepF f (comT a id))
              · rw [hx] at hc4
                simp at hc4
              · rfl
            rw [hb2] at hr2 ⊢
            rw [if_neg (by simp)] at hr2
            rw [if_pos rfl]
            refine j_call 0 ent35 rfl rfl rfl rfl (fun w' hw' => jmet_con j.gj (jl j.fp j.name j.age 0 ((0 : Int) + ((grpE a.down).length : Int)) (j.s.v) (((sizeG j.s.gs : Nat) : Int)) j.lg j.dead) j.dead w' rfl) (fun u S2 hu => ?_)
            obtain ⟨rfl, rfl⟩ := hu
            refine j_subl (S' := [[(j.gj, JM.obj ⟨j.gj, j.lg, j.fp, j.name, j.age, ((0 : Int) + ((grpE a.down).length : Int)), j.s, j.laid, 1⟩)], [(j.lg, j.lobj)], j.s.c, j.s.gl, r2.heap, j.laid.c, j.laid.lf]) (by repeat first | exact slR _ | exact slN _ | apply slC | apply slD) ?_
            refine j_perm (S' := [JM.heap ⟨j.gj, j.lg, j.fp, j.name, j.age, ((0 : Int) + ((grpE a.down).length : Int)), j.s, j.laid, 1⟩, r2.heap]) (jm_fin ⟨j.gj, j.lg, j.fp, j.name, j.age, ((0 : Int) + ((grpE a.down).length : Int)), j.s, j.laid, 1⟩ r2) ?_
            refine j_ret_con (vs := [_]) (fun w' hw' => ⟨rfl, trivial⟩) ?_
            have hX := com2 hd hdn hb hb2
            exact ⟨by rw [hX.1]; rfl, ⟨j.gj, j.lg, j.fp, j.name, j.age, ((0 : Int) + ((grpE a.down).length : Int)), j.s, j.laid, 1⟩, r2, rfl, by rw [hX.2.1]; exact ⟨hok.s, hok.l, hok.nm, hok.ag, hok.gs, hok.dn, rfl, fun h => by simp at h⟩, by rw [hX.2.2]; exact hr2, rfl, rfl, hto2.trans hto1⟩
          · skip
            have hb2 : burnt (stepF f (comT a id)) = false := by
              cases hx : burnt (stepF f (comT a id))
              · rfl
              · rw [hx] at hc4
                simp at hc4
            rw [hb2] at hr2
            rw [if_pos (by simp)] at hr2
            refine j_q (qs_nil rfl) ?_
            refine j_q (qs_field Tryz.underlying68 rfl sz60 (by decide) rfl) ?_
            refine j_q (qs_load (l := jl j.fp j.name j.age 0 ((0 : Int) + ((grpE a.down).length : Int)) (j.s.v) (((sizeG j.s.gs : Nat) : Int)) j.lg j.dead) (v := j.s.v) 0 Tryz.underlying60 rfl rfl rfl rfl) ?_
            refine j_lit (vs := [.pointer (some ⟨g31, 0, none⟩)]) Tryz.underlying60 sz61 zero61 rfl (by simp [oneV]) ⟨rfl, by decide⟩ (fun g66 v66 c66 hv66 hc66 ho66 => ?_)
            subst hv66 hc66
            refine j_append 3 Tryz.underlying60 Tryz.underlying60 (.inr ⟨_, rfl⟩) sb61 zero61 rfl hok.s.row rfl (.inl ⟨_, _, rfl, rd_own (off := 0) (n := 1) 0 rfl rfl, rfl⟩) (by simp [oneV]) ⟨(by simp only [List.length_map]; simp; omega), (by decide)⟩ (fun v67 c67 ho67 => ?_)
            obtain ⟨n67, A67, cap67, rfl, hn67⟩ := own_form ho67 (by decide)
            refine j_q (qs_nil rfl) ?_
            refine j_q (qs_field Tryz.underlying68 rfl sz60 (by decide) rfl) ?_
            refine j_store (l := jl j.fp j.name j.age 0 ((0 : Int) + ((grpE a.down).length : Int)) (j.s.v) (((sizeG j.s.gs : Nat) : Int)) j.lg j.dead) 1 sz60 rfl rfl rfl rfl (by simp) (by simp) ?_
            refine j_mix [[(j.gj, .cells (jl j.fp j.name j.age 0 ((0 : Int) + ((grpE a.down).length : Int)) (.slice A67 n67 cap67) (((sizeG j.s.gs : Nat) : Int)) j.lg j.dead).toArray 68 (0, 0))], [(g31, gobj j.laid.v ((sizeR j.laid.rs : Nat) : Int) 1 0 0 (.slice Ab (grpE a.down).length capb))]] (Le.of_sub (by repeat first | exact slR _ | exact slN _ | apply slC | apply slD)) ?_
            refine j_mq (qs_nil rfl) ?_
            refine j_mq (qs_field Tryz.underlying68 rfl sz3 (by decide) rfl) ?_
            refine j_mq (qs_load (l := jl j.fp j.name j.age 0 ((0 : Int) + ((grpE a.down).length : Int)) (.slice A67 n67 cap67) (((sizeG j.s.gs : Nat) : Int)) j.lg j.dead) (v := .int .i64 ((sizeG j.s.gs : Nat) : Int)) 0 Tryz.underlying3 rfl rfl rfl rfl) ?_
            refine j_mq (qs_nil rfl) ?_
            refine j_mq (qs_field Tryz.underlying77 rfl sz3 (by decide) rfl) ?_
            refine j_mq (qs_load (l := gl j.laid.v ((sizeR j.laid.rs : Nat) : Int) 1 0 0 (.slice Ab (grpE a.down).length capb)) (v := .int .i64 ((sizeR j.laid.rs : Nat) : Int)) 1 Tryz.underlying3 rfl rfl rfl rfl) ?_
            refine j_mq (qs_add64 rfl rfl (by first | omega | (simp only [bnA] at *; omega))) ?_
            refine j_mq (qs_nil rfl) ?_
            refine j_mq (qs_field Tryz.underlying68 rfl sz3 (by decide) rfl) ?_
            refine j_store (l := jl j.fp j.name j.age 0 ((0 : Int) + ((grpE a.down).length : Int)) (.slice A67 n67 cap67) (((sizeG j.s.gs : Nat) : Int)) j.lg j.dead) 1 sz3 rfl rfl rfl rfl (by simp) (by simp) ?_
            refine j_mR _ (.refl _) ?_
            refine j_mend ?_
            refine j_q (qs_run (v := .agg ([nilS, .int .i64 0, .int .u32 0, .int .i32 0, .int .u32 0, nilS]).toArray) (fun w => by kernel_rfl)) ?_
            refine j_box (l := [nilS, .int .i64 0, .int .u32 0, .int .i32 0, .int .u32 0, nilS]) rfl (fun g82 hg82 hs82 => ?_)
            refine j_q (qs_nil rfl) ?_
            refine j_q (qs_field Tryz.underlying68 rfl sz61 (by decide) rfl) ?_
            refine j_store (l := jl j.fp j.name j.age 0 ((0 : Int) + ((grpE a.down).length : Int)) (.slice A67 n67 cap67) (((sizeG j.s.gs : Nat) : Int) + ((sizeR j.laid.rs : Nat) : Int)) j.lg j.dead) 2 sz61 rfl rfl rfl rfl (by simp) (by simp) ?_
            refine j_q (qs_ac) ?_
            refine j_subl (S' := [[(g82, gobj nilS 0 0 0 0 nilS)], [(j.gj, .cells (jl j.fp j.name j.age 0 ((0 : Int) + ((grpE a.down).length : Int)) (.slice A67 n67 cap67) (((sizeG j.s.gs : Nat) : Int) + ((sizeR j.laid.rs : Nat) : Int)) g82 j.dead).toArray 68 (0, 0))], c67, j.s.gl, r2.heap, [(g31, gobj j.laid.v ((sizeR j.laid.rs : Nat) : Int) 1 0 0 (.slice Ab (grpE a.down).length capb))], j.laid.c, j.laid.lf]) (by repeat first | exact slR _ | exact slN _ | apply slC | apply slD) ?_
            refine j_perm (S' := [JM.heap ⟨j.gj, g82, j.fp, j.name, j.age, (0 : Int) + ((grpE a.down).length : Int), j.s.add (.slice A67 n67 cap67) c67 ⟨g31, j.laid, [.int .i64 ((sizeR j.laid.rs : Nat) : Int), .int .u32 1, .int .i32 0, .int .u32 0, .slice Ab (grpE a.down).length capb]⟩, ⟨nilS, [], []⟩, j.dead⟩, r2.heap]) (jm_com j r2) ?_
            refine j_ret_con (vs := [_]) (fun w' hw' => ⟨rfl, trivial⟩) ?_
            have hX := com3 hd hdn hb hb2
            exact ⟨by rw [hX.1]; rfl, ⟨j.gj, g82, j.fp, j.name, j.age, (0 : Int) + ((grpE a.down).length : Int), j.s.add (.slice A67 n67 cap67) c67 ⟨g31, j.laid, [.int .i64 ((sizeR j.laid.rs : Nat) : Int), .int .u32 1, .int .i32 0, .int .u32 0, .slice Ab (grpE a.down).length capb]⟩, ⟨nilS, [], []⟩, j.dead⟩, r2, rfl, by rw [hX.2.1]; exact ⟨hok.s.add ho67 hok.l, rr0, hok.nm, hok.ag, by rw [GS.add_gs, hok.gs, hok.dn], rfl, by rw [hok.dd, hd], by
              intro _
              rw [fillE_cons (by simp), gsE_snoc, List.length_append, Int.natCast_add]
              simp only
              rw [hg0, gsE_nil]
              rfl⟩, by rw [hX.2.2]; exact hr2, rfl, rfl, hto2.trans hto1⟩
      · skip
        have hg0 : a.gs ≠ [] := fun h => by
          have h8 := hok.fl hd
          rw [fillE_nil h] at h8
          simp only [bnA] at *
          omega
        have hfl : j.fl = ((gsE a.gs).length : Int) := by rw [hok.fl hd, fillE_cons hg0]
        obtain ⟨hyes, hcon⟩ : alook f.now.nm (fileN a.name a.age 0) ≠ none ∧ contA f.now (fileN a.name a.age 0) = gsE a.gs := by
          rcases hc.js.f0 with ⟨h, _⟩ | ⟨_, h, h'⟩
          · exact absurd h hg0
          · exact ⟨h, h'⟩
        have hwr := appE_val (f := f) (xs := grpE a.down) (nameOk_file hc.nl hc.ag) hyes (by rw [sizeA_cont, hcon]; exact hc.by_) hc.us.2
        have hcT : comT a id = .ap (fileN a.name a.age 0) (grpE a.down) := by rw [comT, if_neg hg0]
        refine j_q (qs_lenl Tryz.underlying39 rfl) ?_
        refine j_q (qs_add64 rfl rfl (by first | omega | (simp only [bnA] at *; omega))) ?_
        refine j_q (qs_gtr rfl rfl) ?_
        refine j_cond rfl (fun hc5 => ?_) (fun hc5 => ?_)
        · skip
          rw [hfl] at hc5
          simp only [bnA] at *
          omega
        · skip
          refine j_mix [[(j.gj, .cells (j.jl).toArray 68 (0, 0))]] (Le.of_sub (by repeat first | exact slR _ | exact slN _ | apply slC | apply slD)) ?_
          refine j_mq (qs_nil rfl) ?_
          refine j_mq (qs_field Tryz.underlying68 rfl sz25 (by decide) rfl) ?_
          refine j_mq (qs_load (l := j.jl) (v := r.ptr) 0 Tryz.underlying25 rfl rfl rfl (congrArg some hfp)) ?_
          refine j_q (qs_call ent33 rfl rfl rfl (fun w' hw' => file_con j.gj j.fp a.name a.age 0 _ w' (by rw [← hok.nm, ← hok.ag]; exact hw'.at_ (k := 0) rfl) (hP.keep hw' h0) hc.ag (by decide) (by have := hc.nl; omega))) ?_
          refine j_mD0 (Le.of_sub (by repeat first | exact slR _ | exact slN _ | apply slC | apply slD)) ?_
          refine j_call 4 ent34 rfl rfl rfl rfl (fun w' hw' => appendG_con r f (fileN a.name a.age 0) _ (grpE a.down) w' hfo (by have := hc.pd; omega) (strOk_file (by have := hc.nl; omega) hc.ag (by decide)) (own_br hcb 5 rfl hw') (sep_own hcb (k := 5) (m := 4) rfl rfl (by decide) hw') (by omega) hc.rm) (fun u S2 hu => ?_)
          obtain ⟨rfl, r1, rfl, hr1, hto1⟩ := hu
          rw [hwr] at hr1 ⊢
          rw [← hcT] at hr1
          refine j_mR _ (.refl _) ?_
          refine j_mend ?_
          refine j_perm (S' := [[(j.gj, .cells (j.jl).toArray 68 (0, 0))], [(j.lg, j.lobj)], j.s.c, j.s.gl, r1.heap, cb, [(g31, gobj j.laid.v ((sizeR j.laid.rs : Nat) : Int) 1 0 0 (.slice Ab (grpE a.down).length capb))], j.laid.c, j.laid.lf]) (by
            classical
            refine List.perm_iff_count.2 fun x => ?_
            simp only [RR.heap, GS.heap, List.set, List.flatten_cons, List.flatten_nil, List.append_nil, List.nil_append, List.cons_append, List.count_append, List.count_cons, List.count_nil]
            omega) ?_
          refine j_q (qs_neq rfl rfl) ?_
          refine j_cond rfl (fun hc8 => ?_) (fun hc8 => ?_)
          · skip
            have hb : burnt f = true := by
              cases hx : burnt f
              · rw [hx] at hc8
                simp at hc8
              · rfl
            rw [hb] at hr1 ⊢
            rw [if_neg (by simp)] at hr1
            rw [if_pos rfl]
            refine j_call 0 ent35 rfl rfl rfl rfl (fun w' hw' => jmet_con j.gj j.jl j.dead w' rfl) (fun u S2 hu => ?_)
            obtain ⟨rfl, rfl⟩ := hu
            refine j_subl (S' := [[(j.gj, JM.obj ⟨j.gj, j.lg, j.fp, j.name, j.age, j.fl, j.s, j.laid, 1⟩)], [(j.lg, j.lobj)], j.s.c, j.s.gl, r1.heap, j.laid.c, j.laid.lf]) (by repeat first | exact slR _ | exact slN _ | apply slC | apply slD) ?_
            refine j_perm (S' := [JM.heap ⟨j.gj, j.lg, j.fp, j.name, j.age, j.fl, j.s, j.laid, 1⟩, r1.heap]) (jm_fin ⟨j.gj, j.lg, j.fp, j.name, j.age, j.fl, j.s, j.laid, 1⟩ r1) ?_
            refine j_ret_con (vs := [_]) (fun w' hw' => ⟨rfl, trivial⟩) ?_
            have hX := com1 (id := id) hd hdn hb
            exact ⟨by rw [hX.1]; rfl, ⟨j.gj, j.lg, j.fp, j.name, j.age, j.fl, j.s, j.laid, 1⟩, r1, rfl, by rw [hX.2.1]; exact ⟨hok.s, hok.l, hok.nm, hok.ag, hok.gs, hok.dn, rfl, fun h => by simp at h⟩, by rw [hX.2.2]; exact hr1, rfl, rfl, hto1⟩
          · skip
            have hb : burnt f = false := by
              cases hx : burnt f
              · rfl
              · rw [hx] at hc8
                simp at hc8
            rw [hb] at hr1
            rw [if_pos (by simp)] at hr1
            refine j_q (qs_lenl Tryz.underlying39 rfl) ?_
            refine j_q (qs_add64 rfl rfl (by first | omega | (simp only [bnA] at *; omega))) ?_
            refine j_q (qs_nil rfl) ?_
            refine j_q (qs_field Tryz.underlying68 rfl sz3 (by decide) rfl) ?_
            refine j_store (l := j.jl) 0 sz3 rfl rfl rfl rfl (by simp) (by simp) ?_
            refine j_q (qs_nil rfl) ?_
            refine j_q (qs_field Tryz.underlying68 rfl sz3 (by decide) rfl) ?_
            refine j_store (l := j.jl) 0 sz3 rfl rfl rfl rfl (by simp) (by simp) ?_
            refine j_q (qs_nil rfl) ?_
            refine j_q (qs_field Tryz.underlying68 rfl sz25 (by decide) rfl) ?_
            refine j_q (qs_load (l := jl j.fp j.name j.age 0 (j.fl + ((grpE a.down).length : Int)) (j.s.v) (((sizeG j.s.gs : Nat) : Int)) j.lg j.dead) (v := r.ptr) 0 Tryz.underlying25 rfl rfl rfl (congrArg some hfp)) ?_
            rw [show r.ptr = r1.ptr from by rw [FR.ptr, FR.ptr, hto1]]
            refine j_call 4 ent36 rfl rfl rfl rfl (fun w' hw' => syncG_con r1 (stepF f (comT a id)) w' hr1) (fun u S2 hu => ?_)
            obtain ⟨rfl, r2, rfl, hr2, hto2⟩ := hu
            rw [mayE_b (stepF f (comT a id)) (ns := []) rfl] at hr2 ⊢
            refine j_subl (S' := [r2.heap, [(j.gj, .cells (jl j.fp j.name j.age 0 (j.fl + ((grpE a.down).length : Int)) (j.s.v) (((sizeG j.s.gs : Nat) : Int)) j.lg j.dead).toArray 68 (0, 0))], [(j.lg, j.lobj)], j.s.c, j.s.gl, cb, [(g31, gobj j.laid.v ((sizeR j.laid.rs : Nat) : Int) 1 0 0 (.slice Ab (grpE a.down).length capb))], j.laid.c, j.laid.lf]) (by repeat first | exact slR _ | exact slN _ | apply slC | apply slD) ?_
            refine j_perm (S' := [[(j.gj, .cells (jl j.fp j.name j.age 0 (j.fl + ((grpE a.down).length : Int)) (j.s.v) (((sizeG j.s.gs : Nat) : Int)) j.lg j.dead).toArray 68 (0, 0))], [(j.lg, j.lobj)], j.s.c, j.s.gl, r2.heap, cb, [(g31, gobj j.laid.v ((sizeR j.laid.rs : Nat) : Int) 1 0 0 (.slice Ab (grpE a.down).length capb))], j.laid.c, j.laid.lf]) (by
              classical
              refine List.perm_iff_count.2 fun x => ?_
              simp only [RR.heap, GS.heap, List.set, List.flatten_cons, List.flatten_nil, List.append_nil, List.nil_append, List.cons_append, List.count_append, List.count_cons, List.count_nil]
              omega) ?_
            refine j_q (qs_neq rfl rfl) ?_
            refine j_cond rfl (fun hc9 => ?_) (fun hc9 => ?_)
            · skip
              have hb2 : burnt (stepF f (comT a id)) = true := by
                cases hx : burnt (stepF f (comT a id))
                · rw [hx] at hc9
                  simp at hc9
                · rfl
              rw [hb2] at hr2 ⊢
              rw [if_neg (by simp)] at hr2
              rw [if_pos rfl]
              refine j_call 0 ent35 rfl rfl rfl rfl (fun w' hw' => jmet_con j.gj (jl j.fp j.name j.age 0 (j.fl + ((grpE a.down).length : Int)) (j.s.v) (((sizeG j.s.gs : Nat) : Int)) j.lg j.dead) j.dead w' rfl) (fun u S2 hu => ?_)
              obtain ⟨rfl, rfl⟩ := hu
              refine j_subl (S' := [[(j.gj, JM.obj ⟨j.gj, j.lg, j.fp, j.name, j.age, (j.fl + ((grpE a.down).length : Int)), j.s, j.laid, 1⟩)], [(j.lg, j.lobj)], j.s.c, j.s.gl, r2.heap, j.laid.c, j.laid.lf]) (by repeat first | exact slR _ | exact slN _ | apply slC | apply slD) ?_
              refine j_perm (S' := [JM.heap ⟨j.gj, j.lg, j.fp, j.name, j.age, (j.fl + ((grpE a.down).length : Int)), j.s, j.laid, 1⟩, r2.heap]) (jm_fin ⟨j.gj, j.lg, j.fp, j.name, j.age, (j.fl + ((grpE a.down).length : Int)), j.s, j.laid, 1⟩ r2) ?_
              refine j_ret_con (vs := [_]) (fun w' hw' => ⟨rfl, trivial⟩) ?_
              have hX := com2 hd hdn hb hb2
              exact ⟨by rw [hX.1]; rfl, ⟨j.gj, j.lg, j.fp, j.name, j.age, (j.fl + ((grpE a.down).length : Int)), j.s, j.laid, 1⟩, r2, rfl, by rw [hX.2.1]; exact ⟨hok.s, hok.l, hok.nm, hok.ag, hok.gs, hok.dn, rfl, fun h => by simp at h⟩, by rw [hX.2.2]; exact hr2, rfl, rfl, hto2.trans hto1⟩
            · skip
              have hb2 : burnt (stepF f (comT a id)) = false := by
                cases hx : burnt (stepF f (comT a id))
                · rfl
                · rw [hx] at hc9
                  simp at hc9
              rw [hb2] at hr2
              rw [if_pos (by simp)] at hr2
              refine j_q (qs_nil rfl) ?_
              refine j_q (qs_field Tryz.underlying68 rfl sz60 (by decide) rfl) ?_
              refine j_q (qs_load (l := jl j.fp j.name j.age 0 (j.fl + ((grpE a.down).length : Int)) (j.s.v) (((sizeG j.s.gs : Nat) : Int)) j.lg j.dead) (v := j.s.v) 0 Tryz.underlying60 rfl rfl rfl rfl) ?_
              refine j_lit (vs := [.pointer (some ⟨g31, 0, none⟩)]) Tryz.underlying60 sz61 zero61 rfl (by simp [oneV]) ⟨rfl, by decide⟩ (fun g66 v66 c66 hv66 hc66 ho66 => ?_)
              subst hv66 hc66
              refine j_append 3 Tryz.underlying60 Tryz.underlying60 (.inr ⟨_, rfl⟩) sb61 zero61 rfl hok.s.row rfl (.inl ⟨_, _, rfl, rd_own (off := 0) (n := 1) 0 rfl rfl, rfl⟩) (by simp [oneV]) ⟨(by simp only [List.length_map]; simp; omega), (by decide)⟩ (fun v162 c162 ho162 => ?_)
              obtain ⟨n67, A67, cap67, rfl, hn67⟩ := own_form ho162 (by decide)
              refine j_q (qs_nil rfl) ?_
              refine j_q (qs_field Tryz.underlying68 rfl sz60 (by decide) rfl) ?_
              refine j_store (l := jl j.fp j.name j.age 0 (j.fl + ((grpE a.down).length : Int)) (j.s.v) (((sizeG j.s.gs : Nat) : Int)) j.lg j.dead) 1 sz60 rfl rfl rfl rfl (by simp) (by simp) ?_
              refine j_mix [[(j.gj, .cells (jl j.fp j.name j.age 0 (j.fl + ((grpE a.down).length : Int)) (.slice A67 n67 cap67) (((sizeG j.s.gs : Nat) : Int)) j.lg j.dead).toArray 68 (0, 0))], [(g31, gobj j.laid.v ((sizeR j.laid.rs : Nat) : Int) 1 0 0 (.slice Ab (grpE a.down).length capb))]] (Le.of_sub (by repeat first | exact slR _ | exact slN _ | apply slC | apply slD)) ?_
              refine j_mq (qs_nil rfl) ?_
              refine j_mq (qs_field Tryz.underlying68 rfl sz3 (by decide) rfl) ?_
              refine j_mq (qs_load (l := jl j.fp j.name j.age 0 (j.fl + ((grpE a.down).length : Int)) (.slice A67 n67 cap67) (((sizeG j.s.gs : Nat) : Int)) j.lg j.dead) (v := .int .i64 ((sizeG j.s.gs : Nat) : Int)) 0 Tryz.underlying3 rfl rfl rfl rfl) ?_
              refine j_mq (qs_nil rfl) ?_
              refine j_mq (qs_field Tryz.underlying77 rfl sz3 (by decide) rfl) ?_
              refine j_mq (qs_load (l := gl j.laid.v ((sizeR j.laid.rs : Nat) : Int) 1 0 0 (.slice Ab (grpE a.down).length capb)) (v := .int .i64 ((sizeR j.laid.rs : Nat) : Int)) 1 Tryz.underlying3 rfl rfl rfl rfl) ?_
              refine j_mq (qs_add64 rfl rfl (by first | omega | (simp only [bnA] at *; omega))) ?_
              refine j_mq (qs_nil rfl) ?_
              refine j_mq (qs_field Tryz.underlying68 rfl sz3 (by decide) rfl) ?_
              refine j_store (l := jl j.fp j.name j.age 0 (j.fl + ((grpE a.down).length : Int)) (.slice A67 n67 cap67) (((sizeG j.s.gs : Nat) : Int)) j.lg j.dead) 1 sz3 rfl rfl rfl rfl (by simp) (by simp) ?_
              refine j_mR _ (.refl _) ?_
              refine j_mend ?_
              refine j_q (qs_run (v := .agg ([nilS, .int .i64 0, .int .u32 0, .int .i32 0, .int .u32 0, nilS]).toArray) (fun w => by kernel_rfl)) ?_
              refine j_box (l := [nilS, .int .i64 0, .int .u32 0, .int .i32 0, .int .u32 0, nilS]) rfl (fun g82 hg82 hs82 => ?_)
              refine j_q (qs_nil rfl) ?_
              refine j_q (qs_field Tryz.underlying68 rfl sz61 (by decide) rfl) ?_
              refine j_store (l := jl j.fp j.name j.age 0 (j.fl + ((grpE a.down).length : Int)) (.slice A67 n67 cap67) (((sizeG j.s.gs : Nat) : Int) + ((sizeR j.laid.rs : Nat) : Int)) j.lg j.dead) 2 sz61 rfl rfl rfl rfl (by simp) (by simp) ?_
              refine j_q (qs_ac) ?_
              refine j_subl (S' := [[(g82, gobj nilS 0 0 0 0 nilS)], [(j.gj, .cells (jl j.fp j.name j.age 0 (j.fl + ((grpE a.down).length : Int)) (.slice A67 n67 cap67) (((sizeG j.s.gs : Nat) : Int) + ((sizeR j.laid.rs : Nat) : Int)) g82 j.dead).toArray 68 (0, 0))], c162, j.s.gl, r2.heap, [(g31, gobj j.laid.v ((sizeR j.laid.rs : Nat) : Int) 1 0 0 (.slice Ab (grpE a.down).length capb))], j.laid.c, j.laid.lf]) (by repeat first | exact slR _ | exact slN _ | apply slC | apply slD) ?_
              refine j_perm (S' := [JM.heap ⟨j.gj, g82, j.fp, j.name, j.age, j.fl + ((grpE a.down).length : Int), j.s.add (.slice A67 n67 cap67) c162 ⟨g31, j.laid, [.int .i64 ((sizeR j.laid.rs : Nat) : Int), .int .u32 1, .int .i32 0, .int .u32 0, .slice Ab (grpE a.down).length capb]⟩, ⟨nilS, [], []⟩, j.dead⟩, r2.heap]) (jm_com j r2) ?_
              refine j_ret_con (vs := [_]) (fun w' hw' => ⟨rfl, trivial⟩) ?_
              have hX := com3 hd hdn hb hb2
              exact ⟨by rw [hX.1]; rfl, ⟨j.gj, g82, j.fp, j.name, j.age, j.fl + ((grpE a.down).length : Int), j.s.add (.slice A67 n67 cap67) c162 ⟨g31, j.laid, [.int .i64 ((sizeR j.laid.rs : Nat) : Int), .int .u32 1, .int .i32 0, .int .u32 0, .slice Ab (grpE a.down).length capb]⟩, ⟨nilS, [], []⟩, j.dead⟩, r2, rfl, by rw [hX.2.1]; exact ⟨hok.s.add ho162 hok.l, rr0, hok.nm, hok.ag, by rw [GS.add_gs, hok.gs, hok.dn], rfl, by rw [hok.dd, hd], by
                intro _
                rw [fillE_cons (by simp), gsE_snoc, List.length_append, Int.natCast_add]
                simp only
                rw [hfl]⟩, by rw [hX.2.2]; exact hr2, rfl, rfl, hto2.trans hto1⟩
end Go.Proofs.YtomajiicjinekaaGreatDoor
/-! Jn13 -/
namespace Go.Proofs.YtomajiicjinekaaGreatDoor
open Go Go.Sx
set_option maxRecDepth 100000
set_option maxHeartbeats 4000000
set_option linter.unusedVariables false
set_option linter.unusedSimpArgs false
attribute [local irreducible] J JQ QS Con W opW
attribute [local irreducible] sum gsE headE fileN contA readE grpE fillE
theorem jcomD_con (j : JM) (a : JA) (r : FR) (f : AF) (id : Nat) (w : World) (hok : j.Ok a) (hfo : r.Ok f) (hd : a.dead = true) : Con Tryz.prog 18 [j.ptr] w (j.heap ++ r.heap) fun u S' => u = .int .i64 (comE a f id) ∧ ∃ (j' : JM) (r' : FR), S' = [j'.heap, r'.heap] ∧ j'.Ok (comJ a f id) ∧ r'.Ok (comA a f id) ∧ j'.gj = j.gj ∧ j'.fp = j.fp ∧ r'.gf = r.gf := by
  refine con_of_tree mix Tryz.func18 T18_ok (by kernel_rfl) ?_
  unfold T18
  refine j_perm (S' := [[(j.gj, j.obj)], [(j.lg, j.lobj)], j.s.c, j.s.gl, j.laid.c, j.laid.lf, r.heap]) (by simpa using perm_c7 j r) ?_
  refine j_q (qs_ac) ?_
  refine j_q (qs_call ent29 rfl rfl rfl (fun w' hw' => jmay_con j a w' hok (hw'.at_ (k := 0) rfl))) ?_
  refine j_q (qs_neq rfl rfl) ?_
  rw [mayJ, hd, if_pos rfl, show ((26 : Int) != 0) = true from rfl]
  refine j_gf rfl (by simp) ?_
  refine j_gf rfl (by simp) ?_
  refine j_gf rfl (by simp) ?_
  refine j_gf rfl (by simp) ?_
  refine j_gf rfl (by simp) ?_
  refine j_gf rfl (by simp) ?_
  refine j_gf rfl (by simp) ?_
  refine j_gf rfl (by simp) ?_
  refine j_gf rfl (by simp) ?_
  refine j_q (qs_or (b0 := true) (b1 := false) rfl rfl) ?_
  refine j_cond rfl (fun hc0 => ?_) (fun hc0 => ?_)
  · skip
    refine j_perm (S' := [j.heap, r.heap]) (by simpa using (perm_c7 j r).symm) ?_
    refine j_ret_con (vs := [_]) (fun w' hw' => ⟨rfl, trivial⟩) ?_
    exact ⟨by rw [show comE a f id = 26 from by simp [comE, hd]]; rfl, j, r, rfl, by simp only [comJ, hd]; simpa using hok, by simp only [comA, hd]; simpa using hfo, rfl, rfl, rfl⟩
  · skip
    simp at hc0
theorem jcom0_con (j : JM) (a : JA) (r : FR) (f : AF) (id : Nat) (w : World) (hok : j.Ok a) (hfo : r.Ok f) (hd : a.dead = false) (hdn : a.down = []) : Con Tryz.prog 18 [j.ptr] w (j.heap ++ r.heap) fun u S' => u = .int .i64 (comE a f id) ∧ ∃ (j' : JM) (r' : FR), S' = [j'.heap, r'.heap] ∧ j'.Ok (comJ a f id) ∧ r'.Ok (comA a f id) ∧ j'.gj = j.gj ∧ j'.fp = j.fp ∧ r'.gf = r.gf := by
  refine con_of_tree mix Tryz.func18 T18_ok (by kernel_rfl) ?_
  unfold T18
  obtain ⟨A, cap, hv, hA⟩ := hok.l.form
  have hlr : j.laid.L.length = 0 := by
    have h8 : j.laid.rs.length = j.laid.L.length := List.length_map _
    rw [← h8, hok.dn, hdn]
    rfl
  refine j_perm (S' := [[(j.gj, j.obj)], [(j.lg, j.lobj)], j.s.c, j.s.gl, j.laid.c, j.laid.lf, r.heap]) (by simpa using perm_c7 j r) ?_
  refine j_q (qs_ac) ?_
  refine j_q (qs_call ent29 rfl rfl rfl (fun w' hw' => jmay_con j a w' hok (hw'.at_ (k := 0) rfl))) ?_
  refine j_q (qs_neq rfl rfl) ?_
  rw [mayJ, hd, if_neg (show ¬ (false = true) by simp), show ((0 : Int) != 0) = false from rfl]
  refine j_gt rfl (qs_mt rfl) ?_
  refine j_gt rfl (qs_nil rfl) ?_
  refine j_gt rfl (qs_field Tryz.underlying68 rfl sz61 (by decide) rfl) ?_
  refine j_gt rfl (qs_load (l := j.jl) (v := .pointer (some ⟨j.lg, 0, none⟩)) 0 Tryz.underlying61 rfl rfl rfl rfl) ?_
  refine j_gt rfl (qs_nil rfl) ?_
  refine j_gt rfl (qs_field Tryz.underlying77 rfl sz34 (by decide) rfl) ?_
  refine j_gt rfl (qs_load (l := j.ll) (v := .slice A j.laid.L.length cap) 1 Tryz.underlying34 rfl rfl rfl (congrArg some hv)) ?_
  refine j_gt rfl (qs_lenl Tryz.underlying34 rfl) ?_
  refine j_gt rfl (qs_eql rfl rfl) ?_
  rw [show (((j.laid.L.length : Nat) : Int) == 0) = true by rw [beq_iff_eq]; omega]
  refine j_q (qs_or rfl rfl) ?_
  refine j_cond rfl (fun hc0 => ?_) (fun hc0 => ?_)
  · skip
    refine j_perm (S' := [j.heap, r.heap]) (by simpa using (perm_c7 j r).symm) ?_
    refine j_ret_con (vs := [_]) (fun w' hw' => ⟨rfl, trivial⟩) ?_
    exact ⟨by rw [show comE a f id = 0 from by simp [comE, hd, hdn]]; rfl, j, r, rfl, by simp only [comJ, hd, hdn]; simpa using hok, by simp only [comA, hd, hdn]; simpa using hfo, rfl, rfl, rfl⟩
  · skip
    simp at hc0
theorem jcomU_con (j : JM) (a : JA) (r : FR) (f : AF) (id : Nat) (w : World) (hok : j.Ok a) (hfo : r.Ok f) (hfp : j.fp = r.ptr) (hc : a.dead = false → a.down ≠ [] → ComOk a f id) (hP : P10 w) (h0 : 0 ∉ dom (j.heap ++ r.heap)) : Con Tryz.prog 18 [j.ptr] w (j.heap ++ r.heap) fun u S' => u = .int .i64 (comE a f id) ∧ ∃ (j' : JM) (r' : FR), S' = [j'.heap, r'.heap] ∧ j'.Ok (comJ a f id) ∧ r'.Ok (comA a f id) ∧ j'.gj = j.gj ∧ j'.fp = j.fp ∧ r'.gf = r.gf := by
  cases hd : a.dead
  · by_cases hdn : a.down = []
    · exact jcom0_con j a r f id w hok hfo hd hdn
    · exact jcom_con j a r f id w hok hfo hfp hd hdn (hc hd hdn) hP h0
  · exact jcomD_con j a r f id w hok hfo hd
theorem jresetD_con (j : JM) (a : JA) (w : World) (hok : j.Ok a) (hd : a.dead = true) (hc : w.heap[j.gj]? = some j.obj) : Con Tryz.prog 20 [j.ptr] w [] fun u _ => u = .int .i64 26 := by
  refine con_of_tree mix Tryz.func20 T20_ok (by kernel_rfl) ?_
  unfold T20
  refine j_q (qs_ac) ?_
  refine j_q (qs_call ent29 rfl rfl rfl (fun w' hw' => jmay_con j a w' hok ((hw'.frame j.gj (lt_of_get hc) (by simp)).trans hc))) ?_
  refine j_q (qs_neq rfl rfl) ?_
  rw [mayJ, hd, if_pos rfl, show ((26 : Int) != 0) = true from rfl]
  refine j_cond rfl (fun hc0 => ?_) (fun hc0 => ?_)
  · skip
    refine j_ret_con (vs := [_]) (fun w' hw' => ⟨rfl, trivial⟩) ?_
    rfl
  · skip
    simp at hc0
end Go.Proofs.YtomajiicjinekaaGreatDoor
/-! Jn14 -/
namespace Go.Proofs.YtomajiicjinekaaGreatDoor
open Go Go.Sx
set_option maxRecDepth 100000
set_option maxHeartbeats 4000000
set_option linter.unusedVariables false
set_option linter.unusedSimpArgs false
attribute [local irreducible] J JQ QS Con W opW
def rmF (f : AF) (n : List UInt8) : AF := if remE f n = 0 then stepF f (.rm n) else f
structure ResOk (a : JA) (f : AF) (id : Nat) : Prop where
  nl : 1 ≤ a.name.length ∧ a.name.length ≤ 100
  ag : a.age + 1 < 10000
  rm : f.room ≤ 1073741824
  us : 0 ≤ f.now.used ∧ f.now.used + 100 ≤ f.room
  nm : f.now.nm.length < 16000
  pd : f.pend.length < 16000
  id : ∀ q ∈ f.now.nm, q.2 ≠ id
attribute [local irreducible] sum gsE headE fileN contA readE grpE fillE
end Go.Proofs.YtomajiicjinekaaGreatDoor
/-! Jn15 -/
namespace Go.Proofs.YtomajiicjinekaaGreatDoor
open Go Go.Sx
set_option maxRecDepth 100000
set_option maxHeartbeats 4000000
set_option linter.unusedVariables false
set_option linter.unusedSimpArgs false
attribute [local irreducible] J JQ QS Con W opW
structure WM where
  g : Nat
  n : NR
  d : RR
abbrev WM.ptr (m : WM) : Value := .pointer (some ⟨m.g, 0, none⟩)
abbrev WM.obj (m : WM) : Obj := .cells [m.n.v, m.d.v].toArray 36 (0, 0)
def NR.heap (n : NR) : SH := n.c ++ n.lf
def WM.heap (m : WM) : SH := (m.g, m.obj) :: (m.n.heap ++ m.d.heap)
structure WM.Ok (m : WM) (gs : List (List (List UInt8))) (dn : List (List UInt8)) : Prop where
  n : m.n.Ok
  d : m.d.Ok
  gs : m.n.gs = gs
  dn : m.d.rs = dn
attribute [local irreducible] sum gsE headE fileN contA readE grpE fillE
end Go.Proofs.YtomajiicjinekaaGreatDoor
/-! Jn16 -/
namespace Go.Proofs.YtomajiicjinekaaGreatDoor
open Go Go.Sx
set_option maxRecDepth 100000
set_option maxHeartbeats 4000000
set_option linter.unusedVariables false
set_option linter.unusedSimpArgs false
attribute [local irreducible] J JQ QS Con W opW
theorem NR.Ok.form {s : NR} (h : s.Ok) : ∃ A cap, s.v = .slice A s.L.length cap ∧ (0 < s.L.length → ∃ g, A = some ⟨g, 0, none⟩) := by
  rcases h.row with ⟨h1, h2, h3⟩ | ⟨g, n, cap, rest, fz, h1, h2, h3, h4, h5, h6⟩
  · have : s.L = [] := by simpa using h2
    exact ⟨none, 0, by rw [h1, this]; rfl, fun hp => by rw [this] at hp; simp at hp⟩
  · rw [List.length_map, Nat.mul_one] at h3
    exact ⟨_, cap, by rw [h1, h3], fun _ => ⟨g, rfl⟩⟩
theorem NR.in_get {n : NR} {w : World} (h : In w n.lf) {x : RR} (hx : x ∈ n.L) : In w x.heap := fun q hq => h q (List.mem_flatten.2 ⟨_, List.mem_map.2 ⟨x, hx, rfl⟩, hq⟩)
attribute [local irreducible] sum gsE headE fileN contA readE grpE fillE
end Go.Proofs.YtomajiicjinekaaGreatDoor
/-! Jn17 -/
namespace Go.Proofs.YtomajiicjinekaaGreatDoor
open Go Go.Sx
set_option maxRecDepth 100000
set_option maxHeartbeats 4000000
set_option linter.unusedVariables false
set_option linter.unusedSimpArgs false
attribute [local irreducible] J JQ QS Con W opW
def SeenL {α : Type} (R : World → Value → α → Prop) (w : World) (v : Value) (l : List α) : Prop :=
  ∃ (A : Option Addr) (cap : Nat) (vs : List Value), v = .slice A l.length cap ∧ vs.length = l.length ∧ (0 < l.length → ∃ a, A = some a ∧ Cells w a vs) ∧ ∀ (i : Nat) (x : α) (u : Value), l[i]? = some x → vs[i]? = some u → R w u x
abbrev BRR : World → Value → List (List UInt8) → Prop := SeenL BR
abbrev BGG : World → Value → List (List (List UInt8)) → Prop := SeenL BRR
theorem RR.Ok.seen {r : RR} (h : r.Ok) {w : World} (hin : In w r.heap) : BRR w r.v r.rs := by
  obtain ⟨A, cap, hv, hA⟩ := h.form
  refine ⟨A, cap, r.L.map fun t => t.2.1, by rw [hv, RR.rs, List.length_map], by rw [RR.rs, List.length_map, List.length_map], fun hp => ?_, fun i x u hx hu => ?_⟩
  · rw [RR.rs, List.length_map] at hp
    obtain ⟨g, hg⟩ := hA hp
    have hrow := h.row
    rw [hv, hg] at hrow
    exact ⟨_, hg, own_cellsI hrow fun q hq => hin q (List.mem_append_left _ hq)⟩
  · rw [RR.rs, List.getElem?_map] at hx
    rw [List.getElem?_map] at hu
    cases ht : r.L[i]? with
    | none => rw [ht] at hx; cases hx
    | some t =>
      rw [ht] at hx hu
      cases hx
      cases hu
      exact h.br (fun q hq => hin q (List.mem_append_right _ hq)) (List.mem_of_getElem? ht)
theorem NR.Ok.seen {n : NR} (h : n.Ok) {w : World} (hin : In w n.heap) : BGG w n.v n.gs := by
  obtain ⟨A, cap, hv, hA⟩ := h.form
  refine ⟨A, cap, n.L.map RR.v, by rw [hv, NR.gs, List.length_map], by rw [NR.gs, List.length_map, List.length_map], fun hp => ?_, fun i x u hx hu => ?_⟩
  · rw [NR.gs, List.length_map] at hp
    obtain ⟨g, hg⟩ := hA hp
    have hrow := h.row
    rw [hv, hg] at hrow
    exact ⟨_, hg, own_cellsI hrow fun q hq => hin q (List.mem_append_left _ hq)⟩
  · rw [NR.gs, List.getElem?_map] at hx
    rw [List.getElem?_map] at hu
    cases ht : n.L[i]? with
    | none => rw [ht] at hx; cases hx
    | some t =>
      rw [ht] at hx hu
      cases hx
      cases hu
      have htm := List.mem_of_getElem? ht
      exact (h.rr t htm).seen (NR.in_get (fun q hq => hin q (List.mem_append_right _ hq)) htm)
theorem SeenL.form {α : Type} {R : World → Value → α → Prop} {w : World} {v : Value} {l : List α} (h : SeenL R w v l) : ∃ A cap, v = .slice A l.length cap := by
  obtain ⟨A, cap, _, h1, _⟩ := h
  exact ⟨A, cap, h1⟩
theorem SeenL.at {α : Type} {R : World → Value → α → Prop} {w : World} {A : Option Addr} {cap : Nat} {l : List α} (h : SeenL R w (.slice A l.length cap) l) {i : Nat} (hi : i < l.length) : ∃ (a : Addr) (vs : List Value) (u : Value), A = some a ∧ Cells w a vs ∧ vs[i]? = some u ∧ R w u l[i] := by
  obtain ⟨A', cap', vs, h1, h2, h3, h4⟩ := h
  injection h1 with e1 e2 e3
  obtain ⟨a, ha, hc⟩ := h3 (by omega)
  have hv : vs[i]? = some vs[i] := List.getElem?_eq_getElem (by omega)
  exact ⟨a, vs, vs[i], e1.trans ha, hc, hv, h4 i _ _ (List.getElem?_eq_getElem hi) hv⟩
attribute [local irreducible] sum gsE headE fileN contA readE grpE fillE
theorem groups_con (xs ys : List (List (List UInt8))) (v1 v2 : Value) (w : World) (h1 : BGG w v1 xs) (h2 : BGG w v2 ys) (hl : xs.length ≤ 1000000) (hl2 : ∀ g ∈ xs, g.length ≤ 1000000 ∧ ∀ r ∈ g, r.length ≤ 1000000) : Con Tryz.prog 13 [v1, v2] w [] fun u _ => ∃ b, u = .bool b ∧ (xs = ys → b = true) := by
  refine con_of_tree mix Tryz.func13 T13_ok (by kernel_rfl) ?_
  unfold T13
  obtain ⟨A1, c1, hv1⟩ := h1.form
  obtain ⟨A2, c2, hv2⟩ := h2.form
  subst hv1 hv2
  refine j_q (qs_ac) ?_
  refine j_q (qs_lenl Tryz.underlying33 rfl) ?_
  refine j_q (qs_lenl Tryz.underlying33 rfl) ?_
  refine j_q (qs_neq rfl rfl) ?_
  refine j_cond rfl (fun hc0 => ?_) (fun hc0 => ?_)
  · skip
    have hne : xs.length ≠ ys.length := by
      simp only [bnA] at *
      omega
    refine j_q (qs_ac) ?_
    refine j_ret_con (vs := [_]) (fun w' hw' => ⟨rfl, trivial⟩) ?_
    exact ⟨false, rfl, fun e => absurd (congrArg List.length e) hne⟩
  · skip
    have heq : xs.length = ys.length := by
      simp only [bnA] at *
      omega
    refine j_q (qs_ac) ?_
    refine j_loop (fun m vs S' => ∃ i : Nat, vs = [.int .i64 (i : Int)] ∧ S' = [[]] ∧ i ≤ xs.length ∧ m = xs.length - i) ⟨_, 0, rfl, rfl, Nat.zero_le _, rfl⟩ ?_
    rintro m vs S' hlen ⟨i, rfl, rfl, hin, rfl⟩
    refine j_q (qs_lenl Tryz.underlying33 rfl) ?_
    refine j_q (qs_lss rfl rfl) ?_
    refine j_cond rfl (fun hc1 => ?_) (fun hc1 => ?_)
    · skip
      have hi : i < xs.length := by
        simp only [bnA] at *
        omega
      have hi2 : i < ys.length := by omega
      obtain ⟨a1, vs1, u1, ha1, hq1, hu1, hR1⟩ := h1.at hi
      obtain ⟨a2, vs2, u2, ha2, hq2, hu2, hR2⟩ := h2.at hi2
      obtain ⟨p1, hp1⟩ : ∃ p, p = xs[i] := ⟨_, rfl⟩
      obtain ⟨p2, hp2⟩ : ∃ p, p = ys[i] := ⟨_, rfl⟩
      rw [← hp1] at hR1
      rw [← hp2] at hR2
      obtain ⟨B1, d1, hf1⟩ := hR1.form
      obtain ⟨B2, d2, hf2⟩ := hR2.form
      rw [hf1] at hR1
      rw [hf2] at hR2
      have hlx := hl2 p1 (by rw [hp1]; exact List.getElem_mem hi)
      have hL : ∀ k (h : k < p1.length), p1[k].length ≤ 1000000 := fun k h => hlx.2 _ (List.getElem_mem h)
      have hpl := hlx.1
      have hpe : xs = ys → p1 = p2 := fun e => by subst e; rw [hp1, hp2]
      refine j_draw ?_
      refine jq_q (qs_ixl0 (a := a1) (n := xs.length) (c := c1) Tryz.underlying33 sz34 (by show Value.slice A1 _ _ = _; rw [ha1]) rfl (by omega)) ?_
      refine jq_q (qs_loadR (v := u1) (a := a1) (i := i) (rd_cells hq1 (by simp)) Tryz.underlying34 rfl (by show Value.pointer (some (Addr.add a1 (i : Int).toNat)) = _; rw [Int.toNat_natCast]) hu1) ?_
      rw [hf1]
      refine jq_q (qs_lenl Tryz.underlying34 rfl) ?_
      refine jq_q (qs_ixl0 (a := a2) (n := ys.length) (c := c2) Tryz.underlying33 sz34 (by show Value.slice A2 _ _ = _; rw [ha2]) rfl (by omega)) ?_
      refine jq_q (qs_loadR (v := u2) (a := a2) (i := i) (rd_cells hq2 (by simp)) Tryz.underlying34 rfl (by show Value.pointer (some (Addr.add a2 (i : Int).toNat)) = _; rw [Int.toNat_natCast]) hu2) ?_
      rw [hf2]
      refine jq_q (qs_lenl Tryz.underlying34 rfl) ?_
      refine jq_q (qs_neq rfl rfl) ?_
      refine jq_nil ?_
      refine j_cond rfl (fun hc2 => ?_) (fun hc2 => ?_)
      · skip
        have hne : p1.length ≠ p2.length := by
          simp only [bnA] at *
          omega
        refine j_q (qs_ac) ?_
        refine j_ret_con (vs := [_]) (fun w' hw' => ⟨rfl, trivial⟩) ?_
        exact ⟨false, rfl, fun e => absurd (congrArg List.length (hpe e)) hne⟩
      · skip
        have hpq : p1.length = p2.length := by
          simp only [bnA] at *
          omega
        refine j_q (qs_ac) ?_
        refine j_loop (fun m vs S' => ∃ k : Nat, vs = [.int .i64 (k : Int)] ∧ S' = [[]] ∧ k ≤ p1.length ∧ m = p1.length - k) ⟨_, 0, rfl, rfl, Nat.zero_le _, rfl⟩ ?_
        rintro m vs S' hlen ⟨k, rfl, rfl, hkn, rfl⟩
        refine j_q (qs_ixl0 (a := a1) (n := xs.length) (c := c1) Tryz.underlying33 sz34 (by show Value.slice A1 _ _ = _; rw [ha1]) rfl (by omega)) ?_
        refine j_q (qs_loadR (v := u1) (a := a1) (i := i) (rd_cells hq1 (by simp)) Tryz.underlying34 rfl (by show Value.pointer (some (Addr.add a1 (i : Int).toNat)) = _; rw [Int.toNat_natCast]) hu1) ?_
        rw [hf1]
        refine j_q (qs_lenl Tryz.underlying34 rfl) ?_
        refine j_q (qs_lss rfl rfl) ?_
        refine j_cond rfl (fun hc3 => ?_) (fun hc3 => ?_)
        · skip
          have hk1 : k < p1.length := by
            simp only [bnA] at *
            omega
          have hk2 : k < p2.length := by omega
          obtain ⟨b1, ws1, t1, hb1, hd1, ht1, hr1⟩ := hR1.at hk1
          obtain ⟨b2, ws2, t2, hb2, hd2, ht2, hr2⟩ := hR2.at hk2
          have hx8 := hL k hk1
          have hx9 : p1 = p2 → p1[k] = p2[k] := fun e => by subst e; rfl
          obtain ⟨x1, hx1⟩ : ∃ z, z = p1[k] := ⟨_, rfl⟩
          obtain ⟨x2, hx2⟩ : ∃ z, z = p2[k] := ⟨_, rfl⟩
          rw [← hx1] at hr1 hx8 hx9
          rw [← hx2] at hr2 hx9
          refine j_draw ?_
          refine jq_q (qs_ixl0 (a := a1) (n := xs.length) (c := c1) Tryz.underlying33 sz34 (by show Value.slice A1 _ _ = _; rw [ha1]) rfl (by omega)) ?_
          refine jq_q (qs_loadR (v := u1) (a := a1) (i := i) (rd_cells hq1 (by simp)) Tryz.underlying34 rfl (by show Value.pointer (some (Addr.add a1 (i : Int).toNat)) = _; rw [Int.toNat_natCast]) hu1) ?_
          rw [hf1]
          refine jq_q (qs_ixl0 (a := b1) (n := p1.length) (c := d1) Tryz.underlying34 sz39 (by show Value.slice B1 _ _ = _; rw [hb1]) rfl (by omega)) ?_
          refine jq_q (qs_loadR (v := t1) (a := b1) (i := k) (rd_cells hd1 (by simp)) Tryz.underlying39 rfl (by show Value.pointer (some (Addr.add b1 (k : Int).toNat)) = _; rw [Int.toNat_natCast]) ht1) ?_
          refine jq_q (qs_ixl0 (a := a2) (n := ys.length) (c := c2) Tryz.underlying33 sz34 (by show Value.slice A2 _ _ = _; rw [ha2]) rfl (by omega)) ?_
          refine jq_q (qs_loadR (v := u2) (a := a2) (i := i) (rd_cells hq2 (by simp)) Tryz.underlying34 rfl (by show Value.pointer (some (Addr.add a2 (i : Int).toNat)) = _; rw [Int.toNat_natCast]) hu2) ?_
          rw [hf2]
          refine jq_q (qs_ixl0 (a := b2) (n := p2.length) (c := d2) Tryz.underlying34 sz39 (by show Value.slice B2 _ _ = _; rw [hb2]) rfl (by omega)) ?_
          refine jq_q (qs_loadR (v := t2) (a := b2) (i := k) (rd_cells hd2 (by simp)) Tryz.underlying39 rfl (by show Value.pointer (some (Addr.add b2 (k : Int).toNat)) = _; rw [Int.toNat_natCast]) ht2) ?_
          refine jq_q (qs_call ent28 rfl rfl rfl (fun w' hw' => same_con x1 x2 _ _ w' (br0 hr1 hw') (br0 hr2 hw') (by omega))) ?_
          refine jq_q (qs_not rfl) ?_
          refine jq_nil ?_
          refine j_cond rfl (fun hc4 => ?_) (fun hc4 => ?_)
          · skip
            have hdf : x1 ≠ x2 := fun e => by
              rw [e] at hc4
              simp at hc4
            refine j_q (qs_ac) ?_
            refine j_ret_con (vs := [_]) (fun w' hw' => ⟨rfl, trivial⟩) ?_
            exact ⟨false, rfl, fun e => absurd (hx9 (hpe e)) hdf⟩
          · skip
            refine j_q (qs_add64 rfl rfl (by first | omega | (simp only [bnA] at *; omega))) ?_
            refine j_back rfl ?_
            exact ⟨_, by omega, k + 1, rfl, rfl, by omega, rfl⟩
        · skip
          refine j_q (qs_add64 rfl rfl (by first | omega | (simp only [bnA] at *; omega))) ?_
          refine j_back rfl ?_
          exact ⟨_, by omega, i + 1, rfl, rfl, by omega, rfl⟩
    · skip
      refine j_q (qs_ac) ?_
      refine j_ret_con (vs := [_]) (fun w' hw' => ⟨rfl, trivial⟩) ?_
      exact ⟨true, rfl, fun _ => rfl⟩
end Go.Proofs.YtomajiicjinekaaGreatDoor
/-! Jn18 -/
namespace Go.Proofs.YtomajiicjinekaaGreatDoor
open Go Go.Sx Go.MapKept Go.WideMaps Go.Maps
set_option maxRecDepth 100000
set_option linter.unusedVariables false
theorem alook_lets {a : AS} {n k : List UInt8} : alook (letsA a n).nm k = if n = k then none else alook a.nm k := by
  unfold letsA
  cases h : alook a.nm n with
  | none =>
    simp only
    split
    · rename_i e
      rw [← e, h]
    · rfl
  | some i =>
    simp only
    exact alook_mdel _ _ _
theorem alook_snoc (m : List (List UInt8 × Nat)) (n k : List UInt8) (i : Nat) (h : alook m n = none) : alook (m ++ [(n, i)]) k = if n = k then some i else alook m k := by
  split
  · rename_i e
    rw [← e]
    exact alook_append_hit (fun q hq => alook_none.1 h q hq)
  · rename_i e
    cases hk : alook m k with
    | some v => rw [alook_app (by rw [hk]; rfl), hk]
    | none =>
      refine alook_none.2 fun p hp => ?_
      rcases List.mem_append.1 hp with hp | hp
      · exact alook_none.1 hk p hp
      · rw [List.mem_singleton.1 hp]
        exact e
theorem alook_gives {a : AS} {n k : List UInt8} {i : Nat} : alook (givesA a n i).nm k = if n = k then some i else alook a.nm k := by
  unfold givesA
  split
  · rename_i h
    split
    · rename_i e
      rw [← e, h]
    · rfl
  · rename_i h
    simp only
    rw [alook_snoc _ _ _ _ (by rw [alook_lets, if_pos rfl]), alook_lets]
    split
    · rfl
    · rfl
theorem alook_write {a : AS} {n xs k : List UInt8} {i : Nat} : alook (writeA a n xs i).nm k = if n = k then some i else alook a.nm k := by
  unfold writeA
  simp only
  rw [alook_gives]
  split
  · rfl
  · rename_i e
    simp only
    rw [alook_lets, if_neg e]
theorem letsA_dt {a : AS} {n : List UInt8} : (letsA a n).dt = a.dt := by
  unfold letsA
  split <;> rfl
theorem givesA_dt {a : AS} {n : List UInt8} {i : Nat} : (givesA a n i).dt = a.dt := by
  unfold givesA
  split
  · rfl
  · exact letsA_dt
theorem dt_write {a : AS} {n xs : List UInt8} {i : Nat} : (writeA a n xs i).dt = updA a.dt i xs := by
  unfold writeA
  simp only
  rw [givesA_dt, letsA_dt]
theorem cont_write {a : AS} {n xs k : List UInt8} {i : Nat} (hf : ∀ q ∈ a.nm, q.2 ≠ i) : contA (writeA a n xs i) k = if n = k then xs else contA a k := by
  unfold contA
  rw [alook_write, dt_write]
  split
  · rename_i e
    split at e
    · cases e
    · rename_i h
      rw [if_neg h, e]
  · rename_i j e
    split at e
    · rename_i h
      injection e with e
      rw [if_pos h, ← e]
      unfold updA
      rw [if_pos rfl]
    · rename_i h
      rw [if_neg h, e]
      simp only
      unfold updA
      rw [if_neg (hf _ (alook_mem e))]
theorem alook_appA {a : AS} {n xs k : List UInt8} : alook (appA a n xs).nm k = alook a.nm k := by
  unfold appA
  split <;> rfl
def Sole (a : AS) : Prop := ∀ k k' i, alook a.nm k = some i → alook a.nm k' = some i → k = k'
theorem cont_app {a : AS} {n xs k : List UInt8} (hs : Sole a) (hn : alook a.nm n ≠ none) : contA (appA a n xs) k = if n = k then contA a n ++ xs else contA a k := by
  obtain ⟨i, hi⟩ := Option.ne_none_iff_exists'.1 hn
  unfold contA
  rw [alook_appA]
  have hd : (appA a n xs).dt = updA a.dt i (a.dt i ++ xs) := by
    unfold appA
    rw [hi]
  rw [hd]
  split
  · rename_i e
    rw [hi]
    split
    · rename_i h
      rw [← h, hi] at e
      cases e
    · rfl
  · rename_i j e
    rw [hi]
    split
    · rename_i h
      rw [← h, hi] at e
      injection e with e
      simp only
      rw [← e]
      unfold updA
      rw [if_pos rfl]
    · rename_i h
      unfold updA
      rw [if_neg]
      intro hj
      rw [hj] at e
      exact h (hs _ _ _ hi e)
theorem cont_lets {a : AS} {n k : List UInt8} (h : n ≠ k) : contA (letsA a n) k = contA a k := by
  unfold contA
  rw [alook_lets, if_neg h, letsA_dt]
theorem Sole.write {a : AS} (h : Sole a) {n xs : List UInt8} {i : Nat} (hf : ∀ q ∈ a.nm, q.2 ≠ i) : Sole (writeA a n xs i) := fun k k' j h1 h2 => by
  rw [alook_write] at h1 h2
  split at h1 <;> split at h2
  · rename_i e1 e2
    rw [← e1, e2]
  · injection h1 with h1
    exact absurd h1.symm (hf _ (alook_mem h2))
  · injection h2 with h2
    exact absurd h2.symm (hf _ (alook_mem h1))
  · exact h k k' j h1 h2
theorem Sole.app {a : AS} (h : Sole a) {n xs : List UInt8} : Sole (appA a n xs) := fun k k' j h1 h2 => by
  rw [alook_appA] at h1 h2
  exact h k k' j h1 h2
theorem Sole.lets {a : AS} (h : Sole a) {n : List UInt8} : Sole (letsA a n) := fun k k' j h1 h2 => by
  rw [alook_lets] at h1 h2
  split at h1
  · cases h1
  · split at h2
    · cases h2
    · exact h k k' j h1 h2
end Go.Proofs.YtomajiicjinekaaGreatDoor
