/- Part 8. -/
import Derived.Test.YtfebkkmmagbnlaaGreatDoorPW3
import Derived.Test.YtfebkkmmagbnlaaGreatDoorPW4
import Derived.Test.YtfebkkmmagbnlaaGreatDoorPW7
import Derived.Test.YtfebkkmmagbnlaaGreatDoorPW6
/-! Jn4 -/
namespace Go.Proofs.YtfebkkmmagbnlaaGreatDoor
open Go Go.Sx
set_option maxRecDepth 100000
set_option maxHeartbeats 4000000
set_option linter.unusedVariables false
set_option linter.unusedSimpArgs false
attribute [local irreducible] J JQ QS Con W opW
structure RR where
 v : Value
 c : SH
 L : List (List UInt8 × Value × SH)
def RR.lf (r : RR) : SH := (r.L.map fun t => t.2.2).flatten
def RR.heap (r : RR) : SH := r.c ++ r.lf
def RR.rs (r : RR) : List (List UInt8) := r.L.map Prod.fst
structure RR.Ok (r : RR) : Prop where
 row : Sx.Own 33 1 (r.L.map fun t => t.2.1) r.v r.c
 own : ∀ t ∈ r.L, Sx.Own 5 1 (ints t.1) t.2.1 t.2.2
theorem own_brI {w : World} {xs : List UInt8} {v : Value} {c : SH} (h : Sx.Own 5 1 (ints xs) v c) (hin : In w c) : BR w v xs := by
 rcases h with ⟨rfl, h, rfl⟩ | ⟨g, n, cap, rest, fz, rfl, rfl, h1, h2, h3, h4⟩
 ·refine .inl ⟨rfl, ?_⟩
  cases xs
  ·rfl
  ·cases h
 ·rw [ints_length, Nat.mul_one] at h1
  subst h1
  have hg := hin _ (List.mem_singleton.2 rfl)
  refine .inr ⟨_, _, rfl, h3, fun _ => lt_of_get hg, fun j u hu => ?_⟩
  rw [add_off, Nat.zero_add, cell_of hg]
  show (ints xs ++ rest)[j]? = some u
  rw [List.getElem?_append_left (by have := (List.getElem?_eq_some_iff.1 hu).1; omega)]
  exact hu
theorem RR.Ok.br {r : RR} (h : r.Ok) {w : World} (hin : In w r.lf) {t : List UInt8 × Value × SH} (ht : t ∈ r.L) : BR w t.2.1 t.1 :=
 own_brI (h.own t ht) fun q hq => hin q (List.mem_flatten.2 ⟨_, List.mem_map.2 ⟨t, ht, rfl⟩, hq⟩)
theorem own_src1 {e : TypeId} {xs : List Value} {v : Value} {c : SH} {b : Base} {S : List SH} (h : Sx.Own e 1 xs v c) (k : Nat) (hk : S[k]? = some c) : Src b S 1 v xs.length xs := by
 obtain ⟨m, hm, hl⟩ := src_own (b := b) k h hk
 rw [Nat.mul_one] at hl
 rwa [hl]
theorem RR.Ok.form {r : RR} (h : r.Ok) : ∃ A cap, r.v = .slice A r.L.length cap ∧ (0 < r.L.length → ∃ g, A = some ⟨g, 0, none⟩) := by
 rcases h.row with ⟨h1, h2, h3⟩ | ⟨g, n, cap, rest, fz, h1, h2, h3, h4, h5, h6⟩
 ·have : r.L = [] := by simpa using h2
  exact ⟨none, 0, by rw [h1, this]; rfl, fun hp => by rw [this] at hp; simp at hp⟩
 ·rw [List.length_map, Nat.mul_one] at h3
  exact ⟨_, cap, by rw [h1, h3], fun _ => ⟨g, rfl⟩⟩
theorem RR.Ok.src {r : RR} (h : r.Ok) {b : Base} {S : List SH} (k : Nat) (hk : S[k]? = some r.lf) {t : List UInt8 × Value × SH} (ht : t ∈ r.L) : Src b S 1 t.2.1 t.1.length (ints t.1) := by
 have hb : ∀ w, Sig b S w → BR w t.2.1 t.1 := fun w hw => h.br (in_own hw k hk) ht
 rcases h.own t ht with ⟨h1, h2, h3⟩ | ⟨g, n, cap, rest, fz, h1, h2, h3, h4, h5, h6⟩
 ·have : t.1 = [] := by
   cases hx : t.1
   ·rfl
   ·rw [hx] at h2; cases h2
  rw [h1, this]
  exact .inr (.inl ⟨0, rfl, rfl, rfl⟩)
 ·rw [ints_length, Nat.mul_one] at h3
  rw [h1, ← h3]
  refine .inl ⟨_, _, rfl, fun w hw => ?_, by rw [ints_length, Nat.mul_one]⟩
  rcases hb w hw with ⟨e, _⟩ | ⟨a, c, e, _, _, hc⟩
  ·rw [h1] at e; cases e
  ·rw [h1] at e
   injection e with e1 e2 e3
   injection e1 with e1
   rw [e1]
   exact hc
def recE (r : List UInt8) : List UInt8 := num r.length ++ r
def recsE (rs : List (List UInt8)) : List UInt8 := (rs.map recE).flatten
def bodyE (rs : List (List UInt8)) : List UInt8 := num rs.length ++ recsE rs
def grpE (rs : List (List UInt8)) : List UInt8 := num (bodyE rs).length ++ (bodyE rs ++ sum (bodyE rs))
def gsE (gs : List (List (List UInt8))) : List UInt8 := (gs.map grpE).flatten
def sizeR (rs : List (List UInt8)) : Nat := (rs.map List.length).sum
def sizeG (gs : List (List (List UInt8))) : Nat := (gs.map sizeR).sum
def limR (rs : List (List UInt8)) : Prop := rs.length ≤ 130 ∧ sizeR rs ≤ 13000
theorem sizeR_get {rs : List (List UInt8)} {x : List UInt8} (h : x ∈ rs) : x.length ≤ sizeR rs := by
 induction rs with
 | nil => cases h
 | cons y rs ih =>
  unfold sizeR at *
  rw [List.map_cons, List.sum_cons]
  rcases List.mem_cons.1 h with rfl | h
  ·exact Nat.le_add_right _ _
  ·exact Nat.le_trans (ih h) (Nat.le_add_left _ _)
theorem recsE_snoc (rs : List (List UInt8)) (x : List UInt8) : recsE (rs ++ [x]) = recsE rs ++ recE x := by
 unfold recsE
 rw [List.map_append, List.flatten_append, List.map_singleton, List.flatten_singleton]
theorem recsE_cons (rs : List (List UInt8)) (x : List UInt8) : recsE (x :: rs) = recE x ++ recsE rs := rfl
theorem recsE_take {rs : List (List UInt8)} {i : Nat} (h : i < rs.length) : recsE (rs.take (i + 1)) = recsE (rs.take i) ++ recE (rs.getD i []) := by
 rw [List.take_add_one, List.getElem?_eq_getElem h, Option.toList_some, recsE_snoc, List.getD_eq_getElem?_getD, List.getElem?_eq_getElem h]
 rfl
theorem recsE_len {rs : List (List UInt8)} (h : ∀ x ∈ rs, x.length ≤ 13000) : (recsE rs).length ≤ rs.length * 4 + sizeR rs := by
 induction rs with
 | nil => exact Nat.le_refl _
 | cons x rs ih =>
  have h1 := ih fun y hy => h y (List.mem_cons_of_mem _ hy)
  have h2 := num_len (show x.length < 268435456 by have := h x (List.mem_cons_self ..); omega)
  rw [recsE_cons, List.length_append]
  unfold recE sizeR at *
  rw [List.length_append, List.map_cons, List.sum_cons, List.length_cons]
  omega
theorem lim_take {rs : List (List UInt8)} (h : limR rs) (i : Nat) : limR (rs.take i) := by
 refine ⟨by rw [List.length_take]; have := h.1; omega, ?_⟩
 refine Nat.le_trans ?_ h.2
 unfold sizeR
 rw [← List.take_append_drop i rs] 
 rw [List.map_append, List.sum_append, List.take_append_drop]
 exact Nat.le_add_right _ _
theorem recsE_lim {rs : List (List UInt8)} (h : limR rs) : (recsE rs).length ≤ 13520 := by
 have h1 := recsE_len (rs := rs) fun x hx => Nat.le_trans (sizeR_get hx) h.2
 have := h.1
 have := h.2
 omega
theorem bodyE_lim {rs : List (List UInt8)} (h : limR rs) : (bodyE rs).length ≤ 13524 := by
 unfold bodyE
 rw [List.length_append]
 have h1 := recsE_lim h
 have h2 := num_len (show rs.length < 268435456 by have := h.1; omega)
 omega
theorem grpE_lim {rs : List (List UInt8)} (h : limR rs) : (grpE rs).length ≤ 13560 := by
 unfold grpE
 rw [List.length_append, List.length_append, sum_length]
 have h1 := bodyE_lim h
 have h2 := num_len (show (bodyE rs).length < 268435456 by omega)
 omega
abbrev gobj (rv : Value) (size d m s : Int) (bv : Value) : Obj := .cells [rv, .int .i64 size, .int .u32 d, .int .i32 m, .int .u32 s, bv].toArray 133 (0, 0)
abbrev gbox (gg : Nat) : Obj := .cells [.pointer (some ⟨gg, 0, none⟩)].toArray 121 (0, 0)
attribute [local irreducible] sum
theorem made1_con (gb gg : Nat) (r : RR) (size mu : Int) (w : World) (h : r.Ok) (hl : limR r.rs) : Con Tryz.prog 118 [.pointer (some ⟨gb, 0, none⟩)] w ((gb, gbox gg) :: (gg, gobj r.v size 0 mu 0 (.slice none 0 0)) :: r.heap) fun u S' => u = .tuple #[] ∧ ∃ bv c, S' = [c, [(gb, gbox gg)], [(gg, gobj r.v size 0 mu 0 (bv))], r.c, r.lf] ∧ Sx.Own 5 1 (ints (grpE r.rs)) bv c := by
 refine con_of_tree mix Tryz.func118 T118_ok (by kernel_rfl) ?_
 unfold T118
 obtain ⟨A, cap, hv, hA⟩ := h.form
 have hn : r.rs.length = r.L.length := List.length_map _
 have hl1 := hl.1
 have hnl := num_len (show r.rs.length < 268435456 by omega)
 have hnL := hnl
 rw [hn] at hnL
 have hbl := bodyE_lim hl
 have hbn := num_len (show (bodyE r.rs).length < 268435456 by omega)
 rw [hv]
 refine j_perm (S' := [[], [(gb, gbox gg)], [(gg, gobj (.slice A r.L.length cap) size 0 mu 0 (.slice none 0 0))], r.c, r.lf]) (by simp [RR.heap]) ?_
 refine j_q (qs_load (l := [.pointer (some ⟨gg, 0, none⟩)]) 1 U121 rfl rfl rfl rfl) ?_
 refine j_q (qs_nil rfl) ?_
 refine j_q (qs_field U133 rfl sz90 (by decide) rfl) ?_
 refine j_q (qs_load (l := [.slice A r.L.length cap, .int .i64 size, .int .u32 0, .int .i32 mu, .int .u32 0, .slice none 0 0]) (v := .slice A r.L.length cap) 2 U90 rfl rfl rfl rfl) ?_
 refine j_q (qs_lenl U90 rfl) ?_
 refine j_q (qs_conv U3 U64 rfl) ?_
 rw [IntWalk.u64_in _ (by omega)]
 refine j_call 0 ent115 rfl rfl rfl rfl (fun w' hw' => appendNum_con ([]) (r.L.length) _ _ w' own_nil (by omega) (by first | decide | (rw [List.length_append]; omega))) (fun u S2 hu => ?_)
 obtain ⟨c6, rfl, hoc6⟩ := hu
 refine j_subl (S' := [c6, [(gb, gbox gg)], [(gg, gobj (.slice A r.L.length cap) size 0 mu 0 (.slice none 0 0))], r.c, r.lf]) (by repeat first | exact slR _ | exact slN _ | apply slC | apply slD) ?_
 refine j_q (qs_load (l := [.pointer (some ⟨gg, 0, none⟩)]) 1 U121 rfl rfl rfl rfl) ?_
 refine j_q (qs_nil rfl) ?_
 refine j_q (qs_field U133 rfl sz90 (by decide) rfl) ?_
 refine j_q (qs_load (l := [.slice A r.L.length cap, .int .i64 size, .int .u32 0, .int .i32 mu, .int .u32 0, .slice none 0 0]) (v := .slice A r.L.length cap) 2 U90 rfl rfl rfl rfl) ?_
 refine j_q (qs_lenl U90 rfl) ?_
 refine j_q (qs_mc) ?_
 refine j_loop (fun m vs S' => ∃ (i : Nat) (bv : Value) (c : SH), vs = [bv, .int .i64 (i : Int)] ∧ S' = [c, [(gb, gbox gg)], [(gg, gobj (.slice A r.L.length cap) size 0 mu 0 (.slice none 0 0))], r.c, r.lf] ∧ Sx.Own 5 1 (ints (num r.rs.length ++ recsE (r.rs.take i))) bv c ∧ i ≤ r.L.length ∧ m = r.L.length - i) ⟨_, 0, _, c6, rfl, rfl, (by rw [List.nil_append, ← hn] at hoc6; rw [List.take_zero]; show Sx.Own 5 1 (ints (num r.rs.length ++ [])) _ _; rw [List.append_nil]; exact hoc6), Nat.zero_le _, rfl⟩ ?_
 rintro m vs S' hlen ⟨i, bv, c, rfl, rfl, hob, hin, rfl⟩
 have hrl := recsE_lim (lim_take hl i)
 refine j_q (qs_lss rfl rfl) ?_
 refine j_cond rfl (fun hc0 => ?_) (fun hc0 => ?_)
 ·skip
  have hi : i < r.L.length := by
   simp only [bnA] at *
   omega
  obtain ⟨g0, hg0⟩ := hA (by omega)
  have hrow := h.row
  rw [hv, hg0] at hrow
  obtain ⟨t, ht⟩ : ∃ t, t = r.L.getD i ([], .slice none 0 0, []) := ⟨_, rfl⟩
  have htm : t ∈ r.L := by
   rw [ht, List.getD_eq_getElem?_getD, List.getElem?_eq_getElem hi]
   exact List.getElem_mem hi
  have hrg : r.rs.getD i [] = t.1 := by
   rw [ht, List.getD_eq_getElem?_getD, List.getD_eq_getElem?_getD]
   unfold RR.rs
   rw [List.getElem?_map, List.getElem?_eq_getElem hi]
   rfl
  have hto := h.own t htm
  obtain ⟨nr, Ar, cr, hvr, hnr⟩ := own_form hto (by decide)
  rw [ints_length, Nat.mul_one] at hnr
  have htl : t.1.length ≤ 13000 := Nat.le_trans (sizeR_get (rs := r.rs) (List.mem_map.2 ⟨t, htm, rfl⟩)) hl.2
  have htn := num_len (show t.1.length < 268435456 by omega)
  subst hnr
  have hsrc : ∀ {b : Base} {S : List SH} (k : Nat), S[k]? = some r.lf → Src b S 1 (.slice Ar t.1.length cr) t.1.length (ints t.1) := by
   intro b S k hk
   rw [← hvr]
   exact h.src k hk htm
  refine j_q (qs_ixl0 (a := ⟨g0, 0, none⟩) (n := r.L.length) (c := cap) U90 sz33 (by show Value.slice A _ _ = _; rw [hg0]) rfl (by omega)) ?_
  refine j_q (qs_loadR (v := t.2.1) (a := ⟨g0, 0, none⟩) (i := i) (own_rd hrow 3 rfl) U33 rfl (by show Value.pointer (some (Addr.add ⟨g0, 0, none⟩ (i : Int).toNat)) = _; rw [Int.toNat_natCast]) (by rw [List.getElem?_map, List.getElem?_eq_getElem hi, ht, List.getD_eq_getElem?_getD, List.getElem?_eq_getElem hi]; rfl)) ?_
  rw [hvr]
  refine j_q (qs_lenl U33 rfl) ?_
  refine j_q (qs_conv U3 U64 rfl) ?_
  rw [IntWalk.u64_in _ (by omega)]
  refine j_call 0 ent115 rfl rfl rfl rfl (fun w' hw' => appendNum_con (num r.rs.length ++ recsE (r.rs.take i)) (t.1.length) _ _ w' hob (by omega) (by first | decide | (rw [List.length_append]; omega))) (fun u S2 hu => ?_)
  obtain ⟨c18, rfl, hoc18⟩ := hu
  refine j_subl (S' := [c18, [(gb, gbox gg)], [(gg, gobj (.slice A r.L.length cap) size 0 mu 0 (.slice none 0 0))], r.c, r.lf]) (by repeat first | exact slR _ | exact slN _ | apply slC | apply slD) ?_
  refine j_append 0 U33 U33 (.inr ⟨_, rfl⟩) sb5 zero5 rfl hoc18 rfl (hsrc 4 rfl) ints_one ⟨(by simp only [ints_length, List.length_append]; omega), (by decide)⟩ (fun v19 c19 ho19 => ?_)
  refine j_q (qs_add64 rfl rfl (by first | omega | (simp only [bnA] at *; omega))) ?_
  refine j_back rfl ?_
  refine ⟨_, by omega, i + 1, _, _, rfl, rfl, ?_, by omega, rfl⟩
  rw [recsE_take (by omega), hrg]
  unfold recE
  rw [← List.append_assoc, ← List.append_assoc, ints_append]
  exact ho19
 ·skip
  have hi : i = r.L.length := by
   simp only [bnA] at *
   omega
  have hob2 : Sx.Own 5 1 (ints (bodyE r.rs)) bv c := by
   rw [hi, ← hn, List.take_length] at hob
   exact hob
  obtain ⟨nb, Ab, cb, rfl, hnb⟩ := own_form hob2 (by decide)
  rw [ints_length, Nat.mul_one] at hnb
  subst hnb
  refine j_q (qs_call ent85 rfl rfl rfl (fun w' hw' => sumB_con (bodyE r.rs) _ w' (own_br hob2 0 rfl hw') (fun h0 => by have h8 := num_pos r.rs.length; unfold bodyE at h0; rw [List.append_eq_nil_iff] at h0; rw [h0.1] at h8; simp at h8) (by omega))) ?_
  refine j_alloc zero158 (fun g22 hg22 hs22 => ?_)
  refine j_storew 0 sz158 rfl rfl (by first | (rw [ints_length]; exact sum_length _) | rfl) ints_one rfl (by first | (rw [ints_length]; exact sum_length _) | rfl) ?_
  refine j_mix [[(gb, gbox gg)]] (Le.of_sub (by repeat first | exact slR _ | exact slN _ | apply slC | apply slD)) ?_
  refine j_mq (qs_load 0 U121 rfl rfl rfl rfl) ?_
  refine j_mq (qs_lenl U33 rfl) ?_
  refine j_mq (qs_conv U3 U64 rfl) ?_
  rw [IntWalk.u64_in _ (by omega)]
  refine j_mq (qs_cuta  U158 sz5 rfl rfl rfl (by first | omega | (simp only [bnA] at *; omega)) (by first | omega | (simp only [bnA] at *; omega))) ?_
  refine j_call0 ent115 rfl rfl rfl (fun w' hw' => appendNum_con [] (bodyE r.rs).length _ [] w' own_nil (by omega) (by decide)) (fun u S2 hu => ?_)
  obtain ⟨c28, rfl, ho28⟩ := hu
  rw [List.nil_append] at ho28
  refine j_mD0 (Le.of_sub (by repeat first | exact slR _ | exact slN _ | apply slC | apply slD)) ?_
  refine j_append 2 U33 U33 (.inr ⟨_, rfl⟩) sb5 zero5 rfl hob2 rfl (src_sl (rd_own (off := 0) (n := (ints (sum (bodyE r.rs))).length) 1 rfl (by rw [List.drop_zero, List.take_length])) (by rw [ints_length, sum_length])) ints_one ⟨(by simp only [ints_length, sum_length]; omega), (by decide)⟩ (fun v29 c29 ho29 => ?_)
  rw [← ints_append] at ho29
  obtain ⟨n29, A29, c29', rfl, hn29⟩ := own_form ho29 (by decide)
  rw [ints_length, Nat.mul_one] at hn29
  subst hn29
  refine j_mD0 (Le.of_sub (by repeat first | exact slR _ | exact slN _ | apply slC | apply slD)) ?_
  refine j_append 0 U33 U33 (.inr ⟨_, rfl⟩) sb5 zero5 rfl ho28 rfl (own_src1 ho29 2 rfl) ints_one ⟨(by simp only [ints_length, List.length_append, sum_length]; omega), (by decide)⟩ (fun v30 c30 ho30 => ?_)
  obtain ⟨n30, A30, c30', rfl, hn30⟩ := own_form ho30 (by decide)
  refine j_mD0 (Le.of_sub (by repeat first | exact slR _ | exact slN _ | apply slC | apply slD)) ?_
  refine j_mq (qs_nil rfl) ?_
  refine j_mq (qs_field U133 rfl sz33 (by decide) rfl) ?_
  refine j_store (l := [.slice A r.L.length cap, .int .i64 size, .int .u32 0, .int .i32 mu, .int .u32 0, .slice none 0 0]) 4 sz33 rfl rfl rfl rfl (by simp) (by simp) ?_
  refine j_mR _ (.refl _) ?_
  refine j_mend ?_
  refine j_subl (S' := [c30, [(gb, gbox gg)], [(gg, gobj (.slice A r.L.length cap) size 0 mu 0 (.slice A30 n30 c30'))], r.c, r.lf]) (by repeat first | exact slR _ | exact slN _ | apply slC | apply slD) ?_
  refine j_ret_con (vs := []) (fun w' hw' => trivial) ?_
  exact ⟨rfl, _, _, rfl, by unfold grpE; rw [ints_append]; exact ho30⟩
end Go.Proofs.YtfebkkmmagbnlaaGreatDoor
/-! Jn5 -/
namespace Go.Proofs.YtfebkkmmagbnlaaGreatDoor
open Go Go.Sx
set_option maxRecDepth 100000
set_option maxHeartbeats 4000000
set_option linter.unusedVariables false
set_option linter.unusedSimpArgs false
attribute [local irreducible] J JQ QS Con W opW
theorem sig_refl (w : World) (F : SH) (h : ∀ p ∈ F, w.heap[p.1]? = some p.2) (hn : (dom F).Nodup) : Sig ⟨w, dom F⟩ [F] w :=
 ⟨rfl, rfl, rfl, Nat.le_refl _, by simpa using h, by simpa using hn, fun k hk => .inl (by simpa using hk), fun _ _ _ => rfl⟩
theorem ent48b : Sx.Enters Tryz.prog 118 := ⟨_, Tryz.func118, by kernel_rfl, by kernel_rfl⟩
abbrev nilS : Value := .slice none 0 0
theorem slow_con (gb gg : Nat) (r : RR) (size : Int) (w : World) (h : r.Ok) (hl : limR r.rs) : Con Tryz.prog 135 [.pointer (some ⟨gg, 2, none⟩), .func (.func 118) #[] #[.pointer (some ⟨gb, 0, none⟩)]] w ((gb, gbox gg) :: (gg, gobj r.v size 0 0 0 nilS) :: r.heap)
  fun u S' => u = .tuple #[] ∧ ∃ bv c, S' = [[(gg, gobj r.v size 1 0 0 bv)], [(gb, gbox gg)], r.c, r.lf, c] ∧ Sx.Own 5 1 (ints (grpE r.rs)) bv c := by
 unfold Con
 intro hown hnd
 have hgt := hown (gg, gobj r.v size 0 0 0 nilS) (List.mem_cons_of_mem _ (List.mem_cons_self ..))
 simp only at hgt
 have hs0 : Sig ⟨w, dom ((gb, gbox gg) :: (gg, gobj r.v size 0 0 0 nilS) :: r.heap)⟩ [[(gg, gobj r.v size 0 0 0 nilS)], [(gb, gbox gg)], r.heap] w := (sig_refl w _ hown hnd).perm (by simp; exact List.Perm.swap _ _ _)
 have hl1 : (w.setCell ⟨gg, 3, none⟩ (.int .i32 1)).heap[gg]? = some (gobj r.v size 0 1 0 nilS) := setCell_same hgt
 have hs1 := hs0.set (k := 0) (g := gg) (w' := w.setCell ⟨gg, 3, none⟩ (.int .i32 1)) rfl rfl rfl rfl (by unfold World.setCell; simp) hl1 (fun j hj => setCell_other hj)
 have hs1' : Sig ⟨w, dom ((gb, gbox gg) :: (gg, gobj r.v size 0 0 0 nilS) :: r.heap)⟩ [[(gg, gobj r.v size 0 1 0 nilS)], [(gb, gbox gg)], r.heap] (w.setCell ⟨gg, 3, none⟩ (.int .i32 1)) := hs1
 have hs1p : Sig ⟨w, dom ((gb, gbox gg) :: (gg, gobj r.v size 0 0 0 nilS) :: r.heap)⟩ [(gb, gbox gg) :: (gg, gobj r.v size 0 1 0 nilS) :: r.heap] (w.setCell ⟨gg, 3, none⟩ (.int .i32 1)) := hs1'.perm (by simp; exact List.Perm.swap _ _ _)
 have hc0 := made1_con gb gg r size 1 (w.setCell ⟨gg, 3, none⟩ (.int .i32 1)) h hl
 unfold Con at hc0
 have hc1 := hc0 (fun p hp => hs1p.own p (by simpa using hp)) (by simpa [dom] using hs1p.nodup)
 refine (slow_gen gg 2 118 #[.pointer (some ⟨gb, 0, none⟩)] w (fun w1 => ∃ bv c, Sx.Own 5 1 (ints (grpE r.rs)) bv c ∧ Sig ⟨w, dom ((gb, gbox gg) :: (gg, gobj r.v size 0 0 0 nilS) :: r.heap)⟩ [[(gg, gobj r.v size 0 1 0 bv)], [(gb, gbox gg)], r.c, r.lf, c] w1) ent48b (by rw [cell_of hgt]; rfl) (by rw [cell_of hgt]; rfl) (notFrozen hgt) (hc1.mono ?_)).mono ?_
 ·rintro e w2 ⟨v, S', rfl, ⟨rfl, bv, c, rfl, hbv⟩, hS⟩
  have hS1 : Sig ⟨w, dom ((gb, gbox gg) :: (gg, gobj r.v size 0 0 0 nilS) :: r.heap)⟩ [[(gg, gobj r.v size 0 1 0 bv)], [(gb, gbox gg)], r.c, r.lf, c] w2 :=
   Sig.call (Fr := []) hs1p (by simp) hS (by
    classical
    refine List.perm_iff_count.2 fun x => ?_
    simp only [List.flatten_cons, List.flatten_nil, List.count_append, List.append_nil, List.count_cons, List.count_nil]
    omega)
  have hg1 := hS1.at_ (k := 0) rfl
  exact ⟨rfl, ⟨bv, c, hbv, hS1⟩, by rw [cell_of hg1]; rfl, notFrozen hg1, by rw [cell_of hg1]; rfl, notFrozen hg1⟩
 ·rintro e w' ⟨rfl, w1, ⟨bv, c, hbv, hS⟩, rfl⟩
  refine ⟨_, _, rfl, ⟨rfl, bv, c, rfl, hbv⟩, ?_⟩
  have hd := hS.drew
  have hg1 := hd.at_ (k := 0) rfl
  have h2 := hd.set (k := 0) (g := gg) (w' := w1.drew.setCell ⟨gg, 2, none⟩ (.int .u32 1)) rfl rfl rfl rfl (by unfold World.setCell; simp only [Array.size_modify]; rfl) (setCell_same hg1) (fun j hj => setCell_other hj)
  have hg2 := h2.at_ (k := 0) rfl
  exact h2.set (k := 0) (g := gg) (w' := (w1.drew.setCell ⟨gg, 2, none⟩ (.int .u32 1)).setCell ⟨gg, 3, none⟩ (.int .i32 0)) rfl rfl rfl rfl (by unfold World.setCell; simp) (setCell_same hg2) (fun j hj => setCell_other hj)
theorem once_con (gb gg : Nat) (r : RR) (size : Int) (w : World) (h : r.Ok) (hl : limR r.rs) : Con Tryz.prog 117 [.pointer (some ⟨gg, 2, none⟩), .func (.func 118) #[] #[.pointer (some ⟨gb, 0, none⟩)]] w ((gb, gbox gg) :: (gg, gobj r.v size 0 0 0 nilS) :: r.heap) fun u S' => u = .tuple #[] ∧ ∃ bv c, S' = [[(gg, gobj r.v size 1 0 0 bv)], [(gb, gbox gg)], r.c, r.lf, c] ∧ Sx.Own 5 1 (ints (grpE r.rs)) bv c := by
 refine con_of_tree mix Tryz.func117 T117_ok (by kernel_rfl) ?_
 unfold T117
 refine j_q (qs_nil rfl) ?_
 refine j_q (qs_field U131 rfl sz125 (by decide) rfl) ?_
 refine j_q (qs_call ent116 rfl rfl rfl (fun w' hw' => bload_con gg 2 [r.v, .int .i64 size, .int .u32 0, .int .i32 0, .int .u32 0, nilS] 133 (0, 0) 0 w' (hw'.own (gg, _) (by simp)) rfl)) ?_
 refine j_q (qs_not rfl) ?_
 refine j_cond rfl (fun hc0 => ?_) (fun hc0 => ?_)
 ·skip
  refine j_call 0 ent135 rfl rfl rfl rfl (fun w' hw' => slow_con gb gg r size w' h hl) (fun u S2 hu => ?_)
  obtain ⟨rfl, bv, c, rfl, hbv⟩ := hu
  refine j_subl (S' := [[(gg, gobj r.v size 1 0 0 bv)], [(gb, gbox gg)], r.c, r.lf, c]) (by repeat first | exact slR _ | exact slN _ | apply slC | apply slD) ?_
  refine j_ret_con (vs := []) (fun w' hw' => trivial) ?_
  exact ⟨rfl, bv, c, rfl, hbv⟩
 ·skip
  cases hc0
theorem made_con (gg : Nat) (r : RR) (size : Int) (w : World) (h : r.Ok) (hl : limR r.rs) : Con Tryz.prog 93 [.pointer (some ⟨gg, 0, none⟩)] w ((gg, gobj r.v size 0 0 0 nilS) :: r.heap) fun u S' => ∃ bv c, u = bv ∧ S' = [[(gg, gobj r.v size 1 0 0 bv)], r.c, r.lf, c] ∧ Sx.Own 5 1 (ints (grpE r.rs)) bv c := by
 refine con_of_tree mix Tryz.func93 T93_ok (by kernel_rfl) ?_
 unfold T93
 refine j_box (l := [.pointer (some ⟨gg, 0, none⟩)]) rfl (fun g0 hg0 hs0 => ?_)
 refine j_q (qs_ac) ?_
 refine j_q (qs_load (l := [.pointer (some ⟨gg, 0, none⟩)]) 0 U121 rfl rfl rfl rfl) ?_
 refine j_q (qs_nil rfl) ?_
 refine j_q (qs_field U133 rfl sz131 (by decide) rfl) ?_
 refine j_q (qs_mkfunc1 rfl) ?_
 refine j_perm (S' := [(g0, gbox gg) :: (gg, gobj r.v size 0 0 0 nilS) :: r.heap]) (by simp) ?_
 refine j_call 0 ent117 rfl rfl rfl rfl (fun w' hw' => once_con g0 gg r size w' h hl) (fun u S2 hu => ?_)
 obtain ⟨rfl, bv, c, rfl, hbv⟩ := hu
 refine j_q (qs_load (l := [.pointer (some ⟨gg, 0, none⟩)]) 1 U121 rfl rfl rfl rfl) ?_
 refine j_q (qs_nil rfl) ?_
 refine j_q (qs_field U133 rfl sz33 (by decide) rfl) ?_
 refine j_q (qs_load (l := [r.v, .int .i64 size, .int .u32 1, .int .i32 0, .int .u32 0, bv]) (v := bv) 0 U33 rfl rfl rfl rfl) ?_
 refine j_subl (S' := [[(gg, gobj r.v size 1 0 0 bv)], r.c, r.lf, c]) (by repeat first | exact slR _ | exact slN _ | apply slC | apply slD) ?_
 refine j_ret_con (vs := [_]) (fun w' hw' => ⟨rfl, trivial⟩) ?_
 exact ⟨bv, c, rfl, rfl, hbv⟩
end Go.Proofs.YtfebkkmmagbnlaaGreatDoor
/-! Jn6 -/
namespace Go.Proofs.YtfebkkmmagbnlaaGreatDoor
open Go Go.Sx
set_option maxRecDepth 100000
set_option maxHeartbeats 4000000
set_option linter.unusedVariables false
set_option linter.unusedSimpArgs false
attribute [local irreducible] J JQ QS Con W opW
abbrev gl (rv : Value) (size d m s : Int) (bv : Value) : List Value := [rv, .int .i64 size, .int .u32 d, .int .i32 m, .int .u32 s, bv]
def RR.add (r : RR) (v : Value) (c : SH) (x : List UInt8) (xv : Value) (xc : SH) : RR := ⟨v, c, r.L ++ [(x, xv, xc)]⟩
theorem RR.add_rs (r : RR) {v : Value} {c : SH} {x : List UInt8} {xv : Value} {xc : SH} : (r.add v c x xv xc).rs = r.rs ++ [x] := by
 unfold RR.rs RR.add
 rw [List.map_append]
 rfl
theorem RR.add_lf (r : RR) {v : Value} {c : SH} {x : List UInt8} {xv : Value} {xc : SH} : (r.add v c x xv xc).lf = r.lf ++ xc := by
 unfold RR.lf RR.add
 rw [List.map_append, List.flatten_append, List.map_singleton, List.flatten_singleton]
theorem RR.Ok.add {r : RR} (h : r.Ok) {v : Value} {c : SH} {x : List UInt8} {xv : Value} {xc : SH} (hv : Sx.Own 33 1 ((r.L.map fun t => t.2.1) ++ [xv]) v c) (hx : Sx.Own 5 1 (ints x) xv xc) : (r.add v c x xv xc).Ok := by
 refine ⟨?_, fun t ht => ?_⟩
 ·unfold RR.add
  rw [List.map_append]
  exact hv
 ·rcases List.mem_append.1 ht with ht | ht
  ·exact h.own t ht
  ·rw [List.mem_singleton.1 ht]
   exact hx
theorem rr0 : RR.Ok ⟨.slice none 0 0, [], []⟩ := ⟨own_nil, fun t ht => by cases ht⟩
theorem sizeR_take {rs : List (List UInt8)} {i : Nat} (h : i < rs.length) : sizeR (rs.take (i + 1)) = sizeR (rs.take i) + (rs.getD i []).length := by
 unfold sizeR
 rw [List.take_add_one, List.getElem?_eq_getElem h, Option.toList_some, List.map_append, List.sum_append, List.getD_eq_getElem?_getD, List.getElem?_eq_getElem h]
 simp
theorem recsE_drop {rs : List (List UInt8)} {i : Nat} (h : i < rs.length) : recsE (rs.drop i) = num (rs.getD i []).length ++ (rs.getD i [] ++ recsE (rs.drop (i + 1))) := by
 rw [List.drop_eq_getElem_cons h, recsE_cons, List.getD_eq_getElem?_getD, List.getElem?_eq_getElem h]
 unfold recE
 rw [List.append_assoc]
 rfl
theorem mid_cut (a b c : List UInt8) : ((a ++ (b ++ c)).take (a.length + b.length)).drop a.length = b := by
 rw [← List.append_assoc, List.take_append_of_le_length (by rw [List.length_append]; exact Nat.le_refl _), List.take_of_length_le (by rw [List.length_append]; exact Nat.le_refl _), List.drop_left]
theorem end_cut (a b c : List UInt8) : (a ++ (b ++ c)).drop (a.length + b.length) = c := by
 rw [← List.drop_drop, List.drop_left, List.drop_left]
theorem recsE_ge (rs : List (List UInt8)) : rs.length ≤ (recsE rs).length := by
 induction rs with
 | nil => exact Nat.le_refl _
 | cons x rs ih =>
  rw [recsE_cons, List.length_append, List.length_cons]
  have := num_pos x.length
  unfold recE
  rw [List.length_append]
  omega
theorem recsE_drop_le {rs : List (List UInt8)} (h : limR rs) (i : Nat) : (recsE (rs.drop i)).length ≤ 13520 := by
 have h1 := recsE_lim h
 have h2 : recsE rs = recsE (rs.take i) ++ recsE (rs.drop i) := by
  unfold recsE
  rw [← List.flatten_append, ← List.map_append, List.take_append_drop]
 rw [h2, List.length_append] at h1
 omega
attribute [local irreducible] sum
theorem readGroup_con (rs : List (List UInt8)) (v : Value) (w : World) (h : BR w v (bodyE rs)) (hl : limR rs) : Con Tryz.prog 90 [v] w [] fun u S' => ∃ (gg : Nat) (r : RR), u = .tuple #[.pointer (some ⟨gg, 0, none⟩), .bool true] ∧ S' = [[(gg, gobj r.v ((sizeR rs : Nat) : Int) 0 0 0 nilS)], r.c, r.lf] ∧ r.Ok ∧ r.rs = rs := by
 refine con_of_tree mix Tryz.func90 T90_ok (by kernel_rfl) ?_
 unfold T90
 obtain ⟨A0, cap0, hv0, hcap0⟩ := br_form h
 subst hv0
 have hl1 := hl.1
 have hl2 := hl.2
 have hnl := num_len (show rs.length < 268435456 by omega)
 have hnp := num_pos rs.length
 have hrg := recsE_ge rs
 have hbl : (bodyE rs).length = (num rs.length).length + (recsE rs).length := by
  unfold bodyE
  exact List.length_append
 have hbl2 := bodyE_lim hl
 have hbs := br_sub h (num rs.length).length (bodyE rs).length (by omega) (Nat.le_refl _)
 rw [List.take_length] at hbs
 have hbd : (bodyE rs).drop (num rs.length).length = recsE rs := by
  unfold bodyE
  exact List.drop_left
 rw [hbd] at hbs
 have hlen0 : (bodyE rs).length - (num rs.length).length = (recsE rs).length := by omega
 rw [hlen0] at hbs
 refine j_q (qs_ac) ?_
 refine j_q (qs_ac) ?_
 refine j_q (qs_call ent88 rfl rfl rfl (fun w' hw' => takeNum_con rs.length (recsE rs) _ w' (br0 h hw') (by omega) (by rw [List.length_append]; omega))) ?_
 refine j_q (qs_ext rfl rfl) ?_
 refine j_q (qs_ext rfl rfl) ?_
 refine j_q (qs_leq rfl rfl) ?_
 rw [decide_eq_false (show ¬ ((num rs.length).length : Int) ≤ 0 by omega)]
 refine j_gt rfl (qs_mt rfl) ?_
 refine j_gt rfl (qs_mt rfl) ?_
 refine j_gt rfl (qs_lenl U33 rfl) ?_
 refine j_gt rfl (qs_conv U3 U64 rfl) ?_
 rw [IntWalk.u64_in _ (by omega)]
 refine j_gt rfl (qs_gtr rfl rfl) ?_
 rw [decide_eq_false (show ¬ ((rs.length : Nat) : Int) > ((bodyE rs).length : Int) by omega)]
 refine j_q (qs_or rfl rfl) ?_
 refine j_cond rfl (fun hc0 => ?_) (fun hc0 => ?_)
 ·skip
  simp at hc0
 ·skip
  refine j_q (qs_run (v := .agg (gl nilS 0 0 0 0 nilS).toArray) (fun w => by kernel_rfl)) ?_
  refine j_box (l := gl nilS 0 0 0 0 nilS) rfl (fun g15 hg15 hs15 => ?_)
  refine j_perm (S' := [[(g15, gobj nilS 0 0 0 0 nilS)], [], []]) (by simp) ?_
  refine j_q (qs_cutl (a := (num rs.length).length) (z := (bodyE rs).length) U33 sz5 rfl ⟨.i64, rfl⟩ rfl (by omega) (by omega)) ?_
  rw [hlen0]
  refine j_q (qs_mc) ?_
  refine j_loop (fun m vs S' => ∃ (i : Nat) (A : Option Addr) (cap : Nat) (r : RR), vs = [(.slice A (recsE (rs.drop i)).length cap), .int .u64 (i : Int)] ∧ S' = [[(g15, gobj r.v ((sizeR (rs.take i) : Nat) : Int) 0 0 0 nilS)], r.c, r.lf] ∧ BR w (.slice A (recsE (rs.drop i)).length cap) (recsE (rs.drop i)) ∧ (recsE (rs.drop i)).length ≤ cap ∧ r.Ok ∧ r.rs = rs.take i ∧ i ≤ rs.length ∧ m = rs.length - i) ⟨_, 0, _, _, ⟨nilS, [], []⟩, rfl, rfl, hbs, (by show (recsE rs).length ≤ _; omega), rr0, rfl, Nat.zero_le _, rfl⟩ ?_
  rintro m vs S' hlen ⟨i, A, cap, r, rfl, rfl, hbr, hcap, hro, hrs, hin, rfl⟩
  refine j_q (qs_lss rfl rfl) ?_
  refine j_cond rfl (fun hc1 => ?_) (fun hc1 => ?_)
  ·skip
   have hi : i < rs.length := by
    simp only [bnA] at *
    omega
   obtain ⟨x, hx⟩ : ∃ x, x = rs.getD i [] := ⟨_, rfl⟩
   have hdr := recsE_drop hi
   rw [← hx] at hdr
   have hxl : x.length ≤ 13000 := by
    rw [hx, List.getD_eq_getElem?_getD, List.getElem?_eq_getElem hi]
    exact Nat.le_trans (sizeR_get (List.getElem_mem hi)) hl2
   have hxn := num_len (show x.length < 268435456 by omega)
   have hxp := num_pos x.length
   have hdl := recsE_drop_le hl i
   have hsz := (lim_take hl i).2
   have hdd : (recsE (rs.drop i)).length = (num x.length).length + (x.length + (recsE (rs.drop (i + 1))).length) := by rw [hdr, List.length_append, List.length_append]
   have hrl : r.L.length = i := by
    have h8 : r.rs.length = r.L.length := List.length_map _
    rw [← h8, hrs, List.length_take]
    omega
   have hbx := br_sub hbr (num x.length).length ((num x.length).length + x.length) (by omega) (by omega)
   rw [show (num x.length).length + x.length - (num x.length).length = x.length by omega] at hbx
   have hmc : ((recsE (rs.drop i)).take ((num x.length).length + x.length)).drop (num x.length).length = x := by
    rw [hdr]
    exact mid_cut _ _ _
   rw [hmc] at hbx
   have hbe := br_sub hbr ((num x.length).length + x.length) (recsE (rs.drop i)).length (by omega) (Nat.le_refl _)
   have hmd : ((recsE (rs.drop i)).take (recsE (rs.drop i)).length).drop ((num x.length).length + x.length) = recsE (rs.drop (i + 1)) := by
    rw [List.take_length, hdr]
    exact end_cut _ _ _
   rw [hmd] at hbe
   have hle2 : (recsE (rs.drop i)).length - ((num x.length).length + x.length) = (recsE (rs.drop (i + 1))).length := by omega
   rw [hle2] at hbe
   refine j_q (qs_call ent88 rfl rfl rfl (fun w' hw' => takeNum_con x.length (x ++ recsE (rs.drop (i + 1))) _ w' (by rw [← hdr]; exact br0 hbr hw') (by omega) (by rw [← hdr]; omega))) ?_
   refine j_q (qs_ext rfl rfl) ?_
   refine j_q (qs_ext rfl rfl) ?_
   refine j_q (qs_leq rfl rfl) ?_
   rw [decide_eq_false (show ¬ ((num x.length).length : Int) ≤ 0 by omega)]
   refine j_gt rfl (qs_mt rfl) ?_
   refine j_gt rfl (qs_mt rfl) ?_
   refine j_gt rfl (qs_lenl U33 rfl) ?_
   refine j_gt rfl (qs_mt rfl) ?_
   refine j_gt rfl (qs_sub64 rfl rfl (by omega)) ?_
   refine j_gt rfl (qs_conv U3 U64 rfl) ?_
   rw [IntWalk.u64_in _ (by omega)]
   refine j_gt rfl (qs_gtr rfl rfl) ?_
   rw [decide_eq_false (show ¬ ((x.length : Nat) : Int) > ((recsE (rs.drop i)).length : Int) - ((num x.length).length : Int) by omega)]
   refine j_q (qs_or rfl rfl) ?_
   refine j_cond rfl (fun hc2 => ?_) (fun hc2 => ?_)
   ·skip
    simp at hc2
   ·skip
    refine j_mix [[(g15, gobj r.v ((sizeR (rs.take i) : Nat) : Int) 0 0 0 nilS)]] (Le.of_sub (by repeat first | exact slR _ | exact slN _ | apply slC | apply slD)) ?_
    refine j_mq (qs_nil rfl) ?_
    refine j_mq (qs_field U133 rfl sz90 (by decide) rfl) ?_
    refine j_mq (qs_load (l := (gl r.v ((sizeR (rs.take i) : Nat) : Int) 0 0 0 nilS)) (v := r.v) 0 U90 rfl rfl rfl rfl) ?_
    refine j_mq (qs_conv U64 U3 rfl) ?_
    rw [show IntKind.i64.wrap ((x.length : Nat) : Int) = (x.length : Int) from IntWalk.i64_in _ (by omega)]
    refine j_mq (qs_add64 rfl rfl (by first | omega | (simp only [bnA] at *; omega))) ?_
    refine j_mq (qs_cutl (a := (num x.length).length) (z := (num x.length).length + x.length) U33 sz5 rfl ⟨.i64, rfl⟩ ⟨.i64, by show Value.int _ _ = _; congr 1⟩ (by omega) (by omega)) ?_
    rw [show (num x.length).length + x.length - (num x.length).length = x.length by omega]
    refine j_call0 ent39 rfl rfl rfl (fun w' hw' => cloneO_con _ x w' (br0 hbx hw') (by omega)) (fun u S2 hu => ?_)
    obtain ⟨c39, rfl, ho39⟩ := hu
    obtain ⟨n39, A39, cap39, rfl, hn39⟩ := own_form ho39 (by decide)
    refine j_mD0 (Le.of_sub (by repeat first | exact slR _ | exact slN _ | apply slC | apply slD)) ?_
    refine j_lit (vs := [.slice A39 n39 cap39]) U90 sz33 zero33 rfl (by simp [oneV]) ⟨rfl, by decide⟩ (fun g40 v40 c40 hv40 hc40 ho40 => ?_)
    subst hv40 hc40
    refine j_mD0 (Le.of_sub (by repeat first | exact slR _ | exact slN _ | apply slC | apply slD)) ?_
    refine j_append 3 U90 U90 (.inr ⟨_, rfl⟩) sb33 zero33 rfl hro.row rfl (.inl ⟨_, _, rfl, rd_own (off := 0) (n := 1) 0 rfl rfl, rfl⟩) (by simp [oneV]) ⟨(by simp only [List.length_map]; simp; omega), (by decide)⟩ (fun v41 c41 ho41 => ?_)
    obtain ⟨n41, A41, cap41, rfl, hn41⟩ := own_form ho41 (by decide)
    refine j_mD0 (Le.of_sub (by repeat first | exact slR _ | exact slN _ | apply slC | apply slD)) ?_
    refine j_mq (qs_nil rfl) ?_
    refine j_mq (qs_field U133 rfl sz90 (by decide) rfl) ?_
    refine j_store (l := (gl r.v ((sizeR (rs.take i) : Nat) : Int) 0 0 0 nilS)) 2 sz90 rfl rfl rfl rfl (by simp) (by simp) ?_
    refine j_mR _ (.refl _) ?_
    refine j_mend ?_
    refine j_q (qs_nil rfl) ?_
    refine j_q (qs_field U133 rfl sz3 (by decide) rfl) ?_
    refine j_q (qs_load (l := (gl (.slice A41 n41 cap41) ((sizeR (rs.take i) : Nat) : Int) 0 0 0 nilS)) 2 U3 rfl rfl rfl rfl) ?_
    refine j_q (qs_conv U64 U3 rfl) ?_
    rw [show IntKind.i64.wrap ((x.length : Nat) : Int) = (x.length : Int) from IntWalk.i64_in _ (by omega)]
    refine j_q (qs_add64 rfl rfl (by first | omega | (simp only [bnA] at *; omega))) ?_
    refine j_q (qs_nil rfl) ?_
    refine j_q (qs_field U133 rfl sz3 (by decide) rfl) ?_
    refine j_store (l := (gl (.slice A41 n41 cap41) ((sizeR (rs.take i) : Nat) : Int) 0 0 0 nilS)) 2 sz3 rfl rfl rfl rfl (by simp) (by simp) ?_
    refine j_q (qs_conv U64 U3 rfl) ?_
    rw [show IntKind.i64.wrap ((x.length : Nat) : Int) = (x.length : Int) from IntWalk.i64_in _ (by omega)]
    refine j_q (qs_add64 rfl rfl (by first | omega | (simp only [bnA] at *; omega))) ?_
    refine j_q (qs_cutl (a := (num x.length).length + x.length) (z := (recsE (rs.drop i)).length) U33 sz5 rfl ⟨.i64, by show Value.int _ _ = _; congr 1⟩ rfl (by omega) (by omega)) ?_
    rw [hle2]
    refine j_q (qs_add rfl rfl) ?_
    rw [show IntKind.u64.wrap ((i : Int) + 1) = ((i + 1 : Nat) : Int) from by rw [IntWalk.u64_in _ (by omega)]; rfl]
    refine j_subl (S' := [c39, [(g15, gobj (.slice A41 n41 cap41) (((sizeR (rs.take i) : Nat) : Int) + (x.length : Int)) 0 0 0 nilS)], c41, r.lf]) (by repeat first | exact slR _ | exact slN _ | apply slC | apply slD) ?_
    refine j_perm (S' := [[(g15, gobj (.slice A41 n41 cap41) (((sizeR (rs.take i) : Nat) : Int) + (x.length : Int)) 0 0 0 nilS)], c41, r.lf ++ c39]) (by
     classical
     refine List.perm_iff_count.2 fun x => ?_
     simp only [List.set, List.flatten_cons, List.flatten_nil, List.append_nil, List.nil_append, List.cons_append, List.count_append, List.count_cons, List.count_nil]
     omega) ?_
    refine j_back rfl ?_
    refine ⟨_, by omega, i + 1, _, _, r.add _ _ x _ _, rfl, ?_, hbe, by omega, hro.add ho41 ho39, ?_, by omega, rfl⟩
    ·rw [sizeR_take hi, ← hx, RR.add_lf]
     rfl
    ·rw [RR.add_rs, hrs, hx, List.take_add_one, List.getElem?_eq_getElem hi, List.getD_eq_getElem?_getD, List.getElem?_eq_getElem hi]
     rfl
  ·skip
   have hi : i = rs.length := by
    simp only [bnA] at *
    omega
   refine j_q (qs_lenl U33 rfl) ?_
   refine j_q (qs_eql rfl rfl) ?_
   have hz : (recsE (rs.drop i)).length = 0 := by
    rw [hi, List.drop_length]
    rfl
   rw [hz]
   refine j_ret_con (vs := [_, _]) (fun w' hw' => ⟨rfl, rfl, trivial⟩) ?_
   refine ⟨g15, r, rfl, ?_, hro, ?_⟩
   ·rw [hi, List.take_length]
   ·rw [hrs, hi, List.take_length]
end Go.Proofs.YtfebkkmmagbnlaaGreatDoor
/-! Jn7 -/
namespace Go.Proofs.YtfebkkmmagbnlaaGreatDoor
open Go Go.Sx
set_option maxRecDepth 100000
set_option maxHeartbeats 4000000
set_option linter.unusedVariables false
set_option linter.unusedSimpArgs false
attribute [local irreducible] J JQ QS Con W opW
structure GR where
 g : Nat
 r : RR
 o : List Value
def GR.heap (x : GR) : SH := (x.g, .cells (x.r.v :: x.o).toArray 133 (0, 0)) :: x.r.heap
structure GS where
 v : Value
 c : SH
 G : List GR
def GS.gl (s : GS) : SH := (s.G.map GR.heap).flatten
def GS.heap (s : GS) : SH := s.c ++ s.gl
def GS.gs (s : GS) : List (List (List UInt8)) := s.G.map fun x => x.r.rs
structure GS.Ok (s : GS) : Prop where
 row : Sx.Own 121 1 (s.G.map fun x => Value.pointer (some ⟨x.g, 0, none⟩)) s.v s.c
 rr : ∀ x ∈ s.G, x.r.Ok
def GS.add (s : GS) (v : Value) (c : SH) (x : GR) : GS := ⟨v, c, s.G ++ [x]⟩
theorem GS.add_gs (s : GS) {v : Value} {c : SH} {x : GR} : (s.add v c x).gs = s.gs ++ [x.r.rs] := by
 unfold GS.gs GS.add
 rw [List.map_append]
 rfl
theorem GS.add_gl (s : GS) {v : Value} {c : SH} {x : GR} : (s.add v c x).gl = s.gl ++ x.heap := by
 unfold GS.gl GS.add
 rw [List.map_append, List.flatten_append, List.map_singleton, List.flatten_singleton]
theorem GS.Ok.add {s : GS} (h : s.Ok) {v : Value} {c : SH} {x : GR} (hv : Sx.Own 121 1 ((s.G.map fun x => Value.pointer (some ⟨x.g, 0, none⟩)) ++ [.pointer (some ⟨x.g, 0, none⟩)]) v c) (hx : x.r.Ok) : (s.add v c x).Ok := by
 refine ⟨?_, fun t ht => ?_⟩
 ·unfold GS.add
  rw [List.map_append]
  exact hv
 ·rcases List.mem_append.1 ht with ht | ht
  ·exact h.rr t ht
  ·rw [List.mem_singleton.1 ht]
   exact hx
abbrev jl (fp : Value) (name : List UInt8) (age part : Nat) (filled : Int) (gv : Value) (size : Int) (lg : Nat) (dead : Int) : List Value := [fp, .string (bs name), .int .u64 (age : Int), .int .i64 (part : Int), .int .i64 filled, gv, .int .i64 size, .pointer (some ⟨lg, 0, none⟩), .int .u32 dead]
abbrev jobj (fp : Value) (name : List UInt8) (age part : Nat) (filled : Int) (gv : Value) (size : Int) (lg : Nat) (dead : Int) : Obj := .cells (jl fp name age part filled gv size lg dead).toArray 136 (0, 0)
def Sees (c : SH) (v : Value) (xs : List UInt8) : Prop := ∀ w, In w c → BR w v xs
def limG (gs : List (List (List UInt8))) : Prop := gs.length ≤ 130 ∧ ∀ g ∈ gs, limR g
theorem gsE_cons (g : List (List UInt8)) (gs : List (List (List UInt8))) : gsE (g :: gs) = grpE g ++ gsE gs := rfl
theorem gsE_drop {gs : List (List (List UInt8))} {i : Nat} (h : i < gs.length) : gsE (gs.drop i) = num (bodyE (gs.getD i [])).length ++ (bodyE (gs.getD i []) ++ (sum (bodyE (gs.getD i [])) ++ gsE (gs.drop (i + 1)))) := by
 rw [List.drop_eq_getElem_cons h, gsE_cons, List.getD_eq_getElem?_getD, List.getElem?_eq_getElem h]
 unfold grpE
 rw [List.append_assoc, List.append_assoc]
 rfl
theorem gsE_len {gs : List (List (List UInt8))} (h : ∀ g ∈ gs, limR g) : (gsE gs).length ≤ gs.length * 13560 := by
 induction gs with
 | nil => exact Nat.le_refl _
 | cons g gs ih =>
  have h1 := ih fun x hx => h x (List.mem_cons_of_mem _ hx)
  have h2 := grpE_lim (h g (List.mem_cons_self ..))
  rw [gsE_cons, List.length_append, List.length_cons]
  omega
theorem gsE_lim {gs : List (List (List UInt8))} (h : limG gs) : (gsE gs).length ≤ 1762800 := by
 have := gsE_len h.2
 have := h.1
 omega
theorem gsE_drop_le {gs : List (List (List UInt8))} (h : limG gs) (i : Nat) : (gsE (gs.drop i)).length ≤ 1762800 :=
 gsE_lim ⟨by rw [List.length_drop]; have := h.1; omega, fun g hg => h.2 g (List.mem_of_mem_drop hg)⟩
theorem sizeG_take {gs : List (List (List UInt8))} {i : Nat} (h : i < gs.length) : sizeG (gs.take (i + 1)) = sizeG (gs.take i) + sizeR (gs.getD i []) := by
 unfold sizeG
 rw [List.take_add_one, List.getElem?_eq_getElem h, Option.toList_some, List.map_append, List.sum_append, List.getD_eq_getElem?_getD, List.getElem?_eq_getElem h]
 simp
theorem sizeG_le {gs : List (List (List UInt8))} (h : ∀ g ∈ gs, limR g) : sizeG gs ≤ gs.length * 13000 := by
 induction gs with
 | nil => exact Nat.le_refl _
 | cons g gs ih =>
  have h1 := ih fun x hx => h x (List.mem_cons_of_mem _ hx)
  have h2 := (h g (List.mem_cons_self ..)).2
  unfold sizeG at *
  rw [List.map_cons, List.sum_cons, List.length_cons]
  omega
theorem sizeG_lim {gs : List (List (List UInt8))} (h : limG gs) (i : Nat) : sizeG (gs.take i) ≤ 1690000 := by
 have h1 := sizeG_le (gs := gs.take i) fun g hg => h.2 g (List.mem_of_mem_take hg)
 have h2 := h.1
 rw [List.length_take] at h1
 omega
theorem cut3 (a b c d : List UInt8) : ((a ++ (b ++ (c ++ d))).take (a.length + b.length + c.length)).drop (a.length + b.length) = c := by
 rw [show a ++ (b ++ (c ++ d)) = (a ++ b) ++ (c ++ d) by rw [List.append_assoc]]
 have h := mid_cut (a ++ b) c d
 rw [List.length_append] at h
 exact h
theorem cut4 (a b c d : List UInt8) : (a ++ (b ++ (c ++ d))).drop (a.length + b.length + c.length) = d := by
 rw [show a ++ (b ++ (c ++ d)) = (a ++ b ++ c) ++ d by rw [List.append_assoc, List.append_assoc]]
 rw [show a.length + b.length + c.length = (a ++ b ++ c).length by rw [List.length_append, List.length_append]]
 exact List.drop_left
theorem arr_br {b : Base} {S : List SH} {w : World} {g : Nat} {xs : List UInt8} {e : TypeId} {fz : Nat × Nat} (hw : Sig b ([(g, .cells (ints xs).toArray e fz)] :: S) w) {n : Nat} (hn : xs.length = n) : BR w (.slice (some ⟨g, 0, none⟩) n n) xs := by
 subst hn
 have hg := hw.at_ (k := 0) rfl
 refine .inr ⟨_, _, rfl, Nat.le_refl _, fun _ => lt_of_get hg, fun j u hu => ?_⟩
 rw [add_off, Nat.zero_add, cell_of hg]
 exact hu
attribute [local irreducible] sum
theorem jread_con (gj : Nat) (fp : Value) (name : List UInt8) (age part : Nat) (filled : Int) (s : GS) (sz : Int) (lg : Nat) (dead : Int) (gs : List (List (List UInt8))) (A : Option Addr) (cap : Nat) (cb : SH) (w : World) (hs : s.Ok) (hb : Sees cb (.slice A (gsE gs).length cap) (gsE gs)) (hcap : (gsE gs).length ≤ cap) (hl : limG gs) (hsz : 0 ≤ sz ∧ sz ≤ 1000000) (hgn : s.G.length ≤ 1000) : Con Tryz.prog 65 [.pointer (some ⟨gj, 0, none⟩), .slice A (gsE gs).length cap] w (cb ++ (gj, jobj fp name age part filled s.v sz lg dead) :: s.heap) fun u S' => ∃ t : GS, u = .bool true ∧ S' = [cb, [(gj, jobj fp name age part filled t.v (sz + ((sizeG gs : Nat) : Int)) lg dead)], t.c, t.gl] ∧ t.Ok ∧ t.gs = s.gs ++ gs := by
 refine con_of_tree mix Tryz.func65 T65_ok (by kernel_rfl) ?_
 unfold T65
 refine j_perm (S' := [cb, [(gj, jobj fp name age part filled s.v sz lg dead)], s.c, s.gl]) (by simp [GS.heap]) ?_
 have hl1 := hl.1
 refine j_q (qs_ac) ?_
 refine j_loop (fun m vs S' => ∃ (i : Nat) (A : Option Addr) (cap : Nat) (t : GS), vs = [(.slice A (gsE (gs.drop i)).length cap)] ∧ S' = [cb, [(gj, jobj fp name age part filled t.v (sz + ((sizeG (gs.take i) : Nat) : Int)) lg dead)], t.c, t.gl] ∧ Sees cb (.slice A (gsE (gs.drop i)).length cap) (gsE (gs.drop i)) ∧ (gsE (gs.drop i)).length ≤ cap ∧ t.Ok ∧ t.gs = s.gs ++ gs.take i ∧ i ≤ gs.length ∧ m = gs.length - i) ⟨_, 0, _, _, s, rfl, (by rw [List.take_zero, show sizeG [] = 0 from rfl, Int.natCast_zero, Int.add_zero]), hb, hcap, hs, (by rw [List.take_zero, List.append_nil]), Nat.zero_le _, rfl⟩ ?_
 rintro m vs S' hlen ⟨i, A, cap, t, rfl, rfl, hbr, hcap, hto, hts, hin, rfl⟩
 have hdl := gsE_drop_le hl i
 have hszl := sizeG_lim hl i
 have htn : t.G.length = s.G.length + i := by
  have h8 := congrArg List.length hts
  unfold GS.gs at h8
  rw [List.length_map, List.length_append, List.length_map, List.length_take] at h8
  omega
 refine j_q (qs_lenl U33 rfl) ?_
 refine j_q (qs_gtr rfl rfl) ?_
 refine j_cond rfl (fun hc0 => ?_) (fun hc0 => ?_)
 ·skip
  have hi : i < gs.length := by
   simp only [bnA] at *
   rcases Nat.lt_or_ge i gs.length with h | h
   ·exact h
   ·rw [List.drop_of_length_le h] at hc0
    simp [gsE] at hc0
  obtain ⟨g, hg⟩ : ∃ g, g = gs.getD i [] := ⟨_, rfl⟩
  have hdr := gsE_drop hi
  rw [← hg] at hdr
  have hgl : limR g := by
   rw [hg, List.getD_eq_getElem?_getD, List.getElem?_eq_getElem hi]
   exact hl.2 _ (List.getElem_mem hi)
  have hg2 := hgl.2
  have hbl := bodyE_lim hgl
  obtain ⟨n, hn⟩ : ∃ n, n = (bodyE g).length := ⟨_, rfl⟩
  rw [← hn] at hbl hdr
  have hnn := num_len (show n < 268435456 by omega)
  have hnp := num_pos n
  obtain ⟨rest, hrest⟩ : ∃ rest, rest = gsE (gs.drop (i + 1)) := ⟨_, rfl⟩
  rw [← hrest] at hdr
  have hsl : (sum (bodyE g)).length = 32 := sum_length _
  have hdd : (gsE (gs.drop i)).length = (num n).length + (n + (32 + rest.length)) := by rw [hdr, List.length_append, List.length_append, List.length_append, hsl, ← hn]
  have hsb : Sees cb (.slice (if cap = (num n).length then A else A.map (fun p : Addr => p.add ((num n).length * 1))) n (cap - (num n).length)) (bodyE g) := fun w h => by
   have h8 := br_sub (hbr w h) (num n).length ((num n).length + n) (by omega) (by omega)
   rw [show (num n).length + n - (num n).length = n by omega, hdr] at h8
   have h9 := mid_cut (num n) (bodyE g) (sum (bodyE g) ++ rest)
   rw [← hn] at h9
   rw [h9] at h8
   exact h8
  have hss : Sees cb (.slice (if cap = (num n).length + n then A else A.map (fun p : Addr => p.add (((num n).length + n) * 1))) 32 (cap - ((num n).length + n))) (sum (bodyE g)) := fun w h => by
   have h8 := br_sub (hbr w h) ((num n).length + n) ((num n).length + n + 32) (by omega) (by omega)
   rw [show (num n).length + n + 32 - ((num n).length + n) = 32 by omega, hdr] at h8
   have h9 := cut3 (num n) (bodyE g) (sum (bodyE g)) rest
   rw [← hn, hsl] at h9
   rw [h9] at h8
   exact h8
  have hse : Sees cb (.slice (if cap = (num n).length + n + 32 then A else A.map (fun p : Addr => p.add (((num n).length + n + 32) * 1))) rest.length (cap - ((num n).length + n + 32))) rest := fun w h => by
   have h8 := br_sub (hbr w h) ((num n).length + n + 32) (gsE (gs.drop i)).length (by omega) (Nat.le_refl _)
   rw [show (gsE (gs.drop i)).length - ((num n).length + n + 32) = rest.length by omega, List.take_length, hdr] at h8
   have h9 := cut4 (num n) (bodyE g) (sum (bodyE g)) rest
   rw [← hn, hsl] at h9
   rw [h9] at h8
   exact h8
  refine j_q (qs_call ent88 rfl rfl rfl (fun w' hw' => takeNum_con n (bodyE g ++ (sum (bodyE g) ++ rest)) _ w' (by rw [← hdr]; exact hbr w' (in_own hw' 0 rfl)) (by omega) (by rw [← hdr]; omega))) ?_
  refine j_q (qs_ext rfl rfl) ?_
  refine j_q (qs_ext rfl rfl) ?_
  refine j_q (qs_leq rfl rfl) ?_
  rw [decide_eq_false (show ¬ ((num n).length : Int) ≤ 0 by omega)]
  refine j_gt rfl (qs_mt rfl) ?_
  refine j_gt rfl (qs_mt rfl) ?_
  refine j_gt rfl (qs_lenl U33 rfl) ?_
  refine j_gt rfl (qs_mt rfl) ?_
  refine j_gt rfl (qs_sub64 rfl rfl (by omega)) ?_
  refine j_gt rfl (qs_conv U3 U64 rfl) ?_
  rw [IntWalk.u64_in _ (by omega)]
  refine j_gt rfl (qs_gtr rfl rfl) ?_
  rw [decide_eq_false (show ¬ ((n : Nat) : Int) > ((gsE (gs.drop i)).length : Int) - ((num n).length : Int) by omega)]
  refine j_q (qs_or rfl rfl) ?_
  refine j_gt rfl (qs_mt rfl) ?_
  refine j_gt rfl (qs_lenl U33 rfl) ?_
  refine j_gt rfl (qs_mt rfl) ?_
  refine j_gt rfl (qs_sub64 rfl rfl (by omega)) ?_
  refine j_gt rfl (qs_mt rfl) ?_
  refine j_gt rfl (qs_conv U64 U3 rfl) ?_
  rw [show IntKind.i64.wrap ((n : Nat) : Int) = (n : Int) from IntWalk.i64_in _ (by omega)]
  refine j_gt rfl (qs_sub64 rfl rfl (by omega)) ?_
  refine j_gt rfl (qs_lss rfl rfl) ?_
  rw [decide_eq_false (show ¬ ((gsE (gs.drop i)).length : Int) - ((num n).length : Int) - (n : Int) < 32 by omega)]
  refine j_q (qs_or rfl rfl) ?_
  refine j_cond rfl (fun hc1 => ?_) (fun hc1 => ?_)
  ·skip
   simp at hc1
  ·skip
   refine j_q (qs_conv U64 U3 rfl) ?_
   rw [show IntKind.i64.wrap ((n : Nat) : Int) = (n : Int) from IntWalk.i64_in _ (by omega)]
   refine j_q (qs_add64 rfl rfl (by first | omega | (simp only [bnA] at *; omega))) ?_
   refine j_q (qs_cutl (a := (num n).length) (z := (num n).length + n) U33 sz5 rfl ⟨.i64, rfl⟩ ⟨.i64, by show Value.int _ _ = _; congr 1⟩ (by omega) (by omega)) ?_
   rw [show (num n).length + n - (num n).length = n by omega]
   refine j_q (qs_call ent85 rfl rfl rfl (fun w' hw' => sumB_con (bodyE g) _ w' (hsb w' (in_own hw' 0 rfl)) (fun h0 => by have h8 := num_pos g.length; unfold bodyE at h0; rw [List.append_eq_nil_iff] at h0; rw [h0.1] at h8; simp at h8) (by omega))) ?_
   refine j_alloc zero158 (fun g29 hg29 hs29 => ?_)
   refine j_storew 0 sz158 rfl rfl (by first | (rw [ints_length]; exact sum_length _) | rfl) ints_one rfl (by first | (rw [ints_length]; exact sum_length _) | rfl) ?_
   refine j_draw ?_
   refine jq_q (qs_cuta  U158 sz5 rfl rfl rfl (by first | omega | (simp only [bnA] at *; omega)) (by first | omega | (simp only [bnA] at *; omega))) ?_
   refine jq_q (qs_conv U64 U3 rfl) ?_
   rw [show IntKind.i64.wrap ((n : Nat) : Int) = (n : Int) from IntWalk.i64_in _ (by omega)]
   refine jq_q (qs_add64 rfl rfl (by first | omega | (simp only [bnA] at *; omega))) ?_
   refine jq_q (qs_conv U64 U3 rfl) ?_
   rw [show IntKind.i64.wrap ((n : Nat) : Int) = (n : Int) from IntWalk.i64_in _ (by omega)]
   refine jq_q (qs_add64 rfl rfl (by first | omega | (simp only [bnA] at *; omega))) ?_
   refine jq_q (qs_add64 rfl rfl (by first | omega | (simp only [bnA] at *; omega))) ?_
   refine jq_q (qs_cutl (a := (num n).length + n) (z := (num n).length + n + 32) U33 sz5 rfl ⟨.i64, by show Value.int _ _ = _; congr 1⟩ ⟨.i64, by show Value.int _ _ = _; congr 1⟩ (by omega) (by omega)) ?_
   rw [show (num n).length + n + 32 - ((num n).length + n) = 32 by omega]
   refine jq_q (qs_call ent59 rfl rfl rfl (fun w' hw' => equal_con (sum (bodyE g)) (sum (bodyE g)) _ _ w' (arr_br hw' hsl) (hss w' (in_own hw' 1 rfl)))) ?_
   rw [beq_self_eq_true]
   refine jq_q (qs_not rfl) ?_
   refine jq_nil ?_
   refine j_cond rfl (fun hc2 => ?_) (fun hc2 => ?_)
   ·skip
    simp at hc2
   ·skip
    refine j_call0 ent90 rfl rfl rfl (fun w' hw' => readGroup_con g _ w' (hsb w' (in_own hw' 1 rfl)) hgl) (fun u S2 hu => ?_)
    obtain ⟨gg, r, rfl, rfl, hro, hrs⟩ := hu
    refine j_q (qs_ext rfl rfl) ?_
    refine j_q (qs_ext rfl rfl) ?_
    refine j_q (qs_not rfl) ?_
    refine j_cond rfl (fun hc3 => ?_) (fun hc3 => ?_)
    ·skip
     simp at hc3
    ·skip
     refine j_q (qs_nil rfl) ?_
     refine j_q (qs_field U136 rfl sz134 (by decide) rfl) ?_
     refine j_q (qs_load (l := jl fp name age part filled t.v (sz + ((sizeG (gs.take i) : Nat) : Int)) lg dead) (v := t.v) 5 U134 rfl rfl rfl rfl) ?_
     refine j_lit (vs := [.pointer (some ⟨gg, 0, none⟩)]) U134 sz121 zero121 rfl (by simp [oneV]) ⟨rfl, by decide⟩ (fun g49 v49 c49 hv49 hc49 ho49 => ?_)
     subst hv49 hc49
     refine j_append 7 U134 U134 (.inr ⟨_, rfl⟩) sb121 zero121 rfl hto.row rfl (.inl ⟨_, _, rfl, rd_own (off := 0) (n := 1) 0 rfl rfl, rfl⟩) (by simp [oneV]) ⟨(by simp only [List.length_map]; simp; omega), (by decide)⟩ (fun v50 c50 ho50 => ?_)
     obtain ⟨n50, A50, cap50, rfl, hn50⟩ := own_form ho50 (by decide)
     refine j_q (qs_nil rfl) ?_
     refine j_q (qs_field U136 rfl sz134 (by decide) rfl) ?_
     refine j_store (l := jl fp name age part filled t.v (sz + ((sizeG (gs.take i) : Nat) : Int)) lg dead) 6 sz134 rfl rfl rfl rfl (by simp) (by simp) ?_
     refine j_draw ?_
     refine jq_q (qs_nil rfl) ?_
     refine jq_q (qs_field U136 rfl sz3 (by decide) rfl) ?_
     refine jq_q (qs_load (l := jl fp name age part filled (.slice A50 n50 cap50) (sz + ((sizeG (gs.take i) : Nat) : Int)) lg dead) (v := .int .i64 (sz + ((sizeG (gs.take i) : Nat) : Int))) 6 U3 rfl rfl rfl rfl) ?_
     refine jq_q (qs_nil rfl) ?_
     refine jq_q (qs_field U133 rfl sz3 (by decide) rfl) ?_
     refine jq_q (qs_load (l := r.v :: [.int .i64 ((sizeR g : Nat) : Int), .int .u32 0, .int .i32 0, .int .u32 0, nilS]) (v := .int .i64 ((sizeR g : Nat) : Int)) 1 U3 rfl rfl rfl rfl) ?_
     refine jq_q (qs_add64 rfl rfl (by first | omega | (simp only [bnA] at *; omega))) ?_
     refine jq_q (qs_nil rfl) ?_
     refine jq_q (qs_field U136 rfl sz3 (by decide) rfl) ?_
     refine jq_nil ?_
     refine j_store (l := jl fp name age part filled (.slice A50 n50 cap50) (sz + ((sizeG (gs.take i) : Nat) : Int)) lg dead) 6 sz3 rfl rfl rfl rfl (by simp) (by simp) ?_
     refine j_q (qs_conv U64 U3 rfl) ?_
     rw [show IntKind.i64.wrap ((n : Nat) : Int) = (n : Int) from IntWalk.i64_in _ (by omega)]
     refine j_q (qs_add64 rfl rfl (by first | omega | (simp only [bnA] at *; omega))) ?_
     refine j_q (qs_add64 rfl rfl (by first | omega | (simp only [bnA] at *; omega))) ?_
     refine j_q (qs_cutl (a := (num n).length + n + 32) (z := (gsE (gs.drop i)).length) U33 sz5 rfl ⟨.i64, by show Value.int _ _ = _; congr 1⟩ rfl (by omega) (by omega)) ?_
     rw [show (gsE (gs.drop i)).length - ((num n).length + n + 32) = rest.length by omega]
     refine j_subl (S' := [[(gg, .cells (r.v :: [.int .i64 ((sizeR g : Nat) : Int), .int .u32 0, .int .i32 0, .int .u32 0, nilS]).toArray 133 (0, 0))], r.c, r.lf, cb, [(gj, jobj fp name age part filled (.slice A50 n50 cap50) (sz + ((sizeG (gs.take i) : Nat) : Int) + ((sizeR g : Nat) : Int)) lg dead)], c50, t.gl]) (by repeat first | exact slR _ | exact slN _ | apply slC | apply slD) ?_
     refine j_perm (S' := [cb, [(gj, jobj fp name age part filled (.slice A50 n50 cap50) (sz + ((sizeG (gs.take i) : Nat) : Int) + ((sizeR g : Nat) : Int)) lg dead)], c50, t.gl ++ GR.heap ⟨gg, r, [.int .i64 ((sizeR g : Nat) : Int), .int .u32 0, .int .i32 0, .int .u32 0, nilS]⟩]) (by
      classical
      refine List.perm_iff_count.2 fun x => ?_
      simp only [RR.heap, GR.heap, GS.heap, List.set, List.flatten_cons, List.flatten_nil, List.append_nil, List.nil_append, List.cons_append, List.count_append, List.count_cons, List.count_nil]
      omega) ?_
     refine j_back rfl ?_
     subst hrest
     refine ⟨_, by omega, i + 1, _, _, t.add (.slice A50 n50 cap50) c50 ⟨gg, r, [.int .i64 ((sizeR g : Nat) : Int), .int .u32 0, .int .i32 0, .int .u32 0, nilS]⟩, rfl, ?_, hse, by omega, hto.add ho50 hro, ?_, by omega, rfl⟩
     ·rw [sizeG_take hi, ← hg, GS.add_gl, Int.natCast_add, ← Int.add_assoc]
      rfl
     ·rw [GS.add_gs, hts, List.append_assoc, List.take_add_one, List.getElem?_eq_getElem hi, hrs, hg, List.getD_eq_getElem?_getD, List.getElem?_eq_getElem hi]
      rfl
 ·skip
  have hi : i = gs.length := by
   simp only [bnA] at *
   rcases Nat.lt_or_ge i gs.length with h | h
   ·have h8 := gsE_drop h
    have h9 := num_pos (bodyE (gs.getD i [])).length
    rw [h8, List.length_append] at hc0
    omega
   ·omega
  refine j_q (qs_ac) ?_
  refine j_ret_con (vs := [_]) (fun w' hw' => ⟨rfl, trivial⟩) ?_
  refine ⟨t, rfl, ?_, hto, ?_⟩
  ·rw [hi, List.take_length]
  ·rw [hts, hi, List.take_length]
end Go.Proofs.YtfebkkmmagbnlaaGreatDoor
/-! Jn8 -/
namespace Go.Proofs.YtfebkkmmagbnlaaGreatDoor
open Go Go.Sx
set_option maxRecDepth 100000
set_option maxHeartbeats 4000000
set_option linter.unusedVariables false
set_option linter.unusedSimpArgs false
attribute [local irreducible] J JQ QS Con W opW
structure JS (name : List UInt8) (age : Nat) (gs : List (List (List UInt8))) (s : AS) : Prop where
 hd : (age = 0 ∧ alook s.nm name = none) ∨ (alook s.nm name ≠ none ∧ contA s name = headE age)
 f0 : (gs = [] ∧ alook s.nm (fileN name age 0) = none) ∨ (gs ≠ [] ∧ alook s.nm (fileN name age 0) ≠ none ∧ contA s (fileN name age 0) = gsE gs)
 f1 : alook s.nm (fileN name age 1) = none
 nx : ∀ a, age < a → ∀ p, alook s.nm (fileN name a p) = none
def fillE (gs : List (List (List UInt8))) : Int := if gs = [] then -1 else ((gsE gs).length : Int)
structure JM where
 gj : Nat
 lg : Nat
 fp : Value
 name : List UInt8
 age : Nat
 fl : Int
 s : GS
 laid : RR
 dead : Int
abbrev JM.ptr (j : JM) : Value := .pointer (some ⟨j.gj, 0, none⟩)
abbrev JM.obj (j : JM) : Obj := jobj j.fp j.name j.age 0 j.fl j.s.v ((sizeG j.s.gs : Nat) : Int) j.lg j.dead
abbrev JM.lobj (j : JM) : Obj := gobj j.laid.v ((sizeR j.laid.rs : Nat) : Int) 0 0 0 nilS
def JM.heap (j : JM) : SH := (j.gj, j.obj) :: (j.lg, j.lobj) :: (j.s.heap ++ j.laid.heap)
structure JA where
 name : List UInt8
 age : Nat
 gs : List (List (List UInt8))
 down : List (List UInt8)
 dead : Bool
structure JM.Ok (j : JM) (a : JA) : Prop where
 s : j.s.Ok
 l : j.laid.Ok
 nm : j.name = a.name
 ag : j.age = a.age
 gs : j.s.gs = a.gs
 dn : j.laid.rs = a.down
 dd : j.dead = if a.dead then 1 else 0
 fl : a.dead = false → j.fl = fillE a.gs
theorem gs0 : GS.Ok ⟨nilS, [], []⟩ := ⟨own_nil, fun t ht => by cases ht⟩
theorem readE_0 {s : AS} {n : List UInt8} : readE s n = 0 ↔ alook s.nm n ≠ none := by
 unfold readE
 split
 ·rename_i h
  simp [h]
 ·rename_i h
  simp [h]
theorem readE_1 {s : AS} {n : List UInt8} : readE s n ≠ 0 ↔ alook s.nm n = none := by
 rw [ne_eq, readE_0, Classical.not_not]
theorem strOk_file {name : List UInt8} {age part : Nat} (h1 : name.length ≤ 1000) (h2 : age < 10000) (h3 : part < 100) : strOk (fileN name age part) := by
 have h4 := dec_len h2
 have h5 := dec_len (show part < 10000 by omega)
 show (fileN name age part).length ≤ _
 unfold fileN
 simp only [List.length_append, List.length_cons, List.length_nil]
 omega
theorem own_cap {xs : List UInt8} {A : Option Addr} {n cap : Nat} {c : SH} (h : Sx.Own 5 1 (ints xs) (.slice A n cap) c) : n ≤ cap := by
 rcases h with ⟨h, _⟩ | ⟨g, n', cap', rest, fz, h, _, _, _, h4, _⟩
 ·injection h with h1 h2 h3
  omega
 ·injection h with h1 h2 h3
  omega
theorem perm_jm (j : JM) : ([[(j.gj, j.obj)], [(j.lg, j.lobj)], j.s.c, j.s.gl, j.laid.heap] : List SH).flatten.Perm [j.heap].flatten := by
 classical
 refine List.perm_iff_count.2 fun x => ?_
 simp only [GS.heap, JM.heap, List.flatten_cons, List.flatten_nil, List.append_nil, List.nil_append, List.cons_append, List.count_append, List.count_cons, List.count_nil]
 omega
attribute [local irreducible] sum gsE headE fileN contA readE
theorem within_con (r : FR) (a : AF) (name : List UInt8) (age : Nat) (gs : List (List (List UInt8))) (w : World) (hin : In w r.heap) (hok : r.Ok a) (hj : JS name age gs a.now) (hl : limG gs) (hag : age < 10000) (hnl : name.length ≤ 1000) (hP : P10 w) : Con Tryz.prog 32 [r.ptr, .string (bs name)] w [] fun u S' => ∃ j : JM, u = .tuple #[j.ptr, .int .i64 0] ∧ S' = [j.heap] ∧ j.Ok ⟨name, age, gs, [], false⟩ ∧ j.fp = r.ptr := by
 refine con_of_tree mix Tryz.func32 T32_ok (by kernel_rfl) ?_
 unfold T32
 refine j_q (qs_ac) ?_
 refine j_q (qs_ac) ?_
 refine j_q (qs_run (v := .agg ([nilS, .int .i64 0, .int .u32 0, .int .i32 0, .int .u32 0, nilS]).toArray) (fun w => by kernel_rfl)) ?_
 refine j_box (l := [nilS, .int .i64 0, .int .u32 0, .int .i32 0, .int .u32 0, nilS]) rfl (fun g3 hg3 hs3 => ?_)
 refine j_q (qs_build (places := [(0, 1), (1, 1), (2, 1), (3, 1), (4, 1), (5, 1), (6, 1), (7, 1), (8, 1)]) (offs := [(0, [r.ptr]), (1, [.string (bs name)]), (7, [.pointer (some ⟨g3, 0, none⟩)])]) U136 zero136 (by kernel_rfl) rfl (by rintro (_ | _ | _ | _ | j) p q hp hq <;> first | (simp at hp hq; subst hp hq; exact ⟨rfl, rfl, by simp⟩) | (simp at hp))) ?_
 refine j_box (l := jl r.ptr name 0 0 0 nilS 0 g3 0) rfl (fun g5 hg5 hs5 => ?_)
 refine j_subl (S' := [[(g5, .cells (jl r.ptr name 0 0 0 nilS 0 g3 0).toArray 136 (0, 0))], [(g3, gobj nilS 0 0 0 0 nilS)]]) (by repeat first | exact slR _ | exact slN _ | apply slC | apply slD) ?_
 refine j_call0 ent27 rfl rfl rfl (fun w' hw' => readRO_con r a name w' (in_keep0 hin hw') hok (by show name.length ≤ _; omega)) (fun u S2 hu => ?_)
 obtain ⟨v6, c6, rfl, rfl, ho6⟩ := hu
 refine j_q (qs_ext (vs := [v6, .int .i64 (readE a.now name)]) rfl rfl) ?_
 refine j_q (qs_ext (vs := [v6, .int .i64 (readE a.now name)]) rfl rfl) ?_
 refine j_q (qs_eql rfl rfl) ?_
 refine j_cond rfl (fun hc0 => ?_) (fun hc0 => ?_)
 ·skip
  have hrd : readE a.now name = 0 := by simpa using hc0
  have hhd : contA a.now name = headE age := by
   rcases hj.hd with ⟨_, h⟩ | ⟨_, h⟩
   ·exact absurd h (readE_0.1 hrd)
   ·exact h
  rw [hhd] at ho6
  refine j_q (qs_call ent63 rfl rfl rfl (fun w' hw' => readAge_con age _ w' (own_br ho6 0 rfl hw') (by omega))) ?_
  refine j_q (qs_nil rfl) ?_
  refine j_q (qs_field U136 rfl sz64 (by decide) rfl) ?_
  refine j_store (l := jl r.ptr name 0 0 0 nilS 0 g3 0) 1 sz64 rfl rfl rfl rfl (by simp) (by simp) ?_
  refine j_subl (S' := [[(g5, .cells (jl r.ptr name age 0 0 nilS 0 g3 0).toArray 136 (0, 0))], [(g3, gobj nilS 0 0 0 0 nilS)]]) (by repeat first | exact slR _ | exact slN _ | apply slC | apply slD) ?_
  refine j_q (qs_nil rfl) ?_
  refine j_q (qs_field U136 rfl sz3 (by decide) rfl) ?_
  refine j_store (l := jl r.ptr name age 0 0 nilS 0 g3 0) 0 sz3 rfl rfl rfl rfl (by simp) (by simp) ?_
  refine j_subl (S' := [[(g5, jobj r.ptr name age 0 (-1) nilS 0 g3 0)], [(g3, gobj nilS 0 0 0 0 nilS)]]) (by repeat first | exact slR _ | exact slN _ | apply slC | apply slD) ?_
  refine j_perm (S' := [[(g5, jobj r.ptr name age 0 (-1) nilS 0 g3 0)], [(g3, gobj nilS 0 0 0 0 nilS)], [], []]) (by simp) ?_
  refine j_q (qs_ac) ?_
  refine j_loop (fun m vs S' => ∃ (p : Nat) (t : GS) (fl : Int), vs = [.int .i64 (p : Int)] ∧ S' = [[(g5, .cells (jl r.ptr name age 0 fl t.v ((sizeG t.gs : Nat) : Int) g3 0).toArray 136 (0, 0))], [(g3, gobj nilS 0 0 0 0 nilS)], t.c, t.gl] ∧ t.Ok ∧ ((p = 0 ∧ t = ⟨nilS, [], []⟩ ∧ fl = -1) ∨ (p = 1 ∧ t.gs = gs ∧ gs ≠ [] ∧ fl = ((gsE gs).length : Int))) ∧ m = 1 - p) ⟨_, 0, ⟨nilS, [], []⟩, -1, rfl, rfl, gs0, .inl ⟨rfl, rfl, rfl⟩, rfl⟩ ?_
  rintro m vs S' hlen ⟨p, t, fl, rfl, rfl, hto, hcase, rfl⟩
  have hp1 : p ≤ 1 := by rcases hcase with ⟨h, _⟩ | ⟨h, _⟩ <;> omega
  refine j_q (qs_call ent64 rfl rfl rfl (fun w' hw' => file_con g5 r.ptr name age p _ w' (hw'.at_ (k := 0) rfl) (hP.keep hw' (by simp)) (by omega) (by omega) hnl)) ?_
  refine j_call0 ent27 rfl rfl rfl (fun w' hw' => readRO_con r a (fileN name age p) w' (in_keep0 hin hw') hok (strOk_file hnl (by omega) (by omega))) (fun u S2 hu => ?_)
  obtain ⟨v19, c19, rfl, rfl, ho19⟩ := hu
  refine j_q (qs_ext (vs := [v19, .int .i64 (readE a.now (fileN name age p))]) rfl rfl) ?_
  refine j_q (qs_ext (vs := [v19, .int .i64 (readE a.now (fileN name age p))]) rfl rfl) ?_
  refine j_q (qs_neq rfl rfl) ?_
  refine j_cond rfl (fun hc1 => ?_) (fun hc1 => ?_)
  ·skip
   have hno : alook a.now.nm (fileN name age p) = none := readE_1.1 (by simpa using hc1)
   have htg : t.gs = gs ∧ fl = fillE gs := by
    rcases hcase with ⟨h1, h2, h3⟩ | ⟨h1, h2, h3, h4⟩
    ·rcases hj.f0 with ⟨h5, _⟩ | ⟨_, h5, _⟩
     ·rw [h2, h3, h5]
      exact ⟨rfl, rfl⟩
     ·rw [h1] at hno
      exact absurd hno h5
    ·exact ⟨h2, by rw [h4, fillE, if_neg h3]⟩
   refine j_q (qs_ac) ?_
   refine j_subl (S' := [[(g5, .cells (jl r.ptr name age 0 fl t.v ((sizeG t.gs : Nat) : Int) g3 0).toArray 136 (0, 0))], [(g3, gobj nilS 0 0 0 0 nilS)], t.c, t.gl]) (by repeat first | exact slR _ | exact slN _ | apply slC | apply slD) ?_
   refine j_perm (S' := [JM.heap ⟨g5, g3, r.ptr, name, age, fl, t, ⟨nilS, [], []⟩, 0⟩]) (by
    exact perm_jm ⟨g5, g3, r.ptr, name, age, fl, t, ⟨nilS, [], []⟩, 0⟩) ?_
   refine j_ret_con (vs := [_, _]) (fun w' hw' => ⟨rfl, rfl, trivial⟩) ?_
   exact ⟨⟨g5, g3, r.ptr, name, age, fl, t, ⟨nilS, [], []⟩, 0⟩, rfl, rfl, ⟨hto, rr0, rfl, rfl, htg.1, rfl, rfl, fun _ => htg.2⟩, rfl⟩
  ·skip
   have hyes : alook a.now.nm (fileN name age p) ≠ none := readE_0.1 (by simpa using hc1)
   obtain ⟨rfl, rfl, rfl⟩ : p = 0 ∧ t = ⟨nilS, [], []⟩ ∧ fl = -1 := by
    rcases hcase with h | ⟨h1, _⟩
    ·exact h
    ·rw [h1] at hyes
     exact absurd hj.f1 hyes
   obtain ⟨hgn, _, hcon⟩ : gs ≠ [] ∧ alook a.now.nm (fileN name age 0) ≠ none ∧ contA a.now (fileN name age 0) = gsE gs := by
    rcases hj.f0 with ⟨_, h⟩ | h
    ·exact absurd h hyes
    ·exact h
   rw [hcon] at ho19
   obtain ⟨n19, A19, cap19, rfl, hn19⟩ := own_form ho19 (by decide)
   rw [ints_length, Nat.mul_one] at hn19
   subst hn19
   have hcp : (gsE gs).length ≤ cap19 := own_cap ho19
   refine j_q (qs_lenl U33 rfl) ?_
   refine j_q (qs_nil rfl) ?_
   refine j_q (qs_field U136 rfl sz3 (by decide) rfl) ?_
   refine j_store (l := jl r.ptr name age 0 (-1) nilS 0 g3 0) 1 sz3 rfl rfl rfl rfl (by simp) (by simp) ?_
   refine j_q (qs_nil rfl) ?_
   refine j_q (qs_field U136 rfl sz3 (by decide) rfl) ?_
   refine j_store (l := jl r.ptr name age 0 (-1) nilS 0 g3 0) 1 sz3 rfl rfl rfl rfl (by simp) (by simp) ?_
   refine j_subl (S' := [c19, [(g5, .cells (jl r.ptr name age 0 ((gsE gs).length : Int) nilS 0 g3 0).toArray 136 (0, 0))], [(g3, gobj nilS 0 0 0 0 nilS)]]) (by repeat first | exact slR _ | exact slN _ | apply slC | apply slD) ?_
   refine j_perm (S' := [c19 ++ (g5, .cells (jl r.ptr name age 0 ((gsE gs).length : Int) nilS 0 g3 0).toArray 136 (0, 0)) :: GS.heap ⟨nilS, [], []⟩, [(g3, gobj nilS 0 0 0 0 nilS)]]) (by
    classical
    refine List.perm_iff_count.2 fun x => ?_
    simp only [RR.heap, GR.heap, GS.heap, GS.gl, List.map_nil, JM.heap, List.set, List.flatten_cons, List.flatten_nil, List.append_nil, List.nil_append, List.cons_append, List.count_append, List.count_cons, List.count_nil]
    omega) ?_
   refine j_call 0 ent65 rfl rfl rfl rfl (fun w' hw' => jread_con g5 r.ptr name age 0 ((gsE gs).length : Int) ⟨nilS, [], []⟩ 0 g3 0 gs A19 cap19 c19 w' gs0 (fun w h => own_brI ho19 h) hcp hl (by decide) (by decide)) (fun u S2 hu => ?_)
   obtain ⟨t2, rfl, rfl, hto2, hts2⟩ := hu
   refine j_q (qs_not rfl) ?_
   refine j_cond rfl (fun hc2 => ?_) (fun hc2 => ?_)
   ·skip
    simp at hc2
   ·skip
    refine j_q (qs_add64 rfl rfl (by decide)) ?_
    refine j_subl (S' := [[(g5, .cells (jl r.ptr name age 0 ((gsE gs).length : Int) t2.v (0 + ((sizeG gs : Nat) : Int)) g3 0).toArray 136 (0, 0))], t2.c, t2.gl, [(g3, gobj nilS 0 0 0 0 nilS)]]) (by repeat first | exact slR _ | exact slN _ | apply slC | apply slD) ?_
    refine j_perm (S' := [[(g5, .cells (jl r.ptr name age 0 ((gsE gs).length : Int) t2.v (0 + ((sizeG gs : Nat) : Int)) g3 0).toArray 136 (0, 0))], [(g3, gobj nilS 0 0 0 0 nilS)], t2.c, t2.gl]) (by
     classical
     refine List.perm_iff_count.2 fun x => ?_
     simp only [RR.heap, GR.heap, GS.heap, JM.heap, List.set, List.flatten_cons, List.flatten_nil, List.append_nil, List.nil_append, List.cons_append, List.count_append, List.count_cons, List.count_nil]
     omega) ?_
    refine j_back rfl ?_
    have hts3 : t2.gs = gs := hts2
    refine ⟨_, by omega, 1, t2, _, rfl, ?_, hto2, .inr ⟨rfl, hts3, hgn, rfl⟩, rfl⟩
    rw [hts3, Int.zero_add]
 ·skip
  have hrd : readE a.now name ≠ 0 := by simpa using hc0
  have hag : age = 0 := by
   rcases hj.hd with ⟨h, _⟩ | ⟨h, _⟩
   ·exact h
   ·exact absurd (readE_1.1 hrd) h
  subst hag
  refine j_subl (S' := [[(g5, .cells (jl r.ptr name 0 0 0 nilS 0 g3 0).toArray 136 (0, 0))], [(g3, gobj nilS 0 0 0 0 nilS)]]) (by repeat first | exact slR _ | exact slN _ | apply slC | apply slD) ?_
  refine j_q (qs_nil rfl) ?_
  refine j_q (qs_field U136 rfl sz3 (by decide) rfl) ?_
  refine j_store (l := jl r.ptr name 0 0 0 nilS 0 g3 0) 0 sz3 rfl rfl rfl rfl (by simp) (by simp) ?_
  refine j_subl (S' := [[(g5, jobj r.ptr name 0 0 (-1) nilS 0 g3 0)], [(g3, gobj nilS 0 0 0 0 nilS)]]) (by repeat first | exact slR _ | exact slN _ | apply slC | apply slD) ?_
  refine j_perm (S' := [[(g5, jobj r.ptr name 0 0 (-1) nilS 0 g3 0)], [(g3, gobj nilS 0 0 0 0 nilS)], [], []]) (by simp) ?_
  refine j_q (qs_ac) ?_
  refine j_loop (fun m vs S' => ∃ (p : Nat) (t : GS) (fl : Int), vs = [.int .i64 (p : Int)] ∧ S' = [[(g5, .cells (jl r.ptr name 0 0 fl t.v ((sizeG t.gs : Nat) : Int) g3 0).toArray 136 (0, 0))], [(g3, gobj nilS 0 0 0 0 nilS)], t.c, t.gl] ∧ t.Ok ∧ ((p = 0 ∧ t = ⟨nilS, [], []⟩ ∧ fl = -1) ∨ (p = 1 ∧ t.gs = gs ∧ gs ≠ [] ∧ fl = ((gsE gs).length : Int))) ∧ m = 1 - p) ⟨_, 0, ⟨nilS, [], []⟩, -1, rfl, rfl, gs0, .inl ⟨rfl, rfl, rfl⟩, rfl⟩ ?_
  rintro m vs S' hlen ⟨p, t, fl, rfl, rfl, hto, hcase, rfl⟩
  have hp1 : p ≤ 1 := by rcases hcase with ⟨h, _⟩ | ⟨h, _⟩ <;> omega
  refine j_q (qs_call ent64 rfl rfl rfl (fun w' hw' => file_con g5 r.ptr name 0 p _ w' (hw'.at_ (k := 0) rfl) (hP.keep hw' (by simp)) (by omega) (by omega) hnl)) ?_
  refine j_call0 ent27 rfl rfl rfl (fun w' hw' => readRO_con r a (fileN name 0 p) w' (in_keep0 hin hw') hok (strOk_file hnl (by omega) (by omega))) (fun u S2 hu => ?_)
  obtain ⟨v19, c19, rfl, rfl, ho19⟩ := hu
  refine j_q (qs_ext (vs := [v19, .int .i64 (readE a.now (fileN name 0 p))]) rfl rfl) ?_
  refine j_q (qs_ext (vs := [v19, .int .i64 (readE a.now (fileN name 0 p))]) rfl rfl) ?_
  refine j_q (qs_neq rfl rfl) ?_
  refine j_cond rfl (fun hc3 => ?_) (fun hc3 => ?_)
  ·skip
   have hno : alook a.now.nm (fileN name 0 p) = none := readE_1.1 (by simpa using hc3)
   have htg : t.gs = gs ∧ fl = fillE gs := by
    rcases hcase with ⟨h1, h2, h3⟩ | ⟨h1, h2, h3, h4⟩
    ·rcases hj.f0 with ⟨h5, _⟩ | ⟨_, h5, _⟩
     ·rw [h2, h3, h5]
      exact ⟨rfl, rfl⟩
     ·rw [h1] at hno
      exact absurd hno h5
    ·exact ⟨h2, by rw [h4, fillE, if_neg h3]⟩
   refine j_q (qs_ac) ?_
   refine j_subl (S' := [[(g5, .cells (jl r.ptr name 0 0 fl t.v ((sizeG t.gs : Nat) : Int) g3 0).toArray 136 (0, 0))], [(g3, gobj nilS 0 0 0 0 nilS)], t.c, t.gl]) (by repeat first | exact slR _ | exact slN _ | apply slC | apply slD) ?_
   refine j_perm (S' := [JM.heap ⟨g5, g3, r.ptr, name, 0, fl, t, ⟨nilS, [], []⟩, 0⟩]) (by
    exact perm_jm ⟨g5, g3, r.ptr, name, 0, fl, t, ⟨nilS, [], []⟩, 0⟩) ?_
   refine j_ret_con (vs := [_, _]) (fun w' hw' => ⟨rfl, rfl, trivial⟩) ?_
   exact ⟨⟨g5, g3, r.ptr, name, 0, fl, t, ⟨nilS, [], []⟩, 0⟩, rfl, rfl, ⟨hto, rr0, rfl, rfl, htg.1, rfl, rfl, fun _ => htg.2⟩, rfl⟩
  ·skip
   have hyes : alook a.now.nm (fileN name 0 p) ≠ none := readE_0.1 (by simpa using hc3)
   obtain ⟨rfl, rfl, rfl⟩ : p = 0 ∧ t = ⟨nilS, [], []⟩ ∧ fl = -1 := by
    rcases hcase with h | ⟨h1, _⟩
    ·exact h
    ·rw [h1] at hyes
     exact absurd hj.f1 hyes
   obtain ⟨hgn, _, hcon⟩ : gs ≠ [] ∧ alook a.now.nm (fileN name 0 0) ≠ none ∧ contA a.now (fileN name 0 0) = gsE gs := by
    rcases hj.f0 with ⟨_, h⟩ | h
    ·exact absurd h hyes
    ·exact h
   rw [hcon] at ho19
   obtain ⟨n19, A19, cap19, rfl, hn19⟩ := own_form ho19 (by decide)
   rw [ints_length, Nat.mul_one] at hn19
   subst hn19
   have hcp : (gsE gs).length ≤ cap19 := own_cap ho19
   refine j_q (qs_lenl U33 rfl) ?_
   refine j_q (qs_nil rfl) ?_
   refine j_q (qs_field U136 rfl sz3 (by decide) rfl) ?_
   refine j_store (l := jl r.ptr name 0 0 (-1) nilS 0 g3 0) 1 sz3 rfl rfl rfl rfl (by simp) (by simp) ?_
   refine j_q (qs_nil rfl) ?_
   refine j_q (qs_field U136 rfl sz3 (by decide) rfl) ?_
   refine j_store (l := jl r.ptr name 0 0 (-1) nilS 0 g3 0) 1 sz3 rfl rfl rfl rfl (by simp) (by simp) ?_
   refine j_subl (S' := [c19, [(g5, .cells (jl r.ptr name 0 0 ((gsE gs).length : Int) nilS 0 g3 0).toArray 136 (0, 0))], [(g3, gobj nilS 0 0 0 0 nilS)]]) (by repeat first | exact slR _ | exact slN _ | apply slC | apply slD) ?_
   refine j_perm (S' := [c19 ++ (g5, .cells (jl r.ptr name 0 0 ((gsE gs).length : Int) nilS 0 g3 0).toArray 136 (0, 0)) :: GS.heap ⟨nilS, [], []⟩, [(g3, gobj nilS 0 0 0 0 nilS)]]) (by
    classical
    refine List.perm_iff_count.2 fun x => ?_
    simp only [RR.heap, GR.heap, GS.heap, GS.gl, List.map_nil, JM.heap, List.set, List.flatten_cons, List.flatten_nil, List.append_nil, List.nil_append, List.cons_append, List.count_append, List.count_cons, List.count_nil]
    omega) ?_
   refine j_call 0 ent65 rfl rfl rfl rfl (fun w' hw' => jread_con g5 r.ptr name 0 0 ((gsE gs).length : Int) ⟨nilS, [], []⟩ 0 g3 0 gs A19 cap19 c19 w' gs0 (fun w h => own_brI ho19 h) hcp hl (by decide) (by decide)) (fun u S2 hu => ?_)
   obtain ⟨t2, rfl, rfl, hto2, hts2⟩ := hu
   refine j_q (qs_not rfl) ?_
   refine j_cond rfl (fun hc4 => ?_) (fun hc4 => ?_)
   ·skip
    simp at hc4
   ·skip
    refine j_q (qs_add64 rfl rfl (by decide)) ?_
    refine j_subl (S' := [[(g5, .cells (jl r.ptr name 0 0 ((gsE gs).length : Int) t2.v (0 + ((sizeG gs : Nat) : Int)) g3 0).toArray 136 (0, 0))], t2.c, t2.gl, [(g3, gobj nilS 0 0 0 0 nilS)]]) (by repeat first | exact slR _ | exact slN _ | apply slC | apply slD) ?_
    refine j_perm (S' := [[(g5, .cells (jl r.ptr name 0 0 ((gsE gs).length : Int) t2.v (0 + ((sizeG gs : Nat) : Int)) g3 0).toArray 136 (0, 0))], [(g3, gobj nilS 0 0 0 0 nilS)], t2.c, t2.gl]) (by
     classical
     refine List.perm_iff_count.2 fun x => ?_
     simp only [RR.heap, GR.heap, GS.heap, JM.heap, List.set, List.flatten_cons, List.flatten_nil, List.append_nil, List.nil_append, List.cons_append, List.count_append, List.count_cons, List.count_nil]
     omega) ?_
    refine j_back rfl ?_
    have hts3 : t2.gs = gs := hts2
    refine ⟨_, by omega, 1, t2, _, rfl, ?_, hto2, .inr ⟨rfl, hts3, hgn, rfl⟩, rfl⟩
    rw [hts3, Int.zero_add]
end Go.Proofs.YtfebkkmmagbnlaaGreatDoor
/-! Jn9 -/
namespace Go.Proofs.YtfebkkmmagbnlaaGreatDoor
open Go Go.Sx
set_option maxRecDepth 100000
set_option maxHeartbeats 4000000
set_option linter.unusedVariables false
set_option linter.unusedSimpArgs false
attribute [local irreducible] J JQ QS Con W opW
abbrev JM.jl (j : JM) : List Value := Go.Proofs.YtfebkkmmagbnlaaGreatDoor.jl j.fp j.name j.age 0 j.fl j.s.v ((sizeG j.s.gs : Nat) : Int) j.lg j.dead
abbrev JM.ll (j : JM) : List Value := gl j.laid.v ((sizeR j.laid.rs : Nat) : Int) 0 0 0 nilS
def mayJ (a : JA) : Int := if a.dead then 26 else 0
def addJ (a : JA) (x : List UInt8) : JA := if a.dead then a else { a with down := a.down ++ [x] }
theorem sizeR_snoc (rs : List (List UInt8)) (x : List UInt8) : sizeR (rs ++ [x]) = sizeR rs + x.length := by
 unfold sizeR
 rw [List.map_append, List.sum_append]
 simp
theorem perm_j5 (j : JM) : j.heap.Perm ([[(j.gj, j.obj)], [(j.lg, j.lobj)], j.s.heap, j.laid.c, j.laid.lf] : List SH).flatten := by
 classical
 refine List.perm_iff_count.2 fun x => ?_
 simp only [RR.heap, JM.heap, List.flatten_cons, List.flatten_nil, List.append_nil, List.nil_append, List.cons_append, List.count_append, List.count_cons, List.count_nil]
 all_goals omega
theorem jadd_perm (j : JM) {v : Value} {c : SH} {xs : List UInt8} {xv : Value} {xc : SH} : ([xc, [(j.gj, j.obj)], [(j.lg, gobj v (((sizeR j.laid.rs : Nat) : Int) + (xs.length : Int)) 0 0 0 nilS)], j.s.heap, c, j.laid.lf] : List SH).flatten.Perm [JM.heap ⟨j.gj, j.lg, j.fp, j.name, j.age, j.fl, j.s, j.laid.add v c xs xv xc, j.dead⟩].flatten := by
 have e : JM.lobj ⟨j.gj, j.lg, j.fp, j.name, j.age, j.fl, j.s, j.laid.add v c xs xv xc, j.dead⟩ = gobj v (((sizeR j.laid.rs : Nat) : Int) + (xs.length : Int)) 0 0 0 nilS := by
  unfold JM.lobj
  simp only
  rw [RR.add_rs, sizeR_snoc, Int.natCast_add]
  rfl
 have e2 : RR.heap (j.laid.add v c xs xv xc) = c ++ (j.laid.lf ++ xc) := by
  unfold RR.heap
  rw [RR.add_lf]
  rfl
 classical
 refine List.perm_iff_count.2 fun x => ?_
 have e3 : JM.obj ⟨j.gj, j.lg, j.fp, j.name, j.age, j.fl, j.s, j.laid.add v c xs xv xc, j.dead⟩ = j.obj := rfl
 unfold JM.heap
 rw [e, e3]
 simp only
 rw [e2]
 simp only [List.flatten_cons, List.flatten_nil, List.append_nil, List.nil_append, List.cons_append, List.count_append, List.count_cons, List.count_nil]
 omega
attribute [local irreducible] sum gsE headE fileN contA readE
theorem b32_con (w : World) : Con Tryz.prog 137 [.bool true] w [] fun v _ => v = .int .u32 1 := by
 refine con_of_tree mix Tryz.func137 T137_ok (by kernel_rfl) ?_
 unfold T137
 refine j_q (qs_ac) ?_
 refine j_cond rfl (fun hc0 => ?_) (fun hc0 => ?_)
 ·skip
  refine j_q (qs_ac) ?_
  refine j_ret_con (vs := [_]) (fun w' hw' => ⟨rfl, trivial⟩) ?_
  rfl
 ·skip
  simp at hc0
theorem bstore_con (g i : Nat) (l : List Value) (e : TypeId) (n : Int) (w : World) (hi : l[i]? = some (.int .u32 n)) : Con Tryz.prog 120 [.pointer (some ⟨g, i, none⟩), .bool true] w [(g, .cells l.toArray e (0, 0))] fun v S' => v = .tuple #[] ∧ S' = [[(g, .cells (l.set i (.int .u32 1)).toArray e (0, 0))]] := by
 refine con_of_tree mix Tryz.func120 T120_ok (by kernel_rfl) ?_
 unfold T120
 refine j_mix [] (Le.of_sub (List.nil_sublist _)) ?_
 refine j_mq (qs_nil rfl) ?_
 refine j_mq (qs_field U125 rfl sz123 (by decide) rfl) ?_
 refine j_q (qs_call ent137 rfl rfl rfl (fun w' hw' => b32_con w')) ?_
 refine j_mD0 (Le.of_sub (by repeat first | exact slR _ | exact slN _ | apply slC | apply slD)) ?_
 refine j_extset (u := .int .u32 1) 0 rfl rfl rfl rfl (fun w' hw' => run_call_store Tryz.func136 (by kernel_rfl) (by kernel_rfl) (by kernel_rfl) (by kernel_rfl) (k := .u32) (y := 1) (by rw [cell_of hw']; exact hi) (notFrozen hw')) ?_
 refine j_mR _ (.refl _) ?_
 refine j_mend ?_
 refine j_ret_con (vs := []) (fun w' hw' => trivial) ?_
 exact ⟨rfl, rfl⟩
theorem jmay_con (j : JM) (a : JA) (w : World) (hok : j.Ok a) (hc : w.heap[j.gj]? = some j.obj) : Con Tryz.prog 92 [j.ptr] w [] fun v _ => v = .int .i64 (mayJ a) := by
 refine con_of_tree mix Tryz.func92 T92_ok (by kernel_rfl) ?_
 unfold T92
 refine j_q (qs_ac) ?_
 refine j_q (qs_pnil U68 rfl) ?_
 refine j_cond rfl (fun hc0 => ?_) (fun hc0 => ?_)
 ·skip
  simp at hc0
 ·skip
  refine j_q (qs_nil rfl) ?_
  refine j_q (qs_field U136 rfl sz125 (by decide) rfl) ?_
  refine j_q (qs_call ent116 rfl rfl rfl (fun w' hw' => bload_con j.gj 8 j.jl 136 (0, 0) j.dead w' ((hw'.frame j.gj (lt_of_get hc) (by simp)).trans hc) rfl)) ?_
  refine j_cond rfl (fun hc1 => ?_) (fun hc1 => ?_)
  ·skip
   have hd : a.dead = true := by
    cases hx : a.dead
    ·rw [hok.dd, hx] at hc1
     simp at hc1
    ·rfl
   refine j_q (qs_ac) ?_
   refine j_ret_con (vs := [_]) (fun w' hw' => ⟨rfl, trivial⟩) ?_
   rw [mayJ, hd]
   rfl
  ·skip
   have hd : a.dead = false := by
    cases hx : a.dead
    ·rfl
    ·rw [hok.dd, hx] at hc1
     simp at hc1
   refine j_q (qs_ac) ?_
   refine j_ret_con (vs := [_]) (fun w' hw' => ⟨rfl, trivial⟩) ?_
   rw [mayJ, hd]
   rfl
theorem jadd_con (j : JM) (a : JA) (bv : Value) (xs : List UInt8) (w : World) (hok : j.Ok a) (hbr : BR w bv xs) (hbd : ∀ (a : Addr) (m c : Nat), bv = .slice (some a) m c → 0 < m → a.block ∉ dom j.heap) (hsz : sizeR a.down + xs.length ≤ 24000) (hdn : a.down.length ≤ 1000) : Con Tryz.prog 69 [j.ptr, bv] w j.heap fun u S' => u = .int .i64 (mayJ a) ∧ ∃ j' : JM, S' = [j'.heap] ∧ j'.Ok (addJ a xs) ∧ j'.gj = j.gj ∧ j'.fp = j.fp := by
 refine con_of_tree mix Tryz.func69 T69_ok (by kernel_rfl) ?_
 unfold T69
 obtain ⟨Ab, capb, rfl, hcapb⟩ := br_form hbr
 obtain ⟨A, cap, hv, hA⟩ := hok.l.form
 have hlr : j.laid.L.length = a.down.length := by
  rw [← hok.dn]
  exact (List.length_map _).symm
 rw [← hok.dn] at hsz
 refine j_perm (S' := [[(j.gj, j.obj)], [(j.lg, j.lobj)], j.s.heap, j.laid.c, j.laid.lf]) (by simpa using perm_j5 j) ?_
 refine j_q (qs_ac) ?_
 refine j_q (qs_call ent92 rfl rfl rfl (fun w' hw' => jmay_con j a w' hok (hw'.at_ (k := 0) rfl))) ?_
 refine j_q (qs_neq rfl rfl) ?_
 refine j_cond rfl (fun hc0 => ?_) (fun hc0 => ?_)
 ·skip
  have hd : a.dead = true := by
   cases hx : a.dead
   ·unfold mayJ at hc0
    rw [hx] at hc0
    simp at hc0
   ·rfl
  refine j_perm (S' := [j.heap]) (by simpa using (perm_j5 j).symm) ?_
  refine j_ret_con (vs := [_]) (fun w' hw' => ⟨rfl, trivial⟩) ?_
  exact ⟨rfl, j, rfl, by rw [addJ, hd, if_pos rfl]; exact hok, rfl, rfl⟩
 ·skip
  have hd : a.dead = false := by
   cases hx : a.dead
   ·rfl
   ·unfold mayJ at hc0
    rw [hx] at hc0
    simp at hc0
  refine j_q (qs_lenl U33 rfl) ?_
  refine j_q (qs_nil rfl) ?_
  refine j_q (qs_field U136 rfl sz121 (by decide) rfl) ?_
  refine j_q (qs_load (l := j.jl) (v := .pointer (some ⟨j.lg, 0, none⟩)) 0 U121 rfl rfl rfl rfl) ?_
  refine j_q (qs_nil rfl) ?_
  refine j_q (qs_field U133 rfl sz3 (by decide) rfl) ?_
  refine j_q (qs_load (l := j.ll) (v := .int .i64 ((sizeR j.laid.rs : Nat) : Int)) 1 U3 rfl rfl rfl rfl) ?_
  refine j_q (qs_sub64 rfl rfl (by first | omega | (simp only [bnA] at *; omega))) ?_
  refine j_q (qs_gtr rfl rfl) ?_
  rw [decide_eq_false (show ¬ (xs.length : Int) > 524288 - ((sizeR j.laid.rs : Nat) : Int) by omega)]
  refine j_gt rfl (qs_mt rfl) ?_
  refine j_gt rfl (qs_nil rfl) ?_
  refine j_gt rfl (qs_field U136 rfl sz121 (by decide) rfl) ?_
  refine j_gt rfl (qs_load (l := j.jl) (v := .pointer (some ⟨j.lg, 0, none⟩)) 0 U121 rfl rfl rfl rfl) ?_
  refine j_gt rfl (qs_nil rfl) ?_
  refine j_gt rfl (qs_field U133 rfl sz90 (by decide) rfl) ?_
  refine j_gt rfl (qs_load (l := j.ll) (v := j.laid.v) 1 U90 rfl rfl rfl rfl) ?_
  rw [hv]
  refine j_gt rfl (qs_lenl U90 rfl) ?_
  refine j_gt rfl (qs_geq rfl rfl) ?_
  rw [decide_eq_false (show ¬ ((j.laid.L.length : Nat) : Int) ≥ 4096 by omega)]
  refine j_q (qs_or rfl rfl) ?_
  refine j_cond rfl (fun hc1 => ?_) (fun hc1 => ?_)
  ·skip
   simp at hc1
  ·skip
   refine j_mix [[(j.gj, j.obj)], [(j.lg, j.lobj)]] (Le.of_sub (by repeat first | exact slR _ | exact slN _ | apply slC | apply slD)) ?_
   refine j_mq (qs_nil rfl) ?_
   refine j_mq (qs_field U136 rfl sz121 (by decide) rfl) ?_
   refine j_mq (qs_load (l := j.jl) (v := .pointer (some ⟨j.lg, 0, none⟩)) 0 U121 rfl rfl rfl rfl) ?_
   refine j_mq (qs_nil rfl) ?_
   refine j_mq (qs_field U136 rfl sz121 (by decide) rfl) ?_
   refine j_mq (qs_load (l := j.jl) (v := .pointer (some ⟨j.lg, 0, none⟩)) 0 U121 rfl rfl rfl rfl) ?_
   refine j_mq (qs_nil rfl) ?_
   refine j_mq (qs_field U133 rfl sz90 (by decide) rfl) ?_
   refine j_mq (qs_load (l := j.ll) (v := j.laid.v) 1 U90 rfl rfl rfl rfl) ?_
   refine j_call0 ent39 rfl rfl rfl (fun w' hw' => cloneO_con _ xs w' (br_keep hbr hbd hw') (by omega)) (fun u S2 hu => ?_)
   obtain ⟨c32, rfl, ho32⟩ := hu
   obtain ⟨n32, A32, cap32, rfl, hn32⟩ := own_form ho32 (by decide)
   refine j_mD0 (Le.of_sub (by repeat first | exact slR _ | exact slN _ | apply slC | apply slD)) ?_
   refine j_lit (vs := [.slice A32 n32 cap32]) U90 sz33 zero33 rfl (by simp [oneV]) ⟨rfl, by decide⟩ (fun g33 v33 c33 hv33 hc33 ho33 => ?_)
   subst hv33 hc33
   refine j_mD0 (Le.of_sub (by repeat first | exact slR _ | exact slN _ | apply slC | apply slD)) ?_
   refine j_append 5 U90 U90 (.inr ⟨_, rfl⟩) sb33 zero33 rfl hok.l.row rfl (.inl ⟨_, _, rfl, rd_own (off := 0) (n := 1) 0 rfl rfl, rfl⟩) (by simp [oneV]) ⟨(by simp only [List.length_map]; simp; omega), (by decide)⟩ (fun v34 c34 ho34 => ?_)
   obtain ⟨n34, A34, cap34, rfl, hn34⟩ := own_form ho34 (by decide)
   refine j_mD0 (Le.of_sub (by repeat first | exact slR _ | exact slN _ | apply slC | apply slD)) ?_
   refine j_mq (qs_nil rfl) ?_
   refine j_mq (qs_field U133 rfl sz90 (by decide) rfl) ?_
   refine j_store (l := j.ll) 3 sz90 rfl rfl rfl rfl (by simp) (by simp) ?_
   refine j_mR _ (.refl _) ?_
   refine j_mend ?_
   refine j_q (qs_nil rfl) ?_
   refine j_q (qs_field U136 rfl sz121 (by decide) rfl) ?_
   refine j_q (qs_load (l := j.jl) (v := .pointer (some ⟨j.lg, 0, none⟩)) 2 U121 rfl rfl rfl rfl) ?_
   refine j_q (qs_nil rfl) ?_
   refine j_q (qs_field U133 rfl sz3 (by decide) rfl) ?_
   refine j_q (qs_load (l := (gl (.slice A34 n34 cap34) ((sizeR j.laid.rs : Nat) : Int) 0 0 0 nilS)) (v := .int .i64 ((sizeR j.laid.rs : Nat) : Int)) 3 U3 rfl rfl rfl rfl) ?_
   refine j_q (qs_lenl U33 rfl) ?_
   refine j_q (qs_add64 rfl rfl (by first | omega | (simp only [bnA] at *; omega))) ?_
   refine j_q (qs_nil rfl) ?_
   refine j_q (qs_field U133 rfl sz3 (by decide) rfl) ?_
   refine j_store (l := (gl (.slice A34 n34 cap34) ((sizeR j.laid.rs : Nat) : Int) 0 0 0 nilS)) 3 sz3 rfl rfl rfl rfl (by simp) (by simp) ?_
   refine j_q (qs_ac) ?_
   refine j_subl (S' := [c32, [(j.gj, j.obj)], [(j.lg, gobj (.slice A34 n34 cap34) (((sizeR j.laid.rs : Nat) : Int) + (xs.length : Int)) 0 0 0 nilS)], j.s.heap, c34, j.laid.lf]) (by repeat first | exact slR _ | exact slN _ | apply slC | apply slD) ?_
   refine j_perm (S' := [JM.heap ⟨j.gj, j.lg, j.fp, j.name, j.age, j.fl, j.s, j.laid.add (.slice A34 n34 cap34) c34 xs (.slice A32 n32 cap32) c32, j.dead⟩]) (jadd_perm j) ?_
   refine j_ret_con (vs := [_]) (fun w' hw' => ⟨rfl, trivial⟩) ?_
   exact ⟨by rw [mayJ, hd]; rfl, ⟨j.gj, j.lg, j.fp, j.name, j.age, j.fl, j.s, j.laid.add (.slice A34 n34 cap34) c34 xs (.slice A32 n32 cap32) c32, j.dead⟩, rfl, by rw [addJ, hd, if_neg (by simp)]; exact ⟨hok.s, hok.l.add ho34 ho32, hok.nm, hok.ag, hok.gs, by rw [RR.add_rs, hok.dn], by rw [hok.dd, hd], fun _ => hok.fl hd⟩, rfl, rfl⟩
end Go.Proofs.YtfebkkmmagbnlaaGreatDoor
/-! Jn10 -/
namespace Go.Proofs.YtfebkkmmagbnlaaGreatDoor
open Go Go.Sx
set_option maxRecDepth 100000
set_option maxHeartbeats 4000000
set_option linter.unusedVariables false
set_option linter.unusedSimpArgs false
attribute [local irreducible] J JQ QS Con W opW
structure NR where
 v : Value
 c : SH
 L : List RR
def NR.lf (n : NR) : SH := (n.L.map RR.heap).flatten
def NR.gs (n : NR) : List (List (List UInt8)) := n.L.map RR.rs
structure NR.Ok (n : NR) : Prop where
 row : Sx.Own 90 1 (n.L.map RR.v) n.v n.c
 rr : ∀ x ∈ n.L, x.Ok
def NR.add (n : NR) (v : Value) (c : SH) (x : RR) : NR := ⟨v, c, n.L ++ [x]⟩
theorem NR.add_gs (n : NR) {v : Value} {c : SH} {x : RR} : (n.add v c x).gs = n.gs ++ [x.rs] := by
 unfold NR.gs NR.add
 rw [List.map_append]
 rfl
theorem NR.add_lf (n : NR) {v : Value} {c : SH} {x : RR} : (n.add v c x).lf = n.lf ++ x.heap := by
 unfold NR.lf NR.add
 rw [List.map_append, List.flatten_append, List.map_singleton, List.flatten_singleton]
theorem NR.Ok.add {n : NR} (h : n.Ok) {v : Value} {c : SH} {x : RR} (hv : Sx.Own 90 1 ((n.L.map RR.v) ++ [x.v]) v c) (hx : x.Ok) : (n.add v c x).Ok := by
 refine ⟨?_, fun t ht => ?_⟩
 ·unfold NR.add
  rw [List.map_append]
  exact hv
 ·rcases List.mem_append.1 ht with ht | ht
  ·exact h.rr t ht
  ·rw [List.mem_singleton.1 ht]
   exact hx
theorem nr0 : NR.Ok ⟨nilS, [], []⟩ := ⟨own_nil, fun t ht => by cases ht⟩
theorem own_cellsI {e : TypeId} {xs : List Value} {g n cap : Nat} {c : SH} {w : World} (h : Sx.Own e 1 xs (.slice (some ⟨g, 0, none⟩) n cap) c) (hin : In w c) : Cells w ⟨g, 0, none⟩ xs := by
 obtain ⟨rest, fz, rfl, h1, h2, h3, h4⟩ := own_row h
 intro j u hu
 rw [add_off, Nat.zero_add, cell_of (hin _ (List.mem_singleton.2 rfl))]
 show (xs ++ rest)[j]? = some u
 rw [List.getElem?_append_left (List.getElem?_eq_some_iff.1 hu).1]
 exact hu
theorem GS.Ok.form {s : GS} (h : s.Ok) : ∃ A cap, s.v = .slice A s.G.length cap ∧ (0 < s.G.length → ∃ g, A = some ⟨g, 0, none⟩) := by
 rcases h.row with ⟨h1, h2, h3⟩ | ⟨g, n, cap, rest, fz, h1, h2, h3, h4, h5, h6⟩
 ·have : s.G = [] := by simpa using h2
  exact ⟨none, 0, by rw [h1, this]; rfl, fun hp => by rw [this] at hp; simp at hp⟩
 ·rw [List.length_map, Nat.mul_one] at h3
  exact ⟨_, cap, by rw [h1, h3], fun _ => ⟨g, rfl⟩⟩
theorem GS.in_get {s : GS} {w : World} (h : In w s.heap) {x : GR} (hx : x ∈ s.G) : In w x.heap := fun q hq => h q (List.mem_append_right _ (List.mem_flatten.2 ⟨_, List.mem_map.2 ⟨x, hx, rfl⟩, hq⟩))
theorem JM.in_s {j : JM} {w : World} (h : In w j.heap) : In w j.s.heap := fun q hq => h q (List.mem_cons_of_mem _ (List.mem_cons_of_mem _ (List.mem_append_left _ hq)))
theorem JM.in_j {j : JM} {w : World} (h : In w j.heap) : w.heap[j.gj]? = some j.obj := h (j.gj, j.obj) (List.mem_cons_self ..)
theorem notin0 (g : Nat) : g ∉ dom [] := by simp [dom]
attribute [local irreducible] sum gsE headE fileN contA readE
theorem jdrop_con (j : JM) (a : JA) (w : World) (hok : j.Ok a) : Con Tryz.prog 68 [j.ptr] w j.heap fun u S' => u = .tuple #[] ∧ ∃ j' : JM, S' = [j'.heap] ∧ j'.Ok ({ a with down := [] }) ∧ j'.gj = j.gj ∧ j'.fp = j.fp := by
 refine con_of_tree mix Tryz.func68 T68_ok (by kernel_rfl) ?_
 unfold T68
 refine j_perm (S' := [[(j.gj, j.obj)], [(j.lg, j.lobj)], j.s.heap, j.laid.c, j.laid.lf]) (by simpa using perm_j5 j) ?_
 refine j_q (qs_pnnil U68 rfl) ?_
 refine j_cond rfl (fun hc0 => ?_) (fun hc0 => ?_)
 ·skip
  refine j_q (qs_run (v := .agg ([nilS, .int .i64 0, .int .u32 0, .int .i32 0, .int .u32 0, nilS]).toArray) (fun w => by kernel_rfl)) ?_
  refine j_box (l := [nilS, .int .i64 0, .int .u32 0, .int .i32 0, .int .u32 0, nilS]) rfl (fun g2 hg2 hs2 => ?_)
  refine j_q (qs_nil rfl) ?_
  refine j_q (qs_field U136 rfl sz121 (by decide) rfl) ?_
  refine j_store (l := j.jl) 1 sz121 rfl rfl rfl rfl (by simp) (by simp) ?_
  refine j_subl (S' := [[(g2, gobj nilS 0 0 0 0 nilS)], [(j.gj, JM.obj ⟨j.gj, g2, j.fp, j.name, j.age, j.fl, j.s, ⟨nilS, [], []⟩, j.dead⟩)], j.s.heap]) (by repeat first | exact slR _ | exact slN _ | apply slC | apply slD) ?_
  refine j_perm (S' := [JM.heap ⟨j.gj, g2, j.fp, j.name, j.age, j.fl, j.s, ⟨nilS, [], []⟩, j.dead⟩]) (by
   classical
   refine List.perm_iff_count.2 fun x => ?_
   simp only [JM.heap, RR.heap, RR.lf, List.map_nil, List.flatten_cons, List.flatten_nil, List.append_nil, List.nil_append, List.cons_append, List.count_append, List.count_cons, List.count_nil]
   have e : JM.lobj ⟨j.gj, g2, j.fp, j.name, j.age, j.fl, j.s, ⟨nilS, [], []⟩, j.dead⟩ = gobj nilS 0 0 0 0 nilS := rfl
   rw [e]
   omega) ?_
  refine j_ret_con (vs := []) (fun w' hw' => trivial) ?_
  exact ⟨rfl, ⟨j.gj, g2, j.fp, j.name, j.age, j.fl, j.s, ⟨nilS, [], []⟩, j.dead⟩, rfl, ⟨hok.s, rr0, hok.nm, hok.ag, hok.gs, rfl, hok.dd, hok.fl⟩, rfl, rfl⟩
 ·skip
  simp at hc0
theorem jgroups_con (j : JM) (a : JA) (w : World) (hin : In w j.heap) (hok : j.Ok a) (hl : limG a.gs) : Con Tryz.prog 34 [j.ptr] w [] fun u S' => ∃ n : NR, u = n.v ∧ S' = [n.c, n.lf] ∧ n.Ok ∧ n.gs = a.gs := by
 refine con_of_tree mix Tryz.func34 T34_ok (by kernel_rfl) ?_
 unfold T34
 obtain ⟨A, cap, hv, hA⟩ := hok.s.form
 have hgj : w.heap[j.gj]? = some (.cells j.jl.toArray 136 (0, 0)) := JM.in_j hin
 have hds := notin0
 have hl1 := hl.1
 have hgl : j.s.G.length = a.gs.length := by
  rw [← hok.gs]
  exact (List.length_map _).symm
 refine j_q (qs_ac) ?_
 refine j_q (qs_pnil U68 rfl) ?_
 refine j_cond rfl (fun hc0 => ?_) (fun hc0 => ?_)
 ·skip
  simp at hc0
 ·skip
  refine j_q (qs_ac) ?_
  refine j_q (qs_nil rfl) ?_
  refine j_q (qs_field U136 rfl sz134 (by decide) rfl) ?_
  refine j_q (qs_loadO (rdo_base hgj (hds _)) U134 rfl rfl rfl) ?_
  rw [hv]
  refine j_perm (S' := [[], []]) (by simp) ?_
  refine j_q (qs_lenl U134 rfl) ?_
  refine j_q (qs_mc) ?_
  refine j_loop (fun m vs S' => ∃ (i : Nat) (n : NR), vs = [n.v, .int .i64 (i : Int)] ∧ S' = [n.c, n.lf] ∧ n.Ok ∧ n.gs = j.s.gs.take i ∧ i ≤ j.s.G.length ∧ m = j.s.G.length - i) ⟨_, 0, ⟨nilS, [], []⟩, rfl, rfl, nr0, rfl, Nat.zero_le _, rfl⟩ ?_
  rintro m vs S' hlen ⟨i, n, rfl, rfl, hno, hng, hin2, rfl⟩
  refine j_q (qs_lss rfl rfl) ?_
  refine j_cond rfl (fun hc1 => ?_) (fun hc1 => ?_)
  ·skip
   have hi : i < j.s.G.length := by
    simp only [bnA] at *
    omega
   obtain ⟨g0, hg0⟩ := hA (by omega)
   have hrow := hok.s.row
   rw [hv, hg0] at hrow
   have hsin := JM.in_s hin
   have hcl := own_cellsI hrow (fun q hq => hsin q (List.mem_append_left _ hq))
   obtain ⟨x, hx⟩ : ∃ x, x = j.s.G[i] := ⟨_, rfl⟩
   have hxm : x ∈ j.s.G := by rw [hx]; exact List.getElem_mem hi
   have hxh := GS.in_get hsin hxm
   have hxg : w.heap[x.g]? = some (.cells (x.r.v :: x.o).toArray 133 (0, 0)) := hxh (x.g, _) (List.mem_cons_self ..)
   have hxo := hok.s.rr x hxm
   obtain ⟨Ax, capx, hxv, hAx⟩ := hxo.form
   have hxlf : In w x.r.lf := fun q hq => hxh q (List.mem_cons_of_mem _ (List.mem_append_right _ hq))
   have hxc : In w x.r.c := fun q hq => hxh q (List.mem_cons_of_mem _ (List.mem_append_left _ hq))
   have hxl : limR x.r.rs := by
    refine hl.2 _ ?_
    rw [← hok.gs]
    exact List.mem_map.2 ⟨x, hxm, rfl⟩
   have hxn : x.r.rs.length = x.r.L.length := List.length_map _
   have hxl1 := hxl.1
   refine j_q (qs_ixl0 (a := ⟨g0, 0, none⟩) (n := j.s.G.length) (c := cap) U134 sz121 (by show Value.slice A _ _ = _; rw [hg0]) rfl (by omega)) ?_
   refine j_q (qs_loadR (v := .pointer (some ⟨x.g, 0, none⟩)) (a := ⟨g0, 0, none⟩) (i := i) (rd_cells hcl (by simp)) U121 rfl (by show Value.pointer (some (Addr.add ⟨g0, 0, none⟩ (i : Int).toNat)) = _; rw [Int.toNat_natCast]) (by rw [List.getElem?_map, List.getElem?_eq_getElem hi, hx]; rfl)) ?_
   refine j_q (qs_ac) ?_
   refine j_q (qs_nil rfl) ?_
   refine j_q (qs_field U133 rfl sz90 (by decide) rfl) ?_
   refine j_q (qs_loadO (rdo_base hxg (hds _)) U90 rfl rfl rfl) ?_
   rw [hxv]
   refine j_perm (S' := [n.c, n.lf, [], []]) (by simp) ?_
   refine j_q (qs_lenl U90 rfl) ?_
   refine j_q (qs_mc) ?_
   refine j_loop (fun m vs S' => ∃ (k : Nat) (r : RR), vs = [r.v, .int .i64 (k : Int)] ∧ S' = [n.c, n.lf, r.c, r.lf] ∧ r.Ok ∧ r.rs = x.r.rs.take k ∧ k ≤ x.r.L.length ∧ m = x.r.L.length - k) ⟨_, 0, ⟨nilS, [], []⟩, rfl, rfl, rr0, rfl, Nat.zero_le _, rfl⟩ ?_
   rintro m vs S' hlen ⟨k, r, rfl, rfl, hro, hrs, hkn, rfl⟩
   refine j_q (qs_lss rfl rfl) ?_
   refine j_cond rfl (fun hc2 => ?_) (fun hc2 => ?_)
   ·skip
    have hk : k < x.r.L.length := by
     simp only [bnA] at *
     omega
    obtain ⟨g1, hg1⟩ := hAx (by omega)
    have hrowx := hxo.row
    rw [hxv, hg1] at hrowx
    have hclx := own_cellsI hrowx hxc
    obtain ⟨t, ht⟩ : ∃ t, t = x.r.L[k] := ⟨_, rfl⟩
    have htm : t ∈ x.r.L := by rw [ht]; exact List.getElem_mem hk
    have htx : x.r.L[k]? = some t := by rw [ht]; exact List.getElem?_eq_getElem hk
    have htl : t.1.length ≤ 13000 := Nat.le_trans (sizeR_get (rs := x.r.rs) (List.mem_map.2 ⟨t, htm, rfl⟩)) hxl.2
    have hrl : r.L.length = k := by
     have h8 : r.rs.length = r.L.length := List.length_map _
     rw [← h8, hrs, List.length_take]
     omega
    refine j_q (qs_ixl0 (a := ⟨g1, 0, none⟩) (n := x.r.L.length) (c := capx) U90 sz33 (by show Value.slice Ax _ _ = _; rw [hg1]) rfl (by omega)) ?_
    refine j_q (qs_loadR (v := t.2.1) (a := ⟨g1, 0, none⟩) (i := k) (rd_cells hclx (by simp)) U33 rfl (by show Value.pointer (some (Addr.add ⟨g1, 0, none⟩ (k : Int).toNat)) = _; rw [Int.toNat_natCast]) (by rw [List.getElem?_map, htx]; rfl)) ?_
    refine j_call0 ent39 rfl rfl rfl (fun w' hw' => cloneO_con t.2.1 t.1 w' (br0 (hxo.br hxlf htm) hw') (by omega)) (fun u S2 hu => ?_)
    obtain ⟨c21, rfl, ho21⟩ := hu
    obtain ⟨n21, A21, cap21, rfl, hn21⟩ := own_form ho21 (by decide)
    refine j_lit (vs := [.slice A21 n21 cap21]) U90 sz33 zero33 rfl (by simp [oneV]) ⟨rfl, by decide⟩ (fun g22 v22 c22 hv22 hc22 ho22 => ?_)
    subst hv22 hc22
    refine j_append 4 U90 U90 (.inr ⟨_, rfl⟩) sb33 zero33 rfl hro.row rfl (.inl ⟨_, _, rfl, rd_own (off := 0) (n := 1) 0 rfl rfl, rfl⟩) (by simp [oneV]) ⟨(by simp only [List.length_map]; simp; omega), (by decide)⟩ (fun v23 c23 ho23 => ?_)
    refine j_q (qs_add64 rfl rfl (by omega)) ?_
    refine j_subl (S' := [c21, n.c, n.lf, c23, r.lf]) (by repeat first | exact slR _ | exact slN _ | apply slC | apply slD) ?_
    refine j_perm (S' := [n.c, n.lf, c23, r.lf ++ c21]) (by
     classical
     refine List.perm_iff_count.2 fun x => ?_
     simp only [RR.heap, List.set, List.flatten_cons, List.flatten_nil, List.append_nil, List.nil_append, List.cons_append, List.count_append, List.count_cons, List.count_nil]
     omega) ?_
    refine j_back rfl ?_
    refine ⟨_, by omega, k + 1, r.add _ c23 t.1 (.slice A21 n21 cap21) c21, rfl, ?_, hro.add ho23 ho21, ?_, by omega, rfl⟩
    ·rw [RR.add_lf]
     rfl
    ·rw [RR.add_rs, hrs, List.take_add_one]
     unfold RR.rs
     rw [List.getElem?_map, htx]
     rfl
   ·skip
    have hk : k = x.r.L.length := by
     simp only [bnA] at *
     omega
    have hnl : n.L.length = i := by
     have h8 : n.gs.length = n.L.length := List.length_map _
     rw [← h8, hng, List.length_take]
     have h9 : j.s.gs.length = j.s.G.length := List.length_map _
     omega
    obtain ⟨Ar, capr, hrv, _⟩ := hro.form
    rw [hrv]
    refine j_lit (vs := [.slice Ar r.L.length capr]) U88 sz90 zero90 rfl (by simp [oneV]) ⟨rfl, by decide⟩ (fun g25 v25 c25 hv25 hc25 ho25 => ?_)
    subst hv25 hc25
    refine j_append 1 U88 U88 (.inr ⟨_, rfl⟩) sb90 zero90 rfl hno.row rfl (.inl ⟨_, _, rfl, rd_own (off := 0) (n := 1) 0 rfl rfl, rfl⟩) (by simp [oneV]) ⟨(by simp only [List.length_map]; simp; omega), (by decide)⟩ (fun v26 c26 ho26 => ?_)
    refine j_q (qs_add64 rfl rfl (by omega)) ?_
    refine j_subl (S' := [c26, n.lf, r.c, r.lf]) (by repeat first | exact slR _ | exact slN _ | apply slC | apply slD) ?_
    refine j_perm (S' := [c26, n.lf ++ r.heap]) (by simp [RR.heap]) ?_
    refine j_back rfl ?_
    refine ⟨_, by omega, i + 1, n.add _ c26 r, rfl, ?_, hno.add (by rw [hrv]; exact ho26) hro, ?_, by omega, rfl⟩
    ·rw [NR.add_lf]
     rfl
    ·rw [NR.add_gs, hng, List.take_add_one]
     unfold GS.gs
     rw [List.getElem?_map, List.getElem?_eq_getElem hi, hrs, hk, ← hxn, List.take_length, hx]
     rfl
  ·skip
   have hi : i = j.s.G.length := by
    simp only [bnA] at *
    omega
   refine j_ret_con (vs := [_]) (fun w' hw' => ⟨rfl, trivial⟩) ?_
   refine ⟨n, rfl, rfl, hno, ?_⟩
   rw [hng, hi, ← hok.gs]
   have h9 : j.s.gs.length = j.s.G.length := List.length_map _
   rw [← h9, List.take_length]
end Go.Proofs.YtfebkkmmagbnlaaGreatDoor
/-! Jn11 -/
namespace Go.Proofs.YtfebkkmmagbnlaaGreatDoor
open Go Go.Sx
set_option maxRecDepth 100000
set_option maxHeartbeats 4000000
set_option linter.unusedVariables false
set_option linter.unusedSimpArgs false
attribute [local irreducible] J JQ QS Con W opW
def burnt (f : AF) : Bool := f.fused && decide (f.left = 0)
def comT (a : JA) (id : Nat) : AT := if a.gs = [] then .wr (fileN a.name a.age 0) (grpE a.down) id else .ap (fileN a.name a.age 0) (grpE a.down)
def comE (a : JA) (f : AF) (id : Nat) : Int := if a.dead then 26 else if a.down = [] then 0 else if burnt f then 26 else if burnt (stepF f (comT a id)) then 26 else 0
def comJ (a : JA) (f : AF) (id : Nat) : JA := if a.dead then a else if a.down = [] then a else if burnt f then { a with dead := true } else if burnt (stepF f (comT a id)) then { a with dead := true } else { a with gs := a.gs ++ [a.down], down := [] }
def comA (a : JA) (f : AF) (id : Nat) : AF := if a.dead then f else if a.down = [] then f else if burnt f then f else if burnt (stepF f (comT a id)) then stepF f (comT a id) else syncF (stepF f (comT a id))
theorem mayE_b (f : AF) {ns : List (List UInt8)} (h : ns.all nameOk = true) : mayE f.fused f.left ns = if burnt f then 26 else 0 := by
 unfold mayE burnt
 rw [h]
 simp
theorem sep_chunks {S : List SH} (hn : (dom S.flatten).Nodup) {k m g : Nat} {c H : SH} (hk : S[k]? = some c) (hm : S[m]? = some H) (hkm : k ≠ m) (h1 : g ∈ dom c) (h2 : g ∈ dom H) : False := by
 unfold dom at hn
 rw [List.map_flatten] at hn
 have h3 := (List.pairwise_flatten.1 hn).2
 have hk' : (S.map (List.map Prod.fst))[k]? = some (dom c) := by rw [List.getElem?_map, hk]; rfl
 have hm' : (S.map (List.map Prod.fst))[m]? = some (dom H) := by rw [List.getElem?_map, hm]; rfl
 obtain ⟨hkl, hk2⟩ := List.getElem?_eq_some_iff.1 hk'
 obtain ⟨hml, hm2⟩ := List.getElem?_eq_some_iff.1 hm'
 rcases Nat.lt_or_gt_of_ne hkm with h | h
 ·have := List.pairwise_iff_getElem.1 h3 k m hkl hml h
  rw [hk2, hm2] at this
  exact this g h1 g h2 rfl
 ·have := List.pairwise_iff_getElem.1 h3 m k hml hkl h
  rw [hk2, hm2] at this
  exact this g h2 g h1 rfl
theorem sep_own {b : Base} {S : List SH} {w : World} {v : Value} {c H : SH} {xs : List UInt8} (ho : Sx.Own 5 1 (ints xs) v c) {k m : Nat} (hk : S[k]? = some c) (hm : S[m]? = some H) (hkm : k ≠ m) (hw : Sig b S w) : ∀ (a : Addr) (n cp : Nat), v = .slice (some a) n cp → 0 < n → a.block ∉ dom H := fun a n cp e hn hd => by
 rcases ho with ⟨h1, _⟩ | ⟨g, n', cap, rest, fz, h1, rfl, _⟩
 ·rw [h1] at e
  cases e
 ·rw [h1] at e
  injection e with e1 e2 e3
  injection e1 with e1
  rw [← e1] at hd
  exact sep_chunks hw.nodup hk hm hkm (List.mem_singleton.2 rfl) hd
theorem wrE_val {f : AF} {n xs : List UInt8} (hn : nameOk n = true) (hx : xs.length ≤ 1048576) (hf : ¬ fullA f n xs) : wrE f n xs = if burnt f then 26 else 0 := by
 unfold wrE
 rw [mayE_b f (by simp [hn])]
 cases hb : burnt f
 ·rw [show (if false = true then (26 : Int) else 0) = 0 from rfl, if_neg (show ¬ ((0 : Int) ≠ 0) by simp), if_neg (show ¬ 1048576 < xs.length by omega), if_neg hf]
 ·rw [show (if true = true then (26 : Int) else 0) = 26 from rfl, if_pos (show ((26 : Int) ≠ 0) by decide)]
theorem appE_val {f : AF} {n xs : List UInt8} (hn : nameOk n = true) (ha : alook f.now.nm n ≠ none) (hx : sizeA f.now n + xs.length ≤ 1048576) (hr : f.now.used + (xs.length : Int) ≤ f.room) : appE f n xs = if burnt f then 26 else 0 := by
 unfold appE
 rw [mayE_b f (by simp [hn])]
 cases hb : burnt f
 ·rw [show (if false = true then (26 : Int) else 0) = 0 from rfl, if_neg (show ¬ ((0 : Int) ≠ 0) by simp), if_neg ha, if_neg (show ¬ 1048576 < sizeA f.now n + xs.length by omega), if_neg (show ¬ f.room < f.now.used + (xs.length : Int) by omega)]
 ·rw [show (if true = true then (26 : Int) else 0) = 26 from rfl, if_pos (show ((26 : Int) ≠ 0) by decide)]
theorem sizeA_cont (s : AS) (n : List UInt8) : sizeA s n = (contA s n).length := by
 unfold sizeA contA
 cases alook s.nm n with
 | none => rfl
 | some i => rfl
theorem nameOk_file {name : List UInt8} {age : Nat} (h1 : name.length ≤ 100) (h2 : age < 10000) : nameOk (fileN name age 0) = true := by
 have h4 := dec_len h2
 have h5 := dec_len (show 0 < 10000 by omega)
 have h6 : (fileN name age 0).length = name.length + 1 + (dec age).length + 1 + (dec 0).length := by
  unfold fileN
  simp only [List.length_append, List.length_cons, List.length_nil]
 unfold nameOk
 rw [decide_eq_true (by omega), decide_eq_true (by omega)]
 rfl
theorem jmet_con (gj : Nat) (l : List Value) (n : Int) (w : World) (hl : l[8]? = some (.int .u32 n)) : Con Tryz.prog 95 [.pointer (some ⟨gj, 0, none⟩), .int .i64 26] w [(gj, .cells l.toArray 136 (0, 0))] fun u S' => u = .int .i64 26 ∧ S' = [[(gj, .cells (l.set 8 (.int .u32 1)).toArray 136 (0, 0))]] := by
 refine con_of_tree mix Tryz.func95 T95_ok (by kernel_rfl) ?_
 unfold T95
 refine j_q (qs_ac) ?_
 refine j_q (qs_neq rfl rfl) ?_
 rw [show ((26 : Int) != 0) = true from rfl]
 refine j_gt rfl (qs_mt rfl) ?_
 refine j_gt rfl (qs_neq rfl rfl) ?_
 rw [show ((26 : Int) != 6) = true from rfl]
 refine j_q (qs_and rfl rfl) ?_
 refine j_cond rfl (fun hc0 => ?_) (fun hc0 => ?_)
 ·skip
  refine j_q (qs_nil rfl) ?_
  refine j_q (qs_field U136 rfl sz125 (by decide) rfl) ?_
  refine j_call 0 ent120 rfl rfl rfl rfl (fun w' hw' => bstore_con gj 8 l 136 n w' hl) (fun u S2 hu => ?_)
  obtain ⟨rfl, rfl⟩ := hu
  refine j_subl (S' := [[(gj, .cells (l.set 8 (.int .u32 1)).toArray 136 (0, 0))]]) (by repeat first | exact slR _ | exact slN _ | apply slC | apply slD) ?_
  refine j_ret_con (vs := [_]) (fun w' hw' => ⟨rfl, trivial⟩) ?_
  exact ⟨rfl, rfl⟩
 ·skip
  simp at hc0
end Go.Proofs.YtfebkkmmagbnlaaGreatDoor
