/- Part 11. -/
import Derived.Test.YtfebkkmmagbnlaaGreatDoorPW10
import Derived.Test.YtfebkkmmagbnlaaGreatDoorPW9
import Derived.Test.YtfebkkmmagbnlaaGreatDoorPW3
import Derived.Test.YtfebkkmmagbnlaaGreatDoorPW4
/-! Pg11 -/
namespace Go.Proofs.YtfebkkmmagbnlaaGreatDoor
open Go Go.Sx Go.MapKept Go.WideMaps Go.Maps
set_option maxRecDepth 100000
set_option linter.unusedVariables false
attribute [local irreducible] sum
theorem used_pos {r : FR} {a : AF} (h : r.Ok a) : 0 ≤ a.now.used := by
 obtain ⟨_, ⟨_, _, h1⟩, ⟨_, _, h2⟩⟩ := h.now
 omega
theorem burnt_no {f : AF} (h : f.fused = false) : burnt f = false := by
 unfold burnt
 rw [h]
 rfl
theorem comE_no {a : JA} {f : AF} {id : Nat} (hd : a.dead = false) (h : f.fused = false) : comE a f id = 0 := by
 have h2 : burnt (stepF f (comT a id)) = false := burnt_no h
 unfold comE
 rw [hd, burnt_no h, h2]
 simp
theorem comJ_0 {a : JA} {f : AF} {id : Nat} (he : comE a f id = 0) : comJ a f id = if a.down = [] then a else { a with gs := a.gs ++ [a.down], down := [] } := by
 unfold comE at he
 unfold comJ
 cases hd : a.dead <;> rw [hd] at he
 ·simp only [if_neg (show ¬ (false = true) by simp)] at he ⊢
  split
  ·rfl
  ·rename_i hdn
   rw [if_neg hdn] at he
   split at he
   ·cases he
   ·rename_i hb
    rw [if_neg hb]
    split at he
    ·cases he
    ·rename_i hb2
     rw [if_neg hb2]
 ·cases he
theorem comA_room (a : JA) (f : AF) (id : Nat) : (comA a f id).room = f.room ∧ (comA a f id).fused = f.fused ∧ (comA a f id).pend.length ≤ f.pend.length + 1 := by
 unfold comA
 repeat' split
 all_goals first | exact ⟨rfl, rfl, Nat.le_succ _⟩ | exact ⟨rfl, rfl, by show (f.pend ++ [_]).length ≤ _; rw [List.length_append]; exact Nat.le_refl _⟩ | exact ⟨rfl, rfl, Nat.zero_le _⟩
theorem grpE_len2 {g : List (List UInt8)} (h : limR g) : (grpE g).length ≤ sizeR g + 600 := by
 have h0 := grpE_lim h
 have h1 := recsE_len (rs := g) fun x hx => Nat.le_trans (sizeR_get hx) h.2
 have h2 := num_len (show g.length < 268435456 by have := h.1; omega)
 have h3 : (bodyE g).length = (num g.length).length + (recsE g).length := by unfold bodyE; rw [List.length_append]
 have h4 := bodyE_lim h
 have h5 := num_len (show (bodyE g).length < 268435456 by omega)
 have h6 : (grpE g).length = (num (bodyE g).length).length + ((bodyE g).length + 32) := by unfold grpE; rw [List.length_append, List.length_append, sum_length]
 have := h.1
 omega
theorem gsE_len2 {gs : List (List (List UInt8))} (h : ∀ g ∈ gs, limR g) : (gsE gs).length ≤ sizeG gs + gs.length * 600 := by
 induction gs with
 | nil => exact Nat.le_refl _
 | cons g gs ih =>
  have h1 := ih fun x hx => h x (List.mem_cons_of_mem _ hx)
  have h2 := grpE_len2 (h g (List.mem_cons_self ..))
  rw [gsE_cons, List.length_append, List.length_cons]
  have h3 : sizeG (g :: gs) = sizeR g + sizeG gs := by unfold sizeG; rw [List.map_cons, List.sum_cons]
  omega
def szg (g : List (Nat × PE)) : Nat := (g.map fun r => r.2.2.length).sum
def szG (G : List (List (Nat × PE))) : Nat := (G.map szg).sum
def cnG (G : List (List (Nat × PE))) : Nat := (G.map List.length).sum
theorem recP_le {n : Nat} {x : PE} (h : n < 16384) : (recP (n, x)).length ≤ x.2.length + 5 := by
 have h1 := recP_len n x
 have h2 := num_len (show n < 268435456 by omega)
 omega
theorem sizeR_recG {g : List (Nat × PE)} (h : ∀ r ∈ g, r.1 < 16384) : sizeR (recG g) ≤ szg g + 5 * g.length := by
 induction g with
 | nil => exact Nat.le_refl _
 | cons r g ih =>
  have h1 := ih fun x hx => h x (List.mem_cons_of_mem _ hx)
  have h2 := recP_le (x := r.2) (h r (List.mem_cons_self ..))
  have e1 : sizeR (recG (r :: g)) = (recP r).length + sizeR (recG g) := by show ((recP r :: recG g).map List.length).sum = _; unfold sizeR; rw [List.map_cons, List.sum_cons]
  have e2 : szg (r :: g) = r.2.2.length + szg g := by unfold szg; rw [List.map_cons, List.sum_cons]
  rw [List.length_cons]
  have h3 : (recP r).length ≤ r.2.2.length + 5 := h2
  omega
theorem szG_mem {G : List (List (Nat × PE))} {g : List (Nat × PE)} (h : g ∈ G) : szg g ≤ szG G ∧ g.length ≤ cnG G := by
 induction G with
 | nil => cases h
 | cons x G ih =>
  have e1 : szG (x :: G) = szg x + szG G := by unfold szG; rw [List.map_cons, List.sum_cons]
  have e2 : cnG (x :: G) = x.length + cnG G := by unfold cnG; rw [List.map_cons, List.sum_cons]
  rcases List.mem_cons.1 h with rfl | h
  ·omega
  ·have := ih h
   omega
theorem sizeG_gsP {G : List (List (Nat × PE))} (h : okG G) : sizeG (gsP G) ≤ szG G + 5 * cnG G := by
 induction G with
 | nil => exact Nat.le_refl _
 | cons x G ih =>
  have h1 := ih fun g hg => h g (List.mem_cons_of_mem _ hg)
  have h2 := sizeR_recG fun r hr => (h x (List.mem_cons_self ..) r hr).1
  have e1 : szG (x :: G) = szg x + szG G := by unfold szG; rw [List.map_cons, List.sum_cons]
  have e2 : cnG (x :: G) = x.length + cnG G := by unfold cnG; rw [List.map_cons, List.sum_cons]
  have e3 : sizeG (gsP (x :: G)) = sizeR (recG x) + sizeG (gsP G) := by show ((recG x :: gsP G).map sizeR).sum = _; unfold sizeG; rw [List.map_cons, List.sum_cons]
  omega
theorem cnG_ge {G : List (List (Nat × PE))} (h : ∀ g ∈ G, g ≠ []) : G.length ≤ cnG G := by
 induction G with
 | nil => exact Nat.le_refl _
 | cons x G ih =>
  have h1 := ih fun g hg => h g (List.mem_cons_of_mem _ hg)
  have e2 : cnG (x :: G) = x.length + cnG G := by unfold cnG; rw [List.map_cons, List.sum_cons]
  have h2 : 0 < x.length := List.length_pos_iff.2 (h x (List.mem_cons_self ..))
  rw [List.length_cons]
  omega
def grpD (c : List PE) (D : List Nat) : List (Nat × PE) := D.map fun n => (n, c.getD n PE0)
theorem recsD_eq (c : List PE) (D : List Nat) : recsD c D = recG (grpD c D) := by
 unfold recsD grpD recG
 rw [List.map_map]
 rfl
theorem szg_grpD (c : List PE) (D : List Nat) : szg (grpD c D) = szD c D := by
 unfold szg grpD szD
 rw [List.map_map]
 rfl
theorem getD_len (c : List PE) (n : Nat) {b : Nat} (h : ∀ x ∈ c, x.2.length ≤ b) : (c.getD n PE0).2.length ≤ b := by
 rw [List.getD_eq_getElem?_getD]
 rcases hx : c[n]? with _ | x
 ·exact Nat.zero_le _
 ·exact h x (List.mem_of_getElem? hx)
structure PQ (nm : List UInt8) (i b : Nat) (G : List (List (Nat × PE))) (q : PAb) (a : JA) (f : AF) : Prop where
 ji : JI (14000 * (i : Int)) i i a f
 nh : AllF (fun s => alook s.nm nm = none) f
 an : a.name = pjName nm
 ag : a.age = 0
 gs : a.gs = gsP G
 kk : q.k = replay G
 pr : PR q.k q.c (bitsL q.ws 0)
 wl : q.ws.length = 256
 sz : szG G + szD q.c (bitsL q.ws 0) ≤ b
 ct : cnG G + (bitsL q.ws 0).length ≤ i
 cl : q.c.length ≤ i
 kl : q.k.length ≤ i
 gn : ∀ g ∈ G, g ≠ []
 go : okG G
 xl : (∀ x ∈ q.c, x.2.length ≤ 100000) ∧ ∀ x ∈ q.k, x.2.length ≤ 100000
 rm : f.room ≤ 1073741824
 pd : f.pend.length ≤ i
variable {nm : List UInt8} {i b : Nat} {G : List (List (Nat × PE))} {q : PAb} {a : JA} {f : AF}
theorem PQ.limG (h : PQ nm i b G q a f) (hi : i ≤ 130) (hb : b ≤ 12000) : limG (gsP G) := by
 have h1 := cnG_ge h.gn
 have h2 := h.ct
 have h3 := h.sz
 refine ⟨by rw [List.length_map]; omega, fun g hg => ?_⟩
 obtain ⟨z, hz, rfl⟩ := List.mem_map.1 hg
 have h4 := szG_mem hz
 have h5 := sizeR_recG fun r hr => (h.go z hz r hr).1
 exact ⟨by rw [List.length_map]; omega, by omega⟩
theorem PQ.dlt (h : PQ nm i b G q a f) (hi : i ≤ 130) : ∀ n ∈ bitsL q.ws 0, n < q.c.length ∧ n < 16384 := fun n hn => by
 have h1 := h.pr.lt n hn
 have h2 := h.cl
 exact ⟨h1, by omega⟩
theorem PQ.dsz (h : PQ nm i b G q a f) (hi : i ≤ 130) (hb : b ≤ 12000) : sizeR (recsD q.c (bitsL q.ws 0)) ≤ 12700 ∧ (bitsL q.ws 0).length ≤ 130 ∧ limR (recsD q.c (bitsL q.ws 0)) := by
 have h1 := sizeR_recG (g := grpD q.c (bitsL q.ws 0)) fun r hr => by
  obtain ⟨n, hn, rfl⟩ := List.mem_map.1 hr
  exact (h.dlt hi n hn).2
 rw [szg_grpD, ← recsD_eq] at h1
 have h2 : (grpD q.c (bitsL q.ws 0)).length = (bitsL q.ws 0).length := List.length_map _
 have h3 := h.sz
 have h4 := h.ct
 have h5 : (recsD q.c (bitsL q.ws 0)).length = (bitsL q.ws 0).length := List.length_map _
 exact ⟨by omega, by omega, by omega, by omega⟩
theorem PQ.comOk (h : PQ nm i b G q a f) (hi : i ≤ 125) (hb : b ≤ 12000) (hu : 0 ≤ f.now.used) (hn : nm.length ≤ 90) (hr : 14000 * ((i + 1 : Nat) : Int) ≤ f.room) : ComOk { a with down := recsD q.c (bitsL q.ws 0) } f i := by
 have hl := h.limG (by omega) hb
 obtain ⟨hd1, hd2, hd3⟩ := h.dsz (by omega) hb
 obtain ⟨hj, hs, hbd⟩ := AllF.now h.ji
 have hg := grpE_lim hd3
 have h1 := sizeG_gsP h.go
 have h2 := h.ct
 have h3 := h.sz
 have h4 := gsE_len2 hl.2
 have h5 := cnG_ge h.gn
 have h6 := hbd.us
 have h7 := hbd.nm
 have h8 := h.pd
 have h9 : (gsP G).length = G.length := List.length_map _
 have h10 := dec_len (show 0 < 10000 by decide)
 refine ⟨hj, by show a.gs.length ≤ 129; rw [h.gs]; omega, by show ∀ g ∈ a.gs, limR g; rw [h.gs]; exact hl.2, hd3, by show sizeG a.gs ≤ _; rw [h.gs]; omega, by show (gsE a.gs).length + _ ≤ _; rw [h.gs]; show _ + (grpE (recsD q.c (bitsL q.ws 0))).length ≤ _; omega, h.rm, ⟨hu, by show f.now.used + ((grpE (recsD q.c (bitsL q.ws 0))).length : Int) ≤ _; omega⟩, by omega, by omega, hbd.fresh, by show a.age < 10000; rw [h.ag]; decide, ?_⟩
 show a.name.length ≤ 100
 rw [h.an]
 unfold pjName
 rw [List.length_append, List.length_append]
 show nm.length + 2 + _ ≤ _
 omega
theorem PQ.up (h : PQ nm i b G q a f) {b' : Nat} (hb : b ≤ b') : PQ nm (i + 1) b' G q a f :=
 ⟨h.ji.mono (by omega) (Nat.le_succ i) (Nat.le_succ i), h.nh, h.an, h.ag, h.gs, h.kk, h.pr, h.wl, Nat.le_trans h.sz hb, Nat.le_succ_of_le h.ct, Nat.le_succ_of_le h.cl, Nat.le_succ_of_le h.kl, h.gn, h.go, h.xl, h.rm, Nat.le_succ_of_le h.pd⟩
theorem PQ.le (h : PQ nm i b G q a f) {b' : Nat} (hb : b ≤ b') : PQ nm i b' G q a f :=
 ⟨h.ji, h.nh, h.an, h.ag, h.gs, h.kk, h.pr, h.wl, Nat.le_trans h.sz hb, h.ct, h.cl, h.kl, h.gn, h.go, h.xl, h.rm, h.pd⟩
theorem lay_mem {ws : List Nat} (hw : ws.length = 256) {n : Nat} (hn : n < 16384) (k : Nat) : k ∈ bitsL (ws.set (n / 64) (ws.getD (n / 64) 0 ||| 2 ^ (n % 64))) 0 ↔ k = n ∨ k ∈ bitsL ws 0 := mem_bits_set (by omega)
theorem PQ.lay (h : PQ nm i b G q a f) (hi : i ≤ 130) {n : Nat} (hn : n < q.c.length) (x : PE) (hx : x.2.length ≤ 100000) : PQ nm (i + 1) (b + x.2.length) G (layA q n x) a f := by
 have hcl := h.cl
 have hm := lay_mem h.wl (n := n) (by omega)
 have h0 := h.up (Nat.le_add_right b x.2.length)
 obtain ⟨h1, h2⟩ := szD_add (cur := q.c) (cur' := q.c.set n x) (x := x) (bitsL_nodup q.ws 0) (bitsL_nodup _ 0) hm (by rw [getD_set _ _ _ _ _ hn, if_pos rfl]) (fun k hk _ => by rw [getD_set _ _ _ _ _ hn, if_neg hk])
 have h3 := h.sz
 have h4 := h.ct
 have hlc : (layA q n x).c = q.c.set n x := rfl
 have hws : (layA q n x).ws = q.ws.set (n / 64) (q.ws.getD (n / 64) 0 ||| 2 ^ (n % 64)) := rfl
 refine ⟨h0.ji, h0.nh, h0.an, h0.ag, h0.gs, h0.kk, h.pr.set hn x hm, by show (List.set _ _ _).length = _; rw [List.length_set]; exact h.wl, by rw [hlc, hws]; omega, by rw [hws]; omega, by show (q.c.set n x).length ≤ _; rw [List.length_set]; omega, h0.kl, h0.gn, h0.go, ⟨fun y hy => ?_, h.xl.2⟩, h0.rm, h0.pd⟩
 rcases List.mem_or_eq_of_mem_set hy with hy | rfl
 ·exact h.xl.1 y hy
 ·exact hx
theorem PQ.push (h : PQ nm i b G q a f) (hi : i ≤ 130) : PQ nm (i + 1) b G (layA { q with c := q.c ++ [PE0] } q.c.length (true, [])) a f := by
 have hcl := h.cl
 have hm := lay_mem h.wl (n := q.c.length) (by omega)
 have h0 := h.up (Nat.le_refl b)
 have hset : (q.c ++ [PE0]).set q.c.length (true, []) = q.c ++ [(true, [])] := by
  rw [List.set_append_right _ _ (Nat.le_refl _), Nat.sub_self]
  rfl
 have e : (layA { q with c := q.c ++ [PE0] } q.c.length (true, [])).c = q.c ++ [(true, [])] := hset
 obtain ⟨h1, h2⟩ := szD_add (cur := q.c) (cur' := q.c ++ [(true, [])]) (x := (true, [])) (bitsL_nodup q.ws 0) (bitsL_nodup _ 0) hm (by rw [List.getD_eq_getElem?_getD, List.getElem?_append_right (Nat.le_refl _), Nat.sub_self]; rfl) (fun k hk hkD => by
  have h9 := h.pr.lt k hkD
  rw [List.getD_eq_getElem?_getD, List.getD_eq_getElem?_getD, List.getElem?_append_left h9])
 have h3 := h.sz
 have h4 := h.ct
 have h5 : (([] : List UInt8)).length = 0 := rfl
 have hws : (layA { q with c := q.c ++ [PE0] } q.c.length (true, [])).ws = q.ws.set (q.c.length / 64) (q.ws.getD (q.c.length / 64) 0 ||| 2 ^ (q.c.length % 64)) := rfl
 simp only at h1
 refine ⟨h0.ji, h0.nh, h0.an, h0.ag, h0.gs, h0.kk, by rw [e]; exact h.pr.push _ hm, by show (List.set _ _ _).length = _; rw [List.length_set]; exact h.wl, by rw [e, hws]; omega, by rw [hws]; omega, by rw [e, List.length_append, List.length_singleton]; omega, h0.kl, h0.gn, h0.go, ⟨fun y hy => ?_, h.xl.2⟩, h0.rm, h0.pd⟩
 rw [e] at hy
 rcases List.mem_append.1 hy with hy | hy
 ·exact h.xl.1 y hy
 ·rw [List.mem_singleton.1 hy]
  exact Nat.zero_le _
theorem PQ.new (h : PQ nm i b G q a f) (hi : i ≤ 130) : PQ nm (i + 1) b G (newA q) a f := by
 rcases Nat.lt_or_ge (freeI q.c) q.c.length with h1 | h1
 ·rw [newA_lt h1]
  exact h.lay hi h1 (true, []) (Nat.zero_le _)
 ·have h2 : freeI q.c = q.c.length := Nat.le_antisymm List.findIdx_le_length h1
  rw [newA_ge h2]
  exact h.push hi
theorem PQ.put (h : PQ nm i b G q a f) (hi : i ≤ 130) (n : Int) (xs : List UInt8) (hx : xs.length ≤ 100000) : PQ nm (i + 1) (b + xs.length) G (putA q n xs) a f := by
 unfold putA
 split
 ·rename_i he
  have hh : hasB q.c n = true := by
   unfold putE at he
   split at he
   ·cases he
   ·split at he
    ·rename_i h9; exact h9
    ·cases he
  exact h.lay hi (hasB_b hh).2.1 (true, xs) hx
 ·exact h.up (Nat.le_add_right _ _)
theorem PQ.free (h : PQ nm i b G q a f) (hi : i ≤ 130) (n : Int) : PQ nm (i + 1) b G (frA q n) a f := by
 unfold frA
 split
 ·rename_i he
  have hh : hasB q.c n = true := by
   unfold frE at he
   split at he
   ·cases he
   ·split at he
    ·rename_i h9; exact h9
    ·cases he
  exact h.lay hi (hasB_b hh).2.1 PE0 (Nat.zero_le _)
 ·exact h.up (Nat.le_refl _)
theorem szD_nil (c : List PE) : szD c [] = 0 := rfl
theorem PQ.drop (h : PQ nm i b G q a f) : PQ nm (i + 1) b G { q with c := q.k, ws := List.replicate 256 0 } a f := by
 have h0 := h.up (Nat.le_refl b)
 have hsz := h0.sz
 have hct := h0.ct
 refine ⟨h0.ji, h0.nh, h0.an, h0.ag, h0.gs, h0.kk, by show PR q.k q.k (bitsL (List.replicate 256 0) 0); rw [bits_rep]; exact PR.refl _, List.length_replicate .., by show szG G + szD q.k (bitsL (List.replicate 256 0) 0) ≤ b; rw [bits_rep, szD_nil]; omega, by show cnG G + (bitsL (List.replicate 256 0) 0).length ≤ _; rw [bits_rep]; show cnG G + 0 ≤ _; omega, h0.kl, h0.kl, h0.gn, h0.go, ⟨h.xl.2, h.xl.2⟩, h0.rm, h0.pd⟩
theorem PQ.crash (h : PQ nm i b G q a f) (k : Int) : PQ nm (i + 1) b G { q with c := q.k, ws := List.replicate 256 0 } a (crashF f k) := by
 have h1 := h.drop
 exact ⟨AllF.crash h1.ji k, AllF.crash h1.nh k, h1.an, h1.ag, h1.gs, h1.kk, h1.pr, h1.wl, h1.sz, h1.ct, h1.cl, h1.kl, h1.gn, h1.go, h1.xl, h1.rm, Nat.zero_le _⟩
theorem PQ.fuse (h : PQ nm i b G q a f) (n : Int) : PQ nm i b G q a (fuseF f n) := ⟨h.ji, h.nh, h.an, h.ag, h.gs, h.kk, h.pr, h.wl, h.sz, h.ct, h.cl, h.kl, h.gn, h.go, h.xl, h.rm, h.pd⟩
theorem pj_ne (nm : List UInt8) (p : Nat) : fileN (pjName nm) 0 p ≠ nm := fun h => by
 have := congrArg List.length h
 unfold fileN pjName at this
 simp only [List.length_append, List.length_cons] at this
 omega
theorem nh_do {s : AS} (h : alook s.nm nm = none) (hn : a.name = pjName nm) (ha : a.age = 0) (id : Nat) : alook (doA s (comT a id)).nm nm = none := by
 unfold comT
 split
 ·show alook (writeA s _ _ id).nm nm = none
  rw [alook_write, if_neg (by rw [hn, ha]; exact pj_ne nm 0)]
  exact h
 ·show alook (appA s _ _).nm nm = none
  rw [alook_appA]
  exact h
theorem nh_com (h : AllF (fun s => alook s.nm nm = none) f) (hn : a.name = pjName nm) (ha : a.age = 0) (id : Nat) : AllF (fun s => alook s.nm nm = none) (comA a f id) := by
 have hs : AllF (fun s => alook s.nm nm = none) (stepF f (comT a id)) := h.step (nh_do h.now hn ha id)
 unfold comA
 repeat' split
 all_goals first | exact h | exact hs | exact AllF.sync hs.now
theorem PQ.com (h : PQ nm i b G q a f) (hi : i ≤ 125) (hb : b ≤ 12000) (hD : bitsL q.ws 0 ≠ []) (he : comE { a with down := recsD q.c (bitsL q.ws 0) } f i = 0) : PQ nm (i + 1) b (G ++ [grpD q.c (bitsL q.ws 0)]) ⟨q.c, q.c, List.replicate 256 0, q.dead⟩ (aftJ { a with down := recsD q.c (bitsL q.ws 0) } f i) (comA { a with down := recsD q.c (bitsL q.ws 0) } f i) := by
 obtain ⟨hd1, hd2, hd3⟩ := h.dsz (by omega) hb
 have hg := grpE_lim hd3
 have hdn : recsD q.c (bitsL q.ws 0) ≠ [] := fun e => hD (List.eq_nil_of_length_eq_zero (by
  have h9 : (recsD q.c (bitsL q.ws 0)).length = (bitsL q.ws 0).length := List.length_map _
  rw [← h9, e]
  rfl))
 have h0 := comA_room { a with down := recsD q.c (bitsL q.ws 0) } f i
 have hj0 : JI (14000 * (i : Int)) i i { a with down := recsD q.c (bitsL q.ws 0) } f := h.ji
 have h1 : JI (14000 * ((i + 1 : Nat) : Int)) (i + 1) (i + 1) (comJ { a with down := recsD q.c (bitsL q.ws 0) } f i) (comA { a with down := recsD q.c (bitsL q.ws 0) } f i) := (hj0.com he).mono (by show _ + ((grpE (recsD q.c (bitsL q.ws 0))).length : Int) ≤ _; omega) (Nat.le_refl _) (Nat.le_refl _)
 have e1 : aftJ { a with down := recsD q.c (bitsL q.ws 0) } f i = comJ { a with down := recsD q.c (bitsL q.ws 0) } f i := by unfold aftJ; rw [if_pos he]
 have e2 := comJ_0 he
 rw [if_neg hdn] at e2
 have hsz := h.sz
 have hct := h.ct
 have e3 : szG (G ++ [grpD q.c (bitsL q.ws 0)]) = szG G + szD q.c (bitsL q.ws 0) := by
  unfold szG
  rw [List.map_append, List.sum_append, ← szg_grpD]
  simp
 have e4 : cnG (G ++ [grpD q.c (bitsL q.ws 0)]) = cnG G + (bitsL q.ws 0).length := by
  unfold cnG grpD
  rw [List.map_append, List.sum_append]
  simp
 have hp := h.pd
 rw [e1]
 refine ⟨h1, nh_com h.nh (a := { a with down := recsD q.c (bitsL q.ws 0) }) h.an h.ag i, by rw [e2]; exact h.an, by rw [e2]; exact h.ag, ?_, ?_, ?_, List.length_replicate .., ?_, ?_, Nat.le_succ_of_le h.cl, Nat.le_succ_of_le h.cl, ?_, ?_, ⟨h.xl.1, h.xl.1⟩, by rw [h0.1]; exact h.rm, by omega⟩
 ·rw [e2]
  show a.gs ++ [recsD q.c (bitsL q.ws 0)] = _
  rw [h.gs, recsD_eq]
  unfold gsP
  rw [List.map_append]
  rfl
 ·show q.c = replay (G ++ [grpD q.c (bitsL q.ws 0)])
  rw [replay_snoc, ← h.kk]
  exact h.pr.replay.symm
 ·show PR q.c q.c (bitsL (List.replicate 256 0) 0)
  rw [bits_rep]
  exact PR.refl _
 ·show szG (G ++ [grpD q.c (bitsL q.ws 0)]) + szD q.c (bitsL (List.replicate 256 0) 0) ≤ b
  rw [bits_rep, szD_nil, e3]
  omega
 ·show cnG (G ++ [grpD q.c (bitsL q.ws 0)]) + (bitsL (List.replicate 256 0) 0).length ≤ _
  rw [bits_rep, e4]
  show _ + 0 ≤ _
  omega
 ·intro g hg9
  rcases List.mem_append.1 hg9 with hg9 | hg9
  ·exact h.gn g hg9
  ·rw [List.mem_singleton.1 hg9]
   unfold grpD
   intro e
   exact hD (List.map_eq_nil_iff.1 e)
 ·intro g hg9 r hr
  rcases List.mem_append.1 hg9 with hg9 | hg9
  ·exact h.go g hg9 r hr
  ·rw [List.mem_singleton.1 hg9] at hr
   obtain ⟨n, hn, rfl⟩ := List.mem_map.1 hr
   exact ⟨(h.dlt (by omega) n hn).2, getD_len _ _ h.xl.1⟩
theorem PQ.new0 {nm : List UInt8} {room : Int} (h : room ≤ 1073741824) : PQ nm 0 0 [] ⟨[], [], List.replicate 256 0, false⟩ ⟨pjName nm, 0, [], [], false⟩ (AF0 room) := by
 refine ⟨JI.new, AllF.new rfl, rfl, rfl, rfl, rfl, ?_, List.length_replicate .., ?_, ?_, Nat.le_refl _, Nat.le_refl _, (fun g hg => by cases hg), (fun g hg => by cases hg), ⟨(fun x hx => by cases hx), (fun x hx => by cases hx)⟩, h, Nat.le_refl _⟩
 ·show PR [] [] (bitsL (List.replicate 256 0) 0)
  rw [bits_rep]
  exact PR.refl _
 ·show szG [] + szD [] (bitsL (List.replicate 256 0) 0) ≤ 0
  rw [bits_rep]
  exact Nat.le_refl _
 ·show cnG [] + (bitsL (List.replicate 256 0) 0).length ≤ 0
  rw [bits_rep]
  exact Nat.le_refl _
theorem PQ.openNow (h : PQ nm i b G q a f) : alook f.now.nm nm = none ∧ JS (pjName nm) 0 (gsP G) f.now := by
 refine ⟨h.nh.now, ?_⟩
 have h9 := (AllF.now h.ji).1
 rw [h.an, h.ag, h.gs] at h9
 exact h9
end Go.Proofs.YtfebkkmmagbnlaaGreatDoor
/-! Pg12 -/
namespace Go.Proofs.YtfebkkmmagbnlaaGreatDoor
open Go Go.Sx
set_option maxRecDepth 100000
set_option maxHeartbeats 4000000
set_option linter.unusedVariables false
set_option linter.unusedSimpArgs false
attribute [local irreducible] J JQ QS Con W opW
open Go.MapKept Go.WideMaps Go.Maps
attribute [local irreducible] sum gsE headE fileN contA readE grpE fillE
theorem PAb.ext' {x y : PAb} (h1 : x.c = y.c) (h2 : x.k = y.k) (h3 : x.ws = y.ws) (h4 : x.dead = y.dead) : x = y := by
 cases x
 cases y
 simp only at h1 h2 h3 h4
 subst h1 h2 h3 h4
 rfl
structure ComQ (nm : List UInt8) (i b : Nat) (q : PAb) (p : PM) (j : JM) (r : FR) (p' : PM) (j' : JM) (r' : FR) (f' : AF) : Prop where
 ok : p'.Ok
 sm : PM.Same p p'
 q : ∃ (G' : List (List (Nat × PE))) (q' : PAb) (a' : JA), PQ nm (i + 1) b G' q' a' f' ∧ p'.ab = q' ∧ q'.c = q.c ∧ q'.k = q.c ∧ bitsL q'.ws 0 = [] ∧ q'.dead = false ∧ j'.Ok a' ∧ a'.dead = false
 ro : r'.Ok f'
 gj : j'.gj = j.gj
 fp : j'.fp = j.fp
 gf : r'.gf = r.gf
theorem PQ.same {nm : List UInt8} {i b : Nat} {G : List (List (Nat × PE))} {q : PAb} {a : JA} {f : AF} (h : PQ nm i b G q a f) (hD : bitsL q.ws 0 = []) : q.k = q.c := by
 have h1 := h.pr
 rw [hD] at h1
 refine ext_getD ?_ fun m => ?_
 ·have h2 := h1.ll
  rcases Nat.lt_or_ge q.k.length q.c.length with h3 | h3
  ·have := (h1.eq q.k.length h3 (by simp)).1
   omega
  ·omega
 ·rcases Nat.lt_or_ge m q.c.length with h2 | h2
  ·exact (h1.eq m h2 (by simp)).2
  ·have h3 := h1.ll
   rw [List.getD_eq_getElem?_getD, List.getD_eq_getElem?_getD, List.getElem?_eq_none (by omega), List.getElem?_eq_none h2]
theorem pcomF_con (p : PM) (j : JM) (r : FR) (nm : List UInt8) (i b : Nat) (G : List (List (Nat × PE))) (q : PAb) (a : JA) (f : AF) (w : World) (hq : PQ nm i b G q a f) (hpq : p.ab = q) (hok : p.Ok) (hj : j.Ok a) (hr : r.Ok f) (hjp : p.jp = j.ptr) (hfp : j.fp = r.ptr) (hd : a.dead = false) (hqd : q.dead = false) (hfu : f.fused = false) (hi : i ≤ 125) (hb : b ≤ 12000) (hn : nm.length ≤ 90) (hrm : 14000 * ((i + 1 : Nat) : Int) ≤ f.room) (hP : P10 w) (hT : TB w) (h0 : 0 ∉ dom (p.heap ++ (j.heap ++ r.heap))) (h1 : 1 ∉ dom (p.heap ++ (j.heap ++ r.heap))) :
  Con Tryz.prog 16 [p.ptr] w (p.heap ++ (j.heap ++ r.heap)) fun u S' => u = .int .i64 0 ∧ ∃ (p' : PM) (j' : JM) (r' : FR) (f' : AF), S' = [p'.heap, j'.heap, r'.heap] ∧ ComQ nm i b q p j r p' j' r' f' ∧ f'.fused = false ∧ f'.room = f.room := by
 subst hpq
 have hpd : p.dead = false := hqd
 by_cases hD : bitsL p.ws 0 = []
 ·refine (pcom0_con p j a r f w hok hpd hD hT h0).mono fun u S' hu => ?_
  obtain ⟨h1, h2⟩ := hu
  exact ⟨h1, p, j, r, f, h2, ⟨hok, .refl p, ⟨G, p.ab, a, hq.up (Nat.le_refl _), rfl, rfl, hq.same hD, hD, hpd, hj, hd⟩, hr, rfl, rfl, rfl⟩, hfu, rfl⟩
 ·have he : comE { a with down := recsD p.c (bitsL p.ws 0) } f i = 0 := comE_no hd hfu
  obtain ⟨hd1, hd2, hd3⟩ := hq.dsz (by omega) hb
  have hdl := hq.dlt (by omega)
  refine (pcom1_con p j a r f w hok i hj hr hjp hfp hpd hd hD (fun n hn9 => by rw [← c_len]; exact (hdl n hn9).1) (Nat.le_trans hd1 (by decide)) hd2 (hq.comOk hi hb (used_pos hr) hn hrm) hP hT h0 h1).mono fun u S' hu => ?_
  obtain ⟨hu1, p', j', r', hu2, hu3, hu4, hu5, hu6, hu7, hu8, hu9, hu10⟩ := hu
  rw [he] at hu1
  rw [if_pos he] at hu5
  have hc := hq.com hi hb hD he
  have hcr := comA_room { a with down := recsD p.c (bitsL p.ws 0) } f i
  have haj : (aftJ { a with down := recsD p.c (bitsL p.ws 0) } f i).dead = false := by
   unfold aftJ
   rw [if_pos he, comJ_0 he]
   split
   ·exact hd
   ·exact hd
  exact ⟨hu1, p', j', r', _, hu2, ⟨hu3, hu4, ⟨_, _, _, hc, hu5, rfl, rfl, bits_rep 256 0, hpd, hu6, haj⟩, hu7, hu8, hu9, hu10⟩, hcr.2.1.trans hfu, hcr.1⟩
abbrev Q0 : PAb := ⟨[], [], List.replicate 256 0, false⟩
theorem freeI_nil : freeI [] = 0 := rfl
theorem c_ab {p : PM} {q : PAb} (h : p.ab = q) : p.c = q.c := congrArg PAb.c h
theorem d_ab {p : PM} {q : PAb} (h : p.ab = q) : p.dead = q.dead := congrArg PAb.dead h
theorem cur_len {p : PM} {q : PAb} (h : p.ab = q) : p.cur.length = q.c.length := by rw [← c_len, c_ab h]
theorem new1_c : (newA Q0).c = [(true, [])] := by
 rw [newA_ge rfl]
 rfl
theorem putA_dead (q : PAb) (n : Int) (xs : List UInt8) : (putA q n xs).dead = q.dead := by unfold putA; split <;> rfl
theorem putA_k (q : PAb) (n : Int) (xs : List UInt8) : (putA q n xs).k = q.k := by unfold putA; split <;> rfl
theorem put1 {q : PAb} {ys : List UInt8} (hc : q.c = [(true, ys)]) (hd : q.dead = false) (xs : List UInt8) (hx : xs.length ≤ 512) : putE q 0 xs = 0 ∧ (putA q 0 xs).c = [(true, xs)] := by
 have h : putE q 0 xs = 0 := by
  unfold putE
  rw [hd, hc]
  simp [hasB, hx]
 refine ⟨h, ?_⟩
 unfold putA
 rw [if_pos h]
 show q.c.set 0 (true, xs) = _
 rw [hc]
 rfl
theorem known_con (w : World) (hP : P10 w) (hT : TB w) : Con Tryz.prog 8 [] w [] fun u _ => u = .bool true := by
 refine con_of_tree mix Tryz.func8 T8_ok (by kernel_rfl) ?_
 unfold T8
 refine j_q (qs_ac) ?_
 refine j_call0 ent9 rfl rfl rfl (fun w' hw' => newR_con 100000 w' (by decide) (by decide)) (fun u S2 hu => ?_)
 obtain ⟨r, rfl, rfl, hr⟩ := hu
 refine j_subl (S' := [r.heap]) (by repeat first | exact slR _ | exact slN _ | apply slC | apply slD) ?_
 refine j_q (qs_ext rfl rfl) ?_
 refine j_q (qs_ext rfl rfl) ?_
 have hq0 := PQ.new0 (nm := [112]) (room := 100000) (by decide)
 refine j_call0 ent10 rfl rfl rfl (fun w' hw' => popen_con r (AF0 100000) [112] [] w' (in_own hw' 0 rfl) hr (by decide) hq0.openNow.1 hq0.openNow.2 ⟨by decide, fun g hg => by cases hg⟩ (fun g hg => by cases hg) (hP.keep hw' (by simp))) (fun u S2 hu => ?_)
 obtain ⟨p0, j0, rfl, rfl, hp0, hpf0, hpn0, hpj0, hj0, hjf0, hab0⟩ := hu
 have hab0 : p0.ab = Q0 := hab0
 refine j_subl (S' := [p0.heap, j0.heap, r.heap]) (by repeat first | exact slR _ | exact slN _ | apply slC | apply slD) ?_
 refine j_q (qs_ext rfl rfl) ?_
 refine j_q (qs_ext rfl rfl) ?_
 refine j_q (qs_neq rfl rfl) ?_
 rw [show ((0 : Int) != 0) = false from rfl]
 refine j_gt rfl (qs_mt rfl) ?_
 refine j_gt rfl (qs_pnil U27 rfl) ?_
 refine j_q (v := .bool false) (qs_or (b0 := false) (b1 := false) rfl rfl) ?_
 refine j_cond rfl (fun hc0 => ?_) (fun hc0 => ?_)
 ·skip
  simp at hc0
 ·skip
  refine j_call 0 ent11 rfl rfl rfl rfl (fun w' hw' => pnew_con p0 w' hp0 (by rw [cur_len hab0]; decide)) (fun u S2 hu => ?_)
  obtain ⟨hu1, p1, rfl, hp1, hs1, hab1⟩ := hu
  rw [show p0.dead = false from d_ab hab0, hab0] at hab1
  rw [if_neg (by simp)] at hab1
  rw [show p0.dead = false from d_ab hab0, if_neg (by simp), show p0.c = [] from c_ab hab0, freeI_nil] at hu1
  subst hu1
  have hq1 := hq0.new (by decide)
  have hc1 : p1.c = [(true, [])] := (c_ab hab1).trans new1_c
  have hd1 : p1.dead = false := d_ab hab1
  refine j_subl (S' := [p1.heap, j0.heap, r.heap]) (by repeat first | exact slR _ | exact slN _ | apply slC | apply slD) ?_
  refine j_q (qs_ext rfl rfl) ?_
  refine j_q (qs_ext rfl rfl) ?_
  refine j_q (qs_neq rfl rfl) ?_
  rw [show (((0 : Nat) : Int) != 0) = false from rfl]
  refine j_gt rfl (qs_mt rfl) ?_
  refine j_gt rfl (qs_neq rfl rfl) ?_
  rw [show ((0 : Int) != 0) = false from rfl]
  refine j_q (v := .bool false) (qs_or (b0 := false) (b1 := false) rfl rfl) ?_
  refine j_gt rfl (qs_mt rfl) ?_
  refine j_ga rfl ?_
  refine j_lit (vs := [.int .u8 120]) U33 sz5 zero5 rfl (by simp [oneV]) ⟨rfl, by decide⟩ (fun g20 v20 c20 hv20 hc20 ho20 => ?_)
  subst hv20 hc20
  refine j_ga rfl ?_
  refine j_convsl 0 U33 U5 rfl rfl ?_
  have hf20 : Sx.Own 5 1 (ints [120]) (.slice (some ⟨g20, 0, none⟩) 1 1) [(g20, .cells (ints [120]).toArray 5 (1, 2))] := own_froz (xs := [120])
  rw [show p0.ptr = p1.ptr from by rw [PM.ptr, PM.ptr, hs1.g]]
  refine j_ga rfl ?_
  refine j_call 1 ent12 rfl rfl rfl rfl (fun w' hw' => put_con p1 0 _ [120] w' hp1 (by decide) (own_br hf20 0 rfl hw') (sep_own hf20 (k := 0) (m := 1) rfl rfl (by decide) hw') (by decide)) (fun u S2 hu => ?_)
  obtain ⟨rfl, p2, rfl, hp2, hs2, hab2⟩ := hu
  have hpe := put1 (q := p1.ab) hc1 hd1 [120] (by decide)
  rw [hpe.1]
  have hq2 := hq1.put (by decide) 0 [120] (by decide)
  rw [← hab1] at hq2
  have hc2 : p2.c = [(true, [120])] := (c_ab hab2).trans hpe.2
  have hd2 : p2.dead = false := (d_ab hab2).trans ((putA_dead _ _ _).trans hd1)
  refine j_subl (S' := [p2.heap, j0.heap, r.heap]) (by repeat first | exact slR _ | exact slN _ | apply slC | apply slD) ?_
  refine j_gt rfl (qs_neq rfl rfl) ?_
  rw [show ((0 : Int) != 0) = false from rfl]
  refine j_q (v := .bool false) (qs_or (b0 := false) (b1 := false) rfl rfl) ?_
  refine j_gt rfl (qs_mt rfl) ?_
  rw [← hab2] at hq2
  rw [show p1.ptr = p2.ptr from by rw [PM.ptr, PM.ptr, hs2.g]]
  refine j_ga rfl ?_
  refine j_perm (S' := [p2.heap ++ (j0.heap ++ r.heap)]) (by
   classical
   refine List.perm_iff_count.2 fun x => ?_
   simp only [List.set, List.flatten_cons, List.flatten_nil, List.append_nil, List.nil_append, List.cons_append, List.count_append, List.count_cons, List.count_nil]
   all_goals omega) ?_
  refine j_call 0 ent16 rfl rfl rfl rfl (fun w' hw' => pcomF_con p2 j0 r _ _ _ _ _ _ (AF0 100000) w' hq2 rfl hp2 hj0 hr (hs2.jp.trans (hs1.jp.trans hpj0)) hjf0 rfl hd2 rfl (by decide) (by decide) (by decide) (by decide) (hP.keep hw' (by simp)) (hT.keep hw' (by simp)) (out_gen hw' hT.1 (by simp) (k := 0) rfl) (out_gen hw' hP.1 (by simp) (k := 0) rfl)) (fun u S2 hu => ?_)
  obtain ⟨rfl, p3, j1, r1, f1, rfl, ⟨hp3, hs3, ⟨G3, q3, a3, hq3, hab3, hqc3, hqk3, hqb3, hqd3, hj3, had3⟩, hr3, hgj3, hfp3, hgf3⟩, hfu3, hrm3⟩ := hu
  have hc3 : p3.c = [(true, [120])] := (c_ab hab3).trans (hqc3.trans hc2)
  have hd3 : p3.dead = false := (d_ab hab3).trans hqd3
  refine j_subl (S' := [p3.heap, j1.heap, r1.heap]) (by repeat first | exact slR _ | exact slN _ | apply slC | apply slD) ?_
  refine j_gt rfl (qs_neq rfl rfl) ?_
  rw [show ((0 : Int) != 0) = false from rfl]
  refine j_q (v := .bool false) (qs_or (b0 := false) (b1 := false) rfl rfl) ?_
  refine j_gt rfl (qs_mt rfl) ?_
  refine j_ga rfl ?_
  refine j_lit (vs := [.int .u8 121]) U33 sz5 zero5 rfl (by simp [oneV]) ⟨rfl, by decide⟩ (fun g30 v30 c30 hv30 hc30 ho30 => ?_)
  subst hv30 hc30
  refine j_ga rfl ?_
  refine j_convsl 0 U33 U5 rfl rfl ?_
  have hf30 : Sx.Own 5 1 (ints [121]) (.slice (some ⟨g30, 0, none⟩) 1 1) [(g30, .cells (ints [121]).toArray 5 (1, 2))] := own_froz (xs := [121])
  rw [show p2.ptr = p3.ptr from by rw [PM.ptr, PM.ptr, hs3.g]]
  refine j_ga rfl ?_
  refine j_call 1 ent12 rfl rfl rfl rfl (fun w' hw' => put_con p3 0 _ [121] w' hp3 (by decide) (own_br hf30 0 rfl hw') (sep_own hf30 (k := 0) (m := 1) rfl rfl (by decide) hw') (by decide)) (fun u S2 hu => ?_)
  obtain ⟨rfl, p4, rfl, hp4, hs4, hab4⟩ := hu
  rw [(put1 (q := p3.ab) hc3 hd3 [121] (by decide)).1]
  refine j_subl (S' := [p4.heap]) (by repeat first | exact slR _ | exact slN _ | apply slC | apply slD) ?_
  refine j_gt rfl (qs_neq rfl rfl) ?_
  rw [show ((0 : Int) != 0) = false from rfl]
  refine j_q (v := .bool false) (qs_or (b0 := false) (b1 := false) rfl rfl) ?_
  refine j_cond rfl (fun hc1 => ?_) (fun hc1 => ?_)
  ·skip
   simp at hc1
  ·skip
   rw [show p3.ptr = p4.ptr from by rw [PM.ptr, PM.ptr, hs4.g]]
   refine j_call 0 ent17 rfl rfl rfl rfl (fun w' hw' => pdrop_con p4 w' hp4.o) (fun u S2 hu => ?_)
   obtain ⟨rfl, vd, cd, rfl, hp5⟩ := hu
   obtain ⟨p5, hp5e⟩ : ∃ x, x = p4.drop vd cd := ⟨_, rfl⟩
   rw [← hp5e] at hp5 ⊢
   have hc5 : p5.c = [(true, [120])] := by
    rw [hp5e]
    show p4.k = _
    have h9 : p4.k = p3.k := (congrArg PAb.k hab4).trans (putA_k _ _ _)
    rw [h9]
    exact (congrArg PAb.k hab3).trans (hqk3.trans hc2)
   rw [show p4.ptr = p5.ptr from by rw [hp5e]; rfl]
   refine j_subl (S' := [p5.heap]) (by repeat first | exact slR _ | exact slN _ | apply slC | apply slD) ?_
   refine j_call0 ent14 rfl rfl rfl (fun w' hw' => get_con p5 0 w' (in_own hw' 0 rfl) hp5.o (by decide)) (fun u S2 hu => ?_)
   obtain ⟨v37, c37, rfl, rfl, ho37⟩ := hu
   rw [hc5, show hasB [(true, [120])] 0 = true from rfl, if_pos rfl] at ho37
   rw [hc5, show hasB [(true, [120])] 0 = true from rfl, if_pos rfl]
   refine j_q (qs_ext (vs := [v37, .int .i64 0]) rfl rfl) ?_
   refine j_q (qs_ext (vs := [v37, .int .i64 0]) rfl rfl) ?_
   refine j_q (qs_eql rfl rfl) ?_
   rw [show ((0 : Int) == 0) = true from rfl]
   refine j_gt rfl (qs_mt rfl) ?_
   refine j_ga rfl ?_
   refine j_lit (vs := [.int .u8 120]) U33 sz5 zero5 rfl (by simp [oneV]) ⟨rfl, by decide⟩ (fun g42 v42 c42 hv42 hc42 ho42 => ?_)
   subst hv42 hc42
   refine j_ga rfl ?_
   refine j_convsl 0 U33 U5 rfl rfl ?_
   have hf42 : Sx.Own 5 1 (ints [120]) (.slice (some ⟨g42, 0, none⟩) 1 1) [(g42, .cells (ints [120]).toArray 5 (1, 2))] := own_froz (xs := [120])
   refine j_gt rfl (qs_call ent25 rfl rfl rfl (fun w' hw' => same_con [120] [120] _ _ w' (own_br ho37 1 rfl hw') (own_br hf42 0 rfl hw') (by decide))) ?_
   rw [beq_self_eq_true]
   refine j_q (v := .bool true) (qs_and (b0 := true) (b1 := true) rfl rfl) ?_
   refine j_ret_con (vs := [_]) (fun w' hw' => ⟨rfl, trivial⟩) ?_
   rfl
end Go.Proofs.YtfebkkmmagbnlaaGreatDoor
/-! Pg13 -/
namespace Go.Proofs.YtfebkkmmagbnlaaGreatDoor
open Go Go.Sx
set_option maxRecDepth 100000
set_option maxHeartbeats 4000000
set_option linter.unusedVariables false
set_option linter.unusedSimpArgs false
attribute [local irreducible] J JQ QS Con W opW
open Go.MapKept Go.WideMaps Go.Maps
attribute [local irreducible] sum gsE headE fileN contA readE grpE fillE
abbrev pagesN : List UInt8 := [112, 97, 103, 101, 115]
theorem frA_dead (q : PAb) (n : Int) : (frA q n).dead = q.dead := by unfold frA; split <;> rfl
end Go.Proofs.YtfebkkmmagbnlaaGreatDoor
/-! Pg14 -/
namespace Go.Proofs.YtfebkkmmagbnlaaGreatDoor
open Go Go.Sx
set_option maxRecDepth 100000
set_option maxHeartbeats 4000000
set_option linter.unusedVariables false
set_option linter.unusedSimpArgs false
attribute [local irreducible] J JQ QS Con W opW
theorem row_formT {e : TypeId} {l : List PV} {v : Value} {c : SH} (h : Sx.Own e 2 ((l.map encP).flatten) v c) : ∃ A cap, v = .slice A l.length cap ∧ (0 < l.length → ∃ g, A = some ⟨g, 0, none⟩) := by
 rcases h with ⟨h1, h2, h3⟩ | ⟨g, n, cap, rest, fz, h1, h2, h3, h4, h5, h6⟩
 ·have h9 : (l.map encP).flatten.length = l.length * 2 := flat_len encP_len l
  rw [h2] at h9
  have h8 : l.length = 0 := by
   have : ([] : List Value).length = 0 := rfl
   omega
  exact ⟨none, 0, by rw [h1, h8], fun h => by omega⟩
 ·rw [flat_len encP_len l] at h3
  obtain rfl : n = l.length := by omega
  exact ⟨_, cap, h1, fun _ => ⟨g, rfl⟩⟩
theorem num_form {l : List Nat} {v : Value} {c : SH} (h : Sx.Own 3 1 (nums l) v c) : ∃ A cap, v = .slice A l.length cap ∧ (0 < l.length → ∃ g, A = some ⟨g, 0, none⟩) := by
 rcases h with ⟨h1, h2, h3⟩ | ⟨g, n, cap, rest, fz, h1, h2, h3, h4, h5, h6⟩
 ·have h9 : (nums l).length = l.length := nums_length l
  rw [h2] at h9
  have h8 : l.length = 0 := by
   have : ([] : List Value).length = 0 := rfl
   omega
  exact ⟨none, 0, by rw [h1, h8], fun h => by omega⟩
 ·rw [nums_length] at h3
  obtain rfl : n = l.length := by omega
  exact ⟨_, cap, h1, fun _ => ⟨g, rfl⟩⟩
theorem rnums_get {l : List Nat} {i : Nat} (h : i < l.length) : (nums l)[i]? = some (.int .i64 ((l.getD i 0 : Nat) : Int)) := by
 unfold nums
 rw [List.getElem?_map, List.getElem?_eq_getElem h, List.getD_eq_getElem?_getD, List.getElem?_eq_getElem h]
 rfl
structure QR where
 c : List PE
 k : List PE
 h : List Nat
def addH (l : List Nat) (n : Nat) : List Nat := if n ∈ l then l else l ++ [n]
structure RM where
 g : Nat
 lv : Value
 lc : SH
 cur : List PV
 kv : Value
 kc : SH
 last : List PV
 hv : Value
 hc : SH
 ch : List Nat
 P : SH
abbrev RM.ptr (z : RM) : Value := .pointer (some ⟨z.g, 0, none⟩)
abbrev RM.l (z : RM) : List Value := [z.lv, z.kv, z.hv]
abbrev RM.obj (z : RM) : Obj := .cells z.l.toArray 51 (0, 0)
def RM.heap (z : RM) : SH := (z.g, z.obj) :: (z.lc ++ (z.kc ++ (z.hc ++ z.P)))
def RM.c (z : RM) : List PE := z.cur.map PV.pe
def RM.k (z : RM) : List PE := z.last.map PV.pe
def RM.ab (z : RM) : QR := ⟨z.c, z.k, z.ch⟩
structure RM.Ok (z : RM) : Prop where
 cu : Sx.Own 105 2 ((z.cur.map encP).flatten) z.lv z.lc
 la : Sx.Own 105 2 ((z.last.map encP).flatten) z.kv z.kc
 hh : Sx.Own 3 1 (nums z.ch) z.hv z.hc
 pc : ∀ x ∈ z.cur, PVok z.P x
 pl : ∀ x ∈ z.last, PVok z.P x
 nl : z.cur.length ≤ 16384 ∧ z.last.length ≤ 16384
theorem perm_rm (z : RM) : z.heap.Perm ([[(z.g, z.obj)], z.lc, z.kc, z.hc, z.P] : List SH).flatten := by simp [RM.heap]
theorem RM.in_o {z : RM} {w : World} (h : In w z.heap) : w.heap[z.g]? = some z.obj := h (z.g, z.obj) (List.mem_cons_self ..)
theorem RM.cells {z : RM} {w : World} (h : In w z.heap) : Cells w ⟨z.g, 0, none⟩ z.l := fun j u hj => by
 rw [add_off, Nat.zero_add, cell_of (RM.in_o h)]
 exact hj
theorem RM.in_l {z : RM} {w : World} (h : In w z.heap) : In w z.lc := fun q hq => h q (List.mem_cons_of_mem _ (List.mem_append_left _ hq))
theorem RM.in_P {z : RM} {w : World} (h : In w z.heap) : In w z.P := fun q hq => h q (List.mem_cons_of_mem _ (List.mem_append_right _ (List.mem_append_right _ (List.mem_append_right _ hq))))
theorem rc_len (z : RM) : z.c.length = z.cur.length := List.length_map _
theorem rc_get (z : RM) {i : Nat} (h : i < z.cur.length) : z.c.getD i PE0 = (z.cur.getD i PV0).pe := by
 unfold RM.c
 rw [List.getD_eq_getElem?_getD, List.getElem?_map, List.getElem?_eq_getElem h, List.getD_eq_getElem?_getD, List.getElem?_eq_getElem h]
 rfl
def RM.setH (z : RM) (v : Value) (c : SH) (ch : List Nat) : RM := { z with hv := v, hc := c, ch := ch }
def RM.setC (z : RM) (v : Value) (c : SH) (l : List PV) : RM := { z with lv := v, lc := c, cur := l }
theorem setH_ok {z : RM} (h : z.Ok) {v : Value} {c : SH} {ch : List Nat} (ho : Sx.Own 3 1 (nums ch) v c) : (z.setH v c ch).Ok := ⟨h.cu, h.la, ho, h.pc, h.pl, h.nl⟩
theorem setC_ok {z : RM} (h : z.Ok) {v : Value} {c : SH} {l : List PV} (ho : Sx.Own 105 2 ((l.map encP).flatten) v c) (hp : ∀ x ∈ l, PVok z.P x) (hl : l.length ≤ 16384) : (z.setC v c l).Ok := ⟨ho, h.la, h.hh, hp, h.pl, hl, h.nl.2⟩
theorem set_pv {P : SH} {l : List PV} (h : ∀ x ∈ l, PVok P x) {n : Nat} {y : PV} (hy : PVok P y) : ∀ x ∈ l.set n y, PVok P x := fun x hx => by
 rcases List.mem_or_eq_of_mem_set hx with hx | rfl
 ·exact h x hx
 ·exact hy
theorem take_pe (l : List PV) {i : Nat} (h : i < l.length) : (l.take (i + 1)).map PV.pe = (l.take i).map PV.pe ++ [(l.getD i PV0).pe] := by
 rw [List.take_add_one, List.getElem?_eq_getElem h, List.getD_eq_getElem?_getD, List.getElem?_eq_getElem h, List.map_append]
 rfl
theorem rchg_con (z : RM) (n : Nat) (w : World) (hok : z.Ok) (hl : z.ch.length ≤ 1000) : Con Tryz.prog 80 [z.ptr, .int .i64 (n : Int)] w z.heap fun u S' => u = .tuple #[] ∧ ∃ v c, S' = [(z.setH v c (addH z.ch n)).heap] ∧ (z.setH v c (addH z.ch n)).Ok := by
 refine con_of_tree mix Tryz.func80 T80_ok (by kernel_rfl) ?_
 unfold T80
 obtain ⟨A, cap, hcv, hA⟩ := num_form hok.hh
 have hrow0 := hok.hh
 rw [hcv] at hrow0
 refine j_perm (S' := [[(z.g, z.obj)], z.lc, z.kc, z.hc, z.P]) (by simpa using perm_rm z) ?_
 refine j_q (qs_ac) ?_
 refine j_loop (fun m vs S' => ∃ i : Nat, vs = [.int .i64 (i : Int)] ∧ S' = [[(z.g, z.obj)], z.lc, z.kc, z.hc, z.P] ∧ i ≤ z.ch.length ∧ (∀ t, t < i → z.ch.getD t 0 ≠ n) ∧ m = z.ch.length - i) ⟨_, 0, rfl, rfl, Nat.zero_le _, (fun t ht => by omega), rfl⟩ ?_
 rintro m vs S' hlen ⟨i, rfl, rfl, hi, hne, rfl⟩
 refine j_q (qs_nil rfl) ?_
 refine j_q (qs_field U51 rfl sz49 (by decide) rfl) ?_
 refine j_q (qs_load (l := z.l) (v := .slice A z.ch.length cap) 0 U49 rfl rfl rfl (by rw [← hcv]; rfl)) ?_
 refine j_q (qs_lenl (n := z.ch.length) (A := A) (c := cap) U49 rfl) ?_
 refine j_q (qs_lss rfl rfl) ?_
 refine j_cond rfl (fun hc0 => ?_) (fun hc0 => ?_)
 ·skip
  have hi1 : i < z.ch.length := by
   simp only [bnA] at *
   omega
  obtain ⟨g, hg⟩ := hA (by omega)
  have hrow := hrow0
  rw [hg] at hrow
  obtain ⟨e, he⟩ : ∃ e, e = z.ch.getD i 0 := ⟨_, rfl⟩
  refine j_q (qs_nil rfl) ?_
  refine j_q (qs_field U51 rfl sz49 (by decide) rfl) ?_
  refine j_q (qs_load (l := z.l) (v := .slice A z.ch.length cap) 0 U49 rfl rfl rfl (by rw [← hcv]; rfl)) ?_
  refine j_q (qs_ixl0 (a := ⟨g, 0, none⟩) (n := z.ch.length) (c := cap) U49 sz3 (by rw [← hg]; rfl) rfl (by omega)) ?_
  refine j_q (qs_loadR (v := .int .i64 ((e : Nat) : Int)) (a := ⟨g, 0, none⟩) (i := i) (own_rd hrow 3 rfl) U3 rfl (by show Value.pointer (some (Addr.add ⟨g, 0, none⟩ (i : Int).toNat)) = _; rw [Int.toNat_natCast]) (by rw [rnums_get hi1, he])) ?_
  refine j_q (qs_eql rfl rfl) ?_
  refine j_cond rfl (fun hc1 => ?_) (fun hc1 => ?_)
  ·skip
   have hen : e = n := by
    simp only [bnA] at *
    omega
   refine j_perm (S' := [z.heap]) (by simpa using (perm_rm z).symm) ?_
   refine j_ret_con (vs := []) (fun w' hw' => trivial) ?_
   have hm : n ∈ z.ch := by
    rw [← hen, he]
    exact getD_mem hi1
   refine ⟨rfl, z.hv, z.hc, ?_, ?_⟩
   ·rw [addH, if_pos hm]
    rfl
   ·rw [addH, if_pos hm]
    exact hok
  ·skip
   have hen : e ≠ n := by
    simp only [bnA] at *
    omega
   refine j_q (qs_add64 rfl rfl (by first | omega | (simp only [bnA] at *; omega))) ?_
   refine j_back rfl ?_
   refine ⟨_, by omega, i + 1, rfl, rfl, hi1, fun t ht => ?_, rfl⟩
   rcases Nat.lt_or_ge t i with h | h
   ·exact hne t h
   ·obtain rfl : t = i := by omega
    rw [← he]
    exact hen
 ·skip
  have hi1 : i = z.ch.length := by
   simp only [bnA] at *
   omega
  refine j_q (qs_nil rfl) ?_
  refine j_q (qs_field U51 rfl sz49 (by decide) rfl) ?_
  refine j_q (qs_load 0 U49 rfl rfl rfl rfl) ?_
  refine j_lit (vs := [.int .i64 (n : Int)]) U49 sz3 zero3 rfl (by simp [oneV]) ⟨rfl, by decide⟩ (fun g16 v16 c16 hv16 hc16 ho16 => ?_)
  subst hv16 hc16
  refine j_append (xs := nums z.ch) (news := [.int .i64 (n : Int)]) 4 U49 U49 (.inr ⟨_, rfl⟩) sb3 zero3 rfl hok.hh rfl (.inl ⟨_, _, rfl, rd_own (off := 0) (n := 1) 0 rfl rfl, rfl⟩) (by simp [oneV]) ⟨(by simp [nums_length]; omega), (by decide)⟩ (fun v17 c17 ho17 => ?_)
  refine j_q (qs_nil rfl) ?_
  refine j_q (qs_field U51 rfl sz49 (by decide) rfl) ?_
  refine j_store (l := z.l) (i := 2) (v := v17) 1 sz49 rfl rfl (own_one ho17 (by decide)) rfl (by simp) (by simp) ?_
  refine j_subl (S' := [[(z.g, (z.setH v17 c17 (z.ch ++ [n])).obj)], z.lc, z.kc, c17, z.P]) (by repeat first | exact slR _ | exact slN _ | apply slC | apply slD) ?_
  refine j_perm (S' := [(z.setH v17 c17 (z.ch ++ [n])).heap]) (by simp [RM.heap, RM.setH]) ?_
  refine j_ret_con (vs := []) (fun w' hw' => trivial) ?_
  have hm : n ∉ z.ch := fun hm => by
   obtain ⟨t, ht, hte⟩ := List.mem_iff_getElem.1 hm
   refine hne t (by omega) ?_
   rw [List.getD_eq_getElem?_getD, List.getElem?_eq_getElem ht]
   exact hte
  refine ⟨rfl, v17, c17, ?_, ?_⟩
  ·rw [addH, if_neg hm]
  ·rw [addH, if_neg hm]
   exact setH_ok hok (by rw [nums_append]; exact ho17)
theorem rtaken_con (z : RM) (n : Int) (w : World) (hin : In w z.heap) (hok : z.Ok) (hn : -9223372036854775808 ≤ n ∧ n ≤ 9223372036854775807) : Con Tryz.prog 81 [z.ptr, .int .i64 n] w [] fun u _ => u = .bool (hasB z.c n) := by
 refine con_of_tree mix Tryz.func81 T81_ok (by kernel_rfl) ?_
 unfold T81
 obtain ⟨A, cap, hcv, hA⟩ := row_formT hok.cu
 obtain ⟨g, hg⟩ : ∃ g, 0 < z.cur.length → A = some ⟨g, 0, none⟩ := by
  rcases Nat.eq_zero_or_pos z.cur.length with h | h
  ·exact ⟨0, fun h2 => by omega⟩
  ·obtain ⟨g, hg⟩ := hA h
   exact ⟨g, fun _ => hg⟩
 have hbd : (decide (n ≥ 0) && decide (n < (z.cur.length : Int))) = true → 0 ≤ n ∧ n < (z.cur.length : Int) := fun h => by
  simp only [Bool.and_eq_true, decide_eq_true_eq] at h
  omega
 refine j_q (qs_ac) ?_
 refine j_q (qs_geq rfl rfl) ?_
 refine j_g rfl (fun hb => qs_mt rfl) ?_
 refine j_g rfl (fun hb => qs_mt rfl) ?_
 refine j_g rfl (fun hb => qs_nil (gd_eq hb)) ?_
 refine j_g rfl (fun hb => qs_field U51 rfl sz48 (by decide) (gd_eq hb)) ?_
 refine j_g rfl (fun hb => (qs_loadR (v := .slice A z.cur.length cap) (a := ⟨z.g, 0, none⟩) (i := 0) (vs := z.l) (rd_cells (RM.cells hin) (by simp)) U48 rfl (gd_eq hb) (by rw [← hcv]; rfl))) ?_
 refine j_g rfl (fun hb => qs_lenl U48 (gd_eq hb)) ?_
 refine j_g rfl (fun hb => qs_lss (gd_eq hb) (gd_eq hb)) ?_
 refine j_q (qs_and rfl rfl) ?_
 refine j_g rfl (fun hb => qs_mt rfl) ?_
 refine j_g rfl (fun hb => qs_nil (gd_eq hb)) ?_
 refine j_g rfl (fun hb => qs_field U51 rfl sz48 (by decide) (gd_eq hb)) ?_
 refine j_g rfl (fun hb => (qs_loadR (v := .slice A z.cur.length cap) (a := ⟨z.g, 0, none⟩) (i := 0) (vs := z.l) (rd_cells (RM.cells hin) (by simp)) U48 rfl (gd_eq hb) (by rw [← hcv]; rfl))) ?_
 refine j_g rfl (fun hb => qs_mt rfl) ?_
 refine j_g rfl (fun hb => qs_ixn (g := g) (off := 0) (n := z.cur.length) (c := cap) (i := n.toNat) U48 sz105 (by have h8 := hg (by have h9 := hbd hb; omega); rw [← h8]; exact gd_eq hb) (by rw [Int.toNat_of_nonneg (hbd hb).1]; exact gd_eq hb) (by have h9 := hbd hb; omega)) ?_
 refine j_g rfl (fun hb => qs_field U105 rfl sz4 (by decide) (gd_eq hb)) ?_
 refine j_g (v := .bool (z.cur.getD n.toNat PV0).t) rfl (fun hb => by
  have h9 := hbd hb
  have hrow := hok.cu
  rw [hcv, hg (by omega)] at hrow
  exact qs_loadR (a := ⟨g, 0, none⟩) (i := n.toNat * 2 + 0) (rd_cells (own_cellsN hrow (RM.in_l hin)) (by simp)) U4 rfl ((gd_eq hb).trans (congrArg (fun z => Value.pointer (some z)) (off2 g n.toNat 0))) (pv_get (by omega) rfl)) ?_
 refine j_q (qs_and rfl rfl) ?_
 refine j_ret_con (vs := [_]) (fun w' hw' => ⟨rfl, trivial⟩) ?_
 unfold hasB
 rw [rc_len]
 by_cases h1 : 0 ≤ n
 ·by_cases h2 : n < (z.cur.length : Int)
  ·rw [rc_get z (by omega)]
   simp [h1, h2, gd, PV.pe] <;> rfl
  ·simp [h1, h2, gd] <;> rfl
 ·simp [h1, gd] <;> rfl
theorem rclone_con (l : List PV) (v : Value) (c P : SH) (w : World) (hown : Sx.Own 105 2 ((l.map encP).flatten) v c) (hp : ∀ x ∈ l, PVok P x) (hc : In w c) (hP : In w P) (hl : l.length ≤ 16384) : Con Tryz.prog 53 [v] w [] fun u S' => ∃ (l' : List PV) (c' P' : SH), S' = [c', P'] ∧ Sx.Own 105 2 ((l'.map encP).flatten) u c' ∧ (∀ x ∈ l', PVok P' x) ∧ l'.map PV.pe = l.map PV.pe := by
 refine con_of_tree mix Tryz.func53 T53_ok (by kernel_rfl) ?_
 unfold T53
 obtain ⟨A, cap, hcv, hA⟩ := row_formT hown
 subst hcv
 refine j_perm (S' := [[], []]) (by simp) ?_
 refine j_q (qs_ac) ?_
 refine j_q (qs_ac) ?_
 refine j_q (qs_ac) ?_
 refine j_loop (fun m vs S' => ∃ (i : Nat) (out : List PV) (vo : Value) (co P2 : SH), vs = [vo, .int .i64 (i : Int)] ∧ S' = [co, P2] ∧ Sx.Own 105 2 ((out.map encP).flatten) vo co ∧ (∀ x ∈ out, PVok P2 x) ∧ out.map PV.pe = (l.take i).map PV.pe ∧ i ≤ l.length ∧ m = l.length - i) ⟨_, 0, [], nilS, [], [], rfl, rfl, own_nil, (fun x hx => by cases hx), rfl, Nat.zero_le _, rfl⟩ ?_
 rintro m vs S' hlen ⟨i, out, vo, co, P2, rfl, rfl, ho, hpo, hpe, hi, rfl⟩
 refine j_q (qs_lenl (n := l.length) (A := A) (c := cap) U48 rfl) ?_
 refine j_q (qs_lss rfl rfl) ?_
 refine j_cond rfl (fun hc0 => ?_) (fun hc0 => ?_)
 ·skip
  have hi1 : i < l.length := by
   simp only [bnA] at *
   omega
  obtain ⟨g, rfl⟩ := hA (by omega)
  have hcl := own_cellsN hown hc
  have hpx := hp _ (getD_mem (d := PV0) hi1)
  obtain ⟨tt, htt⟩ : ∃ t, t = (l.getD i PV0).t := ⟨_, rfl⟩
  have hol : out.length = i := by
   have h9 := congrArg List.length hpe
   simp only [List.length_map, List.length_take] at h9
   omega
  refine j_mix [] (Le.of_sub (by repeat first | exact slR _ | exact slN _ | apply slC | apply slD)) ?_
  refine j_mq (qs_ixn (g := g) (off := 0) (n := l.length) (c := cap) (i := i) U48 sz105 rfl rfl hi1) ?_
  refine j_mq (qs_field U105 rfl sz4 (by decide) rfl) ?_
  refine j_mq (qs_loadR (v := .bool tt) (a := ⟨g, 0, none⟩) (i := i * 2 + 0) (rd_cells hcl (by simp)) U4 rfl (congrArg (fun z => Value.pointer (some z)) (off2 g i 0)) (by rw [htt]; exact pv_get hi1 rfl)) ?_
  refine j_mq (qs_ixn (g := g) (off := 0) (n := l.length) (c := cap) (i := i) U48 sz105 rfl rfl hi1) ?_
  refine j_mq (qs_field U105 rfl sz33 (by decide) rfl) ?_
  refine j_mq (qs_loadR (v := (l.getD i PV0).v) (a := ⟨g, 0, none⟩) (i := i * 2 + 1) (rd_cells hcl (by simp)) U33 rfl (congrArg (fun z => Value.pointer (some z)) (off2 g i 1)) (pv_get hi1 rfl)) ?_
  refine j_lit (vs := []) U33 sz5 zero5 rfl (by simp [oneV]) ⟨rfl, by decide⟩ (fun g11 v11 c11 hv11 hc11 ho11 => ?_)
  subst hv11 hc11
  refine j_mD0 (Le.of_sub (by repeat first | exact slR _ | exact slN _ | apply slC | apply slD)) ?_
  refine j_append 0 U33 U33 (.inr ⟨_, rfl⟩) sb5 zero5 rfl ho11 rfl (br_src (hpx.br hP)) ints_one ⟨(by simp only [ints_length, List.length_nil]; have := hpx.le; omega), (by decide)⟩ (fun v12 c12 ho12 => ?_)
  rw [List.nil_append] at ho12
  obtain ⟨n12, A12, cap12, rfl, _⟩ := own_form ho12 (by decide)
  refine j_mD0 (Le.of_sub (by repeat first | exact slR _ | exact slN _ | apply slC | apply slD)) ?_
  refine j_mq (qs_run (v := .agg (encP (⟨tt, .slice A12 n12 cap12, (l.getD i PV0).xs⟩ : PV)).toArray) (fun w => by kernel_rfl)) ?_
  refine j_litw (vs := encP ⟨tt, .slice A12 n12 cap12, (l.getD i PV0).xs⟩) U48 sz105 zero105 rfl rfl ⟨rfl, by decide, by decide⟩ (fun g14 hg14 ho14 => ?_)
  refine j_mD0 (Le.of_sub (by repeat first | exact slR _ | exact slN _ | apply slC | apply slD)) ?_
  refine j_append 2 U48 U48 (.inr ⟨_, rfl⟩) sb105 zero105 rfl ho rfl (src_univ ho14 (by decide) (m := 1) rfl _ _ 0 rfl) (enc_one (P := c12) (x := (⟨tt, .slice A12 n12 cap12, (l.getD i PV0).xs⟩ : PV)) ⟨c12, ho12, fun q hq => hq, hpx.le⟩) ⟨(by rw [flat_len encP_len]; simp [encP]; omega), (by decide)⟩ (fun v15 c15 ho15 => ?_)
  refine j_mR _ (.refl _) ?_
  refine j_mend ?_
  refine j_q (qs_add64 rfl rfl (by first | omega | (simp only [bnA] at *; omega))) ?_
  refine j_subl (S' := [c12, c15, P2]) (by repeat first | exact slR _ | exact slN _ | apply slC | apply slD) ?_
  refine j_perm (S' := [c15, c12 ++ P2]) (by
   classical
   refine List.perm_iff_count.2 fun x => ?_
   simp only [List.set, List.flatten_cons, List.flatten_nil, List.append_nil, List.nil_append, List.cons_append, List.count_append, List.count_cons, List.count_nil]
   all_goals omega) ?_
  refine j_back rfl ?_
  refine ⟨_, by omega, i + 1, out ++ [(⟨tt, .slice A12 n12 cap12, (l.getD i PV0).xs⟩ : PV)], v15, c15, c12 ++ P2, rfl, rfl, ?_, ?_, ?_, hi1, rfl⟩
  ·rw [List.map_append, List.flatten_append]
   simpa using ho15
  ·intro x hx
   rcases List.mem_append.1 hx with hx | hx
   ·exact (hpo x hx).mono fun q hq => List.mem_append_right _ hq
   ·rw [List.mem_singleton.1 hx]
    exact ⟨c12, ho12, fun q hq => List.mem_append_left _ hq, hpx.le⟩
  ·rw [take_pe l hi1, List.map_append, hpe, htt]
   rfl
 ·skip
  have hi1 : i = l.length := by
   simp only [bnA] at *
   omega
  refine j_ret_con (vs := [_]) (fun w' hw' => ⟨rfl, trivial⟩) ?_
  refine ⟨out, co, P2, rfl, ho, hpo, ?_⟩
  rw [hpe, hi1, List.take_length]
end Go.Proofs.YtfebkkmmagbnlaaGreatDoor
/-! Pg15 -/
namespace Go.Proofs.YtfebkkmmagbnlaaGreatDoor
open Go Go.Sx
set_option maxRecDepth 100000
set_option maxHeartbeats 4000000
set_option linter.unusedVariables false
set_option linter.unusedSimpArgs false
attribute [local irreducible] J JQ QS Con W opW
def newQ (q : QR) : QR := ⟨(if freeI q.c < q.c.length then q.c else q.c ++ [PE0]).set (freeI q.c) (true, []), q.k, addH q.h (freeI q.c)⟩
def putQE (q : QR) (n : Int) (xs : List UInt8) : Int := if hasB q.c n then (if 512 < xs.length then 5 else 0) else 7
def putQ (q : QR) (n : Int) (xs : List UInt8) : QR := if putQE q n xs = 0 then ⟨q.c.set n.toNat (true, xs), q.k, addH q.h n.toNat⟩ else q
def frQE (q : QR) (n : Int) : Int := if hasB q.c n then 0 else 7
def frQ (q : QR) (n : Int) : QR := if frQE q n = 0 then ⟨q.c.set n.toNat PE0, q.k, addH q.h n.toNat⟩ else q
def RM.com (z : RM) (v : Value) (c : SH) (l : List PV) (P : SH) : RM := ⟨z.g, z.lv, z.lc, z.cur, v, c, l, nilS, [], [], P ++ z.P⟩
def RM.drp (z : RM) (v : Value) (c : SH) (l : List PV) (P : SH) : RM := ⟨z.g, v, c, l, z.kv, z.kc, z.last, nilS, [], [], P ++ z.P⟩
theorem com_ok {z : RM} (h : z.Ok) {v : Value} {c : SH} {l : List PV} {P : SH} (ho : Sx.Own 105 2 ((l.map encP).flatten) v c) (hp : ∀ x ∈ l, PVok P x) (he : l.map PV.pe = z.cur.map PV.pe) : (z.com v c l P).Ok := by
 refine ⟨h.cu, ho, own_nil, (fun x hx => (h.pc x hx).mono fun q hq => List.mem_append_right _ hq), (fun x hx => (hp x hx).mono fun q hq => List.mem_append_left _ hq), h.nl.1, ?_⟩
 show l.length ≤ _
 have h9 := congrArg List.length he
 simp only [List.length_map] at h9
 have := h.nl
 omega
theorem drp_ok {z : RM} (h : z.Ok) {v : Value} {c : SH} {l : List PV} {P : SH} (ho : Sx.Own 105 2 ((l.map encP).flatten) v c) (hp : ∀ x ∈ l, PVok P x) (he : l.map PV.pe = z.last.map PV.pe) : (z.drp v c l P).Ok := by
 refine ⟨ho, h.la, own_nil, (fun x hx => (hp x hx).mono fun q hq => List.mem_append_left _ hq), (fun x hx => (h.pl x hx).mono fun q hq => List.mem_append_right _ hq), ?_, h.nl.2⟩
 show l.length ≤ _
 have h9 := congrArg List.length he
 simp only [List.length_map] at h9
 have := h.nl
 omega
theorem rfree_con (z : RM) (n : Int) (w : World) (hok : z.Ok) (hn : -9223372036854775808 ≤ n ∧ n ≤ 9223372036854775807) (hl : z.ch.length ≤ 1000) : Con Tryz.prog 46 [z.ptr, .int .i64 n] w z.heap fun u S' => u = .int .i64 (frQE z.ab n) ∧ ∃ z' : RM, S' = [z'.heap] ∧ z'.Ok ∧ z'.g = z.g ∧ z'.ab = frQ z.ab n := by
 refine con_of_tree mix Tryz.func46 T46_ok (by kernel_rfl) ?_
 unfold T46
 obtain ⟨A, cap, hcv, hA⟩ := row_formT hok.cu
 have hrow0 := hok.cu
 rw [hcv] at hrow0
 have hlv : z.lv = .slice A z.cur.length cap := hcv
 refine j_q (qs_ac) ?_
 refine j_q (qs_call ent81 rfl rfl rfl (fun w' hw' => rtaken_con z n w' (in_own hw' 0 rfl) hok hn)) ?_
 refine j_q (qs_not rfl) ?_
 refine j_cond rfl (fun hc0 => ?_) (fun hc0 => ?_)
 ·skip
  have hb : hasB z.c n = false := by simpa using hc0
  refine j_q (qs_ac) ?_
  refine j_ret_con (vs := [_]) (fun w' hw' => ⟨rfl, trivial⟩) ?_
  have e : frQE z.ab n = 7 := by
   unfold frQE
   rw [show z.ab.c = z.c from rfl, hb]
   rfl
  rw [e]
  exact ⟨rfl, z, rfl, hok, rfl, by rw [frQ, e]; rfl⟩
 ·skip
  have hb0 : hasB z.c n = true := by simpa using hc0
  have hb := hasB_b hb0
  have hb9 := hb.2.1
  rw [rc_len] at hb9
  obtain ⟨g, hg⟩ := hA (by omega)
  have hrow := hrow0
  rw [hg] at hrow
  refine j_perm (S' := [[(z.g, z.obj)], z.lc, z.kc, z.hc, z.P]) (by simpa using perm_rm z) ?_
  refine j_q (qs_nil rfl) ?_
  refine j_q (qs_field U51 rfl sz48 (by decide) rfl) ?_
  refine j_q (qs_load (l := z.l) (v := .slice A z.cur.length cap) 0 U48 rfl rfl rfl (by rw [← hcv]; rfl)) ?_
  refine j_q (qs_run (v := .agg (encP PV0).toArray) (fun w => by kernel_rfl)) ?_
  refine j_q (qs_ixn (g := g) (off := 0) (n := z.cur.length) (c := cap) (i := n.toNat) U48 sz105 (by rw [← hg]; rfl) (by rw [Int.toNat_of_nonneg hb.1]; rfl) hb9) ?_
  refine j_storerecw (g := g) (i := n.toNat) (rs := z.cur) PV0 1 encP_len hrow rfl hb9 sz105 rfl rfl (enc_one (pv0_ok [])) (fun c9 ho9 => ?_)
  have hz1 : (z.setC (.slice (some ⟨g, 0, none⟩) z.cur.length cap) c9 (z.cur.set n.toNat PV0)).Ok := setC_ok hok ho9 (set_pv hok.pc (pv0_ok _)) (by rw [List.length_set]; exact hok.nl.1)
  refine j_perm (S' := [(z.setC (.slice (some ⟨g, 0, none⟩) z.cur.length cap) c9 (z.cur.set n.toNat PV0)).heap]) (by
   have e : (z.setC (.slice (some ⟨g, 0, none⟩) z.cur.length cap) c9 (z.cur.set n.toNat PV0)).heap = (z.g, .cells [.slice (some ⟨g, 0, none⟩) z.cur.length cap, z.kv, z.hv].toArray 51 (0, 0)) :: (c9 ++ (z.kc ++ (z.hc ++ z.P))) := rfl
   have e2 : z.obj = .cells [.slice (some ⟨g, 0, none⟩) z.cur.length cap, z.kv, z.hv].toArray 51 (0, 0) := by rw [← hg, ← hlv]
   rw [e, e2]
   classical
   refine List.perm_iff_count.2 fun x => ?_
   simp only [List.set, List.flatten_cons, List.flatten_nil, List.append_nil, List.nil_append, List.cons_append, List.count_append, List.count_cons, List.count_nil]
   all_goals omega) ?_
  rw [show (Value.int IntKind.i64 n) = .int .i64 ((n.toNat : Nat) : Int) by rw [Int.toNat_of_nonneg hb.1]]
  refine j_call 0 ent80 rfl rfl rfl rfl (fun w' hw' => rchg_con (z.setC (.slice (some ⟨g, 0, none⟩) z.cur.length cap) c9 (z.cur.set n.toNat PV0)) n.toNat w' hz1 hl) (fun u S2 hu => ?_)
  obtain ⟨rfl, vh, ch, rfl, hoz⟩ := hu
  refine j_subl (S' := [((z.setC (.slice (some ⟨g, 0, none⟩) z.cur.length cap) c9 (z.cur.set n.toNat PV0)).setH vh ch (addH z.ch n.toNat)).heap]) (by repeat first | exact slR _ | exact slN _ | apply slC | apply slD) ?_
  refine j_q (qs_ac) ?_
  refine j_ret_con (vs := [_]) (fun w' hw' => ⟨rfl, trivial⟩) ?_
  have e : frQE z.ab n = 0 := by
   unfold frQE
   rw [show z.ab.c = z.c from rfl, hb0]
   rfl
  rw [e]
  refine ⟨rfl, _, rfl, hoz, rfl, ?_⟩
  rw [frQ, e, if_pos rfl]
  unfold RM.ab RM.c RM.k RM.setH RM.setC
  simp only [List.map_set]
  rfl
theorem rget_con (z : RM) (n : Int) (w : World) (hin : In w z.heap) (hok : z.Ok) (hn : -9223372036854775808 ≤ n ∧ n ≤ 9223372036854775807) : Con Tryz.prog 51 [z.ptr, .int .i64 n] w [] fun u S' => ∃ v c, u = .tuple #[v, .int .i64 (if hasB z.c n then 0 else 7)] ∧ S' = [c] ∧ Sx.Own 5 1 (ints (if hasB z.c n then (z.c.getD n.toNat PE0).2 else [])) v c := by
 refine con_of_tree mix Tryz.func51 T51_ok (by kernel_rfl) ?_
 unfold T51
 obtain ⟨A, cap, hcv, hA⟩ := row_formT hok.cu
 have hrow0 := hok.cu
 rw [hcv] at hrow0
 have hlv : z.lv = .slice A z.cur.length cap := hcv
 refine j_q (qs_ac) ?_
 refine j_q (qs_ac) ?_
 refine j_q (qs_call ent81 rfl rfl rfl (fun w' hw' => rtaken_con z n w' (fun q hq => (hw'.frame q.1 (lt_of_get (hin q hq)) (by simp)).trans (hin q hq)) hok hn)) ?_
 refine j_q (qs_not rfl) ?_
 refine j_cond rfl (fun hc0 => ?_) (fun hc0 => ?_)
 ·skip
  have hb : hasB z.c n = false := by simpa using hc0
  refine j_q (qs_ac) ?_
  refine j_q (qs_ac) ?_
  refine j_ret_con (vs := [_, _]) (fun w' hw' => ⟨rfl, rfl, trivial⟩) ?_
  rw [hb]
  exact ⟨nilS, [], rfl, rfl, own_nil⟩
 ·skip
  have hb0 : hasB z.c n = true := by simpa using hc0
  have hb := hasB_b hb0
  have hb9 := hb.2.1
  rw [rc_len] at hb9
  obtain ⟨g, hg⟩ := hA (by omega)
  have hrow := hrow0
  rw [hg] at hrow
  have hpx := hok.pc _ (getD_mem (d := PV0) hb9)
  refine j_lit (vs := []) U33 sz5 zero5 rfl (by simp [oneV]) ⟨rfl, by decide⟩ (fun g6 v6 c6 hv6 hc6 ho6 => ?_)
  subst hv6 hc6
  refine j_q (qs_nil rfl) ?_
  refine j_q (qs_field U51 rfl sz48 (by decide) rfl) ?_
  refine j_q (qs_loadR (v := .slice A z.cur.length cap) (a := ⟨z.g, 0, none⟩) (i := 0) (vs := z.l) (rd_cells (RM.cells hin) (by simp)) U48 rfl rfl (by rw [← hcv]; rfl)) ?_
  refine j_q (qs_ixn (g := g) (off := 0) (n := z.cur.length) (c := cap) (i := n.toNat) U48 sz105 (by rw [← hg]; rfl) (by rw [Int.toNat_of_nonneg hb.1]; rfl) hb9) ?_
  refine j_q (qs_field U105 rfl sz33 (by decide) rfl) ?_
  refine j_q (qs_loadR (v := (z.cur.getD n.toNat PV0).v) (a := ⟨g, 0, none⟩) (i := n.toNat * 2 + 1) (rd_cells (own_cellsN hrow (RM.in_l hin)) (by simp)) U33 rfl (congrArg (fun z => Value.pointer (some z)) (off2 g n.toNat 1)) (pv_get hb9 rfl)) ?_
  refine j_append 0 U33 U33 (.inr ⟨_, rfl⟩) sb5 zero5 rfl ho6 rfl (br_src (hpx.br (RM.in_P hin))) ints_one ⟨(by simp only [ints_length, List.length_nil]; have := hpx.le; omega), (by decide)⟩ (fun v13 c13 ho13 => ?_)
  refine j_q (qs_ac) ?_
  refine j_subl (S' := [c13]) (by repeat first | exact slR _ | exact slN _ | apply slC | apply slD) ?_
  refine j_ret_con (vs := [_, _]) (fun w' hw' => ⟨rfl, rfl, trivial⟩) ?_
  rw [if_pos hb0, if_pos hb0, rc_get z hb9]
  exact ⟨_, c13, rfl, rfl, by rw [List.nil_append] at ho13; exact ho13⟩
theorem rput_con (z : RM) (n : Int) (bv : Value) (xs : List UInt8) (w : World) (hok : z.Ok) (hn : -9223372036854775808 ≤ n ∧ n ≤ 9223372036854775807) (hbr : BR w bv xs) (hbd : ∀ (a : Addr) (m c : Nat), bv = .slice (some a) m c → 0 < m → a.block ∉ dom z.heap) (hxl : xs.length ≤ 100000) (hl : z.ch.length ≤ 1000) : Con Tryz.prog 48 [z.ptr, .int .i64 n, bv] w z.heap fun u S' => u = .int .i64 (putQE z.ab n xs) ∧ ∃ z' : RM, S' = [z'.heap] ∧ z'.Ok ∧ z'.g = z.g ∧ z'.ab = putQ z.ab n xs := by
 refine con_of_tree mix Tryz.func48 T48_ok (by kernel_rfl) ?_
 unfold T48
 obtain ⟨bA, bcp, hbf, _⟩ := br_form hbr
 obtain ⟨A, cap, hcv, hA⟩ := row_formT hok.cu
 have hrow0 := hok.cu
 rw [hcv] at hrow0
 have hlv : z.lv = .slice A z.cur.length cap := hcv
 refine j_q (qs_ac) ?_
 refine j_q (qs_call ent81 rfl rfl rfl (fun w' hw' => rtaken_con z n w' (in_own hw' 0 rfl) hok hn)) ?_
 refine j_q (qs_not rfl) ?_
 refine j_cond rfl (fun hc0 => ?_) (fun hc0 => ?_)
 ·skip
  have hb : hasB z.c n = false := by simpa using hc0
  refine j_q (qs_ac) ?_
  refine j_ret_con (vs := [_]) (fun w' hw' => ⟨rfl, trivial⟩) ?_
  have e : putQE z.ab n xs = 7 := by
   unfold putQE
   rw [show z.ab.c = z.c from rfl, hb]
   rfl
  rw [e]
  exact ⟨rfl, z, rfl, hok, rfl, by rw [putQ, e]; rfl⟩
 ·skip
  have hb0 : hasB z.c n = true := by simpa using hc0
  have hb := hasB_b hb0
  have hb9 := hb.2.1
  rw [rc_len] at hb9
  obtain ⟨g, hg⟩ := hA (by omega)
  have hrow := hrow0
  rw [hg] at hrow
  have htr : (z.cur.getD n.toNat PV0).t = true := by
   have h9 := hb.2.2
   rw [rc_get z hb9] at h9
   exact h9
  refine j_q (qs_lenl (n := xs.length) (A := bA) (c := bcp) U33 hbf) ?_
  refine j_q (qs_gtr rfl rfl) ?_
  refine j_cond rfl (fun hc1 => ?_) (fun hc1 => ?_)
  ·skip
   have hxx : 512 < xs.length := by
    have := of_decide_eq_true hc1
    omega
   refine j_q (qs_ac) ?_
   refine j_ret_con (vs := [_]) (fun w' hw' => ⟨rfl, trivial⟩) ?_
   have e : putQE z.ab n xs = 5 := by
    unfold putQE
    rw [show z.ab.c = z.c from rfl, hb0, if_pos rfl, if_pos hxx]
   rw [e]
   exact ⟨rfl, z, rfl, hok, rfl, by rw [putQ, e]; rfl⟩
  ·skip
   have hxx : ¬ 512 < xs.length := by
    have := of_decide_eq_false hc1
    omega
   refine j_perm (S' := [[(z.g, z.obj)], z.lc, z.kc, z.hc, z.P]) (by simpa using perm_rm z) ?_
   refine j_mix [[(z.g, z.obj)]] (Le.of_sub (by repeat first | exact slR _ | exact slN _ | apply slC | apply slD)) ?_
   refine j_mq (qs_nil rfl) ?_
   refine j_mq (qs_field U51 rfl sz48 (by decide) rfl) ?_
   refine j_mq (qs_load (l := z.l) (v := .slice A z.cur.length cap) 0 U48 rfl rfl rfl (by rw [← hcv]; rfl)) ?_
   refine j_lit (vs := []) U33 sz5 zero5 rfl (by simp [oneV]) ⟨rfl, by decide⟩ (fun g10 v10 c10 hv10 hc10 ho10 => ?_)
   subst hv10 hc10
   refine j_mD0 (Le.of_sub (by repeat first | exact slR _ | exact slN _ | apply slC | apply slD)) ?_
   refine j_append 0 U33 U33 (.inr ⟨_, rfl⟩) sb5 zero5 rfl ho10 rfl (br_srcD hbr hbd) ints_one ⟨(by simp only [ints_length, List.length_nil]; omega), (by decide)⟩ (fun v11 c11 ho11 => ?_)
   rw [List.nil_append] at ho11
   obtain ⟨n11, A11, cap11, rfl, _⟩ := own_form ho11 (by decide)
   refine j_mD0 (Le.of_sub (by repeat first | exact slR _ | exact slN _ | apply slC | apply slD)) ?_
   refine j_mq (qs_ixn (g := g) (off := 0) (n := z.cur.length) (c := cap) (i := n.toNat) U48 sz105 (by rw [← hg]; rfl) (by rw [Int.toNat_of_nonneg hb.1]; rfl) hb9) ?_
   refine j_mq (qs_field U105 rfl sz33 (by decide) rfl) ?_
   refine j_storerec (g := g) (i := n.toNat) (fo := 1) (rs := z.cur) (d := PV0) ⟨true, .slice A11 n11 cap11, xs⟩ 2 encP_len hrow rfl hb9 sz33 rfl rfl rfl (by decide) (by rw [encP, encP, htr]; rfl) (fun c14 ho14 => ?_)
   refine j_mR _ (.refl _) ?_
   refine j_mend ?_
   have hz2 : ({ z with lv := .slice (some ⟨g, 0, none⟩) z.cur.length cap, lc := c14, cur := z.cur.set n.toNat ⟨true, .slice A11 n11 cap11, xs⟩, P := c11 ++ z.P } : RM).Ok := ⟨ho14, hok.la, hok.hh, set_pv (fun x hx => (hok.pc x hx).mono fun q hq => List.mem_append_right _ hq) ⟨c11, ho11, fun q hq => List.mem_append_left _ hq, hxl⟩, (fun x hx => (hok.pl x hx).mono fun q hq => List.mem_append_right _ hq), by rw [List.length_set]; exact hok.nl.1, hok.nl.2⟩
   refine j_perm (S' := [({ z with lv := .slice (some ⟨g, 0, none⟩) z.cur.length cap, lc := c14, cur := z.cur.set n.toNat ⟨true, .slice A11 n11 cap11, xs⟩, P := c11 ++ z.P } : RM).heap]) (by
    have e : ({ z with lv := .slice (some ⟨g, 0, none⟩) z.cur.length cap, lc := c14, cur := z.cur.set n.toNat ⟨true, .slice A11 n11 cap11, xs⟩, P := c11 ++ z.P } : RM).heap = (z.g, .cells [.slice (some ⟨g, 0, none⟩) z.cur.length cap, z.kv, z.hv].toArray 51 (0, 0)) :: (c14 ++ (z.kc ++ (z.hc ++ (c11 ++ z.P)))) := rfl
    have e2 : z.obj = .cells [.slice (some ⟨g, 0, none⟩) z.cur.length cap, z.kv, z.hv].toArray 51 (0, 0) := by rw [← hg, ← hlv]
    rw [e, e2]
    classical
    refine List.perm_iff_count.2 fun x => ?_
    simp only [List.set, List.flatten_cons, List.flatten_nil, List.append_nil, List.nil_append, List.cons_append, List.count_append, List.count_cons, List.count_nil]
    all_goals omega) ?_
   rw [show (Value.int IntKind.i64 n) = .int .i64 ((n.toNat : Nat) : Int) by rw [Int.toNat_of_nonneg hb.1]]
   refine j_call 0 ent80 rfl rfl rfl rfl (fun w' hw' => rchg_con ({ z with lv := .slice (some ⟨g, 0, none⟩) z.cur.length cap, lc := c14, cur := z.cur.set n.toNat ⟨true, .slice A11 n11 cap11, xs⟩, P := c11 ++ z.P } : RM) n.toNat w' hz2 hl) (fun u S2 hu => ?_)
   obtain ⟨rfl, vh, ch, rfl, hoz⟩ := hu
   refine j_subl (S' := [(({ z with lv := .slice (some ⟨g, 0, none⟩) z.cur.length cap, lc := c14, cur := z.cur.set n.toNat ⟨true, .slice A11 n11 cap11, xs⟩, P := c11 ++ z.P } : RM).setH vh ch (addH z.ch n.toNat)).heap]) (by repeat first | exact slR _ | exact slN _ | apply slC | apply slD) ?_
   refine j_q (qs_ac) ?_
   refine j_ret_con (vs := [_]) (fun w' hw' => ⟨rfl, trivial⟩) ?_
   have e : putQE z.ab n xs = 0 := by
    unfold putQE
    rw [show z.ab.c = z.c from rfl, hb0, if_pos rfl, if_neg hxx]
   rw [e]
   refine ⟨rfl, _, rfl, hoz, rfl, ?_⟩
   rw [putQ, e, if_pos rfl]
   unfold RM.ab RM.c RM.k RM.setH
   simp only [List.map_set]
   rfl
theorem rcom_con (z : RM) (w : World) (hok : z.Ok) : Con Tryz.prog 23 [z.ptr] w z.heap fun u S' => u = .int .i64 0 ∧ ∃ z' : RM, S' = [z'.heap] ∧ z'.Ok ∧ z'.g = z.g ∧ z'.ab = ⟨z.c, z.c, []⟩ := by
 refine con_of_tree mix Tryz.func23 T23_ok (by kernel_rfl) ?_
 unfold T23
 refine j_perm (S' := [[(z.g, z.obj)], z.lc, z.kc, z.hc, z.P]) (by simpa using perm_rm z) ?_
 refine j_q (qs_ac) ?_
 refine j_q (qs_nil rfl) ?_
 refine j_q (qs_field U51 rfl sz48 (by decide) rfl) ?_
 refine j_q (qs_load (l := z.l) (v := z.lv) 0 U48 rfl rfl rfl rfl) ?_
 refine j_call0 ent53 rfl rfl rfl (fun w' hw' => rclone_con z.cur z.lv z.lc z.P w' hok.cu hok.pc (in_own hw' 1 rfl) (in_own hw' 4 rfl) hok.nl.1) (fun vn S2 hu => ?_)
 obtain ⟨ln, cn, Pn, rfl, hon, hpn, hen⟩ := hu
 refine j_perm (S' := [cn, Pn, [(z.g, z.obj)], z.lc, z.kc, z.hc, z.P]) (by simp) ?_
 refine j_q (qs_nil rfl) ?_
 refine j_q (qs_field U51 rfl sz48 (by decide) rfl) ?_
 refine j_store (l := z.l) (i := 1) (v := vn) 2 sz48 rfl rfl (own_one hon (by decide)) rfl (by simp) (by simp) ?_
 refine j_subl (S' := [cn, Pn, [(z.g, .cells [z.lv, vn, z.hv].toArray 51 (0, 0))], z.lc, z.hc, z.P]) (by repeat first | exact slR _ | exact slN _ | apply slC | apply slD) ?_
 refine j_q (qs_nil rfl) ?_
 refine j_q (qs_field U51 rfl sz49 (by decide) rfl) ?_
 refine j_store (l := [z.lv, vn, z.hv]) (i := 2) (v := nilS) 2 sz49 rfl rfl rfl rfl (by simp) (by simp) ?_
 refine j_subl (S' := [cn, Pn, [(z.g, .cells [z.lv, vn, nilS].toArray 51 (0, 0))], z.lc, z.P]) (by repeat first | exact slR _ | exact slN _ | apply slC | apply slD) ?_
 refine j_q (qs_ac) ?_
 refine j_perm (S' := [(z.com vn cn ln Pn).heap]) (by
  have e : (z.com vn cn ln Pn).heap = (z.g, .cells [z.lv, vn, nilS].toArray 51 (0, 0)) :: (z.lc ++ (cn ++ ([] ++ (Pn ++ z.P)))) := rfl
  rw [e]
  classical
  refine List.perm_iff_count.2 fun x => ?_
  simp only [List.set, List.flatten_cons, List.flatten_nil, List.append_nil, List.nil_append, List.cons_append, List.count_append, List.count_cons, List.count_nil]
  all_goals omega) ?_
 refine j_ret_con (vs := [_]) (fun w' hw' => ⟨rfl, trivial⟩) ?_
 refine ⟨rfl, (z.com vn cn ln Pn), rfl, com_ok hok hon hpn hen, rfl, ?_⟩
 unfold RM.ab RM.c RM.k RM.com
 simp only [hen]
theorem rdrop_con (z : RM) (w : World) (hok : z.Ok) : Con Tryz.prog 52 [z.ptr] w z.heap fun u S' => u = .tuple #[] ∧ ∃ z' : RM, S' = [z'.heap] ∧ z'.Ok ∧ z'.g = z.g ∧ z'.ab = ⟨z.k, z.k, []⟩ := by
 refine con_of_tree mix Tryz.func52 T52_ok (by kernel_rfl) ?_
 unfold T52
 refine j_perm (S' := [[(z.g, z.obj)], z.lc, z.kc, z.hc, z.P]) (by simpa using perm_rm z) ?_
 refine j_q (qs_nil rfl) ?_
 refine j_q (qs_field U51 rfl sz48 (by decide) rfl) ?_
 refine j_q (qs_load (l := z.l) (v := z.kv) 0 U48 rfl rfl rfl rfl) ?_
 refine j_call0 ent53 rfl rfl rfl (fun w' hw' => rclone_con z.last z.kv z.kc z.P w' hok.la hok.pl (in_own hw' 2 rfl) (in_own hw' 4 rfl) hok.nl.2) (fun vn S2 hu => ?_)
 obtain ⟨ln, cn, Pn, rfl, hon, hpn, hen⟩ := hu
 refine j_perm (S' := [cn, Pn, [(z.g, z.obj)], z.lc, z.kc, z.hc, z.P]) (by simp) ?_
 refine j_q (qs_nil rfl) ?_
 refine j_q (qs_field U51 rfl sz48 (by decide) rfl) ?_
 refine j_store (l := z.l) (i := 0) (v := vn) 2 sz48 rfl rfl (own_one hon (by decide)) rfl (by simp) (by simp) ?_
 refine j_subl (S' := [cn, Pn, [(z.g, .cells [vn, z.kv, z.hv].toArray 51 (0, 0))], z.kc, z.hc, z.P]) (by repeat first | exact slR _ | exact slN _ | apply slC | apply slD) ?_
 refine j_q (qs_nil rfl) ?_
 refine j_q (qs_field U51 rfl sz49 (by decide) rfl) ?_
 refine j_store (l := [vn, z.kv, z.hv]) (i := 2) (v := nilS) 2 sz49 rfl rfl rfl rfl (by simp) (by simp) ?_
 refine j_subl (S' := [cn, Pn, [(z.g, .cells [vn, z.kv, nilS].toArray 51 (0, 0))], z.kc, z.P]) (by repeat first | exact slR _ | exact slN _ | apply slC | apply slD) ?_
 refine j_perm (S' := [(z.drp vn cn ln Pn).heap]) (by
  have e : (z.drp vn cn ln Pn).heap = (z.g, .cells [vn, z.kv, nilS].toArray 51 (0, 0)) :: (cn ++ (z.kc ++ ([] ++ (Pn ++ z.P)))) := rfl
  rw [e]
  classical
  refine List.perm_iff_count.2 fun x => ?_
  simp only [List.set, List.flatten_cons, List.flatten_nil, List.append_nil, List.nil_append, List.cons_append, List.count_append, List.count_cons, List.count_nil]
  all_goals omega) ?_
 refine j_ret_con (vs := []) (fun w' hw' => trivial) ?_
 refine ⟨rfl, (z.drp vn cn ln Pn), rfl, drp_ok hok hon hpn hen, rfl, ?_⟩
 unfold RM.ab RM.c RM.k RM.drp
 simp only [hen]
end Go.Proofs.YtfebkkmmagbnlaaGreatDoor
/-! Pg16 -/
namespace Go.Proofs.YtfebkkmmagbnlaaGreatDoor
open Go Go.Sx
set_option maxRecDepth 100000
set_option maxHeartbeats 4000000
set_option linter.unusedVariables false
set_option linter.unusedSimpArgs false
attribute [local irreducible] J JQ QS Con W opW
theorem rnew_con (z : RM) (w : World) (hok : z.Ok) (hlen : z.cur.length < 16384) (hl : z.ch.length ≤ 1000) : Con Tryz.prog 45 [z.ptr] w z.heap fun u S' => u = .tuple #[.int .i64 ((freeI z.c : Nat) : Int), .int .i64 0] ∧ ∃ z' : RM, S' = [z'.heap] ∧ z'.Ok ∧ z'.g = z.g ∧ z'.ab = newQ z.ab := by
 refine con_of_tree mix Tryz.func45 T45_ok (by kernel_rfl) ?_
 unfold T45
 obtain ⟨A, cap, hcv, hA⟩ := row_formT hok.cu
 have hrow0 := hok.cu
 rw [hcv] at hrow0
 have hlv : z.lv = .slice A z.cur.length cap := hcv
 obtain ⟨g, hg⟩ : ∃ g, 0 < z.cur.length → A = some ⟨g, 0, none⟩ := by
  rcases Nat.eq_zero_or_pos z.cur.length with h | h
  ·exact ⟨0, fun h2 => by omega⟩
  ·obtain ⟨g, hg⟩ := hA h
   exact ⟨g, fun _ => hg⟩
 refine j_perm (S' := [[(z.g, z.obj)], z.lc, z.kc, z.hc, z.P]) (by simpa using perm_rm z) ?_
 have hfle : freeI z.c ≤ z.cur.length := by
  rw [← rc_len]
  exact List.findIdx_le_length
 refine j_q (qs_ac) ?_
 refine j_q (qs_ac) ?_
 refine j_q (qs_ac) ?_
 refine j_loop (fun m vs S' => ∃ i : Nat, vs = [.int .i64 (i : Int)] ∧ S' = [[(z.g, z.obj)], z.lc, z.kc, z.hc, z.P] ∧ i ≤ freeI z.c ∧ m = freeI z.c - i) ⟨_, 0, rfl, rfl, Nat.zero_le _, rfl⟩ ?_
 rintro m vs S' hlen ⟨i, rfl, rfl, hi, rfl⟩
 obtain ⟨tt, htt⟩ : ∃ t, t = (z.cur.getD i PV0).t := ⟨_, rfl⟩
 have hbd : (decide ((i : Int) < (z.cur.length : Int))) = true → i < z.cur.length := fun h => by
  simp only [decide_eq_true_eq] at h
  omega
 refine j_q (qs_nil rfl) ?_
 refine j_q (qs_field U51 rfl sz48 (by decide) rfl) ?_
 refine j_q (qs_load (l := z.l) (v := .slice A z.cur.length cap) 0 U48 rfl rfl rfl (by rw [← hcv]; rfl)) ?_
 refine j_q (qs_lenl (n := z.cur.length) (A := A) (c := cap) U48 rfl) ?_
 refine j_q (qs_lss rfl rfl) ?_
 refine j_g rfl (fun hb => qs_mt rfl) ?_
 refine j_g rfl (fun hb => qs_nil (gd_eq hb)) ?_
 refine j_g rfl (fun hb => qs_field U51 rfl sz48 (by decide) (gd_eq hb)) ?_
 refine j_g rfl (fun hb => qs_load (l := z.l) (v := .slice A z.cur.length cap) 0 U48 rfl (gd_eq hb) rfl (by rw [← hcv]; rfl)) ?_
 refine j_g rfl (fun hb => qs_mt rfl) ?_
 refine j_g rfl (fun hb => qs_ixn (g := g) (off := 0) (n := z.cur.length) (c := cap) (i := i) U48 sz105 (by have h8 := hg (by have h9 := hbd hb; omega); rw [← h8]; exact gd_eq hb) (gd_eq hb) (hbd hb)) ?_
 refine j_g rfl (fun hb => qs_field U105 rfl sz4 (by decide) (gd_eq hb)) ?_
 refine j_g (v := .bool tt) rfl (fun hb => by
  have h9 := hbd hb
  have hrow := hrow0
  rw [hg (by omega)] at hrow
  exact qs_loadR (a := ⟨g, 0, none⟩) (i := i * 2 + 0) (own_rd hrow 1 rfl) U4 rfl ((gd_eq hb).trans (congrArg (fun q => Value.pointer (some q)) (off2 g i 0))) (by rw [htt]; exact pv_get h9 rfl)) ?_
 refine j_q (qs_and rfl rfl) ?_
 refine j_cond rfl (fun hc0 => ?_) (fun hc0 => ?_)
 ·skip
  have hb2 : i < z.cur.length ∧ tt = true := by
   by_cases h1 : (i : Int) < (z.cur.length : Int)
   ·cases tt
    ·simp [gd, h1] at hc0
    ·exact ⟨by omega, rfl⟩
   ·simp [gd, h1] at hc0
  obtain ⟨hi1, htt1⟩ := hb2
  have hne : i ≠ freeI z.c := fun e => by
   have h9 := freeI_at (l := z.c) (by rw [← e, rc_len]; exact hi1)
   rw [← e, rc_get z hi1] at h9
   rw [htt1] at htt
   rw [show (z.cur.getD i PV0).t = false from h9] at htt
   cases htt
  refine j_q (qs_add64 rfl rfl (by first | omega | (simp only [bnA] at *; omega))) ?_
  refine j_back rfl ?_
  exact ⟨_, by omega, i + 1, rfl, rfl, by omega, rfl⟩
 ·skip
  have hb2 : ¬ (i < z.cur.length ∧ tt = true) := by
   rintro ⟨h1, h2⟩
   have h1' : (i : Int) < (z.cur.length : Int) := by omega
   rw [h2] at hc0
   simp [gd, h1'] at hc0
  obtain rfl : i = freeI z.c := by
   rcases Nat.lt_or_ge i (freeI z.c) with h | h
   ·have h9 := freeI_before h
    have hi1 : i < z.cur.length := by omega
    rw [rc_get z hi1] at h9
    exact absurd ⟨hi1, htt.trans h9⟩ hb2
   ·omega
  refine j_q (qs_nil rfl) ?_
  refine j_q (qs_field U51 rfl sz48 (by decide) rfl) ?_
  refine j_q (qs_load (l := z.l) (v := .slice A z.cur.length cap) 0 U48 rfl rfl rfl (by rw [← hcv]; rfl)) ?_
  refine j_q (qs_lenl (n := z.cur.length) (A := A) (c := cap) U48 rfl) ?_
  refine j_q (qs_eql rfl rfl) ?_
  refine j_cond rfl (fun hc1 => ?_) (fun hc1 => ?_)
  ·skip
   have hfe : freeI z.c = z.cur.length := by
    simp only [bnA] at *
    omega
   refine j_q (qs_geq rfl rfl) ?_
   refine j_cond rfl (fun hc2 => ?_) (fun hc2 => ?_)
   ·skip
    simp only [bnA] at *
    omega
   ·skip
    refine j_q (qs_nil rfl) ?_
    refine j_q (qs_field U51 rfl sz48 (by decide) rfl) ?_
    refine j_q (qs_load (l := z.l) (v := .slice A z.cur.length cap) 0 U48 rfl rfl rfl (by rw [← hcv]; rfl)) ?_
    refine j_q (qs_run (v := .agg (encP PV0).toArray) (fun w => by kernel_rfl)) ?_
    refine j_litw (vs := encP PV0) U48 sz105 zero105 rfl rfl ⟨rfl, by decide, by decide⟩ (fun g30 hg30 ho30 => ?_)
    refine j_append (xs := (z.cur.map encP).flatten) (news := encP PV0) 2 U48 U48 (.inr ⟨_, rfl⟩) sb105 zero105 rfl hrow0 rfl (src_univ ho30 (by decide) (m := 1) rfl _ _ 0 rfl) (enc_one (pv0_ok [])) ⟨(by rw [flat_len encP_len]; simp [encP]; omega), (by decide)⟩ (fun v31 c31 ho31 => ?_)
    refine j_q (qs_nil rfl) ?_
    refine j_q (qs_field U51 rfl sz48 (by decide) rfl) ?_
    refine j_store (l := z.l) (i := 0) (v := v31) 1 sz48 rfl rfl (own_one ho31 (by decide)) rfl (by simp) (by simp) ?_
    refine j_subl (S' := [[(z.g, .cells [v31, z.kv, z.hv].toArray 51 (0, 0))], c31, z.kc, z.hc, z.P]) (by repeat first | exact slR _ | exact slN _ | apply slC | apply slD) ?_
    have ho31' : Sx.Own 105 2 (((z.cur ++ [PV0]).map encP).flatten) v31 c31 := by
     rw [List.map_append, List.flatten_append]
     simpa using ho31
    have hl31 : (z.cur ++ [PV0]).length = z.cur.length + 1 := by simp
    obtain ⟨A31, cap31, hv31, hA31⟩ := row_formT ho31'
    obtain ⟨g31, hg31⟩ := hA31 (by omega)
    subst hg31
    have hrow31 := ho31'
    rw [hv31] at hrow31
    refine j_q (qs_nil rfl) ?_
    refine j_q (qs_field U51 rfl sz48 (by decide) rfl) ?_
    refine j_q (qs_load (l := [v31, z.kv, z.hv]) (v := .slice (some ⟨g31, 0, none⟩) (z.cur ++ [PV0]).length cap31) 0 U48 rfl rfl rfl (by rw [← hv31]; rfl)) ?_
    refine j_q (qs_run (v := .agg (encP ⟨true, nilS, []⟩).toArray) (fun w => by kernel_rfl)) ?_
    refine j_q (qs_ixn (g := g31) (off := 0) (n := (z.cur ++ [PV0]).length) (c := cap31) (i := freeI z.c) U48 sz105 rfl rfl (by omega)) ?_
    refine j_storerecw (g := g31) (i := freeI z.c) (rs := z.cur ++ [PV0]) ⟨true, nilS, []⟩ 1 encP_len hrow31 rfl (by omega) sz105 rfl rfl (enc_one (show PVok z.P ⟨true, nilS, []⟩ from ⟨[], own_nil, (fun q hq => by cases hq), Nat.zero_le _⟩)) (fun c40 ho40 => ?_)
    have hz40 : ({ z with lv := .slice (some ⟨g31, 0, none⟩) (z.cur ++ [PV0]).length cap31, lc := c40, cur := (z.cur ++ [PV0]).set (freeI z.c) ⟨true, nilS, []⟩ } : RM).Ok := ⟨ho40, hok.la, hok.hh, set_pv (fun x hx => by
     rcases List.mem_append.1 hx with hx | hx
     ·exact hok.pc x hx
     ·rw [List.mem_singleton.1 hx]
      exact pv0_ok _) (show PVok z.P ⟨true, nilS, []⟩ from ⟨[], own_nil, (fun q hq => by cases hq), Nat.zero_le _⟩), hok.pl, by rw [List.length_set, hl31]; omega, hok.nl.2⟩
    refine j_perm (S' := [({ z with lv := .slice (some ⟨g31, 0, none⟩) (z.cur ++ [PV0]).length cap31, lc := c40, cur := (z.cur ++ [PV0]).set (freeI z.c) ⟨true, nilS, []⟩ } : RM).heap]) (by
     have e : ({ z with lv := .slice (some ⟨g31, 0, none⟩) (z.cur ++ [PV0]).length cap31, lc := c40, cur := (z.cur ++ [PV0]).set (freeI z.c) ⟨true, nilS, []⟩ } : RM).heap = (z.g, .cells [.slice (some ⟨g31, 0, none⟩) (z.cur ++ [PV0]).length cap31, z.kv, z.hv].toArray 51 (0, 0)) :: (c40 ++ (z.kc ++ (z.hc ++ z.P))) := rfl
     rw [hv31]
     rw [e]
     classical
     refine List.perm_iff_count.2 fun x => ?_
     simp only [List.set, List.flatten_cons, List.flatten_nil, List.append_nil, List.nil_append, List.cons_append, List.count_append, List.count_cons, List.count_nil]
     all_goals omega) ?_
    refine j_call 0 ent80 rfl rfl rfl rfl (fun w' hw' => rchg_con ({ z with lv := .slice (some ⟨g31, 0, none⟩) (z.cur ++ [PV0]).length cap31, lc := c40, cur := (z.cur ++ [PV0]).set (freeI z.c) ⟨true, nilS, []⟩ } : RM) (freeI z.c) w' hz40 hl) (fun u S2 hu => ?_)
    obtain ⟨rfl, vh, ch, rfl, hoz⟩ := hu
    refine j_subl (S' := [(({ z with lv := .slice (some ⟨g31, 0, none⟩) (z.cur ++ [PV0]).length cap31, lc := c40, cur := (z.cur ++ [PV0]).set (freeI z.c) ⟨true, nilS, []⟩ } : RM).setH vh ch (addH z.ch (freeI z.c))).heap]) (by repeat first | exact slR _ | exact slN _ | apply slC | apply slD) ?_
    refine j_q (qs_ac) ?_
    refine j_ret_con (vs := [_, _]) (fun w' hw' => ⟨rfl, rfl, trivial⟩) ?_
    refine ⟨rfl, _, rfl, hoz, rfl, ?_⟩
    unfold newQ
    rw [show z.ab.c = z.c from rfl, if_neg (by rw [rc_len]; omega)]
    unfold RM.ab RM.c RM.k RM.setH
    simp only [List.map_set, List.map_append]
    rfl
  ·skip
   have hfl : freeI z.c < z.cur.length := by
    simp only [bnA] at *
    omega
   refine j_q (qs_nil rfl) ?_
   refine j_q (qs_field U51 rfl sz48 (by decide) rfl) ?_
   refine j_q (qs_load (l := z.l) (v := .slice A z.cur.length cap) 0 U48 rfl rfl rfl (by rw [← hcv]; rfl)) ?_
   refine j_q (qs_run (v := .agg (encP ⟨true, nilS, []⟩).toArray) (fun w => by kernel_rfl)) ?_
   refine j_q (qs_ixn (g := g) (off := 0) (n := z.cur.length) (c := cap) (i := freeI z.c) U48 sz105 (by rw [← hg (by omega)]; rfl) rfl (by omega)) ?_
   refine j_storerecw (g := g) (i := freeI z.c) (rs := z.cur) ⟨true, nilS, []⟩ 1 encP_len (by rw [← hg (by omega)]; exact hrow0) rfl (by omega) sz105 rfl rfl (enc_one (show PVok z.P ⟨true, nilS, []⟩ from ⟨[], own_nil, (fun q hq => by cases hq), Nat.zero_le _⟩)) (fun c48 ho48 => ?_)
   have hz48 : ({ z with lv := .slice (some ⟨g, 0, none⟩) z.cur.length cap, lc := c48, cur := z.cur.set (freeI z.c) ⟨true, nilS, []⟩ } : RM).Ok := ⟨ho48, hok.la, hok.hh, set_pv hok.pc (show PVok z.P ⟨true, nilS, []⟩ from ⟨[], own_nil, (fun q hq => by cases hq), Nat.zero_le _⟩), hok.pl, by rw [List.length_set]; exact hok.nl.1, hok.nl.2⟩
   refine j_perm (S' := [({ z with lv := .slice (some ⟨g, 0, none⟩) z.cur.length cap, lc := c48, cur := z.cur.set (freeI z.c) ⟨true, nilS, []⟩ } : RM).heap]) (by
    have e : ({ z with lv := .slice (some ⟨g, 0, none⟩) z.cur.length cap, lc := c48, cur := z.cur.set (freeI z.c) ⟨true, nilS, []⟩ } : RM).heap = (z.g, .cells [.slice (some ⟨g, 0, none⟩) z.cur.length cap, z.kv, z.hv].toArray 51 (0, 0)) :: (c48 ++ (z.kc ++ (z.hc ++ z.P))) := rfl
    have e2 : z.obj = .cells [.slice (some ⟨g, 0, none⟩) z.cur.length cap, z.kv, z.hv].toArray 51 (0, 0) := by rw [← hg (by omega), ← hlv]
    rw [e2]
    rw [e]
    classical
    refine List.perm_iff_count.2 fun x => ?_
    simp only [List.set, List.flatten_cons, List.flatten_nil, List.append_nil, List.nil_append, List.cons_append, List.count_append, List.count_cons, List.count_nil]
    all_goals omega) ?_
   refine j_call 0 ent80 rfl rfl rfl rfl (fun w' hw' => rchg_con ({ z with lv := .slice (some ⟨g, 0, none⟩) z.cur.length cap, lc := c48, cur := z.cur.set (freeI z.c) ⟨true, nilS, []⟩ } : RM) (freeI z.c) w' hz48 hl) (fun u S2 hu => ?_)
   obtain ⟨rfl, vh, ch, rfl, hoz⟩ := hu
   refine j_subl (S' := [(({ z with lv := .slice (some ⟨g, 0, none⟩) z.cur.length cap, lc := c48, cur := z.cur.set (freeI z.c) ⟨true, nilS, []⟩ } : RM).setH vh ch (addH z.ch (freeI z.c))).heap]) (by repeat first | exact slR _ | exact slN _ | apply slC | apply slD) ?_
   refine j_q (qs_ac) ?_
   refine j_ret_con (vs := [_, _]) (fun w' hw' => ⟨rfl, rfl, trivial⟩) ?_
   refine ⟨rfl, _, rfl, hoz, rfl, ?_⟩
   unfold newQ
   rw [show z.ab.c = z.c from rfl, if_pos (by rw [rc_len]; omega)]
   unfold RM.ab RM.c RM.k RM.setH
   simp only [List.map_set]
   rfl
end Go.Proofs.YtfebkkmmagbnlaaGreatDoor
/-! Pg17 -/
namespace Go.Proofs.YtfebkkmmagbnlaaGreatDoor
open Go Go.Sx
set_option maxRecDepth 100000
set_option maxHeartbeats 4000000
set_option linter.unusedVariables false
set_option linter.unusedSimpArgs false
attribute [local irreducible] J JQ QS Con W opW
open Go.MapKept Go.WideMaps Go.Maps
structure SJ where
 kind : Int
 n : Int
 bv : Value
 xs : List UInt8
def encJ (x : SJ) : List Value := [.int .i64 x.kind, .int .i64 x.n, x.bv]
theorem encJ_len (x : SJ) : (encJ x).length = 3 := rfl
def intOk (n : Int) : Prop := -9223372036854775808 ≤ n ∧ n ≤ 9223372036854775807
structure SJ.Ok (w : World) (x : SJ) : Prop where
 k : intOk x.kind
 n : intOk x.n
 b : BR w x.bv x.xs ∧ x.xs.length ≤ 140737488351232
abbrev SJ0 : SJ := ⟨0, 0, .slice none 0 0, []⟩
theorem own_brp {b : Base} {S : List SH} {w : World} {xs ys : List UInt8} {g n cap : Nat} {c : SH} (ho : Sx.Own 5 1 (ints (xs ++ ys)) (.slice (some ⟨g, 0, none⟩) n cap) c) (k : Nat) (hk : S[k]? = some c) (hw : Sig b S w) (hc : xs.length ≤ cap) (hg : g < w.heap.size) : BR w (.slice (some ⟨g, 0, none⟩) xs.length cap) xs :=
 .inr ⟨_, cap, rfl, hc, fun _ => hg, fun j u hu => own_rd ho k hk w hw j u (by rw [ints_append]; exact getE_left hu)⟩
abbrev steps (rs : List SJ) : List Value := (rs.map encJ).flatten
theorem steps_get {rs : List SJ} {i k : Nat} {u : Value} (h : i < rs.length) (hk : (encJ (rs.getD i SJ0))[k]? = some u) : (steps rs)[i * 3 + k]? = some u := by
 have hk4 : k < 3 := by
  have := (List.getElem?_eq_some_iff.1 hk).1
  rw [encJ_len] at this
  exact this
 rw [flat_get encJ_len rs i k hk4, List.getElem?_eq_getElem h]
 rw [List.getD_eq_getElem?_getD, List.getElem?_eq_getElem h] at hk
 exact hk
def Script (w : World) (v : Value) (rs : List SJ) : Prop := RSlN 3 w v (steps rs) rs.length ∧ ∀ x ∈ rs, x.Ok w
theorem script_form {w : World} {v : Value} {rs : List SJ} (h : Script w v rs) : ∃ A cap g off, v = .slice A rs.length cap ∧ rs.length ≤ cap ∧ (0 < rs.length → A = some ⟨g, off, none⟩ ∧ g < w.heap.size ∧ Cells w ⟨g, off, none⟩ (steps rs)) := rsln_form h.1
theorem script_ok {w : World} {v : Value} {rs : List SJ} (h : Script w v rs) {i : Nat} (hi : i < rs.length) : (rs.getD i SJ0).Ok w := by
 refine h.2 _ ?_
 rw [List.getD_eq_getElem?_getD, List.getElem?_eq_getElem hi, Option.getD_some]
 exact List.getElem_mem hi
theorem script_keep {w w' : World} {v : Value} {rs : List SJ} (h : Script w v rs) {S : List SH} (hs : Sig ⟨w, dom []⟩ S w') : Script w' v rs := ⟨rsln_keep h.1 hs, fun x hx => ⟨(h.2 x hx).k, (h.2 x hx).n, br0 (h.2 x hx).b.1 hs, (h.2 x hx).b.2⟩⟩
theorem off3 (g off i k : Nat) : (⟨g, off + i * 3 + k, none⟩ : Addr) = (⟨g, off, none⟩ : Addr).add (i * 3 + k) := by rw [add_off, Nat.add_assoc]
def sumX (rs : List SJ) (i : Nat) : Nat := ((rs.take i).map fun x => x.xs.length).sum
theorem sumX_succ {rs : List SJ} {i : Nat} (h : i < rs.length) : sumX rs (i + 1) = sumX rs i + (rs.getD i SJ0).xs.length := by
 unfold sumX
 rw [List.take_add_one, List.getElem?_eq_getElem h, Option.toList_some, List.map_append, List.sum_append, List.getD_eq_getElem?_getD, List.getElem?_eq_getElem h]
 simp
theorem sumX_mono (rs : List SJ) {i j : Nat} (h : i ≤ j) : sumX rs i ≤ sumX rs j := by
 unfold sumX
 rw [show rs.take i = (rs.take j).take i by rw [List.take_take, Nat.min_eq_left h]]
 have h1 : ((rs.take j).map fun x => x.xs.length).sum = (((rs.take j).take i).map fun x => x.xs.length).sum + (((rs.take j).drop i).map fun x => x.xs.length).sum := by
  rw [← List.sum_append, ← List.map_append, List.take_append_drop]
 omega
theorem free_take {l : List PE} {i : Nat} (h : i < l.length) : freeN (l.take (i + 1)) = freeN (l.take i) + (if (l.getD i PE0).1 then 0 else 1) := freeN_take h
theorem pe_get {l : List PV} {i : Nat} (h : i < l.length) : (l.map PV.pe).getD i PE0 = ((l.getD i PV0).t, (l.getD i PV0).xs) := by
 rw [List.getD_eq_getElem?_getD, List.getElem?_map, List.getElem?_eq_getElem h, List.getD_eq_getElem?_getD, List.getElem?_eq_getElem h]
 rfl
theorem heavyJ_con (rs : List SJ) (v : Value) (w : World) (hs : Script w v rs) : Con Tryz.prog 20 [v] w [] fun u _ => ∃ hv : Bool, u = .bool hv ∧ (hv = false → ∀ i, i ≤ rs.length → i ≤ 120 → sumX rs i ≤ 12000) := by
 refine con_of_tree mix Tryz.func20 T20_ok (by kernel_rfl) ?_
 unfold T20
 obtain ⟨A, cap, g, off, rfl, hcap, hA⟩ := script_form hs
 refine j_q (qs_ac) ?_
 refine j_q (qs_ac) ?_
 refine j_q (qs_ac) ?_
 refine j_loop (fun m vs S' => ∃ (i : Nat), vs = [.int .i64 ((sumX rs i : Nat) : Int), .int .i64 (i : Int)] ∧ S' = [[]] ∧ sumX rs i ≤ 12000 ∧ i ≤ rs.length ∧ i ≤ 120 ∧ m = rs.length - i) ⟨_, 0, rfl, rfl, Nat.zero_le _, Nat.zero_le _, Nat.zero_le _, rfl⟩ ?_
 rintro m vs S' hlen ⟨i, rfl, rfl, hsx, hi, hi100, rfl⟩
 refine j_q (qs_lenl U45 rfl) ?_
 refine j_q (qs_lss rfl rfl) ?_
 refine j_g rfl (fun hb => qs_mt rfl) ?_
 refine j_g rfl (fun hb => qs_lss (gd_eq hb) rfl) ?_
 refine j_q (qs_and rfl rfl) ?_
 refine j_cond rfl (fun hc0 => ?_) (fun hc0 => ?_)
 ·skip
  have hb2 : i < rs.length ∧ i < 120 := by
   simp only [gd, Bool.and_eq_true, decide_eq_true_eq] at hc0
   omega
  obtain ⟨hi1, hi2⟩ := hb2
  obtain ⟨rfl, hgs, hcl⟩ := hA (by omega)
  obtain ⟨_, _, hxb, hxl⟩ := script_ok hs hi1
  obtain ⟨bA, bcp, hbf, _⟩ := br_form hxb
  refine j_q (qs_ixn (g := g) (off := off) (n := rs.length) (c := cap) (i := i) U45 sz55 rfl rfl hi1) ?_
  refine j_q (qs_field U55 rfl sz33 (by decide) rfl) ?_
  refine j_q (qs_loadR (v := (rs.getD i SJ0).bv) (a := ⟨g, off, none⟩) (i := i * 3 + 2) (rd_cells hcl (by simp)) U33 rfl (congrArg (fun z => Value.pointer (some z)) (off3 g off i 2)) (steps_get hi1 rfl)) ?_
  refine j_q (qs_lenl (n := (rs.getD i SJ0).xs.length) (A := bA) (c := bcp) U33 hbf) ?_
  refine j_q (qs_add64 rfl rfl (by first | omega | (simp only [bnA] at *; omega))) ?_
  refine j_q (qs_gtr rfl rfl) ?_
  refine j_cond rfl (fun hc1 => ?_) (fun hc1 => ?_)
  ·skip
   refine j_q (qs_ac) ?_
   refine j_ret_con (vs := [_]) (fun w' hw' => ⟨rfl, trivial⟩) ?_
   exact ⟨true, rfl, fun h => by cases h⟩
  ·skip
   have hle : ((sumX rs i : Nat) : Int) + ((rs.getD i SJ0).xs.length : Int) ≤ 12000 := by
    have h9 := of_decide_eq_false hc1
    omega
   refine j_q (qs_add64 rfl rfl (by first | omega | (simp only [bnA] at *; omega))) ?_
   refine j_back rfl ?_
   exact ⟨rs.length - (i + 1), by omega, i + 1, by rw [sumX_succ hi1, Int.natCast_add]; rfl, rfl, by rw [sumX_succ hi1]; omega, hi1, hi2, rfl⟩
 ·skip
  have hb2 : ¬ (i < rs.length ∧ i < 120) := by
   rintro ⟨h1, h2⟩
   have h3 : decide ((i : Int) < (rs.length : Int)) = true := by simpa using h1
   have h4 : decide ((i : Int) < 120) = true := by
    simp only [decide_eq_true_eq]
    omega
   rw [h3] at hc0
   simp only [gd, h4] at hc0
   simp at hc0
  refine j_q (qs_ac) ?_
  refine j_ret_con (vs := [_]) (fun w' hw' => ⟨rfl, trivial⟩) ?_
  exact ⟨false, rfl, fun _ j hj hj2 => Nat.le_trans (sumX_mono rs (show j ≤ i by omega)) hsx⟩
theorem stood_con (p : PM) (l : List PV) (v : Value) (c P : SH) (n : Int) (w : World) (hin : In w p.heap) (hok : p.Ok) (hown : Sx.Own 105 2 ((l.map encP).flatten) v c) (hp : ∀ x ∈ l, PVok P x) (hc : In w c) (hP : In w P) (hl : l.length ≤ 16384) (hn : -9223372036854775808 ≤ n ∧ n ≤ 9223372036854775807) (hT : TB w) : Con Tryz.prog 22 [p.ptr, v, .int .i64 n] w [] fun u _ => ∃ b : Bool, u = .bool b ∧ (p.c = l.map PV.pe → (n < 0 ∨ n = (((bitsL p.ws 0).length : Nat) : Int)) → b = true) := by
 refine con_of_tree mix Tryz.func22 T22_ok (by kernel_rfl) ?_
 unfold T22
 obtain ⟨A, cap, hcv, hA⟩ := row_formT hown
 subst hcv
 obtain ⟨g, hg⟩ : ∃ g, 0 < l.length → A = some ⟨g, 0, none⟩ := by
  rcases Nat.eq_zero_or_pos l.length with h | h
  ·exact ⟨0, fun h2 => by omega⟩
  ·obtain ⟨g, hg⟩ := hA h
   exact ⟨g, fun _ => hg⟩
 have hbx := hok.o.pc
 refine j_q (qs_ac) ?_
 refine j_q (qs_call ent18 rfl rfl rfl (fun w' hw' => count_con p w' (fun q hq => (hw'.frame q.1 (lt_of_get (hin q hq)) (by simp)).trans (hin q hq)) hok.o)) ?_
 refine j_q (qs_ext rfl rfl) ?_
 refine j_q (qs_ext rfl rfl) ?_
 refine j_q (qs_ac) ?_
 refine j_q (qs_ac) ?_
 refine j_loop (fun m vs S' => ∃ (i mm : Int), vs = [.int .i64 mm, .int .i64 i] ∧ S' = [[]] ∧ -1 ≤ i ∧ i ≤ (l.length : Int) + 1 ∧ 0 ≤ mm ∧ mm ≤ i + 1 ∧ (p.c = l.map PV.pe → mm = ((freeN ((l.map PV.pe).take i.toNat) : Nat) : Int)) ∧ m = ((l.length : Int) + 1 - i).toNat) ⟨_, -1, 0, rfl, rfl, by omega, by omega, by omega, by omega, (fun _ => rfl), rfl⟩ ?_
 rintro m vs S' hlen ⟨i, mm, rfl, rfl, hi1, hi2, hm1, hm2, hmf, rfl⟩
 obtain ⟨tt, htt⟩ : ∃ t, t = (l.getD i.toNat PV0).t := ⟨_, rfl⟩
 have hbo : (decide (i < 0) || decide (i ≥ (l.length : Int))) = false → 0 ≤ i ∧ i.toNat < l.length := fun h => by
  simp only [Bool.or_eq_false_iff, decide_eq_false_iff_not] at h
  omega
 refine j_q (qs_lenl (n := l.length) (A := A) (c := cap) U48 rfl) ?_
 refine j_q (qs_leq rfl rfl) ?_
 refine j_cond rfl (fun hc0 => ?_) (fun hc0 => ?_)
 ·skip
  have hi3 : i ≤ (l.length : Int) := by
   simp only [bnA] at *
   omega
  refine j_call0 ent14 rfl rfl rfl (fun w' hw' => get_con p i w' (fun q hq => (hw'.frame q.1 (lt_of_get (hin q hq)) (by simp)).trans (hin q hq)) hok.o (by omega)) (fun u S2 hu => ?_)
  obtain ⟨v8, c8, rfl, rfl, ho8⟩ := hu
  obtain ⟨hh, hhe⟩ : ∃ b, b = hasB p.c i := ⟨_, rfl⟩
  rw [← hhe] at ho8 ⊢
  obtain ⟨bb, hbb⟩ : ∃ b, b = (if hh = true then (p.c.getD i.toNat PE0).2 else []) := ⟨_, rfl⟩
  rw [← hbb] at ho8
  obtain ⟨n8, A8, cap8, rfl, hn8⟩ := own_form ho8 (by decide)
  rw [ints_length, Nat.mul_one] at hn8
  obtain ⟨e8, he8⟩ : ∃ e : Int, e = (if hh = true then 0 else 7) := ⟨_, rfl⟩
  rw [← he8]
  refine j_q (qs_ext rfl rfl) ?_
  refine j_q (qs_ext rfl rfl) ?_
  refine j_q (qs_lss rfl rfl) ?_
  refine j_g rfl (fun hb => qs_mt rfl) ?_
  refine j_g rfl (fun hb => qs_mt rfl) ?_
  refine j_g rfl (fun hb => qs_lenl (n := l.length) (A := A) (c := cap) U48 (gd_eq hb)) ?_
  refine j_g rfl (fun hb => qs_geq (gd_eq hb) (gd_eq hb)) ?_
  refine j_q (qs_or rfl rfl) ?_
  refine j_g rfl (fun hb => qs_mt rfl) ?_
  refine j_g rfl (fun hb => qs_mt rfl) ?_
  refine j_g rfl (fun hb => qs_ixn (g := g) (off := 0) (n := l.length) (c := cap) (i := i.toNat) U48 sz105 (by rw [← hg (by have h9 := hbo hb; omega)]; exact gd_eq hb) (by rw [Int.toNat_of_nonneg (hbo hb).1]; exact gd_eq hb) (by have h9 := hbo hb; omega)) ?_
  refine j_g rfl (fun hb => qs_field U105 rfl sz4 (by decide) (gd_eq hb)) ?_
  refine j_g (v := .bool tt) rfl (fun hb => by
   have h9 := hbo hb
   exact qs_loadR (a := ⟨g, 0, none⟩) (i := i.toNat * 2 + 0) (rd_cells (own_cellsN (by have h8 := hown; rw [hg (by omega)] at h8; exact h8) hc) (by simp)) U4 rfl ((gd_eq hb).trans (congrArg (fun q => Value.pointer (some q)) (off2 g i.toNat 0))) (by rw [htt]; exact pv_get (by omega) rfl)) ?_
  refine j_g rfl (fun hb => qs_not (gd_eq hb)) ?_
  refine j_q (qs_or rfl rfl) ?_
  refine j_cond rfl (fun hc1 => ?_) (fun hc1 => ?_)
  ·skip
   have hnr : ¬ (0 ≤ i ∧ i.toNat < l.length ∧ tt = true) := by
    rintro ⟨h1, h2, h3⟩
    have h4 : decide (i < 0) = false := by
     simp only [decide_eq_false_iff_not]
     omega
    have h5 : decide (i ≥ (l.length : Int)) = false := by
     simp only [decide_eq_false_iff_not]
     omega
    rw [h4, h5, h3] at hc1
    cases hc1
   have hnh : p.c = l.map PV.pe → hh = false := fun hE => by
    rw [hhe]
    cases hx : hasB p.c i
    ·rfl
    ·obtain ⟨h1, h2, h3⟩ := hasB_b hx
     rw [hE] at h2 h3
     rw [List.length_map] at h2
     rw [pe_get h2] at h3
     exact absurd ⟨h1, h2, htt.trans h3⟩ hnr
   refine j_q (qs_neq rfl rfl) ?_
   refine j_g rfl (fun hb => qs_mt rfl) ?_
   refine j_g rfl (fun hb => qs_lenl (n := n8) (A := A8) (c := cap8) U33 (gd_eq hb)) ?_
   refine j_g rfl (fun hb => qs_neq (gd_eq hb) rfl) ?_
   refine j_q (qs_or rfl rfl) ?_
   refine j_cond rfl (fun hc2 => ?_) (fun hc2 => ?_)
   ·skip
    refine j_q (qs_ac) ?_
    refine j_ret_con (vs := [_]) (fun w' hw' => ⟨rfl, trivial⟩) ?_
    refine ⟨false, rfl, fun hE _ => ?_⟩
    have h1 := hnh hE
    subst h1
    rw [hbb, if_neg (by decide)] at hn8
    rw [he8, ← hn8] at hc2
    simp [gd] at hc2
   ·skip
    refine j_q (qs_geq rfl rfl) ?_
    refine j_g rfl (fun hb => qs_mt rfl) ?_
    refine j_g rfl (fun hb => qs_mt rfl) ?_
    refine j_g rfl (fun hb => qs_lenl (n := l.length) (A := A) (c := cap) U48 (gd_eq hb)) ?_
    refine j_g rfl (fun hb => qs_lss (gd_eq hb) (gd_eq hb)) ?_
    refine j_q (qs_and rfl rfl) ?_
    refine j_cond rfl (fun hc3 => ?_) (fun hc3 => ?_)
    ·skip
     have hir : 0 ≤ i ∧ i.toNat < l.length := by
      simp only [gd, Bool.and_eq_true, decide_eq_true_eq] at hc3
      omega
     have htf : tt = false := by
      cases tt
      ·rfl
      ·exact absurd ⟨hir.1, hir.2, rfl⟩ hnr
     refine j_q (qs_add64 rfl rfl (by first | omega | (simp only [bnA] at *; omega))) ?_
     refine j_q (qs_add64 rfl rfl (by first | omega | (simp only [bnA] at *; omega))) ?_
     refine j_subl (S' := [[]]) (List.sublist_append_right _ _) ?_
     refine j_back rfl ?_
     refine ⟨_, by omega, i + 1, mm + 1, rfl, rfl, by omega, by omega, by omega, by omega, fun hE => ?_, rfl⟩
     rw [hmf hE, show (i + 1).toNat = i.toNat + 1 by omega, free_take (by rw [List.length_map]; exact hir.2), pe_get hir.2, ← htt, htf]
     rfl
    ·skip
     have hir : ¬ (0 ≤ i ∧ i.toNat < l.length) := by
      rintro ⟨h1, h2⟩
      have h4 : decide (i ≥ 0) = true := by
       simp only [decide_eq_true_eq]
       omega
      have h5 : decide (i < (l.length : Int)) = true := by
       simp only [decide_eq_true_eq]
       omega
      rw [h4, h5] at hc3
      cases hc3
     refine j_q (qs_add64 rfl rfl (by first | omega | (simp only [bnA] at *; omega))) ?_
     refine j_subl (S' := [[]]) (List.sublist_append_right _ _) ?_
     refine j_back rfl ?_
     refine ⟨_, by omega, i + 1, mm, rfl, rfl, by omega, by omega, by omega, by omega, fun hE => ?_, rfl⟩
     rw [hmf hE]
     rcases Int.lt_or_le i 0 with h | h
     ·rw [show (i + 1).toNat = i.toNat by omega]
     ·rw [List.take_of_length_le (by rw [List.length_map]; omega), List.take_of_length_le (by rw [List.length_map]; omega)]
  ·skip
   have hir : 0 ≤ i ∧ i.toNat < l.length ∧ tt = true := by
    cases tt
    ·simp at hc1
    ·simp only [Bool.or_eq_false_iff, decide_eq_false_iff_not] at hc1
     exact ⟨by omega, by omega, rfl⟩
   have hpx := hp _ (getD_mem (d := PV0) hir.2.1)
   have hbl : bb.length ≤ 100000 := by
    rw [hbb]
    split
    ·rename_i hx
     rw [hhe] at hx
     have h2 := (hasB_b hx).2.1
     rw [c_len] at h2
     rw [c_get p h2]
     exact (hbx _ (getD_mem h2)).le
    ·exact Nat.zero_le _
   have hyh : p.c = l.map PV.pe → hh = true ∧ bb = (l.getD i.toNat PV0).xs := fun hE => by
    have h1 : hh = true := by
     rw [hhe]
     unfold hasB
     rw [hE, List.length_map, pe_get hir.2.1, ← htt, hir.2.2]
     have h4 : decide (0 ≤ i) = true := by
      simp only [decide_eq_true_eq]
      omega
     have h5 : decide (i < (l.length : Int)) = true := by
      simp only [decide_eq_true_eq]
      omega
     rw [h4, h5]
     rfl
    refine ⟨h1, ?_⟩
    rw [hbb, if_pos h1, hE, pe_get hir.2.1]
   refine j_q (qs_neq rfl rfl) ?_
   refine j_g rfl (fun hb => qs_mt rfl) ?_
   refine j_g rfl (fun hb => qs_mt rfl) ?_
   refine j_g rfl (fun hb => qs_mt rfl) ?_
   refine j_g rfl (fun hb => qs_ixn (g := g) (off := 0) (n := l.length) (c := cap) (i := i.toNat) U48 sz105 (by rw [← hg (by omega)]; exact gd_eq hb) (by rw [Int.toNat_of_nonneg hir.1]; exact gd_eq hb) (by omega)) ?_
   refine j_g rfl (fun hb => qs_field U105 rfl sz33 (by decide) (gd_eq hb)) ?_
   refine j_g (v := (l.getD i.toNat PV0).v) rfl (fun hb => by
    exact qs_loadR (a := ⟨g, 0, none⟩) (i := i.toNat * 2 + 1) (rd_cells (own_cellsN (by have h8 := hown; rw [hg (by omega)] at h8; exact h8) hc) (by simp)) U33 rfl ((gd_eq hb).trans (congrArg (fun q => Value.pointer (some q)) (off2 g i.toNat 1))) (pv_get (by omega) rfl)) ?_
   refine j_g (v := .bool (bb == (l.getD i.toNat PV0).xs)) rfl (fun hb => qs_call ent25 rfl rfl (args2 (gd_eq hb) (gd_eq hb)) (fun w' hw' => same_con bb (l.getD i.toNat PV0).xs _ _ w' (own_br ho8 0 rfl hw') (hpx.br (fun q hq => (hw'.frame q.1 (lt_of_get (hP q hq)) (by simp)).trans (hP q hq))) (by omega))) ?_
   refine j_g rfl (fun hb => qs_not (gd_eq hb)) ?_
   refine j_q (qs_or rfl rfl) ?_
   refine j_cond rfl (fun hc4 => ?_) (fun hc4 => ?_)
   ·skip
    refine j_q (qs_ac) ?_
    refine j_ret_con (vs := [_]) (fun w' hw' => ⟨rfl, trivial⟩) ?_
    refine ⟨false, rfl, fun hE _ => ?_⟩
    obtain ⟨h1, h2⟩ := hyh hE
    subst h1
    rw [he8, h2] at hc4
    simp [gd] at hc4
   ·skip
    refine j_q (qs_add64 rfl rfl (by first | omega | (simp only [bnA] at *; omega))) ?_
    refine j_subl (S' := [[]]) (List.sublist_append_right _ _) ?_
    refine j_back rfl ?_
    refine ⟨_, by omega, i + 1, mm, rfl, rfl, by omega, by omega, by omega, by omega, fun hE => ?_, rfl⟩
    rw [hmf hE, show (i + 1).toNat = i.toNat + 1 by omega, free_take (by rw [List.length_map]; exact hir.2.1), pe_get hir.2.1, ← htt, hir.2.2]
    rfl
 ·skip
  have hi3 : i = (l.length : Int) + 1 := by
   simp only [bnA] at *
   omega
  refine j_q (qs_lenl (n := l.length) (A := A) (c := cap) U48 rfl) ?_
  refine j_q (qs_eql rfl rfl) ?_
  refine j_g rfl (fun hb => qs_mt rfl) ?_
  refine j_g rfl (fun hb => qs_mt rfl) ?_
  refine j_g rfl (fun hb => qs_eql (gd_eq hb) (gd_eq hb)) ?_
  refine j_q (qs_and rfl rfl) ?_
  refine j_g rfl (fun hb => qs_mt rfl) ?_
  refine j_g rfl (fun hb => qs_lss (gd_eq hb) rfl) ?_
  refine j_g rfl (fun hb => qs_move (gd_eq hb)) ?_
  refine j_gg rfl (fun hb hb1 => qs_mt rfl) ?_
  refine j_gg rfl (fun hb hb1 => qs_call ent19 rfl rfl (args1 (gd_eq2 hb hb1)) (fun w' hw' => dirty_con p w' (fun q hq => (hw'.frame q.1 (lt_of_get (hin q hq)) (by simp)).trans (hin q hq)) hok.o (hT.keep hw' (by simp)))) ?_
  refine j_gg rfl (fun hb hb1 => qs_mt rfl) ?_
  refine j_gg rfl (fun hb hb1 => qs_eql (gd_eq2 hb hb1) (gd_eq2 hb hb1)) ?_
  refine j_g rfl (fun hb => qs_or (gd_eq hb) (gd_eq hb)) ?_
  refine j_q (qs_and rfl rfl) ?_
  refine j_ret_con (vs := [_]) (fun w' hw' => ⟨rfl, trivial⟩) ?_
  refine ⟨_, rfl, fun hE hnn => ?_⟩
  have h1 : (p.c.length : Int) = (l.length : Int) := by rw [hE, List.length_map]
  have h2 : p.free = mm := by
   rw [hok.fr, hmf hE, hE, List.take_of_length_le (by rw [List.length_map]; omega)]
  rw [h1, h2]
  rcases hnn with h3 | h3
  ·simp [gd, h3]
  ·rw [h3]
   simp [gd]
end Go.Proofs.YtfebkkmmagbnlaaGreatDoor
/-! Pg18 -/
namespace Go.Proofs.YtfebkkmmagbnlaaGreatDoor
open Go Go.Sx
set_option maxRecDepth 100000
set_option maxHeartbeats 4000000
set_option linter.unusedVariables false
set_option linter.unusedSimpArgs false
attribute [local irreducible] J JQ QS Con W opW
theorem mem_addH (l : List Nat) (n k : Nat) : k ∈ addH l n ↔ k = n ∨ k ∈ l := by
 unfold addH
 split
 ·rename_i h
  exact ⟨.inr, fun h2 => h2.elim (fun e => e ▸ h) id⟩
 ·simp only [List.mem_append, List.mem_singleton]
  exact ⟨fun h => h.elim .inr .inl, fun h => h.elim .inr .inl⟩
theorem addH_nodup {l : List Nat} (h : l.Nodup) (n : Nat) : (addH l n).Nodup := by
 unfold addH
 split
 ·exact h
 ·rename_i hn
  refine List.nodup_append.2 ⟨h, by simp, fun a ha b hb e => ?_⟩
  rw [List.mem_singleton.1 hb] at e
  exact hn (e ▸ ha)
structure Rl (q : PAb) (r : QR) : Prop where
 c : r.c = q.c
 k : r.k = q.k
 nd : r.h.Nodup
 mem : ∀ n, n ∈ r.h ↔ n ∈ bitsL q.ws 0
theorem Rl.len {q : PAb} {r : QR} (h : Rl q r) : r.h.length = (bitsL q.ws 0).length := (nodup_perm h.nd (bitsL_nodup _ _) h.mem).length_eq
theorem Rl.lay {q : PAb} {r : QR} (h : Rl q r) (hw : q.ws.length = 256) {n : Nat} (hn : n < 16384) (x : PE) : Rl (layA q n x) ⟨q.c.set n x, q.k, addH r.h n⟩ :=
 ⟨rfl, rfl, addH_nodup h.nd n, fun k => by rw [mem_addH, h.mem]; exact (lay_mem hw hn k).symm⟩
theorem Rl.new {q : PAb} {r : QR} (h : Rl q r) (hw : q.ws.length = 256) (hl : q.c.length < 16384) : Rl (newA q) (newQ r) := by
 obtain ⟨rc, rk, rh⟩ := r
 obtain ⟨e1, e2, nd, mem⟩ := h
 simp only at e1 e2
 subst e1 e2
 have hf : freeI q.c ≤ q.c.length := List.findIdx_le_length
 exact Rl.lay (q := { q with c := if freeI q.c < q.c.length then q.c else q.c ++ [PE0] }) (r := ⟨if freeI q.c < q.c.length then q.c else q.c ++ [PE0], q.k, rh⟩) ⟨rfl, rfl, nd, mem⟩ hw (by omega) _
theorem Rl.putE {q : PAb} {r : QR} (h : Rl q r) (hd : q.dead = false) (n : Int) (xs : List UInt8) : putE q n xs = putQE r n xs := by
 unfold Go.Proofs.YtfebkkmmagbnlaaGreatDoor.putE putQE
 rw [hd, h.c]
 rfl
theorem Rl.put {q : PAb} {r : QR} (h : Rl q r) (hd : q.dead = false) (hw : q.ws.length = 256) (hl : q.c.length ≤ 16384) (n : Int) (xs : List UInt8) : Rl (putA q n xs) (putQ r n xs) := by
 unfold putA putQ
 rw [h.putE hd]
 split
 ·rename_i he
  have hb : hasB q.c n = true := by
   cases hx : hasB q.c n
   ·unfold putQE at he
    rw [h.c, hx] at he
    cases he
   ·rfl
  have h9 := hasB_b hb
  rw [h.c, h.k]
  exact h.lay hw (by omega) _
 ·exact h
theorem Rl.frE {q : PAb} {r : QR} (h : Rl q r) (hd : q.dead = false) (n : Int) : frE q n = frQE r n := by
 unfold Go.Proofs.YtfebkkmmagbnlaaGreatDoor.frE frQE
 rw [hd, h.c]
 rfl
theorem Rl.free {q : PAb} {r : QR} (h : Rl q r) (hd : q.dead = false) (hw : q.ws.length = 256) (hl : q.c.length ≤ 16384) (n : Int) : Rl (frA q n) (frQ r n) := by
 unfold frA frQ
 rw [h.frE hd]
 split
 ·rename_i he
  have hb : hasB q.c n = true := by
   cases hx : hasB q.c n
   ·unfold frQE at he
    rw [h.c, hx] at he
    cases he
   ·rfl
  have h9 := hasB_b hb
  rw [h.c, h.k]
  exact h.lay hw (by omega) _
 ·exact h
theorem Rl.drop {q : PAb} {r : QR} (h : Rl q r) : Rl { q with c := q.k, ws := List.replicate 256 0 } ⟨r.k, r.k, []⟩ := ⟨h.k, h.k, List.nodup_nil, fun n => by rw [bits_rep]⟩
theorem Rl.com {q q' : PAb} {r : QR} (h : Rl q r) (h1 : q'.c = q.c) (h2 : q'.k = q.c) (h3 : bitsL q'.ws 0 = []) : Rl q' ⟨r.c, r.c, []⟩ := ⟨h.c.trans h1.symm, h.c.trans h2.symm, List.nodup_nil, fun n => by rw [h3]⟩
theorem PQ.nodown {nm : List UInt8} {i b : Nat} {G : List (List (Nat × PE))} {q : PAb} {a : JA} {f : AF} (h : PQ nm i b G q a f) (hd : a.dead = false) : PQ nm i b G q ⟨pjName nm, 0, gsP G, [], false⟩ f := by
 have h1 := h.an
 have h2 := h.ag
 have h3 := h.gs
 have e : (⟨pjName nm, 0, gsP G, [], false⟩ : JA) = { a with down := [] } := by
  rw [← h1, ← h2, ← h3, ← hd]
 rw [e]
 exact ⟨h.ji, h.nh, h.an, h.ag, h.gs, h.kk, h.pr, h.wl, h.sz, h.ct, h.cl, h.kl, h.gn, h.go, h.xl, h.rm, h.pd⟩
structure StP (nm : List UInt8) (i b : Nat) (p : PM) (j : JM) (r : FR) (z : RM) (G : List (List (Nat × PE))) (q : PAb) (a : JA) (f : AF) : Prop where
 ok : p.Ok
 ab : p.ab = q
 jp : p.jp = j.ptr
 jo : j.Ok a
 fp : j.fp = r.ptr
 ro : r.Ok f
 zo : z.Ok
 rl : Rl q z.ab
 ad : a.dead = false
 qd : q.dead = false
 pq : PQ nm i b G q a f
def inMem (k : Int) : Prop := k = 1 ∨ k = 2 ∨ k = 3 ∨ k = 4 ∨ k = 6
abbrev PostP (nm : List UInt8) (i b : Nat) (x : SJ) (p : PM) (j : JM) (r : FR) (z : RM) (G : List (List (Nat × PE))) (a : JA) (f : AF) (u : Value) (S' : List SH) : Prop :=
 ∃ (p' : PM) (j' : JM) (r' : FR) (z' : RM) (G' : List (List (Nat × PE))) (q' : PAb) (a' : JA) (f' : AF), u = .tuple #[p'.ptr, .bool true] ∧ S' = [p'.heap, j'.heap, r'.heap, z'.heap] ∧ StP nm (i + 1) (b + x.xs.length) p' j' r' z' G' q' a' f' ∧ r'.gf = r.gf ∧ z'.g = z.g ∧ (f.fused = false → f'.fused = false) ∧ f'.room = f.room ∧ (inMem x.kind → j' = j ∧ r' = r ∧ a' = a ∧ f' = f ∧ G' = G ∧ p'.g = p.g)
theorem doesP_con (p : PM) (j : JM) (r : FR) (z : RM) (G : List (List (Nat × PE))) (q : PAb) (a : JA) (f : AF) (x : SJ) (i b : Nat) (w : World) (st : StP pagesN i b p j r z G q a f) (hfu : ¬ inMem x.kind → f.fused = false) (hroom : f.room = 16777216) (hi : i < 120) (hb : b + x.xs.length ≤ 12000) (hP : P10 w) (hT : TB w) (hQ0 : 0 ∉ dom (p.heap ++ (j.heap ++ (r.heap ++ z.heap)))) (hQ1 : 1 ∉ dom (p.heap ++ (j.heap ++ (r.heap ++ z.heap)))) (hx : x.Ok w) (hbr : BR w x.bv x.xs) (hbd : ∀ (y : Addr) (n c : Nat), x.bv = .slice (some y) n c → 0 < n → y.block ∉ dom (p.heap ++ (j.heap ++ (r.heap ++ z.heap)))) : Con Tryz.prog 21 [r.ptr, p.ptr, z.ptr, .agg (encJ x).toArray] w (p.heap ++ (j.heap ++ (r.heap ++ z.heap))) fun u S' => PostP pagesN i b x p j r z G a f u S' := by
 refine con_of_tree mix Tryz.func21 T21_ok (by kernel_rfl) ?_
 unfold T21
 obtain ⟨hok, hab, hjp, hjo, hfp, hro, hzo, hrl, had, hqd, hpq⟩ := st
 obtain ⟨bA, bcp, hbf, _⟩ := br_form hbr
 have hxk := hx.k
 have hxn := hx.n
 have hcl := hpq.cl
 have hwl := hpq.wl
 have hpd : p.dead = false := (d_ab hab).trans hqd
 have hpc : p.c = q.c := c_ab hab
 have hzc : z.c = q.c := hrl.c
 have hzk : z.k = q.k := hrl.k
 have hzl : z.cur.length = q.c.length := by rw [← rc_len, hzc]
 have hzh : z.ch.length ≤ 1000 := by
  have h9 : z.ch.length = (bitsL q.ws 0).length := hrl.len
  have := hpq.ct
  omega
 have hpl : p.cur.length = q.c.length := cur_len hab
 have hdz : ∀ (y : Addr) (n c : Nat), x.bv = .slice (some y) n c → 0 < n → y.block ∉ dom z.heap := fun y n c e h0 h1 => hbd y n c e h0 (by rw [dom, List.map_append, List.map_append, List.map_append]; exact List.mem_append_right _ (List.mem_append_right _ (List.mem_append_right _ h1)))
 have hQ0' : 0 ∉ dom (p.heap ++ (j.heap ++ r.heap)) := fun h => hQ0 (by
  simp only [dom, List.map_append, List.mem_append] at h ⊢
  rcases h with h | h | h
  ·exact .inl h
  ·exact .inr (.inl h)
  ·exact .inr (.inr (.inl h)))
 have hQ1' : 1 ∉ dom (p.heap ++ (j.heap ++ r.heap)) := fun h => hQ1 (by
  simp only [dom, List.map_append, List.mem_append] at h ⊢
  rcases h with h | h | h
  ·exact .inl h
  ·exact .inr (.inl h)
  ·exact .inr (.inr (.inl h)))
 refine j_perm (S' := [p.heap, j.heap, r.heap, z.heap]) (by simp) ?_
 refine j_box (l := encJ x) rfl (fun g0 hg0 hs0 => ?_)
 refine j_q (qs_ac) ?_
 refine j_q (qs_ac) ?_
 refine j_q (qs_field U55 rfl sz3 (by decide) rfl) ?_
 refine j_q (qs_load (l := encJ x) 0 U3 rfl rfl rfl rfl) ?_
 refine j_q (qs_eql rfl rfl) ?_
 refine j_cond rfl (fun hc0 => ?_) (fun hc0 => ?_)
 ·skip
  refine j_call 1 ent11 rfl rfl rfl rfl (fun w' hw' => pnew_con p w' hok (by omega)) (fun u S2 hu => ?_)
  obtain ⟨hu1, p1, rfl, hp1, hs1, hab1⟩ := hu
  rw [hpd, hab, if_neg (by simp)] at hab1
  rw [hpd, if_neg (by simp), hpc] at hu1
  subst hu1
  refine j_subl (S' := [p1.heap, j.heap, r.heap, z.heap]) (by repeat first | exact slR _ | exact slN _ | apply slC | apply slD) ?_
  refine j_q (qs_ext rfl rfl) ?_
  refine j_q (qs_ext rfl rfl) ?_
  refine j_call 3 ent45 rfl rfl rfl rfl (fun w' hw' => rnew_con z w' hzo (by omega) hzh) (fun u S2 hu => ?_)
  obtain ⟨rfl, z1, rfl, hz1, hgz1, habz1⟩ := hu
  rw [hzc]
  refine j_subl (S' := [z1.heap, p1.heap, j.heap, r.heap]) (by repeat first | exact slR _ | exact slN _ | apply slC | apply slD) ?_
  refine j_perm (S' := [p1.heap, j.heap, r.heap, z1.heap]) (by
   classical
   refine List.perm_iff_count.2 fun x => ?_
   simp only [List.set, List.flatten_cons, List.flatten_nil, List.append_nil, List.nil_append, List.cons_append, List.count_append, List.count_cons, List.count_nil]
   all_goals omega) ?_
  refine j_q (qs_ext rfl rfl) ?_
  refine j_q (qs_ext rfl rfl) ?_
  refine j_q (qs_eql rfl rfl) ?_
  refine j_g rfl (fun hb => qs_mt rfl) ?_
  refine j_g rfl (fun hb => qs_mt rfl) ?_
  refine j_g rfl (fun hb => qs_eql (gd_eq hb) (gd_eq hb)) ?_
  refine j_q (qs_and rfl rfl) ?_
  refine j_ret_con (vs := [_, _]) (fun w' hw' => ⟨rfl, rfl, trivial⟩) ?_
  refine ⟨p1, j, r, z1, G, _, a, f, (by first | (simp [gd, PM.ptr, hs1.g]; done) | (simp [gd, PM.ptr, hs1.g]; rfl) | (simp [gd]; rfl)), rfl, ⟨hp1, hab1, hs1.jp.trans hjp, hjo, hfp, hro, hz1, ?_, had, ?_, ?_⟩, rfl, hgz1, id, rfl, (fun _ => ⟨rfl, rfl, rfl, rfl, rfl, hs1.g⟩)⟩
  ·rw [habz1]
   exact hrl.new hwl (by omega)
  ·exact hqd
  ·exact (hpq.new (by omega)).le (Nat.le_add_right _ _)
 ·skip
  refine j_q (qs_eql rfl rfl) ?_
  refine j_cond rfl (fun hc1 => ?_) (fun hc1 => ?_)
  ·skip
   refine j_mix [[(g0, .cells (encJ x).toArray 55 (0, 0))]] (Le.of_sub (by repeat first | exact slR _ | exact slN _ | apply slC | apply slD)) ?_
   refine j_mq (qs_field U55 rfl sz3 (by decide) rfl) ?_
   refine j_mq (qs_load (l := encJ x) 0 U3 rfl rfl rfl rfl) ?_
   refine j_mq (qs_field U55 rfl sz3 (by decide) rfl) ?_
   refine j_mq (qs_load (l := encJ x) 0 U3 rfl rfl rfl rfl) ?_
   refine j_call 1 ent13 rfl rfl rfl rfl (fun w' hw' => pfree_con p x.n w' hok hxn) (fun u S2 hu => ?_)
   obtain ⟨rfl, p1, rfl, hp1, hs1, hab1⟩ := hu
   rw [hab] at hab1 ⊢
   refine j_subl (S' := [p1.heap, [(g0, .cells (encJ x).toArray 55 (0, 0))], j.heap, r.heap, z.heap]) (by repeat first | exact slR _ | exact slN _ | apply slC | apply slD) ?_
   refine j_mD0 (Le.of_sub (by repeat first | exact slR _ | exact slN _ | apply slC | apply slD)) ?_
   refine j_call 4 ent46 rfl rfl rfl rfl (fun w' hw' => rfree_con z x.n w' hzo hxn hzh) (fun u S2 hu => ?_)
   obtain ⟨rfl, z1, rfl, hz1, hgz1, habz1⟩ := hu
   rw [← hrl.frE hqd]
   refine j_subl (S' := [z1.heap, p1.heap, [(g0, .cells (encJ x).toArray 55 (0, 0))], j.heap, r.heap]) (by repeat first | exact slR _ | exact slN _ | apply slC | apply slD) ?_
   refine j_mD0 (Le.of_sub (by repeat first | exact slR _ | exact slN _ | apply slC | apply slD)) ?_
   refine j_mq (qs_eql rfl rfl) ?_
   refine j_mend ?_
   refine j_subl (S' := [z1.heap, p1.heap, j.heap, r.heap]) (by repeat first | exact slR _ | exact slN _ | apply slC | apply slD) ?_
   refine j_perm (S' := [p1.heap, j.heap, r.heap, z1.heap]) (by
    classical
    refine List.perm_iff_count.2 fun x => ?_
    simp only [List.set, List.flatten_cons, List.flatten_nil, List.append_nil, List.nil_append, List.cons_append, List.count_append, List.count_cons, List.count_nil]
    all_goals omega) ?_
   refine j_ret_con (vs := [_, _]) (fun w' hw' => ⟨rfl, rfl, trivial⟩) ?_
   refine ⟨p1, j, r, z1, G, _, a, f, (by first | (simp [gd, PM.ptr, hs1.g]; done) | (simp [gd, PM.ptr, hs1.g]; rfl) | (simp [gd]; rfl)), rfl, ⟨hp1, hab1, hs1.jp.trans hjp, hjo, hfp, hro, hz1, ?_, had, ?_, ?_⟩, rfl, hgz1, id, rfl, (fun _ => ⟨rfl, rfl, rfl, rfl, rfl, hs1.g⟩)⟩
   ·rw [habz1]
    exact hrl.free hqd hwl (by omega) x.n
   ·exact (frA_dead _ _).trans hqd
   ·exact (hpq.free (by omega) x.n).le (Nat.le_add_right _ _)
  ·skip
   refine j_q (qs_eql rfl rfl) ?_
   refine j_cond rfl (fun hc2 => ?_) (fun hc2 => ?_)
   ·skip
    refine j_q (qs_field U55 rfl sz33 (by decide) rfl) ?_
    refine j_q (qs_load (l := encJ x) 0 U33 rfl rfl rfl rfl) ?_
    refine j_call0 ent47 rfl rfl rfl (fun w' hw' => roomy_con x.bv x.xs w' (br_keep hbr hbd hw') (by omega)) (fun u S2 hu => ?_)
    obtain ⟨g, cap, c, rfl, hown, rfl⟩ := hu
    have hcap := own_cap hown
    obtain ⟨rest, fz, rfl, hr2, hr3, hr4, hr5⟩ := own_row hown
    have hown2 : Sx.Own 5 1 (ints (x.xs ++ [171])) (.slice (some ⟨g, 0, none⟩) (x.xs.length + 1) cap) [(g, .cells (ints (x.xs ++ [171, 171]) ++ rest).toArray 5 fz)] := by
     have e : ints (x.xs ++ [171, 171]) ++ rest = ints (x.xs ++ [171]) ++ (.int .u8 171 :: rest) := by simp [ints]
     rw [e] at hr3 hr5 ⊢
     exact own_mk (by rw [ints_length, List.length_append, List.length_singleton, Nat.mul_one]) hr3 (by omega) hr5
    refine j_mix [[(g0, .cells (encJ x).toArray 55 (0, 0))]] (Le.of_sub (by repeat first | exact slR _ | exact slN _ | apply slC | apply slD)) ?_
    refine j_mq (qs_field U55 rfl sz3 (by decide) rfl) ?_
    refine j_mq (qs_load (l := encJ x) 0 U3 rfl rfl rfl rfl) ?_
    refine j_mq (qs_field U55 rfl sz33 (by decide) rfl) ?_
    refine j_mq (qs_load (l := encJ x) 0 U33 rfl rfl rfl rfl) ?_
    refine j_mq (qs_lenl (n := x.xs.length) (A := bA) (c := bcp) U33 hbf) ?_
    refine j_mq (qs_cutl (a := 0) (z := x.xs.length) U33 sz5 rfl rfl ⟨.i64, rfl⟩ (by omega) (by omega)) ?_
    rw [if_neg (by omega), Nat.sub_zero, Nat.sub_zero]
    refine j_mq (qs_field U55 rfl sz3 (by decide) rfl) ?_
    refine j_mq (qs_load (l := encJ x) 0 U3 rfl rfl rfl rfl) ?_
    refine j_mq (qs_field U55 rfl sz33 (by decide) rfl) ?_
    refine j_mq (qs_load (l := encJ x) 0 U33 rfl rfl rfl rfl) ?_
    refine j_call 2 ent12 rfl rfl rfl rfl (fun w' hw' => put_con p x.n _ x.xs w' hok hxn (own_brp hown 0 rfl hw' (by omega) (lt_of_get (hw'.own (g, .cells (ints (x.xs ++ [171, 171]) ++ rest).toArray 5 fz) (by simp)))) (fun y n c e h0 => by
     injection e with e1 e2 e3
     injection e1 with e1
     subst e1
     exact nodup_two hw'.nodup (i := 0) (j := 2) (by decide) rfl rfl g (by simp [dom])) (by omega)) (fun u S2 hu => ?_)
    obtain ⟨rfl, p1, rfl, hp1, hs1, hab1⟩ := hu
    rw [hab] at hab1 ⊢
    refine j_subl (S' := [p1.heap, [(g, .cells (ints (x.xs ++ [171, 171]) ++ rest).toArray 5 fz)], [(g0, .cells (encJ x).toArray 55 (0, 0))], j.heap, r.heap, z.heap]) (by repeat first | exact slR _ | exact slN _ | apply slC | apply slD) ?_
    refine j_mD0 (Le.of_sub (by repeat first | exact slR _ | exact slN _ | apply slC | apply slD)) ?_
    refine j_call 5 ent48 rfl rfl rfl rfl (fun w' hw' => rput_con z x.n x.bv x.xs w' hzo hxn (br_keep hbr hbd hw') hdz (by omega) hzh) (fun u S2 hu => ?_)
    obtain ⟨rfl, z1, rfl, hz1, hgz1, habz1⟩ := hu
    rw [← hrl.putE hqd]
    refine j_subl (S' := [z1.heap, p1.heap, [(g, .cells (ints (x.xs ++ [171, 171]) ++ rest).toArray 5 fz)], [(g0, .cells (encJ x).toArray 55 (0, 0))], j.heap, r.heap]) (by repeat first | exact slR _ | exact slN _ | apply slC | apply slD) ?_
    refine j_mR _ (.refl _) ?_
    refine j_mq (qs_eql rfl rfl) ?_
    refine j_mg rfl (fun hb => qs_mt rfl) ?_
    refine j_mg rfl (fun hb => qs_field U55 rfl sz33 (by decide) rfl) ?_
    refine j_mg rfl (fun hb2 => qs_load (l := encJ x) 3 U33 rfl (gd_eq hb2) rfl rfl) ?_
    refine j_g (v := .bool true) rfl (fun hb2 => qs_call ent49 rfl rfl (args2 (gd_eq hb2) (gd_eq hb2)) (fun w' hw' => stands_con g cap x.bv x.xs w' (lt_of_get (hw'.own (g, .cells (ints (x.xs ++ [171, 171]) ++ rest).toArray 5 fz) (by simp))) (own_rd hown 2 rfl w' hw') (by omega) (br_keep hbr hbd hw') (by omega))) ?_
    refine j_mR _ (.refl _) ?_
    refine j_mq (qs_and rfl rfl) ?_
    refine j_mend ?_
    refine j_call 2 ent50 rfl rfl rfl rfl (fun w' hw' => spoil_con (x.xs ++ [171]) _ _ w' hown2 (by rw [List.length_append]; show x.xs.length + 1 ≤ _; omega)) (fun u S2 _ => ?_)
    refine j_subl (S' := [z1.heap, p1.heap, j.heap, r.heap]) (by
     refine List.Sublist.trans ?_ (List.sublist_append_right _ _)
     exact (by repeat first | exact slR _ | exact slN _ | apply slC | apply slD)) ?_
    refine j_perm (S' := [p1.heap, j.heap, r.heap, z1.heap]) (by
     classical
     refine List.perm_iff_count.2 fun x => ?_
     simp only [List.set, List.flatten_cons, List.flatten_nil, List.append_nil, List.nil_append, List.cons_append, List.count_append, List.count_cons, List.count_nil]
     all_goals omega) ?_
    refine j_ret_con (vs := [_, _]) (fun w' hw' => ⟨rfl, rfl, trivial⟩) ?_
    refine ⟨p1, j, r, z1, G, _, a, f, (by first | (simp [gd, PM.ptr, hs1.g]; done) | (simp [gd, PM.ptr, hs1.g]; rfl) | (simp [gd]; rfl)), rfl, ⟨hp1, hab1, hs1.jp.trans hjp, hjo, hfp, hro, hz1, ?_, had, ?_, ?_⟩, rfl, hgz1, id, rfl, (fun _ => ⟨rfl, rfl, rfl, rfl, rfl, hs1.g⟩)⟩
    ·rw [habz1]
     exact hrl.put hqd hwl (by omega) x.n x.xs
    ·exact (putA_dead _ _ _).trans hqd
    ·exact hpq.put (by omega) x.n x.xs (by omega)
   ·skip
    refine j_q (qs_eql rfl rfl) ?_
    refine j_cond rfl (fun hc3 => ?_) (fun hc3 => ?_)
    ·skip
     refine j_q (qs_field U55 rfl sz3 (by decide) rfl) ?_
     refine j_q (qs_load (l := encJ x) 0 U3 rfl rfl rfl rfl) ?_
     refine j_call0 ent14 rfl rfl rfl (fun w' hw' => get_con p x.n w' (in_own hw' 1 rfl) hok.o hxn) (fun u S2 hu => ?_)
     obtain ⟨v51, c51, rfl, rfl, ho51⟩ := hu
     rw [hpc] at ho51 ⊢
     obtain ⟨bb, hbb⟩ : ∃ b, b = (if hasB q.c x.n = true then (q.c.getD x.n.toNat PE0).2 else []) := ⟨_, rfl⟩
     have hbl : bb.length ≤ 100000 := by
      rw [hbb]
      split
      ·exact getD_len _ _ hpq.xl.1
      ·exact Nat.zero_le _
     rw [← hbb] at ho51
     refine j_q (qs_ext rfl rfl) ?_
     refine j_q (qs_ext rfl rfl) ?_
     refine j_q (qs_field U55 rfl sz3 (by decide) rfl) ?_
     refine j_q (qs_load (l := encJ x) 1 U3 rfl rfl rfl rfl) ?_
     refine j_call0 ent51 rfl rfl rfl (fun w' hw' => rget_con z x.n w' (in_own hw' 5 rfl) hzo hxn) (fun u S2 hu => ?_)
     obtain ⟨v56, c56, rfl, rfl, ho56⟩ := hu
     rw [hzc] at ho56 ⊢
     rw [← hbb] at ho56
     refine j_q (qs_ext rfl rfl) ?_
     refine j_q (qs_ext rfl rfl) ?_
     refine j_q (qs_call ent25 rfl rfl rfl (fun w' hw' => same_con bb bb _ _ w' (own_br ho51 1 rfl hw') (own_br ho56 0 rfl hw') (by omega))) ?_
     refine j_g rfl (fun hb => qs_mt rfl) ?_
     refine j_g rfl (fun hb => qs_mt rfl) ?_
     refine j_g rfl (fun hb => qs_eql (gd_eq hb) (gd_eq hb)) ?_
     refine j_q (qs_and rfl rfl) ?_
     refine j_call 1 ent50 rfl rfl rfl rfl (fun w' hw' => spoil_con bb _ _ w' ho51 (by omega)) (fun u S2 _ => ?_)
     refine j_subl (S' := [p.heap, j.heap, r.heap, z.heap]) (by
      refine List.Sublist.trans ?_ (List.sublist_append_right _ _)
      exact (by repeat first | exact slR _ | exact slN _ | apply slC | apply slD)) ?_
     refine j_ret_con (vs := [_, _]) (fun w' hw' => ⟨rfl, rfl, trivial⟩) ?_
     exact ⟨p, j, r, z, G, q, a, f, (by first | (simp [gd]; done) | (simp [gd]; rfl)), rfl, ⟨hok, hab, hjp, hjo, hfp, hro, hzo, hrl, had, hqd, hpq.up (Nat.le_add_right _ _)⟩, rfl, rfl, id, rfl, fun _ => ⟨rfl, rfl, rfl, rfl, rfl, rfl⟩⟩
    ·skip
     refine j_q (qs_eql rfl rfl) ?_
     refine j_cond rfl (fun hc4 => ?_) (fun hc4 => ?_)
     ·skip
      have hk5 : x.kind = 5 := by simpa using hc4
      have hnm : ¬ inMem x.kind := by
       rw [hk5]
       unfold inMem
       omega
      have hfz := hfu hnm
      refine j_perm (S' := [p.heap ++ (j.heap ++ r.heap), [(g0, .cells (encJ x).toArray 55 (0, 0))], z.heap]) (by
       classical
       refine List.perm_iff_count.2 fun x => ?_
       simp only [List.set, List.flatten_cons, List.flatten_nil, List.append_nil, List.nil_append, List.cons_append, List.count_append, List.count_cons, List.count_nil]
       all_goals omega) ?_
      refine j_call 0 ent16 rfl rfl rfl rfl (fun w' hw' => pcomF_con p j r pagesN i b G q a f w' hpq hab hok hjo hro hjp hfp had hqd hfz (by omega) (by omega) (by decide) (by rw [hroom]; omega) (hP.keep hw' hQ1) (hT.keep hw' hQ0) hQ0' hQ1') (fun u S2 hu => ?_)
      obtain ⟨rfl, p1, j1, r1, f1, rfl, hcq, hfz1, hrm1⟩ := hu
      obtain ⟨hp1, hs1, ⟨G1, q1, a1, hpq1, hab1, hqc1, hqk1, hqb1, hqd1, hj1, had1⟩, hr1, hgj1, hfp1, hgf1⟩ := hcq
      refine j_subl (S' := [p1.heap, j1.heap, r1.heap, z.heap]) (by repeat first | exact slR _ | exact slN _ | apply slC | apply slD) ?_
      refine j_call 3 ent23 rfl rfl rfl rfl (fun w' hw' => rcom_con z w' hzo) (fun u S2 hu => ?_)
      obtain ⟨rfl, z1, rfl, hz1, hgz1, habz1⟩ := hu
      refine j_subl (S' := [z1.heap, p1.heap, j1.heap, r1.heap]) (by repeat first | exact slR _ | exact slN _ | apply slC | apply slD) ?_
      refine j_perm (S' := [p1.heap, j1.heap, r1.heap, z1.heap]) (by
       classical
       refine List.perm_iff_count.2 fun x => ?_
       simp only [List.set, List.flatten_cons, List.flatten_nil, List.append_nil, List.nil_append, List.cons_append, List.count_append, List.count_cons, List.count_nil]
       all_goals omega) ?_
      refine j_q (qs_eql rfl rfl) ?_
      refine j_ret_con (vs := [_, _]) (fun w' hw' => ⟨rfl, rfl, trivial⟩) ?_
      refine ⟨p1, j1, r1, z1, G1, q1, a1, f1, (by first | (simp [gd, PM.ptr, hs1.g]; done) | (simp [gd, PM.ptr, hs1.g]; rfl) | (simp [gd]; rfl)), rfl, ⟨hp1, hab1, (hs1.jp.trans hjp).trans (by rw [JM.ptr, JM.ptr, hgj1]), hj1, (hfp1.trans hfp).trans (by rw [FR.ptr, FR.ptr, hgf1]), hr1, hz1, ?_, had1, hqd1, hpq1.le (Nat.le_add_right _ _)⟩, hgf1, hgz1, fun _ => hfz1, hrm1, fun h => absurd h hnm⟩
      rw [habz1]
      exact hrl.com hqc1 hqk1 hqb1
     ·skip
      refine j_q (qs_eql rfl rfl) ?_
      refine j_cond rfl (fun hc5 => ?_) (fun hc5 => ?_)
      ·skip
       refine j_call 1 ent17 rfl rfl rfl rfl (fun w' hw' => pdrop_con p w' hok.o) (fun u S2 hu => ?_)
       obtain ⟨rfl, v1, c1, rfl, hp1⟩ := hu
       have hab1 : (p.drop v1 c1).ab = { q with c := q.k, ws := List.replicate 256 0 } := by
        rw [← hab]
        rfl
       refine j_subl (S' := [(p.drop v1 c1).heap, j.heap, r.heap, z.heap]) (by repeat first | exact slR _ | exact slN _ | apply slC | apply slD) ?_
       refine j_call 3 ent52 rfl rfl rfl rfl (fun w' hw' => rdrop_con z w' hzo) (fun u S2 hu => ?_)
       obtain ⟨rfl, z1, rfl, hz1, hgz1, habz1⟩ := hu
       refine j_subl (S' := [z1.heap, (p.drop v1 c1).heap, j.heap, r.heap]) (by repeat first | exact slR _ | exact slN _ | apply slC | apply slD) ?_
       refine j_perm (S' := [(p.drop v1 c1).heap, j.heap, r.heap, z1.heap]) (by
        classical
        refine List.perm_iff_count.2 fun x => ?_
        simp only [List.set, List.flatten_cons, List.flatten_nil, List.append_nil, List.nil_append, List.cons_append, List.count_append, List.count_cons, List.count_nil]
        all_goals omega) ?_
       refine j_q (qs_ac) ?_
       refine j_ret_con (vs := [_, _]) (fun w' hw' => ⟨rfl, rfl, trivial⟩) ?_
       refine ⟨p.drop v1 c1, j, r, z1, G, _, a, f, rfl, rfl, ⟨hp1, hab1, hjp, hjo, hfp, hro, hz1, ?_, had, hqd, hpq.drop.le (Nat.le_add_right _ _)⟩, rfl, hgz1, id, rfl, fun _ => ⟨rfl, rfl, rfl, rfl, rfl, rfl⟩⟩
       rw [habz1]
       exact hrl.drop
      ·skip
       refine j_q (qs_eql rfl rfl) ?_
       refine j_cond rfl (fun hc6 => ?_) (fun hc6 => ?_)
       ·skip
        refine j_q (qs_field U55 rfl sz3 (by decide) rfl) ?_
        refine j_q (qs_load (l := encJ x) 0 U3 rfl rfl rfl rfl) ?_
        have hk7 : x.kind = 7 := by simpa using hc6
        have hnm : ¬ inMem x.kind := by
         rw [hk7]
         unfold inMem
         omega
        refine j_call 3 ent24 rfl rfl rfl rfl (fun w' hw' => crashG_con r f x.n w' hro) (fun u S2 hu => ?_)
        obtain ⟨r1, rfl, hr1, hgr1⟩ := hu
        refine j_subl (S' := [r1.heap, z.heap]) (by repeat first | exact slR _ | exact slN _ | apply slC | apply slD) ?_
        refine j_call 1 ent52 rfl rfl rfl rfl (fun w' hw' => rdrop_con z w' hzo) (fun u S2 hu => ?_)
        obtain ⟨rfl, z1, rfl, hz1, hgz1, habz1⟩ := hu
        refine j_subl (S' := [z1.heap, r1.heap]) (by repeat first | exact slR _ | exact slN _ | apply slC | apply slD) ?_
        refine j_perm (S' := [r1.heap, z1.heap]) (by
         classical
         refine List.perm_iff_count.2 fun x => ?_
         simp only [List.set, List.flatten_cons, List.flatten_nil, List.append_nil, List.nil_append, List.cons_append, List.count_append, List.count_cons, List.count_nil]
         all_goals omega) ?_
        have hpqn := hpq.crash x.n
        obtain ⟨hon1, hon2⟩ := hpqn.openNow
        have hlim := hpqn.limG (by omega) (by omega)
        rw [show r.ptr = r1.ptr from by rw [FR.ptr, FR.ptr, hgr1]]
        refine j_call0 ent10 rfl rfl rfl (fun w' hw' => popen_con r1 (crashF f x.n) pagesN G w' (in_own hw' 0 rfl) hr1 (by decide) hon1 hon2 hlim hpqn.go (hP.keep hw' hQ1)) (fun u S2 hu => ?_)
        obtain ⟨p1, j1, rfl, rfl, hp1, hpf1, hpn1, hpj1, hj1, hjf1, hab1⟩ := hu
        have hab2 : p1.ab = { q with c := q.k, ws := List.replicate 256 0 } := by
         rw [hab1]
         exact PAb.ext' hpq.kk.symm hpq.kk.symm rfl hqd.symm
        refine j_q (qs_ext rfl rfl) ?_
        refine j_q (qs_ext rfl rfl) ?_
        refine j_q (qs_eql rfl rfl) ?_
        rw [show ((0 : Int) == 0) = true from rfl]
        refine j_gt rfl (qs_mt rfl) ?_
        refine j_gt rfl (qs_pnnil U27 rfl) ?_
        refine j_q (qs_and rfl rfl) ?_
        refine j_ret_con (vs := [_, _]) (fun w' hw' => ⟨rfl, rfl, trivial⟩) ?_
        refine ⟨p1, j1, r1, z1, G, _, _, crashF f x.n, rfl, rfl, ⟨hp1, hab2, hpj1, hj1, hjf1, hr1, hz1, ?_, rfl, hqd, (hpqn.nodown had).le (Nat.le_add_right _ _)⟩, hgr1, hgz1, fun _ => rfl, rfl, fun h => absurd h hnm⟩
        rw [habz1]
        exact hrl.drop
       ·skip
        refine j_subl (S' := [r.heap, z.heap]) (by repeat first | exact slR _ | exact slN _ | apply slC | apply slD) ?_
        refine j_call 1 ent52 rfl rfl rfl rfl (fun w' hw' => rdrop_con z w' hzo) (fun u S2 hu => ?_)
        obtain ⟨rfl, z1, rfl, hz1, hgz1, habz1⟩ := hu
        refine j_subl (S' := [z1.heap, r.heap]) (by repeat first | exact slR _ | exact slN _ | apply slC | apply slD) ?_
        refine j_perm (S' := [r.heap, z1.heap]) (by
         classical
         refine List.perm_iff_count.2 fun x => ?_
         simp only [List.set, List.flatten_cons, List.flatten_nil, List.append_nil, List.nil_append, List.cons_append, List.count_append, List.count_cons, List.count_nil]
         all_goals omega) ?_
        have hpqn := hpq.drop
        obtain ⟨hon1, hon2⟩ := hpqn.openNow
        have hlim := hpqn.limG (by omega) (by omega)
        refine j_call0 ent10 rfl rfl rfl (fun w' hw' => popen_con r f pagesN G w' (in_own hw' 0 rfl) hro (by decide) hon1 hon2 hlim hpqn.go (hP.keep hw' hQ1)) (fun u S2 hu => ?_)
        obtain ⟨p1, j1, rfl, rfl, hp1, hpf1, hpn1, hpj1, hj1, hjf1, hab1⟩ := hu
        have hab2 : p1.ab = { q with c := q.k, ws := List.replicate 256 0 } := by
         rw [hab1]
         exact PAb.ext' hpq.kk.symm hpq.kk.symm rfl hqd.symm
        refine j_q (qs_ext rfl rfl) ?_
        refine j_q (qs_ext rfl rfl) ?_
        refine j_q (qs_eql rfl rfl) ?_
        rw [show ((0 : Int) == 0) = true from rfl]
        refine j_gt rfl (qs_mt rfl) ?_
        refine j_gt rfl (qs_pnnil U27 rfl) ?_
        refine j_q (qs_and rfl rfl) ?_
        refine j_ret_con (vs := [_, _]) (fun w' hw' => ⟨rfl, rfl, trivial⟩) ?_
        have hnm : ¬ inMem x.kind := by
         unfold inMem
         simp at hc0 hc1 hc2 hc3 hc4 hc5
         omega
        refine ⟨p1, j1, r, z1, G, _, _, f, rfl, rfl, ⟨hp1, hab2, hpj1, hj1, hjf1, hro, hz1, ?_, rfl, hqd, (hpqn.nodown had).le (Nat.le_add_right _ _)⟩, rfl, hgz1, id, rfl, fun h => absurd h hnm⟩
        rw [habz1]
        exact hrl.drop
end Go.Proofs.YtfebkkmmagbnlaaGreatDoor
/-! Pgj -/
namespace Go.Proofs.YtfebkkmmagbnlaaGreatDoor
open Go Go.Sx Go.ChangeShapes Go.WideShapes Go.ChangeAt Go.RowKit
set_option linter.unusedVariables false
set_option maxRecDepth 100000
theorem j_gn {P : Program} {R : Ending → World → Prop} {env : Env} {b : Base} {S : List SH} {B : JB} {T : Tree} {c : Operand} {want : Bool} {o : Oper} (hne : ev env c ≠ .bool want) (h : J P R T (undef :: env) S b B) : J P R (.gop c want o T) env S b B := fun w hw =>
 ⟨fun e => absurd e hne, fun _ => h w hw⟩
end Go.Proofs.YtfebkkmmagbnlaaGreatDoor
/-! Pg19 -/
namespace Go.Proofs.YtfebkkmmagbnlaaGreatDoor
open Go Go.Sx
set_option maxRecDepth 100000
set_option maxHeartbeats 4000000
set_option linter.unusedVariables false
set_option linter.unusedSimpArgs false
attribute [local irreducible] J JQ QS Con W opW
open Go.MapKept Go.WideMaps Go.Maps
abbrev RM0 (g : Nat) : RM := ⟨g, nilS, [], [], nilS, [], [], nilS, [], [], []⟩
theorem rm0_ok (g : Nat) : (RM0 g).Ok := ⟨own_nil, own_nil, own_nil, (fun x hx => by cases hx), (fun x hx => by cases hx), Nat.zero_le _, Nat.zero_le _⟩
theorem rl0 (g : Nat) : Rl Q0 (RM0 g).ab := ⟨rfl, rfl, List.nodup_nil, fun n => by rw [show Q0.ws = List.replicate 256 0 from rfl, bits_rep]; exact Iff.rfl⟩
end Go.Proofs.YtfebkkmmagbnlaaGreatDoor
