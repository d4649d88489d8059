/- Part 10. -/
import Derived.Test.YtfebkkmmagbnlaaGreatDoorPR9
import Derived.Test.YtfebkkmmagbnlaaGreatDoorPR8
import Derived.Test.YtfebkkmmagbnlaaGreatDoorPR3
import Derived.Test.YtfebkkmmagbnlaaGreatDoorRows
import Derived.ProofKit
import Derived.LaidMore
import Derived.Lib.LaidTab
import Derived.Stop.LaidErr
import Derived.MakeChecks
import Derived.SevenTiedAt
import Derived.Test.YtfebkkmmagbnlaaGreatDoorCards
import Derived.Test.YtfebkkmmagbnlaaGreatDoorTie
import Derived.Carry
import Derived.SizedLaws
/-! Pg11 -/
namespace Go.Proofs.YtfebkkmmagbnlaaGreatDoor
open Go Go.Sx Go.MapKept Go.WideMaps Go.Maps
set_option maxRecDepth 100000
set_option linter.unusedVariables false
attribute [local irreducible] sum
theorem used_pos {r : FR} {a : AF} (h : r.Ok a) : 0 ≤ a.now.used := by
  obtain ⟨_, ⟨_, _, h1⟩, ⟨_, _, h2⟩⟩ := h.now
  omega
theorem burnt_no {f : AF} (h : f.fused = false) : burnt f = false := by
  unfold burnt
  rw [h]
  rfl
theorem comE_no {a : JA} {f : AF} {id : Nat} (hd : a.dead = false) (h : f.fused = false) : comE a f id = 0 := by
  have h2 : burnt (stepF f (comT a id)) = false := burnt_no h
  unfold comE
  rw [hd, burnt_no h, h2]
  simp
theorem comJ_0 {a : JA} {f : AF} {id : Nat} (he : comE a f id = 0) : comJ a f id = if a.down = [] then a else { a with gs := a.gs ++ [a.down], down := [] } := by
  unfold comE at he
  unfold comJ
  cases hd : a.dead <;> rw [hd] at he
  · simp only [if_neg (show ¬ (false = true) by simp)] at he ⊢
    split
    · rfl
    · rename_i hdn
      rw [if_neg hdn] at he
      split at he
      · cases he
      · rename_i hb
        rw [if_neg hb]
        split at he
        · cases he
        · rename_i hb2
          rw [if_neg hb2]
  · cases he
theorem comA_room (a : JA) (f : AF) (id : Nat) : (comA a f id).room = f.room ∧ (comA a f id).fused = f.fused ∧ (comA a f id).pend.length ≤ f.pend.length + 1 := by
  unfold comA
  repeat' split
  all_goals first | exact ⟨rfl, rfl, Nat.le_succ _⟩ | exact ⟨rfl, rfl, by show (f.pend ++ [_]).length ≤ _; rw [List.length_append]; exact Nat.le_refl _⟩ | exact ⟨rfl, rfl, Nat.zero_le _⟩
theorem grpE_len2 {g : List (List UInt8)} (h : limR g) : (grpE g).length ≤ sizeR g + 600 := by
  have h0 := grpE_lim h
  have h1 := recsE_len (rs := g) fun x hx => Nat.le_trans (sizeR_get hx) h.2
  have h2 := num_len (show g.length < 268435456 by have := h.1; omega)
  have h3 : (bodyE g).length = (num g.length).length + (recsE g).length := by unfold bodyE; rw [List.length_append]
  have h4 := bodyE_lim h
  have h5 := num_len (show (bodyE g).length < 268435456 by omega)
  have h6 : (grpE g).length = (num (bodyE g).length).length + ((bodyE g).length + 32) := by unfold grpE; rw [List.length_append, List.length_append, sum_length]
  have := h.1
  omega
theorem gsE_len2 {gs : List (List (List UInt8))} (h : ∀ g ∈ gs, limR g) : (gsE gs).length ≤ sizeG gs + gs.length * 600 := by
  induction gs with
  | nil => exact Nat.le_refl _
  | cons g gs ih =>
    have h1 := ih fun x hx => h x (List.mem_cons_of_mem _ hx)
    have h2 := grpE_len2 (h g (List.mem_cons_self ..))
    rw [gsE_cons, List.length_append, List.length_cons]
    have h3 : sizeG (g :: gs) = sizeR g + sizeG gs := by unfold sizeG; rw [List.map_cons, List.sum_cons]
    omega
def szg (g : List (Nat × PE)) : Nat := (g.map fun r => r.2.2.length).sum
def szG (G : List (List (Nat × PE))) : Nat := (G.map szg).sum
def cnG (G : List (List (Nat × PE))) : Nat := (G.map List.length).sum
theorem recP_le {n : Nat} {x : PE} (h : n < 16384) : (recP (n, x)).length ≤ x.2.length + 5 := by
  have h1 := recP_len n x
  have h2 := num_len (show n < 268435456 by omega)
  omega
theorem sizeR_recG {g : List (Nat × PE)} (h : ∀ r ∈ g, r.1 < 16384) : sizeR (recG g) ≤ szg g + 5 * g.length := by
  induction g with
  | nil => exact Nat.le_refl _
  | cons r g ih =>
    have h1 := ih fun x hx => h x (List.mem_cons_of_mem _ hx)
    have h2 := recP_le (x := r.2) (h r (List.mem_cons_self ..))
    have e1 : sizeR (recG (r :: g)) = (recP r).length + sizeR (recG g) := by show ((recP r :: recG g).map List.length).sum = _; unfold sizeR; rw [List.map_cons, List.sum_cons]
    have e2 : szg (r :: g) = r.2.2.length + szg g := by unfold szg; rw [List.map_cons, List.sum_cons]
    rw [List.length_cons]
    have h3 : (recP r).length ≤ r.2.2.length + 5 := h2
    omega
theorem szG_mem {G : List (List (Nat × PE))} {g : List (Nat × PE)} (h : g ∈ G) : szg g ≤ szG G ∧ g.length ≤ cnG G := by
  induction G with
  | nil => cases h
  | cons x G ih =>
    have e1 : szG (x :: G) = szg x + szG G := by unfold szG; rw [List.map_cons, List.sum_cons]
    have e2 : cnG (x :: G) = x.length + cnG G := by unfold cnG; rw [List.map_cons, List.sum_cons]
    rcases List.mem_cons.1 h with rfl | h
    · omega
    · have := ih h
      omega
theorem sizeG_gsP {G : List (List (Nat × PE))} (h : okG G) : sizeG (gsP G) ≤ szG G + 5 * cnG G := by
  induction G with
  | nil => exact Nat.le_refl _
  | cons x G ih =>
    have h1 := ih fun g hg => h g (List.mem_cons_of_mem _ hg)
    have h2 := sizeR_recG fun r hr => (h x (List.mem_cons_self ..) r hr).1
    have e1 : szG (x :: G) = szg x + szG G := by unfold szG; rw [List.map_cons, List.sum_cons]
    have e2 : cnG (x :: G) = x.length + cnG G := by unfold cnG; rw [List.map_cons, List.sum_cons]
    have e3 : sizeG (gsP (x :: G)) = sizeR (recG x) + sizeG (gsP G) := by show ((recG x :: gsP G).map sizeR).sum = _; unfold sizeG; rw [List.map_cons, List.sum_cons]
    omega
theorem cnG_ge {G : List (List (Nat × PE))} (h : ∀ g ∈ G, g ≠ []) : G.length ≤ cnG G := by
  induction G with
  | nil => exact Nat.le_refl _
  | cons x G ih =>
    have h1 := ih fun g hg => h g (List.mem_cons_of_mem _ hg)
    have e2 : cnG (x :: G) = x.length + cnG G := by unfold cnG; rw [List.map_cons, List.sum_cons]
    have h2 : 0 < x.length := List.length_pos_iff.2 (h x (List.mem_cons_self ..))
    rw [List.length_cons]
    omega
def grpD (c : List PE) (D : List Nat) : List (Nat × PE) := D.map fun n => (n, c.getD n PE0)
theorem recsD_eq (c : List PE) (D : List Nat) : recsD c D = recG (grpD c D) := by
  unfold recsD grpD recG
  rw [List.map_map]
  rfl
theorem szg_grpD (c : List PE) (D : List Nat) : szg (grpD c D) = szD c D := by
  unfold szg grpD szD
  rw [List.map_map]
  rfl
theorem getD_len (c : List PE) (n : Nat) {b : Nat} (h : ∀ x ∈ c, x.2.length ≤ b) : (c.getD n PE0).2.length ≤ b := by
  rw [List.getD_eq_getElem?_getD]
  rcases hx : c[n]? with _ | x
  · exact Nat.zero_le _
  · exact h x (List.mem_of_getElem? hx)
structure PQ (nm : List UInt8) (i b : Nat) (G : List (List (Nat × PE))) (q : PAb) (a : JA) (f : AF) : Prop where
  ji : JI (14000 * (i : Int)) i i a f
  nh : AllF (fun s => alook s.nm nm = none) f
  an : a.name = pjName nm
  ag : a.age = 0
  gs : a.gs = gsP G
  kk : q.k = replay G
  pr : PR q.k q.c (bitsL q.ws 0)
  wl : q.ws.length = 256
  sz : szG G + szD q.c (bitsL q.ws 0) ≤ b
  ct : cnG G + (bitsL q.ws 0).length ≤ i
  cl : q.c.length ≤ i
  kl : q.k.length ≤ i
  gn : ∀ g ∈ G, g ≠ []
  go : okG G
  xl : (∀ x ∈ q.c, x.2.length ≤ 100000) ∧ ∀ x ∈ q.k, x.2.length ≤ 100000
  rm : f.room ≤ 1073741824
  pd : f.pend.length ≤ i
variable {nm : List UInt8} {i b : Nat} {G : List (List (Nat × PE))} {q : PAb} {a : JA} {f : AF}
theorem PQ.limG (h : PQ nm i b G q a f) (hi : i ≤ 130) (hb : b ≤ 12000) : limG (gsP G) := by
  have h1 := cnG_ge h.gn
  have h2 := h.ct
  have h3 := h.sz
  refine ⟨by rw [List.length_map]; omega, fun g hg => ?_⟩
  obtain ⟨z, hz, rfl⟩ := List.mem_map.1 hg
  have h4 := szG_mem hz
  have h5 := sizeR_recG fun r hr => (h.go z hz r hr).1
  exact ⟨by rw [List.length_map]; omega, by omega⟩
theorem PQ.dlt (h : PQ nm i b G q a f) (hi : i ≤ 130) : ∀ n ∈ bitsL q.ws 0, n < q.c.length ∧ n < 16384 := fun n hn => by
  have h1 := h.pr.lt n hn
  have h2 := h.cl
  exact ⟨h1, by omega⟩
theorem PQ.dsz (h : PQ nm i b G q a f) (hi : i ≤ 130) (hb : b ≤ 12000) : sizeR (recsD q.c (bitsL q.ws 0)) ≤ 12700 ∧ (bitsL q.ws 0).length ≤ 130 ∧ limR (recsD q.c (bitsL q.ws 0)) := by
  have h1 := sizeR_recG (g := grpD q.c (bitsL q.ws 0)) fun r hr => by
    obtain ⟨n, hn, rfl⟩ := List.mem_map.1 hr
    exact (h.dlt hi n hn).2
  rw [szg_grpD, ← recsD_eq] at h1
  have h2 : (grpD q.c (bitsL q.ws 0)).length = (bitsL q.ws 0).length := List.length_map _
  have h3 := h.sz
  have h4 := h.ct
  have h5 : (recsD q.c (bitsL q.ws 0)).length = (bitsL q.ws 0).length := List.length_map _
  exact ⟨by omega, by omega, by omega, by omega⟩
theorem PQ.comOk (h : PQ nm i b G q a f) (hi : i ≤ 125) (hb : b ≤ 12000) (hu : 0 ≤ f.now.used) (hn : nm.length ≤ 90) (hr : 14000 * ((i + 1 : Nat) : Int) ≤ f.room) : ComOk { a with down := recsD q.c (bitsL q.ws 0) } f i := by
  have hl := h.limG (by omega) hb
  obtain ⟨hd1, hd2, hd3⟩ := h.dsz (by omega) hb
  obtain ⟨hj, hs, hbd⟩ := AllF.now h.ji
  have hg := grpE_lim hd3
  have h1 := sizeG_gsP h.go
  have h2 := h.ct
  have h3 := h.sz
  have h4 := gsE_len2 hl.2
  have h5 := cnG_ge h.gn
  have h6 := hbd.us
  have h7 := hbd.nm
  have h8 := h.pd
  have h9 : (gsP G).length = G.length := List.length_map _
  have h10 := dec_len (show 0 < 10000 by decide)
  refine ⟨hj, by show a.gs.length ≤ 129; rw [h.gs]; omega, by show ∀ g ∈ a.gs, limR g; rw [h.gs]; exact hl.2, hd3, by show sizeG a.gs ≤ _; rw [h.gs]; omega, by show (gsE a.gs).length + _ ≤ _; rw [h.gs]; show _ + (grpE (recsD q.c (bitsL q.ws 0))).length ≤ _; omega, h.rm, ⟨hu, by show f.now.used + ((grpE (recsD q.c (bitsL q.ws 0))).length : Int) ≤ _; omega⟩, by omega, by omega, hbd.fresh, by show a.age < 10000; rw [h.ag]; decide, ?_⟩
  show a.name.length ≤ 100
  rw [h.an]
  unfold pjName
  rw [List.length_append, List.length_append]
  show nm.length + 2 + _ ≤ _
  omega
theorem PQ.up (h : PQ nm i b G q a f) {b' : Nat} (hb : b ≤ b') : PQ nm (i + 1) b' G q a f :=
  ⟨h.ji.mono (by omega) (Nat.le_succ i) (Nat.le_succ i), h.nh, h.an, h.ag, h.gs, h.kk, h.pr, h.wl, Nat.le_trans h.sz hb, Nat.le_succ_of_le h.ct, Nat.le_succ_of_le h.cl, Nat.le_succ_of_le h.kl, h.gn, h.go, h.xl, h.rm, Nat.le_succ_of_le h.pd⟩
theorem PQ.le (h : PQ nm i b G q a f) {b' : Nat} (hb : b ≤ b') : PQ nm i b' G q a f :=
  ⟨h.ji, h.nh, h.an, h.ag, h.gs, h.kk, h.pr, h.wl, Nat.le_trans h.sz hb, h.ct, h.cl, h.kl, h.gn, h.go, h.xl, h.rm, h.pd⟩
theorem lay_mem {ws : List Nat} (hw : ws.length = 256) {n : Nat} (hn : n < 16384) (k : Nat) : k ∈ bitsL (ws.set (n / 64) (ws.getD (n / 64) 0 ||| 2 ^ (n % 64))) 0 ↔ k = n ∨ k ∈ bitsL ws 0 := mem_bits_set (by omega)
theorem PQ.lay (h : PQ nm i b G q a f) (hi : i ≤ 130) {n : Nat} (hn : n < q.c.length) (x : PE) (hx : x.2.length ≤ 100000) : PQ nm (i + 1) (b + x.2.length) G (layA q n x) a f := by
  have hcl := h.cl
  have hm := lay_mem h.wl (n := n) (by omega)
  have h0 := h.up (Nat.le_add_right b x.2.length)
  obtain ⟨h1, h2⟩ := szD_add (cur := q.c) (cur' := q.c.set n x) (x := x) (bitsL_nodup q.ws 0) (bitsL_nodup _ 0) hm (by rw [getD_set _ _ _ _ _ hn, if_pos rfl]) (fun k hk _ => by rw [getD_set _ _ _ _ _ hn, if_neg hk])
  have h3 := h.sz
  have h4 := h.ct
  have hlc : (layA q n x).c = q.c.set n x := rfl
  have hws : (layA q n x).ws = q.ws.set (n / 64) (q.ws.getD (n / 64) 0 ||| 2 ^ (n % 64)) := rfl
  refine ⟨h0.ji, h0.nh, h0.an, h0.ag, h0.gs, h0.kk, h.pr.set hn x hm, by show (List.set _ _ _).length = _; rw [List.length_set]; exact h.wl, by rw [hlc, hws]; omega, by rw [hws]; omega, by show (q.c.set n x).length ≤ _; rw [List.length_set]; omega, h0.kl, h0.gn, h0.go, ⟨fun y hy => ?_, h.xl.2⟩, h0.rm, h0.pd⟩
  rcases List.mem_or_eq_of_mem_set hy with hy | rfl
  · exact h.xl.1 y hy
  · exact hx
theorem PQ.push (h : PQ nm i b G q a f) (hi : i ≤ 130) : PQ nm (i + 1) b G (layA { q with c := q.c ++ [PE0] } q.c.length (true, [])) a f := by
  have hcl := h.cl
  have hm := lay_mem h.wl (n := q.c.length) (by omega)
  have h0 := h.up (Nat.le_refl b)
  have hset : (q.c ++ [PE0]).set q.c.length (true, []) = q.c ++ [(true, [])] := by
    rw [List.set_append_right _ _ (Nat.le_refl _), Nat.sub_self]
    rfl
  have e : (layA { q with c := q.c ++ [PE0] } q.c.length (true, [])).c = q.c ++ [(true, [])] := hset
  obtain ⟨h1, h2⟩ := szD_add (cur := q.c) (cur' := q.c ++ [(true, [])]) (x := (true, [])) (bitsL_nodup q.ws 0) (bitsL_nodup _ 0) hm (by rw [List.getD_eq_getElem?_getD, List.getElem?_append_right (Nat.le_refl _), Nat.sub_self]; rfl) (fun k hk hkD => by
    have h9 := h.pr.lt k hkD
    rw [List.getD_eq_getElem?_getD, List.getD_eq_getElem?_getD, List.getElem?_append_left h9])
  have h3 := h.sz
  have h4 := h.ct
  have h5 : (([] : List UInt8)).length = 0 := rfl
  have hws : (layA { q with c := q.c ++ [PE0] } q.c.length (true, [])).ws = q.ws.set (q.c.length / 64) (q.ws.getD (q.c.length / 64) 0 ||| 2 ^ (q.c.length % 64)) := rfl
  simp only at h1
  refine ⟨h0.ji, h0.nh, h0.an, h0.ag, h0.gs, h0.kk, by rw [e]; exact h.pr.push _ hm, by show (List.set _ _ _).length = _; rw [List.length_set]; exact h.wl, by rw [e, hws]; omega, by rw [hws]; omega, by rw [e, List.length_append, List.length_singleton]; omega, h0.kl, h0.gn, h0.go, ⟨fun y hy => ?_, h.xl.2⟩, h0.rm, h0.pd⟩
  rw [e] at hy
  rcases List.mem_append.1 hy with hy | hy
  · exact h.xl.1 y hy
  · rw [List.mem_singleton.1 hy]
    exact Nat.zero_le _
theorem PQ.new (h : PQ nm i b G q a f) (hi : i ≤ 130) : PQ nm (i + 1) b G (newA q) a f := by
  rcases Nat.lt_or_ge (freeI q.c) q.c.length with h1 | h1
  · rw [newA_lt h1]
    exact h.lay hi h1 (true, []) (Nat.zero_le _)
  · have h2 : freeI q.c = q.c.length := Nat.le_antisymm List.findIdx_le_length h1
    rw [newA_ge h2]
    exact h.push hi
theorem PQ.put (h : PQ nm i b G q a f) (hi : i ≤ 130) (n : Int) (xs : List UInt8) (hx : xs.length ≤ 100000) : PQ nm (i + 1) (b + xs.length) G (putA q n xs) a f := by
  unfold putA
  split
  · rename_i he
    have hh : hasB q.c n = true := by
      unfold putE at he
      split at he
      · cases he
      · split at he
        · rename_i h9; exact h9
        · cases he
    exact h.lay hi (hasB_b hh).2.1 (true, xs) hx
  · exact h.up (Nat.le_add_right _ _)
theorem PQ.free (h : PQ nm i b G q a f) (hi : i ≤ 130) (n : Int) : PQ nm (i + 1) b G (frA q n) a f := by
  unfold frA
  split
  · rename_i he
    have hh : hasB q.c n = true := by
      unfold frE at he
      split at he
      · cases he
      · split at he
        · rename_i h9; exact h9
        · cases he
    exact h.lay hi (hasB_b hh).2.1 PE0 (Nat.zero_le _)
  · exact h.up (Nat.le_refl _)
theorem szD_nil (c : List PE) : szD c [] = 0 := rfl
theorem PQ.drop (h : PQ nm i b G q a f) : PQ nm (i + 1) b G { q with c := q.k, ws := List.replicate 256 0 } a f := by
  have h0 := h.up (Nat.le_refl b)
  have hsz := h0.sz
  have hct := h0.ct
  refine ⟨h0.ji, h0.nh, h0.an, h0.ag, h0.gs, h0.kk, by show PR q.k q.k (bitsL (List.replicate 256 0) 0); rw [bits_rep]; exact PR.refl _, List.length_replicate .., by show szG G + szD q.k (bitsL (List.replicate 256 0) 0) ≤ b; rw [bits_rep, szD_nil]; omega, by show cnG G + (bitsL (List.replicate 256 0) 0).length ≤ _; rw [bits_rep]; show cnG G + 0 ≤ _; omega, h0.kl, h0.kl, h0.gn, h0.go, ⟨h.xl.2, h.xl.2⟩, h0.rm, h0.pd⟩
theorem pj_ne (nm : List UInt8) (p : Nat) : fileN (pjName nm) 0 p ≠ nm := fun h => by
  have := congrArg List.length h
  unfold fileN pjName at this
  simp only [List.length_append, List.length_cons] at this
  omega
theorem nh_do {s : AS} (h : alook s.nm nm = none) (hn : a.name = pjName nm) (ha : a.age = 0) (id : Nat) : alook (doA s (comT a id)).nm nm = none := by
  unfold comT
  split
  · show alook (writeA s _ _ id).nm nm = none
    rw [alook_write, if_neg (by rw [hn, ha]; exact pj_ne nm 0)]
    exact h
  · show alook (appA s _ _).nm nm = none
    rw [alook_appA]
    exact h
theorem nh_com (h : AllF (fun s => alook s.nm nm = none) f) (hn : a.name = pjName nm) (ha : a.age = 0) (id : Nat) : AllF (fun s => alook s.nm nm = none) (comA a f id) := by
  have hs : AllF (fun s => alook s.nm nm = none) (stepF f (comT a id)) := h.step (nh_do h.now hn ha id)
  unfold comA
  repeat' split
  all_goals first | exact h | exact hs | exact AllF.sync hs.now
theorem PQ.com (h : PQ nm i b G q a f) (hi : i ≤ 125) (hb : b ≤ 12000) (hD : bitsL q.ws 0 ≠ []) (he : comE { a with down := recsD q.c (bitsL q.ws 0) } f i = 0) : PQ nm (i + 1) b (G ++ [grpD q.c (bitsL q.ws 0)]) ⟨q.c, q.c, List.replicate 256 0, q.dead⟩ (aftJ { a with down := recsD q.c (bitsL q.ws 0) } f i) (comA { a with down := recsD q.c (bitsL q.ws 0) } f i) := by
  obtain ⟨hd1, hd2, hd3⟩ := h.dsz (by omega) hb
  have hg := grpE_lim hd3
  have hdn : recsD q.c (bitsL q.ws 0) ≠ [] := fun e => hD (List.eq_nil_of_length_eq_zero (by
    have h9 : (recsD q.c (bitsL q.ws 0)).length = (bitsL q.ws 0).length := List.length_map _
    rw [← h9, e]
    rfl))
  have h0 := comA_room { a with down := recsD q.c (bitsL q.ws 0) } f i
  have hj0 : JI (14000 * (i : Int)) i i { a with down := recsD q.c (bitsL q.ws 0) } f := h.ji
  have h1 : JI (14000 * ((i + 1 : Nat) : Int)) (i + 1) (i + 1) (comJ { a with down := recsD q.c (bitsL q.ws 0) } f i) (comA { a with down := recsD q.c (bitsL q.ws 0) } f i) := (hj0.com he).mono (by show _ + ((grpE (recsD q.c (bitsL q.ws 0))).length : Int) ≤ _; omega) (Nat.le_refl _) (Nat.le_refl _)
  have e1 : aftJ { a with down := recsD q.c (bitsL q.ws 0) } f i = comJ { a with down := recsD q.c (bitsL q.ws 0) } f i := by unfold aftJ; rw [if_pos he]
  have e2 := comJ_0 he
  rw [if_neg hdn] at e2
  have hsz := h.sz
  have hct := h.ct
  have e3 : szG (G ++ [grpD q.c (bitsL q.ws 0)]) = szG G + szD q.c (bitsL q.ws 0) := by
    unfold szG
    rw [List.map_append, List.sum_append, ← szg_grpD]
    simp
  have e4 : cnG (G ++ [grpD q.c (bitsL q.ws 0)]) = cnG G + (bitsL q.ws 0).length := by
    unfold cnG grpD
    rw [List.map_append, List.sum_append]
    simp
  have hp := h.pd
  rw [e1]
  refine ⟨h1, nh_com h.nh (a := { a with down := recsD q.c (bitsL q.ws 0) }) h.an h.ag i, by rw [e2]; exact h.an, by rw [e2]; exact h.ag, ?_, ?_, ?_, List.length_replicate .., ?_, ?_, Nat.le_succ_of_le h.cl, Nat.le_succ_of_le h.cl, ?_, ?_, ⟨h.xl.1, h.xl.1⟩, by rw [h0.1]; exact h.rm, by omega⟩
  · rw [e2]
    show a.gs ++ [recsD q.c (bitsL q.ws 0)] = _
    rw [h.gs, recsD_eq]
    unfold gsP
    rw [List.map_append]
    rfl
  · show q.c = replay (G ++ [grpD q.c (bitsL q.ws 0)])
    rw [replay_snoc, ← h.kk]
    exact h.pr.replay.symm
  · show PR q.c q.c (bitsL (List.replicate 256 0) 0)
    rw [bits_rep]
    exact PR.refl _
  · show szG (G ++ [grpD q.c (bitsL q.ws 0)]) + szD q.c (bitsL (List.replicate 256 0) 0) ≤ b
    rw [bits_rep, szD_nil, e3]
    omega
  · show cnG (G ++ [grpD q.c (bitsL q.ws 0)]) + (bitsL (List.replicate 256 0) 0).length ≤ _
    rw [bits_rep, e4]
    show _ + 0 ≤ _
    omega
  · intro g hg9
    rcases List.mem_append.1 hg9 with hg9 | hg9
    · exact h.gn g hg9
    · rw [List.mem_singleton.1 hg9]
      unfold grpD
      intro e
      exact hD (List.map_eq_nil_iff.1 e)
  · intro g hg9 r hr
    rcases List.mem_append.1 hg9 with hg9 | hg9
    · exact h.go g hg9 r hr
    · rw [List.mem_singleton.1 hg9] at hr
      obtain ⟨n, hn, rfl⟩ := List.mem_map.1 hr
      exact ⟨(h.dlt (by omega) n hn).2, getD_len _ _ h.xl.1⟩
theorem PQ.new0 {nm : List UInt8} {room : Int} (h : room ≤ 1073741824) : PQ nm 0 0 [] ⟨[], [], List.replicate 256 0, false⟩ ⟨pjName nm, 0, [], [], false⟩ (AF0 room) := by
  refine ⟨JI.new, AllF.new rfl, rfl, rfl, rfl, rfl, ?_, List.length_replicate .., ?_, ?_, Nat.le_refl _, Nat.le_refl _, (fun g hg => by cases hg), (fun g hg => by cases hg), ⟨(fun x hx => by cases hx), (fun x hx => by cases hx)⟩, h, Nat.le_refl _⟩
  · show PR [] [] (bitsL (List.replicate 256 0) 0)
    rw [bits_rep]
    exact PR.refl _
  · show szG [] + szD [] (bitsL (List.replicate 256 0) 0) ≤ 0
    rw [bits_rep]
    exact Nat.le_refl _
  · show cnG [] + (bitsL (List.replicate 256 0) 0).length ≤ 0
    rw [bits_rep]
    exact Nat.le_refl _
theorem PQ.openNow (h : PQ nm i b G q a f) : alook f.now.nm nm = none ∧ JS (pjName nm) 0 (gsP G) f.now := by
  refine ⟨h.nh.now, ?_⟩
  have h9 := (AllF.now h.ji).1
  rw [h.an, h.ag, h.gs] at h9
  exact h9
end Go.Proofs.YtfebkkmmagbnlaaGreatDoor
/-! Pg12 -/
namespace Go.Proofs.YtfebkkmmagbnlaaGreatDoor
open Go Go.Sx
set_option maxRecDepth 100000
set_option maxHeartbeats 4000000
set_option linter.unusedVariables false
set_option linter.unusedSimpArgs false
attribute [local irreducible] J JQ QS Con W opW
open Go.MapKept Go.WideMaps Go.Maps
attribute [local irreducible] sum gsE headE fileN contA readE grpE fillE
theorem PAb.ext' {x y : PAb} (h1 : x.c = y.c) (h2 : x.k = y.k) (h3 : x.ws = y.ws) (h4 : x.dead = y.dead) : x = y := by
  cases x
  cases y
  simp only at h1 h2 h3 h4
  subst h1 h2 h3 h4
  rfl
structure ComQ (nm : List UInt8) (i b : Nat) (q : PAb) (p : PM) (j : JM) (r : FR) (p' : PM) (j' : JM) (r' : FR) (f' : AF) : Prop where
  ok : p'.Ok
  sm : PM.Same p p'
  q : ∃ (G' : List (List (Nat × PE))) (q' : PAb) (a' : JA), PQ nm (i + 1) b G' q' a' f' ∧ p'.ab = q' ∧ q'.c = q.c ∧ q'.k = q.c ∧ bitsL q'.ws 0 = [] ∧ q'.dead = false ∧ j'.Ok a' ∧ a'.dead = false
  ro : r'.Ok f'
  gj : j'.gj = j.gj
  fp : j'.fp = j.fp
  gf : r'.gf = r.gf
theorem PQ.same {nm : List UInt8} {i b : Nat} {G : List (List (Nat × PE))} {q : PAb} {a : JA} {f : AF} (h : PQ nm i b G q a f) (hD : bitsL q.ws 0 = []) : q.k = q.c := by
  have h1 := h.pr
  rw [hD] at h1
  refine ext_getD ?_ fun m => ?_
  · have h2 := h1.ll
    rcases Nat.lt_or_ge q.k.length q.c.length with h3 | h3
    · have := (h1.eq q.k.length h3 (by simp)).1
      omega
    · omega
  · rcases Nat.lt_or_ge m q.c.length with h2 | h2
    · exact (h1.eq m h2 (by simp)).2
    · have h3 := h1.ll
      rw [List.getD_eq_getElem?_getD, List.getD_eq_getElem?_getD, List.getElem?_eq_none (by omega), List.getElem?_eq_none h2]
theorem pcomF_con (p : PM) (j : JM) (r : FR) (nm : List UInt8) (i b : Nat) (G : List (List (Nat × PE))) (q : PAb) (a : JA) (f : AF) (w : World) (hq : PQ nm i b G q a f) (hpq : p.ab = q) (hok : p.Ok) (hj : j.Ok a) (hr : r.Ok f) (hjp : p.jp = j.ptr) (hfp : j.fp = r.ptr) (hd : a.dead = false) (hqd : q.dead = false) (hfu : f.fused = false) (hi : i ≤ 125) (hb : b ≤ 12000) (hn : nm.length ≤ 90) (hrm : 14000 * ((i + 1 : Nat) : Int) ≤ f.room) (hP : P10 w) (hT : TB w) (h0 : 0 ∉ dom (p.heap ++ (j.heap ++ r.heap))) (h1 : 1 ∉ dom (p.heap ++ (j.heap ++ r.heap))) :
    Con Tryz.prog 16 [p.ptr] w (p.heap ++ (j.heap ++ r.heap)) fun u S' => u = .int .i64 0 ∧ ∃ (p' : PM) (j' : JM) (r' : FR) (f' : AF), S' = [p'.heap, j'.heap, r'.heap] ∧ ComQ nm i b q p j r p' j' r' f' ∧ f'.fused = false ∧ f'.room = f.room := by
  subst hpq
  have hpd : p.dead = false := hqd
  by_cases hD : bitsL p.ws 0 = []
  · refine (pcom0_con p j a r f w hok hpd hD hT h0).mono fun u S' hu => ?_
    obtain ⟨h1, h2⟩ := hu
    exact ⟨h1, p, j, r, f, h2, ⟨hok, .refl p, ⟨G, p.ab, a, hq.up (Nat.le_refl _), rfl, rfl, hq.same hD, hD, hpd, hj, hd⟩, hr, rfl, rfl, rfl⟩, hfu, rfl⟩
  · have he : comE { a with down := recsD p.c (bitsL p.ws 0) } f i = 0 := comE_no hd hfu
    obtain ⟨hd1, hd2, hd3⟩ := hq.dsz (by omega) hb
    have hdl := hq.dlt (by omega)
    refine (pcom1_con p j a r f w hok i hj hr hjp hfp hpd hd hD (fun n hn9 => by rw [← c_len]; exact (hdl n hn9).1) (Nat.le_trans hd1 (by decide)) hd2 (hq.comOk hi hb (used_pos hr) hn hrm) hP hT h0 h1).mono fun u S' hu => ?_
    obtain ⟨hu1, p', j', r', hu2, hu3, hu4, hu5, hu6, hu7, hu8, hu9, hu10⟩ := hu
    rw [he] at hu1
    rw [if_pos he] at hu5
    have hc := hq.com hi hb hD he
    have hcr := comA_room { a with down := recsD p.c (bitsL p.ws 0) } f i
    have haj : (aftJ { a with down := recsD p.c (bitsL p.ws 0) } f i).dead = false := by
      unfold aftJ
      rw [if_pos he, comJ_0 he]
      split
      · exact hd
      · exact hd
    exact ⟨hu1, p', j', r', _, hu2, ⟨hu3, hu4, ⟨_, _, _, hc, hu5, rfl, rfl, bits_rep 256 0, hpd, hu6, haj⟩, hu7, hu8, hu9, hu10⟩, hcr.2.1.trans hfu, hcr.1⟩
abbrev Q0 : PAb := ⟨[], [], List.replicate 256 0, false⟩
theorem freeI_nil : freeI [] = 0 := rfl
theorem c_ab {p : PM} {q : PAb} (h : p.ab = q) : p.c = q.c := congrArg PAb.c h
theorem d_ab {p : PM} {q : PAb} (h : p.ab = q) : p.dead = q.dead := congrArg PAb.dead h
theorem cur_len {p : PM} {q : PAb} (h : p.ab = q) : p.cur.length = q.c.length := by rw [← c_len, c_ab h]
theorem new1_c : (newA Q0).c = [(true, [])] := by
  rw [newA_ge rfl]
  rfl
theorem putA_dead (q : PAb) (n : Int) (xs : List UInt8) : (putA q n xs).dead = q.dead := by unfold putA; split <;> rfl
theorem putA_k (q : PAb) (n : Int) (xs : List UInt8) : (putA q n xs).k = q.k := by unfold putA; split <;> rfl
theorem put1 {q : PAb} {ys : List UInt8} (hc : q.c = [(true, ys)]) (hd : q.dead = false) (xs : List UInt8) (hx : xs.length ≤ 512) : putE q 0 xs = 0 ∧ (putA q 0 xs).c = [(true, xs)] := by
  have h : putE q 0 xs = 0 := by
    unfold putE
    rw [hd, hc]
    simp [hasB, hx]
  refine ⟨h, ?_⟩
  unfold putA
  rw [if_pos h]
  show q.c.set 0 (true, xs) = _
  rw [hc]
  rfl
theorem known_con (w : World) (hP : P10 w) (hT : TB w) : Con Tryz.prog 8 [] w [] fun u _ => u = .bool true := by
  refine con_of_tree mix Tryz.func8 T8_ok (by kernel_rfl) ?_
  unfold T8
  refine j_q (qs_ac) ?_
  refine j_call0 ent9 rfl rfl rfl (fun w' hw' => newR_con 100000 w' (by decide) (by decide)) (fun u S2 hu => ?_)
  obtain ⟨r, rfl, rfl, hr⟩ := hu
  refine j_subl (S' := [r.heap]) (by repeat first | exact slR _ | exact slN _ | apply slC | apply slD) ?_
  refine j_q (qs_ext rfl rfl) ?_
  refine j_q (qs_ext rfl rfl) ?_
  have hq0 := PQ.new0 (nm := [112]) (room := 100000) (by decide)
  refine j_call0 ent10 rfl rfl rfl (fun w' hw' => popen_con r (AF0 100000) [112] [] w' (in_own hw' 0 rfl) hr (by decide) hq0.openNow.1 hq0.openNow.2 ⟨by decide, fun g hg => by cases hg⟩ (fun g hg => by cases hg) (hP.keep hw' (by simp))) (fun u S2 hu => ?_)
  obtain ⟨p0, j0, rfl, rfl, hp0, hpf0, hpn0, hpj0, hj0, hjf0, hab0⟩ := hu
  have hab0 : p0.ab = Q0 := hab0
  refine j_subl (S' := [p0.heap, j0.heap, r.heap]) (by repeat first | exact slR _ | exact slN _ | apply slC | apply slD) ?_
  refine j_q (qs_ext rfl rfl) ?_
  refine j_q (qs_ext rfl rfl) ?_
  refine j_q (qs_neq rfl rfl) ?_
  rw [show ((0 : Int) != 0) = false from rfl]
  refine j_gt rfl (qs_mt rfl) ?_
  refine j_gt rfl (qs_pnil Tryz.underlying27 rfl) ?_
  refine j_q (v := .bool false) (qs_or (b0 := false) (b1 := false) rfl rfl) ?_
  refine j_cond rfl (fun hc0 => ?_) (fun hc0 => ?_)
  · skip
    simp at hc0
  · skip
    refine j_call 0 ent11 rfl rfl rfl rfl (fun w' hw' => pnew_con p0 w' hp0 (by rw [cur_len hab0]; decide)) (fun u S2 hu => ?_)
    obtain ⟨hu1, p1, rfl, hp1, hs1, hab1⟩ := hu
    rw [show p0.dead = false from d_ab hab0, hab0] at hab1
    rw [if_neg (by simp)] at hab1
    rw [show p0.dead = false from d_ab hab0, if_neg (by simp), show p0.c = [] from c_ab hab0, freeI_nil] at hu1
    subst hu1
    have hq1 := hq0.new (by decide)
    have hc1 : p1.c = [(true, [])] := (c_ab hab1).trans new1_c
    have hd1 : p1.dead = false := d_ab hab1
    refine j_subl (S' := [p1.heap, j0.heap, r.heap]) (by repeat first | exact slR _ | exact slN _ | apply slC | apply slD) ?_
    refine j_q (qs_ext rfl rfl) ?_
    refine j_q (qs_ext rfl rfl) ?_
    refine j_q (qs_neq rfl rfl) ?_
    rw [show (((0 : Nat) : Int) != 0) = false from rfl]
    refine j_gt rfl (qs_mt rfl) ?_
    refine j_gt rfl (qs_neq rfl rfl) ?_
    rw [show ((0 : Int) != 0) = false from rfl]
    refine j_q (v := .bool false) (qs_or (b0 := false) (b1 := false) rfl rfl) ?_
    refine j_gt rfl (qs_mt rfl) ?_
    refine j_ga rfl ?_
    refine j_lit (vs := [.int .u8 120]) Tryz.underlying33 sz5 zero5 rfl (by simp [oneV]) ⟨rfl, by decide⟩ (fun g20 v20 c20 hv20 hc20 ho20 => ?_)
    subst hv20 hc20
    refine j_ga rfl ?_
    refine j_convsl 0 Tryz.underlying33 Tryz.underlying5 rfl rfl ?_
    have hf20 : Sx.Own 5 1 (ints [120]) (.slice (some ⟨g20, 0, none⟩) 1 1) [(g20, .cells (ints [120]).toArray 5 (1, 2))] := own_froz (xs := [120])
    rw [show p0.ptr = p1.ptr from by rw [PM.ptr, PM.ptr, hs1.g]]
    refine j_ga rfl ?_
    refine j_call 1 ent12 rfl rfl rfl rfl (fun w' hw' => put_con p1 0 _ [120] w' hp1 (by decide) (own_br hf20 0 rfl hw') (sep_own hf20 (k := 0) (m := 1) rfl rfl (by decide) hw') (by decide)) (fun u S2 hu => ?_)
    obtain ⟨rfl, p2, rfl, hp2, hs2, hab2⟩ := hu
    have hpe := put1 (q := p1.ab) hc1 hd1 [120] (by decide)
    rw [hpe.1]
    have hq2 := hq1.put (by decide) 0 [120] (by decide)
    rw [← hab1] at hq2
    have hc2 : p2.c = [(true, [120])] := (c_ab hab2).trans hpe.2
    have hd2 : p2.dead = false := (d_ab hab2).trans ((putA_dead _ _ _).trans hd1)
    refine j_subl (S' := [p2.heap, j0.heap, r.heap]) (by repeat first | exact slR _ | exact slN _ | apply slC | apply slD) ?_
    refine j_gt rfl (qs_neq rfl rfl) ?_
    rw [show ((0 : Int) != 0) = false from rfl]
    refine j_q (v := .bool false) (qs_or (b0 := false) (b1 := false) rfl rfl) ?_
    refine j_gt rfl (qs_mt rfl) ?_
    rw [← hab2] at hq2
    rw [show p1.ptr = p2.ptr from by rw [PM.ptr, PM.ptr, hs2.g]]
    refine j_ga rfl ?_
    refine j_perm (S' := [p2.heap ++ (j0.heap ++ r.heap)]) (by
      classical
      refine List.perm_iff_count.2 fun x => ?_
      simp only [List.set, List.flatten_cons, List.flatten_nil, List.append_nil, List.nil_append, List.cons_append, List.count_append, List.count_cons, List.count_nil]
      all_goals omega) ?_
    refine j_call 0 ent16 rfl rfl rfl rfl (fun w' hw' => pcomF_con p2 j0 r _ _ _ _ _ _ (AF0 100000) w' hq2 rfl hp2 hj0 hr (hs2.jp.trans (hs1.jp.trans hpj0)) hjf0 rfl hd2 rfl (by decide) (by decide) (by decide) (by decide) (hP.keep hw' (by simp)) (hT.keep hw' (by simp)) (out_gen hw' hT.1 (by simp) (k := 0) rfl) (out_gen hw' hP.1 (by simp) (k := 0) rfl)) (fun u S2 hu => ?_)
    obtain ⟨rfl, p3, j1, r1, f1, rfl, ⟨hp3, hs3, ⟨G3, q3, a3, hq3, hab3, hqc3, hqk3, hqb3, hqd3, hj3, had3⟩, hr3, hgj3, hfp3, hgf3⟩, hfu3, hrm3⟩ := hu
    have hc3 : p3.c = [(true, [120])] := (c_ab hab3).trans (hqc3.trans hc2)
    have hd3 : p3.dead = false := (d_ab hab3).trans hqd3
    refine j_subl (S' := [p3.heap, j1.heap, r1.heap]) (by repeat first | exact slR _ | exact slN _ | apply slC | apply slD) ?_
    refine j_gt rfl (qs_neq rfl rfl) ?_
    rw [show ((0 : Int) != 0) = false from rfl]
    refine j_q (v := .bool false) (qs_or (b0 := false) (b1 := false) rfl rfl) ?_
    refine j_gt rfl (qs_mt rfl) ?_
    refine j_ga rfl ?_
    refine j_lit (vs := [.int .u8 121]) Tryz.underlying33 sz5 zero5 rfl (by simp [oneV]) ⟨rfl, by decide⟩ (fun g30 v30 c30 hv30 hc30 ho30 => ?_)
    subst hv30 hc30
    refine j_ga rfl ?_
    refine j_convsl 0 Tryz.underlying33 Tryz.underlying5 rfl rfl ?_
    have hf30 : Sx.Own 5 1 (ints [121]) (.slice (some ⟨g30, 0, none⟩) 1 1) [(g30, .cells (ints [121]).toArray 5 (1, 2))] := own_froz (xs := [121])
    rw [show p2.ptr = p3.ptr from by rw [PM.ptr, PM.ptr, hs3.g]]
    refine j_ga rfl ?_
    refine j_call 1 ent12 rfl rfl rfl rfl (fun w' hw' => put_con p3 0 _ [121] w' hp3 (by decide) (own_br hf30 0 rfl hw') (sep_own hf30 (k := 0) (m := 1) rfl rfl (by decide) hw') (by decide)) (fun u S2 hu => ?_)
    obtain ⟨rfl, p4, rfl, hp4, hs4, hab4⟩ := hu
    rw [(put1 (q := p3.ab) hc3 hd3 [121] (by decide)).1]
    refine j_subl (S' := [p4.heap]) (by repeat first | exact slR _ | exact slN _ | apply slC | apply slD) ?_
    refine j_gt rfl (qs_neq rfl rfl) ?_
    rw [show ((0 : Int) != 0) = false from rfl]
    refine j_q (v := .bool false) (qs_or (b0 := false) (b1 := false) rfl rfl) ?_
    refine j_cond rfl (fun hc1 => ?_) (fun hc1 => ?_)
    · skip
      simp at hc1
    · skip
      rw [show p3.ptr = p4.ptr from by rw [PM.ptr, PM.ptr, hs4.g]]
      refine j_call 0 ent17 rfl rfl rfl rfl (fun w' hw' => pdrop_con p4 w' hp4.o) (fun u S2 hu => ?_)
      obtain ⟨rfl, vd, cd, rfl, hp5⟩ := hu
      obtain ⟨p5, hp5e⟩ : ∃ x, x = p4.drop vd cd := ⟨_, rfl⟩
      rw [← hp5e] at hp5 ⊢
      have hc5 : p5.c = [(true, [120])] := by
        rw [hp5e]
        show p4.k = _
        have h9 : p4.k = p3.k := (congrArg PAb.k hab4).trans (putA_k _ _ _)
        rw [h9]
        exact (congrArg PAb.k hab3).trans (hqk3.trans hc2)
      rw [show p4.ptr = p5.ptr from by rw [hp5e]; rfl]
      refine j_subl (S' := [p5.heap]) (by repeat first | exact slR _ | exact slN _ | apply slC | apply slD) ?_
      refine j_call0 ent14 rfl rfl rfl (fun w' hw' => get_con p5 0 w' (in_own hw' 0 rfl) hp5.o (by decide)) (fun u S2 hu => ?_)
      obtain ⟨v37, c37, rfl, rfl, ho37⟩ := hu
      rw [hc5, show hasB [(true, [120])] 0 = true from rfl, if_pos rfl] at ho37
      rw [hc5, show hasB [(true, [120])] 0 = true from rfl, if_pos rfl]
      refine j_q (qs_ext (vs := [v37, .int .i64 0]) rfl rfl) ?_
      refine j_q (qs_ext (vs := [v37, .int .i64 0]) rfl rfl) ?_
      refine j_q (qs_eql rfl rfl) ?_
      rw [show ((0 : Int) == 0) = true from rfl]
      refine j_gt rfl (qs_mt rfl) ?_
      refine j_ga rfl ?_
      refine j_lit (vs := [.int .u8 120]) Tryz.underlying33 sz5 zero5 rfl (by simp [oneV]) ⟨rfl, by decide⟩ (fun g42 v42 c42 hv42 hc42 ho42 => ?_)
      subst hv42 hc42
      refine j_ga rfl ?_
      refine j_convsl 0 Tryz.underlying33 Tryz.underlying5 rfl rfl ?_
      have hf42 : Sx.Own 5 1 (ints [120]) (.slice (some ⟨g42, 0, none⟩) 1 1) [(g42, .cells (ints [120]).toArray 5 (1, 2))] := own_froz (xs := [120])
      refine j_gt rfl (qs_call ent25 rfl rfl rfl (fun w' hw' => same_con [120] [120] _ _ w' (own_br ho37 1 rfl hw') (own_br hf42 0 rfl hw') (by decide))) ?_
      rw [beq_self_eq_true]
      refine j_q (v := .bool true) (qs_and (b0 := true) (b1 := true) rfl rfl) ?_
      refine j_ret_con (vs := [_]) (fun w' hw' => ⟨rfl, trivial⟩) ?_
      rfl
end Go.Proofs.YtfebkkmmagbnlaaGreatDoor
/-! Pg13 -/
namespace Go.Proofs.YtfebkkmmagbnlaaGreatDoor
open Go Go.Sx
set_option maxRecDepth 100000
set_option maxHeartbeats 4000000
set_option linter.unusedVariables false
set_option linter.unusedSimpArgs false
attribute [local irreducible] J JQ QS Con W opW
open Go.MapKept Go.WideMaps Go.Maps
attribute [local irreducible] sum gsE headE fileN contA readE grpE fillE
abbrev pagesN : List UInt8 := [112, 97, 103, 101, 115]
theorem freeI_all {l : List PE} (h : ∀ x ∈ l, x.1 = true) : freeI l = l.length := by
  unfold freeI
  refine List.findIdx_eq_length.2 fun x hx => ?_
  rw [h x hx]
  rfl
theorem freeI_one {l : List PE} (h : ∀ x ∈ l, x.1 = true) {n : Nat} (hn : n < l.length) : freeI (l.set n PE0) = n := by
  have h1 : freeI (l.set n PE0) ≤ n := by
    rcases Nat.lt_or_ge n (freeI (l.set n PE0)) with h2 | h2
    · have h3 := freeI_before h2
      rw [getD_set _ _ _ _ _ hn, if_pos rfl] at h3
      cases h3
    · exact h2
  rcases Nat.lt_or_ge (freeI (l.set n PE0)) n with h2 | h2
  · have h3 := freeI_at (l := l.set n PE0) (by rw [List.length_set]; omega)
    rw [getD_set _ _ _ _ _ hn, if_neg (by omega)] at h3
    have h4 := h _ (getD_mem (d := PE0) (show freeI (l.set n PE0) < l.length by omega))
    rw [h4] at h3
    cases h3
  · omega
theorem all_set {l : List PE} (h : ∀ x ∈ l, x.1 = true) (n : Nat) (ys : List UInt8) : ∀ x ∈ l.set n (true, ys), x.1 = true := fun x hx => by
  rcases List.mem_or_eq_of_mem_set hx with hx | rfl
  · exact h x hx
  · rfl
theorem all_snoc {l : List PE} (h : ∀ x ∈ l, x.1 = true) (ys : List UInt8) : ∀ x ∈ l ++ [(true, ys)], x.1 = true := fun x hx => by
  rcases List.mem_append.1 hx with hx | hx
  · exact h x hx
  · rw [List.mem_singleton.1 hx]
theorem newA_all {q : PAb} (h : ∀ x ∈ q.c, x.1 = true) : (newA q).c = q.c ++ [(true, [])] := by
  rw [newA_ge (freeI_all h)]
  show (q.c ++ [PE0]).set q.c.length (true, []) = _
  rw [List.set_append_right _ _ (Nat.le_refl _), Nat.sub_self]
  rfl
theorem hasB_at {l : List PE} (h : ∀ x ∈ l, x.1 = true) {n : Int} (h0 : 0 ≤ n) (hn : n < (l.length : Int)) : hasB l n = true := by
  unfold hasB
  rw [h _ (getD_mem (d := PE0) (show n.toNat < l.length by omega))]
  simp [h0, hn]
theorem putE_0 {q : PAb} (h : ∀ x ∈ q.c, x.1 = true) (hd : q.dead = false) {n : Int} (h0 : 0 ≤ n) (hn : n < (q.c.length : Int)) (xs : List UInt8) (hx : xs.length ≤ 512) : putE q n xs = 0 ∧ (putA q n xs).c = q.c.set n.toNat (true, xs) := by
  have e : putE q n xs = 0 := by
    unfold putE
    rw [hd, hasB_at h h0 hn]
    simp [hx]
  refine ⟨e, ?_⟩
  unfold putA
  rw [if_pos e]
  rfl
theorem frE_0 {q : PAb} (h : ∀ x ∈ q.c, x.1 = true) (hd : q.dead = false) {n : Int} (h0 : 0 ≤ n) (hn : n < (q.c.length : Int)) : frE q n = 0 ∧ (frA q n).c = q.c.set n.toNat PE0 := by
  have e : frE q n = 0 := by
    unfold frE
    rw [hd, hasB_at h h0 hn]
    simp
  refine ⟨e, ?_⟩
  unfold frA
  rw [if_pos e]
  rfl
theorem frA_dead (q : PAb) (n : Int) : (frA q n).dead = q.dead := by unfold frA; split <;> rfl
theorem frE_7 {q : PAb} {l : List PE} (hd : q.dead = false) {n : Int} (h0 : 0 ≤ n) (hn : n < (l.length : Int)) (hc : q.c = l.set n.toNat PE0) : frE q n = 7 := by
  have : hasB q.c n = false := by
    unfold hasB
    rw [hc, getD_set _ _ _ _ _ (by omega), if_pos rfl]
    simp [PE0]
  unfold frE
  rw [hd, this]
  simp
theorem pagesReuse_con (many gone : Int) (w : World) (hmb : -9223372036854775808 ≤ many ∧ many ≤ 9223372036854775807) (hgb : -9223372036854775808 ≤ gone ∧ gone ≤ 9223372036854775807) (hP : P10 w) (hT : TB w) : Con Tryz.prog 3 [.int .i64 many, .int .i64 gone] w [] fun u _ => u = .bool true := by
  refine con_of_tree mix Tryz.func3 T3_ok (by kernel_rfl) ?_
  unfold T3
  refine j_q (qs_ac) ?_
  refine j_q (qs_lss rfl rfl) ?_
  refine j_g rfl (fun hb => qs_mt rfl) ?_
  refine j_g rfl (fun hb => qs_gtr (gd_eq hb) rfl) ?_
  refine j_q (qs_or rfl rfl) ?_
  refine j_g rfl (fun hb => qs_mt rfl) ?_
  refine j_g rfl (fun hb => qs_lss (gd_eq hb) rfl) ?_
  refine j_q (qs_or rfl rfl) ?_
  refine j_g rfl (fun hb => qs_mt rfl) ?_
  refine j_g rfl (fun hb => qs_mt rfl) ?_
  refine j_g rfl (fun hb => qs_geq (gd_eq hb) (gd_eq hb)) ?_
  refine j_q (qs_or rfl rfl) ?_
  refine j_cond rfl (fun hc0 => ?_) (fun hc0 => ?_)
  · skip
    refine j_call0 ent8 rfl rfl rfl (fun w' hw' => known_con w' (hP.keep hw' (by simp)) (hT.keep hw' (by simp))) (fun u S2 hu => ?_)
    subst hu
    refine j_ret_con (vs := [_]) (fun w' hw' => ⟨rfl, trivial⟩) ?_
    rfl
  · skip
    have hbds : 1 ≤ many ∧ many ≤ 200 ∧ 0 ≤ gone ∧ gone < many := by
      by_cases h1 : many < 1
      · simp [gd, h1] at hc0
      · by_cases h2 : many > 200
        · simp [gd, h1, h2] at hc0
        · by_cases h3 : gone < 0
          · simp [gd, h1, h2, h3] at hc0
          · by_cases h4 : gone ≥ many
            · simp [gd, h1, h2, h3, h4] at hc0
            · omega
    obtain ⟨hm1, hm2, hg1, hg2⟩ := hbds
    refine j_call0 ent9 rfl rfl rfl (fun w' hw' => newR_con 4194304 w' (by decide) (by decide)) (fun u S2 hu => ?_)
    obtain ⟨r, rfl, rfl, hr⟩ := hu
    refine j_subl (S' := [r.heap]) (by repeat first | exact slR _ | exact slN _ | apply slC | apply slD) ?_
    refine j_q (qs_ext rfl rfl) ?_
    refine j_q (qs_ext rfl rfl) ?_
    have hq0 := PQ.new0 (nm := pagesN) (room := 4194304) (by decide)
    refine j_call0 ent10 rfl rfl rfl (fun w' hw' => popen_con r (AF0 4194304) pagesN [] w' (in_own hw' 0 rfl) hr (by decide) hq0.openNow.1 hq0.openNow.2 ⟨by decide, fun g hg => by cases hg⟩ (fun g hg => by cases hg) (hP.keep hw' (by simp))) (fun u S2 hu => ?_)
    obtain ⟨p0, j0, rfl, rfl, hp0, hpf0, hpn0, hpj0, hj0, hjf0, hab0⟩ := hu
    have hab0 : p0.ab = Q0 := hab0
    refine j_subl (S' := [p0.heap, j0.heap, r.heap]) (by repeat first | exact slR _ | exact slN _ | apply slC | apply slD) ?_
    refine j_q (qs_ext rfl rfl) ?_
    refine j_q (qs_ext rfl rfl) ?_
    refine j_q (qs_neq rfl rfl) ?_
    rw [show ((0 : Int) != 0) = false from rfl]
    refine j_gt rfl (qs_mt rfl) ?_
    refine j_gt rfl (qs_pnil Tryz.underlying27 rfl) ?_
    refine j_q (v := .bool false) (qs_or (b0 := false) (b1 := false) rfl rfl) ?_
    refine j_cond rfl (fun hc1 => ?_) (fun hc1 => ?_)
    · skip
      simp at hc1
    · skip
      refine j_q (qs_ac) ?_
      refine j_loop (fun m vs S' => ∃ (i : Nat) (p : PM), vs = [.int .i64 (i : Int)] ∧ S' = [p.heap, j0.heap, r.heap] ∧ p.Ok ∧ PM.Same p0 p ∧ p.c.length = i ∧ (∀ x ∈ p.c, x.1 = true) ∧ p.dead = false ∧ (i : Int) ≤ many ∧ m = many.toNat - i) ⟨_, 0, p0, rfl, rfl, hp0, .refl p0, (by rw [c_ab hab0]; rfl), (fun x hx => by rw [c_ab hab0] at hx; cases hx), d_ab hab0, by omega, rfl⟩ ?_
      rintro m vs S' hlen ⟨i, p, rfl, rfl, hp, hsp, hlp, hallp, hdp, hi, rfl⟩
      refine j_q (qs_lss rfl rfl) ?_
      refine j_cond rfl (fun hc2 => ?_) (fun hc2 => ?_)
      · skip
        have hi1 : (i : Int) < many := by
          simp only [bnA] at *
          omega
        rw [show p0.ptr = p.ptr from by rw [PM.ptr, PM.ptr, hsp.g]]
        refine j_call 0 ent11 rfl rfl rfl rfl (fun w' hw' => pnew_con p w' hp (by rw [← c_len, hlp]; omega)) (fun u S2 hu => ?_)
        obtain ⟨hu1, p1, rfl, hp1, hsp1, habp1⟩ := hu
        rw [show p.dead = false from hdp] at habp1 hu1
        rw [if_neg (by simp)] at habp1 hu1
        subst hu1
        have hcp1 : p1.c = p.c ++ [(true, [])] := (c_ab habp1).trans (newA_all hallp)
        have hallp1 : ∀ x ∈ p1.c, x.1 = true := by rw [hcp1]; exact all_snoc hallp []
        have hlp1 : p1.c.length = i + 1 := by rw [hcp1, List.length_append, hlp]; rfl
        have hdp1 : p1.dead = false := d_ab habp1 |>.trans hdp
        rw [freeI_all hallp, hlp]
        refine j_subl (S' := [p1.heap, j0.heap, r.heap]) (by repeat first | exact slR _ | exact slN _ | apply slC | apply slD) ?_
        refine j_q (qs_ext (vs := [.int .i64 ((i : Nat) : Int), .int .i64 0]) rfl rfl) ?_
        refine j_q (qs_ext (vs := [.int .i64 ((i : Nat) : Int), .int .i64 0]) rfl rfl) ?_
        refine j_q (qs_neq rfl rfl) ?_
        rw [show (((i : Nat) : Int) != (i : Int)) = false by simp]
        refine j_gt rfl (qs_mt rfl) ?_
        refine j_gt rfl (qs_neq rfl rfl) ?_
        rw [show ((0 : Int) != 0) = false from rfl]
        refine j_q (v := .bool false) (qs_or (b0 := false) (b1 := false) rfl rfl) ?_
        refine j_gt rfl (qs_mt rfl) ?_
        refine j_gt rfl (qs_mt rfl) ?_
        refine j_gt rfl (qs_mt rfl) ?_
        refine j_gt rfl (qs_conv8 Tryz.underlying3 Tryz.underlying5 rfl) ?_
        refine j_ga rfl ?_
        refine j_lit (vs := [.int .u8 ((by8 (i : Int)).toNat : Int)]) Tryz.underlying33 sz5 zero5 rfl (by simp [oneV]) ⟨rfl, by decide⟩ (fun g37 v37 c37 hv37 hc37 ho37 => ?_)
        subst hv37 hc37
        have hf37 : Sx.Own 5 1 (ints [by8 (i : Int)]) (.slice (some ⟨g37, 0, none⟩) 1 1) [(g37, .cells #[.int .u8 ((by8 (i : Int)).toNat : Int)] 5 (0, 0))] := ho37
        rw [show p.ptr = p1.ptr from by rw [PM.ptr, PM.ptr, hsp1.g]]
        refine j_ga rfl ?_
        refine j_call 1 ent12 rfl rfl rfl rfl (fun w' hw' => put_con p1 (i : Int) _ [by8 (i : Int)] w' hp1 (by omega) (own_br hf37 0 rfl hw') (sep_own hf37 (k := 0) (m := 1) rfl rfl (by decide) hw') (by simp)) (fun u S2 hu => ?_)
        obtain ⟨rfl, p2, rfl, hp2, hsp2, habp2⟩ := hu
        obtain ⟨hpe, hpa⟩ := putE_0 (q := p1.ab) hallp1 hdp1 (n := (i : Int)) (by omega) (by show (i : Int) < (p1.c.length : Int); omega) [by8 (i : Int)] (by simp)
        rw [hpe]
        have hcp2 : p2.c = p1.c.set i (true, [by8 (i : Int)]) := (c_ab habp2).trans hpa
        refine j_subl (S' := [p2.heap, j0.heap, r.heap]) (by repeat first | exact slR _ | exact slN _ | apply slC | apply slD) ?_
        refine j_gt rfl (qs_neq rfl rfl) ?_
        rw [show ((0 : Int) != 0) = false from rfl]
        refine j_q (v := .bool false) (qs_or (b0 := false) (b1 := false) rfl rfl) ?_
        refine j_cond rfl (fun hc3 => ?_) (fun hc3 => ?_)
        · skip
          simp at hc3
        · skip
          refine j_q (qs_add64 rfl rfl (by first | omega | (simp only [bnA] at *; omega))) ?_
          refine j_back rfl ?_
          refine ⟨_, by omega, i + 1, p2, rfl, rfl, hp2, (hsp.trans hsp1).trans hsp2, ?_, ?_, ?_, by omega, rfl⟩
          · rw [hcp2, List.length_set, hlp1]
          · rw [hcp2]
            exact all_set hallp1 _ _
          · exact (d_ab habp2).trans ((putA_dead _ _ _).trans hdp1)
      · skip
        have hi1 : many = (i : Int) := by
          simp only [bnA] at *
          omega
        rw [show p0.ptr = p.ptr from by rw [PM.ptr, PM.ptr, hsp.g]]
        refine j_call 0 ent13 rfl rfl rfl rfl (fun w' hw' => pfree_con p gone w' hp (by omega)) (fun u S2 hu => ?_)
        obtain ⟨rfl, p3, rfl, hp3, hsp3, habp3⟩ := hu
        obtain ⟨hfe, hfa⟩ := frE_0 (q := p.ab) hallp hdp (n := gone) (by omega) (by show gone < (p.c.length : Int); omega)
        rw [hfe]
        have hcp3 : p3.c = p.c.set gone.toNat PE0 := (c_ab habp3).trans hfa
        have hdp3 : p3.dead = false := (d_ab habp3).trans ((frA_dead _ _).trans hdp)
        refine j_subl (S' := [p3.heap, j0.heap, r.heap]) (by repeat first | exact slR _ | exact slN _ | apply slC | apply slD) ?_
        refine j_q (qs_neq rfl rfl) ?_
        rw [show ((0 : Int) != 0) = false from rfl]
        refine j_gt rfl (qs_mt rfl) ?_
        refine j_gt rfl (qs_mt rfl) ?_
        rw [show p.ptr = p3.ptr from by rw [PM.ptr, PM.ptr, hsp3.g]]
        refine j_ga rfl ?_
        refine j_call 0 ent13 rfl rfl rfl rfl (fun w' hw' => pfree_con p3 gone w' hp3 (by omega)) (fun u S2 hu => ?_)
        obtain ⟨rfl, p4, rfl, hp4, hsp4, habp4⟩ := hu
        have hf7 := frE_7 (q := p3.ab) (l := p.c) (n := gone) hdp3 (by omega) (by omega) hcp3
        rw [hf7]
        rw [frA, if_neg (by rw [hf7]; decide)] at habp4
        have hcp4 : p4.c = p.c.set gone.toNat PE0 := (c_ab habp4).trans hcp3
        have hdp4 : p4.dead = false := (d_ab habp4).trans hdp3
        have hlp4 : p4.c.length = many.toNat := by rw [hcp4, List.length_set, hlp]; omega
        have hfi4 : freeI p4.c = gone.toNat := by rw [hcp4]; exact freeI_one hallp (by omega)
        refine j_subl (S' := [p4.heap, j0.heap, r.heap]) (by repeat first | exact slR _ | exact slN _ | apply slC | apply slD) ?_
        refine j_gt rfl (qs_neq rfl rfl) ?_
        rw [show ((7 : Int) != 7) = false from rfl]
        refine j_q (v := .bool false) (qs_or (b0 := false) (b1 := false) rfl rfl) ?_
        refine j_cond rfl (fun hc4 => ?_) (fun hc4 => ?_)
        · skip
          simp at hc4
        · skip
          rw [show p3.ptr = p4.ptr from by rw [PM.ptr, PM.ptr, hsp4.g]]
          refine j_call 0 ent11 rfl rfl rfl rfl (fun w' hw' => pnew_con p4 w' hp4 (by rw [← c_len, hlp4]; omega)) (fun u S2 hu => ?_)
          obtain ⟨hu1, p5, rfl, hp5, hsp5, habp5⟩ := hu
          rw [show p4.dead = false from hdp4] at habp5 hu1
          rw [if_neg (by simp)] at habp5 hu1
          subst hu1
          have hcp5 : p5.c = p.c.set gone.toNat (true, []) := by
            rw [c_ab habp5, newA_lt (a := p4.ab) (by show freeI p4.c < p4.c.length; rw [hfi4, hlp4]; omega)]
            show p4.c.set (freeI p4.c) (true, []) = _
            rw [hfi4, hcp4, List.set_set]
          have hallp5 : ∀ x ∈ p5.c, x.1 = true := by rw [hcp5]; exact all_set hallp _ _
          have hlp5 : p5.c.length = many.toNat := by rw [hcp5, List.length_set, hlp]; omega
          have hdp5 : p5.dead = false := (d_ab habp5).trans hdp4
          rw [hfi4]
          refine j_subl (S' := [p5.heap, j0.heap, r.heap]) (by repeat first | exact slR _ | exact slN _ | apply slC | apply slD) ?_
          refine j_q (qs_ext (vs := [.int .i64 ((gone.toNat : Nat) : Int), .int .i64 0]) rfl rfl) ?_
          refine j_q (qs_ext (vs := [.int .i64 ((gone.toNat : Nat) : Int), .int .i64 0]) rfl rfl) ?_
          rw [show ((gone.toNat : Nat) : Int) = gone by omega]
          rw [show p4.ptr = p5.ptr from by rw [PM.ptr, PM.ptr, hsp5.g]]
          refine j_call0 ent14 rfl rfl rfl (fun w' hw' => get_con p5 gone w' (in_own hw' 0 rfl) hp5.o (by omega)) (fun u S2 hu => ?_)
          obtain ⟨v54, c54, rfl, rfl, ho54⟩ := hu
          have hh5 : hasB p5.c gone = true := hasB_at hallp5 (by omega) (by omega)
          rw [if_pos hh5, hcp5, getD_set _ _ _ _ _ (by omega), if_pos rfl] at ho54
          rw [if_pos hh5]
          obtain ⟨nn, A54, cap54, rfl, hnn⟩ := own_form ho54 (by decide)
          obtain rfl : nn = 0 := by
            rw [Nat.mul_one] at hnn
            exact hnn.symm
          refine j_subl (S' := [p5.heap, j0.heap, r.heap]) (by repeat first | exact slR _ | exact slN _ | apply slC | apply slD) ?_
          refine j_q (qs_ext (vs := [.slice A54 0 cap54, .int .i64 0]) rfl rfl) ?_
          refine j_q (qs_ext (vs := [.slice A54 0 cap54, .int .i64 0]) rfl rfl) ?_
          refine j_call 0 ent11 rfl rfl rfl rfl (fun w' hw' => pnew_con p5 w' hp5 (by rw [← c_len, hlp5]; omega)) (fun u S2 hu => ?_)
          obtain ⟨hu1, p6, rfl, hp6, hsp6, habp6⟩ := hu
          rw [show p5.dead = false from hdp5] at habp6 hu1
          rw [if_neg (by simp)] at habp6 hu1
          subst hu1
          rw [freeI_all hallp5, hlp5]
          refine j_subl (S' := [p6.heap, j0.heap, r.heap]) (by repeat first | exact slR _ | exact slN _ | apply slC | apply slD) ?_
          refine j_q (qs_ext (vs := [.int .i64 ((many.toNat : Nat) : Int), .int .i64 0]) rfl rfl) ?_
          refine j_q (qs_ext (vs := [.int .i64 ((many.toNat : Nat) : Int), .int .i64 0]) rfl rfl) ?_
          refine j_q (qs_eql rfl rfl) ?_
          rw [show (gone == gone) = true by simp]
          refine j_gt rfl (qs_mt rfl) ?_
          refine j_gt rfl (qs_eql rfl rfl) ?_
          rw [show ((0 : Int) == 0) = true from rfl]
          refine j_q (v := .bool true) (qs_and (b0 := true) (b1 := true) rfl rfl) ?_
          refine j_gt rfl (qs_mt rfl) ?_
          refine j_gt rfl (qs_lenl (n := 0) (A := A54) (c := cap54) Tryz.underlying33 rfl) ?_
          refine j_gt rfl (qs_eql rfl rfl) ?_
          rw [show (((0 : Nat) : Int) == 0) = true from rfl]
          refine j_q (v := .bool true) (qs_and (b0 := true) (b1 := true) rfl rfl) ?_
          refine j_gt rfl (qs_mt rfl) ?_
          refine j_gt rfl (qs_eql rfl rfl) ?_
          rw [show ((0 : Int) == 0) = true from rfl]
          refine j_q (v := .bool true) (qs_and (b0 := true) (b1 := true) rfl rfl) ?_
          refine j_gt rfl (qs_mt rfl) ?_
          refine j_gt rfl (qs_mt rfl) ?_
          refine j_gt rfl (qs_eql rfl rfl) ?_
          rw [show ((((many.toNat : Nat)) : Int) == many) = true by rw [beq_iff_eq]; omega]
          refine j_q (v := .bool true) (qs_and (b0 := true) (b1 := true) rfl rfl) ?_
          refine j_gt rfl (qs_mt rfl) ?_
          refine j_gt rfl (qs_eql rfl rfl) ?_
          rw [show ((0 : Int) == 0) = true from rfl]
          refine j_q (v := .bool true) (qs_and (b0 := true) (b1 := true) rfl rfl) ?_
          refine j_gt rfl (qs_call ent8 rfl rfl rfl (fun w' hw' => known_con w' (hP.keep hw' (by simp)) (hT.keep hw' (by simp)))) ?_
          refine j_q (v := .bool true) (qs_and (b0 := true) (b1 := true) rfl rfl) ?_
          refine j_ret_con (vs := [_]) (fun w' hw' => ⟨rfl, trivial⟩) ?_
          rfl
end Go.Proofs.YtfebkkmmagbnlaaGreatDoor
/-! RowR -/
namespace Go.Proofs.YtfebkkmmagbnlaaGreatDoor
open Go Go.Sx Go.ChangeShapes Go.WideShapes Go.ChangeAt Go.RowKit
set_option linter.unusedVariables false
theorem own_pagesReuse : ownKnob Tryz.prog.godebug = none := by kernel_rfl
theorem laid_pagesReuse : laidOutB Tryz.prog = true := by kernel_rfl
set_option maxRecDepth 100000 in
theorem door_met_pagesReuse (os : Os) (args : Array Value) : laidMetH Tryz.prog Rows.pagesReuseRow.laid ((World.doorLaid Tryz.prog 400 os).forCall (fun _ _ => 0) ⟨#[], args, []⟩).memory := by
  rw [MakeChecks.laidMetH_plain _ _ _ (by kernel_rfl)]
  exact laidMet_of_run' 8 (by kernel_rfl) (by kernel_rfl)
theorem p10_of_laid_pagesReuse {W : World} (h : laidMetH Tryz.prog Rows.pagesReuseRow.laid W) : P10 W := by
  rw [MakeChecks.laidMetH_plain _ _ _ (by kernel_rfl)] at h
  have h3 : Lib.TabIs Tryz.prog W "internal/strconv.uint64pow10" .u64 p10 := Lib.tabIs_of_head (t := 196) (e := 64) (n := 20) (g := 1) (by kernel_rfl) (by kernel_rfl) Tryz.underlying196 Tryz.underlying64 (by kernel_rfl) (by kernel_rfl) (rest := []) h.tail.tail
  have hc : ∀ i, i < 20 → W.cell? ⟨1, i, none⟩ = some (.int .u64 (p10.getD i 0)) := fun i hi => h3.cell (by kernel_rfl) i hi
  refine ⟨?_, fun j u hu => ?_⟩
  · have h0 := hc 0 (by decide)
    unfold World.cell? at h0
    by_cases hz : 1 < W.heap.size
    · exact hz
    · rw [Array.getElem?_eq_none (by simp only []; omega)] at h0
      cases h0
  · obtain ⟨hj, rfl⟩ := List.getElem?_eq_some_iff.1 hu
    have hj' : j < 20 := by rw [ks_length] at hj; exact hj
    rw [add_off, Nat.zero_add, hc j hj']
    have := ks_get (k := .u64) (l := p10) (i := j) hj'
    rw [← this, List.getElem?_eq_getElem hj]
theorem tb_of_laid_pagesReuse {W : World} (h : laidMetH Tryz.prog Rows.pagesReuseRow.laid W) : TB W := by
  rw [MakeChecks.laidMetH_plain _ _ _ (by kernel_rfl)] at h
  have h3 : Lib.TabIs Tryz.prog W "math/bits.deBruijn64tab" .u8 (dbTab.map fun c => (c.toNat : Int)) := Lib.tabIs_of_head (t := 164) (e := 5) (n := 64) (g := 0) (by kernel_rfl) (by kernel_rfl) Tryz.underlying164 Tryz.underlying5 (by kernel_rfl) (by kernel_rfl) h.tail
  have hc : ∀ i, i < 64 → W.cell? ⟨0, i, none⟩ = some (.int .u8 ((dbTab.map fun c => (c.toNat : Int)).getD i 0)) := fun i hi => h3.cell (by kernel_rfl) i hi
  refine ⟨?_, fun j u hu => ?_⟩
  · have h0 := hc 0 (by decide)
    unfold World.cell? at h0
    by_cases hz : 0 < W.heap.size
    · exact hz
    · rw [Array.getElem?_eq_none (by simp only []; omega)] at h0
      cases h0
  · obtain ⟨hj, rfl⟩ := List.getElem?_eq_some_iff.1 hu
    have hj' : j < 64 := by rw [ints_length] at hj; exact hj
    rw [add_off, Nat.zero_add, hc j hj']
    have h9 : ints dbTab = ks .u8 (dbTab.map fun c => (c.toNat : Int)) := by simp [ints, ks]
    have := ks_get (k := .u8) (l := dbTab.map fun c => (c.toNat : Int)) (i := j) (by rw [List.length_map]; exact hj')
    rw [← this, ← h9, List.getElem?_eq_getElem hj]
set_option maxRecDepth 100000 in
theorem pagesReuse_lifted (os : Os) (started : os.Started) (H : Type) (enc : TypeId × Value → H) :
    ReturnsInHanded {} Tryz.checked os 3 .any (fun w args => (Rows.pagesReuseSpec.pre enc Tryz.prog Tryz.f3 [] false w args ∧ laidMetH Tryz.prog Rows.pagesReuseRow.laid w) ∧ sizedMet enc Tryz.prog Tryz.f3 (OpenSpec.ofChange Rows.pagesReuseSpec) false w args) (Rows.pagesReuseSpec.post enc Tryz.prog Tryz.f3 false true false false) := by
  refine returnsInHanded_of_change_and (C := Tryz.checked) (X := fun w _ => laidMetH Tryz.prog Rows.pagesReuseRow.laid w) (fun _ _ _ hh h => h.of_heap hh) own_pagesReuse started (by kernel_rfl) Tryz.func3
    (ChangeSpec.witness_shaped (enc := enc) (C := Tryz.checked) (os := os) (X := fun w _ => laidMetH Tryz.prog Rows.pagesReuseRow.laid w) false (World.doorLaid Tryz.prog 400 os) #[.int .i64 0, .int .i64 0] 8 rfl (World.shaped_of_RefB (by kernel_rfl) (by kernel_rfl)) (by kernel_rfl) (by kernel_rfl) (by kernel_rfl) (door_met_pagesReuse os _)) ?_
  intro W base args ds gs before hval0 hW hcnd hsz0 hL _
  have hsz : (DataW.weightsEach Tryz.prog (Tryz.f3.params.toList ++ Rows.pagesReuseSpec.plain.varTypes Tryz.prog) (ds ++ gs)).all (· ≤ reachBytes) = true := hsz0
  have hreach : reachBytes = 140737488351232 := rfl
  have hval : ∀ (j : Nat) t v, Tryz.f3.params[j]? = some t → args[j]? = some v → Value.okWide Tryz.prog W .any base t v := hval0
  have hW' := hW
  obtain ⟨p, q, hA0, hV, rfl, hfz, hnd⟩ := hW
  have hA : DataW.TrodAll enc Tryz.prog W 0 (fun _ => true) true Tryz.f3.params.toList args.toList ds p := hA0
  rw [Tryz.params3] at hA hval
  obtain ⟨v0, v1, d0, d1, p0, p1, rfl, rfl, rfl, h0, h1⟩ := trodAll_two hA
  obtain ⟨rfl, rfl⟩ := trodVars_none hV
  obtain ⟨a0, rfl, rfl, rfl, wa0⟩ := open_int Tryz.underlying3 (hval 0 3 v0 rfl rfl) h0
  obtain ⟨a1, rfl, rfl, rfl, wa1⟩ := open_int Tryz.underlying3 (hval 1 3 v1 rfl rfl) h1
  clear hA0 hval0
  have hP := p10_of_laid_pagesReuse hL
  have hT := tb_of_laid_pagesReuse hL
  have hc := pagesReuse_con a0 a1 W (int_wf wa0) (int_wf wa1) hP hT (by simp) (by simp)
  refine hc.mono fun e W' h => ?_
  obtain ⟨v, S', rfl, rfl, hS⟩ := h
  exact ⟨_, rfl, post_law hW' rfl rfl laid_pagesReuse (by decide +kernel) rfl Tryz.underlying4 (below_of_sig hS)⟩
theorem pagesReuse_holds : Rows.PagesReuseSaid :=
  OpenClaim.holds_of_wide 3 Tryz.f3 rfl rfl rfl rfl rfl rfl rfl ⟨rfl, rfl, rfl, rfl, rfl⟩ rfl rfl rfl rfl rfl (by kernel_rfl) Tryz.func3 (by kernel_rfl)
    (of_decide_eq_true (by kernel_rfl)) (by unfold Func.isWrapper; first | (rw [if_pos (by decide +kernel)]; kernel_rfl) | (rw [if_neg (by decide +kernel)]; exact ⟨rfl, rfl⟩))
    (fun os started H enc _ => pagesReuse_lifted os started H enc)
theorem pagesReuseCard_holds : Rows.PagesReuseCardSaid :=
  Claim7.holds_tied_plain_at .later [] [.data, .data, .data] true (true, "d6940ffa9aee17afc6c360ec4500667c41cf8441dfa5587ac010659349e4d1ff") false
    pagesReuse_holds (fun _ h => by cases h) (by kernel_rfl) (fun _ h => by cases h) pagesReuse_row_tie rfl ⟨rfl, rfl⟩ (by kernel_rfl) rfl
    (fun f fn hf hfn => by
      obtain rfl : f = 3 := Option.some.inj ((show Tryz.prog.funcNamed "pantry/pantrylaw9.PagesReuse" = some 3 by kernel_rfl).symm.trans hf) |>.symm
      obtain rfl : fn = Tryz.f3 := (Option.some.inj (Tryz.func3.symm.trans hfn)).symm
      exact ⟨by kernel_rfl, fun j t ht => by
        rw [Tryz.params3] at ht
        have hm : t ∈ [3, 3] := by simpa using Array.mem_of_getElem? ht
        have hall : ([3, 3].all fun u => !Tryz.prog.wantsStandIn u) = true := by kernel_rfl
        exact (show Tryz.prog.wantsStandIn t = false by simpa using List.all_eq_true.1 hall t hm)⟩)
    (by kernel_rfl)
end Go.Proofs.YtfebkkmmagbnlaaGreatDoor
