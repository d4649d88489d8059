/- Locks by names: Take and Give. -/
import Derived.Test.YtlgfpoelhjlifaaTa
import Derived.Test.YtlgfpoelhjlifaaLk3
namespace Go.Proofs.Ytlgfpoelhjlifaa
open Go Go.Sx
set_option maxRecDepth 100000
set_option maxHeartbeats 4000000
set_option linter.unusedVariables false
set_option linter.unusedSimpArgs false
attribute [local irreducible] J JQ QS Con W opW
theorem ent33 : Sx.Enters Try.prog 33 := ⟨_, Try.func33, by kernel_rfl, by kernel_rfl⟩
theorem ent44 : Sx.Enters Try.prog 44 := ⟨_, Try.func44, by kernel_rfl, by kernel_rfl⟩
theorem sb102 : (Try.prog.info? 102).map (fun i => (i.size, i.bytes)) = some (2, 16) := by kernel_rfl
theorem sz106 : (Try.prog.info? 106).map (·.size) = some 3 := by kernel_rfl

open Go.MapKept Go.WideMaps Go.Maps
theorem aset_map {κ α β : Type} [DecidableEq κ] (f : α → β) (m : List (κ × α)) (k : κ) (v : α) : (aset m k v).map (fun p => (p.1, f p.2)) = aset (m.map fun p => (p.1, f p.2)) k (f v) := by
  unfold aset
  rw [alook_map]
  cases h : alook m k with
  | none => simp
  | some a =>
    simp only [Option.map_some, Option.isSome_some, if_true, List.map_map]
    refine List.map_congr_left fun p _ => ?_
    simp only [Function.comp]
    split <;> rfl
theorem at_look (p : PT) (n : List UInt8) : alook p.at_.lm n = (alook p.lm n).map PL.al := by
  show alook (p.lm.map fun q => (q.1, q.2.al)) n = _
  rw [alook_map]
theorem aset_mem {κ α : Type} [DecidableEq κ] {m : List (κ × α)} {k : κ} {v : α} {q : κ × α} (h : q ∈ aset m k v) : q ∈ m ∨ q = (k, v) := by
  unfold aset at h
  split at h
  · obtain ⟨p, hp, rfl⟩ := List.mem_map.1 h
    by_cases hk : p.1 = k
    · rw [if_pos hk]
      exact .inr (by rw [← hk])
    · rw [if_neg hk]
      exact .inl hp
  · rcases List.mem_append.1 h with h | h
    · exact .inl h
    · exact .inr (List.mem_singleton.1 h)
def AL0 : AL := ⟨[], [], false⟩
/-- the lock is there, at least -/
def ensure (a : AT) (n : List UInt8) : AT := if (alook a.lm n).isSome then a else { a with lm := a.lm ++ [(n, AL0)] }
def lockA (a : AT) (n : List UInt8) : AL := (alook a.lm n).getD AL0
def holdsA (a : AT) (n : List UInt8) (t : Int) : Bool := match alook a.lm n with | none => false | some l => (alook l.hm t).isSome
theorem PT.Ok.up {p : PT} {B B' : Nat} (h : p.Ok B) (hB : B ≤ B') : p.Ok B' :=
  ⟨h.L, h.W, fun q hq => by
    obtain ⟨h1, h2, h3, h4⟩ := h.each q hq
    exact ⟨h1, h2, h3, by omega⟩, by have := h.lmB; omega, h.wl⟩
theorem at_put (p : PT) (n : List UInt8) (l : PL) (es : Array MapEntry) (ck : Nat) (wm : List (Int × List UInt8)) : PT.at_ { p with Wes := es, Wck := ck, wm := wm, lm := aset p.lm n l } = { lm := aset p.at_.lm n l.al, wm := wm } := by
  show AT.mk ((aset p.lm n l).map fun q => (q.1, q.2.al)) wm = _
  rw [aset_map PL.al]
  rfl
open Classical in
/-- Take, without memory -/
noncomputable def takeF (a0 : AT) (t : Int) (n : List UInt8) (s : Bool) : AT × Bool × Int :=
  if t < 0 then (a0, false, 1)
  else if ((alook a0.wm t).isSome || holdsA (ensure a0 n) n t) then (ensure a0 n, false, 8)
  else if (lockA a0 n).row.isEmpty && ((lockA a0 n).hm.isEmpty || ((lockA a0 n).sh && s)) then
    ({ ensure a0 n with lm := aset (ensure a0 n).lm n ⟨aset (lockA a0 n).hm t s, (lockA a0 n).row, s⟩ }, true, 0)
  else if Reach { lm := aset (ensure a0 n).lm n { lockA a0 n with row := (lockA a0 n).row ++ [(t, s)] }, wm := aset a0.wm t n } t t then
    ({ lm := aset (aset (ensure a0 n).lm n { lockA a0 n with row := (lockA a0 n).row ++ [(t, s)] }) n (lockA a0 n), wm := mdel (aset a0.wm t n) t }, false, 17)
  else ({ lm := aset (ensure a0 n).lm n { lockA a0 n with row := (lockA a0 n).row ++ [(t, s)] }, wm := aset a0.wm t n }, false, 0)
theorem ensure_wm (a : AT) (n : List UInt8) : (ensure a n).wm = a.wm := by unfold ensure; split <;> rfl
theorem mem_put {p : PT} {n : List UInt8} {l : PL} (h : alook p.lm n = some l) : (n, l) ∈ p.lm := alook_mem h
/-- Give, without memory -/
def giveF (a : AT) (t : Int) (n : List UInt8) : AT × List Int × Int :=
  if holdsA a n t then
    let g := goesF (lockA a n).row (mdel (lockA a n).hm t) (lockA a n).sh a.wm []
    ({ lm := aset a.lm n ⟨g.1, g.2.1, g.2.2.1⟩, wm := g.2.2.2.1 }, g.2.2.2.2, 0)
  else (a, [], 7)
theorem aset_aset {κ α : Type} [DecidableEq κ] (m : List (κ × α)) (k : κ) (u v : α) : aset (aset m k u) k v = aset m k v := by
  have h1 : (alook (aset m k u) k).isSome = true := by rw [alook_aset, if_pos rfl]; rfl
  have h2 : ∀ m' : List (κ × α), (alook m' k).isSome = true → aset m' k v = m'.map fun p => if p.1 = k then (p.1, v) else p := fun m' h => by unfold aset; rw [if_pos h]
  rw [h2 _ h1]
  unfold aset
  cases h : (alook m k).isSome with
  | true =>
    rw [if_pos rfl, if_pos rfl, List.map_map]
    refine List.map_congr_left fun p _ => ?_
    simp only [Function.comp]
    by_cases hp : p.1 = k
    · rw [if_pos hp, if_pos hp, if_pos hp]
    · rw [if_neg hp, if_neg hp]
  | false =>
    rw [if_neg (by decide), if_neg (by decide), List.map_append, List.map_cons, List.map_nil, if_pos rfl]
    congr 1
    have : ∀ p ∈ m, p.1 ≠ k := alook_none.1 (by simpa using h)
    conv => rhs; rw [← List.map_id m]
    exact List.map_congr_left fun p hp => by rw [if_neg (this p hp)]; rfl
/-- (*pantry.locks.Table).Take -/
theorem take_con (B : Nat) (hB : B < 1000000) (p : PT) (t : Int) (n : List UInt8) (s : Bool) (w : World) (hok : p.Ok B) (ht : intOk t) (hn : strOk n) : Con Try.prog 24 [.pointer (some ⟨p.gt, 0, none⟩), .int .i64 t, .string (bs n), .bool s] w p.heap fun u S' => ∃ (p' : PT) (r : Bool) (e : Int), S' = [p'.heap] ∧ u = .tuple #[.bool r, .int .i64 e] ∧ p'.gt = p.gt ∧ p'.Ok (B + 1) ∧ (p'.at_, r, e) = takeF p.at_ t n s := by
  refine con_of_tree mix Try.func24 T24_ok (by kernel_rfl) ?_
  unfold T24
  refine j_q (qs_ac) ?_
  refine j_q (qs_ac) ?_
  refine j_q (qs_pnil Try.underlying45 rfl) ?_
  refine j_g rfl (fun hb => qs_mt rfl) ?_
  refine j_g rfl (fun hb => qs_lss (gd_eq hb) rfl) ?_
  refine j_q (qs_or rfl rfl) ?_
  refine j_cond rfl (fun hc0 => ?_) (fun hc0 => ?_)
  · skip
    have hneg : t < 0 := by simpa [gd] using hc0
    refine j_q (qs_ac) ?_
    refine j_q (qs_ac) ?_
    refine j_ret_con (vs := [_, _]) (fun w' hw' => ⟨rfl, rfl, trivial⟩) ?_
    refine ⟨p, _, _, rfl, rfl, rfl, hok.up (Nat.le_succ _), ?_⟩
    unfold takeF
    rw [if_pos hneg]
  · skip
    have hneg : ¬ t < 0 := by simpa [gd] using hc0
    refine j_call 0 ent44 rfl rfl rfl rfl (fun w' hw' => of_con B p n w' hok hn) (fun u S2 hu => ?_)
    obtain ⟨p1, l, rfl, hgt, hok1, hl, rfl, hwm1, hlm1, hnew, hlB⟩ := hu
    refine j_subl (S' := [p1.heap]) (by repeat first | exact List.Sublist.refl _ | exact List.nil_sublist _ | apply List.Sublist.cons_cons | apply List.Sublist.cons) ?_
    unfold ptrL
    rw [← hgt]
    have hat1 : p1.at_ = ensure p.at_ n := by
      unfold ensure
      rw [at_look]
      cases hx : alook p.lm n with
      | none =>
        rw [hx] at hlm1
        obtain ⟨e1, e2, e3⟩ := hnew hx
        show AT.mk _ _ = _
        rw [Option.map_none, Option.isSome_none, if_neg (by decide), hlm1, Option.isSome_none, if_neg (by decide), List.map_append, hwm1]
        show AT.mk _ _ = AT.mk _ _
        congr 2
        show [(n, l.al)] = [(n, AL0)]
        unfold PL.al AL0
        rw [e1, e2, e3]
      | some l0 =>
        rw [hx] at hlm1
        show AT.mk _ _ = _
        rw [Option.map_some, Option.isSome_some, if_pos rfl, hlm1, Option.isSome_some, if_pos rfl, hwm1]
        rfl
    have hla : lockA p.at_ n = l.al := by
      unfold lockA
      rw [at_look]
      cases hx : alook p.lm n with
      | none =>
        obtain ⟨e1, e2, e3⟩ := hnew hx
        show AL0 = l.al
        unfold PL.al AL0
        rw [e1, e2, e3]
      | some l0 =>
        rw [hx, Option.isSome_some, if_pos rfl] at hlm1
        rw [hlm1, hx] at hl
        injection hl with hl
        rw [hl]
        rfl
    have hlk := hok1.lock hl
    obtain ⟨n1, A1, cap1, gr, ro, hrv, hn1, hcap1, hA⟩ := row_first hlk.row
    refine j_q (qs_nil rfl) ?_
    refine j_q (qs_field Try.underlying98 rfl sz96 (by decide) rfl) ?_
    refine j_q (qs_loadO (rdo_mem (o := PT.tobj p1) 0 rfl (by simp [PT.heap, PT.base])) Try.underlying96 rfl rfl rfl) ?_
    refine j_q (qs_lookup2R (key := t) intKey (rdo_mem 0 rfl (show (p1.gW, Obj.map p1.Wes p1.Wck) ∈ p1.heap by simp [PT.heap, PT.base])) Try.underlying96 zv9 rfl rfl hok1.W ht) ?_
    rw [mlook_map nameV]
    refine j_q (qs_ext (vs := [((alook p1.wm t).map nameV).getD (.string (bs [])), .bool ((alook p1.wm t).map nameV).isSome]) rfl rfl) ?_
    refine j_q (qs_ext (vs := [((alook p1.wm t).map nameV).getD (.string (bs [])), .bool ((alook p1.wm t).map nameV).isSome]) rfl rfl) ?_
    refine j_g rfl (fun hb => qs_mt rfl) ?_
    refine j_g rfl (fun hb => qs_mt rfl) ?_
    refine j_g rfl (fun hb => qs_mt rfl) ?_
    refine j_g rfl (fun hb => qs_call ent33 rfl rfl (args3 (gd_eq hb) (gd_eq hb) (gd_eq hb)) (fun w' hw' => holds_con (B + 1) p1 t n w' (in_own hw' 0 rfl) hok1 ht hn)) ?_
    refine j_q (qs_or rfl rfl) ?_
    refine j_cond rfl (fun hc1 => ?_) (fun hc1 => ?_)
    · skip
      have hho : holdsA (ensure p.at_ n) n t = (alook l.hm t).isSome := by
        unfold holdsA
        rw [← hat1, at_look, hl]
        rfl
      have hww : (alook p.at_.wm t).isSome = (alook p1.wm t).isSome := by rw [hwm1]; rfl
      have hhas : ((alook p.at_.wm t).isSome || holdsA (ensure p.at_ n) n t) = true := by
        rw [hww, hho]
        cases h1 : alook p1.wm t <;> cases h2 : alook l.hm t <;> simp [gd, h1, h2, hl] at hc1 ⊢
      refine j_q (qs_ac) ?_
      refine j_q (qs_ac) ?_
      refine j_ret_con (vs := [_, _]) (fun w' hw' => ⟨rfl, rfl, trivial⟩) ?_
      refine ⟨p1, _, _, rfl, rfl, rfl, hok1, ?_⟩
      unfold takeF
      rw [if_neg hneg, if_pos hhas, hat1]
    · skip
      have hho : holdsA (ensure p.at_ n) n t = (alook l.hm t).isSome := by
        unfold holdsA
        rw [← hat1, at_look, hl]
        rfl
      have hww : (alook p.at_.wm t).isSome = (alook p1.wm t).isSome := by rw [hwm1]; rfl
      have hhas : ((alook p.at_.wm t).isSome || holdsA (ensure p.at_ n) n t) = false := by
        rw [hww, hho]
        cases h1 : alook p1.wm t <;> cases h2 : alook l.hm t <;> simp [gd, h1, h2, hl] at hc1 ⊢
      have hhm0 : alook l.hm t = none := by
        rw [hww, hho] at hhas
        cases h2 : alook l.hm t with
        | none => rfl
        | some x => simp [h2] at hhas
      have hwm0 : alook p1.wm t = none := by
        rw [hww, hho] at hhas
        cases h2 : alook p1.wm t with
        | none => rfl
        | some x => simp [h2] at hhas
      refine j_q (qs_build (places := [(0, 1), (1, 1)]) (offs := [(0, [.int .i64 t]), (1, [.bool s])]) Try.underlying102 zero102 (by kernel_rfl) rfl (by rintro (_ | _ | j) p q hp hq <;> first | (simp at hp hq; subst hp hq; exact ⟨rfl, rfl, by simp⟩) | (simp at hp))) ?_
      refine j_alloc zero102 (fun g23 hg23 hs23 => ?_)
      refine j_storew 0 sz102 rfl rfl rfl (by intro u hu; simp [putAt] at hu; rcases hu with rfl | rfl <;> rfl) rfl rfl ?_
      refine j_q (qs_nil rfl) ?_
      refine j_q (qs_field Try.underlying106 rfl sz104 (by decide) rfl) ?_
      refine j_q (qs_loadO (rdo_mem (o := PL.obj l) 1 rfl (PT.lock_sub (n := n) (alook_mem hl) (l.gl, l.obj) (by simp [PL.heap]))) Try.underlying104 rfl rfl rfl) ?_
      refine j_q (qs_lenl Try.underlying104 hrv) ?_
      refine j_q (qs_eql rfl rfl) ?_
      refine j_g rfl (fun hb => qs_mt rfl) ?_
      refine j_g rfl (fun hb => qs_mt rfl) ?_
      refine j_g rfl (fun hb => qs_call ent45 rfl rfl (args2 (gd_eq hb) (gd_eq hb)) (fun w' hw' => free_con (B + 1) l s w' (hw'.own _ (List.mem_flatten.2 ⟨p1.heap, by simp, (PT.lock_sub (n := n) (alook_mem hl) (l.gl, l.obj) (by simp [PL.heap]))⟩)) (hw'.own (l.gh, l.hobj) (List.mem_flatten.2 ⟨p1.heap, by simp, PT.lock_sub (n := n) (alook_mem hl) _ (by simp [PL.heap])⟩)) hlk)) ?_
      refine j_q (qs_and rfl rfl) ?_
      refine j_cond rfl (fun hc2 => ?_) (fun hc2 => ?_)
      · skip
        have hfree : (l.row.isEmpty && (l.hm.isEmpty || (l.sh && s))) = true := by
          cases hr : l.row with
          | nil => rw [hr] at hn1; simpa [gd, hn1] using hc2
          | cons x r => rw [hr] at hn1; simp [gd, hn1] at hc2; omega
        obtain ⟨a, b, hab, hna, hnb⟩ := alook_split2 hok1.nodup hl
        refine j_perm (S' := [[(g23, .cells [Value.int .i64 t, .bool s].toArray 102 (0, 0))], [(p1.gt, p1.tobj)], [(p1.gL, .map p1.Les p1.Lck)], [(p1.gW, .map p1.Wes p1.Wck)], [(l.gl, l.obj)], [(l.gh, l.hobj)], l.rc, restH a b]) (by
          show ([[(g23, .cells [Value.int .i64 t, .bool s].toArray 102 (0, 0))], p1.heap] : List SH).flatten.Perm _
          have h := PT.open_ hab
          unfold PT.parts at h
          simpa using h) ?_
        refine j_perm (S' := [[(l.gl, l.obj), (l.gh, l.hobj)], [(g23, .cells [Value.int .i64 t, .bool s].toArray 102 (0, 0))], [(p1.gt, p1.tobj)], [(p1.gL, .map p1.Les p1.Lck)], [(p1.gW, .map p1.Wes p1.Wck)], l.rc, restH a b]) (by classical exact List.perm_iff_count.2 fun a => by simp only [PT.heap, PT.base, PL.heap, PT.tobj, PL.obj, PL.hobj, List.set_cons_succ, List.set_cons_zero, List.flatten_cons, List.flatten_nil, List.append_nil, List.nil_append, List.map_append, List.map_cons, List.map_nil, List.flatten_append, List.count_append, List.count_cons, List.count_nil]; omega) ?_
        refine j_q (qs_loadw (l := [.int .i64 t, .bool s]) 1 Try.underlying102 rfl sz102 rfl rfl rfl) ?_
        refine j_call 0 ent46 rfl rfl rfl rfl (fun w' hw' => takes_con (B + 1) l (t, s) w' ht hlk) (fun u S2 hu => ?_)
        obtain ⟨es', ck', rfl, rfl, hm'⟩ := hu
        refine j_q (qs_ac) ?_
        refine j_q (qs_ac) ?_
        refine j_subl (S' := [[(l.gl, PL.obj { l with sh := s }), (l.gh, .map es' ck')], [(g23, .cells [Value.int .i64 t, .bool s].toArray 102 (0, 0))], [(p1.gt, p1.tobj)], [(p1.gL, .map p1.Les p1.Lck)], [(p1.gW, .map p1.Wes p1.Wck)], l.rc, restH a b]) (by repeat first | exact List.Sublist.refl _ | exact List.nil_sublist _ | apply List.Sublist.cons_cons | apply List.Sublist.cons) ?_
        refine j_perm (S' := [[(p1.gt, p1.tobj)], [(p1.gL, .map p1.Les p1.Lck)], [(p1.gW, .map p1.Wes p1.Wck)], [(l.gl, PL.obj { l with sh := s, hes := es', hck := ck', hm := aset l.hm t s })], [(l.gh, PL.hobj { l with sh := s, hes := es', hck := ck', hm := aset l.hm t s })], l.rc, restH a b, [(g23, .cells [Value.int .i64 t, .bool s].toArray 102 (0, 0))]]) (by classical exact List.perm_iff_count.2 fun a => by simp only [PT.heap, PT.base, PL.heap, PT.tobj, PL.obj, PL.hobj, List.set_cons_succ, List.set_cons_zero, List.flatten_cons, List.flatten_nil, List.append_nil, List.nil_append, List.map_append, List.map_cons, List.map_nil, List.flatten_append, List.count_append, List.count_cons, List.count_nil]; omega) ?_
        refine j_subl (S' := [[(p1.gt, p1.tobj)], [(p1.gL, .map p1.Les p1.Lck)], [(p1.gW, .map p1.Wes p1.Wck)], [(l.gl, PL.obj { l with sh := s, hes := es', hck := ck', hm := aset l.hm t s })], [(l.gh, PL.hobj { l with sh := s, hes := es', hck := ck', hm := aset l.hm t s })], l.rc, restH a b]) (by repeat first | exact List.Sublist.refl _ | exact List.nil_sublist _ | apply List.Sublist.cons_cons | apply List.Sublist.cons) ?_
        refine j_perm (PT.close_ (l' := { l with sh := s, hes := es', hck := ck', hm := aset l.hm t s }) hab hna hnb p1.Wes p1.Wck p1.wm) ?_
        refine j_ret_con (vs := [_, _]) (fun w' hw' => ⟨rfl, rfl, trivial⟩) ?_
        refine ⟨_, _, _, rfl, rfl, rfl, hok1.put (l' := { l with sh := s, hes := es', hck := ck', hm := aset l.hm t s }) hl rfl ⟨hm', hlk.row, hlk.rowOk, ?_⟩ (Nat.le_refl _) hok1.W hok1.wl, ?_⟩
        · have h1 := hlB.hrB
          have h2 := aset_length l.hm t s
          show (aset l.hm t s).length + l.row.length ≤ B + 1
          omega
        · unfold takeF
          rw [if_neg hneg, if_neg (by rw [hhas]; decide), if_pos (by rw [hla]; exact hfree), at_put, hat1, hla]
          show (AT.mk _ p1.wm, true, (0 : Int)) = (AT.mk _ (ensure p.at_ n).wm, true, 0)
          rw [ensure_wm, hwm1]
          rfl
      · skip
        have hfree : (l.row.isEmpty && (l.hm.isEmpty || (l.sh && s))) = false := by
          cases hr : l.row with
          | nil => rw [hr] at hn1; simpa [gd, hn1] using hc2
          | cons x r => rfl
        obtain ⟨a, b, hab, hna, hnb⟩ := alook_split2 hok1.nodup hl
        refine j_perm (S' := [[(g23, .cells [Value.int .i64 t, .bool s].toArray 102 (0, 0))], [(p1.gt, p1.tobj)], [(p1.gL, .map p1.Les p1.Lck)], [(p1.gW, .map p1.Wes p1.Wck)], [(l.gl, l.obj)], [(l.gh, l.hobj)], l.rc, restH a b]) (by
          show ([[(g23, .cells [Value.int .i64 t, .bool s].toArray 102 (0, 0))], p1.heap] : List SH).flatten.Perm _
          have h := PT.open_ hab
          unfold PT.parts at h
          simpa using h) ?_
        refine j_mix [[(g23, .cells [Value.int .i64 t, .bool s].toArray 102 (0, 0))], [(l.gl, l.obj)]] (Le.of_sub (by repeat first | exact List.Sublist.refl _ | exact List.nil_sublist _ | apply List.Sublist.cons_cons | apply List.Sublist.cons)) ?_
        refine j_mq (qs_nil rfl) ?_
        refine j_mq (qs_field Try.underlying106 rfl sz104 (by decide) rfl) ?_
        refine j_mq (qs_load (l := [.map (some l.gh), l.rv, .bool l.sh]) 1 Try.underlying104 rfl rfl rfl rfl) ?_
        refine j_mq (qs_loadw (l := [.int .i64 t, .bool s]) 0 Try.underlying102 rfl sz102 rfl rfl rfl) ?_
        refine j_litw (vs := [.int .i64 t, .bool s]) Try.underlying104 sz102 zero102 rfl rfl ⟨rfl, by decide, by decide⟩ (fun g42 hg42 ho42 => ?_)
        have hrow43 : OwnO 102 2 (askers l.row) l.rv l.rc := hlk.row
        refine j_mD0 (Le.of_sub (by repeat first | exact List.Sublist.refl _ | exact List.nil_sublist _ | apply List.Sublist.cons_cons | apply List.Sublist.cons)) ?_
        refine j_appendO 7 Try.underlying104 Try.underlying104 (.inr ⟨_, rfl⟩) sb102 zero102 rfl hrow43 rfl (.inl ⟨_, _, rfl, own_rd ho42 0 rfl, rfl⟩) (by intro u hu; simp at hu; rcases hu with rfl | rfl <;> rfl) ⟨(by have h0 := hlB.hrB; rw [askers_length]; simp only [List.length_cons, List.length_nil]; omega), (by decide)⟩ (fun v43 c43 ho43 => ?_)
        have ho43' : OwnO 102 2 (askers (l.row ++ [(t, s)])) v43 c43 := by
          rw [askers_append]
          exact ho43
        obtain ⟨n5, A5, cap5, gr5, ro5, hrv5, hn5, hcap5, hA5⟩ := row_first ho43'
        refine j_mD0 (Le.of_sub (by repeat first | exact List.Sublist.refl _ | exact List.nil_sublist _ | apply List.Sublist.cons_cons | apply List.Sublist.cons)) ?_
        refine j_mq (qs_nil rfl) ?_
        refine j_mq (qs_field Try.underlying106 rfl sz104 (by decide) rfl) ?_
        refine j_store (l := [.map (some l.gh), l.rv, .bool l.sh]) 5 sz104 rfl rfl (by show oneV v43 = true; rw [hrv5]; rfl) rfl (by simp) (by simp) ?_
        refine j_mR [] (Le.of_sub (List.nil_sublist _)) ?_
        refine j_mend ?_
        refine j_q (qs_nil rfl) ?_
        refine j_q (qs_field Try.underlying98 rfl sz96 (by decide) rfl) ?_
        refine j_q (qs_load (l := [.map (some p1.gL), .map (some p1.gW)]) 2 Try.underlying96 rfl rfl rfl rfl) ?_
        refine j_mapset (key := t) (val := nameV n) intKey 4 Try.underlying96 rfl rfl rfl rfl hok1.W ht (fun wes2 wck2 hW2 => ?_)
        rw [mset_map nameV] at hW2
        have hwl2 : ∀ q ∈ aset p1.wm t n, (alook p1.lm q.2).isSome = true := fun q hq => by
          rcases aset_mem hq with hq | rfl
          · exact hok1.wl q hq
          · rw [hl]; rfl
        have hok2 : PT.Ok (B + 1) ({ p1 with Wes := wes2, Wck := wck2, wm := aset p1.wm t n, lm := aset p1.lm n { l with rv := v43, rc := c43, row := l.row ++ [(t, s)] } } : PT) := hok1.put (l' := { l with rv := v43, rc := c43, row := l.row ++ [(t, s)] }) hl rfl ⟨hlk.hm, ho43', fun x hx => by
          rcases List.mem_append.1 (show x ∈ l.row ++ [(t, s)] from hx) with hx | hx
          · exact hlk.rowOk x hx
          · rw [List.mem_singleton] at hx; rw [hx]; exact ht, by
          have h0 := hlB.hrB
          show l.hm.length + (l.row ++ [(t, s)]).length ≤ B + 1
          rw [List.length_append, List.length_singleton]
          omega⟩ (Nat.le_refl _) hW2 hwl2
        have hp2 : PT.at_ ({ p1 with Wes := wes2, Wck := wck2, wm := aset p1.wm t n, lm := aset p1.lm n { l with rv := v43, rc := c43, row := l.row ++ [(t, s)] } } : PT) = { lm := aset (ensure p.at_ n).lm n { lockA p.at_ n with row := (lockA p.at_ n).row ++ [(t, s)] }, wm := aset p.at_.wm t n } := by
          rw [at_put, hat1, hla, hwm1]
          rfl
        refine j_mkmap (fun g51 hg51 => ?_)
        refine j_perm (S' := [[(g51, .map #[] 0)], PT.heap ({ p1 with Wes := wes2, Wck := wck2, wm := aset p1.wm t n, lm := aset p1.lm n { l with rv := v43, rc := c43, row := l.row ++ [(t, s)] } } : PT), [(g42, .cells [Value.int .i64 t, .bool s].toArray 102 (0, 0))], [(g23, .cells [Value.int .i64 t, .bool s].toArray 102 (0, 0))]]) (by
          classical
          show ([[(g51, .map #[] 0)], [(g42, .cells [Value.int .i64 t, .bool s].toArray 102 (0, 0))], [(g23, .cells [Value.int .i64 t, .bool s].toArray 102 (0, 0))], [(p1.gt, p1.tobj)], [(p1.gL, .map p1.Les p1.Lck)], [(p1.gW, .map wes2 wck2)], [(l.gl, PL.obj { l with rv := v43, rc := c43, row := l.row ++ [(t, s)] })], [(l.gh, l.hobj)], c43, restH a b] : List SH).flatten.Perm _
          have h : ([[(p1.gt, p1.tobj)], [(p1.gL, .map p1.Les p1.Lck)], [(p1.gW, .map wes2 wck2)], [(l.gl, PL.obj { l with rv := v43, rc := c43, row := l.row ++ [(t, s)] })], [(l.gh, l.hobj)], c43, restH a b] : List SH).flatten.Perm ([PT.heap ({ p1 with Wes := wes2, Wck := wck2, wm := aset p1.wm t n, lm := aset p1.lm n { l with rv := v43, rc := c43, row := l.row ++ [(t, s)] } } : PT)] : List SH).flatten := PT.close_ (l' := { l with rv := v43, rc := c43, row := l.row ++ [(t, s)] }) hab hna hnb wes2 wck2 (aset p1.wm t n)
          refine List.perm_iff_count.2 fun x => ?_
          have h2 := List.perm_iff_count.1 h x
          simp only [List.flatten_cons, List.flatten_nil, List.append_nil, List.count_append, List.count_cons, List.count_nil] at h2 ⊢
          omega) ?_
        refine j_call 0 ent47 rfl rfl rfl rfl (fun w' hw' => rings_con (B + 1) (by omega) ({ p1 with Wes := wes2, Wck := wck2, wm := aset p1.wm t n, lm := aset p1.lm n { l with rv := v43, rc := c43, row := l.row ++ [(t, s)] } } : PT) hok2 t t [] g51 #[] 0 w' (in_own hw' 1 rfl) (fun q hq e => by
          have hnd := hw'.nodup
          simp only [dom, List.flatten_cons, List.map_append, List.map_cons, List.cons_append, List.nil_append, List.map_nil, List.nodup_cons] at hnd
          exact hnd.1 (List.mem_append_left _ (e ▸ List.mem_map_of_mem (f := Prod.fst) hq))) ht ht mapOk_nil (fun x b h => by simp [alook] at h)) (fun u S2 hu => ?_)
        obtain ⟨r, es', ck', m1, rfl, rfl, hm1, hT1, hrp⟩ := hu
        refine j_subl (S' := [PT.heap ({ p1 with Wes := wes2, Wck := wck2, wm := aset p1.wm t n, lm := aset p1.lm n { l with rv := v43, rc := c43, row := l.row ++ [(t, s)] } } : PT)]) (by repeat first | exact List.Sublist.refl _ | exact List.nil_sublist _ | apply List.Sublist.cons_cons | apply List.Sublist.cons) ?_
        refine j_cond rfl (fun hc3 => ?_) (fun hc3 => ?_)
        · skip
          have hring : Reach ({ p1 with Wes := wes2, Wck := wck2, wm := aset p1.wm t n, lm := aset p1.lm n { l with rv := v43, rc := c43, row := l.row ++ [(t, s)] } } : PT).at_ t t := (rp_reach hrp).1 hc3
          refine j_perm (S' := [[(p1.gt, p1.tobj)], [(p1.gL, .map p1.Les p1.Lck)], [(p1.gW, .map wes2 wck2)], [(l.gl, PL.obj { l with rv := v43, rc := c43, row := l.row ++ [(t, s)] })], [(l.gh, l.hobj)], c43, restH a b]) (PT.close_ (l' := { l with rv := v43, rc := c43, row := l.row ++ [(t, s)] }) hab hna hnb wes2 wck2 (aset p1.wm t n)).symm ?_
          refine j_draw ?_
          refine jq_q (qs_nil rfl) ?_
          refine jq_q (qs_field Try.underlying106 rfl sz104 (by decide) rfl) ?_
          refine jq_q (qs_load (l := [.map (some l.gh), v43, .bool l.sh]) 3 Try.underlying104 rfl rfl rfl rfl) ?_
          refine jq_q (qs_nil rfl) ?_
          refine jq_q (qs_field Try.underlying106 rfl sz104 (by decide) rfl) ?_
          refine jq_q (qs_load (l := [.map (some l.gh), v43, .bool l.sh]) 3 Try.underlying104 rfl rfl rfl rfl) ?_
          refine jq_q (qs_lenl Try.underlying104 hrv5) ?_
          refine jq_q (qs_sub64 rfl rfl (by have h0 := hlB.hrB; rw [hn5, List.length_append, List.length_singleton]; omega)) ?_
          refine jq_q (qs_cutl (a := 0) (z := n5 - 1) Try.underlying104 sz102 hrv5 rfl ⟨.i64, by show Value.int _ _ = _; congr 1; rw [hn5, List.length_append, List.length_singleton]; omega⟩ (by omega) (by omega)) ?_
          refine jq_q (qs_nil rfl) ?_
          refine jq_q (qs_field Try.underlying106 rfl sz104 (by decide) rfl) ?_
          refine jq_nil ?_
          refine j_store (l := [.map (some l.gh), v43, .bool l.sh]) 3 sz104 rfl rfl rfl rfl (by simp) (by simp) ?_
          refine j_q (qs_nil rfl) ?_
          refine j_q (qs_field Try.underlying98 rfl sz96 (by decide) rfl) ?_
          refine j_q (qs_load (l := [.map (some p1.gL), .map (some p1.gW)]) 0 Try.underlying96 rfl rfl rfl rfl) ?_
          refine j_mapdel (key := t) intKey 2 Try.underlying96 rfl rfl rfl hW2 ht (fun wes3 hW3 => ?_)
          rw [mdel_map nameV] at hW3
          refine j_q (qs_ac) ?_
          refine j_q (qs_ac) ?_
          refine j_perm (S' := [PT.heap { p1 with Wes := wes3, Wck := wck2, wm := mdel (aset p1.wm t n) t, lm := aset p1.lm n { l with rv := .slice (if cap5 = 0 then A5 else A5.map (fun a : Addr => a.add (0 * 2))) (n5 - 1 - 0) (cap5 - 0), rc := c43 } }]) (by
            show ([[(p1.gt, p1.tobj)], [(p1.gL, .map p1.Les p1.Lck)], [(p1.gW, .map wes3 wck2)], [(l.gl, PL.obj { l with rv := .slice (if cap5 = 0 then A5 else A5.map (fun a : Addr => a.add (0 * 2))) (n5 - 1 - 0) (cap5 - 0), rc := c43 })], [(l.gh, l.hobj)], c43, restH a b] : List SH).flatten.Perm _
            exact PT.close_ (l' := { l with rv := .slice (if cap5 = 0 then A5 else A5.map (fun a : Addr => a.add (0 * 2))) (n5 - 1 - 0) (cap5 - 0), rc := c43 }) hab hna hnb wes3 wck2 (mdel (aset p1.wm t n) t)) ?_
          refine j_ret_con (vs := [_, _]) (fun w' hw' => ⟨rfl, rfl, trivial⟩) ?_
          refine ⟨_, _, _, rfl, rfl, rfl, hok1.put (l' := { l with rv := .slice (if cap5 = 0 then A5 else A5.map (fun a : Addr => a.add (0 * 2))) (n5 - 1 - 0) (cap5 - 0), rc := c43 }) hl rfl ⟨hlk.hm, ?_, hlk.rowOk, hlk.hrB⟩ (Nat.le_refl _) hW3 (fun q hq => hwl2 q (List.mem_filter.1 hq).1), ?_⟩
          · have h := ho43'
            rw [hrv5] at h
            have h := ownO_cut h (i := n5 - 1) (by omega)
            rw [askers_append, List.take_left' (by rw [askers_length, hn5, List.length_append, List.length_singleton, Nat.add_sub_cancel])] at h
            exact h
          · have hk : takeF p.at_ t n s = ({ lm := aset (aset (ensure p.at_ n).lm n { lockA p.at_ n with row := (lockA p.at_ n).row ++ [(t, s)] }) n (lockA p.at_ n), wm := mdel (aset p.at_.wm t n) t }, false, 17) := by
              unfold takeF
              rw [if_neg hneg, if_neg (by rw [hhas]; decide), if_neg (by rw [hla, show (l.al.row.isEmpty && (l.al.hm.isEmpty || (l.al.sh && s))) = false from hfree]; decide), if_pos (by rw [← hp2]; exact hring)]
            rw [hk, at_put, aset_aset, hat1, hla, hwm1]
            rfl
        · skip
          have hring : ¬ Reach ({ p1 with Wes := wes2, Wck := wck2, wm := aset p1.wm t n, lm := aset p1.lm n { l with rv := v43, rc := c43, row := l.row ++ [(t, s)] } } : PT).at_ t t := fun h => by rw [(rp_reach hrp).2 h] at hc3; cases hc3
          refine j_q (qs_ac) ?_
          refine j_q (qs_ac) ?_
          refine j_ret_con (vs := [_, _]) (fun w' hw' => ⟨rfl, rfl, trivial⟩) ?_
          refine ⟨({ p1 with Wes := wes2, Wck := wck2, wm := aset p1.wm t n, lm := aset p1.lm n { l with rv := v43, rc := c43, row := l.row ++ [(t, s)] } } : PT), _, _, rfl, rfl, rfl, hok2, ?_⟩
          have hk : takeF p.at_ t n s = ({ lm := aset (ensure p.at_ n).lm n { lockA p.at_ n with row := (lockA p.at_ n).row ++ [(t, s)] }, wm := aset p.at_.wm t n }, false, 0) := by
            unfold takeF
            rw [if_neg hneg, if_neg (by rw [hhas]; decide), if_neg (by rw [hla, show (l.al.row.isEmpty && (l.al.hm.isEmpty || (l.al.sh && s))) = false from hfree]; decide), if_neg (by rw [← hp2]; exact hring)]
          rw [hk, hp2]
end Go.Proofs.Ytlgfpoelhjlifaa
