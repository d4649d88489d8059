/- Locks by names: Give and Leave. -/
import Derived.Test.YtlgfpoelhjlifaaTa
import Derived.Test.YtlgfpoelhjlifaaSrk12
namespace Go.Proofs.Ytlgfpoelhjlifaa
open Go Go.Sx
set_option maxRecDepth 100000
set_option maxHeartbeats 4000000
set_option linter.unusedVariables false
set_option linter.unusedSimpArgs false
attribute [local irreducible] J JQ QS Con W opW
theorem ent26 : Sx.Enters Try.prog 26 := ⟨_, Try.func26, by kernel_rfl, by kernel_rfl⟩
theorem ent51 : Sx.Enters Try.prog 51 := ⟨_, Try.func51, by kernel_rfl, by kernel_rfl⟩
theorem ent54 : Sx.Enters Try.prog 54 := ⟨_, Try.func54, by kernel_rfl, by kernel_rfl⟩
theorem ent56 : Sx.Enters Try.prog 56 := ⟨_, Try.func56, by kernel_rfl, by kernel_rfl⟩
theorem ent57 : Sx.Enters Try.prog 57 := ⟨_, Try.func57, by kernel_rfl, by kernel_rfl⟩
theorem sz9 : (Try.prog.info? 9).map (·.size) = some 1 := by kernel_rfl

open Go.MapKept Go.WideMaps Go.Maps
theorem at_eq (p : PT) {lm : List (List UInt8 × PL)} {n : List UInt8} {l : PL} (h : p.lm = aset lm n l) : p.at_ = { lm := aset (lm.map fun q => (q.1, q.2.al)) n l.al, wm := p.wm } := by
  show AT.mk (p.lm.map fun q => (q.1, q.2.al)) p.wm = _
  rw [h, aset_map PL.al]
def leaveStep (t : Int) (s : AT × List Int) (n : List UInt8) : AT × List Int := if holdsA s.1 n t then ((giveF s.1 t n).1, s.2 ++ (giveF s.1 t n).2.1) else s
def leave1 (a : AT) (t : Int) : AT × List Int :=
  match alook a.wm t with
  | none => (a, [])
  | some n =>
    let g := goesF ((lockA a n).row.filter (keepB t)) (lockA a n).hm (lockA a n).sh (mdel a.wm t) []
    ({ lm := aset a.lm n ⟨g.1, g.2.1, g.2.2.1⟩, wm := g.2.2.2.1 }, g.2.2.2.2)
/-- Leave, without memory -/
def leaveF (a : AT) (t : Int) : AT × List Int := (sortS ((leave1 a t).1.lm.map Prod.fst)).foldl (leaveStep t) (leave1 a t)
theorem mdel_length {κ α : Type} [DecidableEq κ] (m : List (κ × α)) (k : κ) : (mdel m k).length ≤ m.length := List.length_filter_le _ _
theorem holds2_con (B : Nat) (p : PT) (t : Int) (n : List UInt8) (w : World) (hin : In w p.heap) (hok : p.Ok B) (ht : intOk t) (hn : strOk n) : Con Try.prog 33 [.pointer (some ⟨p.gt, 0, none⟩), .int .i64 t, .string (bs n)] w [] fun v _ => v = .bool (holdsA p.at_ n t) :=
  (holds_con B p t n w hin hok ht hn).mono fun u _ hu => by
    rw [hu]
    congr 1
    unfold holdsA
    rw [at_look]
    cases alook p.lm n <;> rfl
theorem holds_none {p : PT} {n : List UInt8} {t : Int} (h : holdsA p.at_ n t = true) : ∃ l, alook p.lm n = some l := by
  cases hx : alook p.lm n with
  | none =>
    unfold holdsA at h
    rw [at_look, hx] at h
    cases h
  | some l => exact ⟨l, rfl⟩
theorem own_srck {b : Base} {S : List SH} {v : Value} {c : SH} {l : List Int} (h : Sx.Own 3 1 (ks .i64 l) v c) (k : Nat) (hk : S[k]? = some c) : Src b S 1 v l.length (ks .i64 l) := by
  obtain ⟨m, h1, h2⟩ := src_own (b := b) k h hk
  rw [ks_length, Nat.mul_one] at h2
  rw [h2]
  exact h1
theorem lock_at {p : PT} {n : List UInt8} {l : PL} (h : alook p.lm n = some l) : lockA p.at_ n = l.al := by
  unfold lockA
  rw [at_look, h]
  rfl
theorem alook_aset_self {κ α : Type} [DecidableEq κ] (m : List (κ × α)) (k : κ) (v : α) : alook (aset m k v) k = some v := by rw [alook_aset, if_pos rfl]
theorem at_lmkeys (p : PT) : p.at_.lm.map Prod.fst = p.lm.map Prod.fst := by
  show (p.lm.map fun q => (q.1, q.2.al)).map Prod.fst = _
  rw [List.map_map]
  rfl
theorem at_wm (p : PT) : p.at_.wm = p.wm := rfl
/-- (*pantry.locks.Table).Give -/
theorem give_con (B : Nat) (hB : B ≤ 1000000) (p : PT) (t : Int) (n : List UInt8) (w : World) (hok : p.Ok B) (ht : intOk t) (hn : strOk n) : Con Try.prog 26 [.pointer (some ⟨p.gt, 0, none⟩), .int .i64 t, .string (bs n)] w p.heap fun u S' => ∃ (p' : PT) (out : List Int) (oc : SH) (e : Int) (v : Value), S' = [p'.heap, oc] ∧ u = .tuple #[v, .int .i64 e] ∧ Sx.Own 3 1 (ks .i64 out) v oc ∧ p'.gt = p.gt ∧ p'.Ok B ∧ (p'.at_, out, e) = giveF p.at_ t n ∧ out.length ≤ B := by
  refine con_of_tree mix Try.func26 T26_ok (by kernel_rfl) ?_
  unfold T26
  refine j_q (qs_ac) ?_
  refine j_q (qs_ac) ?_
  refine j_q (qs_pnil Try.underlying45 rfl) ?_
  refine j_cond rfl (fun hc0 => ?_) (fun hc0 => ?_)
  · skip
    simp at hc0
  · skip
    refine j_q (qs_call ent33 rfl rfl rfl (fun w' hw' => holds2_con B p t n w' (in_own hw' 0 rfl) hok ht hn)) ?_
    refine j_q (qs_not rfl) ?_
    refine j_cond rfl (fun hc1 => ?_) (fun hc1 => ?_)
    · skip
      have hno : holdsA p.at_ n t = false := by simpa using hc1
      refine j_q (qs_ac) ?_
      refine j_q (qs_ac) ?_
      refine j_perm (S' := [p.heap, []]) (by simp) ?_
      refine j_ret_con (vs := [_, _]) (fun w' hw' => ⟨rfl, rfl, trivial⟩) ?_
      refine ⟨p, [], [], _, _, rfl, rfl, own_nil, rfl, hok, ?_, Nat.zero_le _⟩
      unfold giveF
      rw [if_neg (by rw [hno]; decide)]
    · skip
      have hyes : holdsA p.at_ n t = true := by simpa using hc1
      obtain ⟨l, hl⟩ := holds_none hyes
      have hlk := hok.lock hl
      obtain ⟨a, b, hab, hna, hnb⟩ := alook_split2 hok.nodup hl
      refine j_perm (S' := [[(p.gt, p.tobj)], [(p.gL, .map p.Les p.Lck)], [(p.gW, .map p.Wes p.Wck)], [(l.gl, l.obj)], [(l.gh, l.hobj)], l.rc, restH a b]) (by
        have h := PT.open_ hab
        unfold PT.parts at h
        simpa using h) ?_
      refine j_q (qs_nil rfl) ?_
      refine j_q (qs_field Try.underlying98 rfl sz95 (by decide) rfl) ?_
      refine j_q (qs_load (l := [.map (some p.gL), .map (some p.gW)]) 0 Try.underlying95 rfl rfl rfl rfl) ?_
      refine j_q (qs_lookup (key := n) strKey 1 Try.underlying95 zv99 rfl rfl rfl hok.L hn) ?_
      rw [mlook_map ptrL, getD_ptr, hl]
      refine j_q (qs_nil rfl) ?_
      refine j_q (qs_field Try.underlying106 rfl sz103 (by decide) rfl) ?_
      refine j_q (qs_load (l := [.map (some l.gh), l.rv, .bool l.sh]) 3 Try.underlying103 rfl rfl rfl rfl) ?_
      refine j_mapdel (key := t) intKey 4 Try.underlying103 rfl rfl rfl hlk.hm ht (fun es1 hm1 => ?_)
      rw [mdel_map (fun b => Value.bool b)] at hm1
      have hok1 : PT.Ok B ({ p with Wes := p.Wes, Wck := p.Wck, wm := p.wm, lm := aset p.lm n { l with hes := es1, hm := mdel l.hm t } } : PT) := hok.put (l' := { l with hes := es1, hm := mdel l.hm t }) hl rfl ⟨hm1, hlk.row, hlk.rowOk, by
        have h1 := hlk.hrB
        have h2 := mdel_length l.hm t
        show (mdel l.hm t).length + l.row.length ≤ B
        omega⟩ (Nat.le_refl _) hok.W hok.wl
      refine j_perm (S' := [PT.heap ({ p with Wes := p.Wes, Wck := p.Wck, wm := p.wm, lm := aset p.lm n { l with hes := es1, hm := mdel l.hm t } } : PT)]) (by
        show ([[(p.gt, p.tobj)], [(p.gL, .map p.Les p.Lck)], [(p.gW, .map p.Wes p.Wck)], [(l.gl, PL.obj { l with hes := es1, hm := mdel l.hm t })], [(l.gh, PL.hobj { l with hes := es1, hm := mdel l.hm t })], l.rc, restH a b] : List SH).flatten.Perm _
        exact PT.close_ (l' := { l with hes := es1, hm := mdel l.hm t }) hab hna hnb p.Wes p.Wck p.wm) ?_
      refine j_call 0 ent51 rfl rfl rfl rfl (fun w' hw' => goes_con B hB ({ p with Wes := p.Wes, Wck := p.Wck, wm := p.wm, lm := aset p.lm n { l with hes := es1, hm := mdel l.hm t } } : PT) n { l with hes := es1, hm := mdel l.hm t } w' hok1 (alook_aset_self _ _ _)) (fun u S2 hu => ?_)
      obtain ⟨p', l', out, oc, rfl, ho, hgt', hok', hlm', hgl', hgo, hob⟩ := hu
      refine j_subl (S' := [p'.heap, oc]) (by repeat first | exact List.Sublist.refl _ | exact List.nil_sublist _ | apply List.Sublist.cons_cons | apply List.Sublist.cons) ?_
      refine j_q (qs_ac) ?_
      refine j_ret_con (vs := [_, _]) (fun w' hw' => ⟨rfl, rfl, trivial⟩) ?_
      refine ⟨p', out, oc, _, _, rfl, rfl, ho, hgt', hok', ?_, hob⟩
      unfold giveF
      rw [if_pos hyes, lock_at hl]
      show _ = (AT.mk _ _, _, _)
      have hg : goesF l.row (mdel l.hm t) l.sh p.wm [] = (l'.hm, l'.row, l'.sh, p'.wm, out) := hgo
      rw [at_eq p' hlm', aset_map PL.al, aset_aset, show goesF l.al.row (mdel l.al.hm t) l.al.sh p.at_.wm [] = (l'.hm, l'.row, l'.sh, p'.wm, out) from hg]
      rfl
/-- (*pantry.locks.Table).Leave -/
theorem leave_con (B : Nat) (hB : B ≤ 1000000) (p : PT) (t : Int) (w : World) (hok : p.Ok B) (ht : intOk t) : Con Try.prog 29 [.pointer (some ⟨p.gt, 0, none⟩), .int .i64 t] w p.heap fun u S' => ∃ (p' : PT) (out : List Int) (oc : SH), S' = [p'.heap, oc] ∧ Sx.Own 3 1 (ks .i64 out) u oc ∧ p'.gt = p.gt ∧ p'.Ok B ∧ (p'.at_, out) = leaveF p.at_ t := by
  refine con_of_tree mix Try.func29 T29_ok (by kernel_rfl) ?_
  unfold T29
  refine j_box rfl (fun g0 hg0 hs0 => ?_)
  refine j_q (qs_ac) ?_
  refine j_q (qs_pnil Try.underlying45 rfl) ?_
  refine j_cond rfl (fun hc0 => ?_) (fun hc0 => ?_)
  · skip
    simp at hc0
  · skip
    refine j_q (qs_ac) ?_
    refine j_draw ?_
    refine jq_q (qs_nil rfl) ?_
    refine jq_q (qs_field Try.underlying98 rfl sz96 (by decide) rfl) ?_
    refine jq_q (qs_loadO (rdo_mem (o := PT.tobj p) 1 rfl (by simp [PT.heap, PT.base])) Try.underlying96 rfl rfl rfl) ?_
    refine jq_q (qs_load (l := [.int .i64 t]) 0 Try.underlying3 rfl rfl rfl rfl) ?_
    refine jq_q (qs_lookup2R (key := t) intKey (rdo_mem 1 rfl (show (p.gW, Obj.map p.Wes p.Wck) ∈ p.heap by simp [PT.heap, PT.base])) Try.underlying96 zv9 rfl rfl hok.W ht) ?_
    rw [mlook_map nameV]
    refine jq_q (qs_ext (vs := [((alook p.wm t).map nameV).getD (.string (bs [])), .bool ((alook p.wm t).map nameV).isSome]) rfl rfl) ?_
    refine jq_q (qs_ext (vs := [((alook p.wm t).map nameV).getD (.string (bs [])), .bool ((alook p.wm t).map nameV).isSome]) rfl rfl) ?_
    refine jq_nil ?_
    refine j_cond rfl (fun hc1 => ?_) (fun hc1 => ?_)
    · skip
      obtain ⟨n, hw0⟩ : ∃ n, alook p.wm t = some n := by
        cases hx : alook p.wm t with
        | none => simp [hx] at hc1
        | some n => exact ⟨n, rfl⟩
      rw [hw0]
      obtain ⟨l, hl⟩ := Option.isSome_iff_exists.1 (hok.wl (t, n) (alook_mem hw0))
      simp only at hl
      have hn : strOk n := hok.L.keys (n, ptrL l) (List.mem_map.2 ⟨(n, l), alook_mem hl, rfl⟩)
      have hlk := hok.lock hl
      obtain ⟨a, b, hab, hna, hnb⟩ := alook_split2 hok.nodup hl
      refine j_perm (S' := [[(g0, .cells [Value.int .i64 t].toArray 3 (0, 0))], [(p.gt, p.tobj)], [(p.gL, .map p.Les p.Lck)], [(p.gW, .map p.Wes p.Wck)], [(l.gl, l.obj)], [(l.gh, l.hobj)], l.rc, restH a b]) (by
        show ([[(g0, .cells [Value.int .i64 t].toArray 3 (0, 0))], p.heap] : List SH).flatten.Perm _
        have h := PT.open_ hab
        unfold PT.parts at h
        simpa using h) ?_
      refine j_q (qs_nil rfl) ?_
      refine j_q (qs_field Try.underlying98 rfl sz95 (by decide) rfl) ?_
      refine j_q (qs_load (l := [.map (some p.gL), .map (some p.gW)]) 1 Try.underlying95 rfl rfl rfl rfl) ?_
      refine j_q (qs_lookup (key := n) strKey 2 Try.underlying95 zv99 rfl rfl rfl hok.L hn) ?_
      rw [mlook_map ptrL, getD_ptr, hl]
      refine j_q (qs_nil rfl) ?_
      refine j_q (qs_field Try.underlying106 rfl sz104 (by decide) rfl) ?_
      refine j_q (qs_load (l := [.map (some l.gh), l.rv, .bool l.sh]) 4 Try.underlying104 rfl rfl rfl rfl) ?_
      refine j_q (qs_mkfunc1 rfl) ?_
      refine j_call 6 ent54 rfl rfl rfl rfl (fun w' hw' => delete_con t l.row l.rv l.rc g0 w' hlk.row (hw'.own (g0, .cells [Value.int .i64 t].toArray 3 (0, 0)) (by simp)) (fun hm => by
        have hnd := hw'.nodup
        obtain ⟨q, hq, e⟩ := List.mem_map.1 hm
        simp only [dom, List.flatten_cons, List.map_append, List.map_cons, List.cons_append, List.nil_append, List.map_nil, List.nodup_cons] at hnd
        refine hnd.1 ?_
        rw [← e]
        have := List.mem_map_of_mem (f := Prod.fst) hq
        simp only [List.mem_cons, List.mem_append]
        simp only [this, true_or, or_true]) (by have := hlk.hrB; omega)) (fun u20 S2 hu => ?_)
      obtain ⟨c20, rfl, ho20⟩ := hu
      refine j_perm (S' := [[(g0, .cells [Value.int .i64 t].toArray 3 (0, 0))], [(p.gt, p.tobj)], [(p.gL, .map p.Les p.Lck)], [(p.gW, .map p.Wes p.Wck)], [(l.gl, l.obj)], [(l.gh, l.hobj)], c20, restH a b]) (by
        show ([c20, [(g0, .cells [Value.int .i64 t].toArray 3 (0, 0))], [(p.gt, p.tobj)], [(p.gL, .map p.Les p.Lck)], [(p.gW, .map p.Wes p.Wck)], [(l.gl, l.obj)], [(l.gh, l.hobj)], [], restH a b] : List SH).flatten.Perm _
        exact (by classical exact List.perm_iff_count.2 fun a => by simp only [PT.heap, PT.base, PL.heap, PT.tobj, PL.obj, PL.hobj, List.set_cons_succ, List.set_cons_zero, List.flatten_cons, List.flatten_nil, List.append_nil, List.nil_append, List.map_append, List.map_cons, List.map_nil, List.flatten_append, List.count_append, List.count_cons, List.count_nil]; omega)) ?_
      refine j_q (qs_nil rfl) ?_
      refine j_q (qs_field Try.underlying106 rfl sz104 (by decide) rfl) ?_
      refine j_store (l := [.map (some l.gh), l.rv, .bool l.sh]) 4 sz104 rfl rfl (by obtain ⟨n', A', cap', e', _⟩ := ownO_form ho20; show oneV u20 = true; rw [e']; rfl) rfl (by simp) (by simp) ?_
      refine j_draw ?_
      refine jq_q (qs_nil rfl) ?_
      refine jq_q (qs_field Try.underlying98 rfl sz96 (by decide) rfl) ?_
      refine jq_q (qs_load (l := [.map (some p.gL), .map (some p.gW)]) 1 Try.underlying96 rfl rfl rfl rfl) ?_
      refine jq_q (qs_load (l := [.int .i64 t]) 0 Try.underlying3 rfl rfl rfl rfl) ?_
      refine jq_nil ?_
      refine j_mapdel (key := t) intKey 3 Try.underlying96 rfl rfl rfl hok.W ht (fun es2 hm2 => ?_)
      rw [mdel_map nameV] at hm2
      have hok2 : PT.Ok B ({ p with Wes := es2, Wck := p.Wck, wm := mdel p.wm t, lm := aset p.lm n { l with rv := u20, rc := c20, row := l.row.filter (keepB t) } } : PT) := hok.put (l' := { l with rv := u20, rc := c20, row := l.row.filter (keepB t) }) hl rfl ⟨hlk.hm, ho20, fun x hx => hlk.rowOk x (List.mem_filter.1 hx).1, by
        have h1 := hlk.hrB
        have h2 := List.length_filter_le (keepB t) l.row
        show l.hm.length + (l.row.filter (keepB t)).length ≤ B
        omega⟩ (Nat.le_refl _) hm2 (fun q hq => hok.wl q (List.mem_filter.1 hq).1)
      refine j_perm (S' := [PT.heap ({ p with Wes := es2, Wck := p.Wck, wm := mdel p.wm t, lm := aset p.lm n { l with rv := u20, rc := c20, row := l.row.filter (keepB t) } } : PT), [(g0, .cells [Value.int .i64 t].toArray 3 (0, 0))]]) (by
        classical
        show (([(g0, .cells [Value.int .i64 t].toArray 3 (0, 0))] :: [[(p.gt, p.tobj)], [(p.gL, .map p.Les p.Lck)], [(p.gW, .map es2 p.Wck)], [(l.gl, PL.obj { l with rv := u20, rc := c20, row := l.row.filter (keepB t) })], [(l.gh, l.hobj)], c20, restH a b]) : List SH).flatten.Perm _
        have h : ([[(p.gt, p.tobj)], [(p.gL, .map p.Les p.Lck)], [(p.gW, .map es2 p.Wck)], [(l.gl, PL.obj { l with rv := u20, rc := c20, row := l.row.filter (keepB t) })], [(l.gh, l.hobj)], c20, restH a b] : List SH).flatten.Perm ([PT.heap ({ p with Wes := es2, Wck := p.Wck, wm := mdel p.wm t, lm := aset p.lm n { l with rv := u20, rc := c20, row := l.row.filter (keepB t) } } : PT)] : List SH).flatten := PT.close_ (l' := { l with rv := u20, rc := c20, row := l.row.filter (keepB t) }) hab hna hnb es2 p.Wck (mdel p.wm t)
        refine List.perm_iff_count.2 fun x => ?_
        have h2 := List.perm_iff_count.1 h x
        simp only [List.flatten_cons, List.flatten_nil, List.append_nil, List.count_append, List.count_cons, List.count_nil] at h2 ⊢
        omega) ?_
      refine j_call 0 ent51 rfl rfl rfl rfl (fun w' hw' => goes_con B hB ({ p with Wes := es2, Wck := p.Wck, wm := mdel p.wm t, lm := aset p.lm n { l with rv := u20, rc := c20, row := l.row.filter (keepB t) } } : PT) n { l with rv := u20, rc := c20, row := l.row.filter (keepB t) } w' hok2 (alook_aset_self _ _ _)) (fun u S2 hu => ?_)
      obtain ⟨p1, l', out1, oc0, rfl, ho0, hgt1, hok1, hlm1, hgl1, hgo, hob1⟩ := hu
      refine j_perm (S' := [[], p1.heap, oc0, [(g0, .cells [Value.int .i64 t].toArray 3 (0, 0))]]) (by simp) ?_
      refine j_append 0 Try.underlying36 Try.underlying36 (.inr ⟨_, rfl⟩) sb3 zero3 rfl own_nil rfl (own_srck ho0 2 rfl) ks_one ⟨(by simp only [ks_length, List.length_nil]; omega), (by decide)⟩ (fun v30 c30 ho30 => ?_)
      rw [List.nil_append] at ho30
      have hl1 : (p1.at_, out1) = leave1 p.at_ t := by
        unfold leave1
        rw [at_wm, hw0]
        simp only [lock_at hl]
        have hg : goesF (l.row.filter (keepB t)) l.hm l.sh (mdel p.wm t) [] = (l'.hm, l'.row, l'.sh, p1.wm, out1) := hgo
        rw [show goesF (l.al.row.filter (keepB t)) l.al.hm l.al.sh (mdel p.wm t) [] = (l'.hm, l'.row, l'.sh, p1.wm, out1) from hg, at_eq p1 hlm1, aset_map PL.al, aset_aset]
        rfl
      have ho1 := ho30
      obtain ⟨oc1, hoc1⟩ : ∃ o : SH, o = c30 := ⟨_, rfl⟩
      rw [← hoc1] at ho1
      refine j_perm (S' := [p1.heap, oc1, [(g0, .cells [Value.int .i64 t].toArray 3 (0, 0))], oc0]) (by rw [hoc1]; show ([c30, p1.heap, oc0, [(g0, .cells [Value.int .i64 t].toArray 3 (0, 0))]] : List SH).flatten.Perm _; exact (by classical exact List.perm_iff_count.2 fun a => by simp only [PT.heap, PT.base, PL.heap, PT.tobj, PL.obj, PL.hobj, List.set_cons_succ, List.set_cons_zero, List.flatten_cons, List.flatten_nil, List.append_nil, List.nil_append, List.map_append, List.map_cons, List.map_nil, List.flatten_append, List.count_append, List.count_cons, List.count_nil]; omega)) ?_
      refine j_subl (S' := [p1.heap, oc1, [(g0, .cells [Value.int .i64 t].toArray 3 (0, 0))]]) (by repeat first | exact List.Sublist.refl _ | exact List.nil_sublist _ | apply List.Sublist.cons_cons | apply List.Sublist.cons) ?_
      have hgt1' : p1.gt = p.gt := hgt1
      rw [← hgt1']
      refine j_q (qs_nil rfl) ?_
      refine j_q (qs_field Try.underlying98 rfl sz95 (by decide) rfl) ?_
      refine j_q (qs_loadO (rdo_mem (o := PT.tobj p1) 0 rfl (by simp [PT.heap, PT.base])) Try.underlying95 rfl rfl rfl) ?_
      refine j_call0 ent57 rfl rfl rfl (fun w' hw' => keysN_con (some p1.gL) w') (fun u S2 hu => ?_)
      obtain ⟨gk, rfl, rfl⟩ := hu
      refine j_subl (S' := [[(gk, .cells [.map (some p1.gL)].toArray 95 (0, 0))], p1.heap, oc1, [(g0, .cells [Value.int .i64 t].toArray 3 (0, 0))]]) (by repeat first | exact List.Sublist.refl _ | exact List.nil_sublist _ | apply List.Sublist.cons_cons | apply List.Sublist.cons) ?_
      refine j_call0 ent56 rfl rfl rfl (fun w' hw' => sortedNames_con gk p1.gL w' (lt_of_get (hw'.own (gk, .cells [.map (some p1.gL)].toArray 95 (0, 0)) (by simp))) (by rw [cell_of (hw'.own (gk, .cells [.map (some p1.gL)].toArray 95 (0, 0)) (by simp))]; rfl) (in_own hw' 1 rfl (p1.gL, .map p1.Les p1.Lck) (by simp [PT.heap, PT.base])) hok1.L (by rw [List.length_map]; have := hok1.lmB; omega)) (fun u S2 hu => ?_)
      obtain ⟨kc, rfl, hok0⟩ := hu
      rw [show (p1.lm.map fun q => (q.1, ptrL q.2)).map Prod.fst = p1.lm.map Prod.fst by rw [List.map_map]; rfl] at hok0
      refine j_subl (S' := [kc, p1.heap, oc1, [(g0, .cells [Value.int .i64 t].toArray 3 (0, 0))]]) (by repeat first | exact List.Sublist.refl _ | exact List.nil_sublist _ | apply List.Sublist.cons_cons | apply List.Sublist.cons) ?_
      refine j_perm (S' := [p1.heap, oc1, kc, [(g0, .cells [Value.int .i64 t].toArray 3 (0, 0))]]) (by classical exact List.perm_iff_count.2 fun a => by simp only [PT.heap, PT.base, PL.heap, PT.tobj, PL.obj, PL.hobj, List.set_cons_succ, List.set_cons_zero, List.flatten_cons, List.flatten_nil, List.append_nil, List.nil_append, List.map_append, List.map_cons, List.map_nil, List.flatten_append, List.count_append, List.count_cons, List.count_nil]; omega) ?_
      obtain ⟨nk, Ak, capk, rfl, hnk⟩ := own_form hok0 (by decide)
      rw [strs_length, Nat.mul_one] at hnk
      subst hnk
      have hsl : (sortS (p1.lm.map Prod.fst)).length = p1.lm.length := by unfold sortS; rw [(List.mergeSort_perm _ _).length_eq, List.length_map]
      have hlmB := hok1.lmB
      have hsok : ∀ x ∈ (sortS (p1.lm.map Prod.fst)), strOk x := fun x hx => by
        have hx2 : x ∈ p1.lm.map Prod.fst := by unfold sortS at hx; exact (List.mem_mergeSort).1 hx
        obtain ⟨q, hq, rfl⟩ := List.mem_map.1 hx2
        exact hok1.L.keys (q.1, ptrL q.2) (List.mem_map.2 ⟨q, hq, rfl⟩)
      refine j_q (qs_lenl Try.underlying123 rfl) ?_
      refine j_q (qs_mc) ?_
      refine j_loop (fun m vs S' => ∃ (i : Nat) (pc : PT) (out : List Int) (ov : Value) (oc : SH), vs = [ov, .int .i64 (i : Int)] ∧ S' = [pc.heap, oc, kc, [(g0, .cells [Value.int .i64 t].toArray 3 (0, 0))]] ∧ Sx.Own 3 1 (ks .i64 out) ov oc ∧ pc.gt = p.gt ∧ pc.Ok B ∧ (pc.at_, out) = ((sortS (p1.lm.map Prod.fst)).take i).foldl (leaveStep t) (p1.at_, out1) ∧ out.length ≤ B * (i + 1) ∧ i ≤ (sortS (p1.lm.map Prod.fst)).length ∧ m = (sortS (p1.lm.map Prod.fst)).length - i) ⟨_, 0, p1, out1, _, oc1, rfl, rfl, ho1, hgt1, hok1, rfl, by omega, Nat.zero_le _, rfl⟩ ?_
      rintro m vs S' hlen ⟨i, pc, out, ov, oc, rfl, rfl, ho, hgtc, hokc, hfold, hob, hi, hmi⟩
      refine j_q (qs_lss rfl rfl) ?_
      refine j_cond rfl (fun hc2 => ?_) (fun hc2 => ?_)
      · skip
        have hi1 : i < (sortS (p1.lm.map Prod.fst)).length := by
          simp only [Bool.and_eq_true, Bool.or_eq_true, Bool.and_eq_false_iff, Bool.or_eq_false_iff, Bool.not_eq_true', Bool.not_eq_false', decide_eq_true_eq, decide_eq_false_iff_not, beq_iff_eq, beq_eq_false_iff_ne, bne_iff_ne, bne_eq_false_iff_eq, ne_eq, Int.toNat_natCast] at *
          omega
        have hnx : strOk ((sortS (p1.lm.map Prod.fst)).getD i []) := hsok _ (by rw [List.getD_eq_getElem?_getD, List.getElem?_eq_getElem hi1]; exact List.getElem_mem hi1)
        have htk : (sortS (p1.lm.map Prod.fst)).take (i + 1) = (sortS (p1.lm.map Prod.fst)).take i ++ [(sortS (p1.lm.map Prod.fst)).getD i []] := by
          rw [List.take_add_one, List.getElem?_eq_getElem hi1, List.getD_eq_getElem?_getD, List.getElem?_eq_getElem hi1]
          rfl
        obtain ⟨gq, rfl⟩ := own_addr hok0 (by rw [strs_length]; omega)
        have hBi : B * (i + 1) ≤ 1000000 * 1000001 := Nat.mul_le_mul hB (by omega)
        have hst : ((sortS (p1.lm.map Prod.fst)).take (i + 1)).foldl (leaveStep t) (p1.at_, out1) = leaveStep t (pc.at_, out) ((sortS (p1.lm.map Prod.fst)).getD i []) := by rw [htk, List.foldl_append, ← hfold]; rfl
        have hB2 : B * (i + 1) + B = B * (i + 1 + 1) := by rw [Nat.mul_add B (i + 1) 1, Nat.mul_one]
        first
          | refine j_q (qs_ixg Try.underlying123 sz9 rfl rfl ⟨(by first | omega | (simp only [Bool.and_eq_true, Bool.or_eq_true, Bool.and_eq_false_iff, Bool.or_eq_false_iff, Bool.not_eq_true', Bool.not_eq_false', decide_eq_true_eq, decide_eq_false_iff_not, beq_iff_eq, beq_eq_false_iff_ne, bne_iff_ne, bne_eq_false_iff_eq, ne_eq, Int.toNat_natCast] at *; omega)), (by first | omega | (simp only [Bool.and_eq_true, Bool.or_eq_true, Bool.and_eq_false_iff, Bool.or_eq_false_iff, Bool.not_eq_true', Bool.not_eq_false', decide_eq_true_eq, decide_eq_false_iff_not, beq_iff_eq, beq_eq_false_iff_ne, bne_iff_ne, bne_eq_false_iff_eq, ne_eq, Int.toNat_natCast] at *; omega))⟩) ?_
          | refine j_q (qs_ixl0 Try.underlying123 sz9 rfl rfl ⟨(by first | omega | (simp only [Bool.and_eq_true, Bool.or_eq_true, Bool.and_eq_false_iff, Bool.or_eq_false_iff, Bool.not_eq_true', Bool.not_eq_false', decide_eq_true_eq, decide_eq_false_iff_not, beq_iff_eq, beq_eq_false_iff_ne, bne_iff_ne, bne_eq_false_iff_eq, ne_eq, Int.toNat_natCast] at *; omega)), (by first | omega | (simp only [Bool.and_eq_true, Bool.or_eq_true, Bool.and_eq_false_iff, Bool.or_eq_false_iff, Bool.not_eq_true', Bool.not_eq_false', decide_eq_true_eq, decide_eq_false_iff_not, beq_iff_eq, beq_eq_false_iff_ne, bne_iff_ne, bne_eq_false_iff_eq, ne_eq, Int.toNat_natCast] at *; omega))⟩) ?_
        refine j_q (qs_loadR (v := .string (bs ((sortS (p1.lm.map Prod.fst)).getD i []))) (a := ⟨gq, 0, none⟩) (i := i) (vs := strs (sortS (p1.lm.map Prod.fst))) (own_rd hok0 2 rfl) Try.underlying9 rfl (by show Value.pointer (some ⟨gq, (i : Int).toNat, none⟩) = _; rw [add_off, Nat.zero_add, Int.toNat_natCast]) (by unfold strs; rw [List.getElem?_map, List.getD_eq_getElem?_getD, List.getElem?_eq_getElem hi1]; rfl)) ?_
        rw [show p1.gt = pc.gt from hgt1'.trans hgtc.symm]
        refine j_q (qs_load (l := [.int .i64 t]) 3 Try.underlying3 rfl rfl rfl rfl) ?_
        refine j_q (qs_call ent33 rfl rfl rfl (fun w' hw' => holds2_con B pc t ((sortS (p1.lm.map Prod.fst)).getD i []) w' (in_own hw' 0 rfl) hokc ht hnx)) ?_
        refine j_cond rfl (fun hc3 => ?_) (fun hc3 => ?_)
        · skip
          have hh := hc3
          refine j_q (qs_load (l := [.int .i64 t]) 3 Try.underlying3 rfl rfl rfl rfl) ?_
          refine j_call 0 ent26 rfl rfl rfl rfl (fun w' hw' => give_con B hB pc t ((sortS (p1.lm.map Prod.fst)).getD i []) w' hokc ht hnx) (fun u S2 hu => ?_)
          obtain ⟨p44, out44, oc44, e44, v44, rfl, rfl, ho44, hgt44, hok44, hg44, hob44⟩ := hu
          refine j_subl (S' := [p44.heap, oc44, oc, kc, [(g0, .cells [Value.int .i64 t].toArray 3 (0, 0))]]) (by repeat first | exact List.Sublist.refl _ | exact List.nil_sublist _ | apply List.Sublist.cons_cons | apply List.Sublist.cons) ?_
          refine j_q (qs_ext (vs := [v44, .int .i64 e44]) rfl rfl) ?_
          refine j_q (qs_ext (vs := [v44, .int .i64 e44]) rfl rfl) ?_
          refine j_append 2 Try.underlying36 Try.underlying36 (.inr ⟨_, rfl⟩) sb3 zero3 rfl ho rfl (own_srck ho44 1 rfl) ks_one ⟨(by simp only [ks_length]; omega), (by decide)⟩ (fun v47 c47 ho47 => ?_)
          have ho47' : Sx.Own 3 1 (ks .i64 (out ++ out44)) v47 c47 := by
            have e : ks .i64 (out ++ out44) = ks .i64 out ++ ks .i64 out44 := by simp [ks]
            rw [e]
            exact ho47
          refine j_q (qs_add64 rfl rfl (by first | omega | (simp only [Bool.and_eq_true, Bool.or_eq_true, Bool.and_eq_false_iff, Bool.or_eq_false_iff, Bool.not_eq_true', Bool.not_eq_false', decide_eq_true_eq, decide_eq_false_iff_not, beq_iff_eq, beq_eq_false_iff_ne, bne_iff_ne, bne_eq_false_iff_eq, ne_eq, Int.toNat_natCast] at *; omega))) ?_
          refine j_subl (S' := [p44.heap, c47, kc, [(g0, .cells [Value.int .i64 t].toArray 3 (0, 0))]]) (by repeat first | exact List.Sublist.refl _ | exact List.nil_sublist _ | apply List.Sublist.cons_cons | apply List.Sublist.cons) ?_
          refine j_back rfl ?_
          exact ⟨(sortS (p1.lm.map Prod.fst)).length - (i + 1), by omega, i + 1, p44, out ++ out44, _, c47, rfl, rfl, ho47', hgt44.trans hgtc, hok44, by
            rw [hst]
            unfold leaveStep
            rw [if_pos hh]
            rw [← hg44], by rw [List.length_append]; omega, by omega, rfl⟩
        · skip
          have hh := hc3
          refine j_q (qs_add64 rfl rfl (by first | omega | (simp only [Bool.and_eq_true, Bool.or_eq_true, Bool.and_eq_false_iff, Bool.or_eq_false_iff, Bool.not_eq_true', Bool.not_eq_false', decide_eq_true_eq, decide_eq_false_iff_not, beq_iff_eq, beq_eq_false_iff_ne, bne_iff_ne, bne_eq_false_iff_eq, ne_eq, Int.toNat_natCast] at *; omega))) ?_
          refine j_back rfl ?_
          exact ⟨(sortS (p1.lm.map Prod.fst)).length - (i + 1), by omega, i + 1, pc, out, _, oc, rfl, rfl, ho, hgtc, hokc, by
            rw [hst]
            unfold leaveStep
            rw [if_neg (by rw [hh]; decide)], by omega, by omega, rfl⟩
      · skip
        obtain rfl : i = (sortS (p1.lm.map Prod.fst)).length := by
          simp only [Bool.and_eq_true, Bool.or_eq_true, Bool.and_eq_false_iff, Bool.or_eq_false_iff, Bool.not_eq_true', Bool.not_eq_false', decide_eq_true_eq, decide_eq_false_iff_not, beq_iff_eq, beq_eq_false_iff_ne, bne_iff_ne, bne_eq_false_iff_eq, ne_eq, Int.toNat_natCast] at *
          omega
        rw [List.take_of_length_le (Nat.le_refl _)] at hfold
        refine j_subl (S' := [pc.heap, oc]) (by repeat first | exact List.Sublist.refl _ | exact List.nil_sublist _ | apply List.Sublist.cons_cons | apply List.Sublist.cons) ?_
        refine j_ret_con (vs := [_]) (fun w' hw' => ⟨rfl, trivial⟩) ?_
        refine ⟨pc, out, oc, rfl, ho, hgtc.trans hgt1'.symm, hokc, ?_⟩
        rw [hfold]
        unfold leaveF
        rw [← hl1, at_lmkeys]
    · skip
      have hw0 : alook p.wm t = none := by
        cases hx : alook p.wm t with
        | none => rfl
        | some n => simp [hx] at hc1
      obtain ⟨p1, hp1⟩ : ∃ p1, p1 = p := ⟨_, rfl⟩
      obtain ⟨out1, hout1⟩ : ∃ o : List Int, o = [] := ⟨_, rfl⟩
      obtain ⟨oc1, hoc1⟩ : ∃ o : SH, o = [] := ⟨_, rfl⟩
      have ho1 : Sx.Own 3 1 (ks .i64 out1) (.slice none 0 0) oc1 := by rw [hout1, hoc1]; exact own_nil
      have hok1 : p1.Ok B := by rw [hp1]; exact hok
      have hgt1 : p1.gt = p.gt := by rw [hp1]
      have hgt1' := hgt1
      have hob1 : out1.length ≤ B := by rw [hout1]; exact Nat.zero_le _
      have hl1 : (p1.at_, out1) = leave1 p.at_ t := by
        unfold leave1
        rw [at_wm, hw0, hp1, hout1]
      refine j_perm (S' := [p1.heap, oc1, [(g0, .cells [Value.int .i64 t].toArray 3 (0, 0))]]) (by rw [hp1, hoc1]; show ([[(g0, .cells [Value.int .i64 t].toArray 3 (0, 0))], p.heap] : List SH).flatten.Perm _; simpa using List.perm_append_comm (l₁ := [(g0, Obj.cells [Value.int .i64 t].toArray 3 (0, 0))]) (l₂ := p.heap)) ?_
      rw [← hgt1]
      refine j_q (qs_nil rfl) ?_
      refine j_q (qs_field Try.underlying98 rfl sz95 (by decide) rfl) ?_
      refine j_q (qs_loadO (rdo_mem (o := PT.tobj p1) 0 rfl (by simp [PT.heap, PT.base])) Try.underlying95 rfl rfl rfl) ?_
      refine j_call0 ent57 rfl rfl rfl (fun w' hw' => keysN_con (some p1.gL) w') (fun u S2 hu => ?_)
      obtain ⟨gk, rfl, rfl⟩ := hu
      refine j_subl (S' := [[(gk, .cells [.map (some p1.gL)].toArray 95 (0, 0))], p1.heap, oc1, [(g0, .cells [Value.int .i64 t].toArray 3 (0, 0))]]) (by repeat first | exact List.Sublist.refl _ | exact List.nil_sublist _ | apply List.Sublist.cons_cons | apply List.Sublist.cons) ?_
      refine j_call0 ent56 rfl rfl rfl (fun w' hw' => sortedNames_con gk p1.gL w' (lt_of_get (hw'.own (gk, .cells [.map (some p1.gL)].toArray 95 (0, 0)) (by simp))) (by rw [cell_of (hw'.own (gk, .cells [.map (some p1.gL)].toArray 95 (0, 0)) (by simp))]; rfl) (in_own hw' 1 rfl (p1.gL, .map p1.Les p1.Lck) (by simp [PT.heap, PT.base])) hok1.L (by rw [List.length_map]; have := hok1.lmB; omega)) (fun u S2 hu => ?_)
      obtain ⟨kc, rfl, hok0⟩ := hu
      rw [show (p1.lm.map fun q => (q.1, ptrL q.2)).map Prod.fst = p1.lm.map Prod.fst by rw [List.map_map]; rfl] at hok0
      refine j_subl (S' := [kc, p1.heap, oc1, [(g0, .cells [Value.int .i64 t].toArray 3 (0, 0))]]) (by repeat first | exact List.Sublist.refl _ | exact List.nil_sublist _ | apply List.Sublist.cons_cons | apply List.Sublist.cons) ?_
      refine j_perm (S' := [p1.heap, oc1, kc, [(g0, .cells [Value.int .i64 t].toArray 3 (0, 0))]]) (by classical exact List.perm_iff_count.2 fun a => by simp only [PT.heap, PT.base, PL.heap, PT.tobj, PL.obj, PL.hobj, List.set_cons_succ, List.set_cons_zero, List.flatten_cons, List.flatten_nil, List.append_nil, List.nil_append, List.map_append, List.map_cons, List.map_nil, List.flatten_append, List.count_append, List.count_cons, List.count_nil]; omega) ?_
      obtain ⟨nk, Ak, capk, rfl, hnk⟩ := own_form hok0 (by decide)
      rw [strs_length, Nat.mul_one] at hnk
      subst hnk
      have hsl : (sortS (p1.lm.map Prod.fst)).length = p1.lm.length := by unfold sortS; rw [(List.mergeSort_perm _ _).length_eq, List.length_map]
      have hlmB := hok1.lmB
      have hsok : ∀ x ∈ (sortS (p1.lm.map Prod.fst)), strOk x := fun x hx => by
        have hx2 : x ∈ p1.lm.map Prod.fst := by unfold sortS at hx; exact (List.mem_mergeSort).1 hx
        obtain ⟨q, hq, rfl⟩ := List.mem_map.1 hx2
        exact hok1.L.keys (q.1, ptrL q.2) (List.mem_map.2 ⟨q, hq, rfl⟩)
      refine j_q (qs_lenl Try.underlying123 rfl) ?_
      refine j_q (qs_mc) ?_
      refine j_loop (fun m vs S' => ∃ (i : Nat) (pc : PT) (out : List Int) (ov : Value) (oc : SH), vs = [ov, .int .i64 (i : Int)] ∧ S' = [pc.heap, oc, kc, [(g0, .cells [Value.int .i64 t].toArray 3 (0, 0))]] ∧ Sx.Own 3 1 (ks .i64 out) ov oc ∧ pc.gt = p.gt ∧ pc.Ok B ∧ (pc.at_, out) = ((sortS (p1.lm.map Prod.fst)).take i).foldl (leaveStep t) (p1.at_, out1) ∧ out.length ≤ B * (i + 1) ∧ i ≤ (sortS (p1.lm.map Prod.fst)).length ∧ m = (sortS (p1.lm.map Prod.fst)).length - i) ⟨_, 0, p1, out1, _, oc1, rfl, rfl, ho1, hgt1, hok1, rfl, by omega, Nat.zero_le _, rfl⟩ ?_
      rintro m vs S' hlen ⟨i, pc, out, ov, oc, rfl, rfl, ho, hgtc, hokc, hfold, hob, hi, hmi⟩
      refine j_q (qs_lss rfl rfl) ?_
      refine j_cond rfl (fun hc4 => ?_) (fun hc4 => ?_)
      · skip
        have hi1 : i < (sortS (p1.lm.map Prod.fst)).length := by
          simp only [Bool.and_eq_true, Bool.or_eq_true, Bool.and_eq_false_iff, Bool.or_eq_false_iff, Bool.not_eq_true', Bool.not_eq_false', decide_eq_true_eq, decide_eq_false_iff_not, beq_iff_eq, beq_eq_false_iff_ne, bne_iff_ne, bne_eq_false_iff_eq, ne_eq, Int.toNat_natCast] at *
          omega
        have hnx : strOk ((sortS (p1.lm.map Prod.fst)).getD i []) := hsok _ (by rw [List.getD_eq_getElem?_getD, List.getElem?_eq_getElem hi1]; exact List.getElem_mem hi1)
        have htk : (sortS (p1.lm.map Prod.fst)).take (i + 1) = (sortS (p1.lm.map Prod.fst)).take i ++ [(sortS (p1.lm.map Prod.fst)).getD i []] := by
          rw [List.take_add_one, List.getElem?_eq_getElem hi1, List.getD_eq_getElem?_getD, List.getElem?_eq_getElem hi1]
          rfl
        obtain ⟨gq, rfl⟩ := own_addr hok0 (by rw [strs_length]; omega)
        have hBi : B * (i + 1) ≤ 1000000 * 1000001 := Nat.mul_le_mul hB (by omega)
        have hst : ((sortS (p1.lm.map Prod.fst)).take (i + 1)).foldl (leaveStep t) (p1.at_, out1) = leaveStep t (pc.at_, out) ((sortS (p1.lm.map Prod.fst)).getD i []) := by rw [htk, List.foldl_append, ← hfold]; rfl
        have hB2 : B * (i + 1) + B = B * (i + 1 + 1) := by rw [Nat.mul_add B (i + 1) 1, Nat.mul_one]
        first
          | refine j_q (qs_ixg Try.underlying123 sz9 rfl rfl ⟨(by first | omega | (simp only [Bool.and_eq_true, Bool.or_eq_true, Bool.and_eq_false_iff, Bool.or_eq_false_iff, Bool.not_eq_true', Bool.not_eq_false', decide_eq_true_eq, decide_eq_false_iff_not, beq_iff_eq, beq_eq_false_iff_ne, bne_iff_ne, bne_eq_false_iff_eq, ne_eq, Int.toNat_natCast] at *; omega)), (by first | omega | (simp only [Bool.and_eq_true, Bool.or_eq_true, Bool.and_eq_false_iff, Bool.or_eq_false_iff, Bool.not_eq_true', Bool.not_eq_false', decide_eq_true_eq, decide_eq_false_iff_not, beq_iff_eq, beq_eq_false_iff_ne, bne_iff_ne, bne_eq_false_iff_eq, ne_eq, Int.toNat_natCast] at *; omega))⟩) ?_
          | refine j_q (qs_ixl0 Try.underlying123 sz9 rfl rfl ⟨(by first | omega | (simp only [Bool.and_eq_true, Bool.or_eq_true, Bool.and_eq_false_iff, Bool.or_eq_false_iff, Bool.not_eq_true', Bool.not_eq_false', decide_eq_true_eq, decide_eq_false_iff_not, beq_iff_eq, beq_eq_false_iff_ne, bne_iff_ne, bne_eq_false_iff_eq, ne_eq, Int.toNat_natCast] at *; omega)), (by first | omega | (simp only [Bool.and_eq_true, Bool.or_eq_true, Bool.and_eq_false_iff, Bool.or_eq_false_iff, Bool.not_eq_true', Bool.not_eq_false', decide_eq_true_eq, decide_eq_false_iff_not, beq_iff_eq, beq_eq_false_iff_ne, bne_iff_ne, bne_eq_false_iff_eq, ne_eq, Int.toNat_natCast] at *; omega))⟩) ?_
        refine j_q (qs_loadR (v := .string (bs ((sortS (p1.lm.map Prod.fst)).getD i []))) (a := ⟨gq, 0, none⟩) (i := i) (vs := strs (sortS (p1.lm.map Prod.fst))) (own_rd hok0 2 rfl) Try.underlying9 rfl (by show Value.pointer (some ⟨gq, (i : Int).toNat, none⟩) = _; rw [add_off, Nat.zero_add, Int.toNat_natCast]) (by unfold strs; rw [List.getElem?_map, List.getD_eq_getElem?_getD, List.getElem?_eq_getElem hi1]; rfl)) ?_
        rw [show p1.gt = pc.gt from hgt1'.trans hgtc.symm]
        refine j_q (qs_load (l := [.int .i64 t]) 3 Try.underlying3 rfl rfl rfl rfl) ?_
        refine j_q (qs_call ent33 rfl rfl rfl (fun w' hw' => holds2_con B pc t ((sortS (p1.lm.map Prod.fst)).getD i []) w' (in_own hw' 0 rfl) hokc ht hnx)) ?_
        refine j_cond rfl (fun hc5 => ?_) (fun hc5 => ?_)
        · skip
          have hh := hc5
          refine j_q (qs_load (l := [.int .i64 t]) 3 Try.underlying3 rfl rfl rfl rfl) ?_
          refine j_call 0 ent26 rfl rfl rfl rfl (fun w' hw' => give_con B hB pc t ((sortS (p1.lm.map Prod.fst)).getD i []) w' hokc ht hnx) (fun u S2 hu => ?_)
          obtain ⟨p63, out63, oc63, e63, v63, rfl, rfl, ho63, hgt63, hok63, hg63, hob63⟩ := hu
          refine j_subl (S' := [p63.heap, oc63, oc, kc, [(g0, .cells [Value.int .i64 t].toArray 3 (0, 0))]]) (by repeat first | exact List.Sublist.refl _ | exact List.nil_sublist _ | apply List.Sublist.cons_cons | apply List.Sublist.cons) ?_
          refine j_q (qs_ext (vs := [v63, .int .i64 e63]) rfl rfl) ?_
          refine j_q (qs_ext (vs := [v63, .int .i64 e63]) rfl rfl) ?_
          refine j_append 2 Try.underlying36 Try.underlying36 (.inr ⟨_, rfl⟩) sb3 zero3 rfl ho rfl (own_srck ho63 1 rfl) ks_one ⟨(by simp only [ks_length]; omega), (by decide)⟩ (fun v66 c66 ho66 => ?_)
          have ho66' : Sx.Own 3 1 (ks .i64 (out ++ out63)) v66 c66 := by
            have e : ks .i64 (out ++ out63) = ks .i64 out ++ ks .i64 out63 := by simp [ks]
            rw [e]
            exact ho66
          refine j_q (qs_add64 rfl rfl (by first | omega | (simp only [Bool.and_eq_true, Bool.or_eq_true, Bool.and_eq_false_iff, Bool.or_eq_false_iff, Bool.not_eq_true', Bool.not_eq_false', decide_eq_true_eq, decide_eq_false_iff_not, beq_iff_eq, beq_eq_false_iff_ne, bne_iff_ne, bne_eq_false_iff_eq, ne_eq, Int.toNat_natCast] at *; omega))) ?_
          refine j_subl (S' := [p63.heap, c66, kc, [(g0, .cells [Value.int .i64 t].toArray 3 (0, 0))]]) (by repeat first | exact List.Sublist.refl _ | exact List.nil_sublist _ | apply List.Sublist.cons_cons | apply List.Sublist.cons) ?_
          refine j_back rfl ?_
          exact ⟨(sortS (p1.lm.map Prod.fst)).length - (i + 1), by omega, i + 1, p63, out ++ out63, _, c66, rfl, rfl, ho66', hgt63.trans hgtc, hok63, by
            rw [hst]
            unfold leaveStep
            rw [if_pos hh]
            rw [← hg63], by rw [List.length_append]; omega, by omega, rfl⟩
        · skip
          have hh := hc5
          refine j_q (qs_add64 rfl rfl (by first | omega | (simp only [Bool.and_eq_true, Bool.or_eq_true, Bool.and_eq_false_iff, Bool.or_eq_false_iff, Bool.not_eq_true', Bool.not_eq_false', decide_eq_true_eq, decide_eq_false_iff_not, beq_iff_eq, beq_eq_false_iff_ne, bne_iff_ne, bne_eq_false_iff_eq, ne_eq, Int.toNat_natCast] at *; omega))) ?_
          refine j_back rfl ?_
          exact ⟨(sortS (p1.lm.map Prod.fst)).length - (i + 1), by omega, i + 1, pc, out, _, oc, rfl, rfl, ho, hgtc, hokc, by
            rw [hst]
            unfold leaveStep
            rw [if_neg (by rw [hh]; decide)], by omega, by omega, rfl⟩
      · skip
        obtain rfl : i = (sortS (p1.lm.map Prod.fst)).length := by
          simp only [Bool.and_eq_true, Bool.or_eq_true, Bool.and_eq_false_iff, Bool.or_eq_false_iff, Bool.not_eq_true', Bool.not_eq_false', decide_eq_true_eq, decide_eq_false_iff_not, beq_iff_eq, beq_eq_false_iff_ne, bne_iff_ne, bne_eq_false_iff_eq, ne_eq, Int.toNat_natCast] at *
          omega
        rw [List.take_of_length_le (Nat.le_refl _)] at hfold
        refine j_subl (S' := [pc.heap, oc]) (by repeat first | exact List.Sublist.refl _ | exact List.nil_sublist _ | apply List.Sublist.cons_cons | apply List.Sublist.cons) ?_
        refine j_ret_con (vs := [_]) (fun w' hw' => ⟨rfl, trivial⟩) ?_
        refine ⟨pc, out, oc, rfl, ho, hgtc.trans hgt1'.symm, hokc, ?_⟩
        rw [hfold]
        unfold leaveF
        rw [← hl1, at_lmkeys]
end Go.Proofs.Ytlgfpoelhjlifaa
