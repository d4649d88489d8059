/- Files that forget: Read and Write, whatever is there. -/
import Derived.Test.YtckpegkpdepokaaFs14
namespace Go.Proofs.Ytckpegkpdepokaa
open Go Go.Sx Go.MapKept Go.WideMaps Go.Maps
set_option maxRecDepth 100000
set_option maxHeartbeats 4000000
set_option linter.unusedVariables false
attribute [local irreducible] J JQ QS Con W opW
/-- what stands under a name -/
def cont (s : SM) (n : List UInt8) : List UInt8 := match alook s.ml n with
  | none => []
  | some p => match getF s.fs p.2 with
    | none => []
    | some x => x.xs
theorem cont_none {s : SM} {n : List UInt8} (h : alook s.ml n = none) : cont s n = [] := by unfold cont; rw [h]
theorem cont_some {s : SM} (h : Raw s) {n : List UInt8} {x : FL} (hx : x ∈ s.fs) (hl : alook s.ml n = some (x.g, x.id)) : cont s n = x.xs := by
  obtain ⟨a, b, hab⟩ := List.append_of_mem hx
  have hids := h.ids
  rw [hab] at hids
  have hg : getF s.fs x.id = some x := by rw [hab]; exact getF_split hids
  unfold cont
  rw [hl]
  simp only
  rw [hg]
theorem look_cases {s : SM} (h : Raw s) (n : List UInt8) : alook s.ml n = none ∨ ∃ x ∈ s.fs, alook s.ml n = some (x.g, x.id) := by
  cases hl : alook s.ml n with
  | none => exact .inl rfl
  | some p =>
    obtain ⟨x, hx, h1, h2⟩ := h.has _ (alook_mem hl)
    exact .inr ⟨x, hx, congrArg some (Prod.ext h1.symm h2.symm)⟩
theorem readAny_con (f : FM) (B : Nat) (n : List UInt8) (w : World) (hin : In w f.heap) (hok : f.Ok B) (hn : strOk n) : Con Try.prog 11 [f.ptr, .string (bs n)] w [] fun u S' => ∃ (v : Value) (Q : List BK) (e : Int), u = .tuple #[v, .int .i64 e] ∧ S' = [ph Q] ∧ RV Q v (cont f.now n) := by
  rcases look_cases hok.raw n with hl | ⟨x, hx, hl⟩
  · refine (readZ_con f B n w hin hok hn hl).mono fun u S hu => ?_
    obtain ⟨rfl, rfl⟩ := hu
    exact ⟨_, [], 7, rfl, rfl, .inl ⟨rfl, cont_none hl⟩⟩
  · refine (read_con f B n w hin hok hn x hx hl).mono fun u S hu => ?_
    obtain ⟨v, Q, rfl, rfl, hr⟩ := hu
    exact ⟨v, Q, 0, rfl, rfl, by rw [cont_some hok.raw hx hl]; exact hr⟩
/-- a file system none of whose files has two names -/
structure RI (f : FM) (i : Nat) : Prop where
  ok : f.Ok i
  fu : f.fused = false
  lf : f.left = 0
  k1 : ∀ x ∈ f.now.fs, x.k = 1
  idl : ∀ x ∈ f.now.fs, x.id < i
  tt : (tot f.now.fs : Int) = f.now.used
  ur : f.now.used ≤ f.room
  rm : f.room ≤ 1073741824
  mll : f.now.ml.length ≤ i
theorem ri_done {f : FM} {i : Nat} (h : RI f i) {s' : SM} {more : SH} {P2 : List BK} {t tv : Value} {tc : SH} (hrow : Sx.Own 100 1 (f.ts ++ [t]) tv tc) (hraw : Raw s') (hvw : ∀ x ∈ s'.fs, Vw P2 x.g x.v x.xs) (hk1 : ∀ x ∈ s'.fs, x.k = 1) (hid : ∀ x ∈ s'.fs, x.id < i + 1) (htt : (tot s'.fs : Int) = s'.used) (hur : s'.used ≤ f.room) (hml : s'.ml.length ≤ i + 1) :
    RI (doneF { f with more := more, P := P2 } s' P2 t tv tc) (i + 1) := by
  refine ⟨⟨hrow, ?_, hraw, hvw, h.ok.lpv⟩, h.fu, ?_, hk1, hid, htt, hur, h.rm, hml⟩
  · show (f.ts ++ [t]).length ≤ i + 1
    have := h.ok.lt
    rw [List.length_append, List.length_singleton]
    omega
  · show (if f.fused then f.left - 1 else f.left) = 0
    rw [h.fu]
    exact h.lf
theorem ri_up {f : FM} {i : Nat} (h : RI f i) : RI f (i + 1) := ⟨⟨h.ok.row, Nat.le_succ_of_le h.ok.lt, h.ok.raw, h.ok.vw, h.ok.lpv⟩, h.fu, h.lf, h.k1, fun x hx => Nat.lt_succ_of_lt (h.idl x hx), h.tt, h.ur, h.rm, Nat.le_succ_of_le h.mll⟩
theorem writeAny_con (f : FM) (i : Nat) (hi : i < 16384) (h : RI f i) (n : List UInt8) (bv : Value) (xs : List UInt8) (w : World) (hn : strOk n) (hnn : nameOk n = true) (hbr : BR w bv xs) (hbd : ∀ a m c, bv = .slice (some a) m c → 0 < m → a.block ∉ dom f.heap) (hx2 : xs.length ≤ 1048576) :
    Con Try.prog 13 [f.ptr, .string (bs n), bv] w f.heap fun v S' => ∃ (e : Int) (f' : FM), v = .int .i64 e ∧ S' = [f'.heap] ∧ f'.gf = f.gf ∧ f'.room = f.room ∧ RI f' (i + 1) ∧
      if f.now.used - ((cont f.now n).length : Int) + (xs.length : Int) ≤ f.room then e = 0 ∧ cont f'.now n = xs ∧ f'.now.used = f.now.used - ((cont f.now n).length : Int) + (xs.length : Int) else e = 6 ∧ cont f'.now n = cont f.now n ∧ f'.now.used = f.now.used := by
  have hid : ∀ x ∈ f.now.fs, x.id ≠ i := fun x hx e => by have := h.idl x hx; omega
  have hlb : -100000000 ≤ f.left ∧ f.left ≤ 9223372036854775807 := by rw [h.lf]; decide
  have htt := h.tt
  have hur := h.ur
  have hrm := h.rm
  have hmll := h.mll
  rcases look_cases h.ok.raw n with hl | ⟨x, hx, hl⟩
  · rw [cont_none hl]
    by_cases hfit : f.now.used + (xs.length : Int) ≤ f.room
    · refine (write_con f i hi n bv xs w h.ok hlb hn hbr hbd (by omega) (by omega) (by omega) h.fu hfit hx2 hnn i hid hl (by omega)).mono fun u S hu => ?_
      obtain ⟨rfl, s', A2, _, more, P2, t, tv, tc, rfl, hrow, ⟨es, ck, g, hs⟩, hraw, ⟨c, hrv⟩, hsub, hgs⟩ := hu
      rw [writeM_new hl hid] at hs
      have hfs : s'.fs = ⟨g, i, clipV xs A2, xs, 1⟩ :: f.now.fs := by rw [hs]
      have hus : s'.used = f.now.used + (xs.length : Int) := by rw [hs]
      have hml : s'.ml = f.now.ml ++ [(n, (g, i))] := by rw [hs]
      have hlk : alook s'.ml n = some (g, i) := by
        rw [hml]
        exact alook_append_hit (fun q hq => alook_none.1 hl q hq)
      refine ⟨0, _, rfl, rfl, rfl, rfl, ri_done h hrow hraw (fun y hy => ?_) (fun y hy => ?_) (fun y hy => ?_) ?_ ?_ ?_, ?_⟩
      · rw [hfs] at hy
        rcases List.mem_cons.1 hy with rfl | hy
        · exact Vw.clip g hrv rfl
        · exact (h.ok.vw y hy).more hsub
      · rw [hfs] at hy
        rcases List.mem_cons.1 hy with rfl | hy
        · rfl
        · exact h.k1 y hy
      · rw [hfs] at hy
        rcases List.mem_cons.1 hy with rfl | hy
        · exact Nat.lt_succ_self _
        · exact Nat.lt_succ_of_lt (h.idl y hy)
      · rw [hfs, hus, tot_cons]
        simp only
        omega
      · rw [hus]
        omega
      · rw [hml, List.length_append, List.length_singleton]
        omega
      · rw [if_pos (by simp only [List.length_nil]; omega)]
        refine ⟨rfl, ?_, ?_⟩
        · exact cont_some hraw (x := ⟨g, i, clipV xs A2, xs, 1⟩) (by rw [hfs]; exact List.mem_cons_self ..) hlk
        · show s'.used = _
          rw [hus]
          simp
    · refine (writeF_con f i hi n bv xs w h.ok hlb hn hbr hbd (by omega) (by omega) (by omega) h.fu (by omega) hx2 hnn i hid hl (by omega)).mono fun u S hu => ?_
      obtain ⟨rfl, rfl⟩ := hu
      refine ⟨6, f, rfl, rfl, rfl, rfl, ri_up h, ?_⟩
      rw [if_neg (by simp only [List.length_nil]; omega)]
      exact ⟨rfl, cont_none hl, rfl⟩
  · rw [cont_some h.ok.raw hx hl]
    have htf := tot_filter h.ok.raw hx
    by_cases hfit : f.now.used - (x.xs.length : Int) + (xs.length : Int) ≤ f.room
    · refine (writeO_con f i hi n bv xs w h.ok hlb hn hbr hbd (by omega) (by omega) (by omega) h.fu hrm hx2 hnn i hid x hx hl (h.k1 x hx) hfit (by omega)).mono fun u S hu => ?_
      obtain ⟨rfl, s', A2, _, more, P2, t, tv, tc, rfl, hrow, ⟨es, ck, g, hs⟩, hraw, ⟨c, hrv⟩, hsub, hgs⟩ := hu
      rw [writeM_over h.ok.raw hx hl (h.k1 x hx) hid] at hs
      have hfs : s'.fs = ⟨g, i, clipV xs A2, xs, 1⟩ :: f.now.fs.filter (fun y => decide (y.id ≠ x.id)) := by rw [hs]
      have hus : s'.used = f.now.used - (x.xs.length : Int) + (xs.length : Int) := by rw [hs]
      have hml : s'.ml = mdel f.now.ml n ++ [(n, (g, i))] := by rw [hs]
      have hdn : alook (mdel f.now.ml n) n = none := by rw [alook_mdel, if_pos rfl]
      have hlk : alook s'.ml n = some (g, i) := by
        rw [hml]
        exact alook_append_hit (fun q hq => alook_none.1 hdn q hq)
      refine ⟨0, _, rfl, rfl, rfl, rfl, ri_done h hrow hraw (fun y hy => ?_) (fun y hy => ?_) (fun y hy => ?_) ?_ ?_ ?_, ?_⟩
      · rw [hfs] at hy
        rcases List.mem_cons.1 hy with rfl | hy
        · exact Vw.clip g hrv rfl
        · exact (h.ok.vw y (List.mem_filter.1 hy).1).more hsub
      · rw [hfs] at hy
        rcases List.mem_cons.1 hy with rfl | hy
        · rfl
        · exact h.k1 y (List.mem_filter.1 hy).1
      · rw [hfs] at hy
        rcases List.mem_cons.1 hy with rfl | hy
        · exact Nat.lt_succ_self _
        · exact Nat.lt_succ_of_lt (h.idl y (List.mem_filter.1 hy).1)
      · rw [hfs, hus, tot_cons]
        simp only
        omega
      · rw [hus]
        exact hfit
      · rw [hml, List.length_append, List.length_singleton]
        have := List.length_filter_le (fun p : List UInt8 × (Nat × Nat) => decide (p.1 ≠ n)) f.now.ml
        show (f.now.ml.filter (fun p => decide (p.1 ≠ n))).length + 1 ≤ i + 1
        omega
      · rw [if_pos hfit]
        exact ⟨rfl, cont_some hraw (x := ⟨g, i, clipV xs A2, xs, 1⟩) (by rw [hfs]; exact List.mem_cons_self ..) hlk, hus⟩
    · refine (writeOF_con f i hi n bv xs w h.ok hlb hn hbr hbd (by omega) (by omega) (by omega) h.fu hrm hx2 hnn i hid x hx hl (h.k1 x hx) (by omega) (by omega)).mono fun u S hu => ?_
      obtain ⟨rfl, rfl⟩ := hu
      refine ⟨6, f, rfl, rfl, rfl, rfl, ri_up h, ?_⟩
      rw [if_neg hfit]
      exact ⟨rfl, cont_some h.ok.raw hx hl, rfl⟩
end Go.Proofs.Ytckpegkpdepokaa
