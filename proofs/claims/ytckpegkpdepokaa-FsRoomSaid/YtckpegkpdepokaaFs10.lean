/- Files that forget: Node. -/
import Derived.Test.YtckpegkpdepokaaTa
import Derived.Test.YtckpegkpdepokaaSrk7
import Derived.Test.YtckpegkpdepokaaFs9
namespace Go.Proofs.Ytckpegkpdepokaa
open Go Go.Sx
set_option maxRecDepth 100000
set_option maxHeartbeats 4000000
set_option linter.unusedVariables false
set_option linter.unusedSimpArgs false
attribute [local irreducible] J JQ QS Con W opW
theorem sz41 : (Try.prog.info? 41).map (·.size) = some 1 := by kernel_rfl

open Go.MapKept Go.WideMaps Go.Maps
theorem sortAB : sortS [[97], [98]] = [[97], [98]] := by
  unfold sortS
  exact List.mergeSort_of_pairwise (List.Pairwise.cons (fun y hy => by rw [List.mem_singleton] at hy; rw [hy]; decide) (List.pairwise_singleton _ _))
theorem in_any {w w' : World} {c : SH} {S : List SH} (h : In w c) (hs : Sig ⟨w, dom []⟩ S w') : In w' c := in_keep h hs
/-- (*pantry.fs.FS).Node -/
theorem node_con (f : FM) (B : Nat) (n : List UInt8) (w : World) (hin : In w f.heap) (hok : f.Ok B) (hn : strOk n) (x : FL) (hx : x ∈ f.now.fs) (hlk : alook f.now.ml n = some (x.g, x.id)) (hml : f.now.ml.length ≤ 1000000) : Con Try.prog 17 [f.ptr, .string (bs n)] w [] fun u _ => ∃ first : List UInt8, u = .tuple #[.string (bs first), .int .i64 x.k] ∧ (x.k = 1 → first = n) ∧ (x.k ≠ 1 → ∃ i, i < (sortS (f.now.ml.map Prod.fst)).length ∧ first = (sortS (f.now.ml.map Prod.fst)).getD i [] ∧ alook f.now.ml first = some (x.g, x.id) ∧ ∀ j, j < i → alook f.now.ml ((sortS (f.now.ml.map Prod.fst)).getD j []) ≠ some (x.g, x.id)) := by
  refine con_of_tree mix Try.func17 T17_ok (by kernel_rfl) ?_
  unfold T17
  have hk := hok.raw.le x hx
  obtain ⟨nm, hnm⟩ : ∃ l, l = sortS (f.now.ml.map Prod.fst) := ⟨_, rfl⟩
  rw [← hnm]
  have hmem : ∀ y, y ∈ nm ↔ y ∈ f.now.ml.map Prod.fst := fun y => by rw [hnm]; unfold sortS; exact List.mem_mergeSort
  refine j_q (qs_ac) ?_
  refine j_q (qs_ac) ?_
  refine j_q (qs_pnil Try.underlying25 rfl) ?_
  refine j_g rfl (fun hb => qs_mt rfl) ?_
  refine j_g rfl (fun hb => qs_nil (gd_eq hb)) ?_
  refine j_g rfl (fun hb => qs_field Try.underlying62 rfl sz58 (by decide) (gd_eq hb)) ?_
  refine j_g rfl (fun hb => qs_loadO (rdo_base (FM.in_gf hin) (by simp)) Try.underlying58 rfl (gd_eq hb) rfl) ?_
  refine j_g rfl (fun hb => qs_pnil Try.underlying58 (gd_eq hb)) ?_
  refine j_q (qs_or rfl rfl) ?_
  refine j_g rfl (fun hb => qs_mt rfl) ?_
  refine j_g rfl (fun hb => qs_nil (gd_eq hb)) ?_
  refine j_g rfl (fun hb => qs_field Try.underlying62 rfl sz58 (by decide) (gd_eq hb)) ?_
  refine j_g rfl (fun hb => qs_loadO (rdo_base (FM.in_gf hin) (by simp)) Try.underlying58 rfl (gd_eq hb) rfl) ?_
  refine j_g rfl (fun hb => qs_nil (gd_eq hb)) ?_
  refine j_g rfl (fun hb => qs_field Try.underlying66 rfl sz64 (by decide) (gd_eq hb)) ?_
  refine j_g rfl (fun hb => qs_loadO (rdo_base (SM.in_gs (FM.in_now hin)) (by simp)) Try.underlying64 rfl (gd_eq hb) rfl) ?_
  refine j_g rfl (fun hb => qs_mt rfl) ?_
  refine j_g rfl (fun hb => qs_lookupR (key := n) strKey (rdo_base (SM.in_gm (FM.in_now hin)) (by simp)) Try.underlying64 zv63 (gd_eq hb) (gd_eq hb) hok.raw.map hn) ?_
  rw [mlook_map fptr, getD_fptr, hlk, Option.map_some]
  refine j_g rfl (fun hb => qs_pnil Try.underlying63 (gd_eq hb)) ?_
  refine j_q (qs_or rfl rfl) ?_
  refine j_cond rfl (fun hc0 => ?_) (fun hc0 => ?_)
  · skip
    simp [gd] at hc0
  · skip
    refine j_q (qs_nil rfl) ?_
    refine j_q (qs_field Try.underlying62 rfl sz58 (by decide) rfl) ?_
    refine j_q (qs_loadO (rdo_base (FM.in_gf hin) (by simp)) Try.underlying58 rfl rfl rfl) ?_
    refine j_q (qs_nil rfl) ?_
    refine j_q (qs_field Try.underlying66 rfl sz64 (by decide) rfl) ?_
    refine j_q (qs_loadO (rdo_base (SM.in_gs (FM.in_now hin)) (by simp)) Try.underlying64 rfl rfl rfl) ?_
    refine j_q (qs_lookupR (key := n) strKey (rdo_base (SM.in_gm (FM.in_now hin)) (by simp)) Try.underlying64 zv63 rfl rfl hok.raw.map hn) ?_
    rw [mlook_map fptr, getD_fptr, hlk, Option.map_some]
    refine j_q (qs_nil rfl) ?_
    refine j_q (qs_field Try.underlying73 rfl sz71 (by decide) rfl) ?_
    refine j_q (qs_call ent33 rfl rfl rfl (fun w' hw' => aload_con x.g 1 (flcells x) 73 (0, 0) x.k w' (SM.in_f (FM.in_now (in_any hin hw')) hx) rfl)) ?_
    refine j_q (qs_eql rfl rfl) ?_
    refine j_cond rfl (fun hc1 => ?_) (fun hc1 => ?_)
    · skip
      have hk1 : x.k = 1 := by simpa using hc1
      refine j_q (qs_ac) ?_
      refine j_ret_con (vs := [_, _]) (fun w' hw' => ⟨rfl, rfl, trivial⟩) ?_
      exact ⟨n, by rw [hk1]; rfl, fun _ => rfl, fun h => absurd hk1 h⟩
    · skip
      have hk1 : x.k ≠ 1 := by simpa using hc1
      refine j_q (qs_nil rfl) ?_
      refine j_q (qs_field Try.underlying62 rfl sz58 (by decide) rfl) ?_
      refine j_q (qs_loadO (rdo_base (FM.in_gf hin) (by simp)) Try.underlying58 rfl rfl rfl) ?_
      refine j_q (qs_nil rfl) ?_
      refine j_q (qs_field Try.underlying66 rfl sz64 (by decide) rfl) ?_
      refine j_q (qs_loadO (rdo_base (SM.in_gs (FM.in_now hin)) (by simp)) Try.underlying64 rfl rfl rfl) ?_
      refine j_call0 ent42 rfl rfl rfl (fun w' hw' => keysN_con (some f.now.gm) w') (fun u S2 hu => ?_)
      obtain ⟨gk, rfl, rfl⟩ := hu
      refine j_subl (S' := [[(gk, .cells [.map (some f.now.gm)].toArray 64 (0, 0))]]) (by repeat first | exact List.Sublist.refl _ | exact List.nil_sublist _ | apply List.Sublist.cons_cons | apply List.Sublist.cons) ?_
      refine j_call0 ent41 rfl rfl rfl (fun w' hw' => sortedNames_con gk f.now.gm w' (lt_of_get (hw'.own (gk, .cells [.map (some f.now.gm)].toArray 64 (0, 0)) (by simp))) (by rw [cell_of (hw'.own (gk, .cells [.map (some f.now.gm)].toArray 64 (0, 0)) (by simp))]; rfl) (SM.in_gm (FM.in_now (in_any hin hw'))) hok.raw.map (by rw [List.length_map]; omega)) (fun u S2 hu => ?_)
      obtain ⟨kc, rfl, hok0⟩ := hu
      rw [show (f.now.ml.map fun q => (q.1, fptr q.2)).map Prod.fst = f.now.ml.map Prod.fst by rw [List.map_map]; rfl, ← hnm] at hok0
      refine j_subl (S' := [kc]) (by repeat first | exact List.Sublist.refl _ | exact List.nil_sublist _ | apply List.Sublist.cons_cons | apply List.Sublist.cons) ?_
      obtain ⟨nk, Ak, capk, rfl, hnk⟩ := own_form hok0 (by decide)
      rw [strs_len, Nat.mul_one] at hnk
      subst hnk
      have hnl : nm.length ≤ 1000000 := by
        rw [hnm]
        unfold sortS
        rw [(List.mergeSort_perm _ _).length_eq, List.length_map]
        exact hml
      refine j_q (qs_lenl Try.underlying41 rfl) ?_
      refine j_q (qs_mc) ?_
      refine j_loop (fun m vs S' => ∃ i : Nat, vs = [.int .i64 (i : Int)] ∧ S' = [kc] ∧ (∀ j, j < i → alook f.now.ml (nm.getD j []) ≠ some (x.g, x.id)) ∧ i ≤ nm.length ∧ m = nm.length - i) ⟨_, 0, rfl, rfl, (fun j hj => by omega), Nat.zero_le _, rfl⟩ ?_
      rintro m vs S' hlen ⟨i, rfl, rfl, hall, hi, rfl⟩
      refine j_q (qs_lss rfl rfl) ?_
      refine j_cond rfl (fun hc2 => ?_) (fun hc2 => ?_)
      · skip
        have hi1 : i < nm.length := by
          simp only [Bool.and_eq_true, Bool.or_eq_true, Bool.and_eq_false_iff, Bool.or_eq_false_iff, Bool.not_eq_true', Bool.not_eq_false', decide_eq_true_eq, decide_eq_false_iff_not, beq_iff_eq, beq_eq_false_iff_ne, bne_iff_ne, bne_eq_false_iff_eq, ne_eq, Int.toNat_natCast] at *
          omega
        obtain ⟨gq, rfl⟩ := own_addr hok0 (by rw [strs_len]; omega)
        have hnx : strOk (nm.getD i []) := by
          have h1 : (nm.getD i []) ∈ nm := by rw [List.getD_eq_getElem?_getD, List.getElem?_eq_getElem hi1]; exact List.getElem_mem hi1
          obtain ⟨q, hq, e⟩ := List.mem_map.1 ((hmem _).1 h1)
          rw [← e]
          exact hok.raw.map.keys (q.1, fptr q.2) (List.mem_map.2 ⟨q, hq, rfl⟩)
        refine j_q (qs_ixn (i := i) Try.underlying41 sz9 rfl rfl hi1) ?_
        refine j_q (qs_loadR (v := .string (bs (nm.getD i []))) (a := ⟨gq, 0, none⟩) (i := i) (own_rd hok0 0 rfl) Try.underlying9 rfl (by rw [add_off]; show Value.pointer (some ⟨gq, 0 + i * 1, none⟩) = _; rw [Nat.mul_one]) (str_get hi1)) ?_
        refine j_q (qs_nil rfl) ?_
        refine j_q (qs_field Try.underlying62 rfl sz58 (by decide) rfl) ?_
        refine j_q (qs_loadO (rdo_base (FM.in_gf hin) (by simp)) Try.underlying58 rfl rfl rfl) ?_
        refine j_q (qs_nil rfl) ?_
        refine j_q (qs_field Try.underlying66 rfl sz64 (by decide) rfl) ?_
        refine j_q (qs_loadO (rdo_base (SM.in_gs (FM.in_now hin)) (by simp)) Try.underlying64 rfl rfl rfl) ?_
        refine j_q (qs_lookupR (key := (nm.getD i [])) strKey (rdo_base (SM.in_gm (FM.in_now hin)) (by simp)) Try.underlying64 zv63 rfl rfl hok.raw.map hnx) ?_
        rw [mlook_map fptr, getD_fptr]
        refine j_q (qs_peq Try.underlying63 sz73 (by decide) rfl rfl (fun a' ha' => by
          obtain ⟨p, hp, rfl⟩ := Option.map_eq_some_iff.1 ha'
          obtain ⟨y, hy, h1, h2⟩ := hok.raw.has _ (alook_mem hp)
          simp only at h1
          rw [← h1]
          exact ⟨_, _, rdo_base (SM.in_f (FM.in_now hin) hy) (by simp)⟩) ⟨_, _, rdo_base (SM.in_f (FM.in_now hin) hx) (by simp)⟩) ?_
        refine j_cond rfl (fun hc3 => ?_) (fun hc3 => ?_)
        · skip
          have hlk2 : alook f.now.ml (nm.getD i []) = some (x.g, x.id) := by
            cases hq : alook f.now.ml (nm.getD i []) with
            | none => rw [hq] at hc3; simp at hc3
            | some p =>
              rw [hq] at hc3
              have h1 : p.1 = x.g := by simpa using hc3
              obtain ⟨y, hy, h2, h3⟩ := hok.raw.has _ (alook_mem hq)
              have h4 := fs_uniq hok.raw hx hy (h2.trans h1)
              rw [h4] at h3
              exact congrArg some (Prod.ext h1 h3.symm)
          refine j_q (qs_nil rfl) ?_
          refine j_q (qs_field Try.underlying73 rfl sz71 (by decide) rfl) ?_
          refine j_q (qs_call ent33 rfl rfl rfl (fun w' hw' => aload_con x.g 1 (flcells x) 73 (0, 0) x.k w' (SM.in_f (FM.in_now (in_any hin hw')) hx) rfl)) ?_
          refine j_q (qs_conv Try.underlying21 Try.underlying3 rfl) ?_
          refine j_ret_con (vs := [_, _]) (fun w' hw' => ⟨rfl, rfl, trivial⟩) ?_
          refine ⟨(nm.getD i []), ?_, fun h => absurd h hk1, fun _ => ⟨i, hi1, rfl, hlk2, hall⟩⟩
          show Value.tuple _ = _
          rw [show IntKind.i64.wrap x.k = x.k from IntWalk.i64_in _ (by omega)]
          rfl
        · skip
          have hne : alook f.now.ml (nm.getD i []) ≠ some (x.g, x.id) := fun e => by
            rw [e] at hc3
            simp at hc3
          refine j_q (qs_add64 rfl rfl (by first | omega | (simp only [Bool.and_eq_true, Bool.or_eq_true, Bool.and_eq_false_iff, Bool.or_eq_false_iff, Bool.not_eq_true', Bool.not_eq_false', decide_eq_true_eq, decide_eq_false_iff_not, beq_iff_eq, beq_eq_false_iff_ne, bne_iff_ne, bne_eq_false_iff_eq, ne_eq, Int.toNat_natCast] at *; omega))) ?_
          refine j_back rfl ?_
          exact ⟨nm.length - (i + 1), by omega, i + 1, rfl, rfl, fun j hj => by
            rcases Nat.lt_or_ge j i with h | h
            · exact hall j h
            · obtain rfl : j = i := by omega
              exact hne, by omega, rfl⟩
      · skip
        have hi2 : i = nm.length := by
          simp only [Bool.and_eq_true, Bool.or_eq_true, Bool.and_eq_false_iff, Bool.or_eq_false_iff, Bool.not_eq_true', Bool.not_eq_false', decide_eq_true_eq, decide_eq_false_iff_not, beq_iff_eq, beq_eq_false_iff_ne, bne_iff_ne, bne_eq_false_iff_eq, ne_eq, Int.toNat_natCast] at *
          omega
        have hn1 : n ∈ nm := (hmem n).2 (List.mem_map.2 ⟨_, alook_mem hlk, rfl⟩)
        obtain ⟨j, hj, e⟩ := List.getElem_of_mem hn1
        refine absurd ?_ (hall j (by omega))
        rw [List.getD_eq_getElem?_getD, List.getElem?_eq_getElem hj, Option.getD_some, e]
        exact hlk
end Go.Proofs.Ytckpegkpdepokaa
