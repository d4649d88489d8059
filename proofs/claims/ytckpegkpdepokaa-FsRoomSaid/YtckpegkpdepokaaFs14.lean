/- Files that forget: what Write does to the files; Read of a name that is not there. -/
import Derived.Test.YtckpegkpdepokaaTa
import Derived.Test.YtckpegkpdepokaaFs13
namespace Go.Proofs.Ytckpegkpdepokaa
open Go Go.Sx
set_option maxRecDepth 100000
set_option maxHeartbeats 4000000
set_option linter.unusedVariables false
set_option linter.unusedSimpArgs false
attribute [local irreducible] J JQ QS Con W opW


open Go.MapKept Go.WideMaps Go.Maps
theorem letsM_none {s : SM} {n : List UInt8} (hl : alook s.ml n = none) : letsM s n = s := by
  unfold letsM
  rw [hl]
theorem letsM_last {s : SM} (h : Raw s) {n : List UInt8} {x : FL} (hx : x ∈ s.fs) (hl : alook s.ml n = some (x.g, x.id)) (hk : x.k = 1) : letsM s n = { s with ml := mdel s.ml n, fs := s.fs.filter fun y => decide (y.id ≠ x.id), used := s.used - (x.xs.length : Int) } := by
  obtain ⟨a, b, hab⟩ := List.append_of_mem hx
  have hids := h.ids
  rw [hab] at hids
  have hg : getF s.fs x.id = some x := by rw [hab]; exact getF_split hids
  unfold letsM
  rw [hl]
  simp only
  rw [hg]
  simp only
  rw [if_pos hk]
theorem gives_fresh {s : SM} {n : List UInt8} {id : Nat} {v : Value} {xs : List UInt8} {g : Nat} (hl : alook s.ml n = none) (hid : ∀ f ∈ s.fs, f.id ≠ id) : givesM (newM s id v xs g) n (g, id) = { s with ml := s.ml ++ [(n, (g, id))], fs := ⟨g, id, v, xs, 1⟩ :: s.fs } := by
  have hb : bump ((⟨g, id, v, xs, 0⟩ : FL) :: s.fs) id 1 = ⟨g, id, v, xs, 1⟩ :: s.fs := by
    have e : bump ((⟨g, id, v, xs, 0⟩ : FL) :: s.fs) id 1 = (if id = id then (⟨g, id, v, xs, 0 + 1⟩ : FL) else ⟨g, id, v, xs, 0⟩) :: bump s.fs id 1 := rfl
    rw [e, if_pos rfl, bump_off hid]
    rfl
  have h1 : alook (newM s id v xs g).ml n ≠ some (g, id) := by
    show alook s.ml n ≠ _
    rw [hl]
    exact fun e => by cases e
  unfold givesM
  rw [if_neg h1, letsM_none (by exact hl)]
  show ({ s with ml := s.ml ++ [(n, (g, id))], fs := bump ((⟨g, id, v, xs, 0⟩ : FL) :: s.fs) id 1 } : SM) = _
  rw [hb]
theorem writeM_new {s : SM} {n : List UInt8} {id : Nat} {v : Value} {xs : List UInt8} {g : Nat} (hl : alook s.ml n = none) (hid : ∀ f ∈ s.fs, f.id ≠ id) :
    writeM s n id v xs g = { s with ml := s.ml ++ [(n, (g, id))], fs := ⟨g, id, v, xs, 1⟩ :: s.fs, used := s.used + (xs.length : Int) } := by
  unfold writeM
  rw [letsM_none hl, gives_fresh hl hid]
theorem writeM_over {s : SM} (h : Raw s) {n : List UInt8} {id : Nat} {v : Value} {xs : List UInt8} {g : Nat} {x : FL} (hx : x ∈ s.fs) (hl : alook s.ml n = some (x.g, x.id)) (hk : x.k = 1) (hid : ∀ f ∈ s.fs, f.id ≠ id) :
    writeM s n id v xs g = { s with ml := mdel s.ml n ++ [(n, (g, id))], fs := ⟨g, id, v, xs, 1⟩ :: s.fs.filter fun y => decide (y.id ≠ x.id), used := s.used - (x.xs.length : Int) + (xs.length : Int) } := by
  unfold writeM
  rw [letsM_last h hx hl hk, gives_fresh (by show alook (mdel s.ml n) n = none; rw [alook_mdel, if_pos rfl]) (fun f hf => hid f (List.mem_filter.1 hf).1)]
theorem tot_cons (x : FL) (fs : List FL) : tot (x :: fs) = x.xs.length + tot fs := by simp [tot]
theorem tot_filter {s : SM} (h : Raw s) {x : FL} (hx : x ∈ s.fs) : tot (s.fs.filter fun y => decide (y.id ≠ x.id)) + x.xs.length = tot s.fs := by
  obtain ⟨a, b, hab⟩ := List.append_of_mem hx
  have hids := h.ids
  rw [hab] at hids ⊢
  rw [filter_split hids, tot_split]
/-- (*pantry.fs.FS).Read -/
theorem readZ_con (f : FM) (B : Nat) (n : List UInt8) (w : World) (hin : In w f.heap) (hok : f.Ok B) (hn : strOk n) (hlk : alook f.now.ml n = none) : Con Try.prog 11 [f.ptr, .string (bs n)] w [] fun u S' => u = .tuple #[.slice none 0 0, .int .i64 7] ∧ S' = [[]] := by
  refine con_of_tree mix Try.func11 T11_ok (by kernel_rfl) ?_
  unfold T11
  refine j_q (qs_ac) ?_
  refine j_q (qs_ac) ?_
  refine j_q (qs_pnil Try.underlying25 rfl) ?_
  refine j_g rfl (fun hb => qs_mt rfl) ?_
  refine j_g rfl (fun hb => qs_nil (gd_eq hb)) ?_
  refine j_g rfl (fun hb => qs_field Try.underlying62 rfl sz58 (by decide) (gd_eq hb)) ?_
  refine j_g rfl (fun hb => qs_loadO (rdo_base (FM.in_gf hin) (by simp)) Try.underlying58 rfl (gd_eq hb) rfl) ?_
  refine j_g rfl (fun hb => qs_pnil Try.underlying58 (gd_eq hb)) ?_
  refine j_q (qs_or rfl rfl) ?_
  refine j_g rfl (fun hb => qs_mt rfl) ?_
  refine j_g rfl (fun hb => qs_nil (gd_eq hb)) ?_
  refine j_g rfl (fun hb => qs_field Try.underlying62 rfl sz58 (by decide) (gd_eq hb)) ?_
  refine j_g rfl (fun hb => qs_loadO (rdo_base (FM.in_gf hin) (by simp)) Try.underlying58 rfl (gd_eq hb) rfl) ?_
  refine j_g rfl (fun hb => qs_nil (gd_eq hb)) ?_
  refine j_g rfl (fun hb => qs_field Try.underlying66 rfl sz64 (by decide) (gd_eq hb)) ?_
  refine j_g rfl (fun hb => qs_loadO (rdo_base (SM.in_gs (FM.in_now hin)) (by simp)) Try.underlying64 rfl (gd_eq hb) rfl) ?_
  refine j_g rfl (fun hb => qs_mt rfl) ?_
  refine j_g rfl (fun hb => qs_lookupR (key := n) strKey (rdo_base (SM.in_gm (FM.in_now hin)) (by simp)) Try.underlying64 zv63 (gd_eq hb) (gd_eq hb) hok.raw.map hn) ?_
  rw [mlook_map fptr, getD_fptr, hlk, Option.map_none]
  refine j_g rfl (fun hb => qs_pnil Try.underlying63 (gd_eq hb)) ?_
  refine j_q (qs_or rfl rfl) ?_
  refine j_cond rfl (fun hc0 => ?_) (fun hc0 => ?_)
  · skip
    refine j_q (qs_ac) ?_
    refine j_q (qs_ac) ?_
    refine j_ret_con (vs := [_, _]) (fun w' hw' => ⟨rfl, rfl, trivial⟩) ?_
    exact ⟨rfl, rfl⟩
  · skip
    simp [gd] at hc0
end Go.Proofs.Ytckpegkpdepokaa
