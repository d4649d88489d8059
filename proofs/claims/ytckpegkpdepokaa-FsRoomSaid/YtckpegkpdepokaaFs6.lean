/- Files that forget: New; a thing is done. -/
import Derived.Test.YtckpegkpdepokaaTa
import Derived.Test.YtckpegkpdepokaaFs5
namespace Go.Proofs.Ytckpegkpdepokaa
open Go Go.Sx
set_option maxRecDepth 100000
set_option maxHeartbeats 4000000
set_option linter.unusedVariables false
set_option linter.unusedSimpArgs false
attribute [local irreducible] J JQ QS Con W opW
theorem ent45 : Sx.Enters Try.prog 45 := ⟨_, Try.func45, by kernel_rfl, by kernel_rfl⟩
theorem ent46 : Sx.Enters Try.prog 46 := ⟨_, Try.func46, by kernel_rfl, by kernel_rfl⟩

open Go.MapKept Go.WideMaps Go.Maps
abbrev SM0 (gs gm : Nat) : SM := ⟨gs, gm, #[], 0, [], [], 0⟩
theorem raw0 (gs gm : Nat) : Raw (SM0 gs gm) := ⟨mapOk_nil, List.nodup_nil, List.nodup_nil, List.nodup_nil, (fun q h => by cases h), (fun f h => by cases h), (fun f h => by cases h), by simp [tot]⟩
theorem nodup_disj {α : Type} {A B C D : List α} (h : (A ++ (B ++ (C ++ D))).Nodup) : ∀ x ∈ D, x ∉ B := fun x hx hb => by
  rw [List.nodup_append, List.nodup_append] at h
  exact h.2.1.2.2 x hb x (List.mem_append_right _ hx) rfl
theorem parts_disj {b : Base} {f : FM} {w : World} (hw : Sig b f.parts w) : ∀ g ∈ dom f.more, g ∉ dom (f.now.heap ++ ph f.P) := by
  have h := hw.nodup
  simp only [FM.parts, dom, List.flatten_cons, List.flatten_nil, List.append_nil, List.map_append] at h
  rw [← List.map_append] at h
  exact nodup_disj h
/-- what is there behind a thing -/
abbrev doneF (f : FM) (s : SM) (P : List BK) (t tv : Value) (tc : SH) : FM := { f with now := s, P := P, ts := f.ts ++ [t], tv := tv, tc := tc, left := if f.fused then f.left - 1 else f.left }
/-- pantry.fs.begun -/
theorem begun_con (w : World) : Con Try.prog 30 [] w [] fun v S' => ∃ gs gm : Nat, S' = [(SM0 gs gm).heap] ∧ v = (SM0 gs gm).ptr := by
  refine con_of_tree mix Try.func30 T30_ok (by kernel_rfl) ?_
  unfold T30
  refine j_q (qs_ac) ?_
  refine j_mkmap (fun g1 hg1 => ?_)
  refine j_q (qs_build (places := [(0, 1), (1, 1)]) (offs := [(0, [.map (some g1)])]) Try.underlying66 zero66 (by kernel_rfl) rfl (by rintro (_ | _ | _ | j) p q hp hq <;> first | (simp at hp hq; subst hp hq; exact ⟨rfl, rfl, by simp⟩) | (simp at hp))) ?_
  refine j_box (l := [.map (some g1), .int .i64 0]) rfl (fun g3 hg3 hs3 => ?_)
  refine j_perm (S' := [(SM0 g3 g1).heap]) (List.Perm.of_eq (by simp [SM.heap])) ?_
  refine j_ret_con (vs := [_]) (fun w' hw' => ⟨rfl, trivial⟩) ?_
  exact ⟨g3, g1, rfl, rfl⟩
/-- pantry.fs.New -/
theorem new_con (room : Int) (w : World) (h0 : 0 ≤ room) (h1 : room ≤ 1073741824) : Con Try.prog 10 [.int .i64 room] w [] fun v S' => ∃ f : FM, S' = [f.heap] ∧ v = .tuple #[f.ptr, .int .i64 0] ∧ f.Ok 0 ∧ f.room = room ∧ f.fused = false ∧ f.left = 0 ∧ f.P = [] ∧ f.ts = [] ∧ f.now.ml = [] ∧ f.now.fs = [] ∧ f.now.used = 0 := by
  refine con_of_tree mix Try.func10 T10_ok (by kernel_rfl) ?_
  unfold T10
  refine j_q (qs_ac) ?_
  refine j_q (qs_ac) ?_
  refine j_q (qs_lss rfl rfl) ?_
  refine j_g rfl (fun hb => qs_mt rfl) ?_
  refine j_g rfl (fun hb => qs_gtr (gd_eq hb) rfl) ?_
  refine j_q (qs_or rfl rfl) ?_
  refine j_cond rfl (fun hc0 => ?_) (fun hc0 => ?_)
  · skip
    simp [gd] at hc0
    omega
  · skip
    refine j_call0 ent30 rfl rfl rfl (fun w' hw' => begun_con w') (fun u S2 hu => ?_)
    obtain ⟨gs1, gm1, rfl, rfl⟩ := hu
    refine j_subl (S' := [(SM0 gs1 gm1).heap]) (by repeat first | exact List.Sublist.refl _ | exact List.nil_sublist _ | apply List.Sublist.cons_cons | apply List.Sublist.cons) ?_
    refine j_call0 ent30 rfl rfl rfl (fun w' hw' => begun_con w') (fun u S2 hu => ?_)
    obtain ⟨gs2, gm2, rfl, rfl⟩ := hu
    refine j_subl (S' := [(SM0 gs2 gm2).heap, (SM0 gs1 gm1).heap]) (by repeat first | exact List.Sublist.refl _ | exact List.nil_sublist _ | apply List.Sublist.cons_cons | apply List.Sublist.cons) ?_
    refine j_q (qs_build (places := [(0, 1), (1, 1), (2, 1), (3, 1), (4, 1), (5, 1)]) (offs := [(0, [.int .i64 room]), (1, [(SM0 gs1 gm1).ptr]), (2, [(SM0 gs2 gm2).ptr])]) Try.underlying62 zero62 (by kernel_rfl) rfl (by rintro (_ | _ | _ | j) p q hp hq <;> first | (simp at hp hq; subst hp hq; exact ⟨rfl, rfl, by simp⟩) | (simp at hp))) ?_
    refine j_box (l := fmcells (⟨0, room, (SM0 gs1 gm1).ptr, SM0 gs2 gm2, [], .slice none 0 0, [], false, 0, (SM0 gs1 gm1).heap, []⟩ : FM)) rfl (fun g11 hg11 hs11 => ?_)
    refine j_q (qs_ac) ?_
    refine j_perm (S' := [FM.heap (⟨g11, room, (SM0 gs1 gm1).ptr, SM0 gs2 gm2, [], .slice none 0 0, [], false, 0, (SM0 gs1 gm1).heap, []⟩ : FM)]) (List.Perm.of_eq (by simp [FM.heap, ph])) ?_
    refine j_ret_con (vs := [_, _]) (fun w' hw' => ⟨rfl, rfl, trivial⟩) ?_
    exact ⟨(⟨g11, room, (SM0 gs1 gm1).ptr, SM0 gs2 gm2, [], .slice none 0 0, [], false, 0, (SM0 gs1 gm1).heap, []⟩ : FM), rfl, rfl, ⟨own_nil, Nat.le_refl _, raw0 _ _, (fun x h => by cases h), rfl⟩, rfl, rfl, rfl, rfl, rfl, rfl, rfl, rfl⟩
/-- (*pantry.fs.FS).does -/
theorem does_con (f : FM) (B : Nat) (hB : B < 16384) (fid : FuncId) (caps : Array Value) (Q : SM → List BK → Prop) (w : World) (hok : f.Ok B) (hl : -100000000 ≤ f.left ∧ f.left ≤ 9223372036854775807) (he : Sx.Enters Try.prog fid) (hT : ∀ w', In w' f.more → (∀ g ∈ dom f.more, g ∉ dom (f.now.heap ++ ph f.P)) → Con Try.prog fid (f.now.ptr :: caps.toList) w' (f.now.heap ++ ph f.P) (fun _ S' => ∃ (s' : SM) (P' : List BK), S' = [s'.heap, ph P'] ∧ s'.gs = f.now.gs ∧ Q s' P')) : Con Try.prog 34 [f.ptr, .func (.func fid) #[] caps] w f.heap fun v S' => v = .int .i64 0 ∧ ∃ (s' : SM) (P' : List BK) (tv : Value) (tc : SH), S' = [FM.heap (doneF f s' P' (.func (.func fid) #[] caps) tv tc)] ∧ Sx.Own 100 1 (f.ts ++ [.func (.func fid) #[] caps]) tv tc ∧ s'.gs = f.now.gs ∧ Q s' P' := by
  refine con_of_tree mix Try.func34 T34_ok (by kernel_rfl) ?_
  unfold T34
  obtain ⟨n1, A1, cap1, htv, hn1⟩ := own_form hok.row (by decide)
  rw [Nat.mul_one] at hn1
  subst hn1
  have hlt := hok.lt
  refine j_perm (S' := f.parts) (by simpa using f.split) ?_
  refine j_q (qs_ac) ?_
  refine j_q (qs_nil rfl) ?_
  refine j_q (qs_field Try.underlying62 rfl sz60 (by decide) rfl) ?_
  refine j_q (qs_load (l := fmcells f) 0 Try.underlying60 rfl rfl rfl rfl) ?_
  refine j_q (qs_lenl (n := f.ts.length) (A := A1) (c := cap1) Try.underlying60 htv) ?_
  refine j_q (qs_geq rfl rfl) ?_
  refine j_cond rfl (fun hc0 => ?_) (fun hc0 => ?_)
  · skip
    simp at hc0
    omega
  · skip
    refine j_q (qs_nil rfl) ?_
    refine j_q (qs_field Try.underlying62 rfl sz58 (by decide) rfl) ?_
    refine j_q (qs_load (l := fmcells f) 0 Try.underlying58 rfl rfl rfl rfl) ?_
    refine j_callf 1 he rfl rfl rfl rfl (fun w' hw' => hT w' (in_own hw' 3 rfl) (parts_disj hw')) (fun u S2 hu => ?_)
    obtain ⟨s', P', rfl, hgs, hQ⟩ := hu
    refine j_q (qs_nil rfl) ?_
    refine j_q (qs_field Try.underlying62 rfl sz60 (by decide) rfl) ?_
    refine j_q (qs_load (l := fmcells f) 2 Try.underlying60 rfl rfl rfl rfl) ?_
    refine j_lit (vs := [.func (.func fid) #[] caps]) Try.underlying60 sz100 zero100 rfl (by simp [oneV]) ⟨rfl, by decide⟩ (fun g32 v32 c32 hv32 hc32 ho32 => ?_)
    subst hv32 hc32
    refine j_append 5 Try.underlying60 Try.underlying60 (.inr ⟨_, rfl⟩) sb100 zero100 rfl hok.row rfl (.inl ⟨_, _, rfl, own_rd ho32 0 rfl, rfl⟩) (by intro u hu; rw [List.mem_singleton] at hu; rw [hu]; rfl) ⟨(by simp only [List.length_singleton]; omega), (by decide)⟩ (fun v33 c33 ho33 => ?_)
    refine j_q (qs_nil rfl) ?_
    refine j_q (qs_field Try.underlying62 rfl sz60 (by decide) rfl) ?_
    refine j_store (l := fmcells f) 3 sz60 rfl rfl (by obtain ⟨n', A', cap', e', _⟩ := own_form ho33 (by decide); show oneV v33 = true; rw [e']; rfl) rfl (by simp) (by simp) ?_
    refine j_call 3 ent46 rfl rfl rfl rfl (fun w' hw' => burns_con ({ f with tv := v33 } : FM) w' (by show _ ≤ f.left ∧ f.left ≤ _; omega)) (fun u S2 hu => ?_)
    subst hu
    refine j_q (qs_ac) ?_
    refine j_subl (S' := [[(f.gf, FM.obj { ({ f with tv := v33 } : FM) with left := if f.fused then f.left - 1 else f.left })], s'.heap, ph P', c33, f.more]) (by repeat first | exact List.Sublist.refl _ | exact List.nil_sublist _ | apply List.Sublist.cons_cons | apply List.Sublist.cons) ?_
    have hp : s'.ptr = f.now.ptr := by simp only [SM.ptr, hgs]
    refine j_perm (S' := [FM.heap (doneF f s' P' (.func (.func fid) #[] caps) v33 c33)]) (by
      have e : FM.obj { ({ f with tv := v33 } : FM) with left := if f.fused then f.left - 1 else f.left } = FM.obj (doneF f s' P' (.func (.func fid) #[] caps) v33 c33) := by
        simp only [FM.obj, fmcells, hp]
      rw [e]
      exact (by
      classical
      refine List.perm_iff_count.2 fun x => ?_
      simp only [FM.heap, FM.obj, fmcells, SM.ptr, List.set, List.flatten_cons, List.flatten_nil, List.append_nil, List.nil_append, List.cons_append, List.count_append, List.count_cons, List.count_nil] <;> omega)) ?_
    refine j_ret_con (vs := [_]) (fun w' hw' => ⟨rfl, trivial⟩) ?_
    exact ⟨rfl, s', P', v33, c33, rfl, ho33, hgs, hQ⟩
end Go.Proofs.Ytckpegkpdepokaa
