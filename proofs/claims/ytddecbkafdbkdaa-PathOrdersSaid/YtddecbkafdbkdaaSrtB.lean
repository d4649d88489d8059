/- The library's sorted paths: what slices.Sorted of slices.Values answers. -/
import Derived.Test.YtddecbkafdbkdaaTa
import Derived.Test.YtddecbkafdbkdaaLay
import Derived.Test.YtddecbkafdbkdaaSrt
import Derived.Test.YtddecbkafdbkdaaCol
namespace Go.Proofs.Ytddecbkafdbkdaa
open Go Go.Sx
set_option maxRecDepth 100000
set_option maxHeartbeats 4000000
set_option linter.unusedVariables false
set_option linter.unusedSimpArgs false
attribute [local irreducible] J JQ QS Con W opW
theorem ent60 : Sx.Enters Try.prog 60 := ⟨_, Try.func60, by kernel_rfl, by kernel_rfl⟩
theorem ent61 : Sx.Enters Try.prog 61 := ⟨_, Try.func61, by kernel_rfl, by kernel_rfl⟩
theorem ent67 : Sx.Enters Try.prog 67 := ⟨_, Try.func67, by kernel_rfl, by kernel_rfl⟩
theorem svals_sig {w w' : World} {S : List SH} {sv : Value} {zs : List (List UInt8)} (hI : SVals w.heap.size w sv zs) (h : Sig ⟨w, dom []⟩ S w') : SVals w'.heap.size w' sv zs := by
  rcases hI with ⟨rfl, rfl⟩ | ⟨b, off, cap, rfl, hb, hc⟩
  · exact .inl ⟨rfl, rfl⟩
  · exact .inr ⟨b, off, cap, rfl, Nat.lt_of_lt_of_le hb h.size, fun j hj => h.ro (a := ⟨b, off + j, none⟩) (hc j hj) (by simp)⟩
theorem appendSeq_con (Bs : Nat) (sv : Value) (zs : List (List UInt8)) (w : World) (hreach : zs.length * 16 ≤ 140737488351232) (hBs : Bs < w.heap.size) (hcs : w.cell? ⟨Bs, 0, none⟩ = some sv) (hI : SVals w.heap.size w sv zs) : Con Try.prog 67 [.slice none 0 0, .func (.func 62) #[] #[.pointer (some ⟨Bs, 0, none⟩)]] w [] fun v S' => ∃ c, S' = [c] ∧ Sx.Own 26 1 (strs zs) v c :=
  con_of_own (n := zs.length) (xs := strs zs) ((callsIn_wide (n := 6)).1 (appendSeq_in Fence.wide 6 trivial trivial rfl (by omega) Bs sv zs hreach w hBs hcs hI))
theorem sort_con {e : TypeId} {ss : List (List UInt8)} {v : Value} {c : SH} (ho : Sx.Own e 1 (strs ss) v c) (hsz : ss.length < 4611686018427387904) (w : World) : Con Try.prog 61 [v] w c fun u S' => u = .tuple #[] ∧ ∃ c', S' = [c'] ∧ Sx.Own e 1 (strs (sortS ss)) v c' :=
  con_sort_own (fun blk off cap ss w hH hblk hsz => AnyM.slices_Sort_string Try.sort61 blk off cap ss w hH hblk hsz) (fun p cap w => AnyM.slices_Sort_string_none Try.sort61 p cap w) ho hsz w

/-- slices.Values[[]pantry.api.Path,pantry.api.Path] -/
theorem values_con (A : Option Addr) (n c : Nat) (w : World) : Con Try.prog 50 [.slice A n c] w [] fun v S' => ∃ g, v = .func (.func 62) #[] #[.pointer (some ⟨g, 0, none⟩)] ∧ S' = [[(g, .cells [.slice A n c].toArray 38 (0, 0))]] := by
  refine con_of_tree mix Try.func50 T50_ok (by kernel_rfl) ?_
  unfold T50
  refine j_box (l := [.slice A n c]) rfl (fun g0 hg0 hs0 => ?_)
  refine j_q (qs_ac) ?_
  refine j_q (qs_makefunc (fv := []) (cv := [.pointer (some ⟨g0, 0, none⟩)]) rfl rfl) ?_
  refine j_sub (S' := [[(g0, .cells [.slice A n c].toArray 38 (0, 0))]]) (by simp) ?_
  refine j_ret_con (vs := [_]) (fun w' hw' => ⟨rfl, trivial⟩) ?_
  exact ⟨_, rfl, rfl⟩
/-- slices.Collect[pantry.api.Path] -/
theorem collect_con (Bs : Nat) (sv : Value) (zs : List (List UInt8)) (w : World) (hreach : zs.length * 16 ≤ 140737488351232) (hBs : Bs < w.heap.size) (hcs : w.cell? ⟨Bs, 0, none⟩ = some sv) (hI : SVals w.heap.size w sv zs) : Con Try.prog 60 [.func (.func 62) #[] #[.pointer (some ⟨Bs, 0, none⟩)]] w [] fun v S' => ∃ c, S' = [c] ∧ Sx.Own 26 1 (strs zs) v c := by
  refine con_of_tree mix Try.func60 T60_ok (by kernel_rfl) ?_
  unfold T60
  refine j_q (qs_ac) ?_
  refine j_call0 ent67 rfl rfl rfl (fun w' hw' => appendSeq_con Bs sv zs w' hreach (Nat.lt_of_lt_of_le hBs hw'.size) (hw'.ro (a := ⟨Bs, 0, none⟩) hcs (by simp)) (svals_sig hI hw')) (fun u S2 hu => ?_)
  obtain ⟨c1, rfl, ho1⟩ := hu
  refine j_sub (S' := [c1]) (by simp) ?_
  refine j_ret_con (vs := [_]) (fun w' hw' => ⟨rfl, trivial⟩) ?_
  exact ⟨_, rfl, ho1⟩
/-- slices.Sorted[pantry.api.Path] -/
theorem sorted_con (Bs : Nat) (sv : Value) (zs : List (List UInt8)) (w : World) (hreach : zs.length * 16 ≤ 140737488351232) (hBs : Bs < w.heap.size) (hcs : w.cell? ⟨Bs, 0, none⟩ = some sv) (hI : SVals w.heap.size w sv zs) : Con Try.prog 49 [.func (.func 62) #[] #[.pointer (some ⟨Bs, 0, none⟩)]] w [] fun v S' => ∃ c, S' = [c] ∧ Sx.Own 26 1 (strs (sortS zs)) v c := by
  refine con_of_tree mix Try.func49 T49_ok (by kernel_rfl) ?_
  unfold T49
  refine j_q (qs_ac) ?_
  refine j_call0 ent60 rfl rfl rfl (fun w' hw' => collect_con Bs sv zs w' hreach (Nat.lt_of_lt_of_le hBs hw'.size) (hw'.ro (a := ⟨Bs, 0, none⟩) hcs (by simp)) (svals_sig hI hw')) (fun u S2 hu => ?_)
  obtain ⟨c1, rfl, ho1⟩ := hu
  refine j_call 0 ent61 rfl rfl rfl rfl (fun w' hw' => sort_con ho1 (by omega) w') (fun u2 S2 hu => ?_)
  obtain ⟨rfl, c2, rfl, ho2⟩ := hu
  refine j_sub (S' := [c2]) (by simp) ?_
  refine j_ret_con (vs := [_]) (fun w' hw' => ⟨rfl, trivial⟩) ?_
  exact ⟨_, rfl, ho2⟩
end Go.Proofs.Ytddecbkafdbkdaa
