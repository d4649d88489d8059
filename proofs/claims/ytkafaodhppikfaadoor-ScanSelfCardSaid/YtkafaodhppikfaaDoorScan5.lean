/- The laws ScanFinds, ScanAll and ScanParts. -/
import Derived.Test.YtkafaodhppikfaaDoorTa
import Derived.Test.YtkafaodhppikfaaDoorScan4
namespace Go.Proofs.YtkafaodhppikfaaDoor
open Go Go.Sx
set_option maxRecDepth 100000
set_option maxHeartbeats 4000000
set_option linter.unusedVariables false
set_option linter.unusedSimpArgs false
attribute [local irreducible] J JQ QS Con W opW
theorem ent22 : Sx.Enters Tryd.prog 22 := ⟨_, Tryd.func22, by kernel_rfl, by kernel_rfl⟩
theorem ent23 : Sx.Enters Tryd.prog 23 := ⟨_, Tryd.func23, by kernel_rfl, by kernel_rfl⟩

open Go.MapKept Go.WideMaps Go.Maps
theorem strict_len {zs rs : List (List UInt8)} (h : Strict zs) (hm : ∀ x ∈ zs, x ∈ rs) : zs.length ≤ rs.length := by
  refine nodup_le ?_ hm
  unfold Strict at h
  unfold List.Nodup
  exact h.imp lt_ne
theorem known_eq {zs : List (List UInt8)} (h : Strict zs) (hm : ∀ x, x ∈ zs ↔ x ∈ [kP, kQ] ∧ isPath x = true ∧ Win ([120] ++ kP) ([120] ++ kP).length (x.take 32)) : zs = [kP] := by
  refine strict_ext h (by simp [Strict]) fun x => ?_
  rw [hm x]
  simp only [List.mem_cons, List.not_mem_nil, or_false]
  constructor
  · rintro ⟨rfl | rfl, _, hw⟩
    · rfl
    · have := standsB_iff.2 hw
      rw [kQ_win] at this
      cases this
  · rintro rfl
    exact ⟨.inl rfl, kP_path, standsB_iff.1 kP_win⟩
theorem win_left {a b d : List UInt8} (h : Win a a.length d) : Win (a ++ b) (a ++ b).length d := by
  unfold Win at *
  obtain ⟨j, h1, h2⟩ := h
  refine ⟨j, by rw [List.length_append]; omega, ?_⟩
  rw [List.drop_append_of_le_length (by omega), List.take_append_of_le_length (by rw [List.length_drop]; omega)]
  exact h2
theorem win_right {a b d : List UInt8} (h : Win b b.length d) : Win (a ++ b) (a ++ b).length d := by
  unfold Win at *
  obtain ⟨j, h1, h2⟩ := h
  refine ⟨a.length + j, by rw [List.length_append]; omega, ?_⟩
  rw [← List.drop_drop, List.drop_left]
  exact h2
theorem win_self {p : List UInt8} (hp : isPath p = true) : Win p p.length (p.take 32) := by
  have := path_min hp
  exact ⟨0, by omega, rfl⟩
theorem path_max {l : List UInt8} (h : isPath l = true) : l.length ≤ 113 := by
  unfold isPath at h
  simp only [Bool.and_eq_true] at h
  have := isName_len h.1.2
  rw [List.length_drop] at this
  omega
theorem rsl_pre {w : World} {g n cap z : Nat} {l m : List UInt8} (h : RSl w (.slice (some ⟨g, 0, none⟩) n cap) (ints m)) (hn : n = m.length) (hz : z ≤ n) (hc : 0 < cap) (hl : m.take z = l) : RSl w (.slice (some ⟨g, 0, none⟩) z cap) (ints l) := by
  have h1 := rsl_cut h (a := 0) (z := z) (Nat.zero_le _) hz (by rw [ints_length]; exact hn)
  rw [if_neg (by omega)] at h1
  simp only [Option.map_some, Nat.zero_mul, add_zero_, Nat.sub_zero, List.drop_zero, ints_take, hl] at h1
  exact h1
theorem parts_mem {a l : List UInt8} {rs zs13 zs15 zs17 : List (List UInt8)} (h13 : ∀ x, x ∈ zs13 ↔ x ∈ rs ∧ isPath x = true ∧ Win (a ++ l) (a ++ l).length (x.take 32)) (h15 : ∀ x, x ∈ zs15 ↔ x ∈ rs ∧ isPath x = true ∧ Win a a.length (x.take 32)) (h17 : ∀ x, x ∈ zs17 ↔ x ∈ rs ∧ isPath x = true ∧ Win l l.length (x.take 32)) {i : Nat} (hi : i < (zs15 ++ zs17).length) : (zs15 ++ zs17).getD i [] ∈ zs13 := by
  have hm : (zs15 ++ zs17).getD i [] ∈ zs15 ++ zs17 := by
    rw [List.getD_eq_getElem?_getD, List.getElem?_eq_getElem hi]
    exact List.getElem_mem hi
  rw [h13]
  rcases List.mem_append.1 hm with h | h
  · have := (h15 _).1 h
    exact ⟨this.1, this.2.1, win_left this.2.2⟩
  · have := (h17 _).1 h
    exact ⟨this.1, this.2.1, win_right this.2.2⟩
attribute [local irreducible] isName isPath spA spB spE cp sortS rise dg PT ofDig Fnd RunOk Win isDig standsB
/-- pantry.pantrylaw6.known -/
theorem known_con (w : World) : Con Tryd.prog 7 [] w [] fun u _ => u = .bool true := by
  refine con_of_tree mix Tryd.func7 T7_ok (by kernel_rfl) ?_
  unfold T7
  refine j_q (qs_ac) ?_
  refine j_q (qs_ac) ?_
  refine j_q (qs_ac) ?_
  refine j_q (qs_sadd (l := [120]) (l' := kP) rfl rfl (by decide)) ?_
  refine j_bytes Tryd.underlying9 Tryd.underlying22 Tryd.underlying5 rfl (fun v4 c4 ho4 hv4 => ?_)
  obtain ⟨g4, cap4, rfl⟩ := hv4
  refine j_lit (vs := [.string (bs kP), .string (bs kQ)]) Tryd.underlying55 sz23 zero23 rfl (by simp [oneV]) ⟨rfl, by decide⟩ (fun g5 v5 c5 hv5 hc5 ho5 => ?_)
  subst hv5 hc5
  rw [show [.string (bs kP), .string (bs kQ)] = strs [kP, kQ] from rfl] at ho5
  refine j_call0 ent23 rfl rfl rfl (fun w' hw' => refs_con ([120] ++ kP) _ [kP, kQ] _ w' (rsl_own ho4 1 rfl hw') (strsl_own ho5 0 rfl hw') (by decide) (by decide) (by decide)) (fun u S2 hu => ?_)
  obtain ⟨c6, zs, rfl, ho6, hs6, hm6⟩ := hu
  obtain rfl := known_eq hs6 hm6
  refine j_lit (vs := [.string (bs kP)]) Tryd.underlying55 sz23 zero23 rfl (by simp [oneV]) ⟨rfl, by decide⟩ (fun g7 v7 c7 hv7 hc7 ho7 => ?_)
  subst hv7 hc7
  rw [show [Value.string (bs kP)] = strs [kP] from rfl] at ho7
  refine j_q (qs_call ent22 rfl rfl rfl (fun w' hw' => paths_con [kP] _ _ w' (strsl_own ho6 1 rfl hw') (strsl_own ho7 0 rfl hw') (by decide))) ?_
  refine j_ret_con (vs := [_]) (fun w' hw' => ⟨rfl, trivial⟩) ?_
  rfl
end Go.Proofs.YtkafaodhppikfaaDoor
