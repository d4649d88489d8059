/- Locks by names, as the document has them: Give. -/
import Derived.Test.YtlgfpoelhjlifaaTa
import Derived.Test.YtlgfpoelhjlifaaRk5
namespace Go.Proofs.Ytlgfpoelhjlifaa
open Go Go.Sx
set_option maxRecDepth 100000
set_option maxHeartbeats 4000000
set_option linter.unusedVariables false
set_option linter.unusedSimpArgs false
attribute [local irreducible] J JQ QS Con W opW
theorem ent52 : Sx.Enters Try.prog 52 := ⟨_, Try.func52, by kernel_rfl, by kernel_rfl⟩
theorem ent53 : Sx.Enters Try.prog 53 := ⟨_, Try.func53, by kernel_rfl, by kernel_rfl⟩
theorem RL.Ok.up_ {l : RL} {B B' : Nat} (h : l.Ok B) (hB : B ≤ B') : l.Ok B' := by
  obtain ⟨h1, h2, h3, h4⟩ := h
  exact ⟨h1, h2, h3, by omega⟩
/-- (*pantry.pantryref12.Table).Give -/
theorem rgive_con (B : Nat) (hB : B < 1000) (p : RT) (t : Int) (n : List UInt8) (w : World) (hok : p.Ok B) (hn : strOk n) (hrise : RiseE (p.ls.map RL.e)) : Con Try.prog 27 [.pointer (some ⟨p.gt, 0, none⟩), .int .i64 t, .string (bs n)] w p.heap fun u S' => ∃ (p' : RT) (out : List Int) (oc : SH) (e : Int) (v : Value), S' = [p'.heap, oc] ∧ u = .tuple #[v, .int .i64 e] ∧ Sx.Own 3 1 (ks .i64 out) v oc ∧ p'.gt = p.gt ∧ p'.Ok (B + 1) ∧ (p'.ls.map RL.e, out, e) = giveE (p.ls.map RL.e) t n ∧ out.length ≤ B := by
  refine con_of_tree mix Try.func27 T27_ok (by kernel_rfl) ?_
  unfold T27
  refine j_q (qs_ac) ?_
  refine j_q (qs_ac) ?_
  refine j_q (qs_call ent34 rfl rfl rfl (fun w' hw' => rholds_con B (by omega) p t n w' (in_own hw' 0 rfl) hok)) ?_
  refine j_q (qs_not rfl) ?_
  refine j_cond rfl (fun hc0 => ?_) (fun hc0 => ?_)
  · skip
    have hno : holdsE (p.ls.map RL.e) t n = false := by
      rw [holds_e]
      simpa using hc0
    refine j_q (qs_ac) ?_
    refine j_q (qs_ac) ?_
    refine j_perm (S' := [p.heap, []]) (by simp) ?_
    refine j_ret_con (vs := [_, _]) (fun w' hw' => ⟨rfl, rfl, trivial⟩) ?_
    refine ⟨p, [], [], _, _, rfl, rfl, own_nil, rfl, hok.up (Nat.le_succ _), ?_, Nat.zero_le _⟩
    unfold giveE
    rw [if_neg (by rw [hno]; decide)]
  · skip
    have hyes : holdsE (p.ls.map RL.e) t n = true := by
      rw [holds_e]
      simpa using hc0
    refine j_call 0 ent49 rfl rfl rfl rfl (fun w' hw' => rlock_con B (by omega) p n w' hok hn) (fun u S2 hu => ?_)
    obtain ⟨p1, l, rfl, rfl, hmem, hle, hlB, hok1, hgt1, hes1⟩ := hu
    refine j_subl (S' := [p1.heap]) (by repeat first | exact List.Sublist.refl _ | exact List.nil_sublist _ | apply List.Sublist.cons_cons | apply List.Sublist.cons) ?_
    obtain ⟨a, b, hab⟩ := split_mem hmem
    have hnd : NamesNd (a ++ l :: b) := by
      unfold NamesNd
      rw [← hab, ← names_e, hes1]
      exact rise_nd (rise_ensure hrise n)
    refine j_perm (S' := [[(p1.gt, p1.tobj)], p1.lc, l.heap, restR a b]) (by
      rw [List.flatten_cons, List.flatten_nil, List.append_nil]
      exact RT.open_ hab) ?_
    have hn0 : l.name = n := by have := congrArg RE.name hle; rw [lockE_name] at this; exact this
    have hsetE : ∀ l' : RL, l'.name = l.name → (a ++ l' :: b).map RL.e = setE (ensureE (p.ls.map RL.e) n) l'.e := fun l' hl' => by
      rw [← hes1, hab]
      exact setE_split hnd hl'
    refine j_call 2 ent52 rfl rfl rfl rfl (fun w' hw' => rgives_con B (by omega) l t w' hlB) (fun u S2 hu => ?_)
    obtain ⟨l1, rfl, hl1B, hg1, hnm1, hs1, hr1, hh1⟩ := hu
    refine j_subl (S' := [l1.heap, [(p1.gt, p1.tobj)], p1.lc, restR a b]) (by repeat first | exact List.Sublist.refl _ | exact List.nil_sublist _ | apply List.Sublist.cons_cons | apply List.Sublist.cons) ?_
    rw [show ptrR l = ptrR l1 by unfold ptrR; rw [hg1]]
    refine j_call 0 ent53 rfl rfl rfl rfl (fun w' hw' => rgoes_con B (by omega) l1 w' hl1B) (fun u S2 hu => ?_)
    obtain ⟨l2, out, oc, rfl, ho, hl2B, hg2, hnm2, hgo, hol⟩ := hu
    refine j_perm (S' := [RT.heap ({ p1 with ls := a ++ l2 :: b } : RT), oc]) (by
      classical
      have h := RT.open_ (p := ({ p1 with ls := a ++ l2 :: b } : RT)) (a := a) (b := b) (l := l2) rfl
      refine List.perm_iff_count.2 fun x => ?_
      have h2 := List.perm_iff_count.1 h x
      simp only [List.flatten_cons, List.flatten_nil, List.append_nil, List.nil_append, List.cons_append, List.count_append, List.count_cons, List.count_nil, List.set, RT.tobj] at h2 ⊢
      omega) ?_
    refine j_q (qs_ac) ?_
    refine j_ret_con (vs := [_, _]) (fun w' hw' => ⟨rfl, rfl, trivial⟩) ?_
    refine ⟨({ p1 with ls := a ++ l2 :: b } : RT), out, oc, _, _, rfl, rfl, ho, hgt1, hok1.put hab (hg2.trans hg1) (hl2B.up_ (Nat.le_succ _)) (Nat.le_refl _), ?_, hol⟩
    have he : (RT.ls ({ p1 with ls := a ++ l2 :: b } : RT)).map RL.e = setE (ensureE (p.ls.map RL.e) n) l2.e := hsetE l2 (hnm2.trans hnm1)
    rw [he]
    unfold giveE
    rw [if_pos hyes, ← hle, show l.e.row = l1.row from hr1.symm, show outs t l.e.holds = l1.holds from hh1.symm, show l.e.sh = l1.sh from hs1.symm, hgo]
    have hnn : l2.name = n := hnm2.trans (hnm1.trans hn0)
    show (setE _ (RE.mk l2.name l2.holds l2.row l2.sh), out, (0 : Int)) = _
    rw [hnn]
end Go.Proofs.Ytlgfpoelhjlifaa
