/- drydockref05.Same, table.Same. -/
import Derived.Test.YtpmnchgpbojppaaEqs
import Derived.Test.YtpmnchgpbojppaaTabLib
namespace Go.Proofs.Ytpmnchgpbojppaa
open Go Go.RowKit Go.Proofs.Try

set_option maxRecDepth 100000 in
set_option maxHeartbeats 2000000 in
theorem refSame_any (s s' : Sch) (A A' : Option Addr) (n n' c c' nx nx' : Nat) (es es' : List Ent) (w : World) (hE : kEnt.At w w.heap.size A n c es) (hE' : kEnt.At w w.heap.size A' n' c' es') :
    Calls prog 26 #[tabV s A n c nx, tabV s' A' n' c' nx'] w fun e w' => e = .returned (.bool (sameB (Tab.mk s es nx) (Tab.mk s' es' nx'))) ∧ Below w.heap.size w w' := by
  have hn := hE.nle
  have hl := Lib.hid hE.len
  have hl' := Lib.hid hE'.len
  unfold tabV
  obtain ⟨W1, hW1, hB1, hS1, hC1, hF1, hO1⟩ := boxed w _ rfl #[.int .i64 s.kind, .int .i64 s.cap, .int .i64 s.words, .int .i64 s.ver, .slice A n c, .int .u32 (nx : Int)] 27
  obtain ⟨W2, hW2, hB2, hS2, hC2, hF2, hO2⟩ := boxed W1 _ hS1 #[.int .i64 s'.kind, .int .i64 s'.cap, .int .i64 s'.words, .int .i64 s'.ver, .slice A' n' c', .int .u32 (nx' : Int)] 27
  have hB := hB1.trans (hB2.mono (Nat.le_succ _))
  by_cases hss : s = s' ∧ nx = nx'
  case neg =>
    replace hss := Lib.hid hss
    go_enter func26, ntmps26
    go_wp2_with fail
    all_goals first
      | (go_ret
         refine ⟨ret_bool (sameB_no.2 ?_).symm, hB⟩
         intro h
         simp only [Tab.mk.injEq] at h
         exact hss.out ⟨h.1, h.2.2⟩)
      | (exfalso
         refine hss.out ⟨?_, by omega⟩
         cases s; cases s'
         simp_all)
  obtain ⟨rfl, rfl⟩ := hss
  rcases hnn : ((n : Int) != (n' : Int)) with _ | _
  case true =>
    go_enter func26, ntmps26
    go_wp2_with fail
    go_ret
    refine ⟨ret_bool (sameB_no.2 ?_).symm, hB⟩
    intro h
    simp only [Tab.mk.injEq] at h
    obtain ⟨_, rfl, _⟩ := h
    have := hl.out.symm.trans hl'.out
    simp [this] at hnn
  have e1 : n' = n := by simp at hnn; omega
  subst e1
  go_enter func26, ntmps26
  go_wp2_with fail
  go_loopw [5] (fun i wr => ∃ k : Nat, k ≤ n' ∧ i = .int .i64 k ∧ Drawn W2 wr ∧ (∀ i, i < k → es[i]? = es'[i]?)) (fun i _ => n' - (intOf i).toNat)
  case atStart => exact ⟨0, Nat.zero_le _, rfl, Drawn.refl _, fun i h => absurd h (by omega)⟩
  case round =>
    obtain ⟨k, hk, rfl, hd, hall⟩ := hrel
    replace hall := Lib.hid hall
    have hbr := hB.trans hd.below
    obtain ⟨hc3, hf3⟩ := bcell (hd.below (B := w.heap.size + 2))
    by_cases hlt : k < n'
    · obtain ⟨e, ad, D, m, d, h1, rfl, hb1, hk0, hk1, hkey, hv⟩ := kEnt.get (hE.below hbr) hlt
      obtain ⟨e', ad', D', m', d', h1', rfl, hb1', hk0', hk1', hkey', hv'⟩ := kEnt.get (hE'.below hbr) hlt
      replace h1 := Lib.hid h1
      replace h1' := Lib.hid h1'
      have hki : (k : Int) < (n' : Int) := by omega
      rcases hvv : sameB e.v e'.v with _ | _
      · go_wp2_with fail
        go_quiet ((go_at_call 53; exact Drawn.quiet (words_any _ _ _ _ _ _ _ _ _ _ (by exact hv.below (below_drewN (Below.refl _ _) _)) (by exact hv'.below (below_drewN (Below.refl _ _) _)))))
        go_wp2_with fail
        go_quiet (fail)
        go_wp2_with fail
        go_ret
        refine ⟨ret_bool (sameB_no.2 ?_).symm, by first | exact below_drewN hbr _ | exact below_drewN (below_drewN hbr _) _⟩
        intro h
        simp only [Tab.mk.injEq] at h
        obtain ⟨_, rfl, _⟩ := h
        obtain rfl : e = e' := by have := h1.out.symm.trans h1'.out; simpa using this
        rw [sameB_self] at hvv
        cases hvv
      rcases hkk : ((e.key : Int) != (e'.key : Int)) with _ | _
      · go_wp2_with fail
        go_quiet ((go_at_call 53; exact Drawn.quiet (words_any _ _ _ _ _ _ _ _ _ _ (by exact hv.below (below_drewN (Below.refl _ _) _)) (by exact hv'.below (below_drewN (Below.refl _ _) _)))))
        go_wp2_with fail
        go_quiet (fail)
        go_wp2_with fail
        refine ⟨⟨k + 1, by omega, by go_num, by first | exact hd.step _ | exact (hd.step _).step _, fun i hi => ?_⟩, by simp [intOf]; omega⟩
        rcases Nat.lt_or_ge i k with h | h
        · exact hall.out i h
        · obtain rfl : i = k := by omega
          rw [h1.out, h1'.out]
          have hvv' := sameB_iff.1 hvv
          cases e; cases e'
          simp at hkk hvv' ⊢
          exact ⟨by omega, hvv'⟩
      · go_wp2_with fail
        go_quiet ((go_at_call 53; exact Drawn.quiet (words_any _ _ _ _ _ _ _ _ _ _ (by exact hv.below (below_drewN (Below.refl _ _) _)) (by exact hv'.below (below_drewN (Below.refl _ _) _)))))
        go_wp2_with fail
        go_quiet (fail)
        go_wp2_with fail
        go_ret
        refine ⟨ret_bool (sameB_no.2 ?_).symm, by first | exact below_drewN hbr _ | exact below_drewN (below_drewN hbr _) _⟩
        intro h
        simp only [Tab.mk.injEq] at h
        obtain ⟨_, rfl, _⟩ := h
        obtain rfl : e = e' := by have := h1.out.symm.trans h1'.out; simpa using this
        simp at hkk
    · go_wp2_with fail
      go_ret
      obtain rfl : k = n' := by omega
      refine ⟨ret_bool (sameB_iff.2 ?_).symm, hbr⟩
      rw [list_same hl.out hl'.out hall.out]
end Go.Proofs.Ytpmnchgpbojppaa
