/- table.Same: its closure, slices.EqualFunc, itself. -/
import Derived.Test.YtpmnchgpbojppaaEqs
import Derived.Test.YtpmnchgpbojppaaTabLib
namespace Go.Proofs.Ytpmnchgpbojppaa
open Go Go.RowKit Go.Proofs.Try

set_option maxHeartbeats 1000000 in
theorem entEq_any (k k' : Nat) (A A' : Option Addr) (n n' c c' : Nat) (xs ys : List Nat) (w : World) (hx : kW.At w w.heap.size A n c xs) (hy : kW.At w w.heap.size A' n' c' ys) :
    Calls prog 61 #[.agg #[.int .u32 (k : Int), .slice A n c], .agg #[.int .u32 (k' : Int), .slice A' n' c']] w fun e w' => e = .returned (.bool (sameB (Ent.mk k xs) (Ent.mk k' ys))) ∧ Below w.heap.size w w' := by
  obtain ⟨W1, hW1, hB1, hS1, hC1, hF1, hO1⟩ := boxed w _ rfl #[.int .u32 (k : Int), .slice A n c] 39
  obtain ⟨W2, hW2, hB2, hS2, hC2, hF2, hO2⟩ := boxed W1 _ hS1 #[.int .u32 (k' : Int), .slice A' n' c'] 39
  have hB := hB1.trans (hB2.mono (Nat.le_succ _))
  rcases hk : ((k : Int) == (k' : Int)) with _ | _
  · go_enter func61, ntmps61
    go_wp2_with fail
    go_ret
    refine ⟨ret_bool (sameB_no.2 ?_).symm, hB⟩
    intro h
    simp only [Ent.mk.injEq] at h
    simp [h.1] at hk
  · rcases hv : sameB xs ys with _ | _
    all_goals
      go_enter func61, ntmps61
      go_wp2_with (go_at_call 62; refine (equal_any _ _ _ _ _ _ xs ys _ _ (by exact hx.below hB) (by exact hy.below hB)).mono ?_; rintro e1 w2 ⟨rfl, hd⟩)
      go_ret
    · exact ⟨ret_bool (by rw [eq_comm, sameB_no]; intro h; simp only [Ent.mk.injEq] at h; exact sameB_no.1 hv h.2), hB.trans hd.below⟩
    · have e1 := sameB_iff.1 hv
      have e2 : k = k' := by simp at hk; omega
      exact ⟨ret_bool (by rw [e1, e2, sameB_self]), hB.trans hd.below⟩

set_option maxRecDepth 100000 in
set_option maxHeartbeats 2000000 in
theorem eqFunc_any (A A' : Option Addr) (n n' c c' : Nat) (es es' : List Ent) (w : World) (hE : kEnt.At w w.heap.size A n c es) (hE' : kEnt.At w w.heap.size A' n' c' es') :
    Calls prog 60 #[.slice A n c, .slice A' n' c', .func (.func 61) #[] #[]] w fun e w' => e = .returned (.bool (sameB es es')) ∧ Below w.heap.size w w' := by
  have hn := hE.nle
  have hl := Lib.hid hE.len
  have hl' := Lib.hid hE'.len
  rcases hnn : ((n : Int) != (n' : Int)) with _ | _
  case true =>
    go_enter func60, ntmps60
    go_wp2_with fail
    go_ret
    refine ⟨ret_bool (sameB_no.2 ?_).symm, Below.refl _ _⟩
    rintro rfl
    have := hl.out.symm.trans hl'.out
    simp [this] at hnn
  have e1 : n' = n := by simp at hnn; omega
  subst e1
  go_enter func60, ntmps60
  go_wp2_with fail
  go_loopw [17] (fun i wr => ∃ k : Nat, k ≤ n' ∧ i = .int .i64 k ∧ Below w.heap.size w wr ∧ (∀ i, i < k → es[i]? = es'[i]?)) (fun i _ => n' - (intOf i).toNat)
  case atStart => exact ⟨0, Nat.zero_le _, rfl, Below.refl _ _, fun i h => absurd h (by omega)⟩
  case round =>
    obtain ⟨k, hk, rfl, hb, hall⟩ := hrel
    replace hall := Lib.hid hall
    have hsz := hb.size
    by_cases hlt : k < n'
    · obtain ⟨e, ad, D, m, d, h1, rfl, hb1, hk0, hk1, hkey, hv⟩ := kEnt.get (hE.below hb) hlt
      obtain ⟨e', ad', D', m', d', h1', rfl, hb1', hk0', hk1', hkey', hv'⟩ := kEnt.get (hE'.below hb) hlt
      replace h1 := Lib.hid h1
      replace h1' := Lib.hid h1'
      have hki : (k : Int) < (n' : Int) := by omega
      obtain ⟨W1, hW1, hB1, hS1, hC1, hF1, hO1⟩ := boxed wr _ rfl #[.int .u32 (e.key : Int), .slice D m d] 39
      have hx1 : W1.cell? (ad'.add (k * 2)) = some (Value.int IntKind.u32 ↑e'.key) := (hB1.cell (by rw [add_block]; omega)).trans hk0'
      have hx2 : W1.cell? ⟨(ad'.add (k * 2)).block, (ad'.add (k * 2)).off + 1, none⟩ = some (Value.slice D' m' d') := (hB1.cell (by show (ad'.add (k * 2)).block < _; rw [add_block]; omega)).trans hk1'
      obtain ⟨W2, hW2, hB2, hS2, hC2, hF2, hO2⟩ := boxed W1 _ hS1 #[.int .u32 (e'.key : Int), .slice D' m' d'] 39
      have hB := hB1.trans (hB2.mono (Nat.le_succ _))
      have hbn := hb.trans (hB.mono hsz)
      rcases hee : sameB e e' with _ | _
      · replace hee : sameB (Ent.mk e.key e.v) (Ent.mk e'.key e'.v) = false := hee
        go_wp2_with (go_at_call 61; refine (entEq_any _ _ _ _ _ _ _ _ e.v e'.v _ (by exact (hv.below (hB.mono hsz)).mono (by omega)) (by exact (hv'.below (hB.mono hsz)).mono (by omega))).mono ?_; rintro e1 w2 ⟨rfl, hb2⟩)
        go_ret
        refine ⟨ret_bool (sameB_no.2 ?_).symm, hbn.trans (hb2.mono (by omega))⟩
        rintro rfl
        have := h1.out.symm.trans h1'.out
        simp only [Option.some.injEq] at this
        rw [this, sameB_self] at hee
        cases hee
      · have hee' := sameB_iff.1 hee
        replace hee : sameB (Ent.mk e.key e.v) (Ent.mk e'.key e'.v) = true := hee
        replace hee' := Lib.hid hee'
        go_wp2_with (go_at_call 61; refine (entEq_any _ _ _ _ _ _ _ _ e.v e'.v _ (by exact (hv.below (hB.mono hsz)).mono (by omega)) (by exact (hv'.below (hB.mono hsz)).mono (by omega))).mono ?_; rintro e1 w2 ⟨rfl, hb2⟩)
        refine ⟨⟨k + 1, by omega, by go_num, hbn.trans (hb2.mono (by omega)), fun i hi => ?_⟩, by simp [intOf]; omega⟩
        rcases Nat.lt_or_ge i k with h | h
        · exact hall.out i h
        · obtain rfl : i = k := by omega
          rw [h1.out, h1'.out, hee'.out]
    · go_wp2_with fail
      go_ret
      obtain rfl : k = n' := by omega
      exact ⟨ret_bool (sameB_iff.2 (list_same hl.out hl'.out hall.out)).symm, hb⟩

set_option maxRecDepth 100000 in
set_option maxHeartbeats 2000000 in
theorem tabSame_any (s s' : Sch) (A A' : Option Addr) (n n' c c' nx nx' : Nat) (es es' : List Ent) (w : World) (hE : kEnt.At w w.heap.size A n c es) (hE' : kEnt.At w w.heap.size A' n' c' es') :
    Calls prog 31 #[tabV s A n c nx, tabV s' A' n' c' nx'] w fun e w' => e = .returned (.bool (sameB (Tab.mk s es nx) (Tab.mk s' es' nx'))) ∧ Below w.heap.size w w' := by
  unfold tabV
  obtain ⟨W1, hW1, hB1, hS1, hC1, hF1, hO1⟩ := boxed w _ rfl #[.int .i64 s.kind, .int .i64 s.cap, .int .i64 s.words, .int .i64 s.ver, .slice A n c, .int .u32 (nx : Int)] 27
  obtain ⟨W2, hW2, hB2, hS2, hC2, hF2, hO2⟩ := boxed W1 _ hS1 #[.int .i64 s'.kind, .int .i64 s'.cap, .int .i64 s'.words, .int .i64 s'.ver, .slice A' n' c', .int .u32 (nx' : Int)] 27
  have hB := hB1.trans (hB2.mono (Nat.le_succ _))
  by_cases hss : s = s' ∧ nx = nx'
  case neg =>
    replace hss := Lib.hid hss
    go_enter func31, ntmps31
    go_wp2_with fail
    all_goals first
      | (go_ret
         refine ⟨ret_bool (sameB_no.2 ?_).symm, hB⟩
         intro h
         simp only [Tab.mk.injEq] at h
         exact hss.out ⟨h.1, h.2.2⟩)
      | (exfalso
         refine hss.out ⟨?_, by omega⟩
         cases s; cases s'
         simp_all)
  obtain ⟨rfl, rfl⟩ := hss
  rcases hee : sameB es es' with _ | _
  all_goals
    go_enter func31, ntmps31
    go_wp2_with (go_at_call 60; refine (eqFunc_any _ _ _ _ _ _ es es' _ (by exact (hE.below hB).mono (by omega)) (by exact (hE'.below hB).mono (by omega))).mono ?_; rintro e1 w2 ⟨rfl, hb2⟩)
    go_ret
  · exact ⟨ret_bool (by rw [eq_comm, sameB_no]; intro h; simp only [Tab.mk.injEq] at h; exact sameB_no.1 hee h.2.1), hB.trans (hb2.mono (by omega))⟩
  · exact ⟨ret_bool (by rw [sameB_iff.1 hee, sameB_self]), hB.trans (hb2.mono (by omega))⟩
end Go.Proofs.Ytpmnchgpbojppaa
