/- drydockref01.Words, slices.Equal. -/
import Derived.Test.YtpmnchgpbojppaaProg
import Derived.Test.YtpmnchgpbojppaaMem
namespace Go.Proofs.Ytpmnchgpbojppaa
open Go Go.RowKit Go.Proofs.Try

set_option maxHeartbeats 1000000 in
theorem words_any (A A' : Option Addr) (n n' c c' : Nat) (xs ys : List Nat) (w : World) (B : Nat) (hx : kW.At w B A n c xs) (hy : kW.At w B A' n' c' ys) :
    Calls prog 53 #[.slice A n c, .slice A' n' c'] w fun e w' => e = .returned (.bool (sameB xs ys)) ∧ Drawn w w' := by
  have hn := hx.nle
  have hlx := Lib.hid hx.len
  have hly := Lib.hid hy.len
  rcases hnn : ((n : Int) != (n' : Int)) with _ | _
  · have e1 : n' = n := by simp at hnn; omega
    subst e1
    go_enter func53, ntmps53
    go_wp2_with fail
    go_loopw [5] (fun i wr => ∃ k : Nat, k ≤ n' ∧ i = .int .i64 k ∧ Drawn w wr ∧ (∀ i, i < k → xs[i]? = ys[i]?)) (fun i _ => n' - (intOf i).toNat)
    case atStart => exact ⟨0, Nat.zero_le _, rfl, Drawn.refl _, fun i h => absurd h (by omega)⟩
    case round =>
      obtain ⟨k, hk, rfl, hd, hall⟩ := hrel
      replace hall := Lib.hid hall
      by_cases hlt : k < n'
      · obtain ⟨x, ad, h1, rfl, hb1, hc1, hx1⟩ := kW.get (hx.below hd.below) hlt
        obtain ⟨y, ad', h2, rfl, hb2, hc2, hy1⟩ := kW.get (hy.below hd.below) hlt
        replace h1 := Lib.hid h1
        replace h2 := Lib.hid h2
        have hki : (k : Int) < (n' : Int) := by omega
        rcases hxy : ((x : Int) != (y : Int)) with _ | _
        · go_wp2_with fail
          go_quiet (fail)
          go_wp2_with fail
          refine ⟨⟨k + 1, by omega, by go_num, hd.step _, fun i hi => ?_⟩, by simp [intOf]; omega⟩
          rcases Nat.lt_or_ge i k with h | h
          · exact hall.out i h
          · obtain rfl : i = k := by omega
            rw [h1.out, h2.out]
            simp at hxy
            rw [show x = y by omega]
        · go_wp2_with fail
          go_quiet (fail)
          go_wp2_with fail
          go_ret
          refine ⟨ret_bool ?_, hd.step _⟩
          symm
          rw [sameB_no]
          rintro rfl
          have h3 := h1.out.symm.trans h2.out
          simp at h3
          simp [h3] at hxy
      · go_wp2_with fail
        go_ret
        obtain rfl : k = n' := by omega
        exact ⟨ret_bool (sameB_iff.2 (list_same hlx.out hly.out hall.out)).symm, hd⟩
  · go_enter func53, ntmps53
    go_wp2_with fail
    go_ret
    refine ⟨ret_bool ?_, Drawn.refl _⟩
    symm
    rw [sameB_no]
    rintro rfl
    have := hlx.out.symm.trans hly.out
    simp [this] at hnn

set_option maxHeartbeats 1000000 in
theorem equal_any (A A' : Option Addr) (n n' c c' : Nat) (xs ys : List Nat) (w : World) (B : Nat) (hx : kW.At w B A n c xs) (hy : kW.At w B A' n' c' ys) :
    Calls prog 62 #[.slice A n c, .slice A' n' c'] w fun e w' => e = .returned (.bool (sameB xs ys)) ∧ Drawn w w' := by
  have hn := hx.nle
  have hlx := Lib.hid hx.len
  have hly := Lib.hid hy.len
  rcases hnn : ((n : Int) != (n' : Int)) with _ | _
  · have e1 : n' = n := by simp at hnn; omega
    subst e1
    go_enter func62, ntmps62
    go_wp2_with fail
    go_loopw [13] (fun i wr => ∃ k : Nat, k ≤ n' ∧ i = .int .i64 k ∧ Drawn w wr ∧ (∀ i, i < k → xs[i]? = ys[i]?)) (fun i _ => n' - (intOf i).toNat)
    case atStart => exact ⟨0, Nat.zero_le _, rfl, Drawn.refl _, fun i h => absurd h (by omega)⟩
    case round =>
      obtain ⟨k, hk, rfl, hd, hall⟩ := hrel
      replace hall := Lib.hid hall
      by_cases hlt : k < n'
      · obtain ⟨x, ad, h1, rfl, hb1, hc1, hx1⟩ := kW.get (hx.below hd.below) hlt
        obtain ⟨y, ad', h2, rfl, hb2, hc2, hy1⟩ := kW.get (hy.below hd.below) hlt
        replace h1 := Lib.hid h1
        replace h2 := Lib.hid h2
        have hki : (k : Int) < (n' : Int) := by omega
        rcases hxy : ((x : Int) != (y : Int)) with _ | _
        · go_wp2_with fail
          go_quiet (fail)
          go_wp2_with fail
          refine ⟨⟨k + 1, by omega, by go_num, hd.step _, fun i hi => ?_⟩, by simp [intOf]; omega⟩
          rcases Nat.lt_or_ge i k with h | h
          · exact hall.out i h
          · obtain rfl : i = k := by omega
            rw [h1.out, h2.out]
            simp at hxy
            rw [show x = y by omega]
        · go_wp2_with fail
          go_quiet (fail)
          go_wp2_with fail
          go_ret
          refine ⟨ret_bool ?_, hd.step _⟩
          symm
          rw [sameB_no]
          rintro rfl
          have h3 := h1.out.symm.trans h2.out
          simp at h3
          simp [h3] at hxy
      · go_wp2_with fail
        go_ret
        obtain rfl : k = n' := by omega
        exact ⟨ret_bool (sameB_iff.2 (list_same hlx.out hly.out hall.out)).symm, hd⟩
  · go_enter func62, ntmps62
    go_wp2_with fail
    go_ret
    refine ⟨ret_bool ?_, Drawn.refl _⟩
    symm
    rw [sameB_no]
    rintro rfl
    have := hlx.out.symm.trans hly.out
    simp [this] at hnn
end Go.Proofs.Ytpmnchgpbojppaa
