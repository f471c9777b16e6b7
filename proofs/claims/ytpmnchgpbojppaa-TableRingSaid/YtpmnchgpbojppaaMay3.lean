/- drydockref05.May. -/
import Derived.Test.YtpmnchgpbojppaaMay
import Derived.Test.YtpmnchgpbojppaaMay2
import Derived.Deep.RegionHeld3
namespace Go.Proofs.Ytpmnchgpbojppaa
open Go Go.RowKit Go.Proofs.Try

set_option maxRecDepth 100000 in
set_option maxHeartbeats 4000000 in
theorem refMay_any (s : Sch) (A : Option Addr) (n c nx : Nat) (es : List Ent) (w : World) (hx : nx < 4294967296) (hE : kEnt.At w w.heap.size A n c es) :
    Calls prog 38 #[tabV s A n c nx] w fun e w' => e = .returned (.bool (Tab.may ⟨s, es, nx⟩)) ∧ Below w.heap.size w w' := by
  have hn := hE.nle
  have hl := Lib.hid hE.len
  unfold tabV
  obtain ⟨W1, hW1, hB1, hS1, hC1, hF1, hO1⟩ := boxed w _ rfl #[.int .i64 s.kind, .int .i64 s.cap, .int .i64 s.words, .int .i64 s.ver, .slice A n c, .int .u32 (nx : Int)] 27
  rcases h3 : (s.kind == 3) with _ | _ <;> rcases h0 : (s.kind == 0) with _ | _
  case true.true => simp at h3 h0; omega
  all_goals
    have h3' : (s.kind != 3) = !(s.kind == 3) := rfl
    rw [h3] at h3'
    simp only [Bool.not_false, Bool.not_true] at h3'
    go_enter func38, ntmps38
    go_wp2_with fail
    refine (refSchMay_any _ _ _ _ _).mono ?_
    rintro e w1 ⟨rfl, hb1⟩
    have hw1 := hB1.trans (hb1.mono hB1.size)
    have hC2 := boxAt hb1 (by omega) hC1
    have hsz1 := hb1.size
    rcases hm : Sch.may s with _ | _
    · go_wp2_with fail
      go_ret
      exact ⟨ret_bool (Tab.may_head _ (by simp [Tab.headOk, hm])).symm, hw1⟩
    have hb16 := (Sch.may_bounds hm).2.2.2.1
    by_cases hcap : s.cap < (n : Int)
    · go_wp2_with fail
      go_ret
      exact ⟨ret_bool (Tab.may_head _ (by simp [Tab.headOk, hl.out]; omega)).symm, hw1⟩
  · by_cases hnx : nx = 0
    case neg =>
      have hnxb : ((nx : Int) != 0) = true := by simp; omega
      replace hnx := Lib.hid hnx
      go_wp2_with fail
      go_ret
      exact ⟨ret_bool (Tab.may_head _ (by have := hnx.out; simp at h3; simp [Tab.headOk, h3, this])).symm, hw1⟩
    have hnxb : ((nx : Int) != 0) = false := by simp; omega
    replace hnx := Lib.hid hnx
    go_wp2_with fail
    go_loopw [5] (fun i wr => ∃ k : Nat, k ≤ n ∧ i = .int .i64 k ∧ Below (w.heap.size + 1) w1 wr ∧ (∀ (i : Nat) (x : Ent), i < k → es[i]? = some x → Tab.elOk ⟨s, es, nx⟩ i x = true)) (fun i _ => n - (intOf i).toNat)
    case atStart => exact ⟨0, Nat.zero_le _, rfl, Below.refl _ _, fun i x h => absurd h (by omega)⟩
    case round =>
      obtain ⟨k, hk, rfl, hb, hno⟩ := hrel
      replace hno := Lib.hid hno
      have hbr := hw1.trans (hb.mono (Nat.le_succ _))
      have hsz := hb.size
      have hszr : w.heap.size < wr.heap.size := by omega
      have hCr := boxAt hb (Nat.lt_succ_self _) hC2
      by_cases hlt : k < n
      · obtain ⟨e, ad, A', n', c', he, rfl, hadB, hk0, hk1, hkey, hv⟩ := kEnt.get (hE.below hbr) hlt
        replace he := Lib.hid he
        replace hv := Lib.hid hv.len
        have hki : (k : Int) < (n : Int) := by omega
        have hadB2 : (ad.add (k * 2)).block < w.heap.size + 1 := by rw [add_block]; omega
        by_cases q2 : (n' : Int) = s.words
        case neg =>
          have q2b : ((n' : Int) != s.words) = true := by simp [q2]
          replace q2 := Lib.hid q2
          go_wp2_with fail
          go_quiet (fail)
          go_wp2_with fail
          go_ret
          exact ⟨ret_bool (Tab.may_no _ he.out (Tab.elOk_no (by rintro ⟨r1, _⟩; rw [hv.out] at r1; exact q2.out r1))).symm, below_drewN hbr _⟩
        have q2b : ((n' : Int) != s.words) = false := by simp [q2]
        replace q2 := Lib.hid q2
        rcases q3 : (fidx e.key es 0 != (k : Int)) with _ | _
        case true =>
          go_wp2_with fail
          go_region_held3 (fun w' => ∀ b o, b < w.heap.size + 1 → w'.cell? ⟨b, o, none⟩ = wr.cell? ⟨b, o, none⟩)
              (first | exact fun _ _ _ => rfl | exact fun b o h => (hb2.cell (p := ⟨b, o, none⟩) (by simp; omega)))
            (first | (go_at_call 25; refine (at_any _ _ _ _ _ _ es _ w.heap.size ?_ ?_).mono ?_; (simp; omega); (exact hE.below (below_drewN hbr _)); rintro e1 w2 ⟨rfl, hb2⟩))
          have hbx : Below (w.heap.size + 1) w1 w2 := hb.trans ((below_drewN (Below.refl _ _) 1).trans (hb2.mono (by simp; omega)))
          have hC3 := boxAt hbx (Nat.lt_succ_self _) hC2
          have hbz := hw1.trans (hbx.mono (Nat.le_succ _))
          go_wp2_with fail
          go_ret
          exact ⟨ret_bool (Tab.may_no _ he.out (Tab.elOk_no (by rintro ⟨_, r2, _⟩; simp [r2] at q3))).symm, hbz⟩
        have q1 : True := trivial
        · go_wp2_with fail
          go_region_held3 (fun w' => ∀ b o, b < w.heap.size + 1 → w'.cell? ⟨b, o, none⟩ = wr.cell? ⟨b, o, none⟩)
              (first | exact fun _ _ _ => rfl | exact fun b o h => (hb2.cell (p := ⟨b, o, none⟩) (by simp; omega)))
            (first | (go_at_call 25; refine (at_any _ _ _ _ _ _ es _ w.heap.size ?_ ?_).mono ?_; (simp; omega); (exact hE.below (below_drewN hbr _)); rintro e1 w2 ⟨rfl, hb2⟩))
          have hbx : Below (w.heap.size + 1) w1 w2 := hb.trans ((below_drewN (Below.refl _ _) 1).trans (hb2.mono (by simp; omega)))
          have hC3 := boxAt hbx (Nat.lt_succ_self _) hC2
          have hbz := hw1.trans (hbx.mono (Nat.le_succ _))
          go_wp2_with fail
          refine ⟨⟨k + 1, by omega, by go_num, hbx, ?_⟩, by simp [intOf]; omega⟩
          refine allOk_succ (t := ⟨s, es, nx⟩) hno.out he.out ((Tab.elOk_iff _ _ _).2 ⟨by rw [hv.out]; exact q2.out, by simpa using q3, fun q => by simp at h0; exact absurd q h0, fun q => by simp at h3; exact absurd q h3⟩)
      · go_wp2_with fail
        go_ret
        obtain rfl : k = n := by omega
        refine ⟨ret_bool (Tab.may_yes ?_ (by rw [hl.out]; exact hno.out)).symm, hbr⟩
        have := hnx.out
        simp [Tab.headOk, hl.out, hm] at h3 h0 ⊢
        omega
  · by_cases hnx : nx = 0
    case neg =>
      have hnxb : ((nx : Int) != 0) = true := by simp; omega
      replace hnx := Lib.hid hnx
      go_wp2_with fail
      go_ret
      exact ⟨ret_bool (Tab.may_head _ (by have := hnx.out; simp at h3; simp [Tab.headOk, h3, this])).symm, hw1⟩
    have hnxb : ((nx : Int) != 0) = false := by simp; omega
    replace hnx := Lib.hid hnx
    by_cases hnc : (n : Int) < s.cap
    case pos =>
      go_wp2_with fail
      go_ret
      exact ⟨ret_bool (Tab.may_head _ (by simp at h0; simp [Tab.headOk, h0, hl.out]; omega)).symm, hw1⟩
    go_wp2_with fail
    go_loopw [5] (fun i wr => ∃ k : Nat, k ≤ n ∧ i = .int .i64 k ∧ Below (w.heap.size + 1) w1 wr ∧ (∀ (i : Nat) (x : Ent), i < k → es[i]? = some x → Tab.elOk ⟨s, es, nx⟩ i x = true)) (fun i _ => n - (intOf i).toNat)
    case atStart => exact ⟨0, Nat.zero_le _, rfl, Below.refl _ _, fun i x h => absurd h (by omega)⟩
    case round =>
      obtain ⟨k, hk, rfl, hb, hno⟩ := hrel
      replace hno := Lib.hid hno
      have hbr := hw1.trans (hb.mono (Nat.le_succ _))
      have hsz := hb.size
      have hszr : w.heap.size < wr.heap.size := by omega
      have hCr := boxAt hb (Nat.lt_succ_self _) hC2
      by_cases hlt : k < n
      · obtain ⟨e, ad, A', n', c', he, rfl, hadB, hk0, hk1, hkey, hv⟩ := kEnt.get (hE.below hbr) hlt
        replace he := Lib.hid he
        replace hv := Lib.hid hv.len
        have hki : (k : Int) < (n : Int) := by omega
        have hadB2 : (ad.add (k * 2)).block < w.heap.size + 1 := by rw [add_block]; omega
        by_cases q2 : (n' : Int) = s.words
        case neg =>
          have q2b : ((n' : Int) != s.words) = true := by simp [q2]
          replace q2 := Lib.hid q2
          go_wp2_with fail
          go_quiet (fail)
          go_wp2_with fail
          go_ret
          exact ⟨ret_bool (Tab.may_no _ he.out (Tab.elOk_no (by rintro ⟨r1, _⟩; rw [hv.out] at r1; exact q2.out r1))).symm, below_drewN hbr _⟩
        have q2b : ((n' : Int) != s.words) = false := by simp [q2]
        replace q2 := Lib.hid q2
        rcases q3 : (fidx e.key es 0 != (k : Int)) with _ | _
        case true =>
          go_wp2_with fail
          go_region_held3 (fun w' => ∀ b o, b < w.heap.size + 1 → w'.cell? ⟨b, o, none⟩ = wr.cell? ⟨b, o, none⟩)
              (first | exact fun _ _ _ => rfl | exact fun b o h => (hb2.cell (p := ⟨b, o, none⟩) (by simp; omega)))
            (first | (go_at_call 25; refine (at_any _ _ _ _ _ _ es _ w.heap.size ?_ ?_).mono ?_; (simp; omega); (exact hE.below (below_drewN hbr _)); rintro e1 w2 ⟨rfl, hb2⟩))
          have hbx : Below (w.heap.size + 1) w1 w2 := hb.trans ((below_drewN (Below.refl _ _) 1).trans (hb2.mono (by simp; omega)))
          have hC3 := boxAt hbx (Nat.lt_succ_self _) hC2
          have hbz := hw1.trans (hbx.mono (Nat.le_succ _))
          go_wp2_with fail
          go_ret
          exact ⟨ret_bool (Tab.may_no _ he.out (Tab.elOk_no (by rintro ⟨_, r2, _⟩; simp [r2] at q3))).symm, hbz⟩
        rcases q1 : ((e.key : Int) != (k : Int)) with _ | _
        case true =>
          go_wp2_with fail
          go_region_held3 (fun w' => ∀ b o, b < w.heap.size + 1 → w'.cell? ⟨b, o, none⟩ = wr.cell? ⟨b, o, none⟩)
              (first | exact fun _ _ _ => rfl | exact fun b o h => (hb2.cell (p := ⟨b, o, none⟩) (by simp; omega)))
            (first | (go_at_call 25; refine (at_any _ _ _ _ _ _ es _ w.heap.size ?_ ?_).mono ?_; (simp; omega); (exact hE.below (below_drewN hbr _)); rintro e1 w2 ⟨rfl, hb2⟩))
          have hbx : Below (w.heap.size + 1) w1 w2 := hb.trans ((below_drewN (Below.refl _ _) 1).trans (hb2.mono (by simp; omega)))
          have hC3 := boxAt hbx (Nat.lt_succ_self _) hC2
          have hbz := hw1.trans (hbx.mono (Nat.le_succ _))
          go_wp2_with fail
          go_ret
          exact ⟨ret_bool (Tab.may_no _ he.out (Tab.elOk_no (by rintro ⟨_, _, r3, _⟩; simp at h0; have := r3 h0; simp [this] at q1))).symm, hbz⟩
        · go_wp2_with fail
          go_region_held3 (fun w' => ∀ b o, b < w.heap.size + 1 → w'.cell? ⟨b, o, none⟩ = wr.cell? ⟨b, o, none⟩)
              (first | exact fun _ _ _ => rfl | exact fun b o h => (hb2.cell (p := ⟨b, o, none⟩) (by simp; omega)))
            (first | (go_at_call 25; refine (at_any _ _ _ _ _ _ es _ w.heap.size ?_ ?_).mono ?_; (simp; omega); (exact hE.below (below_drewN hbr _)); rintro e1 w2 ⟨rfl, hb2⟩))
          have hbx : Below (w.heap.size + 1) w1 w2 := hb.trans ((below_drewN (Below.refl _ _) 1).trans (hb2.mono (by simp; omega)))
          have hC3 := boxAt hbx (Nat.lt_succ_self _) hC2
          have hbz := hw1.trans (hbx.mono (Nat.le_succ _))
          go_wp2_with fail
          refine ⟨⟨k + 1, by omega, by go_num, hbx, ?_⟩, by simp [intOf]; omega⟩
          refine allOk_succ (t := ⟨s, es, nx⟩) hno.out he.out ((Tab.elOk_iff _ _ _).2 ⟨by rw [hv.out]; exact q2.out, by simpa using q3, fun _ => by simp at q1; (try simp only); omega, fun q => by simp at h3; exact absurd q h3⟩)
      · go_wp2_with fail
        go_ret
        obtain rfl : k = n := by omega
        refine ⟨ret_bool (Tab.may_yes ?_ (by rw [hl.out]; exact hno.out)).symm, hbr⟩
        have := hnx.out
        simp [Tab.headOk, hl.out, hm] at h3 h0 ⊢
        omega
  · have hnx : True := trivial
    go_wp2_with fail
    go_loopw [5] (fun i wr => ∃ k : Nat, k ≤ n ∧ i = .int .i64 k ∧ Below (w.heap.size + 1) w1 wr ∧ (∀ (i : Nat) (x : Ent), i < k → es[i]? = some x → Tab.elOk ⟨s, es, nx⟩ i x = true)) (fun i _ => n - (intOf i).toNat)
    case atStart => exact ⟨0, Nat.zero_le _, rfl, Below.refl _ _, fun i x h => absurd h (by omega)⟩
    case round =>
      obtain ⟨k, hk, rfl, hb, hno⟩ := hrel
      replace hno := Lib.hid hno
      have hbr := hw1.trans (hb.mono (Nat.le_succ _))
      have hsz := hb.size
      have hszr : w.heap.size < wr.heap.size := by omega
      have hCr := boxAt hb (Nat.lt_succ_self _) hC2
      by_cases hlt : k < n
      · obtain ⟨e, ad, A', n', c', he, rfl, hadB, hk0, hk1, hkey, hv⟩ := kEnt.get (hE.below hbr) hlt
        replace he := Lib.hid he
        replace hv := Lib.hid hv.len
        have hki : (k : Int) < (n : Int) := by omega
        have hadB2 : (ad.add (k * 2)).block < w.heap.size + 1 := by rw [add_block]; omega
        by_cases q2 : (n' : Int) = s.words
        case neg =>
          have q2b : ((n' : Int) != s.words) = true := by simp [q2]
          replace q2 := Lib.hid q2
          go_wp2_with fail
          go_quiet (fail)
          go_wp2_with fail
          go_ret
          exact ⟨ret_bool (Tab.may_no _ he.out (Tab.elOk_no (by rintro ⟨r1, _⟩; rw [hv.out] at r1; exact q2.out r1))).symm, below_drewN hbr _⟩
        have q2b : ((n' : Int) != s.words) = false := by simp [q2]
        replace q2 := Lib.hid q2
        rcases q3 : (fidx e.key es 0 != (k : Int)) with _ | _
        case true =>
          go_wp2_with fail
          go_region_held3 (fun w' => ∀ b o, b < w.heap.size + 1 → w'.cell? ⟨b, o, none⟩ = wr.cell? ⟨b, o, none⟩)
              (first | exact fun _ _ _ => rfl | exact fun b o h => (hb2.cell (p := ⟨b, o, none⟩) (by simp; omega)))
            (first | (go_at_call 25; refine (at_any _ _ _ _ _ _ es _ w.heap.size ?_ ?_).mono ?_; (simp; omega); (exact hE.below (below_drewN hbr _)); rintro e1 w2 ⟨rfl, hb2⟩))
          have hbx : Below (w.heap.size + 1) w1 w2 := hb.trans ((below_drewN (Below.refl _ _) 1).trans (hb2.mono (by simp; omega)))
          have hC3 := boxAt hbx (Nat.lt_succ_self _) hC2
          have hbz := hw1.trans (hbx.mono (Nat.le_succ _))
          go_wp2_with fail
          go_ret
          exact ⟨ret_bool (Tab.may_no _ he.out (Tab.elOk_no (by rintro ⟨_, r2, _⟩; simp [r2] at q3))).symm, hbz⟩
        have hkx : (((nx + (4294967296 - es.length) + k) % 4294967296 : Nat) : Int) = ((nx : Int) - n + k) % 4294967296 := by rw [hl.out]; omega
        replace hkx := Lib.hid hkx
        rcases q1 : (((e.key : Int) + ((n : Int) - k)) % 4294967296 != (nx : Int)) with _ | _
        case true =>
          go_wp2_with fail
          go_region_held3 (fun w' => ∀ b o, b < w.heap.size + 1 → w'.cell? ⟨b, o, none⟩ = wr.cell? ⟨b, o, none⟩)
              (first | exact fun _ _ _ => rfl | exact fun b o h => (hb2.cell (p := ⟨b, o, none⟩) (by simp; omega)))
            (first | (go_at_call 25; refine (at_any _ _ _ _ _ _ es _ w.heap.size ?_ ?_).mono ?_; (simp; omega); (exact hE.below (below_drewN hbr _)); rintro e1 w2 ⟨rfl, hb2⟩))
          have hbx : Below (w.heap.size + 1) w1 w2 := hb.trans ((below_drewN (Below.refl _ _) 1).trans (hb2.mono (by simp; omega)))
          have hC3 := boxAt hbx (Nat.lt_succ_self _) hC2
          have hbz := hw1.trans (hbx.mono (Nat.le_succ _))
          go_wp2_with fail
          go_ret
          exact ⟨ret_bool (Tab.may_no _ he.out (Tab.elOk_no (by rintro ⟨_, _, _, r4⟩; simp at h3; have r5 := r4 h3; have := hkx.out; simp only at r5; rw [← r5] at this; rw [this] at q1; simp at q1; omega))).symm, hbz⟩
        · go_wp2_with fail
          go_region_held3 (fun w' => ∀ b o, b < w.heap.size + 1 → w'.cell? ⟨b, o, none⟩ = wr.cell? ⟨b, o, none⟩)
              (first | exact fun _ _ _ => rfl | exact fun b o h => (hb2.cell (p := ⟨b, o, none⟩) (by simp; omega)))
            (first | (go_at_call 25; refine (at_any _ _ _ _ _ _ es _ w.heap.size ?_ ?_).mono ?_; (simp; omega); (exact hE.below (below_drewN hbr _)); rintro e1 w2 ⟨rfl, hb2⟩))
          have hbx : Below (w.heap.size + 1) w1 w2 := hb.trans ((below_drewN (Below.refl _ _) 1).trans (hb2.mono (by simp; omega)))
          have hC3 := boxAt hbx (Nat.lt_succ_self _) hC2
          have hbz := hw1.trans (hbx.mono (Nat.le_succ _))
          go_wp2_with fail
          refine ⟨⟨k + 1, by omega, by go_num, hbx, ?_⟩, by simp [intOf]; omega⟩
          refine allOk_succ (t := ⟨s, es, nx⟩) hno.out he.out ((Tab.elOk_iff _ _ _).2 ⟨by rw [hv.out]; exact q2.out, by simpa using q3, fun q => by simp at h0; exact absurd q h0, fun _ => by have := hkx.out; simp at q1; simp only; omega⟩)
      · go_wp2_with fail
        go_ret
        obtain rfl : k = n := by omega
        refine ⟨ret_bool (Tab.may_yes ?_ (by rw [hl.out]; exact hno.out)).symm, hbr⟩
        simp [Tab.headOk, hl.out, hm] at h3 h0 ⊢
        omega
end Go.Proofs.Ytpmnchgpbojppaa
