/- table.May. -/
import Derived.Test.YtpmnchgpbojppaaFind
namespace Go.Proofs.Ytpmnchgpbojppaa
open Go Go.RowKit Go.Proofs.Try

/-- What a round adds. -/
theorem allOk_succ {t : Tab} {k : Nat} {e : Ent} (h : ∀ (i : Nat) (x : Ent), i < k → t.e[i]? = some x → t.elOk i x = true) (he : t.e[k]? = some e) (hok : t.elOk k e = true) :
    ∀ (i : Nat) (x : Ent), i < k + 1 → t.e[i]? = some x → t.elOk i x = true := by
  intro i x hi hx
  rcases Nat.lt_or_ge i k with h' | h'
  · exact h i x h' hx
  · obtain rfl : i = k := by omega
    rw [he] at hx
    cases hx
    exact hok
theorem Tab.may_yes {t : Tab} (hh : t.headOk = true) (h : ∀ (i : Nat) (x : Ent), i < t.e.length → t.e[i]? = some x → t.elOk i x = true) : t.may = true :=
  (t.may_iff).2 ⟨hh, fun i e hi => h i e (List.getElem?_eq_some_iff.1 hi).1 hi⟩

set_option maxRecDepth 100000 in
set_option maxHeartbeats 4000000 in
theorem tabMay_any (s : Sch) (A : Option Addr) (n c nx : Nat) (es : List Ent) (w : World) (hx : nx < 4294967296) (hE : kEnt.At w w.heap.size A n c es) :
    Calls prog 23 #[tabV s A n c nx] w fun e w' => e = .returned (.bool (Tab.may ⟨s, es, nx⟩)) ∧ Below w.heap.size w w' := by
  have hn := hE.nle
  have hl := Lib.hid hE.len
  rcases h3 : (s.kind == 3) with _ | _ <;> rcases h0 : (s.kind == 0) with _ | _
  case true.true => simp at h3 h0; omega
  all_goals
    unfold tabV
    go_enter func23, ntmps23
    go_wp2_with fail
    go_quiet (fail)
    go_wp2_with fail
    refine (schMay_any _ _ _ _ _).mono ?_
    rintro e w1 ⟨rfl, hb1⟩
    have hw1 := below_of (below_drewN (below_box _ _) _) hb1
    obtain ⟨hc1, hf1⟩ := bcell hb1
    rcases hm : Sch.may s with _ | _
    · go_wp2_with fail
      go_ret
      exact ⟨ret_bool (Tab.may_head _ (by simp [Tab.headOk, hm])).symm, hw1⟩
    by_cases hcap : s.cap < (n : Int)
    · go_wp2_with fail
      go_ret
      exact ⟨ret_bool (Tab.may_head _ (by simp [Tab.headOk, hl.out]; omega)).symm, hw1⟩
  · by_cases hnx : nx = 0
    · subst hnx
      go_wp2_with fail
      go_loopw [61] (fun i wr => ∃ k : Nat, k ≤ n ∧ i = .int .i64 k ∧ Below (w.heap.size + 1) w1 wr ∧ (∀ (i : Nat) (x : Ent), i < k → es[i]? = some x → Tab.elOk ⟨s, es, 0⟩ i x = true)) (fun i _ => n - (intOf i).toNat)
      case atStart => exact ⟨0, Nat.zero_le _, rfl, Below.refl _ _, fun i x h => absurd h (by omega)⟩
      case round =>
        obtain ⟨k, hk, rfl, hb, hno⟩ := hrel
        replace hno := Lib.hid hno
        have hbr := hw1.trans (hb.mono (Nat.le_succ _))
        have hsz := hb.size
        have hsz1 := hb1.size
        simp only [World.size_alloc, World.heap_drewN] at hsz1
        have hszr : w.heap.size < wr.heap.size := by omega
        obtain ⟨hc2, hf2⟩ := bcell hb
        by_cases hlt : k < n
        · obtain ⟨e, ad, A', n', c', he, rfl, hadB, hk0, hk1, hkey, hv⟩ := kEnt.get (hE.below hbr) hlt
          replace he := Lib.hid he
          replace hv := Lib.hid hv.len
          by_cases q2 : (n' : Int) = s.words
          case neg =>
            have q2b : ((n' : Int) != s.words) = true := by simp [q2]
            replace q2 := Lib.hid q2
            go_wp2_with fail
            go_ret
            exact ⟨ret_bool (Tab.may_no _ he.out (Tab.elOk_no (by rintro ⟨r1, _⟩; rw [hv.out] at r1; exact q2.out r1))).symm, hbr.alloc (by omega) _⟩
          have q2b : ((n' : Int) != s.words) = false := by simp [q2]
          replace q2 := Lib.hid q2
          rcases q3 : (fidx e.key es 0 != (k : Int)) with _ | _
          · go_wp2_with (go_at_call 55; refine (find_any _ _ _ _ _ _ es _ w.heap.size (by simp; omega) (by exact hE.below (hbr.alloc (by omega) _))).mono ?_; rintro e1 w2 ⟨rfl, hb2⟩)
            refine ⟨⟨k + 1, by omega, by go_num, (hb.alloc (by omega) _).trans (hb2.mono (by simp; omega)), ?_⟩, by simp [intOf]; omega⟩
            refine allOk_succ (t := ⟨s, es, 0⟩) hno.out he.out ((Tab.elOk_iff _ _ _).2 ⟨by rw [hv.out]; exact q2.out, by simpa using q3, fun q => by simp at h0; exact absurd q h0, fun q => by simp at h3; exact absurd q h3⟩)
          · go_wp2_with (go_at_call 55; refine (find_any _ _ _ _ _ _ es _ w.heap.size (by simp; omega) (by exact hE.below (hbr.alloc (by omega) _))).mono ?_; rintro e1 w2 ⟨rfl, hb2⟩)
            go_ret
            exact ⟨ret_bool (Tab.may_no _ he.out (Tab.elOk_no (by rintro ⟨_, r2, _⟩; simp [r2] at q3))).symm, (hbr.alloc (by omega) _).trans (hb2.mono (by simp; omega))⟩
        · go_wp2_with fail
          go_ret
          obtain rfl : k = n := by omega
          refine ⟨ret_bool (Tab.may_yes ?_ (by rw [hl.out]; exact hno.out)).symm, hbr⟩
          simp [Tab.headOk, hl.out, hm] at h3 h0 ⊢
          omega
    · go_wp2_with fail
      go_ret
      exact ⟨ret_bool (Tab.may_head _ (by simp at h3; simp [Tab.headOk, h3, hnx])).symm, hw1⟩
  · by_cases hnx : nx = 0
    · subst hnx
      by_cases hnc : (n : Int) = s.cap
      case neg =>
        have hnc' : ((n : Int) != s.cap) = true := by simp [hnc]
        go_wp2_with fail
        go_ret
        exact ⟨ret_bool (Tab.may_head _ (by simp at h0; simp [Tab.headOk, h0, hl.out, hnc])).symm, hw1⟩
      have hb16 := (Sch.may_bounds hm).2.2.2.1
      have hnc' : ((n : Int) != s.cap) = false := by simp [hnc]
      replace hnc := Lib.hid hnc
      go_wp2_with fail
      go_loopw [61] (fun i wr => ∃ k : Nat, k ≤ n ∧ i = .int .i64 k ∧ Below (w.heap.size + 1) w1 wr ∧ (∀ (i : Nat) (x : Ent), i < k → es[i]? = some x → Tab.elOk ⟨s, es, 0⟩ i x = true)) (fun i _ => n - (intOf i).toNat)
      case atStart => exact ⟨0, Nat.zero_le _, rfl, Below.refl _ _, fun i x h => absurd h (by omega)⟩
      case round =>
        obtain ⟨k, hk, rfl, hb, hno⟩ := hrel
        replace hno := Lib.hid hno
        have hbr := hw1.trans (hb.mono (Nat.le_succ _))
        have hsz := hb.size
        have hsz1 := hb1.size
        simp only [World.size_alloc, World.heap_drewN] at hsz1
        have hszr : w.heap.size < wr.heap.size := by omega
        obtain ⟨hc2, hf2⟩ := bcell hb
        by_cases hlt : k < n
        · obtain ⟨e, ad, A', n', c', he, rfl, hadB, hk0, hk1, hkey, hv⟩ := kEnt.get (hE.below hbr) hlt
          replace he := Lib.hid he
          replace hv := Lib.hid hv.len
          have hk16 : k < 4294967296 := by omega
          by_cases q1 : e.key = k
          case neg =>
            have q1b : ((e.key : Int) != (k : Int)) = true := by simp; omega
            replace q1 := Lib.hid q1
            go_wp2_with fail
            go_ret
            exact ⟨ret_bool (Tab.may_no _ he.out (Tab.elOk_no (by rintro ⟨_, _, r3, _⟩; simp at h0; exact q1.out (r3 h0)))).symm, hbr.alloc (by omega) _⟩
          have q1b : ((e.key : Int) != (k : Int)) = false := by simp [q1]
          replace q1 := Lib.hid q1
          by_cases q2 : (n' : Int) = s.words
          case neg =>
            have q2b : ((n' : Int) != s.words) = true := by simp [q2]
            replace q2 := Lib.hid q2
            go_wp2_with fail
            go_ret
            exact ⟨ret_bool (Tab.may_no _ he.out (Tab.elOk_no (by rintro ⟨r1, _⟩; rw [hv.out] at r1; exact q2.out r1))).symm, hbr.alloc (by omega) _⟩
          have q2b : ((n' : Int) != s.words) = false := by simp [q2]
          replace q2 := Lib.hid q2
          rcases q3 : (fidx e.key es 0 != (k : Int)) with _ | _
          · go_wp2_with (go_at_call 55; refine (find_any _ _ _ _ _ _ es _ w.heap.size (by simp; omega) (by exact hE.below (hbr.alloc (by omega) _))).mono ?_; rintro e1 w2 ⟨rfl, hb2⟩)
            refine ⟨⟨k + 1, by omega, by go_num, (hb.alloc (by omega) _).trans (hb2.mono (by simp; omega)), ?_⟩, by simp [intOf]; omega⟩
            refine allOk_succ (t := ⟨s, es, 0⟩) hno.out he.out ((Tab.elOk_iff _ _ _).2 ⟨by rw [hv.out]; exact q2.out, by simpa using q3, fun _ => q1.out, fun q => by simp at h3; exact absurd q h3⟩)
          · go_wp2_with (go_at_call 55; refine (find_any _ _ _ _ _ _ es _ w.heap.size (by simp; omega) (by exact hE.below (hbr.alloc (by omega) _))).mono ?_; rintro e1 w2 ⟨rfl, hb2⟩)
            go_ret
            exact ⟨ret_bool (Tab.may_no _ he.out (Tab.elOk_no (by rintro ⟨_, r2, _⟩; simp [r2] at q3))).symm, (hbr.alloc (by omega) _).trans (hb2.mono (by simp; omega))⟩
        · go_wp2_with fail
          go_ret
          obtain rfl : k = n := by omega
          refine ⟨ret_bool (Tab.may_yes ?_ (by rw [hl.out]; exact hno.out)).symm, hbr⟩
          have := hnc.out
          simp [Tab.headOk, hl.out, hm] at h3 h0 ⊢
          omega
    · go_wp2_with fail
      go_ret
      exact ⟨ret_bool (Tab.may_head _ (by simp at h3; simp [Tab.headOk, h3, hnx])).symm, hw1⟩
  · · have hb16 := (Sch.may_bounds hm).2.2.2.1
      go_wp2_with fail
      go_loopw [61] (fun i wr => ∃ k : Nat, k ≤ n ∧ i = .int .i64 k ∧ Below (w.heap.size + 1) w1 wr ∧ (∀ (i : Nat) (x : Ent), i < k → es[i]? = some x → Tab.elOk ⟨s, es, nx⟩ i x = true)) (fun i _ => n - (intOf i).toNat)
      case atStart => exact ⟨0, Nat.zero_le _, rfl, Below.refl _ _, fun i x h => absurd h (by omega)⟩
      case round =>
        obtain ⟨k, hk, rfl, hb, hno⟩ := hrel
        replace hno := Lib.hid hno
        have hbr := hw1.trans (hb.mono (Nat.le_succ _))
        have hsz := hb.size
        have hsz1 := hb1.size
        simp only [World.size_alloc, World.heap_drewN] at hsz1
        have hszr : w.heap.size < wr.heap.size := by omega
        obtain ⟨hc2, hf2⟩ := bcell hb
        by_cases hlt : k < n
        · obtain ⟨e, ad, A', n', c', he, rfl, hadB, hk0, hk1, hkey, hv⟩ := kEnt.get (hE.below hbr) hlt
          replace he := Lib.hid he
          replace hv := Lib.hid hv.len
          have hkx : (((nx + (4294967296 - es.length) + k) % 4294967296 : Nat) : Int) = ((nx : Int) - n + k) % 4294967296 := by rw [hl.out]; omega
          replace hkx := Lib.hid hkx
          rcases q1 : ((e.key : Int) != ((nx : Int) - n + k) % 4294967296) with _ | _
          case true =>
            go_wp2_with fail
            go_ret
            exact ⟨ret_bool (Tab.may_no _ he.out (Tab.elOk_no (by rintro ⟨_, _, _, r4⟩; simp at h3; have r5 := r4 h3; have := hkx.out; simp only at r5; rw [← r5] at this; simp [this] at q1))).symm, hbr.alloc (by omega) _⟩
          by_cases q2 : (n' : Int) = s.words
          case neg =>
            have q2b : ((n' : Int) != s.words) = true := by simp [q2]
            replace q2 := Lib.hid q2
            go_wp2_with fail
            go_ret
            exact ⟨ret_bool (Tab.may_no _ he.out (Tab.elOk_no (by rintro ⟨r1, _⟩; rw [hv.out] at r1; exact q2.out r1))).symm, hbr.alloc (by omega) _⟩
          have q2b : ((n' : Int) != s.words) = false := by simp [q2]
          replace q2 := Lib.hid q2
          rcases q3 : (fidx e.key es 0 != (k : Int)) with _ | _
          · go_wp2_with (go_at_call 55; refine (find_any _ _ _ _ _ _ es _ w.heap.size (by simp; omega) (by exact hE.below (hbr.alloc (by omega) _))).mono ?_; rintro e1 w2 ⟨rfl, hb2⟩)
            refine ⟨⟨k + 1, by omega, by go_num, (hb.alloc (by omega) _).trans (hb2.mono (by simp; omega)), ?_⟩, by simp [intOf]; omega⟩
            refine allOk_succ (t := ⟨s, es, nx⟩) hno.out he.out ((Tab.elOk_iff _ _ _).2 ⟨by rw [hv.out]; exact q2.out, by simpa using q3, fun q => by simp at h0; exact absurd q h0, fun _ => by have := hkx.out; simp at q1; simp only; omega⟩)
          · go_wp2_with (go_at_call 55; refine (find_any _ _ _ _ _ _ es _ w.heap.size (by simp; omega) (by exact hE.below (hbr.alloc (by omega) _))).mono ?_; rintro e1 w2 ⟨rfl, hb2⟩)
            go_ret
            exact ⟨ret_bool (Tab.may_no _ he.out (Tab.elOk_no (by rintro ⟨_, r2, _⟩; simp [r2] at q3))).symm, (hbr.alloc (by omega) _).trans (hb2.mono (by simp; omega))⟩
        · go_wp2_with fail
          go_ret
          obtain rfl : k = n := by omega
          refine ⟨ret_bool (Tab.may_yes ?_ (by rw [hl.out]; exact hno.out)).symm, hbr⟩
          simp [Tab.headOk, hl.out, hm] at h3 h0 ⊢
          omega
end Go.Proofs.Ytpmnchgpbojppaa
