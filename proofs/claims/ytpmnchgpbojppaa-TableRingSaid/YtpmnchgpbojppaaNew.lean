/- table.New. -/
import Derived.Test.YtpmnchgpbojppaaSet
namespace Go.Proofs.Ytpmnchgpbojppaa
open Go Go.RowKit Go.Proofs.Try

def newEs (k m : Nat) : List Ent := (List.range k).map fun i => ⟨i, List.replicate m 0⟩
theorem newEs_succ (k m : Nat) : newEs (k + 1) m = newEs k m ++ [⟨k, List.replicate m 0⟩] := by simp [newEs, List.range_succ]
theorem newEs_length (k m : Nat) : (newEs k m).length = k := by simp [newEs]
theorem newEs_zero (m : Nat) : newEs 0 m = [] := rfl
def Tab.new (s : Sch) : Tab × Int :=
  if s.may = false then (Tab.zero, 1) else (⟨s, if s.kind = 0 then newEs s.cap.toNat s.words.toNat else [], 0⟩, 0)

/-- The loop's relation. -/
structure NewRel (s : Sch) (b0 b4 m : Nat) (w : World) (k : Nat) (A : Option Addr) (c : Nat) (us : List Value) (wr : World) : Prop where
  own : OwnEs wr (b0 + 1 + 1) (.slice A k c) (newEs k m) us
  box : Blk wr b4 27 #[.int .i64 s.kind, .int .i64 s.cap, .int .i64 s.words, .int .i64 s.ver, .slice A k c, .int .u32 0]
  res : Blk wr (b0 + 1) 27 #[.int .i64 0, .int .i64 0, .int .i64 0, .int .i64 0, .slice none 0 0, .int .u32 0]
  par : Blk wr b0 23 #[.int .i64 s.kind, .int .i64 s.cap, .int .i64 s.words, .int .i64 s.ver]
  below : Below b0 w wr

set_option maxRecDepth 100000 in
set_option maxHeartbeats 4000000 in
theorem new_any (s : Sch) (w : World) :
    Calls prog 24 #[.agg #[.int .i64 s.kind, .int .i64 s.cap, .int .i64 s.words, .int .i64 s.ver]] w fun e w' => ∃ A' n' c' us, e = .returned (.tuple #[tabV (Tab.new s).1.s A' n' c' (Tab.new s).1.next, .int .i64 (Tab.new s).2]) ∧ OwnEs w' w.heap.size (.slice A' n' c') (Tab.new s).1.e us ∧ Below w.heap.size w w' := by
  obtain ⟨T, hT⟩ : ∃ T, T = Tab.new s := ⟨_, rfl⟩
  rw [← hT]
  replace hT := Lib.hid hT
  obtain ⟨W1, hW1, hB1, hS1, hG1, hO1, hP1⟩ := boxedB w _ rfl #[.int .i64 s.kind, .int .i64 s.cap, .int .i64 s.words, .int .i64 s.ver] 23
  obtain ⟨W2, hW2, hB2, hS2, hG2, hO2, hP2⟩ := boxedB W1 _ hS1 #[.int .i64 0, .int .i64 0, .int .i64 0, .int .i64 0, .slice none 0 0, .int .u32 0] 27
  have hC1 := (hG1.below hB2 (Nat.lt_succ_self _)).cell
  have hb2 := hB1.trans (hB2.mono (Nat.le_succ _))
  clear hO1 hP1 hO2 hP2
  go_enter func24, ntmps24
  go_wp2_with fail
  refine (schMay_any _ _ _ _ _).mono ?_
  rintro e1 w3 ⟨rfl, hb3⟩
  rw [hS2] at hb3
  have hs3 := hb3.size
  have hG13 := (hG1.below hB2 (Nat.lt_succ_self _)).below hb3 (by omega)
  have hC13 := hG13.cell
  have hG23 := hG2.below hb3 (by omega)
  have hC23 := hG23.cell
  have hF23 := hG23.frozen
  have hb03 := hb2.trans (hb3.mono (by omega))
  rcases hm : Sch.may ⟨s.kind, s.cap, s.words, s.ver⟩ with _ | _
  · have hTv : T = (Tab.zero, 1) := by
      rw [hT.out]
      unfold Tab.new
      rw [if_pos (by exact hm)]
    replace hTv := Lib.hid hTv
    have hr7 := hG23.setBox [.int .i64 0, .int .i64 0, .int .i64 0, .int .i64 0, .slice none 0 0, .int .u32 0] rfl
    have ho7 := setAll_only (w.heap.size + 1) [.int .i64 0, .int .i64 0, .int .i64 0, .int .i64 0, .slice none 0 0, .int .u32 0] 0 w3
    have hb7 := Only.below hb03 ho7 (by omega) (by omega)
    go_wp2_with fail
    refine bodyPost_ret (results_ct results24 rfl hr7 underlying27 rfl (by kernel_rfl)) rfl ?_
    rw [hTv.out]
    exact ⟨none, 0, 0, [], rfl, OwnEs.nil_ _ _, hb7⟩
  have hsch := Sch.may_bounds hm
  simp only at hsch
  obtain ⟨m, hmw⟩ : ∃ m : Nat, s.words = (m : Int) := ⟨s.words.toNat, by omega⟩
  obtain ⟨cp, hcp⟩ : ∃ cp : Nat, s.cap = (cp : Int) := ⟨s.cap.toNat, by omega⟩
  have hm4 : m ≤ 4 := by omega
  have hc16 : cp ≤ 16 := by omega
  have hTg : T = (⟨s, if s.kind = 0 then newEs cp m else [], 0⟩, 0) := by
    rw [hT.out]
    unfold Tab.new
    rw [if_neg (by rw [show s.may = true from hm]; simp), show s.cap.toNat = cp by omega, show s.words.toNat = m by omega]
  replace hTg := Lib.hid hTg
  have hmk : ∀ W : World, (Instr.makeSlice 36 (.int .i64 s.words) (.int .i64 s.words)).run prog W = .ok (.slice (some ⟨W.heap.size, 0, none⟩) m m) (W.alloc (.cells (madeCells #[.int .u32 0] m) 25)) := by
    intro W
    rw [hmw]
    have := run_makeN (P := prog) 36 25 _ 1 4 underlying36 info_u32 m (by omega) (by omega) W
    rw [Nat.mul_one] at this
    exact this
  obtain ⟨W4, hW4, hB4, hS4, hG4, hO4, hP4⟩ := boxedB w3 _ rfl #[.int .i64 s.kind, .int .i64 s.cap, .int .i64 s.words, .int .i64 s.ver, .slice none 0 0, .int .u32 0] 27
  obtain ⟨W5, hW5, ho5, hs5, hG5, hO5, hP5⟩ := storedB hG4 4 (.slice none 0 0)
  obtain ⟨W6, hW6, ho6, hs6, hG6, hO6, hP6⟩ := storedB hG5 5 (.int .u32 0)
  have hG6 : Blk W6 w3.heap.size 27 #[.int .i64 s.kind, .int .i64 s.cap, .int .i64 s.words, .int .i64 s.ver, .slice none 0 0, .int .u32 0] := hG6
  have hb04 := Only.below (Only.below (hb03.trans (hB4.mono (by omega))) ho5 (by omega) (by omega)) ho6 (by omega) (by omega)
  have hG14 := ((hG13.below hB4 (by omega)).grown ho5 (by simp; omega)).grown ho6 (by simp; omega)
  have hG24 := ((hG23.below hB4 (by omega)).grown ho5 (by simp; omega)).grown ho6 (by simp; omega)
  have hC4 := hG4.cell
  have hF4 := hG4.frozen
  have hC5 := hG5.cell
  have hF5 := hG5.frozen
  have hC6 := hG6.cell
  have hF6 := hG6.frozen
  clear hO5 hP5 hO6 hP6
  replace hmw := Lib.hid hmw
  replace hcp := Lib.hid hcp
  clear hO4 hP4
  rcases hk0 : (s.kind == 0) with _ | _
  · have hTv : T = (⟨s, [], 0⟩, 0) := by
      rw [hTg.out, if_neg (by simpa using hk0)]
    replace hTv := Lib.hid hTv
    have hC14 := hG14.cell
    have hC24 := hG24.cell
    have hF24 := hG24.frozen
    have hr7 := hG24.setBox [.int .i64 s.kind, .int .i64 s.cap, .int .i64 s.words, .int .i64 s.ver, .slice none 0 0, .int .u32 0] rfl
    have ho7 := setAll_only (w.heap.size + 1) [.int .i64 s.kind, .int .i64 s.cap, .int .i64 s.words, .int .i64 s.ver, .slice none 0 0, .int .u32 0] 0 W6
    have hb7 := Only.below hb04 ho7 (by omega) (by omega)
    go_wp2_with fail
    go_loopw [5] (fun i wr => i = .int .i64 0 ∧ wr = W6) (fun i _ => 0)
    case atStart => exact ⟨rfl, rfl⟩
    case round =>
      obtain ⟨rfl, rfl⟩ := hrel
      go_wp2_with fail
      refine bodyPost_ret (results_ct results24 rfl hr7 underlying27 rfl (by kernel_rfl)) rfl ?_
      rw [hTv.out]
      exact ⟨none, 0, 0, [], rfl, OwnEs.nil_ _ _, hb7⟩
  have hTv : T = (⟨s, newEs cp m, 0⟩, 0) := by
    rw [hTg.out, if_pos (by simpa using hk0)]
  replace hTv := Lib.hid hTv
  have hC14 := hG14.cell
  go_wp2_with fail
  go_loopw [5] (fun i wr => ∃ k : Nat, k ≤ cp ∧ i = .int .i64 k ∧ w3.heap.size < wr.heap.size ∧ ∃ A c us, NewRel s w.heap.size w3.heap.size m w k A c us wr) (fun i _ => cp - (intOf i).toNat)
  case atStart =>
    exact ⟨0, Nat.zero_le _, rfl, by omega, none, 0, [], OwnEs.nil_ _ _, hG6, hG24, hG14, hb04⟩
  case round =>
    obtain ⟨k, hk, rfl, hsz, A, c, us, hrel⟩ := hrel
    have hb0r := hrel.below
    have hown := hrel.own
    have hboxr := hrel.box
    have hresr := hrel.res
    have hparr := hrel.par
    have hCb := hboxr.cell
    have hFb := hboxr.frozen
    have hCp := hparr.cell
    have hnl := Lib.hid (newEs_length k m)
    clear hrel
    by_cases hlt : k < cp
    · have hki : (k : Int) < s.cap := by rw [hcp.out]; omega
      have hk32 : IntKind.u32.wrap (k : Int) = (k : Int) := IntWalk.u32_in _ (by omega)
      obtain ⟨W7, hW7, hB7, hS7, hG7, hO7, hP7⟩ := boxedB wr _ rfl (madeCells #[.int .u32 0] m) 25
      obtain ⟨W8, hW8, hB8, hS8, hG8, hO8, hP8⟩ := boxedB W7 _ hS7 #[.int .u32 (k : Int), .slice (some ⟨wr.heap.size, 0, none⟩) m m] 39
      have hB68 := hB7.trans (hB8.mono (Nat.le_succ _))
      have hown8 := hown.below hB68
      have hG78 := hG7.below hB8 (Nat.lt_succ_self _)
      have hs0 : w.heap.size + 1 + 1 ≤ wr.heap.size := by omega
      have hu8 := OwnW.made (base := w.heap.size + 1 + 1) hG78 hs0 (by simp only [maxLen]; omega)
      have hC8 := hG8.cell
      obtain ⟨v9, w9, hrun, hO9, hg9, hat9⟩ := run_appEnt (w := W8.drew) (e := ⟨k, List.replicate m 0⟩) (hown8.below (below_drewN (Below.refl _ _) 1)) ⟨wr.heap.size + 1, 0, none⟩ ((hC8 0).trans rfl) (by rw [add_lit0]; exact (hC8 1).trans rfl)
        (hu8.below (below_drewN (Below.refl _ _) 1)) (show k < 4294967296 by omega) (fun i u' b hu' hb hb' => by
          have hil : i < (newEs k m).length := by rw [← hown.len]; exact (List.getElem?_eq_some_iff.1 hu').1
          have := ((hown.val i _ u' (List.getElem?_eq_getElem hil) hu').1.row.lt b hb').2
          simp only [Value.ownBlock, Option.some.injEq] at hb
          omega) (by rw [hnl.out]; omega) (show w.heap.size + 1 + 1 ≤ W8.heap.size by omega)
      rw [← newEs_succ] at hO9
      have hE9 := hO9.reads
      obtain ⟨A9, c9, rfl, _⟩ := hE9
      have hln : (newEs (k + 1) m).length = k + 1 := newEs_length _ _
      rw [hln] at hrun hO9 hat9
      have hne9 : ∀ {b t cs}, Blk wr b t cs → t ≠ 39 → some b ≠ (Value.slice A k c).ownBlock := fun hb ht he => row_ne_box hown.row hb ht he.symm
      have hG49 : Blk w9 w3.heap.size _ _ := ((hboxr.below hB68 (by omega)).drew).grown hg9 (hne9 hboxr (by decide))
      have hG29 : Blk w9 (w.heap.size + 1) _ _ := ((hresr.below hB68 (by omega)).drew).grown hg9 (hne9 hresr (by decide))
      have hG19 : Blk w9 w.heap.size _ _ := ((hparr.below hB68 (by omega)).drew).grown hg9 (hne9 hparr (by decide))
      have hC49 := hG49.cell
      have hF49 := hG49.frozen
      have hb09 : Below w.heap.size w w9 := (Below.drew (hb0r.trans (hB68.mono (by omega)))).grown hg9 (show w.heap.size ≤ W8.heap.size by omega) (fun b hb => by have := (hown.row.lt b hb).1; omega)
      have hs9 : W8.heap.size ≤ w9.heap.size := hg9.size
      obtain ⟨W10, hW10, ho10, hs10, hG10, hO10, hP10⟩ := storedB hG49 4 (.slice A9 (k + 1) c9)
      have hb010 := Only.below hb09 ho10 (by omega) (by omega)
      have hCbb := (hboxr.below hB68 (by omega)).cell
      have hCba := (hboxr.below hB7 (by omega)).cell
      have hCpb := (hparr.below hB68 (by omega)).cell
      have hCpa := (hparr.below hB7 (by omega)).cell
      have hfin : NewRel s w.heap.size w3.heap.size m w (k + 1) A9 c9 (us ++ [.slice (some ⟨wr.heap.size, 0, none⟩) m m]) W10 :=
        ⟨hO9.box hG49 ho10 (by decide) (by decide), hG10, hG29.grown ho10 (by simp; omega), hG19.grown ho10 (by simp; omega), hb010⟩
      replace hfin := Lib.hid hfin
      clear hO10 hP10 hO7 hP7 hO8 hP8
      go_wp2_with fail
      go_region_law (refine step_runApp rfl _ _ _ _ rfl rfl rfl hrun ?_)
      all_goals
        go_wp2_with fail
        exact ⟨⟨k + 1, by omega, by go_num, by omega, A9, c9, _, hfin.out⟩, by simp [intOf]; omega⟩
    · obtain rfl : k = cp := by omega
      have hki : ¬ (k : Int) < s.cap := by rw [hcp.out]; omega
      have hC2r := hresr.cell
      have hF2r := hresr.frozen
      have hr7 := hresr.setBox [.int .i64 s.kind, .int .i64 s.cap, .int .i64 s.words, .int .i64 s.ver, .slice A k c, .int .u32 0] rfl
      have ho7 := setAll_only (w.heap.size + 1) [.int .i64 s.kind, .int .i64 s.cap, .int .i64 s.words, .int .i64 s.ver, .slice A k c, .int .u32 0] 0 wr
      have hb7 := Only.below hb0r ho7 (by omega) (by omega)
      have hO7 := (hown.far ho7 (by omega)).mono (show w.heap.size ≤ w.heap.size + 1 + 1 by omega)
      go_wp2_with fail
      refine bodyPost_ret (results_ct results24 rfl hr7 underlying27 rfl (by kernel_rfl)) rfl ?_
      rw [hTv.out]
      exact ⟨A, k, c, rfl, ⟨us, hO7⟩, hb7⟩
end Go.Proofs.Ytpmnchgpbojppaa
