/- drydocklaw05.TableBack walked. -/
import Derived.Test.YtpmnchgpbojppaaAwake
import Derived.Test.YtpmnchgpbojppaaBack
namespace Go.Proofs.Ytpmnchgpbojppaa
open Go Go.RowKit Go.Proofs.Try

theorem may_fits {t : Tab} (h : t.may = true) : fits t.e := by
  have hb := Sch.may_bounds (Tab.may_sch h)
  have hl := Tab.may_len h
  refine fits_small (by omega) fun e he => ?_
  obtain ⟨i, hi⟩ := List.mem_iff_getElem?.1 he
  have := ((t.elOk_iff i e).1 ((t.may_iff.1 h).2 i e hi)).1
  omega
theorem small_fits {t : Tab} (h : t.small = true) : fits t.e := by
  have := t.small_iff.1 h
  exact fits_small this.1 this.2

set_option maxRecDepth 100000 in
set_option maxHeartbeats 4000000 in
theorem tableBack_any (s : Sch) (A : Option Addr) (n c nx key f x other place : Nat) (es : List Ent) (w : World) (hs : s.Ok) (hx : nx < 4294967296) (hf : f < 4294967296) (hk : key < 4294967296) (hxx : x < 4294967296) (_ho : other < 4294967296) (hpl : place < 4294967296) (hE : kEnt.At w w.heap.size A n c es) :
    Calls prog 3 #[tabV s A n c nx, .int .u32 (key : Int), .int .u32 (f : Int), .int .u32 (x : Int), .int .u32 (other : Int), .int .u32 (place : Int)] w fun e w' => e = .returned (.bool true) ∧ Below w.heap.size w w' := by
  have hl := Lib.hid hE.len
  unfold tabV
  obtain ⟨W1, hW1, hB1, hS1, hG1, hO1, hP1⟩ := boxedB w _ rfl #[.int .i64 s.kind, .int .i64 s.cap, .int .i64 s.words, .int .i64 s.ver, .slice A n c, .int .u32 (nx : Int)] 27
  have hC1 := hG1.cell
  clear hO1 hP1
  go_enter func3, ntmps3
  go_wp2_with fail
  refine (awake5_any _).mono ?_
  rintro e1 w2 ⟨rfl, hb2⟩
  have hs2 := hb2.size
  have hG2 := hG1.below hb2 (by omega)
  have hC2 := hG2.cell
  have hb02 := hB1.trans (hb2.mono (by omega))
  have hE2 := (hE.below hb02).mono (B' := w2.heap.size) (by omega)
  go_wp2_with fail
  refine (few1_any s A n c nx es _ hs hx hE2).mono ?_
  rintro e1 w3 ⟨rfl, hb3⟩
  have hs3 := hb3.size
  have hG3 := hG2.below hb3 (by omega)
  have hC3 := hG3.cell
  have hb03 := hb02.trans (hb3.mono (by omega))
  have hE3 := (hE2.below hb3).mono (B' := w3.heap.size) (by omega)
  rcases hsm : Tab.small ⟨s, es, nx⟩ with _ | _
  · go_wp2_with fail
    go_ret
    exact ⟨rfl, hb03⟩
  have hfit := small_fits hsm
  have hn20 : n ≤ 20 := by rw [← hl.out]; exact (Tab.small_iff _).1 hsm |>.1
  go_wp2_with fail
  refine (set_any s A n c nx key f x es _ hx hf hk hxx hfit hE3).mono ?_
  obtain ⟨T, hT⟩ : ∃ T, T = Tab.set ⟨s, es, nx⟩ key f x := ⟨_, rfl⟩
  rw [← hT]
  replace hT := Lib.hid hT
  rintro e1 w4 ⟨A4, n4, c4, us4, rfl, hO4, hb4⟩
  have hs4 := hb4.size
  have hG4 := hG3.below hb4 (by omega)
  have hb04 := hb03.trans (hb4.mono (by omega))
  have hE4 := (hE3.below hb4).mono (B' := w4.heap.size) (by omega)
  unfold tabV
  by_cases hT2 : T.2 = 0
  case neg =>
    have hnil : T.1.e = [] := by rw [hT.out] at hT2 ⊢; exact set_err hT2
    have hn4 := hO4.at_.len
    rw [hnil] at hn4
    obtain rfl : n4 = 0 := hn4.symm
    have hTb : (T.2 != 0) = true := by simpa using hT2
    obtain ⟨W5, hW5, hB5, hS5, hG5, hx5, hy5⟩ := boxedB w4 _ rfl #[.int .i64 T.1.s.kind, .int .i64 T.1.s.cap, .int .i64 T.1.s.words, .int .i64 T.1.s.ver, .slice A4 0 c4, .int .u32 (T.1.next : Int)] 27
    have hC5 := hG5.cell
    clear hx5 hy5 hT2
    go_wp2_with fail
    go_ret
    exact ⟨rfl, hb04.trans (hB5.mono (by omega))⟩
  have hT2' := hT2
  rw [hT.out] at hT2'
  obtain ⟨hmT, hcT, hlT, hkT, hsT⟩ := set_may hT2'
  obtain ⟨hkd, _, hnT, _⟩ := set_ok hT2'
  have hgot := back_got hT2'
  have hsame := fun (had : (Tab.get ⟨s, es, nx⟩ key place).2.2 = true) => back_same (place := place) hT2' had
  have hoth := fun (hne : other ≠ key) => back_other (place := place) hT2' hne
  rw [← hT.out] at hmT hcT hlT hsT hnT hgot hsame hoth
  obtain ⟨es4, hes4⟩ : ∃ es4, T = (⟨s, es4, nx⟩, 0) := by
    refine ⟨T.1.e, ?_⟩
    simp only at hsT hnT
    rw [← hsT, ← hnT, ← hT2]
  clear hT
  subst hes4
  simp only at hmT hcT hlT hgot hsame hoth hO4
  clear hT2 hT2' hkT hsT hnT
  have hl4 := Lib.hid hO4.at_.len
  have hfit4 := may_fits hmT
  rw [hl4.out] at hcT hlT
  rw [hl.out] at hlT
  have hcT' : ¬ s.cap < (n4 : Int) := by omega
  have hlT' : ¬ (n : Int) + 1 < (n4 : Int) := by omega
  obtain ⟨W5, hW5, hB5, hS5, hG5, hx5, hy5⟩ := boxedB w4 _ rfl #[.int .i64 s.kind, .int .i64 s.cap, .int .i64 s.words, .int .i64 s.ver, .slice A4 n4 c4, .int .u32 (nx : Int)] 27
  have hC5 := hG5.cell
  have hG45 := hG4.below hB5 (by omega)
  clear hx5 hy5
  have hb05 := hb04.trans (hB5.mono (by omega))
  have hO5 := hO4.below hB5
  have hE5 := (hE4.below hB5).mono (B' := W5.heap.size) (by omega)
  have hsame := Lib.hid hsame
  have hoth := Lib.hid hoth
  go_wp2_with fail
  refine (get_any s A4 n4 c4 nx key f es4 _ hx hf hfit4 hO5.at_).mono ?_
  rintro e1 w6 ⟨A6, c6, us6, rfl, hO6, hb6⟩
  rw [hgot]
  have hs6 := hb6.size
  unfold tabV
  obtain ⟨W6, hW6, hB6, hS6, hG6, hx6, hy6⟩ := boxedB w6 _ rfl #[.int .i64 s.kind, .int .i64 s.cap, .int .i64 s.words, .int .i64 s.ver, .slice A6 n4 c6, .int .u32 (nx : Int)] 27
  clear hx6 hy6
  have hG56 := (hG5.below hb6 (by omega)).below hB6 (by omega)
  have hC56 := hG56.cell
  have hG46 := (hG45.below hb6 (by omega)).below hB6 (by omega)
  have hC46 := hG46.cell
  have hb06 := (hb05.trans (hb6.mono (by omega))).trans (hB6.mono (by omega))
  have hT6 := ((hO5.below hb6).below hB6)
  have hE6 := (hE.below hb06).mono (B' := W6.heap.size) (by omega)
  go_wp2_with fail
  refine (tabMay_any s A4 n4 c4 nx es4 _ hx hT6.at_).mono ?_
  rintro e1 w7 ⟨rfl, hb7⟩
  rw [hmT]
  have hs7 := hb7.size
  have hG57 := hG56.below hb7 (by omega)
  have hC57 := hG57.cell
  have hG47 := hG46.below hb7 (by omega)
  have hC47 := hG47.cell
  have hb07 := hb06.trans (hb7.mono (by omega))
  have hT7 := hT6.below hb7
  have hE7 := (hE.below hb07).mono (B' := w7.heap.size) (by omega)
  go_wp2_with fail
  refine (get_any s A4 n4 c4 nx other place es4 _ hx hpl hfit4 hT7.at_).mono ?_
  rintro e1 w8 ⟨A8, c8, us8, rfl, hO8, hb8⟩
  have hs8 := hb8.size
  unfold tabV
  obtain ⟨W8, hW8, hB8, hS8, hG8, hx8, hy8⟩ := boxedB w8 _ rfl #[.int .i64 s.kind, .int .i64 s.cap, .int .i64 s.words, .int .i64 s.ver, .slice A8 n4 c8, .int .u32 (nx : Int)] 27
  clear hx8 hy8
  have hG48 := (hG47.below hb8 (by omega)).below hB8 (by omega)
  have hC48 := hG48.cell
  have hb08 := (hb07.trans (hb8.mono (by omega))).trans (hB8.mono (by omega))
  have hE8 := (hE.below hb08).mono (B' := W8.heap.size) (by omega)
  go_wp2_with fail
  refine (get_any s A n c nx other place es _ hx hpl hfit hE8).mono ?_
  rintro e1 w9 ⟨A9, c9, us9, rfl, hO9, hb9⟩
  have hs9 := hb9.size
  unfold tabV
  obtain ⟨W9, hW9, hB9, hS9, hG9, hx9, hy9⟩ := boxedB w9 _ rfl #[.int .i64 s.kind, .int .i64 s.cap, .int .i64 s.words, .int .i64 s.ver, .slice A9 n c9, .int .u32 (nx : Int)] 27
  clear hx9 hy9
  have hG49 := (hG48.below hb9 (by omega)).below hB9 (by omega)
  have hC49 := hG49.cell
  have hb09 := (hb08.trans (hb9.mono (by omega))).trans (hB9.mono (by omega))
  obtain ⟨⟨y, has⟩, hy⟩ : ∃ p, (Tab.get ⟨s, es4, nx⟩ other place).2 = p := ⟨_, rfl⟩
  obtain ⟨⟨z, had⟩, hz⟩ : ∃ p, (Tab.get ⟨s, es, nx⟩ other place).2 = p := ⟨_, rfl⟩
  rw [hy, hz]
  by_cases hok : other = key
  · have hoi : ((other : Int) == (key : Int)) = true := by simp [hok]
    subst hok
    cases had with
    | false =>
      clear hsame hoth hcT hlT
      go_wp2_with fail
      go_ret
      exact ⟨rfl, hb09⟩
    | true =>
      have h1 := hsame.out (by rw [hz])
      rw [hy, hz] at h1
      simp only at h1
      obtain ⟨rfl, h1⟩ := h1
      clear hsame hoth hcT hlT
      by_cases hpf : place = f
      · have hpi : ((place : Int) == (f : Int)) = true := by simp [hpf]
        clear h1
        go_wp2_with fail
        go_ret
        exact ⟨rfl, hb09⟩
      · have hpi : ((place : Int) == (f : Int)) = false := by simp; omega
        obtain rfl : y = z := h1.resolve_left hpf
        go_wp2_with fail
        go_ret
        exact ⟨rfl, hb09⟩
  · have hoi : ((other : Int) == (key : Int)) = false := by simp; omega
    have h1 := hoth.out hok
    rw [hy, hz] at h1
    simp only [Prod.mk.injEq] at h1
    clear hsame hoth hcT hlT
    rcases h1 with ⟨rfl, rfl⟩ | ⟨rfl, rfl, h2, h3⟩
    · rcases hk2 : (s.kind == 2) with _ | _ <;> rcases hfc : ((n : Int) == s.cap) with _ | _ <;> cases has
      all_goals
        go_wp2_with fail
        go_ret
        exact ⟨rfl, hb09⟩
    · have hk2 : (s.kind == 2) = true := by simp [h2]
      have hfc : ((n : Int) == s.cap) = true := by rw [← hl.out]; simp [h3]
      clear h2 h3
      go_wp2_with fail
      go_ret
      exact ⟨rfl, hb09⟩
end Go.Proofs.Ytpmnchgpbojppaa
