/- drydocklaw05.TableDel walked. -/
import Derived.Test.YtpmnchgpbojppaaBackW
import Derived.Test.YtpmnchgpbojppaaDelP
import Derived.Test.YtpmnchgpbojppaaSame2
namespace Go.Proofs.Ytpmnchgpbojppaa
open Go Go.RowKit Go.Proofs.Try

set_option maxRecDepth 100000 in
set_option maxHeartbeats 4000000 in
theorem tableDel_any (s : Sch) (A : Option Addr) (n c nx key other : Nat) (es : List Ent) (w : World) (hs : s.Ok) (hx : nx < 4294967296) (_hk : key < 4294967296) (_ho : other < 4294967296) (hE : kEnt.At w w.heap.size A n c es) :
    Calls prog 10 #[tabV s A n c nx, .int .u32 (key : Int), .int .u32 (other : Int)] w fun e w' => e = .returned (.bool true) ∧ Below w.heap.size w w' := by
  have hl := Lib.hid hE.len
  unfold tabV
  obtain ⟨W1, hW1, hB1, hS1, hG1, hO1, hP1⟩ := boxedB w _ rfl #[.int .i64 s.kind, .int .i64 s.cap, .int .i64 s.words, .int .i64 s.ver, .slice A n c, .int .u32 (nx : Int)] 27
  have hC1 := hG1.cell
  clear hO1 hP1
  go_enter func10, ntmps10
  go_wp2_with fail
  refine (awake5_any _).mono ?_
  rintro e1 w2 ⟨rfl, hb2⟩
  have hs2 := hb2.size
  have hG2 := hG1.below hb2 (by omega)
  have hC2 := hG2.cell
  have hb02 := hB1.trans (hb2.mono (by omega))
  have hE2 := (hE.below hb02).mono (B' := w2.heap.size) (by omega)
  go_wp2_with fail
  refine (few1_any s A n c nx es _ hs hx hE2).mono ?_
  rintro e1 w3 ⟨rfl, hb3⟩
  have hs3 := hb3.size
  have hG3 := hG2.below hb3 (by omega)
  have hC3 := hG3.cell
  have hb03 := hb02.trans (hb3.mono (by omega))
  have hE3 := (hE.below hb03).mono (B' := w3.heap.size) (by omega)
  rcases hsm : Tab.small ⟨s, es, nx⟩ with _ | _
  · go_wp2_with fail
    go_ret
    exact ⟨rfl, hb03⟩
  have hfit := small_fits hsm
  go_wp2_with fail
  refine (tabMay_any s A n c nx es _ hx hE3).mono ?_
  rintro e1 w4 ⟨rfl, hb4⟩
  have hs4 := hb4.size
  have hG4 := hG3.below hb4 (by omega)
  have hC4 := hG4.cell
  have hb04 := hb03.trans (hb4.mono (by omega))
  have hE4 := (hE.below hb04).mono (B' := w4.heap.size) (by omega)
  rcases hm : Tab.may ⟨s, es, nx⟩ with _ | _
  · go_wp2_with fail
    go_ret
    exact ⟨rfl, hb04⟩
  obtain ⟨hda, hdn, hd2, hdm, hd0, hdg, hdo⟩ := del_ok (key := key) hm
  have hhg : (Tab.get ⟨s, es, nx⟩ key 0).2.2 = Tab.has ⟨s, es, nx⟩ key 0 := has_get
  go_wp2_with fail
  refine (del_any s A n c nx key es _ hx hfit hE4).mono ?_
  obtain ⟨es5, ok, hD⟩ : ∃ es5 ok, Tab.del ⟨s, es, nx⟩ key = (⟨s, es5, nx⟩, ok) := by
    refine ⟨(Tab.del ⟨s, es, nx⟩ key).1.e, (Tab.del ⟨s, es, nx⟩ key).2, ?_⟩
    have a : (Tab.del ⟨s, es, nx⟩ key).1.s = s := hda
    have b : (Tab.del ⟨s, es, nx⟩ key).1.next = nx := hdn
    generalize Tab.del ⟨s, es, nx⟩ key = G at a b
    obtain ⟨⟨s', es', nx'⟩, i'⟩ := G
    simp only at a b
    subst a
    subst b
    rfl
  rw [hD] at hd2 hdm hd0 hdg hdo ⊢
  clear hda hdn
  replace hd2 : ok = Tab.has ⟨s, es, nx⟩ key 0 := hd2
  rw [← hd2] at hd0 hdg hhg
  simp only at hdm hdg hdo
  replace hd0 := Lib.hid hd0
  replace hdo := Lib.hid hdo
  replace hd2 := Lib.hid hd2
  rintro e1 w5 ⟨A5, n5, c5, us5, rfl, hO5, hb5⟩
  have hs5 := hb5.size
  unfold tabV
  simp only at hO5
  have hfit5 := may_fits hdm
  obtain ⟨W5, hW5, hB5, hS5, hG5, hx5, hy5⟩ := boxedB w5 _ rfl #[.int .i64 s.kind, .int .i64 s.cap, .int .i64 s.words, .int .i64 s.ver, .slice A5 n5 c5, .int .u32 (nx : Int)] 27
  have hC5 := hG5.cell
  have hG45 := (hG4.below hb5 (by omega)).below hB5 (by omega)
  have hC45 := hG45.cell
  clear hx5 hy5
  have hb05 := (hb04.trans (hb5.mono (by omega))).trans (hB5.mono (by omega))
  have hP5 := hO5.below hB5
  have hGd5 := hG5
  have hGt5 := hG45
  go_wp2_with fail
  refine (get_any s A5 n5 c5 nx key 0 es5 _ hx (by omega) hfit5 hP5.at_).mono ?_
  rw [hdg]
  rintro e1 w6 ⟨A6, c6, us6, rfl, hO6, hb6⟩
  have hs6 := hb6.size
  unfold tabV
  obtain ⟨W6, hW6, hB6, hS6, hG6, hx6, hy6⟩ := boxedB w6 _ rfl #[.int .i64 s.kind, .int .i64 s.cap, .int .i64 s.words, .int .i64 s.ver, .slice A6 n5 c6, .int .u32 (nx : Int)] 27
  clear hx6 hy6
  have hGd6 := (hGd5.below hb6 (by omega)).below hB6 (by omega)
  have hCd6 := hGd6.cell
  have hGt6 := (hGt5.below hb6 (by omega)).below hB6 (by omega)
  have hCt6 := hGt6.cell
  have hb06 := (hb05.trans (hb6.mono (by omega))).trans (hB6.mono (by omega))
  have hP6 := (hP5.below hb6).below hB6
  go_wp2_with fail
  refine (get_any s A n c nx key 0 es _ hx (by omega) hfit ((hE.below hb06).mono (by omega))).mono ?_
  rw [hhg]
  rintro e1 w7 ⟨A7, c7, us7, rfl, hO7, hb7⟩
  have hs7 := hb7.size
  unfold tabV
  obtain ⟨W7, hW7, hB7, hS7, hG7, hx7, hy7⟩ := boxedB w7 _ rfl #[.int .i64 s.kind, .int .i64 s.cap, .int .i64 s.words, .int .i64 s.ver, .slice A7 n c7, .int .u32 (nx : Int)] 27
  clear hx7 hy7
  have hGd7 := (hGd6.below hb7 (by omega)).below hB7 (by omega)
  have hCd7 := hGd7.cell
  have hGt7 := (hGt6.below hb7 (by omega)).below hB7 (by omega)
  have hCt7 := hGt7.cell
  have hb07 := (hb06.trans (hb7.mono (by omega))).trans (hB7.mono (by omega))
  have hP7 := (hP6.below hb7).below hB7
  go_wp2_with fail
  refine (tabMay_any s A5 n5 c5 nx es5 _ hx hP7.at_).mono ?_
  rintro e1 w8 ⟨rfl, hb8⟩
  rw [hdm]
  have hs8 := hb8.size
  have hGd8 := hGd7.below hb8 (by omega)
  have hCd8 := hGd8.cell
  have hGt8 := hGt7.below hb8 (by omega)
  have hCt8 := hGt8.cell
  have hb08 := hb07.trans (hb8.mono (by omega))
  have hP8 := hP7.below hb8
  cases ok with
  | false =>
    have h0 := hd0.out rfl
    simp only [Prod.mk.injEq, Tab.mk.injEq, true_and, and_true] at h0
    replace h0 := Lib.hid h0
    go_wp2_with fail
    refine (tabSame_any s s A5 A n5 n c5 c nx nx es5 es _ hP8.at_ ((hE.below hb08).mono (by omega))).mono ?_
    rintro e1 w9 ⟨rfl, hb9⟩
    rw [h0.out, sameB_self]
    have hs9 := hb9.size
    have hGd9 := hGd8.below hb9 (by omega)
    have hCd9 := hGd9.cell
    have hGt9 := hGt8.below hb9 (by omega)
    have hCt9 := hGt9.cell
    have hb09 := hb08.trans (hb9.mono (by omega))
    have hP9 := hP8.below hb9
    go_wp2_with fail
    refine (get_any s A5 n5 c5 nx other 0 es5 _ hx (by omega) hfit5 hP9.at_).mono ?_
    obtain ⟨y, has, hy⟩ : ∃ y has, (Tab.get ⟨s, es5, nx⟩ other 0).2 = (y, has) := ⟨_, _, rfl⟩
    rw [hy]
    rintro e1 w10 ⟨A10, c10, us10, rfl, hO10, hb10⟩
    have hs10 := hb10.size
    unfold tabV
    obtain ⟨W10, hW10, hB10, hS10, hG10, hx10, hy10⟩ := boxedB w10 _ rfl #[.int .i64 s.kind, .int .i64 s.cap, .int .i64 s.words, .int .i64 s.ver, .slice A10 n5 c10, .int .u32 (nx : Int)] 27
    clear hx10 hy10
    have hGd10 := (hGd9.below hb10 (by omega)).below hB10 (by omega)
    have hCd10 := hGd10.cell
    have hGt10 := (hGt9.below hb10 (by omega)).below hB10 (by omega)
    have hCt10 := hGt10.cell
    have hb010 := (hb09.trans (hb10.mono (by omega))).trans (hB10.mono (by omega))
    have hP10 := (hP9.below hb10).below hB10
    go_wp2_with fail
    refine (get_any s A n c nx other 0 es _ hx (by omega) hfit ((hE.below hb010).mono (by omega))).mono ?_
    rintro e1 w11 ⟨A11, c11, us11, rfl, hO11, hb11⟩
    have hs11 := hb11.size
    unfold tabV
    obtain ⟨W11, hW11, hB11, hS11, hG11, hx11, hy11⟩ := boxedB w11 _ rfl #[.int .i64 s.kind, .int .i64 s.cap, .int .i64 s.words, .int .i64 s.ver, .slice A11 n c11, .int .u32 (nx : Int)] 27
    clear hx11 hy11
    have hGd11 := (hGd10.below hb11 (by omega)).below hB11 (by omega)
    have hCd11 := hGd11.cell
    have hGt11 := (hGt10.below hb11 (by omega)).below hB11 (by omega)
    have hCt11 := hGt11.cell
    have hb011 := (hb010.trans (hb11.mono (by omega))).trans (hB11.mono (by omega))
    have hP11 := (hP10.below hb11).below hB11
    by_cases hok : other = key
    · have hoi : ((other : Int) == (key : Int)) = true := by simp [hok]
      go_wp2_with fail
      go_ret
      exact ⟨rfl, hb011⟩
    · have hoi : ((other : Int) == (key : Int)) = false := by simp; omega
      have h1 := hdo.out other hok
      rw [← h1, hy]
      cases has
      all_goals
        go_wp2_with fail
        go_ret
        exact ⟨rfl, hb011⟩
  | true =>
    rcases hk0 : decide (s.kind = 0) with _ | _
    · have hk0' : (s.kind == 0) = false := by simpa using hk0
      go_wp2_with fail
      refine (get_any s A5 n5 c5 nx other 0 es5 _ hx (by omega) hfit5 hP8.at_).mono ?_
      obtain ⟨y, has, hy⟩ : ∃ y has, (Tab.get ⟨s, es5, nx⟩ other 0).2 = (y, has) := ⟨_, _, rfl⟩
      rw [hy]
      rintro e1 w9 ⟨A9, c9, us9, rfl, hO9, hb9⟩
      have hs9 := hb9.size
      unfold tabV
      obtain ⟨W9, hW9, hB9, hS9, hG9, hx9, hy9⟩ := boxedB w9 _ rfl #[.int .i64 s.kind, .int .i64 s.cap, .int .i64 s.words, .int .i64 s.ver, .slice A9 n5 c9, .int .u32 (nx : Int)] 27
      clear hx9 hy9
      have hGd9 := (hGd8.below hb9 (by omega)).below hB9 (by omega)
      have hCd9 := hGd9.cell
      have hGt9 := (hGt8.below hb9 (by omega)).below hB9 (by omega)
      have hCt9 := hGt9.cell
      have hb09 := (hb08.trans (hb9.mono (by omega))).trans (hB9.mono (by omega))
      have hP9 := (hP8.below hb9).below hB9
      go_wp2_with fail
      refine (get_any s A n c nx other 0 es _ hx (by omega) hfit ((hE.below hb09).mono (by omega))).mono ?_
      rintro e1 w10 ⟨A10, c10, us10, rfl, hO10, hb10⟩
      have hs10 := hb10.size
      unfold tabV
      obtain ⟨W10, hW10, hB10, hS10, hG10, hx10, hy10⟩ := boxedB w10 _ rfl #[.int .i64 s.kind, .int .i64 s.cap, .int .i64 s.words, .int .i64 s.ver, .slice A10 n c10, .int .u32 (nx : Int)] 27
      clear hx10 hy10
      have hGd10 := (hGd9.below hb10 (by omega)).below hB10 (by omega)
      have hCd10 := hGd10.cell
      have hGt10 := (hGt9.below hb10 (by omega)).below hB10 (by omega)
      have hCt10 := hGt10.cell
      have hb010 := (hb09.trans (hb10.mono (by omega))).trans (hB10.mono (by omega))
      have hP10 := (hP9.below hb10).below hB10
      by_cases hok : other = key
      · have hoi : ((other : Int) == (key : Int)) = true := by simp [hok]
        go_wp2_with fail
        go_ret
        exact ⟨rfl, hb010⟩
      · have hoi : ((other : Int) == (key : Int)) = false := by simp; omega
        have h1 := hdo.out other hok
        rw [← h1, hy]
        cases has
        all_goals
          go_wp2_with fail
          go_ret
          exact ⟨rfl, hb010⟩
    · have hk0' : (s.kind == 0) = true := by simpa using hk0
      go_wp2_with fail
      refine (get_any s A5 n5 c5 nx other 0 es5 _ hx (by omega) hfit5 hP8.at_).mono ?_
      obtain ⟨y, has, hy⟩ : ∃ y has, (Tab.get ⟨s, es5, nx⟩ other 0).2 = (y, has) := ⟨_, _, rfl⟩
      rw [hy]
      rintro e1 w9 ⟨A9, c9, us9, rfl, hO9, hb9⟩
      have hs9 := hb9.size
      unfold tabV
      obtain ⟨W9, hW9, hB9, hS9, hG9, hx9, hy9⟩ := boxedB w9 _ rfl #[.int .i64 s.kind, .int .i64 s.cap, .int .i64 s.words, .int .i64 s.ver, .slice A9 n5 c9, .int .u32 (nx : Int)] 27
      clear hx9 hy9
      have hGd9 := (hGd8.below hb9 (by omega)).below hB9 (by omega)
      have hCd9 := hGd9.cell
      have hGt9 := (hGt8.below hb9 (by omega)).below hB9 (by omega)
      have hCt9 := hGt9.cell
      have hb09 := (hb08.trans (hb9.mono (by omega))).trans (hB9.mono (by omega))
      have hP9 := (hP8.below hb9).below hB9
      go_wp2_with fail
      refine (get_any s A n c nx other 0 es _ hx (by omega) hfit ((hE.below hb09).mono (by omega))).mono ?_
      rintro e1 w10 ⟨A10, c10, us10, rfl, hO10, hb10⟩
      have hs10 := hb10.size
      unfold tabV
      obtain ⟨W10, hW10, hB10, hS10, hG10, hx10, hy10⟩ := boxedB w10 _ rfl #[.int .i64 s.kind, .int .i64 s.cap, .int .i64 s.words, .int .i64 s.ver, .slice A10 n c10, .int .u32 (nx : Int)] 27
      clear hx10 hy10
      have hGd10 := (hGd9.below hb10 (by omega)).below hB10 (by omega)
      have hCd10 := hGd10.cell
      have hGt10 := (hGt9.below hb10 (by omega)).below hB10 (by omega)
      have hCt10 := hGt10.cell
      have hb010 := (hb09.trans (hb10.mono (by omega))).trans (hB10.mono (by omega))
      have hP10 := (hP9.below hb10).below hB10
      by_cases hok : other = key
      · have hoi : ((other : Int) == (key : Int)) = true := by simp [hok]
        go_wp2_with fail
        go_ret
        exact ⟨rfl, hb010⟩
      · have hoi : ((other : Int) == (key : Int)) = false := by simp; omega
        have h1 := hdo.out other hok
        rw [← h1, hy]
        cases has
        all_goals
          go_wp2_with fail
          go_ret
          exact ⟨rfl, hb010⟩
end Go.Proofs.Ytpmnchgpbojppaa
