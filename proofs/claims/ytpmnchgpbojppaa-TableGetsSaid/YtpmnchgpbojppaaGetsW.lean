/- drydocklaw05.TableGets walked. -/
import Derived.Test.YtpmnchgpbojppaaBackW
import Derived.Test.YtpmnchgpbojppaaGets
import Derived.Test.YtpmnchgpbojppaaSame
namespace Go.Proofs.Ytpmnchgpbojppaa
open Go Go.RowKit Go.Proofs.Try

set_option maxRecDepth 100000 in
set_option maxHeartbeats 4000000 in
theorem tableGets_any (s : Sch) (A : Option Addr) (n c nx key f : Nat) (es : List Ent) (w : World) (hs : s.Ok) (hx : nx < 4294967296) (hf : f < 4294967296) (_hk : key < 4294967296) (hE : kEnt.At w w.heap.size A n c es) :
    Calls prog 5 #[tabV s A n c nx, .int .u32 (key : Int), .int .u32 (f : Int)] w fun e w' => e = .returned (.bool true) ∧ Below w.heap.size w w' := by
  have hl := Lib.hid hE.len
  unfold tabV
  obtain ⟨W1, hW1, hB1, hS1, hG1, hO1, hP1⟩ := boxedB w _ rfl #[.int .i64 s.kind, .int .i64 s.cap, .int .i64 s.words, .int .i64 s.ver, .slice A n c, .int .u32 (nx : Int)] 27
  have hC1 := hG1.cell
  clear hO1 hP1
  go_enter func5, ntmps5
  go_wp2_with fail
  refine (awake5_any _).mono ?_
  rintro e1 w2 ⟨rfl, hb2⟩
  have hs2 := hb2.size
  have hG2 := hG1.below hb2 (by omega)
  have hC2 := hG2.cell
  have hb02 := hB1.trans (hb2.mono (by omega))
  have hE2 := (hE.below hb02).mono (B' := w2.heap.size) (by omega)
  go_wp2_with fail
  refine (few1_any s A n c nx es _ hs hx hE2).mono ?_
  rintro e1 w3 ⟨rfl, hb3⟩
  have hs3 := hb3.size
  have hG3 := hG2.below hb3 (by omega)
  have hC3 := hG3.cell
  have hb03 := hb02.trans (hb3.mono (by omega))
  have hE3 := (hE.below hb03).mono (B' := w3.heap.size) (by omega)
  rcases hsm : Tab.small ⟨s, es, nx⟩ with _ | _
  · go_wp2_with fail
    go_ret
    exact ⟨rfl, hb03⟩
  have hfit := small_fits hsm
  go_wp2_with fail
  refine (tabMay_any s A n c nx es _ hx hE3).mono ?_
  rintro e1 w4 ⟨rfl, hb4⟩
  have hs4 := hb4.size
  have hG4 := hG3.below hb4 (by omega)
  have hC4 := hG4.cell
  have hb04 := hb03.trans (hb4.mono (by omega))
  have hE4 := (hE.below hb04).mono (B' := w4.heap.size) (by omega)
  rcases hm : Tab.may ⟨s, es, nx⟩ with _ | _
  · go_wp2_with fail
    go_ret
    exact ⟨rfl, hb04⟩
  have hsch := Sch.may_bounds (Tab.may_sch hm)
  simp only at hsch
  have hlc := Tab.may_len hm
  simp only [hl.out] at hlc
  have hn16 : n ≤ 16 := by omega
  obtain ⟨hga, hgn, hgl, hgm, hgg, hgh, hg0, hgk, hg2⟩ := gets_ok (key := key) (f := f) hm
  go_wp2_with fail
  refine (get_any s A n c nx key f es _ hx hf hfit hE4).mono ?_
  obtain ⟨es5, v, is, hG⟩ : ∃ es5 v is, Tab.get ⟨s, es, nx⟩ key f = (⟨s, es5, nx⟩, v, is) := by
    refine ⟨(Tab.get ⟨s, es, nx⟩ key f).1.e, (Tab.get ⟨s, es, nx⟩ key f).2.1, (Tab.get ⟨s, es, nx⟩ key f).2.2, ?_⟩
    have a : (Tab.get ⟨s, es, nx⟩ key f).1.s = s := hga
    have b : (Tab.get ⟨s, es, nx⟩ key f).1.next = nx := hgn
    generalize Tab.get ⟨s, es, nx⟩ key f = G at a b
    obtain ⟨⟨s', es', nx'⟩, v', i'⟩ := G
    simp only at a b
    subst a
    subst b
    rfl
  rw [hG] at hgl hgm hgg hgh hg0 hgk hg2 ⊢
  clear hga hgn
  simp only at hgl hgm hgg hgh hgk hg2
  rintro e1 w5 ⟨A5, c5, us5, rfl, hO5, hb5⟩
  have hs5 := hb5.size
  unfold tabV
  simp only at hO5
  obtain ⟨W5, hW5, hB5, hS5, hG5, hx5, hy5⟩ := boxedB w5 _ rfl #[.int .i64 s.kind, .int .i64 s.cap, .int .i64 s.words, .int .i64 s.ver, .slice A5 n c5, .int .u32 (nx : Int)] 27
  have hC5 := hG5.cell
  have hG45 := (hG4.below hb5 (by omega)).below hB5 (by omega)
  have hC45 := hG45.cell
  clear hx5 hy5
  have hb05 := (hb04.trans (hb5.mono (by omega))).trans (hB5.mono (by omega))
  have hO5' := hO5.below hB5
  have hfit5 := may_fits hgm
  have hgl' := Lib.hid hgl
  have hgh' := Lib.hid hgh
  have hg0' := Lib.hid hg0
  have hgk' := Lib.hid hgk
  have hg2' := Lib.hid hg2
  clear hgl hgh hg0 hgk hg2
  go_wp2_with fail
  refine (get_any s A5 n c5 nx key f es5 _ hx hf hfit5 hO5'.at_).mono ?_
  rw [hgg]
  rintro e1 w6 ⟨A6, c6, us6, rfl, hO6, hb6⟩
  have hs6 := hb6.size
  unfold tabV
  simp only at hO6
  obtain ⟨W6, hW6, hB6, hS6, hG6, hx6, hy6⟩ := boxedB w6 _ rfl #[.int .i64 s.kind, .int .i64 s.cap, .int .i64 s.words, .int .i64 s.ver, .slice A6 n c6, .int .u32 (nx : Int)] 27
  have hC6 := hG6.cell
  clear hx6 hy6
  have hG56 := (hG5.below hb6 (by omega)).below hB6 (by omega)
  have hC56 := hG56.cell
  have hG46 := (hG45.below hb6 (by omega)).below hB6 (by omega)
  have hC46 := hG46.cell
  have hb06 := (hb05.trans (hb6.mono (by omega))).trans (hB6.mono (by omega))
  have hE6 := (hE.below hb06).mono (B' := W6.heap.size) (by omega)
  have hO56 := (hO5'.below hb6).below hB6
  have hO66 := hO6.below hB6
  go_wp2_with fail
  refine (at_any s A n c nx key es _ W6.heap.size (Nat.le_refl _) hE6).mono ?_
  rintro e1 w7 ⟨rfl, hb7⟩
  have hs7 := hb7.size
  have hG57 := hG56.below hb7 (by omega)
  have hC57 := hG57.cell
  have hG67 := hG6.below hb7 (by omega)
  have hC67 := hG67.cell
  have hG47 := hG46.below hb7 (by omega)
  have hC47 := hG47.cell
  have hb07 := hb06.trans (hb7.mono (by omega))
  have hO57 := hO56.below hb7
  have hO67 := hO66.below hb7
  have hhas : is = (decide (s.kind ≠ 3) && decide ((f : Int) < s.words) && decide (0 ≤ fidx key es 0)) := by
    rw [hgh'.out]
    simp [Tab.has, Tab.keyed, hm]
  obtain ⟨at_, hat⟩ : ∃ a : Int, fidx key es 0 = a := ⟨_, rfl⟩
  rw [hat] at hhas ⊢
  clear hat
  replace hhas := Lib.hid hhas
  by_cases hall : s.kind ≠ 3 ∧ (f : Int) < s.words ∧ 0 ≤ at_
  · obtain ⟨h3, hfw, hq1⟩ := hall
    have hk3 : (s.kind != 3) = true := by simpa using h3
    obtain rfl : is = true := by rw [hhas.out]; simp [h3, hfw, hq1]
    clear hhas h3
    go_wp2_with fail
    refine (refSame_any s s A5 A6 n n c5 c6 nx nx es5 es5 _ hO57.at_ hO67.at_).mono ?_
    rintro e1 w8 ⟨rfl, hb8⟩
    rw [sameB_self]
    have hs8 := hb8.size
    have hG58 := hG57.below hb8 (by omega)
    have hC58 := hG58.cell
    have hG48 := hG47.below hb8 (by omega)
    have hC48 := hG48.cell
    have hb08 := hb07.trans (hb8.mono (by omega))
    have hO58 := hO57.below hb8
    go_wp2_with fail
    refine (tabMay_any s A5 n c5 nx es5 _ hx hO58.at_).mono ?_
    rintro e1 w9 ⟨rfl, hb9⟩
    rw [hgm]
    have hs9 := hb9.size
    have hG59 := hG58.below hb9 (by omega)
    have hC59 := hG59.cell
    have hG49 := hG48.below hb9 (by omega)
    have hC49 := hG49.cell
    have hb09 := hb08.trans (hb9.mono (by omega))
    have hO59 := hO58.below hb9
    have hE9 := (hE.below hb09).mono (B' := w9.heap.size) (by omega)
    rcases hk2 : (s.kind != 2) with _ | _
    · have hk2' : s.kind = 2 := by simpa using hk2
      obtain ⟨hpos, e, he, hek⟩ := hg2'.out hgh'.out.symm hk2'
      simp only [hl.out] at hpos he
      clear hk2'
      obtain ⟨e', ad, A', n', c', he', rfl, hadB, hk0, hk1, hkk, hv⟩ := kEnt.get hO59.at_ (show n - 1 < n by omega)
      rw [he] at he'
      cases he'
      rw [hek] at hk0
      have hlast : (n : Int) - 1 = ((n - 1 : Nat) : Int) := by omega
      have hlt : ((n - 1 : Nat) : Int) < (n : Int) := by omega
      go_wp2_with fail
      go_ret
      exact ⟨rfl, hb09⟩
    · have hes5 : es5 = es := by
        have := hgk'.out (by simpa using hk2)
        simpa using this
      go_wp2_with fail
      refine (refSame_any s s A5 A n n c5 c nx nx es5 es _ hO59.at_ hE9).mono ?_
      rintro e1 w10 ⟨rfl, hb10⟩
      rw [hes5, sameB_self]
      have hb010 := hb09.trans (hb10.mono (by omega))
      go_wp2_with fail
      go_ret
      exact ⟨rfl, hb010⟩
  · obtain rfl : is = false := by
      rw [hhas.out]
      by_cases h3 : s.kind ≠ 3 <;> by_cases hfw : (f : Int) < s.words <;> by_cases hq1 : 0 ≤ at_ <;> simp [h3, hfw, hq1]
      exact absurd ⟨h3, hfw, hq1⟩ hall
    have h0 := hg0'.out hgh'.out.symm
    simp only [Prod.mk.injEq, Tab.mk.injEq, true_and, and_true] at h0
    obtain ⟨hes5, rfl⟩ := h0
    replace hes5 := Lib.hid hes5
    clear hhas
    by_cases hq1 : 0 ≤ at_
    · rcases hk3 : (s.kind != 3) with _ | _
      · clear hall
        go_wp2_with fail
        refine (refSame_any s s A5 A6 n n c5 c6 nx nx es5 es5 _ hO57.at_ hO67.at_).mono ?_
        rintro e1 w8 ⟨rfl, hb8⟩
        rw [sameB_self]
        have hs8 := hb8.size
        have hG58 := hG57.below hb8 (by omega)
        have hC58 := hG58.cell
        have hG48 := hG47.below hb8 (by omega)
        have hC48 := hG48.cell
        have hb08 := hb07.trans (hb8.mono (by omega))
        have hO58 := hO57.below hb8
        go_wp2_with fail
        refine (tabMay_any s A5 n c5 nx es5 _ hx hO58.at_).mono ?_
        rintro e1 w9 ⟨rfl, hb9⟩
        rw [hgm]
        have hs9 := hb9.size
        have hG59 := hG58.below hb9 (by omega)
        have hC59 := hG59.cell
        have hG49 := hG48.below hb9 (by omega)
        have hC49 := hG49.cell
        have hb09 := hb08.trans (hb9.mono (by omega))
        have hO59 := hO58.below hb9
        have hE9 := (hE.below hb09).mono (B' := w9.heap.size) (by omega)
        go_wp2_with fail
        refine (refSame_any s s A5 A n n c5 c nx nx es5 es _ hO59.at_ hE9).mono ?_
        rintro e1 w10 ⟨rfl, hb10⟩
        rw [hes5.out, sameB_self]
        have hb010 := hb09.trans (hb10.mono (by omega))
        go_wp2_with fail
        go_ret
        exact ⟨rfl, hb010⟩
      · have hfw : ¬ (f : Int) < s.words := fun h => hall ⟨by simpa using hk3, h, hq1⟩
        clear hall
        go_wp2_with fail
        refine (refSame_any s s A5 A6 n n c5 c6 nx nx es5 es5 _ hO57.at_ hO67.at_).mono ?_
        rintro e1 w8 ⟨rfl, hb8⟩
        rw [sameB_self]
        have hs8 := hb8.size
        have hG58 := hG57.below hb8 (by omega)
        have hC58 := hG58.cell
        have hG48 := hG47.below hb8 (by omega)
        have hC48 := hG48.cell
        have hb08 := hb07.trans (hb8.mono (by omega))
        have hO58 := hO57.below hb8
        go_wp2_with fail
        refine (tabMay_any s A5 n c5 nx es5 _ hx hO58.at_).mono ?_
        rintro e1 w9 ⟨rfl, hb9⟩
        rw [hgm]
        have hs9 := hb9.size
        have hG59 := hG58.below hb9 (by omega)
        have hC59 := hG59.cell
        have hG49 := hG48.below hb9 (by omega)
        have hC49 := hG49.cell
        have hb09 := hb08.trans (hb9.mono (by omega))
        have hO59 := hO58.below hb9
        have hE9 := (hE.below hb09).mono (B' := w9.heap.size) (by omega)
        go_wp2_with fail
        refine (refSame_any s s A5 A n n c5 c nx nx es5 es _ hO59.at_ hE9).mono ?_
        rintro e1 w10 ⟨rfl, hb10⟩
        rw [hes5.out, sameB_self]
        have hb010 := hb09.trans (hb10.mono (by omega))
        go_wp2_with fail
        go_ret
        exact ⟨rfl, hb010⟩
    · clear hall
      go_wp2_with fail
      refine (refSame_any s s A5 A6 n n c5 c6 nx nx es5 es5 _ hO57.at_ hO67.at_).mono ?_
      rintro e1 w8 ⟨rfl, hb8⟩
      rw [sameB_self]
      have hs8 := hb8.size
      have hG58 := hG57.below hb8 (by omega)
      have hC58 := hG58.cell
      have hG48 := hG47.below hb8 (by omega)
      have hC48 := hG48.cell
      have hb08 := hb07.trans (hb8.mono (by omega))
      have hO58 := hO57.below hb8
      go_wp2_with fail
      refine (tabMay_any s A5 n c5 nx es5 _ hx hO58.at_).mono ?_
      rintro e1 w9 ⟨rfl, hb9⟩
      rw [hgm]
      have hs9 := hb9.size
      have hG59 := hG58.below hb9 (by omega)
      have hC59 := hG59.cell
      have hG49 := hG48.below hb9 (by omega)
      have hC49 := hG49.cell
      have hb09 := hb08.trans (hb9.mono (by omega))
      have hO59 := hO58.below hb9
      have hE9 := (hE.below hb09).mono (B' := w9.heap.size) (by omega)
      go_wp2_with fail
      refine (refSame_any s s A5 A n n c5 c nx nx es5 es _ hO59.at_ hE9).mono ?_
      rintro e1 w10 ⟨rfl, hb10⟩
      rw [hes5.out, sameB_self]
      have hb010 := hb09.trans (hb10.mono (by omega))
      go_wp2_with fail
      go_ret
      exact ⟨rfl, hb010⟩
end Go.Proofs.Ytpmnchgpbojppaa
