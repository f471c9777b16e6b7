/- drydocklaw05.awake is true. -/
import Derived.Test.YtpmnchgpbojppaaNew
namespace Go.Proofs.Ytpmnchgpbojppaa
open Go Go.RowKit Go.Proofs.Try

/-- A box of six cells stored anew. -/
theorem stored6 {w : World} {g : Nat} {t : TypeId} {cs : Array Value} (h : Blk w g t cs) (hs : cs.size = 6) (v0 v1 v2 v3 v4 v5 : Value) :
    ∃ W, (((((w.setCell ⟨g, 0, none⟩ v0).setCell ⟨g, 1, none⟩ v1).setCell ⟨g, 2, none⟩ v2).setCell ⟨g, 3, none⟩ v3).setCell ⟨g, 4, none⟩ v4).setCell ⟨g, 5, none⟩ v5 = W ∧ Only g w W ∧ W.heap.size = w.heap.size ∧ Blk W g t #[v0, v1, v2, v3, v4, v5] :=
  ⟨_, rfl, setAll_only g [v0, v1, v2, v3, v4, v5] 0 w, setAll_size g [v0, v1, v2, v3, v4, v5] 0 w, h.setBox [v0, v1, v2, v3, v4, v5] (by simp [hs])⟩

def tabA (s : Sch) (A : Option Addr) (n c next : Nat) : Array Value := #[.int .i64 s.kind, .int .i64 s.cap, .int .i64 s.words, .int .i64 s.ver, .slice A n c, .int .u32 (next : Int)]

theorem fits_small {es : List Ent} (h : es.length ≤ 20) (h2 : ∀ e ∈ es, e.v.length ≤ 6) : fits es := ⟨by omega, fun e he => by have := h2 e he; omega⟩

set_option maxRecDepth 100000 in
set_option maxHeartbeats 4000000 in
theorem awake5_any (w : World) : Calls prog 19 #[] w fun e w' => e = .returned (.bool true) ∧ Below w.heap.size w w' := by
  have h1 : Tab.new ⟨2, 2, 1, 0⟩ = (⟨⟨2, 2, 1, 0⟩, [], 0⟩, 0) := by kernel_rfl
  have h2 : Tab.set ⟨⟨2, 2, 1, 0⟩, [], 0⟩ 1 0 7 = (⟨⟨2, 2, 1, 0⟩, [⟨1, [7]⟩], 0⟩, 0) := by kernel_rfl
  have h3 : Tab.set ⟨⟨2, 2, 1, 0⟩, [⟨1, [7]⟩], 0⟩ 2 0 8 = (⟨⟨2, 2, 1, 0⟩, [⟨1, [7]⟩, ⟨2, [8]⟩], 0⟩, 0) := by kernel_rfl
  have h4 : Tab.get ⟨⟨2, 2, 1, 0⟩, [⟨1, [7]⟩, ⟨2, [8]⟩], 0⟩ 1 0 = (⟨⟨2, 2, 1, 0⟩, [⟨2, [8]⟩, ⟨1, [7]⟩], 0⟩, 7, true) := by kernel_rfl
  have h5 : Tab.set ⟨⟨2, 2, 1, 0⟩, [⟨2, [8]⟩, ⟨1, [7]⟩], 0⟩ 3 0 9 = (⟨⟨2, 2, 1, 0⟩, [⟨1, [7]⟩, ⟨3, [9]⟩], 0⟩, 0) := by kernel_rfl
  have h6 : Tab.get ⟨⟨2, 2, 1, 0⟩, [⟨1, [7]⟩, ⟨3, [9]⟩], 0⟩ 2 0 = (⟨⟨2, 2, 1, 0⟩, [⟨1, [7]⟩, ⟨3, [9]⟩], 0⟩, 0, false) := by kernel_rfl
  have h7 : Tab.may ⟨⟨2, 2, 1, 0⟩, [⟨1, [7]⟩, ⟨3, [9]⟩], 0⟩ = true := by kernel_rfl
  replace h1 := Lib.hid h1
  replace h2 := Lib.hid h2
  replace h3 := Lib.hid h3
  replace h4 := Lib.hid h4
  replace h5 := Lib.hid h5
  replace h6 := Lib.hid h6
  replace h7 := Lib.hid h7
  go_enter func19, ntmps19
  go_wp2_with fail
  refine (new_any ⟨2, 2, 1, 0⟩ _).mono ?_
  rintro e1 w1 ⟨A1, n1, c1, us1, rfl, hO1, hb1⟩
  rw [h1.out] at hO1 ⊢
  obtain rfl : n1 = 0 := hO1.at_.len.symm
  have hs1 := hb1.size
  unfold tabV
  simp only at hO1
  obtain ⟨W0, hW0, hB0, hS0, hG0, hx0, hy0⟩ := boxedB w1 _ rfl #[.int .i64 2, .int .i64 2, .int .i64 1, .int .i64 0, .slice A1 0 c1, .int .u32 0] 27
  have hC0 := hG0.cell
  have hF0 := hG0.frozen
  obtain ⟨W1, hW1, ho1, hS1, hG1, hx1, hy1⟩ := storedB hG0 5 (.int .u32 0)
  have hG1 : Blk W1 w1.heap.size 27 #[.int .i64 2, .int .i64 2, .int .i64 1, .int .i64 0, .slice A1 0 c1, .int .u32 0] := hG1
  clear hx0 hy0 hx1 hy1
  have hbw1 := Only.below (hb1.trans (hB0.mono (by omega))) ho1 (by omega) (by omega)
  have hP1 := (hO1.below hB0).box hG0 ho1 (by decide) (by decide)
  have hC1 := hG1.cell
  have hF1 := hG1.frozen
  go_wp2_with fail
  refine (set_any ⟨2, 2, 1, 0⟩ A1 0 c1 0 1 0 7 [] _ (by omega) (by omega) (by omega) (by omega) (fits_small (by decide) (by decide)) hP1.at_).mono ?_
  rintro e2 w2 ⟨A2, n2, c2, us2, rfl, hO2, hb2⟩
  rw [h2.out] at hO2 ⊢
  obtain rfl : n2 = 1 := hO2.at_.len.symm
  have hs2 := hb2.size
  unfold tabV
  simp only at hO2
  have hH2 := hG1.below hb2 (by omega)
  have hK2 := hH2.frozen
  have hJ2 := hH2.cell
  obtain ⟨W2, hW2, ho2, hS2, hG2⟩ := stored6 hH2 rfl (.int .i64 2) (.int .i64 2) (.int .i64 1) (.int .i64 0) (.slice A2 1 c2) (.int .u32 0)
  have hbw2 := Only.below (hbw1.trans (hb2.mono (by omega))) ho2 (by omega) (by omega)
  have hP2 := hO2.box hH2 ho2 (by decide) (by decide)
  have hC2 := hG2.cell
  have hF2 := hG2.frozen
  go_wp2_with fail
  refine (set_any ⟨2, 2, 1, 0⟩ A2 1 c2 0 2 0 8 [⟨1, [7]⟩] _ (by omega) (by omega) (by omega) (by omega) (fits_small (by decide) (by decide)) hP2.at_).mono ?_
  rintro e3 w3 ⟨A3, n3, c3, us3, rfl, hO3, hb3⟩
  rw [h3.out] at hO3 ⊢
  obtain rfl : n3 = 2 := hO3.at_.len.symm
  have hs3 := hb3.size
  unfold tabV
  simp only at hO3
  have hH3 := hG2.below hb3 (by omega)
  have hK3 := hH3.frozen
  have hJ3 := hH3.cell
  obtain ⟨W3, hW3, ho3, hS3, hG3⟩ := stored6 hH3 rfl (.int .i64 2) (.int .i64 2) (.int .i64 1) (.int .i64 0) (.slice A3 2 c3) (.int .u32 0)
  have hbw3 := Only.below (hbw2.trans (hb3.mono (by omega))) ho3 (by omega) (by omega)
  have hP3 := hO3.box hH3 ho3 (by decide) (by decide)
  have hC3 := hG3.cell
  have hF3 := hG3.frozen
  go_wp2_with fail
  refine (get_any ⟨2, 2, 1, 0⟩ A3 2 c3 0 1 0 [⟨1, [7]⟩, ⟨2, [8]⟩] _ (by omega) (by omega) (fits_small (by decide) (by decide)) hP3.at_).mono ?_
  rintro e4 w4 ⟨A4, c4, us4, rfl, hO4, hb4⟩
  rw [h4.out] at hO4 ⊢
  have hs4 := hb4.size
  unfold tabV
  simp only at hO4
  have hH4 := hG3.below hb4 (by omega)
  have hK4 := hH4.frozen
  have hJ4 := hH4.cell
  obtain ⟨W4, hW4, ho4, hS4, hG4⟩ := stored6 hH4 rfl (.int .i64 2) (.int .i64 2) (.int .i64 1) (.int .i64 0) (.slice A4 2 c4) (.int .u32 0)
  have hbw4 := Only.below (hbw3.trans (hb4.mono (by omega))) ho4 (by omega) (by omega)
  have hP4 := hO4.box hH4 ho4 (by decide) (by decide)
  have hC4 := hG4.cell
  have hF4 := hG4.frozen
  go_wp2_with fail
  refine (set_any ⟨2, 2, 1, 0⟩ A4 2 c4 0 3 0 9 [⟨2, [8]⟩, ⟨1, [7]⟩] _ (by omega) (by omega) (by omega) (by omega) (fits_small (by decide) (by decide)) hP4.at_).mono ?_
  rintro e5 w5 ⟨A5, n5, c5, us5, rfl, hO5, hb5⟩
  rw [h5.out] at hO5 ⊢
  obtain rfl : n5 = 2 := hO5.at_.len.symm
  have hs5 := hb5.size
  unfold tabV
  simp only at hO5
  have hH5 := hG4.below hb5 (by omega)
  have hK5 := hH5.frozen
  have hJ5 := hH5.cell
  obtain ⟨W5, hW5, ho5, hS5, hG5⟩ := stored6 hH5 rfl (.int .i64 2) (.int .i64 2) (.int .i64 1) (.int .i64 0) (.slice A5 2 c5) (.int .u32 0)
  have hbw5 := Only.below (hbw4.trans (hb5.mono (by omega))) ho5 (by omega) (by omega)
  have hP5 := hO5.box hH5 ho5 (by decide) (by decide)
  have hC5 := hG5.cell
  have hF5 := hG5.frozen
  go_wp2_with fail
  refine (get_any ⟨2, 2, 1, 0⟩ A5 2 c5 0 2 0 [⟨1, [7]⟩, ⟨3, [9]⟩] _ (by omega) (by omega) (fits_small (by decide) (by decide)) hP5.at_).mono ?_
  rintro e6 w6 ⟨A6, c6, us6, rfl, hO6, hb6⟩
  rw [h6.out] at hO6 ⊢
  have hs6 := hb6.size
  unfold tabV
  simp only at hO6
  have hH6 := hG5.below hb6 (by omega)
  have hK6 := hH6.frozen
  have hJ6 := hH6.cell
  obtain ⟨V6, hV6, hB6, hS6, hG6, hx6, hy6⟩ := boxedB w6 _ rfl #[.int .i64 2, .int .i64 2, .int .i64 1, .int .i64 0, .slice A6 2 c6, .int .u32 0] 27
  have hL6' := hG6
  have hL6 := hG6.cell
  have hM6 := hG6.frozen
  obtain ⟨W6, hW6, ho6, hT6, hG6, hx6, hy6⟩ := storedB hG6 5 (.int .u32 0)
  clear hx6 hy6
  have hbw6 := Only.below ((hbw5.trans (hb6.mono (by omega))).trans (hB6.mono (by omega))) ho6 (by omega) (by omega)
  have hI6 := (hH6.below hB6 hH6.lt).grown ho6 (by have := hH6.lt; simp; omega)
  have hC6 := hI6.cell
  have hE6 := (((hP5.below (hb6.mono (Nat.le_refl _))).below hB6).box hL6' ho6 (by decide) (by decide)).at_
  go_wp2_with fail
  refine (tabMay_any ⟨2, 2, 1, 0⟩ A5 2 c5 0 [⟨1, [7]⟩, ⟨3, [9]⟩] _ (by omega) hE6).mono ?_
  rintro e7 w7 ⟨rfl, hb7⟩
  rw [h7.out]
  go_wp2_with fail
  go_ret
  exact ⟨rfl, hbw6.trans (hb7.mono (by omega))⟩
end Go.Proofs.Ytpmnchgpbojppaa
