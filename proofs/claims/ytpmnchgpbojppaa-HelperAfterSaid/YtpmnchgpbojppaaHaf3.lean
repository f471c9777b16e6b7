/-
  PROVED: the statement HelperAfter of the given seat: whatever the environment and the words, drydocklaw06.HelperAfter returns true, and what was handed in reads as it did.
  Conditions: none beyond the statement's own.
-/
import Derived.Test.YtpmnchgpbojppaaHaf2
import Derived.Test.YtpmnchgpbojppaaRows
/-
  PROVED: the statement HelperAfter of the given seat: whatever the environment and the words, drydocklaw06.HelperAfter returns true, and what was handed in reads as it did.
  Conditions: none beyond the statement's own.
-/
set_option linter.unusedVariables false
set_option linter.unusedSimpArgs false
namespace Go.Proofs.Ytpmnchgpbojppaa
open Go Go.ChangeShapes Go.WideShapes Go.ChangeAt Go.RowKit Go.Proofs.Try

theorem o_25 {H : Type} {enc : TypeId × Value → H} {w : World} {base : Nat} {spare : Nat → Bool} {held : Bool} {fuel : Nat} {cs : List Value} {x : DataW H × List MemPlace} (h : DataW.trod enc prog w base spare held fuel 25 cs = some x) : ∃ a : UInt32, DRels w (okW w) (encU32 a) cs:= oU32 underlying25 h
theorem o_53 {H : Type} {enc : TypeId × Value → H} {w : World} {base : Nat} {spare : Nat → Bool} {held : Bool} {fuel : Nat} {cs : List Value} {x : DataW H × List MemPlace} (h : DataW.trod enc prog w base spare held fuel 53 cs = some x) : ∃ a : (A4 UInt32), DRels w (okW w) ((encA4 encU32) a) cs := by
  obtain ⟨xs, m, _, _, hl, hxl, hg⟩ := DataW.trod_array underlying53 h
  have hl : cs.length = 4 := hl.trans (by kernel_rfl)
  replace hxl : xs.length = 4 := hxl
  have e0 : prog.cellsOf 25 = 1 := by kernel_rfl
  have h0 := hg 0 (by decide)
  simp only [e0, Nat.reduceMul] at h0
  obtain ⟨b0, r0⟩ := o_25 (h0.trans (List.getElem?_eq_getElem (by omega)))
  have e1 : prog.cellsOf 25 = 1 := by kernel_rfl
  have h1 := hg 1 (by decide)
  simp only [e1, Nat.reduceMul] at h1
  obtain ⟨b1, r1⟩ := o_25 (h1.trans (List.getElem?_eq_getElem (by omega)))
  have e2 : prog.cellsOf 25 = 1 := by kernel_rfl
  have h2 := hg 2 (by decide)
  simp only [e2, Nat.reduceMul] at h2
  obtain ⟨b2, r2⟩ := o_25 (h2.trans (List.getElem?_eq_getElem (by omega)))
  have e3 : prog.cellsOf 25 = 1 := by kernel_rfl
  have h3 := hg 3 (by decide)
  simp only [e3, Nat.reduceMul] at h3
  obtain ⟨b3, r3⟩ := o_25 (h3.trans (List.getElem?_eq_getElem (by omega)))
  have r := (DRels.cat (DRels.cat (DRels.cat r0 r1) r2) r3)
  refine ⟨A4.mk b0 b1 b2 b3, ?_⟩
  have hf := full hl
  rw [← hf]
  exact r
theorem o_3 {H : Type} {enc : TypeId × Value → H} {w : World} {base : Nat} {spare : Nat → Bool} {held : Bool} {fuel : Nat} {cs : List Value} {x : DataW H × List MemPlace} (h : DataW.trod enc prog w base spare held fuel 3 cs = some x) : ∃ a : Int, DRels w (okW w) (encI64 a) cs:= oI64 underlying3 h
theorem o_23 {H : Type} {enc : TypeId × Value → H} {w : World} {base : Nat} {spare : Nat → Bool} {held : Bool} {fuel : Nat} {cs : List Value} {x : DataW H × List MemPlace} (h : DataW.trod enc prog w base spare held fuel 23 cs = some x) : ∃ a : T_Schema, DRels w (okW w) (enc_Schema a) cs := by
  obtain ⟨xs, m, _, _, hl, hxl, hg⟩ := DataW.trod_struct underlying23 h
  have hl : cs.length = 4 := hl.trans (by kernel_rfl)
  replace hxl : xs.length = 4 := hxl
  have e0 : prog.cellsOf 3 = 1 := by kernel_rfl
  have h0 : DataW.trod enc prog w base spare held m 3 ((cs.drop 0).take (prog.cellsOf 3)) = xs[0]? := hg 0 _ rfl
  simp only [e0, Nat.reduceMul] at h0
  obtain ⟨b0, r0⟩ := o_3 (h0.trans (List.getElem?_eq_getElem (by omega)))
  have e1 : prog.cellsOf 3 = 1 := by kernel_rfl
  have h1 : DataW.trod enc prog w base spare held m 3 ((cs.drop 1).take (prog.cellsOf 3)) = xs[1]? := hg 1 _ rfl
  simp only [e1, Nat.reduceMul] at h1
  obtain ⟨b1, r1⟩ := o_3 (h1.trans (List.getElem?_eq_getElem (by omega)))
  have e2 : prog.cellsOf 3 = 1 := by kernel_rfl
  have h2 : DataW.trod enc prog w base spare held m 3 ((cs.drop 2).take (prog.cellsOf 3)) = xs[2]? := hg 2 _ rfl
  simp only [e2, Nat.reduceMul] at h2
  obtain ⟨b2, r2⟩ := o_3 (h2.trans (List.getElem?_eq_getElem (by omega)))
  have e3 : prog.cellsOf 3 = 1 := by kernel_rfl
  have h3 : DataW.trod enc prog w base spare held m 3 ((cs.drop 3).take (prog.cellsOf 3)) = xs[3]? := hg 3 _ rfl
  simp only [e3, Nat.reduceMul] at h3
  obtain ⟨b3, r3⟩ := o_3 (h3.trans (List.getElem?_eq_getElem (by omega)))
  have r := (DRels.cat (DRels.cat (DRels.cat r0 r1) r2) r3)
  refine ⟨T_Schema.mk b0 b1 b2 b3, ?_⟩
  have hf := full hl
  rw [← hf]
  exact r
theorem o_36 {H : Type} {enc : TypeId × Value → H} {w : World} {base : Nat} {spare : Nat → Bool} {held : Bool} {fuel : Nat} {cs : List Value} {x : DataW H × List MemPlace} (h : DataW.trod enc prog w base spare held fuel 36 cs = some x) : ∃ a : (List UInt32), DRels w (okW w) ((encL encU32) a) cs:= oSl (f := encU32) (sz := 1) underlying36 (by kernel_rfl) (by decide) (fun _ => rfl) (fun _ _ _ h => o_25 h) h
theorem o_39 {H : Type} {enc : TypeId × Value → H} {w : World} {base : Nat} {spare : Nat → Bool} {held : Bool} {fuel : Nat} {cs : List Value} {x : DataW H × List MemPlace} (h : DataW.trod enc prog w base spare held fuel 39 cs = some x) : ∃ a : T_Entry, DRels w (okW w) (enc_Entry a) cs := by
  obtain ⟨xs, m, _, _, hl, hxl, hg⟩ := DataW.trod_struct underlying39 h
  have hl : cs.length = 2 := hl.trans (by kernel_rfl)
  replace hxl : xs.length = 2 := hxl
  have e0 : prog.cellsOf 25 = 1 := by kernel_rfl
  have h0 : DataW.trod enc prog w base spare held m 25 ((cs.drop 0).take (prog.cellsOf 25)) = xs[0]? := hg 0 _ rfl
  simp only [e0, Nat.reduceMul] at h0
  obtain ⟨b0, r0⟩ := o_25 (h0.trans (List.getElem?_eq_getElem (by omega)))
  have e1 : prog.cellsOf 36 = 1 := by kernel_rfl
  have h1 : DataW.trod enc prog w base spare held m 36 ((cs.drop 1).take (prog.cellsOf 36)) = xs[1]? := hg 1 _ rfl
  simp only [e1, Nat.reduceMul] at h1
  obtain ⟨b1, r1⟩ := o_36 (h1.trans (List.getElem?_eq_getElem (by omega)))
  have r := (DRels.cat r0 r1)
  refine ⟨T_Entry.mk b0 b1, ?_⟩
  have hf := full hl
  rw [← hf]
  exact r
theorem o_24 {H : Type} {enc : TypeId × Value → H} {w : World} {base : Nat} {spare : Nat → Bool} {held : Bool} {fuel : Nat} {cs : List Value} {x : DataW H × List MemPlace} (h : DataW.trod enc prog w base spare held fuel 24 cs = some x) : ∃ a : (List T_Entry), DRels w (okW w) ((encL enc_Entry) a) cs:= oSl (f := enc_Entry) (sz := 2) underlying24 (by kernel_rfl) (by decide) (fun _ => rfl) (fun _ _ _ h => o_39 h) h
theorem o_27 {H : Type} {enc : TypeId × Value → H} {w : World} {base : Nat} {spare : Nat → Bool} {held : Bool} {fuel : Nat} {cs : List Value} {x : DataW H × List MemPlace} (h : DataW.trod enc prog w base spare held fuel 27 cs = some x) : ∃ a : T_Table, DRels w (okW w) (enc_Table a) cs := by
  obtain ⟨xs, m, _, _, hl, hxl, hg⟩ := DataW.trod_struct underlying27 h
  have hl : cs.length = 6 := hl.trans (by kernel_rfl)
  replace hxl : xs.length = 3 := hxl
  have e0 : prog.cellsOf 23 = 4 := by kernel_rfl
  have h0 : DataW.trod enc prog w base spare held m 23 ((cs.drop 0).take (prog.cellsOf 23)) = xs[0]? := hg 0 _ rfl
  simp only [e0, Nat.reduceMul] at h0
  obtain ⟨b0, r0⟩ := o_23 (h0.trans (List.getElem?_eq_getElem (by omega)))
  have e1 : prog.cellsOf 24 = 1 := by kernel_rfl
  have h1 : DataW.trod enc prog w base spare held m 24 ((cs.drop 4).take (prog.cellsOf 24)) = xs[1]? := hg 1 _ rfl
  simp only [e1, Nat.reduceMul] at h1
  obtain ⟨b1, r1⟩ := o_24 (h1.trans (List.getElem?_eq_getElem (by omega)))
  have e2 : prog.cellsOf 25 = 1 := by kernel_rfl
  have h2 : DataW.trod enc prog w base spare held m 25 ((cs.drop 5).take (prog.cellsOf 25)) = xs[2]? := hg 2 _ rfl
  simp only [e2, Nat.reduceMul] at h2
  obtain ⟨b2, r2⟩ := o_25 (h2.trans (List.getElem?_eq_getElem (by omega)))
  have r := (DRels.cat (DRels.cat r0 r1) r2)
  refine ⟨T_Table.mk b0 b1 b2, ?_⟩
  have hf := full hl
  rw [← hf]
  exact r
theorem o_51 {H : Type} {enc : TypeId × Value → H} {w : World} {base : Nat} {spare : Nat → Bool} {held : Bool} {fuel : Nat} {cs : List Value} {x : DataW H × List MemPlace} (h : DataW.trod enc prog w base spare held fuel 51 cs = some x) : ∃ a : (List T_Table), DRels w (okW w) ((encL enc_Table) a) cs:= oSl (f := enc_Table) (sz := 6) underlying51 (by kernel_rfl) (by decide) (fun _ => rfl) (fun _ _ _ h => o_27 h) h
theorem o_55 {H : Type} {enc : TypeId × Value → H} {w : World} {base : Nat} {spare : Nat → Bool} {held : Bool} {fuel : Nat} {cs : List Value} {x : DataW H × List MemPlace} (h : DataW.trod enc prog w base spare held fuel 55 cs = some x) : ∃ a : T_Env, DRels w (okW w) (enc_Env a) cs := by
  obtain ⟨xs, m, _, _, hl, hxl, hg⟩ := DataW.trod_struct underlying55 h
  have hl : cs.length = 6 := hl.trans (by kernel_rfl)
  replace hxl : xs.length = 3 := hxl
  have e0 : prog.cellsOf 53 = 4 := by kernel_rfl
  have h0 : DataW.trod enc prog w base spare held m 53 ((cs.drop 0).take (prog.cellsOf 53)) = xs[0]? := hg 0 _ rfl
  simp only [e0, Nat.reduceMul] at h0
  obtain ⟨b0, r0⟩ := o_53 (h0.trans (List.getElem?_eq_getElem (by omega)))
  have e1 : prog.cellsOf 51 = 1 := by kernel_rfl
  have h1 : DataW.trod enc prog w base spare held m 51 ((cs.drop 4).take (prog.cellsOf 51)) = xs[1]? := hg 1 _ rfl
  simp only [e1, Nat.reduceMul] at h1
  obtain ⟨b1, r1⟩ := o_51 (h1.trans (List.getElem?_eq_getElem (by omega)))
  have e2 : prog.cellsOf 25 = 1 := by kernel_rfl
  have h2 : DataW.trod enc prog w base spare held m 25 ((cs.drop 5).take (prog.cellsOf 25)) = xs[2]? := hg 2 _ rfl
  simp only [e2, Nat.reduceMul] at h2
  obtain ⟨b2, r2⟩ := o_25 (h2.trans (List.getElem?_eq_getElem (by omega)))
  have r := (DRels.cat (DRels.cat r0 r1) r2)
  refine ⟨T_Env.mk b0 b1 b2, ?_⟩
  have hf := full hl
  rw [← hf]
  exact r

theorem helperAfterOwn : ownKnob Try.prog.godebug = none := by kernel_rfl
theorem helperAfterLaid : laidOutB Try.prog = true := by kernel_rfl

set_option maxRecDepth 100000 in
theorem helperAfter_lifted (os : Os) (started : os.Started) (H : Type) (enc : TypeId × Value → H) :
    ReturnsInHanded {} Try.checked os 14 .any (Rows.helperAfterSpec.pre6 enc Try.prog Try.f14 Rows.helperAfterRow.domain false) (Rows.helperAfterSpec.post enc Try.prog Try.f14 false true false false) := by
  refine returnsInHanded_of_change (C := Try.checked) helperAfterOwn started (by kernel_rfl) Try.func14
    (ChangeSpec.witness6 (enc := enc) (C := Try.checked) false ⟨#[], #[.agg #[.int .u32 0, .int .u32 0, .int .u32 0, .int .u32 0, .slice none 0 0, .int .u32 0], .int .u32 0, .int .u32 0, .int .u32 0, .int .u32 0], []⟩ 8 (by kernel_rfl) (by kernel_rfl) (by kernel_rfl) (by kernel_rfl)) ?_
  intro W base args ds gs before hval0 hW _ _
  have hval : ∀ (j : Nat) t v, Try.f14.params[j]? = some t → args[j]? = some v → Value.okWide Try.prog W .any base t v := hval0
  have hW' := hW
  obtain ⟨p, q, hA0, hV, rfl, hfz, hnd⟩ := hW
  have hA : DataW.TrodAll enc Try.prog W 0 (fun _ => true) true Try.f14.params.toList args.toList ds p := hA0
  rw [Try.params14] at hA hval
  obtain ⟨l⟩ := args
  obtain ⟨v0, l0, d0, ds0, p0, q0, rfl, rfl, _, h0, hA1⟩ := trodAll_cons hA
  obtain ⟨v1, l1, d1, ds1, p1, q1, rfl, rfl, _, h1, hA2⟩ := trodAll_cons hA1
  obtain ⟨v2, l2, d2, ds2, p2, q2, rfl, rfl, _, h2, hA3⟩ := trodAll_cons hA2
  obtain ⟨v3, l3, d3, ds3, p3, q3, rfl, rfl, _, h3, hA4⟩ := trodAll_cons hA3
  obtain ⟨v4, l4, d4, ds4, p4, q4, rfl, rfl, _, h4, hA5⟩ := trodAll_cons hA4
  obtain ⟨rfl, rfl, _⟩ := trodAll_nil hA5
  obtain ⟨rfl, rfl⟩ := trodVars_none hV
  obtain ⟨cs0, rfl, _⟩ := okWide_struct underlying55 (hval 0 _ v0 rfl rfl)
  obtain ⟨fuel0, hf0⟩ := h0
  obtain ⟨a0, r0⟩ := o_55 hf0
  obtain ⟨z1, rfl⟩ := okWide_int underlying25 (hval 1 _ v1 rfl rfl)
  obtain ⟨fuel1, hf1⟩ := h1
  obtain ⟨a1, r1⟩ := o_25 hf1
  obtain ⟨z2, rfl⟩ := okWide_int underlying25 (hval 2 _ v2 rfl rfl)
  obtain ⟨fuel2, hf2⟩ := h2
  obtain ⟨a2, r2⟩ := o_25 hf2
  obtain ⟨z3, rfl⟩ := okWide_int underlying25 (hval 3 _ v3 rfl rfl)
  obtain ⟨fuel3, hf3⟩ := h3
  obtain ⟨a3, r3⟩ := o_25 hf3
  obtain ⟨z4, rfl⟩ := okWide_int underlying25 (hval 4 _ v4 rfl rfl)
  obtain ⟨fuel4, hf4⟩ := h4
  obtain ⟨a4, r4⟩ := o_25 hf4
  refine (Ctr.law (c_drydocklaw06_HelperAfter a0 a1 a2 a3 a4 (after_true a0 a1 a2 a3 a4)) rfl (VRels.of1 (.cons (arg_agg r0) (.cons (arg_one r1) (.cons (arg_one r2) (.cons (arg_one r3) (.cons (arg_one r4) (.nil)))))))).mono fun e W' ⟨he, hw⟩ => ?_
  subst he
  exact ⟨_, rfl, post_law helperAfterLaid hW' rfl rfl (by kernel_rfl) rfl rfl rfl hw⟩

theorem helperAfter_holds : Rows.HelperAfterSaid :=
  OpenClaim.holds_of_wide 14 Try.f14 rfl rfl rfl rfl rfl rfl rfl ⟨rfl, rfl, rfl, rfl, rfl⟩ rfl rfl rfl rfl rfl (by kernel_rfl) Try.func14 (by kernel_rfl)
    (of_decide_eq_true (by kernel_rfl)) (by unfold Func.isWrapper; first | (rw [if_pos (by decide +kernel)]; kernel_rfl) | (rw [if_neg (by decide +kernel)]; exact ⟨rfl, rfl⟩))
    (fun os started H enc _ => helperAfter_lifted os started H enc)
end Go.Proofs.Ytpmnchgpbojppaa

