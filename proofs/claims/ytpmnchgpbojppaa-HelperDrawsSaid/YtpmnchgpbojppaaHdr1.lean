/-
  PROVED: the statement HelperDraws of the given seat: whatever the environment and the number, drydocklaw06.HelperDraws returns true, and what was handed in reads as it did.
  Conditions: none beyond the statement's own.
-/
import Derived.Test.YtpmnchgpbojppaaB5
import Derived.Test.YtpmnchgpbojppaaRows
/- The chapter's example of helpers. -/
set_option linter.unusedVariables false
set_option linter.unusedSimpArgs false
namespace Go.Proofs.Ytpmnchgpbojppaa
open Go Go.RowKit Go.Proofs.Try

theorem fits_one {t : T_Table} (h1 : t.E.length ≤ 1048576) (h2 : ∀ e ∈ t.E, e.V.length ≤ 1048576) : Fits [t] :=
  ⟨by simp, fun u hu => by rw [List.mem_singleton] at hu; rw [hu]; exact h1, fun u hu => by rw [List.mem_singleton] at hu; rw [hu]; exact h2⟩
def aw0 : T_Table := ⟨⟨1, 2, 1, 0⟩, [], 0⟩
def aw1 : T_Table := ⟨⟨1, 2, 1, 0⟩, [⟨5, [7]⟩], 0⟩
theorem awake6 : p_drydocklaw06_awake = some true := by
  have h1 : p_table_New (T_Schema.mk 1 2 1 0) = some (aw0, 0) := by decide
  have f0 : Fits [aw0] := fits_one (by decide) (by decide)
  have f1 : Fits [aw1] := fits_one (by decide) (by decide)
  have h2 : p_helper_Call 1 ⟨⟨0, 0, 0, 0⟩, [aw0], 0⟩ [0, 5, 0, 7] = some (⟨⟨0, 0, 0, 0⟩, [aw1], 0⟩, 0, 0) := by
    have ha : p_helper_Args 1 = some 4 := rfl
    unfold p_helper_Call
    rw [ha]
    simp only [po_of]
    show po (some false) (fun x => p_helper_Call_J2 1 _ _ x) = _
    simp only [po_of, p_helper_Call_J2, cond_false, own_is (e := ⟨⟨0, 0, 0, 0⟩, [aw0], 0⟩) f0]
    decide
  have h3 : p_helper_Call 0 ⟨⟨0, 0, 0, 0⟩, [aw1], 0⟩ [0, 5, 0] = some (⟨⟨0, 0, 0, 0⟩, [aw1], 0⟩, 7, 0) := by
    have ha : p_helper_Args 0 = some 3 := rfl
    unfold p_helper_Call
    rw [ha]
    simp only [po_of]
    show po (some false) (fun x => p_helper_Call_J2 0 _ _ x) = _
    simp only [po_of, p_helper_Call_J2, cond_false, own_is (e := ⟨⟨0, 0, 0, 0⟩, [aw1], 0⟩) f1]
    decide
  unfold p_drydocklaw06_awake
  rw [h1]
  simp only [po_of, h2, h3]
  decide
end Go.Proofs.Ytpmnchgpbojppaa

/- The plain function of drydock/drydocklaw06.HelperDraws. -/
set_option linter.unusedVariables false
set_option linter.unusedSimpArgs false
namespace Go.Proofs.Ytpmnchgpbojppaa
open Go Go.RowKit Go.Proofs.Try
noncomputable def p_drydocklaw06_HelperDraws_J12 (i_6 : Int) (r11 : T_Env × UInt32 × Int) (s_14 : T_Env) (i_15 : Bool) : Option ((T_Env × UInt32 × Int) ⊕ ((Unit) ⊕ (Bool))) :=
  cond i_15 (
  some (Sum.inr (Sum.inr false))) (
  some (Sum.inl (s_14, r11.2.1, (IntKind.i64.wrap (i_6 + 1)))))
noncomputable def p_drydocklaw06_HelperDraws_L9 (a1 : Int) (s_4 : T_Env) (i_5 : UInt32) (i_6 : Int) : Option ((T_Env × UInt32 × Int) ⊕ ((Unit) ⊕ (Bool))) :=
  cond (decide (i_6 < a1)) (
  po (p_helper_Call 4 s_4 []) fun r11 =>
  po (
  cond (r11.2.2 != 0) (
  some (r11.1, true)) (
  po (p_helper_Draw i_5) fun r14 =>
  cond ((r11.2.1.toNat : Int) != (r14.toNat : Int)) (
  some (r11.1, true)) (
  cond ((r11.1.Seed.toNat : Int) != (r11.2.1.toNat : Int)) (
  some (r11.1, true)) (
  some (r11.1, ((r11.2.1.toNat : Int) == (i_5.toNat : Int))))))) (fun x => p_drydocklaw06_HelperDraws_J12 i_6 r11 x.1 x.2)) (
  some (Sum.inr (Sum.inl ())))
noncomputable def p_drydocklaw06_HelperDraws_J8 : Option (Bool) :=
  some true
noncomputable def p_drydocklaw06_HelperDraws_J3 (a0 : T_Env) (a1 : Int) (r1 : Bool) (i_1 : Bool) : Option (Bool) :=
  cond i_1 (
  some r1) (
  pm (
  lpU (fun x => p_drydocklaw06_HelperDraws_L9 a1 x.1 x.2.1 x.2.2) (a0, a0.Seed, 0)) (fun x => p_drydocklaw06_HelperDraws_J8))
noncomputable def p_drydocklaw06_HelperDraws (a0 : T_Env) (a1 : Int) : Option (Bool) :=
  po (p_drydocklaw06_awake) fun r1 =>
  po (p_drydockref05_Few a0.T) fun r2 =>
  po (
  cond r1 (
  cond r2 (
  cond (decide (a1 < 0)) (
  some true) (
  some (decide (a1 > 100)))) (
  some true)) (
  some true)) (fun x => p_drydocklaw06_HelperDraws_J3 a0 a1 r1 x)
set_option maxHeartbeats 4000000 in
set_option maxRecDepth 100000 in
theorem c_drydocklaw06_HelperDraws (a0 : T_Env) (a1 : Int) {r : Bool} (h : p_drydocklaw06_HelperDraws a0 a1 = some r) : Ctr prog 15 [.agg (enc_Env a0), .raw (.int .i64 a1)] [] (.raw (.bool r)) [] := by
  unfold p_drydocklaw06_HelperDraws at h
  refine Ctr.ofW tabOk func15 rfl call15 0 _ ntmps15 [.tmp 4] rfl rfl rfl (fun B => ?_)
  refine VC.seqF tabOkF [some 2, some 4] [1, 2] rfl rfl (fun K hK => ?_)
  push_cast
  repeat (refine And.intro (by omega) ?_)
  refine hK _ ?_
  clear hK K
  obtain ⟨r1, hr1, h⟩ := po_some h
  refine VC.seqF tabOkF [some 12, some 5] [1, 2, 5] rfl rfl (fun K hK => ?_)
  push_cast
  repeat (refine And.intro (by omega) ?_)
  refine callP (Ctr.lo (c_drydocklaw06_awake  hr1)) rfl ?_
  push_cast
  repeat (refine And.intro (by omega) ?_)
  refine hK _ ?_
  clear hK K
  obtain ⟨r2, hr2, h⟩ := po_some h
  refine VC.seqF tabOkF [some 13, some 14, some 15, some 6] [1, 2, 5, 6] rfl rfl (fun K hK => ?_)
  push_cast
  repeat (refine And.intro (by omega) ?_)
  refine callP (Ctr.lo (c_drydockref05_Few a0.T hr2)) rfl ?_
  push_cast
  repeat (refine And.intro (by omega) ?_)
  refine hK _ ?_
  clear hK K
  refine VC.seq ?_
  obtain ⟨v3, h, hk3⟩ := po_some h
  refine VC.seqJ (X := Bool) (fun x => p_drydocklaw06_HelperDraws_J3 a0 a1 r1 x = some r) (fun x => ⟨[(1, .raw (.int .i64 a1)), (2, .ref 0 0), (5, .raw (.bool r1)), (29, .raw (.bool x))], [(0, .box 55 [.raw (.int .u32 (a0.Ctx.a0.toNat : Int)), .raw (.int .u32 (a0.Ctx.a1.toNat : Int)), .raw (.int .u32 (a0.Ctx.a2.toNat : Int)), .raw (.int .u32 (a0.Ctx.a3.toNat : Int)), .sl false (a0.T.map enc_Table), .raw (.int .u32 (a0.Seed.toNat : Int))])], 22, 65, 0⟩) ?_ ?_
  · rcases Bool.eq_false_or_eq_true r1 with hb4 | hb4
    · replace h := cond_yes hb4 h
      rcases Bool.eq_false_or_eq_true r2 with hb5 | hb5
      · replace h := cond_yes hb5 h
        rcases Bool.eq_false_or_eq_true (decide (a1 < 0)) with hb6 | hb6
        · replace h := cond_yes hb6 h
          refine VC.lastF tabOkF [some 16, some 17, some 18, some 19, some 20, some 21, some 22, some 23, some 24, some 25, some 26, some 27, some 28, some 29] rfl rfl (fun K hK => ?_)
          refine runOps_cut 8 (fun K2 hK2 => ?_)
          push_cast [hb4, hb5, hb6]
          repeat (refine And.intro (by omega) ?_)
          refine hK2 _ _ ?_
          clear hK2 K2
          simp only [List.drop_succ_cons, List.drop_zero]
          push_cast [hb4, hb5, hb6]
          repeat (refine And.intro (by omega) ?_)
          refine hK _ ?_
          clear hK K
          have hv := Option.some.inj h
          rw [← hv] at hk3
          refine Exists.intro (true) (And.intro hk3 ?_)
          refine Sub.trans (Sub.lo _) ?_
          refine Sub.of ?_ ?_ ⟨rfl, rfl, Nat.le_of_ble_eq_true rfl⟩ rfl
          · push_cast [hb4, hb5, hb6]
          · push_cast [hb4, hb5, hb6]
        · replace h := cond_no hb6 h
          refine VC.lastF tabOkF [some 16, some 17, some 18, some 19, some 20, some 21, some 22, some 23, some 24, some 25, some 26, some 27, some 28, some 29] rfl rfl (fun K hK => ?_)
          refine runOps_cut 8 (fun K2 hK2 => ?_)
          push_cast [hb4, hb5, hb6]
          repeat (refine And.intro (by omega) ?_)
          refine hK2 _ _ ?_
          clear hK2 K2
          simp only [List.drop_succ_cons, List.drop_zero]
          push_cast [hb4, hb5, hb6]
          repeat (refine And.intro (by omega) ?_)
          refine hK _ ?_
          clear hK K
          have hv := Option.some.inj h
          rw [← hv] at hk3
          refine Exists.intro ((decide (a1 > 100))) (And.intro hk3 ?_)
          refine Sub.trans (Sub.lo _) ?_
          refine Sub.of ?_ ?_ ⟨rfl, rfl, Nat.le_of_ble_eq_true rfl⟩ rfl
          · push_cast [hb4, hb5, hb6]
          · push_cast [hb4, hb5, hb6]
      · replace h := cond_no hb5 h
        refine VC.lastF tabOkF [some 16, some 17, some 18, some 19, some 20, some 21, some 22, some 23, some 24, some 25, some 26, some 27, some 28, some 29] rfl rfl (fun K hK => ?_)
        refine runOps_cut 8 (fun K2 hK2 => ?_)
        push_cast [hb4, hb5]
        repeat (refine And.intro (by omega) ?_)
        refine hK2 _ _ ?_
        clear hK2 K2
        simp only [List.drop_succ_cons, List.drop_zero]
        push_cast [hb4, hb5]
        repeat (refine And.intro (by omega) ?_)
        refine hK _ ?_
        clear hK K
        have hv := Option.some.inj h
        rw [← hv] at hk3
        refine Exists.intro (true) (And.intro hk3 ?_)
        refine Sub.trans (Sub.lo _) ?_
        refine Sub.of ?_ ?_ ⟨rfl, rfl, Nat.le_of_ble_eq_true rfl⟩ rfl
        · push_cast [hb4, hb5]
        · push_cast [hb4, hb5]
    · replace h := cond_no hb4 h
      refine VC.lastF tabOkF [some 16, some 17, some 18, some 19, some 20, some 21, some 22, some 23, some 24, some 25, some 26, some 27, some 28, some 29] rfl rfl (fun K hK => ?_)
      refine runOps_cut 8 (fun K2 hK2 => ?_)
      push_cast [hb4]
      repeat (refine And.intro (by omega) ?_)
      refine hK2 _ _ ?_
      clear hK2 K2
      simp only [List.drop_succ_cons, List.drop_zero]
      push_cast [hb4]
      repeat (refine And.intro (by omega) ?_)
      refine hK _ ?_
      clear hK K
      have hv := Option.some.inj h
      rw [← hv] at hk3
      refine Exists.intro (true) (And.intro hk3 ?_)
      refine Sub.trans (Sub.lo _) ?_
      refine Sub.of ?_ ?_ ⟨rfl, rfl, Nat.le_of_ble_eq_true rfl⟩ rfl
      · push_cast [hb4]
      · push_cast [hb4]
  · rintro i_1 h
    replace h : p_drydocklaw06_HelperDraws_J3 a0 a1 r1 i_1 = some r := h
    try push_cast
    unfold p_drydocklaw06_HelperDraws_J3 at h
    refine VC.cond rfl rfl (fun hc7 => ?_) (fun hc7 => ?_)
    · have hb7 : i_1 = true := by simpa using hc7
      replace h := cond_yes hb7 h
      refine VC.seqF tabOkF [some 30, some 4] [4] rfl rfl (fun K hK => ?_)
      push_cast [hb7]
      repeat (refine And.intro (by omega) ?_)
      refine hK _ ?_
      clear hK K
      refine VC.ret ?_
      have hr := Option.some.inj h
      subst hr
      refine endP (Sub.lo _) (Post.ret ?_ ?_ ?_)
      · push_cast [hb7]
      · push_cast [hb7]
      · rfl
    · have hb7 : i_1 = false := by simpa using hc7
      replace h := cond_no hb7 h
      refine VC.skip ?_
      refine VC.seqF tabOkF [some 31, some 32, some 7] [1, 2, 7] rfl rfl (fun K hK => ?_)
      push_cast [hb7]
      repeat (refine And.intro (by omega) ?_)
      refine hK _ ?_
      clear hK K
      obtain ⟨v8, h, hk8⟩ := pm_some h
      refine VC.seqJ (X := Unit) (fun x => p_drydocklaw06_HelperDraws_J8 = some r) (fun x => ⟨[], [], 68, 65, 0⟩) ?_ ?_
      · refine VC.seqF tabOkF [some 8] [1, 2, 7, 8] rfl rfl (fun K hK => ?_)
        push_cast [hb7]
        repeat (refine And.intro (by omega) ?_)
        refine hK _ ?_
        clear hK K
        refine VC.block ?_
        refine VC.loopP h (fun x => ⟨[(1, .raw (.int .i64 a1)), (2, .ref 0 0), (7, .raw (.int .u32 (x.2.1.toNat : Int))), (8, .raw (.int .i64 x.2.2))], [(0, .box 55 [.raw (.int .u32 (x.1.Ctx.a0.toNat : Int)), .raw (.int .u32 (x.1.Ctx.a1.toNat : Int)), .raw (.int .u32 (x.1.Ctx.a2.toNat : Int)), .raw (.int .u32 (x.1.Ctx.a3.toNat : Int)), .sl false (x.1.T.map enc_Table), .raw (.int .u32 (x.1.Seed.toNat : Int))])], 65, 65, 0⟩) ?_ ?_
        · refine Sub.trans (Sub.lo _) ?_
          refine Sub.of ?_ ?_ ⟨rfl, rfl, Nat.le_of_ble_eq_true rfl⟩ rfl
          · push_cast [hb7]
          · push_cast [hb7]
        rintro ⟨s_4, i_5, i_6⟩ b9 h hf9
        replace h : p_drydocklaw06_HelperDraws_L9 a1 s_4 i_5 i_6 = some b9 := h
        try push_cast
        unfold p_drydocklaw06_HelperDraws_L9 at h
        refine VC.seq ?_
        refine VC.seqF tabOkF [some 33, some 34, some 35] [1, 2, 7, 8, 35] rfl rfl (fun K hK => ?_)
        push_cast [hb7]
        repeat (refine And.intro (by omega) ?_)
        refine hK _ ?_
        clear hK K
        refine VC.cond rfl rfl (fun hc10 => ?_) (fun hc10 => ?_)
        · have hb10 : (decide (i_6 < a1)) = true := by simpa using hc10
          replace h := cond_yes hb10 h
          refine VC.skip ?_
          refine VC.seq ?_
          refine VC.block ?_
          obtain ⟨r11, hr11, h⟩ := po_some h
          refine VC.seqF tabOkF [some 39, some 40, some 38, some 41, some 42, some 43, some 9, none, some 10, some 11] [1, 2, 7, 8, 9, 10, 11] rfl rfl (fun K hK => ?_)
          push_cast [hb7, hb10]
          repeat (refine And.intro (by omega) ?_)
          refine callH (H := []) (Ctr.loH (Ctr.ren (Bij.swp 0 69 Bij.id) (c_helper_Call 4 s_4 [] hr11) (by push_cast [hb7, hb10]) (by push_cast [hb7, hb10]))) (by push_cast [hb7, hb10]) rfl rfl rfl ?_
          push_cast [hb7, hb10]
          repeat (refine And.intro (by omega) ?_)
          refine hK _ ?_
          clear hK K
          refine VC.sub (s' := ⟨[(1, .raw (.int .i64 a1)), (2, .ref 0 0), (7, .raw (.int .u32 (i_5.toNat : Int))), (8, .raw (.int .i64 i_6)), (9, .ref 74 0), (10, .raw (.int .u32 (r11.2.1.toNat : Int))), (11, .raw (.int .i64 r11.2.2))], [(0, .box 55 [.raw (.int .u32 (s_4.Ctx.a0.toNat : Int)), .raw (.int .u32 (s_4.Ctx.a1.toNat : Int)), .raw (.int .u32 (s_4.Ctx.a2.toNat : Int)), .raw (.int .u32 (s_4.Ctx.a3.toNat : Int)), .sl false (s_4.T.map enc_Table), .raw (.int .u32 (s_4.Seed.toNat : Int))]), (69, .row 27 6 0 (r11.1.T.map enc_Table)), (74, .box 55 [.raw (.int .u32 (r11.1.Ctx.a0.toNat : Int)), .raw (.int .u32 (r11.1.Ctx.a1.toNat : Int)), .raw (.int .u32 (r11.1.Ctx.a2.toNat : Int)), .raw (.int .u32 (r11.1.Ctx.a3.toNat : Int)), .row 69 0 6 0 r11.1.T.length, .raw (.int .u32 (r11.1.Seed.toNat : Int))])], 78, 65, 0⟩) (Sub.of ?_ ?_ ⟨rfl, rfl, Nat.le_of_ble_eq_true rfl⟩ rfl) ?_
          · push_cast [hb7, hb10]
          · push_cast [hb7, hb10]
          refine VC.seq ?_
          obtain ⟨v12, h, hk12⟩ := po_some h
          refine VC.seqJ (X := T_Env × Bool) (fun x => p_drydocklaw06_HelperDraws_J12 i_6 r11 x.1 x.2 = some b9) (fun x => ⟨[(1, .raw (.int .i64 a1)), (2, .ref 0 0), (8, .raw (.int .i64 i_6)), (9, .ref 74 0), (10, .raw (.int .u32 (r11.2.1.toNat : Int))), (62, .raw (.bool x.2))], [(0, .box 55 [.raw (.int .u32 (s_4.Ctx.a0.toNat : Int)), .raw (.int .u32 (s_4.Ctx.a1.toNat : Int)), .raw (.int .u32 (s_4.Ctx.a2.toNat : Int)), .raw (.int .u32 (s_4.Ctx.a3.toNat : Int)), .sl false (s_4.T.map enc_Table), .raw (.int .u32 (s_4.Seed.toNat : Int))]), (69, .row 27 6 0 (x.1.T.map enc_Table)), (74, .box 55 [.raw (.int .u32 (x.1.Ctx.a0.toNat : Int)), .raw (.int .u32 (x.1.Ctx.a1.toNat : Int)), .raw (.int .u32 (x.1.Ctx.a2.toNat : Int)), .raw (.int .u32 (x.1.Ctx.a3.toNat : Int)), .row 69 0 6 0 x.1.T.length, .raw (.int .u32 (x.1.Seed.toNat : Int))])], 97, 65, 0⟩) ?_ ?_
          · rcases Bool.eq_false_or_eq_true (r11.2.2 != 0) with hb13 | hb13
            · replace h := cond_yes hb13 h
              refine VC.lastF tabOkF [some 44, some 45, some 46, some 47, some 48, some 49, some 50, some 51, some 52, some 53, some 54, some 55, some 56, some 57, some 58, some 59, some 60, some 61, some 62] rfl rfl (fun K hK => ?_)
              refine runOps_cut 8 (fun K2 hK2 => ?_)
              push_cast [hb7, hb10, hb13]
              repeat (refine And.intro (by omega) ?_)
              refine hK2 _ _ ?_
              clear hK2 K2
              simp only [List.drop_succ_cons, List.drop_zero]
              refine runOps_cut 8 (fun K2 hK2 => ?_)
              push_cast [hb7, hb10, hb13]
              repeat (refine And.intro (by omega) ?_)
              refine hK2 _ _ ?_
              clear hK2 K2
              simp only [List.drop_succ_cons, List.drop_zero]
              push_cast [hb7, hb10, hb13]
              repeat (refine And.intro (by omega) ?_)
              refine hK _ ?_
              clear hK K
              have hv := Option.some.inj h
              rw [← hv] at hk12
              refine Exists.intro ((r11.1, true)) (And.intro hk12 ?_)
              refine Sub.trans (Sub.lo _) ?_
              refine Sub.of ?_ ?_ ⟨rfl, rfl, Nat.le_of_ble_eq_true rfl⟩ rfl
              · push_cast [hb7, hb10, hb13]
              · push_cast [hb7, hb10, hb13]
            · replace h := cond_no hb13 h
              obtain ⟨r14, hr14, h⟩ := po_some h
              rcases Bool.eq_false_or_eq_true ((r11.2.1.toNat : Int) != (r14.toNat : Int)) with hb15 | hb15
              · replace h := cond_yes hb15 h
                refine VC.lastF tabOkF [some 44, some 45, some 46, some 47, some 48, some 49, some 50, some 51, some 52, some 53, some 54, some 55, some 56, some 57, some 58, some 59, some 60, some 61, some 62] rfl rfl (fun K hK => ?_)
                refine runOps_cut 8 (fun K2 hK2 => ?_)
                push_cast [hb7, hb10, hb13, hb15]
                repeat (refine And.intro (by omega) ?_)
                refine callP (Ctr.lo (c_helper_Draw i_5 hr14)) rfl ?_
                push_cast [hb7, hb10, hb13, hb15]
                repeat (refine And.intro (by omega) ?_)
                refine hK2 _ _ ?_
                clear hK2 K2
                simp only [List.drop_succ_cons, List.drop_zero]
                refine runOps_cut 8 (fun K2 hK2 => ?_)
                push_cast [hb7, hb10, hb13, hb15]
                repeat (refine And.intro (by omega) ?_)
                refine hK2 _ _ ?_
                clear hK2 K2
                simp only [List.drop_succ_cons, List.drop_zero]
                push_cast [hb7, hb10, hb13, hb15]
                repeat (refine And.intro (by omega) ?_)
                refine hK _ ?_
                clear hK K
                have hv := Option.some.inj h
                rw [← hv] at hk12
                refine Exists.intro ((r11.1, true)) (And.intro hk12 ?_)
                refine Sub.trans (Sub.lo _) ?_
                refine Sub.of ?_ ?_ ⟨rfl, rfl, Nat.le_of_ble_eq_true rfl⟩ rfl
                · push_cast [hb7, hb10, hb13, hb15]
                · push_cast [hb7, hb10, hb13, hb15]
              · replace h := cond_no hb15 h
                rcases Bool.eq_false_or_eq_true ((r11.1.Seed.toNat : Int) != (r11.2.1.toNat : Int)) with hb16 | hb16
                · replace h := cond_yes hb16 h
                  refine VC.lastF tabOkF [some 44, some 45, some 46, some 47, some 48, some 49, some 50, some 51, some 52, some 53, some 54, some 55, some 56, some 57, some 58, some 59, some 60, some 61, some 62] rfl rfl (fun K hK => ?_)
                  refine runOps_cut 8 (fun K2 hK2 => ?_)
                  push_cast [hb7, hb10, hb13, hb15, hb16]
                  repeat (refine And.intro (by omega) ?_)
                  refine callP (Ctr.lo (c_helper_Draw i_5 hr14)) rfl ?_
                  push_cast [hb7, hb10, hb13, hb15, hb16]
                  repeat (refine And.intro (by omega) ?_)
                  refine hK2 _ _ ?_
                  clear hK2 K2
                  simp only [List.drop_succ_cons, List.drop_zero]
                  refine runOps_cut 8 (fun K2 hK2 => ?_)
                  push_cast [hb7, hb10, hb13, hb15, hb16]
                  repeat (refine And.intro (by omega) ?_)
                  refine hK2 _ _ ?_
                  clear hK2 K2
                  simp only [List.drop_succ_cons, List.drop_zero]
                  push_cast [hb7, hb10, hb13, hb15, hb16]
                  repeat (refine And.intro (by omega) ?_)
                  refine hK _ ?_
                  clear hK K
                  have hv := Option.some.inj h
                  rw [← hv] at hk12
                  refine Exists.intro ((r11.1, true)) (And.intro hk12 ?_)
                  refine Sub.trans (Sub.lo _) ?_
                  refine Sub.of ?_ ?_ ⟨rfl, rfl, Nat.le_of_ble_eq_true rfl⟩ rfl
                  · push_cast [hb7, hb10, hb13, hb15, hb16]
                  · push_cast [hb7, hb10, hb13, hb15, hb16]
                · replace h := cond_no hb16 h
                  refine VC.lastF tabOkF [some 44, some 45, some 46, some 47, some 48, some 49, some 50, some 51, some 52, some 53, some 54, some 55, some 56, some 57, some 58, some 59, some 60, some 61, some 62] rfl rfl (fun K hK => ?_)
                  refine runOps_cut 8 (fun K2 hK2 => ?_)
                  push_cast [hb7, hb10, hb13, hb15, hb16]
                  repeat (refine And.intro (by omega) ?_)
                  refine callP (Ctr.lo (c_helper_Draw i_5 hr14)) rfl ?_
                  push_cast [hb7, hb10, hb13, hb15, hb16]
                  repeat (refine And.intro (by omega) ?_)
                  refine hK2 _ _ ?_
                  clear hK2 K2
                  simp only [List.drop_succ_cons, List.drop_zero]
                  refine runOps_cut 8 (fun K2 hK2 => ?_)
                  push_cast [hb7, hb10, hb13, hb15, hb16]
                  repeat (refine And.intro (by omega) ?_)
                  refine hK2 _ _ ?_
                  clear hK2 K2
                  simp only [List.drop_succ_cons, List.drop_zero]
                  push_cast [hb7, hb10, hb13, hb15, hb16]
                  repeat (refine And.intro (by omega) ?_)
                  refine hK _ ?_
                  clear hK K
                  have hv := Option.some.inj h
                  rw [← hv] at hk12
                  refine Exists.intro ((r11.1, ((r11.2.1.toNat : Int) == (i_5.toNat : Int)))) (And.intro hk12 ?_)
                  refine Sub.trans (Sub.lo _) ?_
                  refine Sub.of ?_ ?_ ⟨rfl, rfl, Nat.le_of_ble_eq_true rfl⟩ rfl
                  · push_cast [hb7, hb10, hb13, hb15, hb16]
                  · push_cast [hb7, hb10, hb13, hb15, hb16]
          · rintro ⟨s_14, i_15⟩ h
            replace h : p_drydocklaw06_HelperDraws_J12 i_6 r11 s_14 i_15 = some b9 := h
            try push_cast
            unfold p_drydocklaw06_HelperDraws_J12 at h
            refine VC.cond rfl rfl (fun hc17 => ?_) (fun hc17 => ?_)
            · have hb17 : i_15 = true := by simpa using hc17
              replace h := cond_yes hb17 h
              refine VC.seqF tabOkF [some 4] [4] rfl rfl (fun K hK => ?_)
              push_cast [hb7, hb10, hb17]
              repeat (refine And.intro (by omega) ?_)
              refine hK _ ?_
              clear hK K
              refine VC.ret ?_
              replace h := congrArg some (hf9 _ (Option.some.inj h).symm)
              have hv := Option.some.inj h
              rw [← hv] at hk8
              replace h : some false = some r := hk8
              have hr := Option.some.inj h
              subst hr
              refine endP (Sub.lo _) (Post.ret ?_ ?_ ?_)
              · push_cast [hb7, hb10, hb17]
              · push_cast [hb7, hb10, hb17]
              · rfl
            · have hb17 : i_15 = false := by simpa using hc17
              replace h := cond_no hb17 h
              refine VC.skip ?_
              refine VC.seqF tabOkF [some 63, some 7] [1, 2, 7, 8, 9] rfl rfl (fun K hK => ?_)
              push_cast [hb7, hb10, hb17]
              repeat (refine And.intro (by omega) ?_)
              refine hK _ ?_
              clear hK K
              refine VC.lastF tabOkF [some 64, none] rfl rfl (fun K hK => ?_)
              push_cast [hb7, hb10, hb17]
              repeat (refine And.intro (by omega) ?_)
              refine hK _ ?_
              clear hK K
              refine VC.lastF tabOkF [some 36, some 37, some 8] rfl rfl (fun K hK => ?_)
              push_cast [hb7, hb10, hb17]
              repeat (refine And.intro (by omega) ?_)
              refine hK _ ?_
              clear hK K
              refine Exists.intro ((s_14, r11.2.1, (IntKind.i64.wrap (i_6 + 1)))) (And.intro (Option.some.inj h).symm ?_)
              refine Sub.trans (Sub.freeze prog (b := 0) (j := 4) rfl rfl rfl (by push_cast [hb7, hb10, hb17] <;> omega) (by decide)) ?_
              refine Sub.trans (Sub.lo _) ?_
              refine Sub.of ?_ ?_ ⟨rfl, rfl, Nat.le_of_ble_eq_true rfl⟩ rfl
              · push_cast [hb7, hb10, hb17]
              · push_cast [hb7, hb10, hb17]
        · have hb10 : (decide (i_6 < a1)) = false := by simpa using hc10
          replace h := cond_no hb10 h
          refine VC.exit ?_
          replace h := congrArg some (hf9 _ (Option.some.inj h).symm)
          have hv := Option.some.inj h
          rw [← hv] at hk8
          refine Exists.intro (()) (And.intro hk8 ?_)
          refine Sub.trans (Sub.lo _) ?_
          refine Sub.of ?_ ?_ ⟨rfl, rfl, Nat.le_of_ble_eq_true rfl⟩ rfl
          · push_cast [hb7, hb10]
          · push_cast [hb7, hb10]
      · rintro ⟨⟩ h
        replace h : p_drydocklaw06_HelperDraws_J8 = some r := h
        try push_cast
        unfold p_drydocklaw06_HelperDraws_J8 at h
        refine VC.seqF tabOkF [some 4] [4] rfl rfl (fun K hK => ?_)
        push_cast [hb7]
        repeat (refine And.intro (by omega) ?_)
        refine hK _ ?_
        clear hK K
        refine VC.ret ?_
        have hr := Option.some.inj h
        subst hr
        refine endP (Sub.lo _) (Post.ret ?_ ?_ ?_)
        · push_cast [hb7]
        · push_cast [hb7]
        · rfl
end Go.Proofs.Ytpmnchgpbojppaa

/- HelperDraws, plainly. -/
set_option linter.unusedVariables false
set_option linter.unusedSimpArgs false
namespace Go.Proofs.Ytpmnchgpbojppaa
open Go Go.RowKit Go.Proofs.Try

theorem draw_is (s : UInt32) : p_helper_Draw s = some (1664525 * s + 1013904223) := rfl
theorem call_draw {e : T_Env} (h : Fits e.T) : p_helper_Call 4 e [] = some (⟨e.Ctx, e.T, 1664525 * e.Seed + 1013904223⟩, 1664525 * e.Seed + 1013904223, 0) := by
  have ha : p_helper_Args 4 = some 0 := rfl
  unfold p_helper_Call
  rw [ha]
  simp only [po_of]
  show po (some false) (fun x => p_helper_Call_J2 4 e [] x) = _
  simp only [po_of, p_helper_Call_J2, cond_false, own_is h]
  rfl
theorem draw_ne (s : UInt32) : 1664525 * s + 1013904223 ≠ s := by
  intro h
  have h := congrArg UInt32.toNat h
  have e1 : (1664525 : UInt32).toNat = 1664525 := rfl
  have e2 : (1013904223 : UInt32).toNat = 1013904223 := rfl
  rw [UInt32.toNat_add, UInt32.toNat_mul, e1, e2] at h
  have := s.toNat_lt
  omega
theorem call_draw' {e : T_Env} (h : Fits e.T) : ∃ d : UInt32, d ≠ e.Seed ∧ p_helper_Draw e.Seed = some d ∧ p_helper_Call 4 e [] = some (⟨e.Ctx, e.T, d⟩, d, 0) := ⟨_, draw_ne _, draw_is _, call_draw h⟩
theorem draws_step {n : Int} {s : T_Env} {m : Nat} (h3 : Fits s.T) (hlt : (m : Int) < n) (hn : n ≤ 100) : ∃ d : UInt32, p_drydocklaw06_HelperDraws_L9 n s s.Seed m = some (.inl (⟨s.Ctx, s.T, d⟩, d, ((m + 1 : Nat) : Int))) := by
  obtain ⟨d, e1, e2, e3⟩ := call_draw' h3
  have hd : decide ((m : Int) < n) = true := by simpa using hlt
  have hne : (((d.toNat : Nat) : Int) == (s.Seed.toNat : Int)) = false := by
    rw [beq_eq_false_iff_ne]
    intro h
    exact e1 (UInt32.toNat_inj.1 (Int.ofNat_inj.1 h))
  refine ⟨d, ?_⟩
  simp only [p_drydocklaw06_HelperDraws_L9, hd, cond_true, e3, e2, po_of, bne_self_eq_false, cond_false, hne, p_drydocklaw06_HelperDraws_J12, w64 (show m < 9223372036854775807 by omega)]
theorem draws_true (e : T_Env) (n : Int) : p_drydocklaw06_HelperDraws e n = some true := by
  obtain ⟨b, hb1, hb2⟩ := few_tells e.T
  unfold p_drydocklaw06_HelperDraws
  simp only [awake6, hb1, po_of, cond_true]
  cases b with
  | false => rfl
  | true =>
    have hF := (hb2 rfl).fits
    simp only [cond_true]
    by_cases h0 : n < 0
    · simp [h0, p_drydocklaw06_HelperDraws_J3]
    · by_cases h1 : n > 100
      · simp [h0, h1, p_drydocklaw06_HelperDraws_J3]
      · have d0 : decide (n < 0) = false := by simpa using h0
        have d1 : decide (n > 100) = false := by simpa using h1
        simp only [d0, d1, cond_false, po_of, p_drydocklaw06_HelperDraws_J3]
        have key := lp_inv (step := fun x => p_drydocklaw06_HelperDraws_L9 n x.1 x.2.1 x.2.2) (fun s => s.1.Seed = s.2.1 ∧ Fits s.1.T ∧ ∃ m : Nat, s.2.2 = (m : Int) ∧ (m : Int) ≤ n) (fun s => (n - s.2.2).toNat) (fun r => r = .inl ()) (by
          rintro ⟨s, seed, i⟩ ⟨h2, h3, m, h4, h5⟩
          simp only at h2 h3 h4
          subst h2
          subst h4
          by_cases hlt : (m : Int) < n
          · left
            obtain ⟨d, hs⟩ := draws_step h3 hlt (by omega)
            refine ⟨_, hs, ⟨rfl, h3, m + 1, rfl, by omega⟩, ?_⟩
            show (n - ((m + 1 : Nat) : Int)).toNat < (n - (m : Int)).toNat
            omega
          · right
            have hd : decide ((m : Int) < n) = false := by simpa using hlt
            refine ⟨.inl (), ?_, rfl⟩
            simp only [p_drydocklaw06_HelperDraws_L9, hd, cond_false]) (e, e.Seed, 0) ⟨rfl, hF, 0, rfl, by omega⟩
        obtain ⟨r, h6, rfl⟩ := key
        rw [h6]
        rfl
end Go.Proofs.Ytpmnchgpbojppaa

/-
  PROVED: the statement HelperDraws of the given seat: whatever the environment and the number, drydocklaw06.HelperDraws returns true, and what was handed in reads as it did.
  Conditions: none beyond the statement's own.
-/
set_option linter.unusedVariables false
set_option linter.unusedSimpArgs false
namespace Go.Proofs.Ytpmnchgpbojppaa
open Go Go.ChangeShapes Go.WideShapes Go.ChangeAt Go.RowKit Go.Proofs.Try

theorem o_25 {H : Type} {enc : TypeId × Value → H} {w : World} {base : Nat} {spare : Nat → Bool} {held : Bool} {fuel : Nat} {cs : List Value} {x : DataW H × List MemPlace} (h : DataW.trod enc prog w base spare held fuel 25 cs = some x) : ∃ a : UInt32, DRels w (okW w) (encU32 a) cs:= oU32 underlying25 h
theorem o_53 {H : Type} {enc : TypeId × Value → H} {w : World} {base : Nat} {spare : Nat → Bool} {held : Bool} {fuel : Nat} {cs : List Value} {x : DataW H × List MemPlace} (h : DataW.trod enc prog w base spare held fuel 53 cs = some x) : ∃ a : (A4 UInt32), DRels w (okW w) ((encA4 encU32) a) cs := by
  obtain ⟨xs, m, _, _, hl, hxl, hg⟩ := DataW.trod_array underlying53 h
  have hl : cs.length = 4 := hl.trans (by kernel_rfl)
  replace hxl : xs.length = 4 := hxl
  have e0 : prog.cellsOf 25 = 1 := by kernel_rfl
  have h0 := hg 0 (by decide)
  simp only [e0, Nat.reduceMul] at h0
  obtain ⟨b0, r0⟩ := o_25 (h0.trans (List.getElem?_eq_getElem (by omega)))
  have e1 : prog.cellsOf 25 = 1 := by kernel_rfl
  have h1 := hg 1 (by decide)
  simp only [e1, Nat.reduceMul] at h1
  obtain ⟨b1, r1⟩ := o_25 (h1.trans (List.getElem?_eq_getElem (by omega)))
  have e2 : prog.cellsOf 25 = 1 := by kernel_rfl
  have h2 := hg 2 (by decide)
  simp only [e2, Nat.reduceMul] at h2
  obtain ⟨b2, r2⟩ := o_25 (h2.trans (List.getElem?_eq_getElem (by omega)))
  have e3 : prog.cellsOf 25 = 1 := by kernel_rfl
  have h3 := hg 3 (by decide)
  simp only [e3, Nat.reduceMul] at h3
  obtain ⟨b3, r3⟩ := o_25 (h3.trans (List.getElem?_eq_getElem (by omega)))
  have r := (DRels.cat (DRels.cat (DRels.cat r0 r1) r2) r3)
  refine ⟨A4.mk b0 b1 b2 b3, ?_⟩
  have hf := full hl
  rw [← hf]
  exact r
theorem o_3 {H : Type} {enc : TypeId × Value → H} {w : World} {base : Nat} {spare : Nat → Bool} {held : Bool} {fuel : Nat} {cs : List Value} {x : DataW H × List MemPlace} (h : DataW.trod enc prog w base spare held fuel 3 cs = some x) : ∃ a : Int, DRels w (okW w) (encI64 a) cs:= oI64 underlying3 h
theorem o_23 {H : Type} {enc : TypeId × Value → H} {w : World} {base : Nat} {spare : Nat → Bool} {held : Bool} {fuel : Nat} {cs : List Value} {x : DataW H × List MemPlace} (h : DataW.trod enc prog w base spare held fuel 23 cs = some x) : ∃ a : T_Schema, DRels w (okW w) (enc_Schema a) cs := by
  obtain ⟨xs, m, _, _, hl, hxl, hg⟩ := DataW.trod_struct underlying23 h
  have hl : cs.length = 4 := hl.trans (by kernel_rfl)
  replace hxl : xs.length = 4 := hxl
  have e0 : prog.cellsOf 3 = 1 := by kernel_rfl
  have h0 : DataW.trod enc prog w base spare held m 3 ((cs.drop 0).take (prog.cellsOf 3)) = xs[0]? := hg 0 _ rfl
  simp only [e0, Nat.reduceMul] at h0
  obtain ⟨b0, r0⟩ := o_3 (h0.trans (List.getElem?_eq_getElem (by omega)))
  have e1 : prog.cellsOf 3 = 1 := by kernel_rfl
  have h1 : DataW.trod enc prog w base spare held m 3 ((cs.drop 1).take (prog.cellsOf 3)) = xs[1]? := hg 1 _ rfl
  simp only [e1, Nat.reduceMul] at h1
  obtain ⟨b1, r1⟩ := o_3 (h1.trans (List.getElem?_eq_getElem (by omega)))
  have e2 : prog.cellsOf 3 = 1 := by kernel_rfl
  have h2 : DataW.trod enc prog w base spare held m 3 ((cs.drop 2).take (prog.cellsOf 3)) = xs[2]? := hg 2 _ rfl
  simp only [e2, Nat.reduceMul] at h2
  obtain ⟨b2, r2⟩ := o_3 (h2.trans (List.getElem?_eq_getElem (by omega)))
  have e3 : prog.cellsOf 3 = 1 := by kernel_rfl
  have h3 : DataW.trod enc prog w base spare held m 3 ((cs.drop 3).take (prog.cellsOf 3)) = xs[3]? := hg 3 _ rfl
  simp only [e3, Nat.reduceMul] at h3
  obtain ⟨b3, r3⟩ := o_3 (h3.trans (List.getElem?_eq_getElem (by omega)))
  have r := (DRels.cat (DRels.cat (DRels.cat r0 r1) r2) r3)
  refine ⟨T_Schema.mk b0 b1 b2 b3, ?_⟩
  have hf := full hl
  rw [← hf]
  exact r
theorem o_36 {H : Type} {enc : TypeId × Value → H} {w : World} {base : Nat} {spare : Nat → Bool} {held : Bool} {fuel : Nat} {cs : List Value} {x : DataW H × List MemPlace} (h : DataW.trod enc prog w base spare held fuel 36 cs = some x) : ∃ a : (List UInt32), DRels w (okW w) ((encL encU32) a) cs:= oSl (f := encU32) (sz := 1) underlying36 (by kernel_rfl) (by decide) (fun _ => rfl) (fun _ _ _ h => o_25 h) h
theorem o_39 {H : Type} {enc : TypeId × Value → H} {w : World} {base : Nat} {spare : Nat → Bool} {held : Bool} {fuel : Nat} {cs : List Value} {x : DataW H × List MemPlace} (h : DataW.trod enc prog w base spare held fuel 39 cs = some x) : ∃ a : T_Entry, DRels w (okW w) (enc_Entry a) cs := by
  obtain ⟨xs, m, _, _, hl, hxl, hg⟩ := DataW.trod_struct underlying39 h
  have hl : cs.length = 2 := hl.trans (by kernel_rfl)
  replace hxl : xs.length = 2 := hxl
  have e0 : prog.cellsOf 25 = 1 := by kernel_rfl
  have h0 : DataW.trod enc prog w base spare held m 25 ((cs.drop 0).take (prog.cellsOf 25)) = xs[0]? := hg 0 _ rfl
  simp only [e0, Nat.reduceMul] at h0
  obtain ⟨b0, r0⟩ := o_25 (h0.trans (List.getElem?_eq_getElem (by omega)))
  have e1 : prog.cellsOf 36 = 1 := by kernel_rfl
  have h1 : DataW.trod enc prog w base spare held m 36 ((cs.drop 1).take (prog.cellsOf 36)) = xs[1]? := hg 1 _ rfl
  simp only [e1, Nat.reduceMul] at h1
  obtain ⟨b1, r1⟩ := o_36 (h1.trans (List.getElem?_eq_getElem (by omega)))
  have r := (DRels.cat r0 r1)
  refine ⟨T_Entry.mk b0 b1, ?_⟩
  have hf := full hl
  rw [← hf]
  exact r
theorem o_24 {H : Type} {enc : TypeId × Value → H} {w : World} {base : Nat} {spare : Nat → Bool} {held : Bool} {fuel : Nat} {cs : List Value} {x : DataW H × List MemPlace} (h : DataW.trod enc prog w base spare held fuel 24 cs = some x) : ∃ a : (List T_Entry), DRels w (okW w) ((encL enc_Entry) a) cs:= oSl (f := enc_Entry) (sz := 2) underlying24 (by kernel_rfl) (by decide) (fun _ => rfl) (fun _ _ _ h => o_39 h) h
theorem o_27 {H : Type} {enc : TypeId × Value → H} {w : World} {base : Nat} {spare : Nat → Bool} {held : Bool} {fuel : Nat} {cs : List Value} {x : DataW H × List MemPlace} (h : DataW.trod enc prog w base spare held fuel 27 cs = some x) : ∃ a : T_Table, DRels w (okW w) (enc_Table a) cs := by
  obtain ⟨xs, m, _, _, hl, hxl, hg⟩ := DataW.trod_struct underlying27 h
  have hl : cs.length = 6 := hl.trans (by kernel_rfl)
  replace hxl : xs.length = 3 := hxl
  have e0 : prog.cellsOf 23 = 4 := by kernel_rfl
  have h0 : DataW.trod enc prog w base spare held m 23 ((cs.drop 0).take (prog.cellsOf 23)) = xs[0]? := hg 0 _ rfl
  simp only [e0, Nat.reduceMul] at h0
  obtain ⟨b0, r0⟩ := o_23 (h0.trans (List.getElem?_eq_getElem (by omega)))
  have e1 : prog.cellsOf 24 = 1 := by kernel_rfl
  have h1 : DataW.trod enc prog w base spare held m 24 ((cs.drop 4).take (prog.cellsOf 24)) = xs[1]? := hg 1 _ rfl
  simp only [e1, Nat.reduceMul] at h1
  obtain ⟨b1, r1⟩ := o_24 (h1.trans (List.getElem?_eq_getElem (by omega)))
  have e2 : prog.cellsOf 25 = 1 := by kernel_rfl
  have h2 : DataW.trod enc prog w base spare held m 25 ((cs.drop 5).take (prog.cellsOf 25)) = xs[2]? := hg 2 _ rfl
  simp only [e2, Nat.reduceMul] at h2
  obtain ⟨b2, r2⟩ := o_25 (h2.trans (List.getElem?_eq_getElem (by omega)))
  have r := (DRels.cat (DRels.cat r0 r1) r2)
  refine ⟨T_Table.mk b0 b1 b2, ?_⟩
  have hf := full hl
  rw [← hf]
  exact r
theorem o_51 {H : Type} {enc : TypeId × Value → H} {w : World} {base : Nat} {spare : Nat → Bool} {held : Bool} {fuel : Nat} {cs : List Value} {x : DataW H × List MemPlace} (h : DataW.trod enc prog w base spare held fuel 51 cs = some x) : ∃ a : (List T_Table), DRels w (okW w) ((encL enc_Table) a) cs:= oSl (f := enc_Table) (sz := 6) underlying51 (by kernel_rfl) (by decide) (fun _ => rfl) (fun _ _ _ h => o_27 h) h
theorem o_55 {H : Type} {enc : TypeId × Value → H} {w : World} {base : Nat} {spare : Nat → Bool} {held : Bool} {fuel : Nat} {cs : List Value} {x : DataW H × List MemPlace} (h : DataW.trod enc prog w base spare held fuel 55 cs = some x) : ∃ a : T_Env, DRels w (okW w) (enc_Env a) cs := by
  obtain ⟨xs, m, _, _, hl, hxl, hg⟩ := DataW.trod_struct underlying55 h
  have hl : cs.length = 6 := hl.trans (by kernel_rfl)
  replace hxl : xs.length = 3 := hxl
  have e0 : prog.cellsOf 53 = 4 := by kernel_rfl
  have h0 : DataW.trod enc prog w base spare held m 53 ((cs.drop 0).take (prog.cellsOf 53)) = xs[0]? := hg 0 _ rfl
  simp only [e0, Nat.reduceMul] at h0
  obtain ⟨b0, r0⟩ := o_53 (h0.trans (List.getElem?_eq_getElem (by omega)))
  have e1 : prog.cellsOf 51 = 1 := by kernel_rfl
  have h1 : DataW.trod enc prog w base spare held m 51 ((cs.drop 4).take (prog.cellsOf 51)) = xs[1]? := hg 1 _ rfl
  simp only [e1, Nat.reduceMul] at h1
  obtain ⟨b1, r1⟩ := o_51 (h1.trans (List.getElem?_eq_getElem (by omega)))
  have e2 : prog.cellsOf 25 = 1 := by kernel_rfl
  have h2 : DataW.trod enc prog w base spare held m 25 ((cs.drop 5).take (prog.cellsOf 25)) = xs[2]? := hg 2 _ rfl
  simp only [e2, Nat.reduceMul] at h2
  obtain ⟨b2, r2⟩ := o_25 (h2.trans (List.getElem?_eq_getElem (by omega)))
  have r := (DRels.cat (DRels.cat r0 r1) r2)
  refine ⟨T_Env.mk b0 b1 b2, ?_⟩
  have hf := full hl
  rw [← hf]
  exact r

theorem helperDrawsOwn : ownKnob Try.prog.godebug = none := by kernel_rfl
theorem helperDrawsLaid : laidOutB Try.prog = true := by kernel_rfl

set_option maxRecDepth 100000 in
theorem helperDraws_lifted (os : Os) (started : os.Started) (H : Type) (enc : TypeId × Value → H) :
    ReturnsInHanded {} Try.checked os 15 .any (Rows.helperDrawsSpec.pre6 enc Try.prog Try.f15 Rows.helperDrawsRow.domain false) (Rows.helperDrawsSpec.post enc Try.prog Try.f15 false true false false) := by
  refine returnsInHanded_of_change (C := Try.checked) helperDrawsOwn started (by kernel_rfl) Try.func15
    (ChangeSpec.witness6 (enc := enc) (C := Try.checked) false ⟨#[], #[.agg #[.int .u32 0, .int .u32 0, .int .u32 0, .int .u32 0, .slice none 0 0, .int .u32 0], .int .i64 0], []⟩ 8 (by kernel_rfl) (by kernel_rfl) (by kernel_rfl) (by kernel_rfl)) ?_
  intro W base args ds gs before hval0 hW _ _
  have hval : ∀ (j : Nat) t v, Try.f15.params[j]? = some t → args[j]? = some v → Value.okWide Try.prog W .any base t v := hval0
  have hW' := hW
  obtain ⟨p, q, hA0, hV, rfl, hfz, hnd⟩ := hW
  have hA : DataW.TrodAll enc Try.prog W 0 (fun _ => true) true Try.f15.params.toList args.toList ds p := hA0
  rw [Try.params15] at hA hval
  obtain ⟨l⟩ := args
  obtain ⟨v0, l0, d0, ds0, p0, q0, rfl, rfl, _, h0, hA1⟩ := trodAll_cons hA
  obtain ⟨v1, l1, d1, ds1, p1, q1, rfl, rfl, _, h1, hA2⟩ := trodAll_cons hA1
  obtain ⟨rfl, rfl, _⟩ := trodAll_nil hA2
  obtain ⟨rfl, rfl⟩ := trodVars_none hV
  obtain ⟨cs0, rfl, _⟩ := okWide_struct underlying55 (hval 0 _ v0 rfl rfl)
  obtain ⟨fuel0, hf0⟩ := h0
  obtain ⟨a0, r0⟩ := o_55 hf0
  obtain ⟨z1, rfl⟩ := okWide_int underlying3 (hval 1 _ v1 rfl rfl)
  obtain ⟨fuel1, hf1⟩ := h1
  obtain ⟨a1, r1⟩ := o_3 hf1
  refine (Ctr.law (c_drydocklaw06_HelperDraws a0 a1 (draws_true a0 a1)) rfl (VRels.of1 (.cons (arg_agg r0) (.cons (arg_one r1) (.nil))))).mono fun e W' ⟨he, hw⟩ => ?_
  subst he
  exact ⟨_, rfl, post_law helperDrawsLaid hW' rfl rfl (by kernel_rfl) rfl rfl rfl hw⟩

theorem helperDraws_holds : Rows.HelperDrawsSaid :=
  OpenClaim.holds_of_wide 15 Try.f15 rfl rfl rfl rfl rfl rfl rfl ⟨rfl, rfl, rfl, rfl, rfl⟩ rfl rfl rfl rfl rfl (by kernel_rfl) Try.func15 (by kernel_rfl)
    (of_decide_eq_true (by kernel_rfl)) (by unfold Func.isWrapper; first | (rw [if_pos (by decide +kernel)]; kernel_rfl) | (rw [if_neg (by decide +kernel)]; exact ⟨rfl, rfl⟩))
    (fun os started H enc _ => helperDraws_lifted os started H enc)
end Go.Proofs.Ytpmnchgpbojppaa

