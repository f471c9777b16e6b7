/- Packed texts: Zdrydocklaw06HelperAfter, Ha. -/
import Derived.Test.YtpmnchgpbojppaaHaf1
/- The plain function of drydock/drydocklaw06.HelperAfter. -/
set_option linter.unusedVariables false
set_option linter.unusedSimpArgs false
namespace Go.Proofs.Ytpmnchgpbojppaa
open Go Go.RowKit Go.Proofs.Try
noncomputable def p_drydocklaw06_HelperAfter_J9 (i_2 : Bool) : Option (Bool) :=
  some i_2
noncomputable def p_drydocklaw06_HelperAfter_J18 (i_3 : Bool) : Option (Bool) :=
  some i_3
noncomputable def p_drydocklaw06_HelperAfter_J3 (a0 : T_Env) (a1 : UInt32) (a2 : UInt32) (a3 : UInt32) (a4 : UInt32) (r1 : Bool) (i_1 : Bool) : Option (Bool) :=
  cond i_1 (
  some r1) (
  po (p_helper_Call 1 a0 ([a1, a2, a3, a4])) fun r7 =>
  cond (r7.2.2 != 0) (
  po (
  cond ((r7.2.1.toNat : Int) == 0) (
  po (p_drydockref06_Same r7.1 a0) fun r11 =>
  some r11) (
  some false)) (fun x => p_drydocklaw06_HelperAfter_J9 x)) (
  cond ((r7.2.1.toNat : Int) != 0) (
  po (p_drydockref06_Same r7.1 a0) fun r13 =>
  some r13) (
  po (p_helper_Call 0 r7.1 ([a1, a2, a3])) fun r14 =>
  po (p_helper_Call 3 r7.1 ([a1, a2])) fun r15 =>
  po (p_helper_Call 2 r7.1 ([a1, a2])) fun r16 =>
  po (p_helper_Call 0 r16.1 ([a1, a2, a3])) fun r17 =>
  po (
  cond (r14.2.2 == 0) (
  cond (r15.2.2 == 0) (
  cond (r16.2.2 == 0) (
  cond (r17.2.2 == 0) (
  cond ((r14.2.1.toNat : Int) == (a4.toNat : Int)) (
  cond ((r15.2.1.toNat : Int) == 1) (
  cond ((r16.2.1.toNat : Int) == 1) (
  some ((r17.2.1.toNat : Int) == 0)) (
  some false)) (
  some false)) (
  some false)) (
  some false)) (
  some false)) (
  some false)) (
  some false)) (fun x => p_drydocklaw06_HelperAfter_J18 x))))
noncomputable def p_drydocklaw06_HelperAfter (a0 : T_Env) (a1 : UInt32) (a2 : UInt32) (a3 : UInt32) (a4 : UInt32) : Option (Bool) :=
  po (p_drydocklaw06_awake) fun r1 =>
  po (p_drydockref05_Few a0.T) fun r2 =>
  po (
  cond r1 (
  cond r2 (
  some (decide ((a1.toNat : Int) ≥ (a0.T.length : Int)))) (
  some true)) (
  some true)) (fun x => p_drydocklaw06_HelperAfter_J3 a0 a1 a2 a3 a4 r1 x)
set_option maxHeartbeats 4000000 in
set_option maxRecDepth 100000 in
theorem c_drydocklaw06_HelperAfter (a0 : T_Env) (a1 : UInt32) (a2 : UInt32) (a3 : UInt32) (a4 : UInt32) {r : Bool} (h : p_drydocklaw06_HelperAfter a0 a1 a2 a3 a4 = some r) : Ctr prog 14 [.agg (enc_Env a0), .raw (.int .u32 (a1.toNat : Int)), .raw (.int .u32 (a2.toNat : Int)), .raw (.int .u32 (a3.toNat : Int)), .raw (.int .u32 (a4.toNat : Int))] [] (.raw (.bool r)) [] := by
  unfold p_drydocklaw06_HelperAfter at h
  refine Ctr.ofW tabOk func14 rfl call14 0 _ ntmps14 [.tmp 10] rfl rfl rfl (fun B => ?_)
  refine VC.seqF tabOkF [some 5, some 10] [1, 2, 3, 4, 5] rfl rfl (fun K hK => ?_)
  push_cast
  repeat (refine And.intro (by omega) ?_)
  refine hK _ ?_
  clear hK K
  obtain ⟨r1, hr1, h⟩ := po_some h
  refine VC.seqF tabOkF [some 28, some 11] [1, 2, 3, 4, 5, 11] rfl rfl (fun K hK => ?_)
  push_cast
  repeat (refine And.intro (by omega) ?_)
  refine callP (Ctr.lo (c_drydocklaw06_awake  hr1)) rfl ?_
  push_cast
  repeat (refine And.intro (by omega) ?_)
  refine hK _ ?_
  clear hK K
  obtain ⟨r2, hr2, h⟩ := po_some h
  refine VC.seqF tabOkF [some 29, some 30, some 31, some 12] [1, 2, 3, 4, 5, 11, 12] rfl rfl (fun K hK => ?_)
  push_cast
  repeat (refine And.intro (by omega) ?_)
  refine callP (Ctr.lo (c_drydockref05_Few a0.T hr2)) rfl ?_
  push_cast
  repeat (refine And.intro (by omega) ?_)
  refine hK _ ?_
  clear hK K
  refine VC.seq ?_
  obtain ⟨v3, h, hk3⟩ := po_some h
  refine VC.seqJ (X := Bool) (fun x => p_drydocklaw06_HelperAfter_J3 a0 a1 a2 a3 a4 r1 x = some r) (fun x => ⟨[(1, .raw (.int .u32 (a1.toNat : Int))), (2, .raw (.int .u32 (a2.toNat : Int))), (3, .raw (.int .u32 (a3.toNat : Int))), (4, .raw (.int .u32 (a4.toNat : Int))), (5, .ref 0 0), (11, .raw (.bool r1)), (45, .raw (.bool x))], [(0, .box 55 [.raw (.int .u32 (a0.Ctx.a0.toNat : Int)), .raw (.int .u32 (a0.Ctx.a1.toNat : Int)), .raw (.int .u32 (a0.Ctx.a2.toNat : Int)), .raw (.int .u32 (a0.Ctx.a3.toNat : Int)), .sl false (a0.T.map enc_Table), .raw (.int .u32 (a0.Seed.toNat : Int))])], 22, 141, 0⟩) ?_ ?_
  · rcases Bool.eq_false_or_eq_true r1 with hb4 | hb4
    · replace h := cond_yes hb4 h
      rcases Bool.eq_false_or_eq_true r2 with hb5 | hb5
      · replace h := cond_yes hb5 h
        refine VC.lastF tabOkF [some 32, some 33, some 34, some 35, some 36, some 37, some 38, some 39, some 40, some 41, some 42, some 43, some 44, some 45] rfl rfl (fun K hK => ?_)
        refine runOps_cut 8 (fun K2 hK2 => ?_)
        push_cast [hb4, hb5]
        repeat (refine And.intro (by omega) ?_)
        refine hK2 _ _ ?_
        clear hK2 K2
        simp only [List.drop_succ_cons, List.drop_zero]
        push_cast [hb4, hb5]
        repeat (refine And.intro (by omega) ?_)
        refine hK _ ?_
        clear hK K
        have hv := Option.some.inj h
        rw [← hv] at hk3
        refine Exists.intro ((decide ((a1.toNat : Int) ≥ (a0.T.length : Int)))) (And.intro hk3 ?_)
        refine Sub.trans (Sub.lo _) ?_
        refine Sub.of ?_ ?_ ⟨rfl, rfl, Nat.le_of_ble_eq_true rfl⟩ rfl
        · push_cast [hb4, hb5]
        · push_cast [hb4, hb5]
      · replace h := cond_no hb5 h
        refine VC.lastF tabOkF [some 32, some 33, some 34, some 35, some 36, some 37, some 38, some 39, some 40, some 41, some 42, some 43, some 44, some 45] rfl rfl (fun K hK => ?_)
        refine runOps_cut 8 (fun K2 hK2 => ?_)
        push_cast [hb4, hb5]
        repeat (refine And.intro (by omega) ?_)
        refine hK2 _ _ ?_
        clear hK2 K2
        simp only [List.drop_succ_cons, List.drop_zero]
        push_cast [hb4, hb5]
        repeat (refine And.intro (by omega) ?_)
        refine hK _ ?_
        clear hK K
        have hv := Option.some.inj h
        rw [← hv] at hk3
        refine Exists.intro (true) (And.intro hk3 ?_)
        refine Sub.trans (Sub.lo _) ?_
        refine Sub.of ?_ ?_ ⟨rfl, rfl, Nat.le_of_ble_eq_true rfl⟩ rfl
        · push_cast [hb4, hb5]
        · push_cast [hb4, hb5]
    · replace h := cond_no hb4 h
      refine VC.lastF tabOkF [some 32, some 33, some 34, some 35, some 36, some 37, some 38, some 39, some 40, some 41, some 42, some 43, some 44, some 45] rfl rfl (fun K hK => ?_)
      refine runOps_cut 8 (fun K2 hK2 => ?_)
      push_cast [hb4]
      repeat (refine And.intro (by omega) ?_)
      refine hK2 _ _ ?_
      clear hK2 K2
      simp only [List.drop_succ_cons, List.drop_zero]
      push_cast [hb4]
      repeat (refine And.intro (by omega) ?_)
      refine hK _ ?_
      clear hK K
      have hv := Option.some.inj h
      rw [← hv] at hk3
      refine Exists.intro (true) (And.intro hk3 ?_)
      refine Sub.trans (Sub.lo _) ?_
      refine Sub.of ?_ ?_ ⟨rfl, rfl, Nat.le_of_ble_eq_true rfl⟩ rfl
      · push_cast [hb4]
      · push_cast [hb4]
  · rintro i_1 h
    replace h : p_drydocklaw06_HelperAfter_J3 a0 a1 a2 a3 a4 r1 i_1 = some r := h
    try push_cast
    unfold p_drydocklaw06_HelperAfter_J3 at h
    refine VC.cond rfl rfl (fun hc6 => ?_) (fun hc6 => ?_)
    · have hb6 : i_1 = true := by simpa using hc6
      replace h := cond_yes hb6 h
      refine VC.seqF tabOkF [some 46, some 10] [10] rfl rfl (fun K hK => ?_)
      push_cast [hb6]
      repeat (refine And.intro (by omega) ?_)
      refine hK _ ?_
      clear hK K
      refine VC.ret ?_
      have hr := Option.some.inj h
      subst hr
      refine endP (Sub.lo _) (Post.ret ?_ ?_ ?_)
      · push_cast [hb6]
      · push_cast [hb6]
      · rfl
    · have hb6 : i_1 = false := by simpa using hc6
      replace h := cond_no hb6 h
      refine VC.skip ?_
      obtain ⟨r7, hr7, h⟩ := po_some h
      refine VC.seqF tabOkF [some 48, some 49, some 50, some 51, some 52, some 53, some 54, some 47, some 55, some 56, some 57, some 13, none, some 14, some 15] [1, 2, 3, 4, 5, 13, 14, 15] rfl rfl (fun K hK => ?_)
      refine runOps_cut 8 (fun K2 hK2 => ?_)
      push_cast [hb6]
      repeat (refine And.intro (by omega) ?_)
      refine callH (H := [(27, .row 25 1 0 (([a1, a2, a3, a4]).map encU32))]) (Ctr.consume (args0 := [.raw (.int .i64 1), .agg [.raw (.int .u32 (a0.Ctx.a0.toNat : Int)), .raw (.int .u32 (a0.Ctx.a1.toNat : Int)), .raw (.int .u32 (a0.Ctx.a2.toNat : Int)), .raw (.int .u32 (a0.Ctx.a3.toNat : Int)), .sl false (a0.T.map enc_Table), .raw (.int .u32 (a0.Seed.toNat : Int))], .sl false (([a1, a2, a3, a4]).map encU32)]) (Ctr.ren (Bij.swp 0 28 Bij.id) (c_helper_Call 1 a0 ([a1, a2, a3, a4]) hr7) (by push_cast [hb6]) (by push_cast [hb6])) (by push_cast [hb6]) rfl) (by push_cast [hb6]) rfl rfl rfl ?_
      push_cast [hb6]
      repeat (refine And.intro (by omega) ?_)
      refine hK2 _ _ ?_
      clear hK2 K2
      simp only [List.drop_succ_cons, List.drop_zero]
      push_cast [hb6]
      repeat (refine And.intro (by omega) ?_)
      refine hK _ ?_
      clear hK K
      refine VC.sub (s' := ⟨[(1, .raw (.int .u32 (a1.toNat : Int))), (2, .raw (.int .u32 (a2.toNat : Int))), (3, .raw (.int .u32 (a3.toNat : Int))), (4, .raw (.int .u32 (a4.toNat : Int))), (5, .ref 0 0), (13, .ref 33 0), (14, .raw (.int .u32 (r7.2.1.toNat : Int))), (15, .raw (.int .i64 r7.2.2))], [(0, .box 55 [.raw (.int .u32 (a0.Ctx.a0.toNat : Int)), .raw (.int .u32 (a0.Ctx.a1.toNat : Int)), .raw (.int .u32 (a0.Ctx.a2.toNat : Int)), .raw (.int .u32 (a0.Ctx.a3.toNat : Int)), .sl false (a0.T.map enc_Table), .raw (.int .u32 (a0.Seed.toNat : Int))]), (28, .row 27 6 0 (r7.1.T.map enc_Table)), (33, .box 55 [.raw (.int .u32 (r7.1.Ctx.a0.toNat : Int)), .raw (.int .u32 (r7.1.Ctx.a1.toNat : Int)), .raw (.int .u32 (r7.1.Ctx.a2.toNat : Int)), .raw (.int .u32 (r7.1.Ctx.a3.toNat : Int)), .row 28 0 6 0 r7.1.T.length, .raw (.int .u32 (r7.1.Seed.toNat : Int))])], 37, 141, 0⟩) (Sub.of ?_ ?_ ⟨rfl, rfl, Nat.le_of_ble_eq_true rfl⟩ rfl) ?_
      · push_cast [hb6]
      · push_cast [hb6]
      refine VC.seq ?_
      refine VC.seqF tabOkF [some 58, some 59] [1, 2, 3, 4, 5, 13, 14, 59] rfl rfl (fun K hK => ?_)
      push_cast [hb6]
      repeat (refine And.intro (by omega) ?_)
      refine hK _ ?_
      clear hK K
      refine VC.cond rfl rfl (fun hc8 => ?_) (fun hc8 => ?_)
      · have hb8 : (r7.2.2 != 0) = true := by simpa using hc8
        replace h := cond_yes hb8 h
        obtain ⟨v9, h, hk9⟩ := po_some h
        refine VC.seqJ (X := Bool) (fun x => p_drydocklaw06_HelperAfter_J9 x = some r) (fun x => ⟨[(10, .raw (.bool x))], [], 47, 141, 0⟩) ?_ ?_
        · rcases Bool.eq_false_or_eq_true ((r7.2.1.toNat : Int) == 0) with hb10 | hb10
          · replace h := cond_yes hb10 h
            obtain ⟨r11, hr11, h⟩ := po_some h
            refine VC.lastF tabOkF [some 60, some 61, some 62, some 63, some 64, some 65, some 66, some 10] rfl rfl (fun K hK => ?_)
            push_cast [hb6, hb8, hb10]
            repeat (refine And.intro (by omega) ?_)
            refine callH (H := [(28, .row 27 6 0 (r7.1.T.map enc_Table))]) (H' := _) (Ctr.borrow (c_drydockref06_Same r7.1 a0 hr11) (by push_cast [hb6, hb8, hb10]) rfl) (by push_cast [hb6, hb8, hb10]) rfl rfl rfl ?_
            push_cast [hb6, hb8, hb10]
            repeat (refine And.intro (by omega) ?_)
            refine hK _ ?_
            clear hK K
            have hv := Option.some.inj h
            rw [← hv] at hk9
            refine Exists.intro (r11) (And.intro hk9 ?_)
            refine Sub.trans (Sub.lo _) ?_
            refine Sub.of ?_ ?_ ⟨rfl, rfl, Nat.le_of_ble_eq_true rfl⟩ rfl
            · push_cast [hb6, hb8, hb10]
            · push_cast [hb6, hb8, hb10]
          · replace h := cond_no hb10 h
            refine VC.lastF tabOkF [some 60, some 61, some 62, some 63, some 64, some 65, some 66, some 10] rfl rfl (fun K hK => ?_)
            push_cast [hb6, hb8, hb10]
            repeat (refine And.intro (by omega) ?_)
            refine hK _ ?_
            clear hK K
            have hv := Option.some.inj h
            rw [← hv] at hk9
            refine Exists.intro (false) (And.intro hk9 ?_)
            refine Sub.trans (Sub.lo _) ?_
            refine Sub.of ?_ ?_ ⟨rfl, rfl, Nat.le_of_ble_eq_true rfl⟩ rfl
            · push_cast [hb6, hb8, hb10]
            · push_cast [hb6, hb8, hb10]
        · rintro i_2 h
          replace h : p_drydocklaw06_HelperAfter_J9 i_2 = some r := h
          try push_cast
          unfold p_drydocklaw06_HelperAfter_J9 at h
          refine VC.ret ?_
          have hr := Option.some.inj h
          subst hr
          refine endP (Sub.lo _) (Post.ret ?_ ?_ ?_)
          · push_cast [hb6, hb8]
          · push_cast [hb6, hb8]
          · rfl
      · have hb8 : (r7.2.2 != 0) = false := by simpa using hc8
        replace h := cond_no hb8 h
        refine VC.skip ?_
        refine VC.seq ?_
        refine VC.seqF tabOkF [some 67, some 68] [1, 2, 3, 4, 5, 13, 68] rfl rfl (fun K hK => ?_)
        push_cast [hb6, hb8]
        repeat (refine And.intro (by omega) ?_)
        refine hK _ ?_
        clear hK K
        refine VC.cond rfl rfl (fun hc12 => ?_) (fun hc12 => ?_)
        · have hb12 : ((r7.2.1.toNat : Int) != 0) = true := by simpa using hc12
          replace h := cond_yes hb12 h
          obtain ⟨r13, hr13, h⟩ := po_some h
          refine VC.seqF tabOkF [some 69, some 70, some 71, some 10] [10] rfl rfl (fun K hK => ?_)
          push_cast [hb6, hb8, hb12]
          repeat (refine And.intro (by omega) ?_)
          refine callH (H := [(28, .row 27 6 0 (r7.1.T.map enc_Table))]) (H' := _) (Ctr.borrow (c_drydockref06_Same r7.1 a0 hr13) (by push_cast [hb6, hb8, hb12]) rfl) (by push_cast [hb6, hb8, hb12]) rfl rfl rfl ?_
          push_cast [hb6, hb8, hb12]
          repeat (refine And.intro (by omega) ?_)
          refine hK _ ?_
          clear hK K
          refine VC.ret ?_
          have hr := Option.some.inj h
          subst hr
          refine endP (Sub.lo _) (Post.ret ?_ ?_ ?_)
          · push_cast [hb6, hb8, hb12]
          · push_cast [hb6, hb8, hb12]
          · rfl
        · have hb12 : ((r7.2.1.toNat : Int) != 0) = false := by simpa using hc12
          replace h := cond_no hb12 h
          refine VC.skip ?_
          refine VC.sub (Sub.freeze prog (b := 33) (j := 4) rfl rfl rfl (by push_cast [hb6, hb8, hb12] <;> omega) (by decide)) ?_
          refine VC.sub (s' := ⟨[(1, .raw (.int .u32 (a1.toNat : Int))), (2, .raw (.int .u32 (a2.toNat : Int))), (3, .raw (.int .u32 (a3.toNat : Int))), (4, .raw (.int .u32 (a4.toNat : Int))), (13, .ref 33 0)], [(33, .box 55 [.raw (.int .u32 (r7.1.Ctx.a0.toNat : Int)), .raw (.int .u32 (r7.1.Ctx.a1.toNat : Int)), .raw (.int .u32 (r7.1.Ctx.a2.toNat : Int)), .raw (.int .u32 (r7.1.Ctx.a3.toNat : Int)), .sl false (r7.1.T.map enc_Table), .raw (.int .u32 (r7.1.Seed.toNat : Int))])], 41, 141, 0⟩) (Sub.of ?_ ?_ ⟨rfl, rfl, Nat.le_of_ble_eq_true rfl⟩ rfl) ?_
          · push_cast [hb6, hb8, hb12]
          · push_cast [hb6, hb8, hb12]
          obtain ⟨r14, hr14, h⟩ := po_some h
          refine VC.seqF tabOkF [some 73, some 74, some 75, some 76, some 77, some 78, some 72, some 79, some 80, some 81, some 16, none, some 17, some 18] [1, 2, 3, 4, 13, 17, 18] rfl rfl (fun K hK => ?_)
          refine runOps_cut 8 (fun K2 hK2 => ?_)
          push_cast [hb6, hb8, hb12]
          repeat (refine And.intro (by omega) ?_)
          refine callH (H := [(45, .row 25 1 0 (([a1, a2, a3]).map encU32))]) (Ctr.consume (args0 := [.raw (.int .i64 0), .agg [.raw (.int .u32 (r7.1.Ctx.a0.toNat : Int)), .raw (.int .u32 (r7.1.Ctx.a1.toNat : Int)), .raw (.int .u32 (r7.1.Ctx.a2.toNat : Int)), .raw (.int .u32 (r7.1.Ctx.a3.toNat : Int)), .sl false (r7.1.T.map enc_Table), .raw (.int .u32 (r7.1.Seed.toNat : Int))], .sl false (([a1, a2, a3]).map encU32)]) (Ctr.ren (Bij.swp 0 46 Bij.id) (c_helper_Call 0 r7.1 ([a1, a2, a3]) hr14) (by push_cast [hb6, hb8, hb12]) (by push_cast [hb6, hb8, hb12])) (by push_cast [hb6, hb8, hb12]) rfl) (by push_cast [hb6, hb8, hb12]) rfl rfl rfl ?_
          push_cast [hb6, hb8, hb12]
          repeat (refine And.intro (by omega) ?_)
          refine hK2 _ _ ?_
          clear hK2 K2
          simp only [List.drop_succ_cons, List.drop_zero]
          push_cast [hb6, hb8, hb12]
          repeat (refine And.intro (by omega) ?_)
          refine hK _ ?_
          clear hK K
          refine VC.sub (s' := ⟨[(1, .raw (.int .u32 (a1.toNat : Int))), (2, .raw (.int .u32 (a2.toNat : Int))), (3, .raw (.int .u32 (a3.toNat : Int))), (4, .raw (.int .u32 (a4.toNat : Int))), (13, .ref 33 0), (17, .raw (.int .u32 (r14.2.1.toNat : Int))), (18, .raw (.int .i64 r14.2.2))], [(33, .box 55 [.raw (.int .u32 (r7.1.Ctx.a0.toNat : Int)), .raw (.int .u32 (r7.1.Ctx.a1.toNat : Int)), .raw (.int .u32 (r7.1.Ctx.a2.toNat : Int)), .raw (.int .u32 (r7.1.Ctx.a3.toNat : Int)), .sl false (r7.1.T.map enc_Table), .raw (.int .u32 (r7.1.Seed.toNat : Int))])], 55, 141, 0⟩) (Sub.of ?_ ?_ ⟨rfl, rfl, Nat.le_of_ble_eq_true rfl⟩ rfl) ?_
          · push_cast [hb6, hb8, hb12]
          · push_cast [hb6, hb8, hb12]
          obtain ⟨r15, hr15, h⟩ := po_some h
          refine VC.seqF tabOkF [some 83, some 84, some 85, some 86, some 87, some 82, some 88, some 89, some 90, some 19, none, some 20, some 21] [1, 2, 3, 4, 13, 17, 18, 20, 21] rfl rfl (fun K hK => ?_)
          refine runOps_cut 8 (fun K2 hK2 => ?_)
          push_cast [hb6, hb8, hb12]
          repeat (refine And.intro (by omega) ?_)
          refine callH (H := [(58, .row 25 1 0 (([a1, a2]).map encU32))]) (Ctr.consume (args0 := [.raw (.int .i64 3), .agg [.raw (.int .u32 (r7.1.Ctx.a0.toNat : Int)), .raw (.int .u32 (r7.1.Ctx.a1.toNat : Int)), .raw (.int .u32 (r7.1.Ctx.a2.toNat : Int)), .raw (.int .u32 (r7.1.Ctx.a3.toNat : Int)), .sl false (r7.1.T.map enc_Table), .raw (.int .u32 (r7.1.Seed.toNat : Int))], .sl false (([a1, a2]).map encU32)]) (Ctr.ren (Bij.swp 0 59 Bij.id) (c_helper_Call 3 r7.1 ([a1, a2]) hr15) (by push_cast [hb6, hb8, hb12]) (by push_cast [hb6, hb8, hb12])) (by push_cast [hb6, hb8, hb12]) rfl) (by push_cast [hb6, hb8, hb12]) rfl rfl rfl ?_
          push_cast [hb6, hb8, hb12]
          repeat (refine And.intro (by omega) ?_)
          refine hK2 _ _ ?_
          clear hK2 K2
          simp only [List.drop_succ_cons, List.drop_zero]
          push_cast [hb6, hb8, hb12]
          repeat (refine And.intro (by omega) ?_)
          refine hK _ ?_
          clear hK K
          refine VC.sub (s' := ⟨[(1, .raw (.int .u32 (a1.toNat : Int))), (2, .raw (.int .u32 (a2.toNat : Int))), (3, .raw (.int .u32 (a3.toNat : Int))), (4, .raw (.int .u32 (a4.toNat : Int))), (13, .ref 33 0), (17, .raw (.int .u32 (r14.2.1.toNat : Int))), (18, .raw (.int .i64 r14.2.2)), (20, .raw (.int .u32 (r15.2.1.toNat : Int))), (21, .raw (.int .i64 r15.2.2))], [(33, .box 55 [.raw (.int .u32 (r7.1.Ctx.a0.toNat : Int)), .raw (.int .u32 (r7.1.Ctx.a1.toNat : Int)), .raw (.int .u32 (r7.1.Ctx.a2.toNat : Int)), .raw (.int .u32 (r7.1.Ctx.a3.toNat : Int)), .sl false (r7.1.T.map enc_Table), .raw (.int .u32 (r7.1.Seed.toNat : Int))])], 68, 141, 0⟩) (Sub.of ?_ ?_ ⟨rfl, rfl, Nat.le_of_ble_eq_true rfl⟩ rfl) ?_
          · push_cast [hb6, hb8, hb12]
          · push_cast [hb6, hb8, hb12]
          obtain ⟨r16, hr16, h⟩ := po_some h
          refine VC.seqF tabOkF [some 92, some 93, some 94, some 95, some 96, some 91, some 97, some 98, some 99, some 22, none, some 23, some 24] [1, 2, 3, 4, 17, 18, 20, 21, 22, 23, 24] rfl rfl (fun K hK => ?_)
          refine runOps_cut 8 (fun K2 hK2 => ?_)
          push_cast [hb6, hb8, hb12]
          repeat (refine And.intro (by omega) ?_)
          refine callH (H := [(71, .row 25 1 0 (([a1, a2]).map encU32))]) (Ctr.consume (args0 := [.raw (.int .i64 2), .agg [.raw (.int .u32 (r7.1.Ctx.a0.toNat : Int)), .raw (.int .u32 (r7.1.Ctx.a1.toNat : Int)), .raw (.int .u32 (r7.1.Ctx.a2.toNat : Int)), .raw (.int .u32 (r7.1.Ctx.a3.toNat : Int)), .sl false (r7.1.T.map enc_Table), .raw (.int .u32 (r7.1.Seed.toNat : Int))], .sl false (([a1, a2]).map encU32)]) (Ctr.ren (Bij.swp 0 72 Bij.id) (c_helper_Call 2 r7.1 ([a1, a2]) hr16) (by push_cast [hb6, hb8, hb12]) (by push_cast [hb6, hb8, hb12])) (by push_cast [hb6, hb8, hb12]) rfl) (by push_cast [hb6, hb8, hb12]) rfl rfl rfl ?_
          push_cast [hb6, hb8, hb12]
          repeat (refine And.intro (by omega) ?_)
          refine hK2 _ _ ?_
          clear hK2 K2
          simp only [List.drop_succ_cons, List.drop_zero]
          push_cast [hb6, hb8, hb12]
          repeat (refine And.intro (by omega) ?_)
          refine hK _ ?_
          clear hK K
          refine VC.sub (s' := ⟨[(1, .raw (.int .u32 (a1.toNat : Int))), (2, .raw (.int .u32 (a2.toNat : Int))), (3, .raw (.int .u32 (a3.toNat : Int))), (4, .raw (.int .u32 (a4.toNat : Int))), (17, .raw (.int .u32 (r14.2.1.toNat : Int))), (18, .raw (.int .i64 r14.2.2)), (20, .raw (.int .u32 (r15.2.1.toNat : Int))), (21, .raw (.int .i64 r15.2.2)), (22, .ref 77 0), (23, .raw (.int .u32 (r16.2.1.toNat : Int))), (24, .raw (.int .i64 r16.2.2))], [(72, .row 27 6 0 (r16.1.T.map enc_Table)), (77, .box 55 [.raw (.int .u32 (r16.1.Ctx.a0.toNat : Int)), .raw (.int .u32 (r16.1.Ctx.a1.toNat : Int)), .raw (.int .u32 (r16.1.Ctx.a2.toNat : Int)), .raw (.int .u32 (r16.1.Ctx.a3.toNat : Int)), .row 72 0 6 0 r16.1.T.length, .raw (.int .u32 (r16.1.Seed.toNat : Int))])], 81, 141, 0⟩) (Sub.of ?_ ?_ ⟨rfl, rfl, Nat.le_of_ble_eq_true rfl⟩ rfl) ?_
          · push_cast [hb6, hb8, hb12]
          · push_cast [hb6, hb8, hb12]
          refine VC.sub (Sub.freeze prog (b := 77) (j := 4) rfl rfl rfl (by push_cast [hb6, hb8, hb12] <;> omega) (by decide)) ?_
          refine VC.sub (s' := ⟨[(1, .raw (.int .u32 (a1.toNat : Int))), (2, .raw (.int .u32 (a2.toNat : Int))), (3, .raw (.int .u32 (a3.toNat : Int))), (4, .raw (.int .u32 (a4.toNat : Int))), (17, .raw (.int .u32 (r14.2.1.toNat : Int))), (18, .raw (.int .i64 r14.2.2)), (20, .raw (.int .u32 (r15.2.1.toNat : Int))), (21, .raw (.int .i64 r15.2.2)), (22, .ref 77 0), (23, .raw (.int .u32 (r16.2.1.toNat : Int))), (24, .raw (.int .i64 r16.2.2))], [(77, .box 55 [.raw (.int .u32 (r16.1.Ctx.a0.toNat : Int)), .raw (.int .u32 (r16.1.Ctx.a1.toNat : Int)), .raw (.int .u32 (r16.1.Ctx.a2.toNat : Int)), .raw (.int .u32 (r16.1.Ctx.a3.toNat : Int)), .sl false (r16.1.T.map enc_Table), .raw (.int .u32 (r16.1.Seed.toNat : Int))])], 81, 141, 0⟩) (Sub.of ?_ ?_ ⟨rfl, rfl, Nat.le_of_ble_eq_true rfl⟩ rfl) ?_
          · push_cast [hb6, hb8, hb12]
          · push_cast [hb6, hb8, hb12]
          obtain ⟨r17, hr17, h⟩ := po_some h
          refine VC.seqF tabOkF [some 101, some 102, some 103, some 104, some 105, some 106, some 100, some 107, some 108, some 109, some 25, none, some 26, some 27] [4, 17, 18, 20, 21, 23, 24, 26, 27] rfl rfl (fun K hK => ?_)
          refine runOps_cut 8 (fun K2 hK2 => ?_)
          push_cast [hb6, hb8, hb12]
          repeat (refine And.intro (by omega) ?_)
          refine callH (H := [(85, .row 25 1 0 (([a1, a2, a3]).map encU32))]) (Ctr.consume (args0 := [.raw (.int .i64 0), .agg [.raw (.int .u32 (r16.1.Ctx.a0.toNat : Int)), .raw (.int .u32 (r16.1.Ctx.a1.toNat : Int)), .raw (.int .u32 (r16.1.Ctx.a2.toNat : Int)), .raw (.int .u32 (r16.1.Ctx.a3.toNat : Int)), .sl false (r16.1.T.map enc_Table), .raw (.int .u32 (r16.1.Seed.toNat : Int))], .sl false (([a1, a2, a3]).map encU32)]) (Ctr.ren (Bij.swp 0 86 Bij.id) (c_helper_Call 0 r16.1 ([a1, a2, a3]) hr17) (by push_cast [hb6, hb8, hb12]) (by push_cast [hb6, hb8, hb12])) (by push_cast [hb6, hb8, hb12]) rfl) (by push_cast [hb6, hb8, hb12]) rfl rfl rfl ?_
          push_cast [hb6, hb8, hb12]
          repeat (refine And.intro (by omega) ?_)
          refine hK2 _ _ ?_
          clear hK2 K2
          simp only [List.drop_succ_cons, List.drop_zero]
          push_cast [hb6, hb8, hb12]
          repeat (refine And.intro (by omega) ?_)
          refine hK _ ?_
          clear hK K
          refine VC.sub (s' := ⟨[(4, .raw (.int .u32 (a4.toNat : Int))), (17, .raw (.int .u32 (r14.2.1.toNat : Int))), (18, .raw (.int .i64 r14.2.2)), (20, .raw (.int .u32 (r15.2.1.toNat : Int))), (21, .raw (.int .i64 r15.2.2)), (23, .raw (.int .u32 (r16.2.1.toNat : Int))), (24, .raw (.int .i64 r16.2.2)), (26, .raw (.int .u32 (r17.2.1.toNat : Int))), (27, .raw (.int .i64 r17.2.2))], [], 95, 141, 0⟩) (Sub.of ?_ ?_ ⟨rfl, rfl, Nat.le_of_ble_eq_true rfl⟩ rfl) ?_
          · push_cast [hb6, hb8, hb12]
          · push_cast [hb6, hb8, hb12]
          obtain ⟨v18, h, hk18⟩ := po_some h
          refine VC.seqJ (X := Bool) (fun x => p_drydocklaw06_HelperAfter_J18 x = some r) (fun x => ⟨[(10, .raw (.bool x))], [], 127, 141, 0⟩) ?_ ?_
          · rcases Bool.eq_false_or_eq_true (r14.2.2 == 0) with hb19 | hb19
            · replace h := cond_yes hb19 h
              rcases Bool.eq_false_or_eq_true (r15.2.2 == 0) with hb20 | hb20
              · replace h := cond_yes hb20 h
                rcases Bool.eq_false_or_eq_true (r16.2.2 == 0) with hb21 | hb21
                · replace h := cond_yes hb21 h
                  rcases Bool.eq_false_or_eq_true (r17.2.2 == 0) with hb22 | hb22
                  · replace h := cond_yes hb22 h
                    rcases Bool.eq_false_or_eq_true ((r14.2.1.toNat : Int) == (a4.toNat : Int)) with hb23 | hb23
                    · replace h := cond_yes hb23 h
                      rcases Bool.eq_false_or_eq_true ((r15.2.1.toNat : Int) == 1) with hb24 | hb24
                      · replace h := cond_yes hb24 h
                        rcases Bool.eq_false_or_eq_true ((r16.2.1.toNat : Int) == 1) with hb25 | hb25
                        · replace h := cond_yes hb25 h
                          refine VC.lastF tabOkF [some 110, some 111, some 112, some 113, some 114, some 115, some 116, some 117, some 118, some 119, some 120, some 121, some 122, some 123, some 124, some 125, some 126, some 127, some 128, some 129, some 130, some 131, some 132, some 133, some 134, some 135, some 136, some 137, some 138, some 139, some 140, some 10] rfl rfl (fun K hK => ?_)
                          refine runOps_cut 8 (fun K2 hK2 => ?_)
                          push_cast [hb6, hb8, hb12, hb19, hb20, hb21, hb22, hb23, hb24, hb25]
                          repeat (refine And.intro (by omega) ?_)
                          refine hK2 _ _ ?_
                          clear hK2 K2
                          simp only [List.drop_succ_cons, List.drop_zero]
                          refine runOps_cut 8 (fun K2 hK2 => ?_)
                          push_cast [hb6, hb8, hb12, hb19, hb20, hb21, hb22, hb23, hb24, hb25]
                          repeat (refine And.intro (by omega) ?_)
                          refine hK2 _ _ ?_
                          clear hK2 K2
                          simp only [List.drop_succ_cons, List.drop_zero]
                          refine runOps_cut 8 (fun K2 hK2 => ?_)
                          push_cast [hb6, hb8, hb12, hb19, hb20, hb21, hb22, hb23, hb24, hb25]
                          repeat (refine And.intro (by omega) ?_)
                          refine hK2 _ _ ?_
                          clear hK2 K2
                          simp only [List.drop_succ_cons, List.drop_zero]
                          push_cast [hb6, hb8, hb12, hb19, hb20, hb21, hb22, hb23, hb24, hb25]
                          repeat (refine And.intro (by omega) ?_)
                          refine hK _ ?_
                          clear hK K
                          have hv := Option.some.inj h
                          rw [← hv] at hk18
                          refine Exists.intro (((r17.2.1.toNat : Int) == 0)) (And.intro hk18 ?_)
                          refine Sub.trans (Sub.lo _) ?_
                          refine Sub.of ?_ ?_ ⟨rfl, rfl, Nat.le_of_ble_eq_true rfl⟩ rfl
                          · push_cast [hb6, hb8, hb12, hb19, hb20, hb21, hb22, hb23, hb24, hb25]
                          · push_cast [hb6, hb8, hb12, hb19, hb20, hb21, hb22, hb23, hb24, hb25]
                        · replace h := cond_no hb25 h
                          refine VC.lastF tabOkF [some 110, some 111, some 112, some 113, some 114, some 115, some 116, some 117, some 118, some 119, some 120, some 121, some 122, some 123, some 124, some 125, some 126, some 127, some 128, some 129, some 130, some 131, some 132, some 133, some 134, some 135, some 136, some 137, some 138, some 139, some 140, some 10] rfl rfl (fun K hK => ?_)
                          refine runOps_cut 8 (fun K2 hK2 => ?_)
                          push_cast [hb6, hb8, hb12, hb19, hb20, hb21, hb22, hb23, hb24, hb25]
                          repeat (refine And.intro (by omega) ?_)
                          refine hK2 _ _ ?_
                          clear hK2 K2
                          simp only [List.drop_succ_cons, List.drop_zero]
                          refine runOps_cut 8 (fun K2 hK2 => ?_)
                          push_cast [hb6, hb8, hb12, hb19, hb20, hb21, hb22, hb23, hb24, hb25]
                          repeat (refine And.intro (by omega) ?_)
                          refine hK2 _ _ ?_
                          clear hK2 K2
                          simp only [List.drop_succ_cons, List.drop_zero]
                          refine runOps_cut 8 (fun K2 hK2 => ?_)
                          push_cast [hb6, hb8, hb12, hb19, hb20, hb21, hb22, hb23, hb24, hb25]
                          repeat (refine And.intro (by omega) ?_)
                          refine hK2 _ _ ?_
                          clear hK2 K2
                          simp only [List.drop_succ_cons, List.drop_zero]
                          push_cast [hb6, hb8, hb12, hb19, hb20, hb21, hb22, hb23, hb24, hb25]
                          repeat (refine And.intro (by omega) ?_)
                          refine hK _ ?_
                          clear hK K
                          have hv := Option.some.inj h
                          rw [← hv] at hk18
                          refine Exists.intro (false) (And.intro hk18 ?_)
                          refine Sub.trans (Sub.lo _) ?_
                          refine Sub.of ?_ ?_ ⟨rfl, rfl, Nat.le_of_ble_eq_true rfl⟩ rfl
                          · push_cast [hb6, hb8, hb12, hb19, hb20, hb21, hb22, hb23, hb24, hb25]
                          · push_cast [hb6, hb8, hb12, hb19, hb20, hb21, hb22, hb23, hb24, hb25]
                      · replace h := cond_no hb24 h
                        refine VC.lastF tabOkF [some 110, some 111, some 112, some 113, some 114, some 115, some 116, some 117, some 118, some 119, some 120, some 121, some 122, some 123, some 124, some 125, some 126, some 127, some 128, some 129, some 130, some 131, some 132, some 133, some 134, some 135, some 136, some 137, some 138, some 139, some 140, some 10] rfl rfl (fun K hK => ?_)
                        refine runOps_cut 8 (fun K2 hK2 => ?_)
                        push_cast [hb6, hb8, hb12, hb19, hb20, hb21, hb22, hb23, hb24]
                        repeat (refine And.intro (by omega) ?_)
                        refine hK2 _ _ ?_
                        clear hK2 K2
                        simp only [List.drop_succ_cons, List.drop_zero]
                        refine runOps_cut 8 (fun K2 hK2 => ?_)
                        push_cast [hb6, hb8, hb12, hb19, hb20, hb21, hb22, hb23, hb24]
                        repeat (refine And.intro (by omega) ?_)
                        refine hK2 _ _ ?_
                        clear hK2 K2
                        simp only [List.drop_succ_cons, List.drop_zero]
                        refine runOps_cut 8 (fun K2 hK2 => ?_)
                        push_cast [hb6, hb8, hb12, hb19, hb20, hb21, hb22, hb23, hb24]
                        repeat (refine And.intro (by omega) ?_)
                        refine hK2 _ _ ?_
                        clear hK2 K2
                        simp only [List.drop_succ_cons, List.drop_zero]
                        push_cast [hb6, hb8, hb12, hb19, hb20, hb21, hb22, hb23, hb24]
                        repeat (refine And.intro (by omega) ?_)
                        refine hK _ ?_
                        clear hK K
                        have hv := Option.some.inj h
                        rw [← hv] at hk18
                        refine Exists.intro (false) (And.intro hk18 ?_)
                        refine Sub.trans (Sub.lo _) ?_
                        refine Sub.of ?_ ?_ ⟨rfl, rfl, Nat.le_of_ble_eq_true rfl⟩ rfl
                        · push_cast [hb6, hb8, hb12, hb19, hb20, hb21, hb22, hb23, hb24]
                        · push_cast [hb6, hb8, hb12, hb19, hb20, hb21, hb22, hb23, hb24]
                    · replace h := cond_no hb23 h
                      refine VC.lastF tabOkF [some 110, some 111, some 112, some 113, some 114, some 115, some 116, some 117, some 118, some 119, some 120, some 121, some 122, some 123, some 124, some 125, some 126, some 127, some 128, some 129, some 130, some 131, some 132, some 133, some 134, some 135, some 136, some 137, some 138, some 139, some 140, some 10] rfl rfl (fun K hK => ?_)
                      refine runOps_cut 8 (fun K2 hK2 => ?_)
                      push_cast [hb6, hb8, hb12, hb19, hb20, hb21, hb22, hb23]
                      repeat (refine And.intro (by omega) ?_)
                      refine hK2 _ _ ?_
                      clear hK2 K2
                      simp only [List.drop_succ_cons, List.drop_zero]
                      refine runOps_cut 8 (fun K2 hK2 => ?_)
                      push_cast [hb6, hb8, hb12, hb19, hb20, hb21, hb22, hb23]
                      repeat (refine And.intro (by omega) ?_)
                      refine hK2 _ _ ?_
                      clear hK2 K2
                      simp only [List.drop_succ_cons, List.drop_zero]
                      refine runOps_cut 8 (fun K2 hK2 => ?_)
                      push_cast [hb6, hb8, hb12, hb19, hb20, hb21, hb22, hb23]
                      repeat (refine And.intro (by omega) ?_)
                      refine hK2 _ _ ?_
                      clear hK2 K2
                      simp only [List.drop_succ_cons, List.drop_zero]
                      push_cast [hb6, hb8, hb12, hb19, hb20, hb21, hb22, hb23]
                      repeat (refine And.intro (by omega) ?_)
                      refine hK _ ?_
                      clear hK K
                      have hv := Option.some.inj h
                      rw [← hv] at hk18
                      refine Exists.intro (false) (And.intro hk18 ?_)
                      refine Sub.trans (Sub.lo _) ?_
                      refine Sub.of ?_ ?_ ⟨rfl, rfl, Nat.le_of_ble_eq_true rfl⟩ rfl
                      · push_cast [hb6, hb8, hb12, hb19, hb20, hb21, hb22, hb23]
                      · push_cast [hb6, hb8, hb12, hb19, hb20, hb21, hb22, hb23]
                  · replace h := cond_no hb22 h
                    refine VC.lastF tabOkF [some 110, some 111, some 112, some 113, some 114, some 115, some 116, some 117, some 118, some 119, some 120, some 121, some 122, some 123, some 124, some 125, some 126, some 127, some 128, some 129, some 130, some 131, some 132, some 133, some 134, some 135, some 136, some 137, some 138, some 139, some 140, some 10] rfl rfl (fun K hK => ?_)
                    refine runOps_cut 8 (fun K2 hK2 => ?_)
                    push_cast [hb6, hb8, hb12, hb19, hb20, hb21, hb22]
                    repeat (refine And.intro (by omega) ?_)
                    refine hK2 _ _ ?_
                    clear hK2 K2
                    simp only [List.drop_succ_cons, List.drop_zero]
                    refine runOps_cut 8 (fun K2 hK2 => ?_)
                    push_cast [hb6, hb8, hb12, hb19, hb20, hb21, hb22]
                    repeat (refine And.intro (by omega) ?_)
                    refine hK2 _ _ ?_
                    clear hK2 K2
                    simp only [List.drop_succ_cons, List.drop_zero]
                    refine runOps_cut 8 (fun K2 hK2 => ?_)
                    push_cast [hb6, hb8, hb12, hb19, hb20, hb21, hb22]
                    repeat (refine And.intro (by omega) ?_)
                    refine hK2 _ _ ?_
                    clear hK2 K2
                    simp only [List.drop_succ_cons, List.drop_zero]
                    push_cast [hb6, hb8, hb12, hb19, hb20, hb21, hb22]
                    repeat (refine And.intro (by omega) ?_)
                    refine hK _ ?_
                    clear hK K
                    have hv := Option.some.inj h
                    rw [← hv] at hk18
                    refine Exists.intro (false) (And.intro hk18 ?_)
                    refine Sub.trans (Sub.lo _) ?_
                    refine Sub.of ?_ ?_ ⟨rfl, rfl, Nat.le_of_ble_eq_true rfl⟩ rfl
                    · push_cast [hb6, hb8, hb12, hb19, hb20, hb21, hb22]
                    · push_cast [hb6, hb8, hb12, hb19, hb20, hb21, hb22]
                · replace h := cond_no hb21 h
                  refine VC.lastF tabOkF [some 110, some 111, some 112, some 113, some 114, some 115, some 116, some 117, some 118, some 119, some 120, some 121, some 122, some 123, some 124, some 125, some 126, some 127, some 128, some 129, some 130, some 131, some 132, some 133, some 134, some 135, some 136, some 137, some 138, some 139, some 140, some 10] rfl rfl (fun K hK => ?_)
                  refine runOps_cut 8 (fun K2 hK2 => ?_)
                  push_cast [hb6, hb8, hb12, hb19, hb20, hb21]
                  repeat (refine And.intro (by omega) ?_)
                  refine hK2 _ _ ?_
                  clear hK2 K2
                  simp only [List.drop_succ_cons, List.drop_zero]
                  refine runOps_cut 8 (fun K2 hK2 => ?_)
                  push_cast [hb6, hb8, hb12, hb19, hb20, hb21]
                  repeat (refine And.intro (by omega) ?_)
                  refine hK2 _ _ ?_
                  clear hK2 K2
                  simp only [List.drop_succ_cons, List.drop_zero]
                  refine runOps_cut 8 (fun K2 hK2 => ?_)
                  push_cast [hb6, hb8, hb12, hb19, hb20, hb21]
                  repeat (refine And.intro (by omega) ?_)
                  refine hK2 _ _ ?_
                  clear hK2 K2
                  simp only [List.drop_succ_cons, List.drop_zero]
                  push_cast [hb6, hb8, hb12, hb19, hb20, hb21]
                  repeat (refine And.intro (by omega) ?_)
                  refine hK _ ?_
                  clear hK K
                  have hv := Option.some.inj h
                  rw [← hv] at hk18
                  refine Exists.intro (false) (And.intro hk18 ?_)
                  refine Sub.trans (Sub.lo _) ?_
                  refine Sub.of ?_ ?_ ⟨rfl, rfl, Nat.le_of_ble_eq_true rfl⟩ rfl
                  · push_cast [hb6, hb8, hb12, hb19, hb20, hb21]
                  · push_cast [hb6, hb8, hb12, hb19, hb20, hb21]
              · replace h := cond_no hb20 h
                refine VC.lastF tabOkF [some 110, some 111, some 112, some 113, some 114, some 115, some 116, some 117, some 118, some 119, some 120, some 121, some 122, some 123, some 124, some 125, some 126, some 127, some 128, some 129, some 130, some 131, some 132, some 133, some 134, some 135, some 136, some 137, some 138, some 139, some 140, some 10] rfl rfl (fun K hK => ?_)
                refine runOps_cut 8 (fun K2 hK2 => ?_)
                push_cast [hb6, hb8, hb12, hb19, hb20]
                repeat (refine And.intro (by omega) ?_)
                refine hK2 _ _ ?_
                clear hK2 K2
                simp only [List.drop_succ_cons, List.drop_zero]
                refine runOps_cut 8 (fun K2 hK2 => ?_)
                push_cast [hb6, hb8, hb12, hb19, hb20]
                repeat (refine And.intro (by omega) ?_)
                refine hK2 _ _ ?_
                clear hK2 K2
                simp only [List.drop_succ_cons, List.drop_zero]
                refine runOps_cut 8 (fun K2 hK2 => ?_)
                push_cast [hb6, hb8, hb12, hb19, hb20]
                repeat (refine And.intro (by omega) ?_)
                refine hK2 _ _ ?_
                clear hK2 K2
                simp only [List.drop_succ_cons, List.drop_zero]
                push_cast [hb6, hb8, hb12, hb19, hb20]
                repeat (refine And.intro (by omega) ?_)
                refine hK _ ?_
                clear hK K
                have hv := Option.some.inj h
                rw [← hv] at hk18
                refine Exists.intro (false) (And.intro hk18 ?_)
                refine Sub.trans (Sub.lo _) ?_
                refine Sub.of ?_ ?_ ⟨rfl, rfl, Nat.le_of_ble_eq_true rfl⟩ rfl
                · push_cast [hb6, hb8, hb12, hb19, hb20]
                · push_cast [hb6, hb8, hb12, hb19, hb20]
            · replace h := cond_no hb19 h
              refine VC.lastF tabOkF [some 110, some 111, some 112, some 113, some 114, some 115, some 116, some 117, some 118, some 119, some 120, some 121, some 122, some 123, some 124, some 125, some 126, some 127, some 128, some 129, some 130, some 131, some 132, some 133, some 134, some 135, some 136, some 137, some 138, some 139, some 140, some 10] rfl rfl (fun K hK => ?_)
              refine runOps_cut 8 (fun K2 hK2 => ?_)
              push_cast [hb6, hb8, hb12, hb19]
              repeat (refine And.intro (by omega) ?_)
              refine hK2 _ _ ?_
              clear hK2 K2
              simp only [List.drop_succ_cons, List.drop_zero]
              refine runOps_cut 8 (fun K2 hK2 => ?_)
              push_cast [hb6, hb8, hb12, hb19]
              repeat (refine And.intro (by omega) ?_)
              refine hK2 _ _ ?_
              clear hK2 K2
              simp only [List.drop_succ_cons, List.drop_zero]
              refine runOps_cut 8 (fun K2 hK2 => ?_)
              push_cast [hb6, hb8, hb12, hb19]
              repeat (refine And.intro (by omega) ?_)
              refine hK2 _ _ ?_
              clear hK2 K2
              simp only [List.drop_succ_cons, List.drop_zero]
              push_cast [hb6, hb8, hb12, hb19]
              repeat (refine And.intro (by omega) ?_)
              refine hK _ ?_
              clear hK K
              have hv := Option.some.inj h
              rw [← hv] at hk18
              refine Exists.intro (false) (And.intro hk18 ?_)
              refine Sub.trans (Sub.lo _) ?_
              refine Sub.of ?_ ?_ ⟨rfl, rfl, Nat.le_of_ble_eq_true rfl⟩ rfl
              · push_cast [hb6, hb8, hb12, hb19]
              · push_cast [hb6, hb8, hb12, hb19]
          · rintro i_3 h
            replace h : p_drydocklaw06_HelperAfter_J18 i_3 = some r := h
            try push_cast
            unfold p_drydocklaw06_HelperAfter_J18 at h
            refine VC.ret ?_
            have hr := Option.some.inj h
            subst hr
            refine endP (Sub.lo _) (Post.ret ?_ ?_ ?_)
            · push_cast [hb6, hb8, hb12]
            · push_cast [hb6, hb8, hb12]
            · rfl
end Go.Proofs.Ytpmnchgpbojppaa

/- HelperAfter, plainly. -/
set_option linter.unusedVariables false
set_option linter.unusedSimpArgs false
namespace Go.Proofs.Ytpmnchgpbojppaa
open Go Go.RowKit Go.Proofs.Try

theorem all_refl {l : List T_Table} (hl : l.length ≤ 1048576) : p_drydockref05_All l l = some true := by
  have key := lp_inv (step := fun x => p_drydockref05_All_L3 l l x) (fun s => ∃ n : Nat, s = (n : Int) ∧ n ≤ l.length) (fun s => ((l.length : Int) - s).toNat) (fun r => r = .inl ()) (by
    rintro s ⟨n, rfl, h6⟩
    simp only [p_drydockref05_All_L3]
    by_cases hlt : n < l.length
    · left
      have hd : decide ((n : Int) < (l.length : Int)) = true := by simp; omega
      simp only [hd, cond_true, idx_nat, List.getElem?_eq_getElem hlt, po_of, p_drydockref05_Same, decide_true, Bool.not_true, cond_false]
      exact ⟨_, rfl, ⟨n + 1, w64 (by omega), by omega⟩, by simp only [w64 (show n < 9223372036854775807 by omega)]; omega⟩
    · right
      have hd : decide ((n : Int) < (l.length : Int)) = false := by simp; omega
      simp only [hd, cond_false]
      exact ⟨_, rfl, rfl⟩) 0 ⟨0, rfl, Nat.zero_le _⟩
  obtain ⟨r, h, rfl⟩ := key
  unfold p_drydockref05_All
  rw [show ((l.length : Int) != (l.length : Int)) = false by simp]
  simp only [cond_false]
  rw [h]
  rfl
theorem env_refl {e : T_Env} (hl : e.T.length ≤ 1048576) : p_drydockref06_Same e e = some true := by
  unfold p_drydockref06_Same
  rw [all_refl hl]
  simp only [po_of, cond_true, beq_self_eq_true, Bool.and_self, p_drydockref06_Same_J2]
theorem of_ne {c : Int} (h : c = 0 ∨ c = 1 ∨ c = 3 ∨ c = 4) (h0 : c ≠ 0) : (((UInt32.ofInt c).toNat : Int) != 0) = true := by
  rcases h with rfl | rfl | rfl | rfl
  · exact absurd rfl h0
  · rfl
  · rfl
  · rfl
theorem of_nat (x : UInt32) : UInt32.ofNat x.toNat = x := by simp
/-- What is asked for, of a table where a word was just set. -/
theorem after_set {e : T_Env} {m k f w : UInt32} {t : T_Table} (h : Live e m t) (hfd : fieldN 1 [m, k, f, w] (toT t).s) (h0 : ((toT t).set k.toNat f.toNat w.toNat).2 = 0) :
    ∃ x y z q : T_Env, p_helper_Call 0 ⟨e.Ctx, e.T.set m.toNat (ofT ((toT t).set k.toNat f.toNat w.toNat).1), e.Seed⟩ [m, k, f] = some (x, w, 0) ∧
      p_helper_Call 3 ⟨e.Ctx, e.T.set m.toNat (ofT ((toT t).set k.toNat f.toNat w.toNat).1), e.Seed⟩ [m, k] = some (y, 1, 0) ∧
      p_helper_Call 2 ⟨e.Ctx, e.T.set m.toNat (ofT ((toT t).set k.toNat f.toNat w.toNat).1), e.Seed⟩ [m, k] = some (z, 1, 0) ∧
      p_helper_Call 0 z [m, k, f] = some (q, 0, 0) := by
  obtain ⟨k1, k2⟩ := act_keeps h.may (ActR.set (t := t) m k f w h0)
  have hl := live_set h k1 k2
  obtain ⟨u, hu⟩ : ∃ u, u = ofT ((toT t).set k.toNat f.toNat w.toNat).1 := ⟨_, rfl⟩
  have hut : toT u = ((toT t).set k.toNat f.toNat w.toNat).1 := by rw [hu, to_set]
  rw [← hu] at hl k1 k2 ⊢
  have hg := back_got h0
  rw [← hut] at hg
  have hhas : (toT u).has k.toNat f.toNat = true := by rw [← has_get, hg]
  have hs : (toT u).s = (toT t).s := by show toS u.S = toS t.S; rw [k2]
  have hk0 : (toT u).has k.toNat 0 = true := by
    simp only [Tab.has, Bool.and_eq_true, decide_eq_true_eq] at hhas ⊢
    obtain ⟨a1, a2⟩ := hhas
    obtain ⟨b1, b2, b3⟩ := keyed_iff.1 a1
    exact ⟨keyed_iff.2 ⟨b1, b2, by omega⟩, a2⟩
  have hfd0 : ∀ s : Sch, s = (toT t).s → fieldN 0 [m, k, f] s := fun s hs _ => by
    subst hs
    exact hfd (.inr rfl)
  obtain ⟨u1, v1, A1, C1⟩ := live_call hl (n := 0) (by omega) (a := [k, f]) rfl (hfd0 _ hs)
  obtain ⟨u2, v2, A2, C2⟩ := live_call hl (n := 3) (by omega) (a := [k]) rfl (fun q => by omega)
  obtain ⟨u3, v3, A3, C3⟩ := live_call hl (n := 2) (by omega) (a := [k]) rfl (fun q => by omega)
  obtain ⟨m3, s3⟩ := act_keeps k1 A3
  have hl3 := live_set hl m3 s3
  have hs3 : (toT u3).s = (toT t).s := by show toS u3.S = toS t.S; rw [s3, k2]
  obtain ⟨u4, v4, A4, C4⟩ := live_call hl3 (n := 0) (by omega) (a := [k, f]) rfl (hfd0 _ hs3)
  have e1 : v1 = w := by
    cases A1
    rw [hg]
    exact of_nat w
  have e2 : v2 = 1 := by
    cases A2
    rw [has_get, hk0]
    rfl
  have e3 : v3 = 1 ∧ toT u3 = ((toT u).del k.toNat).1 := by
    cases A3
    exact ⟨by rw [(del_ok k1).2.2.1, hk0]; rfl, to_del u k.toNat⟩
  have e4 : v4 = 0 := by
    cases A4
    rw [e3.2, del_none k1 hk0]
    rfl
  rw [e1] at C1
  rw [e2] at C2
  rw [e3.1] at C3
  rw [e4] at C4
  exact ⟨_, _, _, _, C1, C2, C3, C4⟩
theorem after_true (e : T_Env) (m k f w : UInt32) : p_drydocklaw06_HelperAfter e m k f w = some true := by
  obtain ⟨b, hb1, hb2⟩ := few_tells e.T
  unfold p_drydocklaw06_HelperAfter
  simp only [awake6, hb1, po_of, cond_true]
  cases b with
  | false => rfl
  | true =>
    have hF := (hb2 rfl).fits
    simp only [cond_true, po_of]
    rcases Bool.eq_false_or_eq_true (decide ((m.toNat : Int) ≥ (e.T.length : Int))) with hd | hd
    · rw [hd]; rfl
    · rw [hd]
      obtain ⟨r, hr, hR⟩ := call_tells (n := 1) (a := [m, k, f, w]) hF
      simp only [p_drydocklaw06_HelperAfter_J3, cond_false, hr, po_of]
      cases hR with
      | arg hq =>
        exfalso
        have : argsN 1 = 4 := rfl
        rw [this] at hq
        rcases hq with hq | hq
        · exact absurd hq (by decide)
        · exact hq rfl
      | draw h4 _ _ => exact absurd h4 (by decide)
      | fault _ _ x hx hw =>
        have c1 : ((10 : Int) != 0) = true := rfl
        have c2 : (((0 : UInt32).toNat : Int) == 0) = true := rfl
        simp only [c1, c2, cond_true, env_refl hF.len, po_of, p_drydocklaw06_HelperAfter_J9]
      | act _ _ x t u v hx ht hm hf hfd hA =>
        injection hx with hx
        subst hx
        have c1 : ((0 : Int) != 0) = false := rfl
        simp only [c1, cond_false]
        have hL : Live e m t := ⟨hF, ht, hm, hf⟩
        cases hA with
        | set _ _ _ _ h0 =>
          have c2 : (((0 : UInt32).toNat : Int) != 0) = false := rfl
          obtain ⟨x, y, z, q, C1, C2, C3, C4⟩ := after_set hL hfd h0
          have c3 : (((1 : UInt32).toNat : Int) == 1) = true := rfl
          have c4 : (((0 : UInt32).toNat : Int) == 0) = true := rfl
          simp only [c2, cond_false, C1, C2, C3, C4, po_of, beq_self_eq_true, cond_true, c3, c4, p_drydocklaw06_HelperAfter_J18]
        | setE _ _ _ _ h0 =>
          have c2 := of_ne set_code h0
          simp only [c2, cond_true, set_same ht]
          rw [env_refl (e := ⟨e.Ctx, e.T, e.Seed⟩) hF.len]
          rfl
end Go.Proofs.Ytpmnchgpbojppaa

