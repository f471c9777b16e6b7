/-
  PROVED: the statement InterpFuel of the given seat: whatever the program, the environment, and how much fuel there is, drydocklaw07.InterpFuel returns true, and what was handed in reads as it did.
  Conditions: none beyond the statement's own.
-/
import Derived.Test.YtkhanhhingicpaaJb3
import Derived.Test.YtkhanhhingicpaaRows
set_option linter.unusedVariables false
set_option linter.unusedSimpArgs false
set_option maxHeartbeats 4000000
set_option maxRecDepth 100000
namespace Go.Proofs.Ytkhanhhingicpaa
open Go Go.RowKit Go.Proofs.Try
noncomputable def p_drydocklaw07_InterpFuel_J12 (a2 : Int) (r10 : T_Ran) (r11 : T_Ran) (i_2 : Bool) : Option (Bool) :=
  cond i_2 (
  some false) (
  cond (r10.Err == 2) (
  some (r10.Used == a2)) (
  po (p_drydockref07_Same r10 r11) fun r20 =>
  some r20))
noncomputable def p_drydocklaw07_InterpFuel_J3 (a0 : T_Prog) (a1 : T_Env) (a2 : Int) (a3 : Int) (r1 : Bool) (i_1 : Bool) : Option (Bool) :=
  cond i_1 (
  some r1) (
  po (p_interp_Run a0 a1 a2) fun r10 =>
  po (p_interp_Run a0 a1 (IntKind.i64.wrap (a2 + a3))) fun r11 =>
  po (
  cond (decide (r10.Used > a2)) (
  some true) (
  cond (decide (r11.Used > (IntKind.i64.wrap (a2 + a3)))) (
  some true) (
  cond (decide (r10.Used < 0)) (
  some true) (
  cond (decide (r11.Used < r10.Used)) (
  some true) (
  cond (r10.Err != 0) (
  some ((r10.Ret.toNat : Int) != 0)) (
  some false)))))) (fun x => p_drydocklaw07_InterpFuel_J12 a2 r10 r11 x))
noncomputable def p_drydocklaw07_InterpFuel (a0 : T_Prog) (a1 : T_Env) (a2 : Int) (a3 : Int) : Option (Bool) :=
  po (p_drydocklaw07_awake) fun r1 =>
  po (p_drydocklaw07_few a0 a1) fun r2 =>
  po (
  cond r1 (
  cond r2 (
  cond (decide (a2 < 0)) (
  some true) (
  cond (decide (a3 < 0)) (
  some true) (
  cond (decide (a2 > 1500)) (
  some true) (
  some (decide (a3 > 1500)))))) (
  some true)) (
  some true)) (fun x => p_drydocklaw07_InterpFuel_J3 a0 a1 a2 a3 r1 x)
theorem c_drydocklaw07_InterpFuel (a0 : T_Prog) (a1 : T_Env) (a2 : Int) (a3 : Int) {r : Bool} (h : p_drydocklaw07_InterpFuel a0 a1 a2 a3 = some r) : Ctr prog 8 [.agg (enc_Prog a0), .agg (enc_Env a1), .raw (.int .i64 a2), .raw (.int .i64 a3)] [] (.raw (.bool r)) [] := by
 unfold p_drydocklaw07_InterpFuel at h; refine Ctr.ofW tabOk func8 rfl call8 0 _ ntmps8 [.tmp 8] rfl rfl rfl (fun B => ?_); refine VC.seqF tabOkF [some 4, some 5, some 8] [2, 3, 4, 5] rfl rfl (fun K hK => ?_); push_cast; (repeat refine .intro (by omega) ?_); refine hK _ ?_; clear hK K; obtain ⟨r1, hr1, h⟩ := po_some h; refine VC.seqF tabOkF [some 13, some 9] [2, 3, 4, 5, 9] rfl rfl (fun K hK => ?_); push_cast; (repeat refine .intro (by omega) ?_); refine callP (Ctr.lo (c_drydocklaw07_awake  hr1)) rfl ?_; push_cast; (repeat refine .intro (by omega) ?_); refine hK _ ?_; clear hK K; obtain ⟨r2, hr2, h⟩ := po_some h; refine VC.seqF tabOkF [some 14, some 15, some 16, some 10] [2, 3, 4, 5, 9, 10] rfl rfl (fun K hK => ?_); push_cast; (repeat refine .intro (by omega) ?_); refine callP (Ctr.lo (c_drydocklaw07_few a0 a1 hr2)) rfl ?_; push_cast; (repeat refine .intro (by omega) ?_); refine hK _ ?_; clear hK K; refine VC.seq ?_; obtain ⟨v3, h, hk3⟩ := po_some h; refine VC.seqJ (X := Bool) (fun x => p_drydocklaw07_InterpFuel_J3 a0 a1 a2 a3 r1 x = some r) (fun x => ⟨[(2, .raw (.int .i64 a2)), (3, .raw (.int .i64 a3)), (4, .ref 0 0), (5, .ref 1 0), (9, .raw (.bool r1)), (38, .raw (.bool x))], [(0, .box 64 [.sl false (a0.Fns.map enc_Fn)]), (1, .box 49 [.raw (.int .u32 (a1.Ctx.a0.toNat : Int)), .raw (.int .u32 (a1.Ctx.a1.toNat : Int)), .raw (.int .u32 (a1.Ctx.a2.toNat : Int)), .raw (.int .u32 (a1.Ctx.a3.toNat : Int)), .sl false (a1.T.map enc_Table), .raw (.int .u32 (a1.Seed.toNat : Int))])], 31, 94, 0⟩) ?_ ?_
 ·rcases Bool.eq_false_or_eq_true r1 with hb4 | hb4
  ·replace h := cond_yes hb4 h; rcases Bool.eq_false_or_eq_true r2 with hb5 | hb5
   ·replace h := cond_yes hb5 h; rcases Bool.eq_false_or_eq_true (decide (a2 < 0)) with hb6 | hb6
    ·replace h := cond_yes hb6 h; refine VC.lastF tabOkF [some 17, some 18, some 19, some 20, some 21, some 22, some 23, some 24, some 25, some 26, some 27, some 28, some 29, some 30, some 31, some 32, some 33, some 34, some 35, some 36, some 37, some 38] rfl rfl (fun K hK => ?_); refine runOps_cut 8 (fun K2 hK2 => ?_); push_cast [hb4, hb5, hb6]; (repeat refine .intro (by omega) ?_); refine hK2 _ _ ?_; clear hK2 K2; simp only [List.drop_succ_cons, List.drop_zero]; refine runOps_cut 8 (fun K2 hK2 => ?_); push_cast [hb4, hb5, hb6]; (repeat refine .intro (by omega) ?_); refine hK2 _ _ ?_; clear hK2 K2; simp only [List.drop_succ_cons, List.drop_zero]; push_cast [hb4, hb5, hb6]; (repeat refine .intro (by omega) ?_); refine hK _ ?_; clear hK K; have hv := Option.some.inj h; rw [← hv] at hk3; refine Exists.intro (true) (And.intro hk3 ?_); refine slo ?_ ?_ rfl rfl
     ·push_cast [hb4, hb5, hb6]
     ·push_cast [hb4, hb5, hb6]
    ·replace h := cond_no hb6 h; rcases Bool.eq_false_or_eq_true (decide (a3 < 0)) with hb7 | hb7
     ·replace h := cond_yes hb7 h; refine VC.lastF tabOkF [some 17, some 18, some 19, some 20, some 21, some 22, some 23, some 24, some 25, some 26, some 27, some 28, some 29, some 30, some 31, some 32, some 33, some 34, some 35, some 36, some 37, some 38] rfl rfl (fun K hK => ?_); refine runOps_cut 8 (fun K2 hK2 => ?_); push_cast [hb4, hb5, hb6, hb7]; (repeat refine .intro (by omega) ?_); refine hK2 _ _ ?_; clear hK2 K2; simp only [List.drop_succ_cons, List.drop_zero]; refine runOps_cut 8 (fun K2 hK2 => ?_); push_cast [hb4, hb5, hb6, hb7]; (repeat refine .intro (by omega) ?_); refine hK2 _ _ ?_; clear hK2 K2; simp only [List.drop_succ_cons, List.drop_zero]; push_cast [hb4, hb5, hb6, hb7]; (repeat refine .intro (by omega) ?_); refine hK _ ?_; clear hK K; have hv := Option.some.inj h; rw [← hv] at hk3; refine Exists.intro (true) (And.intro hk3 ?_); refine slo ?_ ?_ rfl rfl
      ·push_cast [hb4, hb5, hb6, hb7]
      ·push_cast [hb4, hb5, hb6, hb7]
     ·replace h := cond_no hb7 h; rcases Bool.eq_false_or_eq_true (decide (a2 > 1500)) with hb8 | hb8
      ·replace h := cond_yes hb8 h; refine VC.lastF tabOkF [some 17, some 18, some 19, some 20, some 21, some 22, some 23, some 24, some 25, some 26, some 27, some 28, some 29, some 30, some 31, some 32, some 33, some 34, some 35, some 36, some 37, some 38] rfl rfl (fun K hK => ?_); refine runOps_cut 8 (fun K2 hK2 => ?_); push_cast [hb4, hb5, hb6, hb7, hb8]; (repeat refine .intro (by omega) ?_); refine hK2 _ _ ?_; clear hK2 K2; simp only [List.drop_succ_cons, List.drop_zero]; refine runOps_cut 8 (fun K2 hK2 => ?_); push_cast [hb4, hb5, hb6, hb7, hb8]; (repeat refine .intro (by omega) ?_); refine hK2 _ _ ?_; clear hK2 K2; simp only [List.drop_succ_cons, List.drop_zero]; push_cast [hb4, hb5, hb6, hb7, hb8]; (repeat refine .intro (by omega) ?_); refine hK _ ?_; clear hK K; have hv := Option.some.inj h; rw [← hv] at hk3; refine Exists.intro (true) (And.intro hk3 ?_); refine slo ?_ ?_ rfl rfl
       ·push_cast [hb4, hb5, hb6, hb7, hb8]
       ·push_cast [hb4, hb5, hb6, hb7, hb8]
      ·replace h := cond_no hb8 h; refine VC.lastF tabOkF [some 17, some 18, some 19, some 20, some 21, some 22, some 23, some 24, some 25, some 26, some 27, some 28, some 29, some 30, some 31, some 32, some 33, some 34, some 35, some 36, some 37, some 38] rfl rfl (fun K hK => ?_); refine runOps_cut 8 (fun K2 hK2 => ?_); push_cast [hb4, hb5, hb6, hb7, hb8]; (repeat refine .intro (by omega) ?_); refine hK2 _ _ ?_; clear hK2 K2; simp only [List.drop_succ_cons, List.drop_zero]; refine runOps_cut 8 (fun K2 hK2 => ?_); push_cast [hb4, hb5, hb6, hb7, hb8]; (repeat refine .intro (by omega) ?_); refine hK2 _ _ ?_; clear hK2 K2; simp only [List.drop_succ_cons, List.drop_zero]; push_cast [hb4, hb5, hb6, hb7, hb8]; (repeat refine .intro (by omega) ?_); refine hK _ ?_; clear hK K; have hv := Option.some.inj h; rw [← hv] at hk3; refine Exists.intro ((decide (a3 > 1500))) (And.intro hk3 ?_); refine slo ?_ ?_ rfl rfl
       ·push_cast [hb4, hb5, hb6, hb7, hb8]
       ·push_cast [hb4, hb5, hb6, hb7, hb8]
   ·replace h := cond_no hb5 h; refine VC.lastF tabOkF [some 17, some 18, some 19, some 20, some 21, some 22, some 23, some 24, some 25, some 26, some 27, some 28, some 29, some 30, some 31, some 32, some 33, some 34, some 35, some 36, some 37, some 38] rfl rfl (fun K hK => ?_); refine runOps_cut 8 (fun K2 hK2 => ?_); push_cast [hb4, hb5]; (repeat refine .intro (by omega) ?_); refine hK2 _ _ ?_; clear hK2 K2; simp only [List.drop_succ_cons, List.drop_zero]; refine runOps_cut 8 (fun K2 hK2 => ?_); push_cast [hb4, hb5]; (repeat refine .intro (by omega) ?_); refine hK2 _ _ ?_; clear hK2 K2; simp only [List.drop_succ_cons, List.drop_zero]; push_cast [hb4, hb5]; (repeat refine .intro (by omega) ?_); refine hK _ ?_; clear hK K; have hv := Option.some.inj h; rw [← hv] at hk3; refine Exists.intro (true) (And.intro hk3 ?_); refine slo ?_ ?_ rfl rfl
    ·push_cast [hb4, hb5]
    ·push_cast [hb4, hb5]
  ·replace h := cond_no hb4 h; refine VC.lastF tabOkF [some 17, some 18, some 19, some 20, some 21, some 22, some 23, some 24, some 25, some 26, some 27, some 28, some 29, some 30, some 31, some 32, some 33, some 34, some 35, some 36, some 37, some 38] rfl rfl (fun K hK => ?_); refine runOps_cut 8 (fun K2 hK2 => ?_); push_cast [hb4]; (repeat refine .intro (by omega) ?_); refine hK2 _ _ ?_; clear hK2 K2; simp only [List.drop_succ_cons, List.drop_zero]; refine runOps_cut 8 (fun K2 hK2 => ?_); push_cast [hb4]; (repeat refine .intro (by omega) ?_); refine hK2 _ _ ?_; clear hK2 K2; simp only [List.drop_succ_cons, List.drop_zero]; push_cast [hb4]; (repeat refine .intro (by omega) ?_); refine hK _ ?_; clear hK K; have hv := Option.some.inj h; rw [← hv] at hk3; refine Exists.intro (true) (And.intro hk3 ?_); refine slo ?_ ?_ rfl rfl
   ·push_cast [hb4]
   ·push_cast [hb4]
 ·rintro i_1 h; replace h : p_drydocklaw07_InterpFuel_J3 a0 a1 a2 a3 r1 i_1 = some r := h; (try push_cast); unfold p_drydocklaw07_InterpFuel_J3 at h; refine VC.cond rfl rfl (fun hc9 => ?_) (fun hc9 => ?_)
  ·have hb9 : i_1 = true := by simpa using hc9
   replace h := cond_yes hb9 h; refine VC.seqF tabOkF [some 39, some 8] [8] rfl rfl (fun K hK => ?_); push_cast [hb9]; (repeat refine .intro (by omega) ?_); refine hK _ ?_; clear hK K; refine VC.ret ?_; have hr := Option.some.inj h; subst hr; refine endP (Sub.lo _) (Post.ret ?_ ?_ ?_)
   ·push_cast [hb9]
   ·push_cast [hb9]
   ·rfl
  ·have hb9 : i_1 = false := by simpa using hc9
   replace h := cond_no hb9 h; refine VC.skip ?_; obtain ⟨r10, hr10, h⟩ := po_some h; refine VC.seqF tabOkF [some 40, some 41, some 42, some 43, some 11, none] [2, 3, 4, 5, 11] rfl rfl (fun K hK => ?_); push_cast [hb9]; (repeat refine .intro (by omega) ?_); refine callP (Ctr.lo (c_interp_Run a0 a1 a2 hr10)) rfl ?_; push_cast [hb9]; (repeat refine .intro (by omega) ?_); refine hK _ ?_; clear hK K; obtain ⟨r11, hr11, h⟩ := po_some h; refine VC.seqF tabOkF [some 44, some 45, some 46, some 47, some 48, some 49, some 12, none] [2, 3, 11, 12] rfl rfl (fun K hK => ?_); push_cast [hb9]; (repeat refine .intro (by omega) ?_); refine callP (Ctr.lo (c_interp_Run a0 a1 (IntKind.i64.wrap (a2 + a3)) hr11)) rfl ?_; push_cast [hb9]; (repeat refine .intro (by omega) ?_); refine hK _ ?_; clear hK K; refine VC.seq ?_; obtain ⟨v12, h, hk12⟩ := po_some h; refine VC.seqJ (X := Bool) (fun x => p_drydocklaw07_InterpFuel_J12 a2 r10 r11 x = some r) (fun x => ⟨[(2, .raw (.int .i64 a2)), (11, .ref 35 0), (12, .ref 43 0), (83, .raw (.bool x))], [(35, .box 67 [.raw (.int .u32 (r10.Ret.toNat : Int)), .raw (.int .u32 (r10.E.Ctx.a0.toNat : Int)), .raw (.int .u32 (r10.E.Ctx.a1.toNat : Int)), .raw (.int .u32 (r10.E.Ctx.a2.toNat : Int)), .raw (.int .u32 (r10.E.Ctx.a3.toNat : Int)), .sl false (r10.E.T.map enc_Table), .raw (.int .u32 (r10.E.Seed.toNat : Int)), .raw (.int .i64 r10.Used), .raw (.int .i64 r10.Err)]), (43, .box 67 [.raw (.int .u32 (r11.Ret.toNat : Int)), .raw (.int .u32 (r11.E.Ctx.a0.toNat : Int)), .raw (.int .u32 (r11.E.Ctx.a1.toNat : Int)), .raw (.int .u32 (r11.E.Ctx.a2.toNat : Int)), .raw (.int .u32 (r11.E.Ctx.a3.toNat : Int)), .sl false (r11.E.T.map enc_Table), .raw (.int .u32 (r11.E.Seed.toNat : Int)), .raw (.int .i64 r11.Used), .raw (.int .i64 r11.Err)])], 79, 94, 0⟩) ?_ ?_
   ·rcases Bool.eq_false_or_eq_true (decide (r10.Used > a2)) with hb13 | hb13
    ·replace h := cond_yes hb13 h; refine VC.lastF tabOkF [some 50, some 51, some 52, some 53, some 54, some 55, some 56, some 57, some 58, some 59, some 60, some 61, some 62, some 63, some 64, some 65, some 66, some 67, some 68, some 69, some 70, some 71, some 72, some 73, some 74, some 75, some 76, some 77, some 78, some 79, some 80, some 81, some 82, some 83] rfl rfl (fun K hK => ?_); refine runOps_cut 8 (fun K2 hK2 => ?_); push_cast [hb9, hb13]; (repeat refine .intro (by omega) ?_); refine hK2 _ _ ?_; clear hK2 K2; simp only [List.drop_succ_cons, List.drop_zero]; refine runOps_cut 8 (fun K2 hK2 => ?_); push_cast [hb9, hb13]; (repeat refine .intro (by omega) ?_); refine hK2 _ _ ?_; clear hK2 K2; simp only [List.drop_succ_cons, List.drop_zero]; refine runOps_cut 8 (fun K2 hK2 => ?_); push_cast [hb9, hb13]; (repeat refine .intro (by omega) ?_); refine hK2 _ _ ?_; clear hK2 K2; simp only [List.drop_succ_cons, List.drop_zero]; push_cast [hb9, hb13]; (repeat refine .intro (by omega) ?_); refine hK _ ?_; clear hK K; have hv := Option.some.inj h; rw [← hv] at hk12; refine Exists.intro (true) (And.intro hk12 ?_); refine slo ?_ ?_ rfl rfl
     ·push_cast [hb9, hb13]
     ·push_cast [hb9, hb13]
    ·replace h := cond_no hb13 h; rcases Bool.eq_false_or_eq_true (decide (r11.Used > (IntKind.i64.wrap (a2 + a3)))) with hb14 | hb14
     ·replace h := cond_yes hb14 h; refine VC.lastF tabOkF [some 50, some 51, some 52, some 53, some 54, some 55, some 56, some 57, some 58, some 59, some 60, some 61, some 62, some 63, some 64, some 65, some 66, some 67, some 68, some 69, some 70, some 71, some 72, some 73, some 74, some 75, some 76, some 77, some 78, some 79, some 80, some 81, some 82, some 83] rfl rfl (fun K hK => ?_); refine runOps_cut 8 (fun K2 hK2 => ?_); push_cast [hb9, hb13, hb14]; (repeat refine .intro (by omega) ?_); refine hK2 _ _ ?_; clear hK2 K2; simp only [List.drop_succ_cons, List.drop_zero]; refine runOps_cut 8 (fun K2 hK2 => ?_); push_cast [hb9, hb13, hb14]; (repeat refine .intro (by omega) ?_); refine hK2 _ _ ?_; clear hK2 K2; simp only [List.drop_succ_cons, List.drop_zero]; refine runOps_cut 8 (fun K2 hK2 => ?_); push_cast [hb9, hb13, hb14]; (repeat refine .intro (by omega) ?_); refine hK2 _ _ ?_; clear hK2 K2; simp only [List.drop_succ_cons, List.drop_zero]; push_cast [hb9, hb13, hb14]; (repeat refine .intro (by omega) ?_); refine hK _ ?_; clear hK K; have hv := Option.some.inj h; rw [← hv] at hk12; refine Exists.intro (true) (And.intro hk12 ?_); refine slo ?_ ?_ rfl rfl
      ·push_cast [hb9, hb13, hb14]
      ·push_cast [hb9, hb13, hb14]
     ·replace h := cond_no hb14 h; rcases Bool.eq_false_or_eq_true (decide (r10.Used < 0)) with hb15 | hb15
      ·replace h := cond_yes hb15 h; refine VC.lastF tabOkF [some 50, some 51, some 52, some 53, some 54, some 55, some 56, some 57, some 58, some 59, some 60, some 61, some 62, some 63, some 64, some 65, some 66, some 67, some 68, some 69, some 70, some 71, some 72, some 73, some 74, some 75, some 76, some 77, some 78, some 79, some 80, some 81, some 82, some 83] rfl rfl (fun K hK => ?_); refine runOps_cut 8 (fun K2 hK2 => ?_); push_cast [hb9, hb13, hb14, hb15]; (repeat refine .intro (by omega) ?_); refine hK2 _ _ ?_; clear hK2 K2; simp only [List.drop_succ_cons, List.drop_zero]; refine runOps_cut 8 (fun K2 hK2 => ?_); push_cast [hb9, hb13, hb14, hb15]; (repeat refine .intro (by omega) ?_); refine hK2 _ _ ?_; clear hK2 K2; simp only [List.drop_succ_cons, List.drop_zero]; refine runOps_cut 8 (fun K2 hK2 => ?_); push_cast [hb9, hb13, hb14, hb15]; (repeat refine .intro (by omega) ?_); refine hK2 _ _ ?_; clear hK2 K2; simp only [List.drop_succ_cons, List.drop_zero]; push_cast [hb9, hb13, hb14, hb15]; (repeat refine .intro (by omega) ?_); refine hK _ ?_; clear hK K; have hv := Option.some.inj h; rw [← hv] at hk12; refine Exists.intro (true) (And.intro hk12 ?_); refine slo ?_ ?_ rfl rfl
       ·push_cast [hb9, hb13, hb14, hb15]
       ·push_cast [hb9, hb13, hb14, hb15]
      ·replace h := cond_no hb15 h; rcases Bool.eq_false_or_eq_true (decide (r11.Used < r10.Used)) with hb16 | hb16
       ·replace h := cond_yes hb16 h; refine VC.lastF tabOkF [some 50, some 51, some 52, some 53, some 54, some 55, some 56, some 57, some 58, some 59, some 60, some 61, some 62, some 63, some 64, some 65, some 66, some 67, some 68, some 69, some 70, some 71, some 72, some 73, some 74, some 75, some 76, some 77, some 78, some 79, some 80, some 81, some 82, some 83] rfl rfl (fun K hK => ?_); refine runOps_cut 8 (fun K2 hK2 => ?_); push_cast [hb9, hb13, hb14, hb15, hb16]; (repeat refine .intro (by omega) ?_); refine hK2 _ _ ?_; clear hK2 K2; simp only [List.drop_succ_cons, List.drop_zero]; refine runOps_cut 8 (fun K2 hK2 => ?_); push_cast [hb9, hb13, hb14, hb15, hb16]; (repeat refine .intro (by omega) ?_); refine hK2 _ _ ?_; clear hK2 K2; simp only [List.drop_succ_cons, List.drop_zero]; refine runOps_cut 8 (fun K2 hK2 => ?_); push_cast [hb9, hb13, hb14, hb15, hb16]; (repeat refine .intro (by omega) ?_); refine hK2 _ _ ?_; clear hK2 K2; simp only [List.drop_succ_cons, List.drop_zero]; push_cast [hb9, hb13, hb14, hb15, hb16]; (repeat refine .intro (by omega) ?_); refine hK _ ?_; clear hK K; have hv := Option.some.inj h; rw [← hv] at hk12; refine Exists.intro (true) (And.intro hk12 ?_); refine slo ?_ ?_ rfl rfl
        ·push_cast [hb9, hb13, hb14, hb15, hb16]
        ·push_cast [hb9, hb13, hb14, hb15, hb16]
       ·replace h := cond_no hb16 h; rcases Bool.eq_false_or_eq_true (r10.Err != 0) with hb17 | hb17
        ·replace h := cond_yes hb17 h; refine VC.lastF tabOkF [some 50, some 51, some 52, some 53, some 54, some 55, some 56, some 57, some 58, some 59, some 60, some 61, some 62, some 63, some 64, some 65, some 66, some 67, some 68, some 69, some 70, some 71, some 72, some 73, some 74, some 75, some 76, some 77, some 78, some 79, some 80, some 81, some 82, some 83] rfl rfl (fun K hK => ?_); refine runOps_cut 8 (fun K2 hK2 => ?_); push_cast [hb9, hb13, hb14, hb15, hb16, hb17]; (repeat refine .intro (by omega) ?_); refine hK2 _ _ ?_; clear hK2 K2; simp only [List.drop_succ_cons, List.drop_zero]; refine runOps_cut 8 (fun K2 hK2 => ?_); push_cast [hb9, hb13, hb14, hb15, hb16, hb17]; (repeat refine .intro (by omega) ?_); refine hK2 _ _ ?_; clear hK2 K2; simp only [List.drop_succ_cons, List.drop_zero]; refine runOps_cut 8 (fun K2 hK2 => ?_); push_cast [hb9, hb13, hb14, hb15, hb16, hb17]; (repeat refine .intro (by omega) ?_); refine hK2 _ _ ?_; clear hK2 K2; simp only [List.drop_succ_cons, List.drop_zero]; push_cast [hb9, hb13, hb14, hb15, hb16, hb17]; (repeat refine .intro (by omega) ?_); refine hK _ ?_; clear hK K; have hv := Option.some.inj h; rw [← hv] at hk12; refine Exists.intro (((r10.Ret.toNat : Int) != 0)) (And.intro hk12 ?_); refine slo ?_ ?_ rfl rfl
         ·push_cast [hb9, hb13, hb14, hb15, hb16, hb17]
         ·push_cast [hb9, hb13, hb14, hb15, hb16, hb17]
        ·replace h := cond_no hb17 h; refine VC.lastF tabOkF [some 50, some 51, some 52, some 53, some 54, some 55, some 56, some 57, some 58, some 59, some 60, some 61, some 62, some 63, some 64, some 65, some 66, some 67, some 68, some 69, some 70, some 71, some 72, some 73, some 74, some 75, some 76, some 77, some 78, some 79, some 80, some 81, some 82, some 83] rfl rfl (fun K hK => ?_); refine runOps_cut 8 (fun K2 hK2 => ?_); push_cast [hb9, hb13, hb14, hb15, hb16, hb17]; (repeat refine .intro (by omega) ?_); refine hK2 _ _ ?_; clear hK2 K2; simp only [List.drop_succ_cons, List.drop_zero]; refine runOps_cut 8 (fun K2 hK2 => ?_); push_cast [hb9, hb13, hb14, hb15, hb16, hb17]; (repeat refine .intro (by omega) ?_); refine hK2 _ _ ?_; clear hK2 K2; simp only [List.drop_succ_cons, List.drop_zero]; refine runOps_cut 8 (fun K2 hK2 => ?_); push_cast [hb9, hb13, hb14, hb15, hb16, hb17]; (repeat refine .intro (by omega) ?_); refine hK2 _ _ ?_; clear hK2 K2; simp only [List.drop_succ_cons, List.drop_zero]; push_cast [hb9, hb13, hb14, hb15, hb16, hb17]; (repeat refine .intro (by omega) ?_); refine hK _ ?_; clear hK K; have hv := Option.some.inj h; rw [← hv] at hk12; refine Exists.intro (false) (And.intro hk12 ?_); refine slo ?_ ?_ rfl rfl
         ·push_cast [hb9, hb13, hb14, hb15, hb16, hb17]
         ·push_cast [hb9, hb13, hb14, hb15, hb16, hb17]
   ·rintro i_2 h; replace h : p_drydocklaw07_InterpFuel_J12 a2 r10 r11 i_2 = some r := h; (try push_cast); unfold p_drydocklaw07_InterpFuel_J12 at h; refine VC.cond rfl rfl (fun hc18 => ?_) (fun hc18 => ?_)
    ·have hb18 : i_2 = true := by simpa using hc18
     replace h := cond_yes hb18 h; refine VC.seqF tabOkF [some 8] [8] rfl rfl (fun K hK => ?_); push_cast [hb9, hb18]; (repeat refine .intro (by omega) ?_); refine hK _ ?_; clear hK K; refine VC.ret ?_; have hr := Option.some.inj h; subst hr; refine endP (Sub.lo _) (Post.ret ?_ ?_ ?_)
     ·push_cast [hb9, hb18]
     ·push_cast [hb9, hb18]
     ·rfl
    ·have hb18 : i_2 = false := by simpa using hc18
     replace h := cond_no hb18 h; refine VC.skip ?_; refine VC.seq ?_; refine VC.seqF tabOkF [some 84, some 85, some 86] [2, 11, 12, 86] rfl rfl (fun K hK => ?_); push_cast [hb9, hb18]; (repeat refine .intro (by omega) ?_); refine hK _ ?_; clear hK K; refine VC.cond rfl rfl (fun hc19 => ?_) (fun hc19 => ?_)
     ·have hb19 : (r10.Err == 2) = true := by simpa using hc19
      replace h := cond_yes hb19 h; refine VC.seqF tabOkF [some 87, some 88, some 89, some 90, some 8] [8] rfl rfl (fun K hK => ?_); push_cast [hb9, hb18, hb19]; (repeat refine .intro (by omega) ?_); refine hK _ ?_; clear hK K; refine VC.ret ?_; have hr := Option.some.inj h; subst hr; refine endP (Sub.lo _) (Post.ret ?_ ?_ ?_)
      ·push_cast [hb9, hb18, hb19]
      ·push_cast [hb9, hb18, hb19]
      ·rfl
     ·have hb19 : (r10.Err == 2) = false := by simpa using hc19
      replace h := cond_no hb19 h; refine VC.skip ?_; obtain ⟨r20, hr20, h⟩ := po_some h; refine VC.seqF tabOkF [some 91, some 92, some 93, some 8] [8] rfl rfl (fun K hK => ?_); push_cast [hb9, hb18, hb19]; (repeat refine .intro (by omega) ?_); refine callP (Ctr.lo (c_drydockref07_Same r10 r11 hr20)) rfl ?_; push_cast [hb9, hb18, hb19]; (repeat refine .intro (by omega) ?_); refine hK _ ?_; clear hK K; refine VC.ret ?_; have hr := Option.some.inj h; subst hr; refine endP (Sub.lo _) (Post.ret ?_ ?_ ?_)
      ·push_cast [hb9, hb18, hb19]
      ·push_cast [hb9, hb18, hb19]
      ·rfl
theorem tau_fuel (p : T_Prog) (e : T_Env) (fu us m err : Int) : tau id 0 m ⟨p, e, fu, us, err⟩ = ⟨p, e, fu + m, us, err⟩ := by
  unfold tau gE
  simp only [id, Int.add_zero]
theorem ran_tau (v : UInt32) (m : Int) (r : Rn) : ranOf v (tau id 0 m r) = ranOf v r := by
  unfold ranOf tau gE
  simp only [id, Int.add_zero]
theorem fuel_end {a2 a3 : Int} {x y : T_Ran} (h1 : x.Used ≤ a2) (h2 : y.Used ≤ a2 + a3) (h3 : 0 ≤ x.Used) (h4 : x.Used ≤ y.Used) (h5 : x.Err ≠ 0 → x.Ret = 0) (h6 : x.Err = 2 → x.Used = a2) (h7 : x.Err ≠ 2 → y = x) (h8 : x.E.T.length ≤ 1048576) :
    po (
      cond (decide (x.Used > a2)) (
      some true) (
      cond (decide (y.Used > a2 + a3)) (
      some true) (
      cond (decide (x.Used < 0)) (
      some true) (
      cond (decide (y.Used < x.Used)) (
      some true) (
      cond (x.Err != 0) (
      some ((x.Ret.toNat : Int) != 0)) (
      some false)))))) (fun q => p_drydocklaw07_InterpFuel_J12 a2 x y q) = some true := by
  rw [decide_eq_false (show ¬ x.Used > a2 by omega), decide_eq_false (show ¬ y.Used > a2 + a3 by omega), decide_eq_false (show ¬ x.Used < 0 by omega), decide_eq_false (show ¬ y.Used < x.Used by omega)]
  have fin : p_drydocklaw07_InterpFuel_J12 a2 x y false = some true := by
    unfold p_drydocklaw07_InterpFuel_J12
    by_cases h : x.Err = 2
    · have d : (x.Err == 2) = true := by simpa using h
      rw [d]
      simp only [cond_true, cond_false, h6 h, beq_self_eq_true]
    · have d : (x.Err == 2) = false := by simpa using h
      rw [d, h7 h]
      simp only [cond_false, same7 h8, po_of]
  simp only [cond_false]
  by_cases h : x.Err = 0
  · have d : (x.Err != 0) = false := by simpa using h
    rw [d]
    exact fin
  · have d : (x.Err != 0) = true := by simpa using h
    rw [d, h5 h]
    exact fin
theorem fuel_true (p : T_Prog) (e : T_Env) (a2 a3 : Int) : p_drydocklaw07_InterpFuel p e a2 a3 = some true := by
  obtain ⟨b, hb1, hb2⟩ := few7 p e
  unfold p_drydocklaw07_InterpFuel
  simp only [awake7, hb1, po_of, cond_true]
  have up : p_drydocklaw07_InterpFuel_J3 p e a2 a3 true true = some true := rfl
  cases b with
  | false => exact up
  | true =>
    have hF := (hb2 rfl).fits
    simp only [cond_true]
    by_cases h1 : a2 < 0
    · rw [decide_eq_true h1]; exact up
    by_cases h2 : a3 < 0
    · rw [decide_eq_false h1, decide_eq_true h2]; exact up
    by_cases h3 : a2 > 1500
    · rw [decide_eq_false h1, decide_eq_false h2, decide_eq_true h3]; exact up
    by_cases h4 : a3 > 1500
    · rw [decide_eq_false h1, decide_eq_false h2, decide_eq_false h3, decide_eq_true h4]; exact up
    rw [decide_eq_false h1, decide_eq_false h2, decide_eq_false h3, decide_eq_false h4]
    have hw : IntKind.i64.wrap (a2 + a3) = a2 + a3 := wrap_i64 (by omega) (by omega)
    simp only [cond_false, po_of, p_drydocklaw07_InterpFuel_J3, hw]
    obtain ⟨c, hc1, hc2⟩ := progMay_tells p
    rw [runI hc1 hc2 hF, runI hc1 hc2 hF]
    cases c with
    | false =>
      rw [if_neg (fun q => by cases q.1), if_neg (fun q => by cases q.1)]
      simp only [po_of]
      exact fuel_end (x := ⟨0, e, 0, 1⟩) (y := ⟨0, e, 0, 1⟩) (by show (0 : Int) ≤ a2; omega) (by show (0 : Int) ≤ a2 + a3; omega) (Int.le_refl _) (Int.le_refl _) (fun _ => rfl) (fun q => absurd (show (1 : Int) = 2 from q) (by decide)) (fun _ => rfl) hF.len
    | true =>
      have hp := hc2 rfl
      rw [if_pos ⟨rfl, by omega, by omega⟩, if_pos ⟨rfl, by omega, by omega⟩]
      have hpre := preI hp hF (fu := a2) ⟨by omega, by omega⟩ (fn := 0) ⟨Int.le_refl _, by have := hp.len; omega⟩ (a := []) (by decide)
      obtain ⟨v, r, g1, g2, g3⟩ := frame_sim hp (g := id) (k := 0) (m := a3) (Int.le_refl _) (by omega) (.inl fun _ => rfl) 9 (lenI hp) _ _ hpre (by show a2 + 0 + a3 ≤ 1000000; omega)
      obtain ⟨v', r', q1, q2⟩ := frame_tells hp 9 (lenI hp) _ _ hpre
      rw [g1] at q1
      injection q1 with q1
      injection q1 with e1 e2
      subst e1
      subst e2
      have hpre2 := preI hp hF (fu := a2 + a3) ⟨by omega, by omega⟩ (fn := 0) ⟨Int.le_refl _, by have := hp.len; omega⟩ (a := []) (by decide)
      obtain ⟨w, s, k1, k2⟩ := frame_tells hp 9 (lenI hp) _ _ hpre2
      have hu : 0 ≤ r.used ∧ r.used ≤ a2 := q2.us
      have hu2 : 0 ≤ s.used ∧ s.used ≤ a2 + a3 := k2.us
      rw [tau_fuel] at g2 g3
      rw [g1, k1]
      simp only [po_of]
      have hle : r.used ≤ s.used ∧ (r.err ≠ 2 → ranOf w s = ranOf v r) := by
        by_cases he : r.err = 2
        · obtain ⟨v2, r2, j1, j2⟩ := g3 he
          rw [k1] at j1
          injection j1 with j1
          injection j1 with _ j1
          subst j1
          exact ⟨by omega, fun q => absurd he q⟩
        · have j1 := g2 (.inl he)
          rw [k1] at j1
          injection j1 with j1
          injection j1 with j3 j4
          subst j3
          subst j4
          exact ⟨by show r.used ≤ r.used + 0; omega, fun _ => ran_tau _ _ _⟩
      exact fuel_end (x := ranOf v r) (y := ranOf w s) hu.2 hu2.2 hu.1 hle.1 (fun q => if_neg q) (fun q => q2.long q) hle.2 q2.e.fits.len
/-
  PROVED: the statement InterpFuel of the given seat: whatever the program, the environment, and how much fuel there is, drydocklaw07.InterpFuel returns true, and what was handed in reads as it did.
  Conditions: none beyond the statement's own.
-/
open Go Go.ChangeShapes Go.WideShapes Go.ChangeAt Go.RowKit Go.Proofs.Try
theorem o_3 {H : Type} {enc : TypeId × Value → H} {w : World} {base : Nat} {spare : Nat → Bool} {held : Bool} {fuel : Nat} {cs : List Value} {x : DataW H × List MemPlace} (h : DataW.trod enc prog w base spare held fuel 3 cs = some x) : ∃ a : Int, DRels w (okW w) (encI64 a) cs:= oI64 underlying3 h
theorem o_4 {H : Type} {enc : TypeId × Value → H} {w : World} {base : Nat} {spare : Nat → Bool} {held : Bool} {fuel : Nat} {cs : List Value} {x : DataW H × List MemPlace} (h : DataW.trod enc prog w base spare held fuel 4 cs = some x) : ∃ a : Bool, DRels w (okW w) (encBool a) cs:= oBool underlying4 h
theorem o_25 {H : Type} {enc : TypeId × Value → H} {w : World} {base : Nat} {spare : Nat → Bool} {held : Bool} {fuel : Nat} {cs : List Value} {x : DataW H × List MemPlace} (h : DataW.trod enc prog w base spare held fuel 25 cs = some x) : ∃ a : UInt32, DRels w (okW w) (encU32 a) cs:= oU32 underlying25 h
theorem o_76 {H : Type} {enc : TypeId × Value → H} {w : World} {base : Nat} {spare : Nat → Bool} {held : Bool} {fuel : Nat} {cs : List Value} {x : DataW H × List MemPlace} (h : DataW.trod enc prog w base spare held fuel 76 cs = some x) : ∃ a : T_Inst, DRels w (okW w) (enc_Inst a) cs := by
  obtain ⟨xs, m, _, _, hl, hxl, hg⟩ := DataW.trod_struct underlying76 h
  have hl : cs.length = 7 := hl.trans (by kernel_rfl)
  replace hxl : xs.length = 7 := hxl
  have e0 : prog.cellsOf 3 = 1 := by kernel_rfl
  have h0 : DataW.trod enc prog w base spare held m 3 ((cs.drop 0).take (prog.cellsOf 3)) = xs[0]? := hg 0 _ rfl
  simp only [e0, Nat.reduceMul] at h0
  obtain ⟨b0, r0⟩ := o_3 (h0.trans (List.getElem?_eq_getElem (by omega)))
  have e1 : prog.cellsOf 3 = 1 := by kernel_rfl
  have h1 : DataW.trod enc prog w base spare held m 3 ((cs.drop 1).take (prog.cellsOf 3)) = xs[1]? := hg 1 _ rfl
  simp only [e1, Nat.reduceMul] at h1
  obtain ⟨b1, r1⟩ := o_3 (h1.trans (List.getElem?_eq_getElem (by omega)))
  have e2 : prog.cellsOf 3 = 1 := by kernel_rfl
  have h2 : DataW.trod enc prog w base spare held m 3 ((cs.drop 2).take (prog.cellsOf 3)) = xs[2]? := hg 2 _ rfl
  simp only [e2, Nat.reduceMul] at h2
  obtain ⟨b2, r2⟩ := o_3 (h2.trans (List.getElem?_eq_getElem (by omega)))
  have e3 : prog.cellsOf 3 = 1 := by kernel_rfl
  have h3 : DataW.trod enc prog w base spare held m 3 ((cs.drop 3).take (prog.cellsOf 3)) = xs[3]? := hg 3 _ rfl
  simp only [e3, Nat.reduceMul] at h3
  obtain ⟨b3, r3⟩ := o_3 (h3.trans (List.getElem?_eq_getElem (by omega)))
  have e4 : prog.cellsOf 4 = 1 := by kernel_rfl
  have h4 : DataW.trod enc prog w base spare held m 4 ((cs.drop 4).take (prog.cellsOf 4)) = xs[4]? := hg 4 _ rfl
  simp only [e4, Nat.reduceMul] at h4
  obtain ⟨b4, r4⟩ := o_4 (h4.trans (List.getElem?_eq_getElem (by omega)))
  have e5 : prog.cellsOf 3 = 1 := by kernel_rfl
  have h5 : DataW.trod enc prog w base spare held m 3 ((cs.drop 5).take (prog.cellsOf 3)) = xs[5]? := hg 5 _ rfl
  simp only [e5, Nat.reduceMul] at h5
  obtain ⟨b5, r5⟩ := o_3 (h5.trans (List.getElem?_eq_getElem (by omega)))
  have e6 : prog.cellsOf 25 = 1 := by kernel_rfl
  have h6 : DataW.trod enc prog w base spare held m 25 ((cs.drop 6).take (prog.cellsOf 25)) = xs[6]? := hg 6 _ rfl
  simp only [e6, Nat.reduceMul] at h6
  obtain ⟨b6, r6⟩ := o_25 (h6.trans (List.getElem?_eq_getElem (by omega)))
  have r := (DRels.cat (DRels.cat (DRels.cat (DRels.cat (DRels.cat (DRels.cat r0 r1) r2) r3) r4) r5) r6)
  refine ⟨T_Inst.mk b0 b1 b2 b3 b4 b5 b6, ?_⟩
  have hf := full hl
  rw [← hf]
  exact r
theorem o_72 {H : Type} {enc : TypeId × Value → H} {w : World} {base : Nat} {spare : Nat → Bool} {held : Bool} {fuel : Nat} {cs : List Value} {x : DataW H × List MemPlace} (h : DataW.trod enc prog w base spare held fuel 72 cs = some x) : ∃ a : (List T_Inst), DRels w (okW w) ((encL enc_Inst) a) cs:= oSl (f := enc_Inst) (sz := 7) underlying72 (by kernel_rfl) (by decide) (fun _ => rfl) (fun _ _ _ h => o_76 h) h
theorem o_74 {H : Type} {enc : TypeId × Value → H} {w : World} {base : Nat} {spare : Nat → Bool} {held : Bool} {fuel : Nat} {cs : List Value} {x : DataW H × List MemPlace} (h : DataW.trod enc prog w base spare held fuel 74 cs = some x) : ∃ a : T_Fn, DRels w (okW w) (enc_Fn a) cs := by
  obtain ⟨xs, m, _, _, hl, hxl, hg⟩ := DataW.trod_struct underlying74 h
  have hl : cs.length = 2 := hl.trans (by kernel_rfl)
  replace hxl : xs.length = 2 := hxl
  have e0 : prog.cellsOf 3 = 1 := by kernel_rfl
  have h0 : DataW.trod enc prog w base spare held m 3 ((cs.drop 0).take (prog.cellsOf 3)) = xs[0]? := hg 0 _ rfl
  simp only [e0, Nat.reduceMul] at h0
  obtain ⟨b0, r0⟩ := o_3 (h0.trans (List.getElem?_eq_getElem (by omega)))
  have e1 : prog.cellsOf 72 = 1 := by kernel_rfl
  have h1 : DataW.trod enc prog w base spare held m 72 ((cs.drop 1).take (prog.cellsOf 72)) = xs[1]? := hg 1 _ rfl
  simp only [e1, Nat.reduceMul] at h1
  obtain ⟨b1, r1⟩ := o_72 (h1.trans (List.getElem?_eq_getElem (by omega)))
  have r := (DRels.cat r0 r1)
  refine ⟨T_Fn.mk b0 b1, ?_⟩
  have hf := full hl
  rw [← hf]
  exact r
theorem o_62 {H : Type} {enc : TypeId × Value → H} {w : World} {base : Nat} {spare : Nat → Bool} {held : Bool} {fuel : Nat} {cs : List Value} {x : DataW H × List MemPlace} (h : DataW.trod enc prog w base spare held fuel 62 cs = some x) : ∃ a : (List T_Fn), DRels w (okW w) ((encL enc_Fn) a) cs:= oSl (f := enc_Fn) (sz := 2) underlying62 (by kernel_rfl) (by decide) (fun _ => rfl) (fun _ _ _ h => o_74 h) h
theorem o_64 {H : Type} {enc : TypeId × Value → H} {w : World} {base : Nat} {spare : Nat → Bool} {held : Bool} {fuel : Nat} {cs : List Value} {x : DataW H × List MemPlace} (h : DataW.trod enc prog w base spare held fuel 64 cs = some x) : ∃ a : T_Prog, DRels w (okW w) (enc_Prog a) cs := by
  obtain ⟨xs, m, _, _, hl, hxl, hg⟩ := DataW.trod_struct underlying64 h
  have hl : cs.length = 1 := hl.trans (by kernel_rfl)
  replace hxl : xs.length = 1 := hxl
  have e0 : prog.cellsOf 62 = 1 := by kernel_rfl
  have h0 : DataW.trod enc prog w base spare held m 62 ((cs.drop 0).take (prog.cellsOf 62)) = xs[0]? := hg 0 _ rfl
  simp only [e0, Nat.reduceMul] at h0
  obtain ⟨b0, r0⟩ := o_62 (h0.trans (List.getElem?_eq_getElem (by omega)))
  have r := r0
  refine ⟨T_Prog.mk b0, ?_⟩
  have hf := full hl
  rw [← hf]
  exact r
theorem o_47 {H : Type} {enc : TypeId × Value → H} {w : World} {base : Nat} {spare : Nat → Bool} {held : Bool} {fuel : Nat} {cs : List Value} {x : DataW H × List MemPlace} (h : DataW.trod enc prog w base spare held fuel 47 cs = some x) : ∃ a : (A4 UInt32), DRels w (okW w) ((encA4 encU32) a) cs := by
  obtain ⟨xs, m, _, _, hl, hxl, hg⟩ := DataW.trod_array underlying47 h
  have hl : cs.length = 4 := hl.trans (by kernel_rfl)
  replace hxl : xs.length = 4 := hxl
  have e0 : prog.cellsOf 25 = 1 := by kernel_rfl
  have h0 := hg 0 (by decide)
  simp only [e0, Nat.reduceMul] at h0
  obtain ⟨b0, r0⟩ := o_25 (h0.trans (List.getElem?_eq_getElem (by omega)))
  have e1 : prog.cellsOf 25 = 1 := by kernel_rfl
  have h1 := hg 1 (by decide)
  simp only [e1, Nat.reduceMul] at h1
  obtain ⟨b1, r1⟩ := o_25 (h1.trans (List.getElem?_eq_getElem (by omega)))
  have e2 : prog.cellsOf 25 = 1 := by kernel_rfl
  have h2 := hg 2 (by decide)
  simp only [e2, Nat.reduceMul] at h2
  obtain ⟨b2, r2⟩ := o_25 (h2.trans (List.getElem?_eq_getElem (by omega)))
  have e3 : prog.cellsOf 25 = 1 := by kernel_rfl
  have h3 := hg 3 (by decide)
  simp only [e3, Nat.reduceMul] at h3
  obtain ⟨b3, r3⟩ := o_25 (h3.trans (List.getElem?_eq_getElem (by omega)))
  have r := (DRels.cat (DRels.cat (DRels.cat r0 r1) r2) r3)
  refine ⟨A4.mk b0 b1 b2 b3, ?_⟩
  have hf := full hl
  rw [← hf]
  exact r
theorem o_23 {H : Type} {enc : TypeId × Value → H} {w : World} {base : Nat} {spare : Nat → Bool} {held : Bool} {fuel : Nat} {cs : List Value} {x : DataW H × List MemPlace} (h : DataW.trod enc prog w base spare held fuel 23 cs = some x) : ∃ a : T_Schema, DRels w (okW w) (enc_Schema a) cs := by
  obtain ⟨xs, m, _, _, hl, hxl, hg⟩ := DataW.trod_struct underlying23 h
  have hl : cs.length = 4 := hl.trans (by kernel_rfl)
  replace hxl : xs.length = 4 := hxl
  have e0 : prog.cellsOf 3 = 1 := by kernel_rfl
  have h0 : DataW.trod enc prog w base spare held m 3 ((cs.drop 0).take (prog.cellsOf 3)) = xs[0]? := hg 0 _ rfl
  simp only [e0, Nat.reduceMul] at h0
  obtain ⟨b0, r0⟩ := o_3 (h0.trans (List.getElem?_eq_getElem (by omega)))
  have e1 : prog.cellsOf 3 = 1 := by kernel_rfl
  have h1 : DataW.trod enc prog w base spare held m 3 ((cs.drop 1).take (prog.cellsOf 3)) = xs[1]? := hg 1 _ rfl
  simp only [e1, Nat.reduceMul] at h1
  obtain ⟨b1, r1⟩ := o_3 (h1.trans (List.getElem?_eq_getElem (by omega)))
  have e2 : prog.cellsOf 3 = 1 := by kernel_rfl
  have h2 : DataW.trod enc prog w base spare held m 3 ((cs.drop 2).take (prog.cellsOf 3)) = xs[2]? := hg 2 _ rfl
  simp only [e2, Nat.reduceMul] at h2
  obtain ⟨b2, r2⟩ := o_3 (h2.trans (List.getElem?_eq_getElem (by omega)))
  have e3 : prog.cellsOf 3 = 1 := by kernel_rfl
  have h3 : DataW.trod enc prog w base spare held m 3 ((cs.drop 3).take (prog.cellsOf 3)) = xs[3]? := hg 3 _ rfl
  simp only [e3, Nat.reduceMul] at h3
  obtain ⟨b3, r3⟩ := o_3 (h3.trans (List.getElem?_eq_getElem (by omega)))
  have r := (DRels.cat (DRels.cat (DRels.cat r0 r1) r2) r3)
  refine ⟨T_Schema.mk b0 b1 b2 b3, ?_⟩
  have hf := full hl
  rw [← hf]
  exact r
theorem o_39 {H : Type} {enc : TypeId × Value → H} {w : World} {base : Nat} {spare : Nat → Bool} {held : Bool} {fuel : Nat} {cs : List Value} {x : DataW H × List MemPlace} (h : DataW.trod enc prog w base spare held fuel 39 cs = some x) : ∃ a : (List UInt32), DRels w (okW w) ((encL encU32) a) cs:= oSl (f := encU32) (sz := 1) underlying39 (by kernel_rfl) (by decide) (fun _ => rfl) (fun _ _ _ h => o_25 h) h
theorem o_41 {H : Type} {enc : TypeId × Value → H} {w : World} {base : Nat} {spare : Nat → Bool} {held : Bool} {fuel : Nat} {cs : List Value} {x : DataW H × List MemPlace} (h : DataW.trod enc prog w base spare held fuel 41 cs = some x) : ∃ a : T_Entry, DRels w (okW w) (enc_Entry a) cs := by
  obtain ⟨xs, m, _, _, hl, hxl, hg⟩ := DataW.trod_struct underlying41 h
  have hl : cs.length = 2 := hl.trans (by kernel_rfl)
  replace hxl : xs.length = 2 := hxl
  have e0 : prog.cellsOf 25 = 1 := by kernel_rfl
  have h0 : DataW.trod enc prog w base spare held m 25 ((cs.drop 0).take (prog.cellsOf 25)) = xs[0]? := hg 0 _ rfl
  simp only [e0, Nat.reduceMul] at h0
  obtain ⟨b0, r0⟩ := o_25 (h0.trans (List.getElem?_eq_getElem (by omega)))
  have e1 : prog.cellsOf 39 = 1 := by kernel_rfl
  have h1 : DataW.trod enc prog w base spare held m 39 ((cs.drop 1).take (prog.cellsOf 39)) = xs[1]? := hg 1 _ rfl
  simp only [e1, Nat.reduceMul] at h1
  obtain ⟨b1, r1⟩ := o_39 (h1.trans (List.getElem?_eq_getElem (by omega)))
  have r := (DRels.cat r0 r1)
  refine ⟨T_Entry.mk b0 b1, ?_⟩
  have hf := full hl
  rw [← hf]
  exact r
theorem o_24 {H : Type} {enc : TypeId × Value → H} {w : World} {base : Nat} {spare : Nat → Bool} {held : Bool} {fuel : Nat} {cs : List Value} {x : DataW H × List MemPlace} (h : DataW.trod enc prog w base spare held fuel 24 cs = some x) : ∃ a : (List T_Entry), DRels w (okW w) ((encL enc_Entry) a) cs:= oSl (f := enc_Entry) (sz := 2) underlying24 (by kernel_rfl) (by decide) (fun _ => rfl) (fun _ _ _ h => o_41 h) h
theorem o_27 {H : Type} {enc : TypeId × Value → H} {w : World} {base : Nat} {spare : Nat → Bool} {held : Bool} {fuel : Nat} {cs : List Value} {x : DataW H × List MemPlace} (h : DataW.trod enc prog w base spare held fuel 27 cs = some x) : ∃ a : T_Table, DRels w (okW w) (enc_Table a) cs := by
  obtain ⟨xs, m, _, _, hl, hxl, hg⟩ := DataW.trod_struct underlying27 h
  have hl : cs.length = 6 := hl.trans (by kernel_rfl)
  replace hxl : xs.length = 3 := hxl
  have e0 : prog.cellsOf 23 = 4 := by kernel_rfl
  have h0 : DataW.trod enc prog w base spare held m 23 ((cs.drop 0).take (prog.cellsOf 23)) = xs[0]? := hg 0 _ rfl
  simp only [e0, Nat.reduceMul] at h0
  obtain ⟨b0, r0⟩ := o_23 (h0.trans (List.getElem?_eq_getElem (by omega)))
  have e1 : prog.cellsOf 24 = 1 := by kernel_rfl
  have h1 : DataW.trod enc prog w base spare held m 24 ((cs.drop 4).take (prog.cellsOf 24)) = xs[1]? := hg 1 _ rfl
  simp only [e1, Nat.reduceMul] at h1
  obtain ⟨b1, r1⟩ := o_24 (h1.trans (List.getElem?_eq_getElem (by omega)))
  have e2 : prog.cellsOf 25 = 1 := by kernel_rfl
  have h2 : DataW.trod enc prog w base spare held m 25 ((cs.drop 5).take (prog.cellsOf 25)) = xs[2]? := hg 2 _ rfl
  simp only [e2, Nat.reduceMul] at h2
  obtain ⟨b2, r2⟩ := o_25 (h2.trans (List.getElem?_eq_getElem (by omega)))
  have r := (DRels.cat (DRels.cat r0 r1) r2)
  refine ⟨T_Table.mk b0 b1 b2, ?_⟩
  have hf := full hl
  rw [← hf]
  exact r
theorem o_38 {H : Type} {enc : TypeId × Value → H} {w : World} {base : Nat} {spare : Nat → Bool} {held : Bool} {fuel : Nat} {cs : List Value} {x : DataW H × List MemPlace} (h : DataW.trod enc prog w base spare held fuel 38 cs = some x) : ∃ a : (List T_Table), DRels w (okW w) ((encL enc_Table) a) cs:= oSl (f := enc_Table) (sz := 6) underlying38 (by kernel_rfl) (by decide) (fun _ => rfl) (fun _ _ _ h => o_27 h) h
theorem o_49 {H : Type} {enc : TypeId × Value → H} {w : World} {base : Nat} {spare : Nat → Bool} {held : Bool} {fuel : Nat} {cs : List Value} {x : DataW H × List MemPlace} (h : DataW.trod enc prog w base spare held fuel 49 cs = some x) : ∃ a : T_Env, DRels w (okW w) (enc_Env a) cs := by
  obtain ⟨xs, m, _, _, hl, hxl, hg⟩ := DataW.trod_struct underlying49 h
  have hl : cs.length = 6 := hl.trans (by kernel_rfl)
  replace hxl : xs.length = 3 := hxl
  have e0 : prog.cellsOf 47 = 4 := by kernel_rfl
  have h0 : DataW.trod enc prog w base spare held m 47 ((cs.drop 0).take (prog.cellsOf 47)) = xs[0]? := hg 0 _ rfl
  simp only [e0, Nat.reduceMul] at h0
  obtain ⟨b0, r0⟩ := o_47 (h0.trans (List.getElem?_eq_getElem (by omega)))
  have e1 : prog.cellsOf 38 = 1 := by kernel_rfl
  have h1 : DataW.trod enc prog w base spare held m 38 ((cs.drop 4).take (prog.cellsOf 38)) = xs[1]? := hg 1 _ rfl
  simp only [e1, Nat.reduceMul] at h1
  obtain ⟨b1, r1⟩ := o_38 (h1.trans (List.getElem?_eq_getElem (by omega)))
  have e2 : prog.cellsOf 25 = 1 := by kernel_rfl
  have h2 : DataW.trod enc prog w base spare held m 25 ((cs.drop 5).take (prog.cellsOf 25)) = xs[2]? := hg 2 _ rfl
  simp only [e2, Nat.reduceMul] at h2
  obtain ⟨b2, r2⟩ := o_25 (h2.trans (List.getElem?_eq_getElem (by omega)))
  have r := (DRels.cat (DRels.cat r0 r1) r2)
  refine ⟨T_Env.mk b0 b1 b2, ?_⟩
  have hf := full hl
  rw [← hf]
  exact r
theorem interpFuelOwn : ownKnob Try.prog.godebug = none := by kernel_rfl
theorem interpFuelLaid : laidOutB Try.prog = true := by kernel_rfl
set_option maxRecDepth 100000 in
theorem interpFuel_lifted (os : Os) (started : os.Started) (H : Type) (enc : TypeId × Value → H) :
    ReturnsInHanded {} Try.checked os 8 .any (Rows.interpFuelSpec.pre6 enc Try.prog Try.f8 Rows.interpFuelRow.domain false) (Rows.interpFuelSpec.post enc Try.prog Try.f8 false true false false) := by
  refine returnsInHanded_of_change (C := Try.checked) interpFuelOwn started (by kernel_rfl) Try.func8
    (ChangeSpec.witness6 (enc := enc) (C := Try.checked) false ⟨#[], #[.agg #[.slice none 0 0], .agg #[.int .u32 0, .int .u32 0, .int .u32 0, .int .u32 0, .slice none 0 0, .int .u32 0], .int .i64 0, .int .i64 0], []⟩ 8 (by kernel_rfl) (by kernel_rfl) (by kernel_rfl) (by kernel_rfl)) ?_
  intro W base args ds gs before hval0 hW _ _
  have hval : ∀ (j : Nat) t v, Try.f8.params[j]? = some t → args[j]? = some v → Value.okWide Try.prog W .any base t v := hval0
  have hW' := hW
  obtain ⟨p, q, hA0, hV, rfl, hfz, hnd⟩ := hW
  have hA : DataW.TrodAll enc Try.prog W 0 (fun _ => true) true Try.f8.params.toList args.toList ds p := hA0
  rw [Try.params8] at hA hval
  obtain ⟨l⟩ := args
  obtain ⟨v0, l0, d0, ds0, p0, q0, rfl, rfl, _, h0, hA1⟩ := trodAll_cons hA
  obtain ⟨v1, l1, d1, ds1, p1, q1, rfl, rfl, _, h1, hA2⟩ := trodAll_cons hA1
  obtain ⟨v2, l2, d2, ds2, p2, q2, rfl, rfl, _, h2, hA3⟩ := trodAll_cons hA2
  obtain ⟨v3, l3, d3, ds3, p3, q3, rfl, rfl, _, h3, hA4⟩ := trodAll_cons hA3
  obtain ⟨rfl, rfl, _⟩ := trodAll_nil hA4
  obtain ⟨rfl, rfl⟩ := trodVars_none hV
  obtain ⟨cs0, rfl, _⟩ := okWide_struct underlying64 (hval 0 _ v0 rfl rfl)
  obtain ⟨fuel0, hf0⟩ := h0
  obtain ⟨a0, r0⟩ := o_64 hf0
  obtain ⟨cs1, rfl, _⟩ := okWide_struct underlying49 (hval 1 _ v1 rfl rfl)
  obtain ⟨fuel1, hf1⟩ := h1
  obtain ⟨a1, r1⟩ := o_49 hf1
  obtain ⟨z2, rfl⟩ := okWide_int underlying3 (hval 2 _ v2 rfl rfl)
  obtain ⟨fuel2, hf2⟩ := h2
  obtain ⟨a2, r2⟩ := o_3 hf2
  obtain ⟨z3, rfl⟩ := okWide_int underlying3 (hval 3 _ v3 rfl rfl)
  obtain ⟨fuel3, hf3⟩ := h3
  obtain ⟨a3, r3⟩ := o_3 hf3
  refine (Ctr.law (c_drydocklaw07_InterpFuel a0 a1 a2 a3 (fuel_true a0 a1 a2 a3)) rfl (VRels.of1 (.cons (arg_agg r0) (.cons (arg_agg r1) (.cons (arg_one r2) (.cons (arg_one r3) (.nil))))))).mono fun e W' ⟨he, hw⟩ => ?_
  subst he
  exact ⟨_, rfl, post_law interpFuelLaid hW' rfl rfl (by kernel_rfl) rfl rfl rfl hw⟩
theorem interpFuel_holds : Rows.InterpFuelSaid :=
  OpenClaim.holds_of_wide 8 Try.f8 rfl rfl rfl rfl rfl rfl rfl ⟨rfl, rfl, rfl, rfl, rfl⟩ rfl rfl rfl rfl rfl (by kernel_rfl) Try.func8 (by kernel_rfl)
    (of_decide_eq_true (by kernel_rfl)) (by unfold Func.isWrapper; first | (rw [if_pos (by decide +kernel)]; kernel_rfl) | (rw [if_neg (by decide +kernel)]; exact ⟨rfl, rfl⟩))
    (fun os started H enc _ => interpFuel_lifted os started H enc)
end Go.Proofs.Ytkhanhhingicpaa
