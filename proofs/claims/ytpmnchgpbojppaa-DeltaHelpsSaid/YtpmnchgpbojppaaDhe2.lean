/- Packed texts: Zdrydocklaw19DeltaHelps. -/
import Derived.Test.YtpmnchgpbojppaaDhe1
/- The plain function of drydock/drydocklaw19.DeltaHelps. -/
set_option linter.unusedVariables false
set_option linter.unusedSimpArgs false
namespace Go.Proofs.Ytpmnchgpbojppaa
open Go Go.RowKit Go.Proofs.Try
noncomputable def p_drydocklaw19_DeltaHelps_J37 (s_36 : T_Env) (i_37 : Bool) : Option ((T_Env) ⊕ ((T_Env × Int) ⊕ ((Unit) ⊕ (Bool)))) :=
  cond i_37 (
  some (Sum.inr (Sum.inr (Sum.inr false)))) (
  some (Sum.inl s_36))
noncomputable def p_drydocklaw19_DeltaHelps_J24 (a3 : UInt32) (r8 : UInt32 × UInt32 × Bool) (i_16 : Int) (s_34 : T_Env) (i_35 : Bool) : Option ((T_Env) ⊕ ((T_Env × Int) ⊕ ((Unit) ⊕ (Bool)))) :=
  po (
  cond i_35 (
  some (s_34, false)) (
  cond r8.2.2 (
  cond ((r8.1.toNat : Int) != i_16) (
  some (s_34, true)) (
  some (s_34, ((r8.2.1.toNat : Int) != (a3.toNat : Int))))) (
  some (s_34, true)))) (fun x => p_drydocklaw19_DeltaHelps_J37 x.1 x.2)
noncomputable def p_drydocklaw19_DeltaHelps_J16 (a1 : T_Env) (a3 : UInt32) (r8 : UInt32 × UInt32 × Bool) (i_16 : Int) (s_17 : T_Env) (i_18 : Bool) : Option ((T_Env) ⊕ ((T_Env × Int) ⊕ ((Unit) ⊕ (Bool)))) :=
  cond i_18 (
  some (Sum.inl s_17)) (
  po (idx a1.T i_16) fun x20 =>
  po (p_drydockref05_At x20 a3) fun r21 =>
  po (idx s_17.T i_16) fun x22 =>
  po (p_drydockref05_At x22 a3) fun r23 =>
  po (
  cond (decide (r21 < 0)) (
  cond (decide (r23 < 0)) (
  some (s_17, true)) (
  cond (decide (r21 ≥ 0)) (
  cond (decide (r23 ≥ 0)) (
  po (idx x20.E r21) fun x29 =>
  po (idx x22.E r23) fun x30 =>
  po (p_drydockref01_Words x29.V x30.V) fun r31 =>
  some (s_17, r31)) (
  some (s_17, false))) (
  some (s_17, false)))) (
  cond (decide (r21 ≥ 0)) (
  cond (decide (r23 ≥ 0)) (
  po (idx x20.E r21) fun x34 =>
  po (idx x22.E r23) fun x35 =>
  po (p_drydockref01_Words x34.V x35.V) fun r36 =>
  some (s_17, r36)) (
  some (s_17, false))) (
  some (s_17, false)))) (fun x => p_drydocklaw19_DeltaHelps_J24 a3 r8 i_16 x.1 x.2))
noncomputable def p_drydocklaw19_DeltaHelps_J15 (i_16 : Int) (s_23 : T_Env) : Option ((T_Env × Int) ⊕ ((Unit) ⊕ (Bool))) :=
  some (Sum.inl (s_23, (IntKind.i64.wrap (i_16 + 1))))
noncomputable def p_drydocklaw19_DeltaHelps_L13 (a1 : T_Env) (a3 : UInt32) (r8 : UInt32 × UInt32 × Bool) (s_15 : T_Env) (i_16 : Int) : Option ((T_Env × Int) ⊕ ((Unit) ⊕ (Bool))) :=
  cond (decide (i_16 < (a1.T.length : Int))) (
  pm (
  po (
  po (idx a1.T i_16) fun x17 =>
  cond (x17.S.Kind == 3) (
  some (s_15, true)) (
  some (s_15, (x17.S.Kind == 2)))) (fun x => p_drydocklaw19_DeltaHelps_J16 a1 a3 r8 i_16 x.1 x.2)) (fun x => p_drydocklaw19_DeltaHelps_J15 i_16 x)) (
  some (Sum.inr (Sum.inl ())))
noncomputable def p_drydocklaw19_DeltaHelps_J12 : Option (Bool) :=
  some true
noncomputable def p_drydocklaw19_DeltaHelps_J9 (a1 : T_Env) (a3 : UInt32) (r8 : UInt32 × UInt32 × Bool) (s_2 : T_Env) (i_3 : Bool) : Option (Bool) :=
  cond i_3 (
  some true) (
  pm (
  lpU (fun x => p_drydocklaw19_DeltaHelps_L13 a1 a3 r8 x.1 x.2) (s_2, 0)) (fun x => p_drydocklaw19_DeltaHelps_J12))
noncomputable def p_drydocklaw19_DeltaHelps_J2 (a0 : Int) (a1 : T_Env) (a2 : (List UInt32)) (a3 : UInt32) (r1 : Bool) (i_1 : Bool) : Option (Bool) :=
  cond i_1 (
  some r1) (
  po (p_helper_Call a0 a1 a2) fun r7 =>
  po (p_delta_Of a0 a2) fun r8 =>
  po (
  cond (r7.2.2 != 0) (
  some (r7.1, true)) (
  some (r7.1, ((r7.1.T.length : Int) != (a1.T.length : Int))))) (fun x => p_drydocklaw19_DeltaHelps_J9 a1 a3 r8 x.1 x.2))
noncomputable def p_drydocklaw19_DeltaHelps (a0 : Int) (a1 : T_Env) (a2 : (List UInt32)) (a3 : UInt32) : Option (Bool) :=
  po (p_drydocklaw19_awake) fun r1 =>
  po (
  cond r1 (
  po (p_drydockref05_Few a1.T) fun r4 =>
  cond r4 (
  some (decide ((a2.length : Int) > 4))) (
  some true)) (
  some true)) (fun x => p_drydocklaw19_DeltaHelps_J2 a0 a1 a2 a3 r1 x)
set_option maxHeartbeats 4000000 in
set_option maxRecDepth 100000 in
theorem c_drydocklaw19_DeltaHelps (a0 : Int) (a1 : T_Env) (a2 : (List UInt32)) (a3 : UInt32) {r : Bool} (h : p_drydocklaw19_DeltaHelps a0 a1 a2 a3 = some r) : Ctr prog 18 [.raw (.int .i64 a0), .agg (enc_Env a1), .sl false (a2.map encU32), .raw (.int .u32 (a3.toNat : Int))] [] (.raw (.bool r)) [] := by
  unfold p_drydocklaw19_DeltaHelps at h
  refine Ctr.ofW tabOk func18 rfl call18 0 _ ntmps18 [.tmp 8] rfl rfl rfl (fun B => ?_)
  refine VC.seqF tabOkF [some 5, some 8] [0, 2, 3, 5] rfl rfl (fun K hK => ?_)
  push_cast
  repeat (refine And.intro (by omega) ?_)
  refine hK _ ?_
  clear hK K
  obtain ⟨r1, hr1, h⟩ := po_some h
  refine VC.seqF tabOkF [some 20, some 9] [0, 2, 3, 5, 9] rfl rfl (fun K hK => ?_)
  push_cast
  repeat (refine And.intro (by omega) ?_)
  refine callP (Ctr.lo (c_drydocklaw19_awake  hr1)) rfl ?_
  push_cast
  repeat (refine And.intro (by omega) ?_)
  refine hK _ ?_
  clear hK K
  refine VC.seq ?_
  obtain ⟨v2, h, hk2⟩ := po_some h
  refine VC.seqJ (X := Bool) (fun x => p_drydocklaw19_DeltaHelps_J2 a0 a1 a2 a3 r1 x = some r) (fun x => ⟨[(0, .raw (.int .i64 a0)), (2, .sl false (a2.map encU32)), (3, .raw (.int .u32 (a3.toNat : Int))), (5, .ref 0 0), (9, .raw (.bool r1)), (33, .raw (.bool x))], [(0, .box 55 [.raw (.int .u32 (a1.Ctx.a0.toNat : Int)), .raw (.int .u32 (a1.Ctx.a1.toNat : Int)), .raw (.int .u32 (a1.Ctx.a2.toNat : Int)), .raw (.int .u32 (a1.Ctx.a3.toNat : Int)), .sl false (a1.T.map enc_Table), .raw (.int .u32 (a1.Seed.toNat : Int))])], 17, 154, 0⟩) ?_ ?_
  · rcases Bool.eq_false_or_eq_true r1 with hb3 | hb3
    · replace h := cond_yes hb3 h
      obtain ⟨r4, hr4, h⟩ := po_some h
      rcases Bool.eq_false_or_eq_true r4 with hb5 | hb5
      · replace h := cond_yes hb5 h
        refine VC.lastF tabOkF [some 21, some 22, some 23, some 24, some 25, some 26, some 27, some 28, some 29, some 30, some 31, some 32, some 33] rfl rfl (fun K hK => ?_)
        refine runOps_cut 8 (fun K2 hK2 => ?_)
        push_cast [hb3, hb5]
        repeat (refine And.intro (by omega) ?_)
        refine callP (Ctr.lo (c_drydockref05_Few a1.T hr4)) rfl ?_
        push_cast [hb3, hb5]
        repeat (refine And.intro (by omega) ?_)
        refine hK2 _ _ ?_
        clear hK2 K2
        simp only [List.drop_succ_cons, List.drop_zero]
        push_cast [hb3, hb5]
        repeat (refine And.intro (by omega) ?_)
        refine hK _ ?_
        clear hK K
        have hv := Option.some.inj h
        rw [← hv] at hk2
        refine Exists.intro ((decide ((a2.length : Int) > 4))) (And.intro hk2 ?_)
        refine Sub.trans (Sub.lo _) ?_
        refine Sub.of ?_ ?_ ⟨rfl, rfl, Nat.le_of_ble_eq_true rfl⟩ rfl
        · push_cast [hb3, hb5]
        · push_cast [hb3, hb5]
      · replace h := cond_no hb5 h
        refine VC.lastF tabOkF [some 21, some 22, some 23, some 24, some 25, some 26, some 27, some 28, some 29, some 30, some 31, some 32, some 33] rfl rfl (fun K hK => ?_)
        refine runOps_cut 8 (fun K2 hK2 => ?_)
        push_cast [hb3, hb5]
        repeat (refine And.intro (by omega) ?_)
        refine callP (Ctr.lo (c_drydockref05_Few a1.T hr4)) rfl ?_
        push_cast [hb3, hb5]
        repeat (refine And.intro (by omega) ?_)
        refine hK2 _ _ ?_
        clear hK2 K2
        simp only [List.drop_succ_cons, List.drop_zero]
        push_cast [hb3, hb5]
        repeat (refine And.intro (by omega) ?_)
        refine hK _ ?_
        clear hK K
        have hv := Option.some.inj h
        rw [← hv] at hk2
        refine Exists.intro (true) (And.intro hk2 ?_)
        refine Sub.trans (Sub.lo _) ?_
        refine Sub.of ?_ ?_ ⟨rfl, rfl, Nat.le_of_ble_eq_true rfl⟩ rfl
        · push_cast [hb3, hb5]
        · push_cast [hb3, hb5]
    · replace h := cond_no hb3 h
      refine VC.lastF tabOkF [some 21, some 22, some 23, some 24, some 25, some 26, some 27, some 28, some 29, some 30, some 31, some 32, some 33] rfl rfl (fun K hK => ?_)
      refine runOps_cut 8 (fun K2 hK2 => ?_)
      push_cast [hb3]
      repeat (refine And.intro (by omega) ?_)
      refine hK2 _ _ ?_
      clear hK2 K2
      simp only [List.drop_succ_cons, List.drop_zero]
      push_cast [hb3]
      repeat (refine And.intro (by omega) ?_)
      refine hK _ ?_
      clear hK K
      have hv := Option.some.inj h
      rw [← hv] at hk2
      refine Exists.intro (true) (And.intro hk2 ?_)
      refine Sub.trans (Sub.lo _) ?_
      refine Sub.of ?_ ?_ ⟨rfl, rfl, Nat.le_of_ble_eq_true rfl⟩ rfl
      · push_cast [hb3]
      · push_cast [hb3]
  · rintro i_1 h
    replace h : p_drydocklaw19_DeltaHelps_J2 a0 a1 a2 a3 r1 i_1 = some r := h
    try push_cast
    unfold p_drydocklaw19_DeltaHelps_J2 at h
    refine VC.cond rfl rfl (fun hc6 => ?_) (fun hc6 => ?_)
    · have hb6 : i_1 = true := by simpa using hc6
      replace h := cond_yes hb6 h
      refine VC.seqF tabOkF [some 34, some 8] [8] rfl rfl (fun K hK => ?_)
      push_cast [hb6]
      repeat (refine And.intro (by omega) ?_)
      refine hK _ ?_
      clear hK K
      refine VC.ret ?_
      have hr := Option.some.inj h
      subst hr
      refine endP (Sub.lo _) (Post.ret ?_ ?_ ?_)
      · push_cast [hb6]
      · push_cast [hb6]
      · rfl
    · have hb6 : i_1 = false := by simpa using hc6
      replace h := cond_no hb6 h
      refine VC.skip ?_
      obtain ⟨r7, hr7, h⟩ := po_some h
      refine VC.seqF tabOkF [some 36, some 37, some 38, some 39, some 35, some 40, some 41, some 42, some 10, none, some 11, some 12] [0, 2, 3, 5, 10, 12] rfl rfl (fun K hK => ?_)
      refine runOps_cut 8 (fun K2 hK2 => ?_)
      push_cast [hb6]
      repeat (refine And.intro (by omega) ?_)
      refine callH (H := []) (Ctr.loH (Ctr.ren (Bij.swp 0 20 Bij.id) (c_helper_Call a0 a1 a2 hr7) (by push_cast [hb6]) (by push_cast [hb6]))) (by push_cast [hb6]) rfl rfl rfl ?_
      push_cast [hb6]
      repeat (refine And.intro (by omega) ?_)
      refine hK2 _ _ ?_
      clear hK2 K2
      simp only [List.drop_succ_cons, List.drop_zero]
      push_cast [hb6]
      repeat (refine And.intro (by omega) ?_)
      refine hK _ ?_
      clear hK K
      refine VC.sub (s' := ⟨[(0, .raw (.int .i64 a0)), (2, .sl false (a2.map encU32)), (3, .raw (.int .u32 (a3.toNat : Int))), (5, .ref 0 0), (10, .ref 25 0), (12, .raw (.int .i64 r7.2.2))], [(0, .box 55 [.raw (.int .u32 (a1.Ctx.a0.toNat : Int)), .raw (.int .u32 (a1.Ctx.a1.toNat : Int)), .raw (.int .u32 (a1.Ctx.a2.toNat : Int)), .raw (.int .u32 (a1.Ctx.a3.toNat : Int)), .sl false (a1.T.map enc_Table), .raw (.int .u32 (a1.Seed.toNat : Int))]), (20, .row 27 6 0 (r7.1.T.map enc_Table)), (25, .box 55 [.raw (.int .u32 (r7.1.Ctx.a0.toNat : Int)), .raw (.int .u32 (r7.1.Ctx.a1.toNat : Int)), .raw (.int .u32 (r7.1.Ctx.a2.toNat : Int)), .raw (.int .u32 (r7.1.Ctx.a3.toNat : Int)), .row 20 0 6 0 r7.1.T.length, .raw (.int .u32 (r7.1.Seed.toNat : Int))])], 29, 154, 0⟩) (Sub.of ?_ ?_ ⟨rfl, rfl, Nat.le_of_ble_eq_true rfl⟩ rfl) ?_
      · push_cast [hb6]
      · push_cast [hb6]
      obtain ⟨r8, hr8, h⟩ := po_some h
      refine VC.seqF tabOkF [some 44, some 45, some 46, some 43, some 47, some 48, some 49, some 13, some 14, some 15] [3, 5, 10, 12, 13, 14, 15] rfl rfl (fun K hK => ?_)
      push_cast [hb6]
      repeat (refine And.intro (by omega) ?_)
      refine callP (Ctr.lo (c_delta_Of a0 a2 hr8)) rfl ?_
      push_cast [hb6]
      repeat (refine And.intro (by omega) ?_)
      refine hK _ ?_
      clear hK K
      refine VC.seq ?_
      obtain ⟨v9, h, hk9⟩ := po_some h
      refine VC.seqJ (X := T_Env × Bool) (fun x => p_drydocklaw19_DeltaHelps_J9 a1 a3 r8 x.1 x.2 = some r) (fun x => ⟨[(3, .raw (.int .u32 (a3.toNat : Int))), (5, .ref 0 0), (10, .ref 25 0), (13, .raw (.int .u32 (r8.1.toNat : Int))), (14, .raw (.int .u32 (r8.2.1.toNat : Int))), (15, .raw (.bool r8.2.2)), (60, .raw (.bool x.2))], [(0, .box 55 [.raw (.int .u32 (a1.Ctx.a0.toNat : Int)), .raw (.int .u32 (a1.Ctx.a1.toNat : Int)), .raw (.int .u32 (a1.Ctx.a2.toNat : Int)), .raw (.int .u32 (a1.Ctx.a3.toNat : Int)), .sl false (a1.T.map enc_Table), .raw (.int .u32 (a1.Seed.toNat : Int))]), (20, .row 27 6 0 (x.1.T.map enc_Table)), (25, .box 55 [.raw (.int .u32 (x.1.Ctx.a0.toNat : Int)), .raw (.int .u32 (x.1.Ctx.a1.toNat : Int)), .raw (.int .u32 (x.1.Ctx.a2.toNat : Int)), .raw (.int .u32 (x.1.Ctx.a3.toNat : Int)), .row 20 0 6 0 x.1.T.length, .raw (.int .u32 (x.1.Seed.toNat : Int))])], 50, 154, 0⟩) ?_ ?_
      · rcases Bool.eq_false_or_eq_true (r7.2.2 != 0) with hb10 | hb10
        · replace h := cond_yes hb10 h
          refine VC.lastF tabOkF [some 50, some 51, some 52, some 53, some 54, some 55, some 56, some 57, some 58, some 59, some 60] rfl rfl (fun K hK => ?_)
          refine runOps_cut 8 (fun K2 hK2 => ?_)
          push_cast [hb6, hb10]
          repeat (refine And.intro (by omega) ?_)
          refine hK2 _ _ ?_
          clear hK2 K2
          simp only [List.drop_succ_cons, List.drop_zero]
          push_cast [hb6, hb10]
          repeat (refine And.intro (by omega) ?_)
          refine hK _ ?_
          clear hK K
          have hv := Option.some.inj h
          rw [← hv] at hk9
          refine Exists.intro ((r7.1, true)) (And.intro hk9 ?_)
          refine Sub.trans (Sub.lo _) ?_
          refine Sub.of ?_ ?_ ⟨rfl, rfl, Nat.le_of_ble_eq_true rfl⟩ rfl
          · push_cast [hb6, hb10]
          · push_cast [hb6, hb10]
        · replace h := cond_no hb10 h
          refine VC.lastF tabOkF [some 50, some 51, some 52, some 53, some 54, some 55, some 56, some 57, some 58, some 59, some 60] rfl rfl (fun K hK => ?_)
          refine runOps_cut 8 (fun K2 hK2 => ?_)
          push_cast [hb6, hb10]
          repeat (refine And.intro (by omega) ?_)
          refine hK2 _ _ ?_
          clear hK2 K2
          simp only [List.drop_succ_cons, List.drop_zero]
          push_cast [hb6, hb10]
          repeat (refine And.intro (by omega) ?_)
          refine hK _ ?_
          clear hK K
          have hv := Option.some.inj h
          rw [← hv] at hk9
          refine Exists.intro ((r7.1, ((r7.1.T.length : Int) != (a1.T.length : Int)))) (And.intro hk9 ?_)
          refine Sub.trans (Sub.lo _) ?_
          refine Sub.of ?_ ?_ ⟨rfl, rfl, Nat.le_of_ble_eq_true rfl⟩ rfl
          · push_cast [hb6, hb10]
          · push_cast [hb6, hb10]
      · rintro ⟨s_2, i_3⟩ h
        replace h : p_drydocklaw19_DeltaHelps_J9 a1 a3 r8 s_2 i_3 = some r := h
        try push_cast
        unfold p_drydocklaw19_DeltaHelps_J9 at h
        refine VC.cond rfl rfl (fun hc11 => ?_) (fun hc11 => ?_)
        · have hb11 : i_3 = true := by simpa using hc11
          replace h := cond_yes hb11 h
          refine VC.seqF tabOkF [some 8] [8] rfl rfl (fun K hK => ?_)
          push_cast [hb6, hb11]
          repeat (refine And.intro (by omega) ?_)
          refine hK _ ?_
          clear hK K
          refine VC.ret ?_
          have hr := Option.some.inj h
          subst hr
          refine endP (Sub.lo _) (Post.ret ?_ ?_ ?_)
          · push_cast [hb6, hb11]
          · push_cast [hb6, hb11]
          · rfl
        · have hb11 : i_3 = false := by simpa using hc11
          replace h := cond_no hb11 h
          refine VC.skip ?_
          obtain ⟨v12, h, hk12⟩ := pm_some h
          refine VC.seqJ (X := Unit) (fun x => p_drydocklaw19_DeltaHelps_J12 = some r) (fun x => ⟨[], [], 153, 154, 0⟩) ?_ ?_
          · refine VC.seqF tabOkF [some 16] [3, 5, 10, 13, 14, 15, 16] rfl rfl (fun K hK => ?_)
            push_cast [hb6, hb11]
            repeat (refine And.intro (by omega) ?_)
            refine hK _ ?_
            clear hK K
            refine VC.block ?_
            refine VC.loopP h (fun x => ⟨[(3, .raw (.int .u32 (a3.toNat : Int))), (5, .ref 0 0), (10, .ref 25 0), (13, .raw (.int .u32 (r8.1.toNat : Int))), (14, .raw (.int .u32 (r8.2.1.toNat : Int))), (15, .raw (.bool r8.2.2)), (16, .raw (.int .i64 x.2))], [(0, .box 55 [.raw (.int .u32 (a1.Ctx.a0.toNat : Int)), .raw (.int .u32 (a1.Ctx.a1.toNat : Int)), .raw (.int .u32 (a1.Ctx.a2.toNat : Int)), .raw (.int .u32 (a1.Ctx.a3.toNat : Int)), .sl false (a1.T.map enc_Table), .raw (.int .u32 (a1.Seed.toNat : Int))]), (20, .row 27 6 0 (x.1.T.map enc_Table)), (25, .box 55 [.raw (.int .u32 (x.1.Ctx.a0.toNat : Int)), .raw (.int .u32 (x.1.Ctx.a1.toNat : Int)), .raw (.int .u32 (x.1.Ctx.a2.toNat : Int)), .raw (.int .u32 (x.1.Ctx.a3.toNat : Int)), .row 20 0 6 0 x.1.T.length, .raw (.int .u32 (x.1.Seed.toNat : Int))])], 148, 154, 0⟩) ?_ ?_
            · refine Sub.trans (Sub.lo _) ?_
              refine Sub.of ?_ ?_ ⟨rfl, rfl, Nat.le_of_ble_eq_true rfl⟩ rfl
              · push_cast [hb6, hb11]
              · push_cast [hb6, hb11]
            rintro ⟨s_15, i_16⟩ b13 h hf13
            replace h : p_drydocklaw19_DeltaHelps_L13 a1 a3 r8 s_15 i_16 = some b13 := h
            try push_cast
            unfold p_drydocklaw19_DeltaHelps_L13 at h
            refine VC.seq ?_
            refine VC.seqF tabOkF [some 61, some 62, some 63, some 64, some 65] [3, 5, 10, 13, 14, 15, 16, 65] rfl rfl (fun K hK => ?_)
            push_cast [hb6, hb11]
            repeat (refine And.intro (by omega) ?_)
            refine hK _ ?_
            clear hK K
            refine VC.cond rfl rfl (fun hc14 => ?_) (fun hc14 => ?_)
            · have hb14 : (decide (i_16 < (a1.T.length : Int))) = true := by simpa using hc14
              replace h := cond_yes hb14 h
              refine VC.skip ?_
              obtain ⟨v15, h, hk15⟩ := pm_some h
              refine VC.seqJ (X := T_Env) (fun x => p_drydocklaw19_DeltaHelps_J15 i_16 x = some b13) (fun x => ⟨[(3, .raw (.int .u32 (a3.toNat : Int))), (5, .ref 0 0), (10, .ref 25 0), (13, .raw (.int .u32 (r8.1.toNat : Int))), (14, .raw (.int .u32 (r8.2.1.toNat : Int))), (15, .raw (.bool r8.2.2)), (16, .raw (.int .i64 i_16))], [(0, .box 55 [.raw (.int .u32 (a1.Ctx.a0.toNat : Int)), .raw (.int .u32 (a1.Ctx.a1.toNat : Int)), .raw (.int .u32 (a1.Ctx.a2.toNat : Int)), .raw (.int .u32 (a1.Ctx.a3.toNat : Int)), .sl false (a1.T.map enc_Table), .raw (.int .u32 (a1.Seed.toNat : Int))]), (20, .row 27 6 0 (x.T.map enc_Table)), (25, .box 55 [.raw (.int .u32 (x.Ctx.a0.toNat : Int)), .raw (.int .u32 (x.Ctx.a1.toNat : Int)), .raw (.int .u32 (x.Ctx.a2.toNat : Int)), .raw (.int .u32 (x.Ctx.a3.toNat : Int)), .row 20 0 6 0 x.T.length, .raw (.int .u32 (x.Seed.toNat : Int))])], 242, 154, 0⟩) ?_ ?_
              · refine VC.block ?_
                refine VC.seq ?_
                obtain ⟨v16, h, hk16⟩ := po_some h
                refine VC.seqJ (X := T_Env × Bool) (fun x => p_drydocklaw19_DeltaHelps_J16 a1 a3 r8 i_16 x.1 x.2 = some v15) (fun x => ⟨[(3, .raw (.int .u32 (a3.toNat : Int))), (5, .ref 0 0), (10, .ref 25 0), (13, .raw (.int .u32 (r8.1.toNat : Int))), (14, .raw (.int .u32 (r8.2.1.toNat : Int))), (15, .raw (.bool r8.2.2)), (16, .raw (.int .i64 i_16)), (85, .raw (.bool x.2))], [(0, .box 55 [.raw (.int .u32 (a1.Ctx.a0.toNat : Int)), .raw (.int .u32 (a1.Ctx.a1.toNat : Int)), .raw (.int .u32 (a1.Ctx.a2.toNat : Int)), .raw (.int .u32 (a1.Ctx.a3.toNat : Int)), .sl false (a1.T.map enc_Table), .raw (.int .u32 (a1.Seed.toNat : Int))]), (20, .row 27 6 0 (x.1.T.map enc_Table)), (25, .box 55 [.raw (.int .u32 (x.1.Ctx.a0.toNat : Int)), .raw (.int .u32 (x.1.Ctx.a1.toNat : Int)), .raw (.int .u32 (x.1.Ctx.a2.toNat : Int)), .raw (.int .u32 (x.1.Ctx.a3.toNat : Int)), .row 20 0 6 0 x.1.T.length, .raw (.int .u32 (x.1.Seed.toNat : Int))])], 171, 154, 0⟩) ?_ ?_
                · obtain ⟨x17, hx17, h⟩ := po_some h
                  obtain ⟨hx171, hx172, hx173, hx174⟩ := idx_some4 hx17
                  rcases Bool.eq_false_or_eq_true (x17.S.Kind == 3) with hb18 | hb18
                  · replace h := cond_yes hb18 h
                    refine VC.lastF tabOkF [some 68, some 69, some 70, some 71, some 72, some 73, some 74, some 75, some 76, some 77, some 78, some 79, some 80, some 81, some 82, some 83, some 84, some 85] rfl rfl (fun K hK => ?_)
                    refine runOps_cut 8 (fun K2 hK2 => ?_)
                    push_cast [hb6, hb11, hb14, hx171, hx172, hx173, hx174, hb18]
                    repeat (refine And.intro (by omega) ?_)
                    refine hK2 _ _ ?_
                    clear hK2 K2
                    simp only [List.drop_succ_cons, List.drop_zero]
                    push_cast [hb6, hb11, hb14, hx171, hx172, hx173, hx174, hb18]
                    repeat (refine And.intro (by omega) ?_)
                    refine hK _ ?_
                    clear hK K
                    have hv := Option.some.inj h
                    rw [← hv] at hk16
                    refine Exists.intro ((s_15, true)) (And.intro hk16 ?_)
                    refine Sub.trans (Sub.lo _) ?_
                    refine Sub.of ?_ ?_ ⟨rfl, rfl, Nat.le_of_ble_eq_true rfl⟩ rfl
                    · push_cast [hb6, hb11, hb14, hb18]
                    · push_cast [hb6, hb11, hb14, hb18]
                  · replace h := cond_no hb18 h
                    refine VC.lastF tabOkF [some 68, some 69, some 70, some 71, some 72, some 73, some 74, some 75, some 76, some 77, some 78, some 79, some 80, some 81, some 82, some 83, some 84, some 85] rfl rfl (fun K hK => ?_)
                    refine runOps_cut 8 (fun K2 hK2 => ?_)
                    push_cast [hb6, hb11, hb14, hx171, hx172, hx173, hx174, hb18]
                    repeat (refine And.intro (by omega) ?_)
                    refine hK2 _ _ ?_
                    clear hK2 K2
                    simp only [List.drop_succ_cons, List.drop_zero]
                    push_cast [hb6, hb11, hb14, hx171, hx172, hx173, hx174, hb18]
                    repeat (refine And.intro (by omega) ?_)
                    refine hK _ ?_
                    clear hK K
                    have hv := Option.some.inj h
                    rw [← hv] at hk16
                    refine Exists.intro ((s_15, (x17.S.Kind == 2))) (And.intro hk16 ?_)
                    refine Sub.trans (Sub.lo _) ?_
                    refine Sub.of ?_ ?_ ⟨rfl, rfl, Nat.le_of_ble_eq_true rfl⟩ rfl
                    · push_cast [hb6, hb11, hb14, hb18]
                    · push_cast [hb6, hb11, hb14, hb18]
                · rintro ⟨s_17, i_18⟩ h
                  replace h : p_drydocklaw19_DeltaHelps_J16 a1 a3 r8 i_16 s_17 i_18 = some v15 := h
                  try push_cast
                  unfold p_drydocklaw19_DeltaHelps_J16 at h
                  refine VC.cond rfl rfl (fun hc19 => ?_) (fun hc19 => ?_)
                  · have hb19 : i_18 = true := by simpa using hc19
                    replace h := cond_yes hb19 h
                    refine VC.exit ?_
                    have hv := Option.some.inj h
                    rw [← hv] at hk15
                    refine Exists.intro (s_17) (And.intro hk15 ?_)
                    refine Sub.trans (Sub.lo _) ?_
                    refine Sub.of ?_ ?_ ⟨rfl, rfl, Nat.le_of_ble_eq_true rfl⟩ rfl
                    · push_cast [hb6, hb11, hb14, hb19]
                    · push_cast [hb6, hb11, hb14, hb19]
                  · have hb19 : i_18 = false := by simpa using hc19
                    replace h := cond_no hb19 h
                    refine VC.skip ?_
                    obtain ⟨x20, hx20, h⟩ := po_some h
                    obtain ⟨hx201, hx202, hx203, hx204⟩ := idx_some4 hx20
                    obtain ⟨r21, hr21, h⟩ := po_some h
                    refine VC.seqF tabOkF [some 86, some 87, some 88, some 89, some 90, some 91, some 92, some 17] [3, 5, 10, 13, 14, 15, 16, 17] rfl rfl (fun K hK => ?_)
                    push_cast [hb6, hb11, hb14, hb19, hx201, hx202, hx203, hx204]
                    repeat (refine And.intro (by omega) ?_)
                    refine callP (Ctr.lo (c_drydockref05_At x20 a3 hr21)) rfl ?_
                    push_cast [hb6, hb11, hb14, hb19, hx201, hx202, hx203, hx204]
                    repeat (refine And.intro (by omega) ?_)
                    refine hK _ ?_
                    clear hK K
                    obtain ⟨x22, hx22, h⟩ := po_some h
                    obtain ⟨hx221, hx222, hx223, hx224⟩ := idx_some4 hx22
                    obtain ⟨r23, hr23, h⟩ := po_some h
                    refine VC.seqF tabOkF [some 93, some 94, some 95, some 96, some 97, some 98, some 99, some 18] [3, 5, 10, 13, 14, 15, 16, 17, 18] rfl rfl (fun K hK => ?_)
                    push_cast [hb6, hb11, hb14, hb19, hx201, hx202, hx203, hx204, hx221, hx222, hx223, hx224]
                    repeat (refine And.intro (by omega) ?_)
                    refine callP (Ctr.lo (c_drydockref05_At x22 a3 hr23)) rfl ?_
                    push_cast [hb6, hb11, hb14, hb19, hx201, hx202, hx203, hx204, hx221, hx222, hx223, hx224]
                    repeat (refine And.intro (by omega) ?_)
                    refine hK _ ?_
                    clear hK K
                    obtain ⟨v24, h, hk24⟩ := po_some h
                    refine VC.seqJ (X := T_Env × Bool) (fun x => p_drydocklaw19_DeltaHelps_J24 a3 r8 i_16 x.1 x.2 = some v15) (fun x => ⟨[(3, .raw (.int .u32 (a3.toNat : Int))), (5, .ref 0 0), (10, .ref 25 0), (13, .raw (.int .u32 (r8.1.toNat : Int))), (14, .raw (.int .u32 (r8.2.1.toNat : Int))), (15, .raw (.bool r8.2.2)), (16, .raw (.int .i64 i_16)), (19, .raw (.bool x.2))], [(0, .box 55 [.raw (.int .u32 (a1.Ctx.a0.toNat : Int)), .raw (.int .u32 (a1.Ctx.a1.toNat : Int)), .raw (.int .u32 (a1.Ctx.a2.toNat : Int)), .raw (.int .u32 (a1.Ctx.a3.toNat : Int)), .sl false (a1.T.map enc_Table), .raw (.int .u32 (a1.Seed.toNat : Int))]), (20, .row 27 6 0 (x.1.T.map enc_Table)), (25, .box 55 [.raw (.int .u32 (x.1.Ctx.a0.toNat : Int)), .raw (.int .u32 (x.1.Ctx.a1.toNat : Int)), .raw (.int .u32 (x.1.Ctx.a2.toNat : Int)), .raw (.int .u32 (x.1.Ctx.a3.toNat : Int)), .row 20 0 6 0 x.1.T.length, .raw (.int .u32 (x.1.Seed.toNat : Int))])], 225, 154, 0⟩) ?_ ?_
                    · rcases Bool.eq_false_or_eq_true (decide (r21 < 0)) with hb25 | hb25
                      · replace h := cond_yes hb25 h
                        rcases Bool.eq_false_or_eq_true (decide (r23 < 0)) with hb26 | hb26
                        · replace h := cond_yes hb26 h
                          refine VC.lastFD tabOkF hmixO [some 100, some 101, some 102, some 103, some 104, some 105, some 106, some 107, some 108, some 109, some 110, some 111, some 112, some 113, some 114, some 115, some 116, some 117, some 118, some 119, some 120, some 121, some 122, some 123, some 124, some 125, some 126, some 127, some 128, some 129, some 130, some 131, some 132, some 133, some 134, some 135, some 136, some 19] rfl rfl rfl (fun K hK => ?_)
                          refine runD_cut 8 (fun K2 hK2 => ?_)
                          push_cast [hb6, hb11, hb14, hb19, hx201, hx202, hx203, hx204, hx221, hx222, hx223, hx224, hb25, hb26]
                          repeat (refine And.intro (by omega) ?_)
                          refine hK2 _ _ _ ?_
                          clear hK2 K2
                          simp only [List.drop_succ_cons, List.drop_zero]
                          refine runD_cut 8 (fun K2 hK2 => ?_)
                          push_cast [hb6, hb11, hb14, hb19, hx201, hx202, hx203, hx204, hx221, hx222, hx223, hx224, hb25, hb26]
                          repeat (refine And.intro (by omega) ?_)
                          refine hK2 _ _ _ ?_
                          clear hK2 K2
                          simp only [List.drop_succ_cons, List.drop_zero]
                          refine runD_cut 8 (fun K2 hK2 => ?_)
                          push_cast [hb6, hb11, hb14, hb19, hx201, hx202, hx203, hx204, hx221, hx222, hx223, hx224, hb25, hb26]
                          repeat (refine And.intro (by omega) ?_)
                          refine hK2 _ _ _ ?_
                          clear hK2 K2
                          simp only [List.drop_succ_cons, List.drop_zero]
                          refine runD_cut 8 (fun K2 hK2 => ?_)
                          push_cast [hb6, hb11, hb14, hb19, hx201, hx202, hx203, hx204, hx221, hx222, hx223, hx224, hb25, hb26]
                          repeat (refine And.intro (by omega) ?_)
                          refine hK2 _ _ _ ?_
                          clear hK2 K2
                          simp only [List.drop_succ_cons, List.drop_zero]
                          push_cast [hb6, hb11, hb14, hb19, hx201, hx202, hx203, hx204, hx221, hx222, hx223, hx224, hb25, hb26]
                          repeat (refine And.intro (by omega) ?_)
                          refine ⟨rfl, hK _ ?_⟩
                          clear hK K
                          have hv := Option.some.inj h
                          rw [← hv] at hk24
                          refine Exists.intro ((s_17, true)) (And.intro hk24 ?_)
                          refine Sub.trans (Sub.lo _) ?_
                          refine Sub.of ?_ ?_ ⟨rfl, rfl, Nat.le_of_ble_eq_true rfl⟩ rfl
                          · push_cast [hb6, hb11, hb14, hb19, hb25, hb26]
                          · push_cast [hb6, hb11, hb14, hb19, hb25, hb26]
                        · replace h := cond_no hb26 h
                          rcases Bool.eq_false_or_eq_true (decide (r21 ≥ 0)) with hb27 | hb27
                          · replace h := cond_yes hb27 h
                            rcases Bool.eq_false_or_eq_true (decide (r23 ≥ 0)) with hb28 | hb28
                            · replace h := cond_yes hb28 h
                              obtain ⟨x29, hx29, h⟩ := po_some h
                              obtain ⟨hx291, hx292, hx293, hx294⟩ := idx_some4 hx29
                              obtain ⟨x30, hx30, h⟩ := po_some h
                              obtain ⟨hx301, hx302, hx303, hx304⟩ := idx_some4 hx30
                              obtain ⟨r31, hr31, h⟩ := po_some h
                              refine VC.lastFD tabOkF hmixO [some 100, some 101, some 102, some 103, some 104, some 105, some 106, some 107, some 108, some 109, some 110, some 111, some 112, some 113, some 114, some 115, some 116, some 117, some 118, some 119, some 120, some 121, some 122, some 123, some 124, some 125, some 126, some 127, some 128, some 129, some 130, some 131, some 132, some 133, some 134, some 135, some 136, some 19] rfl rfl rfl (fun K hK => ?_)
                              refine runD_cut 8 (fun K2 hK2 => ?_)
                              push_cast [hb6, hb11, hb14, hb19, hx201, hx202, hx203, hx204, hx221, hx222, hx223, hx224, hb25, hb26, hb27, hb28, hx291, hx292, hx293, hx294, hx301, hx302, hx303, hx304]
                              repeat (refine And.intro (by omega) ?_)
                              refine hK2 _ _ _ ?_
                              clear hK2 K2
                              simp only [List.drop_succ_cons, List.drop_zero]
                              refine runD_cut 8 (fun K2 hK2 => ?_)
                              push_cast [hb6, hb11, hb14, hb19, hx201, hx202, hx203, hx204, hx221, hx222, hx223, hx224, hb25, hb26, hb27, hb28, hx291, hx292, hx293, hx294, hx301, hx302, hx303, hx304]
                              repeat (refine And.intro (by omega) ?_)
                              refine hK2 _ _ _ ?_
                              clear hK2 K2
                              simp only [List.drop_succ_cons, List.drop_zero]
                              refine runD_cut 8 (fun K2 hK2 => ?_)
                              push_cast [hb6, hb11, hb14, hb19, hx201, hx202, hx203, hx204, hx221, hx222, hx223, hx224, hb25, hb26, hb27, hb28, hx291, hx292, hx293, hx294, hx301, hx302, hx303, hx304]
                              repeat (refine And.intro (by omega) ?_)
                              refine hK2 _ _ _ ?_
                              clear hK2 K2
                              simp only [List.drop_succ_cons, List.drop_zero]
                              refine runD_cut 8 (fun K2 hK2 => ?_)
                              push_cast [hb6, hb11, hb14, hb19, hx201, hx202, hx203, hx204, hx221, hx222, hx223, hx224, hb25, hb26, hb27, hb28, hx291, hx292, hx293, hx294, hx301, hx302, hx303, hx304]
                              repeat (refine And.intro (by omega) ?_)
                              refine hK2 _ _ _ ?_
                              clear hK2 K2
                              simp only [List.drop_succ_cons, List.drop_zero]
                              push_cast [hb6, hb11, hb14, hb19, hx201, hx202, hx203, hx204, hx221, hx222, hx223, hx224, hb25, hb26, hb27, hb28, hx291, hx292, hx293, hx294, hx301, hx302, hx303, hx304]
                              repeat (refine And.intro (by omega) ?_)
                              refine callPD (Ctr.lo (c_drydockref01_Words x29.V x30.V hr31)) rfl ?_
                              push_cast [hb6, hb11, hb14, hb19, hx201, hx202, hx203, hx204, hx221, hx222, hx223, hx224, hb25, hb26, hb27, hb28, hx291, hx292, hx293, hx294, hx301, hx302, hx303, hx304]
                              repeat (refine And.intro (by omega) ?_)
                              refine ⟨rfl, hK _ ?_⟩
                              clear hK K
                              have hv := Option.some.inj h
                              rw [← hv] at hk24
                              refine Exists.intro ((s_17, r31)) (And.intro hk24 ?_)
                              refine Sub.trans (Sub.lo _) ?_
                              refine Sub.of ?_ ?_ ⟨rfl, rfl, Nat.le_of_ble_eq_true rfl⟩ rfl
                              · push_cast [hb6, hb11, hb14, hb19, hb25, hb26, hb27, hb28]
                              · push_cast [hb6, hb11, hb14, hb19, hb25, hb26, hb27, hb28]
                            · replace h := cond_no hb28 h
                              refine VC.lastFD tabOkF hmixO [some 100, some 101, some 102, some 103, some 104, some 105, some 106, some 107, some 108, some 109, some 110, some 111, some 112, some 113, some 114, some 115, some 116, some 117, some 118, some 119, some 120, some 121, some 122, some 123, some 124, some 125, some 126, some 127, some 128, some 129, some 130, some 131, some 132, some 133, some 134, some 135, some 136, some 19] rfl rfl rfl (fun K hK => ?_)
                              refine runD_cut 8 (fun K2 hK2 => ?_)
                              push_cast [hb6, hb11, hb14, hb19, hx201, hx202, hx203, hx204, hx221, hx222, hx223, hx224, hb25, hb26, hb27, hb28]
                              repeat (refine And.intro (by omega) ?_)
                              refine hK2 _ _ _ ?_
                              clear hK2 K2
                              simp only [List.drop_succ_cons, List.drop_zero]
                              refine runD_cut 8 (fun K2 hK2 => ?_)
                              push_cast [hb6, hb11, hb14, hb19, hx201, hx202, hx203, hx204, hx221, hx222, hx223, hx224, hb25, hb26, hb27, hb28]
                              repeat (refine And.intro (by omega) ?_)
                              refine hK2 _ _ _ ?_
                              clear hK2 K2
                              simp only [List.drop_succ_cons, List.drop_zero]
                              refine runD_cut 8 (fun K2 hK2 => ?_)
                              push_cast [hb6, hb11, hb14, hb19, hx201, hx202, hx203, hx204, hx221, hx222, hx223, hx224, hb25, hb26, hb27, hb28]
                              repeat (refine And.intro (by omega) ?_)
                              refine hK2 _ _ _ ?_
                              clear hK2 K2
                              simp only [List.drop_succ_cons, List.drop_zero]
                              refine runD_cut 8 (fun K2 hK2 => ?_)
                              push_cast [hb6, hb11, hb14, hb19, hx201, hx202, hx203, hx204, hx221, hx222, hx223, hx224, hb25, hb26, hb27, hb28]
                              repeat (refine And.intro (by omega) ?_)
                              refine hK2 _ _ _ ?_
                              clear hK2 K2
                              simp only [List.drop_succ_cons, List.drop_zero]
                              push_cast [hb6, hb11, hb14, hb19, hx201, hx202, hx203, hx204, hx221, hx222, hx223, hx224, hb25, hb26, hb27, hb28]
                              repeat (refine And.intro (by omega) ?_)
                              refine ⟨rfl, hK _ ?_⟩
                              clear hK K
                              have hv := Option.some.inj h
                              rw [← hv] at hk24
                              refine Exists.intro ((s_17, false)) (And.intro hk24 ?_)
                              refine Sub.trans (Sub.lo _) ?_
                              refine Sub.of ?_ ?_ ⟨rfl, rfl, Nat.le_of_ble_eq_true rfl⟩ rfl
                              · push_cast [hb6, hb11, hb14, hb19, hb25, hb26, hb27, hb28]
                              · push_cast [hb6, hb11, hb14, hb19, hb25, hb26, hb27, hb28]
                          · replace h := cond_no hb27 h
                            refine VC.lastFD tabOkF hmixO [some 100, some 101, some 102, some 103, some 104, some 105, some 106, some 107, some 108, some 109, some 110, some 111, some 112, some 113, some 114, some 115, some 116, some 117, some 118, some 119, some 120, some 121, some 122, some 123, some 124, some 125, some 126, some 127, some 128, some 129, some 130, some 131, some 132, some 133, some 134, some 135, some 136, some 19] rfl rfl rfl (fun K hK => ?_)
                            refine runD_cut 8 (fun K2 hK2 => ?_)
                            push_cast [hb6, hb11, hb14, hb19, hx201, hx202, hx203, hx204, hx221, hx222, hx223, hx224, hb25, hb26, hb27]
                            repeat (refine And.intro (by omega) ?_)
                            refine hK2 _ _ _ ?_
                            clear hK2 K2
                            simp only [List.drop_succ_cons, List.drop_zero]
                            refine runD_cut 8 (fun K2 hK2 => ?_)
                            push_cast [hb6, hb11, hb14, hb19, hx201, hx202, hx203, hx204, hx221, hx222, hx223, hx224, hb25, hb26, hb27]
                            repeat (refine And.intro (by omega) ?_)
                            refine hK2 _ _ _ ?_
                            clear hK2 K2
                            simp only [List.drop_succ_cons, List.drop_zero]
                            refine runD_cut 8 (fun K2 hK2 => ?_)
                            push_cast [hb6, hb11, hb14, hb19, hx201, hx202, hx203, hx204, hx221, hx222, hx223, hx224, hb25, hb26, hb27]
                            repeat (refine And.intro (by omega) ?_)
                            refine hK2 _ _ _ ?_
                            clear hK2 K2
                            simp only [List.drop_succ_cons, List.drop_zero]
                            refine runD_cut 8 (fun K2 hK2 => ?_)
                            push_cast [hb6, hb11, hb14, hb19, hx201, hx202, hx203, hx204, hx221, hx222, hx223, hx224, hb25, hb26, hb27]
                            repeat (refine And.intro (by omega) ?_)
                            refine hK2 _ _ _ ?_
                            clear hK2 K2
                            simp only [List.drop_succ_cons, List.drop_zero]
                            push_cast [hb6, hb11, hb14, hb19, hx201, hx202, hx203, hx204, hx221, hx222, hx223, hx224, hb25, hb26, hb27]
                            repeat (refine And.intro (by omega) ?_)
                            refine ⟨rfl, hK _ ?_⟩
                            clear hK K
                            have hv := Option.some.inj h
                            rw [← hv] at hk24
                            refine Exists.intro ((s_17, false)) (And.intro hk24 ?_)
                            refine Sub.trans (Sub.lo _) ?_
                            refine Sub.of ?_ ?_ ⟨rfl, rfl, Nat.le_of_ble_eq_true rfl⟩ rfl
                            · push_cast [hb6, hb11, hb14, hb19, hb25, hb26, hb27]
                            · push_cast [hb6, hb11, hb14, hb19, hb25, hb26, hb27]
                      · replace h := cond_no hb25 h
                        rcases Bool.eq_false_or_eq_true (decide (r21 ≥ 0)) with hb32 | hb32
                        · replace h := cond_yes hb32 h
                          rcases Bool.eq_false_or_eq_true (decide (r23 ≥ 0)) with hb33 | hb33
                          · replace h := cond_yes hb33 h
                            obtain ⟨x34, hx34, h⟩ := po_some h
                            obtain ⟨hx341, hx342, hx343, hx344⟩ := idx_some4 hx34
                            obtain ⟨x35, hx35, h⟩ := po_some h
                            obtain ⟨hx351, hx352, hx353, hx354⟩ := idx_some4 hx35
                            obtain ⟨r36, hr36, h⟩ := po_some h
                            refine VC.lastFD tabOkF hmixO [some 100, some 101, some 102, some 103, some 104, some 105, some 106, some 107, some 108, some 109, some 110, some 111, some 112, some 113, some 114, some 115, some 116, some 117, some 118, some 119, some 120, some 121, some 122, some 123, some 124, some 125, some 126, some 127, some 128, some 129, some 130, some 131, some 132, some 133, some 134, some 135, some 136, some 19] rfl rfl rfl (fun K hK => ?_)
                            refine runD_cut 8 (fun K2 hK2 => ?_)
                            push_cast [hb6, hb11, hb14, hb19, hx201, hx202, hx203, hx204, hx221, hx222, hx223, hx224, hb25, hb32, hb33, hx341, hx342, hx343, hx344, hx351, hx352, hx353, hx354]
                            repeat (refine And.intro (by omega) ?_)
                            refine hK2 _ _ _ ?_
                            clear hK2 K2
                            simp only [List.drop_succ_cons, List.drop_zero]
                            refine runD_cut 8 (fun K2 hK2 => ?_)
                            push_cast [hb6, hb11, hb14, hb19, hx201, hx202, hx203, hx204, hx221, hx222, hx223, hx224, hb25, hb32, hb33, hx341, hx342, hx343, hx344, hx351, hx352, hx353, hx354]
                            repeat (refine And.intro (by omega) ?_)
                            refine hK2 _ _ _ ?_
                            clear hK2 K2
                            simp only [List.drop_succ_cons, List.drop_zero]
                            refine runD_cut 8 (fun K2 hK2 => ?_)
                            push_cast [hb6, hb11, hb14, hb19, hx201, hx202, hx203, hx204, hx221, hx222, hx223, hx224, hb25, hb32, hb33, hx341, hx342, hx343, hx344, hx351, hx352, hx353, hx354]
                            repeat (refine And.intro (by omega) ?_)
                            refine hK2 _ _ _ ?_
                            clear hK2 K2
                            simp only [List.drop_succ_cons, List.drop_zero]
                            refine runD_cut 8 (fun K2 hK2 => ?_)
                            push_cast [hb6, hb11, hb14, hb19, hx201, hx202, hx203, hx204, hx221, hx222, hx223, hx224, hb25, hb32, hb33, hx341, hx342, hx343, hx344, hx351, hx352, hx353, hx354]
                            repeat (refine And.intro (by omega) ?_)
                            refine hK2 _ _ _ ?_
                            clear hK2 K2
                            simp only [List.drop_succ_cons, List.drop_zero]
                            push_cast [hb6, hb11, hb14, hb19, hx201, hx202, hx203, hx204, hx221, hx222, hx223, hx224, hb25, hb32, hb33, hx341, hx342, hx343, hx344, hx351, hx352, hx353, hx354]
                            repeat (refine And.intro (by omega) ?_)
                            refine callPD (Ctr.lo (c_drydockref01_Words x34.V x35.V hr36)) rfl ?_
                            push_cast [hb6, hb11, hb14, hb19, hx201, hx202, hx203, hx204, hx221, hx222, hx223, hx224, hb25, hb32, hb33, hx341, hx342, hx343, hx344, hx351, hx352, hx353, hx354]
                            repeat (refine And.intro (by omega) ?_)
                            refine ⟨rfl, hK _ ?_⟩
                            clear hK K
                            have hv := Option.some.inj h
                            rw [← hv] at hk24
                            refine Exists.intro ((s_17, r36)) (And.intro hk24 ?_)
                            refine Sub.trans (Sub.lo _) ?_
                            refine Sub.of ?_ ?_ ⟨rfl, rfl, Nat.le_of_ble_eq_true rfl⟩ rfl
                            · push_cast [hb6, hb11, hb14, hb19, hb25, hb32, hb33]
                            · push_cast [hb6, hb11, hb14, hb19, hb25, hb32, hb33]
                          · replace h := cond_no hb33 h
                            refine VC.lastFD tabOkF hmixO [some 100, some 101, some 102, some 103, some 104, some 105, some 106, some 107, some 108, some 109, some 110, some 111, some 112, some 113, some 114, some 115, some 116, some 117, some 118, some 119, some 120, some 121, some 122, some 123, some 124, some 125, some 126, some 127, some 128, some 129, some 130, some 131, some 132, some 133, some 134, some 135, some 136, some 19] rfl rfl rfl (fun K hK => ?_)
                            refine runD_cut 8 (fun K2 hK2 => ?_)
                            push_cast [hb6, hb11, hb14, hb19, hx201, hx202, hx203, hx204, hx221, hx222, hx223, hx224, hb25, hb32, hb33]
                            repeat (refine And.intro (by omega) ?_)
                            refine hK2 _ _ _ ?_
                            clear hK2 K2
                            simp only [List.drop_succ_cons, List.drop_zero]
                            refine runD_cut 8 (fun K2 hK2 => ?_)
                            push_cast [hb6, hb11, hb14, hb19, hx201, hx202, hx203, hx204, hx221, hx222, hx223, hx224, hb25, hb32, hb33]
                            repeat (refine And.intro (by omega) ?_)
                            refine hK2 _ _ _ ?_
                            clear hK2 K2
                            simp only [List.drop_succ_cons, List.drop_zero]
                            refine runD_cut 8 (fun K2 hK2 => ?_)
                            push_cast [hb6, hb11, hb14, hb19, hx201, hx202, hx203, hx204, hx221, hx222, hx223, hx224, hb25, hb32, hb33]
                            repeat (refine And.intro (by omega) ?_)
                            refine hK2 _ _ _ ?_
                            clear hK2 K2
                            simp only [List.drop_succ_cons, List.drop_zero]
                            refine runD_cut 8 (fun K2 hK2 => ?_)
                            push_cast [hb6, hb11, hb14, hb19, hx201, hx202, hx203, hx204, hx221, hx222, hx223, hx224, hb25, hb32, hb33]
                            repeat (refine And.intro (by omega) ?_)
                            refine hK2 _ _ _ ?_
                            clear hK2 K2
                            simp only [List.drop_succ_cons, List.drop_zero]
                            push_cast [hb6, hb11, hb14, hb19, hx201, hx202, hx203, hx204, hx221, hx222, hx223, hx224, hb25, hb32, hb33]
                            repeat (refine And.intro (by omega) ?_)
                            refine ⟨rfl, hK _ ?_⟩
                            clear hK K
                            have hv := Option.some.inj h
                            rw [← hv] at hk24
                            refine Exists.intro ((s_17, false)) (And.intro hk24 ?_)
                            refine Sub.trans (Sub.lo _) ?_
                            refine Sub.of ?_ ?_ ⟨rfl, rfl, Nat.le_of_ble_eq_true rfl⟩ rfl
                            · push_cast [hb6, hb11, hb14, hb19, hb25, hb32, hb33]
                            · push_cast [hb6, hb11, hb14, hb19, hb25, hb32, hb33]
                        · replace h := cond_no hb32 h
                          refine VC.lastFD tabOkF hmixO [some 100, some 101, some 102, some 103, some 104, some 105, some 106, some 107, some 108, some 109, some 110, some 111, some 112, some 113, some 114, some 115, some 116, some 117, some 118, some 119, some 120, some 121, some 122, some 123, some 124, some 125, some 126, some 127, some 128, some 129, some 130, some 131, some 132, some 133, some 134, some 135, some 136, some 19] rfl rfl rfl (fun K hK => ?_)
                          refine runD_cut 8 (fun K2 hK2 => ?_)
                          push_cast [hb6, hb11, hb14, hb19, hx201, hx202, hx203, hx204, hx221, hx222, hx223, hx224, hb25, hb32]
                          repeat (refine And.intro (by omega) ?_)
                          refine hK2 _ _ _ ?_
                          clear hK2 K2
                          simp only [List.drop_succ_cons, List.drop_zero]
                          refine runD_cut 8 (fun K2 hK2 => ?_)
                          push_cast [hb6, hb11, hb14, hb19, hx201, hx202, hx203, hx204, hx221, hx222, hx223, hx224, hb25, hb32]
                          repeat (refine And.intro (by omega) ?_)
                          refine hK2 _ _ _ ?_
                          clear hK2 K2
                          simp only [List.drop_succ_cons, List.drop_zero]
                          refine runD_cut 8 (fun K2 hK2 => ?_)
                          push_cast [hb6, hb11, hb14, hb19, hx201, hx202, hx203, hx204, hx221, hx222, hx223, hx224, hb25, hb32]
                          repeat (refine And.intro (by omega) ?_)
                          refine hK2 _ _ _ ?_
                          clear hK2 K2
                          simp only [List.drop_succ_cons, List.drop_zero]
                          refine runD_cut 8 (fun K2 hK2 => ?_)
                          push_cast [hb6, hb11, hb14, hb19, hx201, hx202, hx203, hx204, hx221, hx222, hx223, hx224, hb25, hb32]
                          repeat (refine And.intro (by omega) ?_)
                          refine hK2 _ _ _ ?_
                          clear hK2 K2
                          simp only [List.drop_succ_cons, List.drop_zero]
                          push_cast [hb6, hb11, hb14, hb19, hx201, hx202, hx203, hx204, hx221, hx222, hx223, hx224, hb25, hb32]
                          repeat (refine And.intro (by omega) ?_)
                          refine ⟨rfl, hK _ ?_⟩
                          clear hK K
                          have hv := Option.some.inj h
                          rw [← hv] at hk24
                          refine Exists.intro ((s_17, false)) (And.intro hk24 ?_)
                          refine Sub.trans (Sub.lo _) ?_
                          refine Sub.of ?_ ?_ ⟨rfl, rfl, Nat.le_of_ble_eq_true rfl⟩ rfl
                          · push_cast [hb6, hb11, hb14, hb19, hb25, hb32]
                          · push_cast [hb6, hb11, hb14, hb19, hb25, hb32]
                    · rintro ⟨s_34, i_35⟩ h
                      replace h : p_drydocklaw19_DeltaHelps_J24 a3 r8 i_16 s_34 i_35 = some v15 := h
                      try push_cast
                      unfold p_drydocklaw19_DeltaHelps_J24 at h
                      obtain ⟨v37, h, hk37⟩ := po_some h
                      refine VC.seqJ (X := T_Env × Bool) (fun x => p_drydocklaw19_DeltaHelps_J37 x.1 x.2 = some v15) (fun x => ⟨[(3, .raw (.int .u32 (a3.toNat : Int))), (5, .ref 0 0), (10, .ref 25 0), (13, .raw (.int .u32 (r8.1.toNat : Int))), (14, .raw (.int .u32 (r8.2.1.toNat : Int))), (15, .raw (.bool r8.2.2)), (16, .raw (.int .i64 i_16)), (153, .raw (.bool x.2))], [(0, .box 55 [.raw (.int .u32 (a1.Ctx.a0.toNat : Int)), .raw (.int .u32 (a1.Ctx.a1.toNat : Int)), .raw (.int .u32 (a1.Ctx.a2.toNat : Int)), .raw (.int .u32 (a1.Ctx.a3.toNat : Int)), .sl false (a1.T.map enc_Table), .raw (.int .u32 (a1.Seed.toNat : Int))]), (20, .row 27 6 0 (x.1.T.map enc_Table)), (25, .box 55 [.raw (.int .u32 (x.1.Ctx.a0.toNat : Int)), .raw (.int .u32 (x.1.Ctx.a1.toNat : Int)), .raw (.int .u32 (x.1.Ctx.a2.toNat : Int)), .raw (.int .u32 (x.1.Ctx.a3.toNat : Int)), .row 20 0 6 0 x.1.T.length, .raw (.int .u32 (x.1.Seed.toNat : Int))])], 242, 154, 0⟩) ?_ ?_
                      · rcases Bool.eq_false_or_eq_true i_35 with hb38 | hb38
                        · replace h := cond_yes hb38 h
                          refine VC.lastF tabOkF [some 137, some 138, some 139, some 140, some 141, some 142, some 143, some 144, some 145, some 146, some 147, some 148, some 149, some 150, some 151, some 152, some 153] rfl rfl (fun K hK => ?_)
                          refine runOps_cut 8 (fun K2 hK2 => ?_)
                          push_cast [hb6, hb11, hb14, hb19, hx201, hx202, hx203, hx204, hx221, hx222, hx223, hx224, hb38]
                          repeat (refine And.intro (by omega) ?_)
                          refine hK2 _ _ ?_
                          clear hK2 K2
                          simp only [List.drop_succ_cons, List.drop_zero]
                          push_cast [hb6, hb11, hb14, hb19, hx201, hx202, hx203, hx204, hx221, hx222, hx223, hx224, hb38]
                          repeat (refine And.intro (by omega) ?_)
                          refine hK _ ?_
                          clear hK K
                          have hv := Option.some.inj h
                          rw [← hv] at hk37
                          refine Exists.intro ((s_34, false)) (And.intro hk37 ?_)
                          refine Sub.trans (Sub.lo _) ?_
                          refine Sub.of ?_ ?_ ⟨rfl, rfl, Nat.le_of_ble_eq_true rfl⟩ rfl
                          · push_cast [hb6, hb11, hb14, hb19, hb38]
                          · push_cast [hb6, hb11, hb14, hb19, hb38]
                        · replace h := cond_no hb38 h
                          rcases Bool.eq_false_or_eq_true r8.2.2 with hb39 | hb39
                          · replace h := cond_yes hb39 h
                            rcases Bool.eq_false_or_eq_true ((r8.1.toNat : Int) != i_16) with hb40 | hb40
                            · replace h := cond_yes hb40 h
                              refine VC.lastF tabOkF [some 137, some 138, some 139, some 140, some 141, some 142, some 143, some 144, some 145, some 146, some 147, some 148, some 149, some 150, some 151, some 152, some 153] rfl rfl (fun K hK => ?_)
                              refine runOps_cut 8 (fun K2 hK2 => ?_)
                              push_cast [hb6, hb11, hb14, hb19, hx201, hx202, hx203, hx204, hx221, hx222, hx223, hx224, hb38, hb39, hb40]
                              repeat (refine And.intro (by omega) ?_)
                              refine hK2 _ _ ?_
                              clear hK2 K2
                              simp only [List.drop_succ_cons, List.drop_zero]
                              push_cast [hb6, hb11, hb14, hb19, hx201, hx202, hx203, hx204, hx221, hx222, hx223, hx224, hb38, hb39, hb40]
                              repeat (refine And.intro (by omega) ?_)
                              refine hK _ ?_
                              clear hK K
                              have hv := Option.some.inj h
                              rw [← hv] at hk37
                              refine Exists.intro ((s_34, true)) (And.intro hk37 ?_)
                              refine Sub.trans (Sub.lo _) ?_
                              refine Sub.of ?_ ?_ ⟨rfl, rfl, Nat.le_of_ble_eq_true rfl⟩ rfl
                              · push_cast [hb6, hb11, hb14, hb19, hb38, hb39, hb40]
                              · push_cast [hb6, hb11, hb14, hb19, hb38, hb39, hb40]
                            · replace h := cond_no hb40 h
                              refine VC.lastF tabOkF [some 137, some 138, some 139, some 140, some 141, some 142, some 143, some 144, some 145, some 146, some 147, some 148, some 149, some 150, some 151, some 152, some 153] rfl rfl (fun K hK => ?_)
                              refine runOps_cut 8 (fun K2 hK2 => ?_)
                              push_cast [hb6, hb11, hb14, hb19, hx201, hx202, hx203, hx204, hx221, hx222, hx223, hx224, hb38, hb39, hb40]
                              repeat (refine And.intro (by omega) ?_)
                              refine hK2 _ _ ?_
                              clear hK2 K2
                              simp only [List.drop_succ_cons, List.drop_zero]
                              push_cast [hb6, hb11, hb14, hb19, hx201, hx202, hx203, hx204, hx221, hx222, hx223, hx224, hb38, hb39, hb40]
                              repeat (refine And.intro (by omega) ?_)
                              refine hK _ ?_
                              clear hK K
                              have hv := Option.some.inj h
                              rw [← hv] at hk37
                              refine Exists.intro ((s_34, ((r8.2.1.toNat : Int) != (a3.toNat : Int)))) (And.intro hk37 ?_)
                              refine Sub.trans (Sub.lo _) ?_
                              refine Sub.of ?_ ?_ ⟨rfl, rfl, Nat.le_of_ble_eq_true rfl⟩ rfl
                              · push_cast [hb6, hb11, hb14, hb19, hb38, hb39, hb40]
                              · push_cast [hb6, hb11, hb14, hb19, hb38, hb39, hb40]
                          · replace h := cond_no hb39 h
                            refine VC.lastF tabOkF [some 137, some 138, some 139, some 140, some 141, some 142, some 143, some 144, some 145, some 146, some 147, some 148, some 149, some 150, some 151, some 152, some 153] rfl rfl (fun K hK => ?_)
                            refine runOps_cut 8 (fun K2 hK2 => ?_)
                            push_cast [hb6, hb11, hb14, hb19, hx201, hx202, hx203, hx204, hx221, hx222, hx223, hx224, hb38, hb39]
                            repeat (refine And.intro (by omega) ?_)
                            refine hK2 _ _ ?_
                            clear hK2 K2
                            simp only [List.drop_succ_cons, List.drop_zero]
                            push_cast [hb6, hb11, hb14, hb19, hx201, hx202, hx203, hx204, hx221, hx222, hx223, hx224, hb38, hb39]
                            repeat (refine And.intro (by omega) ?_)
                            refine hK _ ?_
                            clear hK K
                            have hv := Option.some.inj h
                            rw [← hv] at hk37
                            refine Exists.intro ((s_34, true)) (And.intro hk37 ?_)
                            refine Sub.trans (Sub.lo _) ?_
                            refine Sub.of ?_ ?_ ⟨rfl, rfl, Nat.le_of_ble_eq_true rfl⟩ rfl
                            · push_cast [hb6, hb11, hb14, hb19, hb38, hb39]
                            · push_cast [hb6, hb11, hb14, hb19, hb38, hb39]
                      · rintro ⟨s_36, i_37⟩ h
                        replace h : p_drydocklaw19_DeltaHelps_J37 s_36 i_37 = some v15 := h
                        try push_cast
                        unfold p_drydocklaw19_DeltaHelps_J37 at h
                        refine VC.cond rfl rfl (fun hc41 => ?_) (fun hc41 => ?_)
                        · have hb41 : i_37 = true := by simpa using hc41
                          replace h := cond_yes hb41 h
                          refine VC.seqF tabOkF [some 8] [8] rfl rfl (fun K hK => ?_)
                          push_cast [hb6, hb11, hb14, hb19, hx201, hx202, hx203, hx204, hx221, hx222, hx223, hx224, hb41]
                          repeat (refine And.intro (by omega) ?_)
                          refine hK _ ?_
                          clear hK K
                          refine VC.ret ?_
                          have hv := Option.some.inj h
                          rw [← hv] at hk15
                          replace h : some (Sum.inr (Sum.inr false)) = some b13 := hk15
                          replace h := congrArg some (hf13 _ (Option.some.inj h).symm)
                          have hv := Option.some.inj h
                          rw [← hv] at hk12
                          replace h : some false = some r := hk12
                          have hr := Option.some.inj h
                          subst hr
                          refine endP (Sub.lo _) (Post.ret ?_ ?_ ?_)
                          · push_cast [hb6, hb11, hb14, hb19, hb41]
                          · push_cast [hb6, hb11, hb14, hb19, hb41]
                          · rfl
                        · have hb41 : i_37 = false := by simpa using hc41
                          replace h := cond_no hb41 h
                          refine VC.skip ?_
                          have hv := Option.some.inj h
                          rw [← hv] at hk15
                          refine Exists.intro (s_36) (And.intro hk15 ?_)
                          refine Sub.trans (Sub.lo _) ?_
                          refine Sub.of ?_ ?_ ⟨rfl, rfl, Nat.le_of_ble_eq_true rfl⟩ rfl
                          · push_cast [hb6, hb11, hb14, hb19, hb41]
                          · push_cast [hb6, hb11, hb14, hb19, hb41]
              · rintro s_23 h
                replace h : p_drydocklaw19_DeltaHelps_J15 i_16 s_23 = some b13 := h
                try push_cast
                unfold p_drydocklaw19_DeltaHelps_J15 at h
                refine VC.lastF tabOkF [some 66, some 67, some 16] rfl rfl (fun K hK => ?_)
                push_cast [hb6, hb11, hb14]
                repeat (refine And.intro (by omega) ?_)
                refine hK _ ?_
                clear hK K
                refine Exists.intro ((s_23, (IntKind.i64.wrap (i_16 + 1)))) (And.intro (Option.some.inj h).symm ?_)
                refine Sub.trans (Sub.lo _) ?_
                refine Sub.of ?_ ?_ ⟨rfl, rfl, Nat.le_of_ble_eq_true rfl⟩ rfl
                · push_cast [hb6, hb11, hb14]
                · push_cast [hb6, hb11, hb14]
            · have hb14 : (decide (i_16 < (a1.T.length : Int))) = false := by simpa using hc14
              replace h := cond_no hb14 h
              refine VC.exit ?_
              replace h := congrArg some (hf13 _ (Option.some.inj h).symm)
              have hv := Option.some.inj h
              rw [← hv] at hk12
              refine Exists.intro (()) (And.intro hk12 ?_)
              refine Sub.trans (Sub.lo _) ?_
              refine Sub.of ?_ ?_ ⟨rfl, rfl, Nat.le_of_ble_eq_true rfl⟩ rfl
              · push_cast [hb6, hb11, hb14]
              · push_cast [hb6, hb11, hb14]
          · rintro ⟨⟩ h
            replace h : p_drydocklaw19_DeltaHelps_J12 = some r := h
            try push_cast
            unfold p_drydocklaw19_DeltaHelps_J12 at h
            refine VC.seqF tabOkF [some 8] [8] rfl rfl (fun K hK => ?_)
            push_cast [hb6, hb11]
            repeat (refine And.intro (by omega) ?_)
            refine hK _ ?_
            clear hK K
            refine VC.ret ?_
            have hr := Option.some.inj h
            subst hr
            refine endP (Sub.lo _) (Post.ret ?_ ?_ ?_)
            · push_cast [hb6, hb11]
            · push_cast [hb6, hb11]
            · rfl
end Go.Proofs.Ytpmnchgpbojppaa

