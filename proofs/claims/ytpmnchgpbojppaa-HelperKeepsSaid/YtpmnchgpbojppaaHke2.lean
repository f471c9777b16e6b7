/- Packed texts: Zdrydocklaw06HelperKeeps. -/
import Derived.Test.YtpmnchgpbojppaaHke1
/- The plain function of drydock/drydocklaw06.HelperKeeps. -/
set_option linter.unusedVariables false
set_option linter.unusedSimpArgs false
namespace Go.Proofs.Ytpmnchgpbojppaa
open Go Go.RowKit Go.Proofs.Try
noncomputable def p_drydocklaw06_HelperKeeps_J24 (i_9 : Int) (s_22 : T_Env) (i_23 : Bool) : Option ((T_Env × Int) ⊕ ((Unit) ⊕ (Bool))) :=
  cond i_23 (
  some (Sum.inr (Sum.inr false))) (
  some (Sum.inl (s_22, (IntKind.i64.wrap (i_9 + 1)))))
noncomputable def p_drydocklaw06_HelperKeeps_J20 (i_9 : Int) (x18 : T_Table) (r19 : Bool) (s_20 : T_Env) (i_21 : Bool) : Option ((T_Env × Int) ⊕ ((Unit) ⊕ (Bool))) :=
  po (
  cond r19 (
  po (p_table_May x18) fun r26 =>
  cond r26 (
  po (idx s_20.T i_9) fun x28 =>
  po (p_table_May x28) fun r29 =>
  cond r29 (
  some (s_20, (!((x28.S.Kind == x18.S.Kind) && ((x28.S.Cap == x18.S.Cap) && ((x28.S.Words == x18.S.Words) && (x28.S.Ver == x18.S.Ver))))))) (
  some (s_20, true))) (
  po (idx s_20.T i_9) fun x31 =>
  some (s_20, (!((x31.S.Kind == x18.S.Kind) && ((x31.S.Cap == x18.S.Cap) && ((x31.S.Words == x18.S.Words) && (x31.S.Ver == x18.S.Ver)))))))) (
  cond i_21 (
  po (p_table_May x18) fun r33 =>
  cond r33 (
  po (idx s_20.T i_9) fun x35 =>
  po (p_table_May x35) fun r36 =>
  cond r36 (
  some (s_20, (!((x35.S.Kind == x18.S.Kind) && ((x35.S.Cap == x18.S.Cap) && ((x35.S.Words == x18.S.Words) && (x35.S.Ver == x18.S.Ver))))))) (
  some (s_20, true))) (
  po (idx s_20.T i_9) fun x38 =>
  some (s_20, (!((x38.S.Kind == x18.S.Kind) && ((x38.S.Cap == x18.S.Cap) && ((x38.S.Words == x18.S.Words) && (x38.S.Ver == x18.S.Ver)))))))) (
  some (s_20, true)))) (fun x => p_drydocklaw06_HelperKeeps_J24 i_9 x.1 x.2)
noncomputable def p_drydocklaw06_HelperKeeps_L15 (a1 : T_Env) (a2 : (List UInt32)) (r7 : T_Env × UInt32 × Int) (s_8 : T_Env) (i_9 : Int) : Option ((T_Env × Int) ⊕ ((Unit) ⊕ (Bool))) :=
  cond (decide (i_9 < (a1.T.length : Int))) (
  po (idx s_8.T i_9) fun x17 =>
  po (idx a1.T i_9) fun x18 =>
  po (p_drydockref05_Same x17 x18) fun r19 =>
  po (
  cond (decide ((a2.length : Int) > 0)) (
  po (a2[0]?) fun x22 =>
  cond ((x22.toNat : Int) == i_9) (
  some (s_8, (r7.2.2 == 0))) (
  some (s_8, false))) (
  some (s_8, false))) (fun x => p_drydocklaw06_HelperKeeps_J20 i_9 x18 r19 x.1 x.2)) (
  some (Sum.inr (Sum.inl ())))
noncomputable def p_drydocklaw06_HelperKeeps_J40 (i_24 : Bool) : Option (Bool) :=
  some i_24
noncomputable def p_drydocklaw06_HelperKeeps_J14 (r7 : T_Env × UInt32 × Int) : Option (Bool) :=
  po (
  cond (r7.2.2 == 0) (
  some true) (
  some (r7.2.2 == 10))) (fun x => p_drydocklaw06_HelperKeeps_J40 x)
noncomputable def p_drydocklaw06_HelperKeeps_J9 (a1 : T_Env) (a2 : (List UInt32)) (r7 : T_Env × UInt32 × Int) (s_2 : T_Env) (i_3 : Bool) : Option (Bool) :=
  cond i_3 (
  some false) (
  pm (
  lpU (fun x => p_drydocklaw06_HelperKeeps_L15 a1 a2 r7 x.1 x.2) (s_2, 0)) (fun x => p_drydocklaw06_HelperKeeps_J14 r7))
noncomputable def p_drydocklaw06_HelperKeeps_J3 (a0 : Int) (a1 : T_Env) (a2 : (List UInt32)) (r1 : Bool) (i_1 : Bool) : Option (Bool) :=
  cond i_1 (
  some r1) (
  po (p_helper_Call a0 a1 a2) fun r7 =>
  cond (r7.2.2 == 1) (
  some ((r7.1.T.length : Int) == 0)) (
  po (
  cond ((r7.1.T.length : Int) != (a1.T.length : Int)) (
  some (r7.1, true)) (
  cond (((r7.1.Ctx.a0.toNat : Int) == (a1.Ctx.a0.toNat : Int)) && (((r7.1.Ctx.a1.toNat : Int) == (a1.Ctx.a1.toNat : Int)) && (((r7.1.Ctx.a2.toNat : Int) == (a1.Ctx.a2.toNat : Int)) && ((r7.1.Ctx.a3.toNat : Int) == (a1.Ctx.a3.toNat : Int))))) (
  cond (a0 != 4) (
  some (r7.1, ((r7.1.Seed.toNat : Int) != (a1.Seed.toNat : Int)))) (
  some (r7.1, false))) (
  some (r7.1, true)))) (fun x => p_drydocklaw06_HelperKeeps_J9 a1 a2 r7 x.1 x.2)))
noncomputable def p_drydocklaw06_HelperKeeps (a0 : Int) (a1 : T_Env) (a2 : (List UInt32)) : Option (Bool) :=
  po (p_drydocklaw06_awake) fun r1 =>
  po (p_drydockref05_Few a1.T) fun r2 =>
  po (
  cond r1 (
  cond r2 (
  some (decide ((a2.length : Int) > 8))) (
  some true)) (
  some true)) (fun x => p_drydocklaw06_HelperKeeps_J3 a0 a1 a2 r1 x)
set_option maxHeartbeats 4000000 in
set_option maxRecDepth 100000 in
theorem c_drydocklaw06_HelperKeeps (a0 : Int) (a1 : T_Env) (a2 : (List UInt32)) {r : Bool} (h : p_drydocklaw06_HelperKeeps a0 a1 a2 = some r) : Ctr prog 13 [.raw (.int .i64 a0), .agg (enc_Env a1), .sl false (a2.map encU32)] [] (.raw (.bool r)) [] := by
  unfold p_drydocklaw06_HelperKeeps at h
  refine Ctr.ofW tabOk func13 rfl call13 0 _ ntmps13 [.tmp 6] rfl rfl rfl (fun B => ?_)
  refine VC.seqF tabOkF [some 4, some 6] [0, 2, 4] rfl rfl (fun K hK => ?_)
  push_cast
  repeat (refine And.intro (by omega) ?_)
  refine hK _ ?_
  clear hK K
  obtain ⟨r1, hr1, h⟩ := po_some h
  refine VC.seqF tabOkF [some 15, some 7] [0, 2, 4, 7] rfl rfl (fun K hK => ?_)
  push_cast
  repeat (refine And.intro (by omega) ?_)
  refine callP (Ctr.lo (c_drydocklaw06_awake  hr1)) rfl ?_
  push_cast
  repeat (refine And.intro (by omega) ?_)
  refine hK _ ?_
  clear hK K
  obtain ⟨r2, hr2, h⟩ := po_some h
  refine VC.seqF tabOkF [some 16, some 17, some 18, some 8] [0, 2, 4, 7, 8] rfl rfl (fun K hK => ?_)
  push_cast
  repeat (refine And.intro (by omega) ?_)
  refine callP (Ctr.lo (c_drydockref05_Few a1.T hr2)) rfl ?_
  push_cast
  repeat (refine And.intro (by omega) ?_)
  refine hK _ ?_
  clear hK K
  refine VC.seq ?_
  obtain ⟨v3, h, hk3⟩ := po_some h
  refine VC.seqJ (X := Bool) (fun x => p_drydocklaw06_HelperKeeps_J3 a0 a1 a2 r1 x = some r) (fun x => ⟨[(0, .raw (.int .i64 a0)), (2, .sl false (a2.map encU32)), (4, .ref 0 0), (7, .raw (.bool r1)), (29, .raw (.bool x))], [(0, .box 55 [.raw (.int .u32 (a1.Ctx.a0.toNat : Int)), .raw (.int .u32 (a1.Ctx.a1.toNat : Int)), .raw (.int .u32 (a1.Ctx.a2.toNat : Int)), .raw (.int .u32 (a1.Ctx.a3.toNat : Int)), .sl false (a1.T.map enc_Table), .raw (.int .u32 (a1.Seed.toNat : Int))])], 19, 147, 0⟩) ?_ ?_
  · rcases Bool.eq_false_or_eq_true r1 with hb4 | hb4
    · replace h := cond_yes hb4 h
      rcases Bool.eq_false_or_eq_true r2 with hb5 | hb5
      · replace h := cond_yes hb5 h
        refine VC.lastF tabOkF [some 19, some 20, some 21, some 22, some 23, some 24, some 25, some 26, some 27, some 28, some 29] rfl rfl (fun K hK => ?_)
        refine runOps_cut 8 (fun K2 hK2 => ?_)
        push_cast [hb4, hb5]
        repeat (refine And.intro (by omega) ?_)
        refine hK2 _ _ ?_
        clear hK2 K2
        simp only [List.drop_succ_cons, List.drop_zero]
        push_cast [hb4, hb5]
        repeat (refine And.intro (by omega) ?_)
        refine hK _ ?_
        clear hK K
        have hv := Option.some.inj h
        rw [← hv] at hk3
        refine Exists.intro ((decide ((a2.length : Int) > 8))) (And.intro hk3 ?_)
        refine Sub.trans (Sub.lo _) ?_
        refine Sub.of ?_ ?_ ⟨rfl, rfl, Nat.le_of_ble_eq_true rfl⟩ rfl
        · push_cast [hb4, hb5]
        · push_cast [hb4, hb5]
      · replace h := cond_no hb5 h
        refine VC.lastF tabOkF [some 19, some 20, some 21, some 22, some 23, some 24, some 25, some 26, some 27, some 28, some 29] rfl rfl (fun K hK => ?_)
        refine runOps_cut 8 (fun K2 hK2 => ?_)
        push_cast [hb4, hb5]
        repeat (refine And.intro (by omega) ?_)
        refine hK2 _ _ ?_
        clear hK2 K2
        simp only [List.drop_succ_cons, List.drop_zero]
        push_cast [hb4, hb5]
        repeat (refine And.intro (by omega) ?_)
        refine hK _ ?_
        clear hK K
        have hv := Option.some.inj h
        rw [← hv] at hk3
        refine Exists.intro (true) (And.intro hk3 ?_)
        refine Sub.trans (Sub.lo _) ?_
        refine Sub.of ?_ ?_ ⟨rfl, rfl, Nat.le_of_ble_eq_true rfl⟩ rfl
        · push_cast [hb4, hb5]
        · push_cast [hb4, hb5]
    · replace h := cond_no hb4 h
      refine VC.lastF tabOkF [some 19, some 20, some 21, some 22, some 23, some 24, some 25, some 26, some 27, some 28, some 29] rfl rfl (fun K hK => ?_)
      refine runOps_cut 8 (fun K2 hK2 => ?_)
      push_cast [hb4]
      repeat (refine And.intro (by omega) ?_)
      refine hK2 _ _ ?_
      clear hK2 K2
      simp only [List.drop_succ_cons, List.drop_zero]
      push_cast [hb4]
      repeat (refine And.intro (by omega) ?_)
      refine hK _ ?_
      clear hK K
      have hv := Option.some.inj h
      rw [← hv] at hk3
      refine Exists.intro (true) (And.intro hk3 ?_)
      refine Sub.trans (Sub.lo _) ?_
      refine Sub.of ?_ ?_ ⟨rfl, rfl, Nat.le_of_ble_eq_true rfl⟩ rfl
      · push_cast [hb4]
      · push_cast [hb4]
  · rintro i_1 h
    replace h : p_drydocklaw06_HelperKeeps_J3 a0 a1 a2 r1 i_1 = some r := h
    try push_cast
    unfold p_drydocklaw06_HelperKeeps_J3 at h
    refine VC.cond rfl rfl (fun hc6 => ?_) (fun hc6 => ?_)
    · have hb6 : i_1 = true := by simpa using hc6
      replace h := cond_yes hb6 h
      refine VC.seqF tabOkF [some 30, some 6] [6] rfl rfl (fun K hK => ?_)
      push_cast [hb6]
      repeat (refine And.intro (by omega) ?_)
      refine hK _ ?_
      clear hK K
      refine VC.ret ?_
      have hr := Option.some.inj h
      subst hr
      refine endP (Sub.lo _) (Post.ret ?_ ?_ ?_)
      · push_cast [hb6]
      · push_cast [hb6]
      · rfl
    · have hb6 : i_1 = false := by simpa using hc6
      replace h := cond_no hb6 h
      refine VC.skip ?_
      obtain ⟨r7, hr7, h⟩ := po_some h
      refine VC.seqF tabOkF [some 32, some 33, some 34, some 35, some 31, some 36, some 37, some 38, some 9, none, some 10, some 11] [0, 2, 4, 9, 11] rfl rfl (fun K hK => ?_)
      refine runOps_cut 8 (fun K2 hK2 => ?_)
      push_cast [hb6]
      repeat (refine And.intro (by omega) ?_)
      refine callH (H := []) (Ctr.loH (Ctr.ren (Bij.swp 0 22 Bij.id) (c_helper_Call a0 a1 a2 hr7) (by push_cast [hb6]) (by push_cast [hb6]))) (by push_cast [hb6]) rfl rfl rfl ?_
      push_cast [hb6]
      repeat (refine And.intro (by omega) ?_)
      refine hK2 _ _ ?_
      clear hK2 K2
      simp only [List.drop_succ_cons, List.drop_zero]
      push_cast [hb6]
      repeat (refine And.intro (by omega) ?_)
      refine hK _ ?_
      clear hK K
      refine VC.sub (s' := ⟨[(0, .raw (.int .i64 a0)), (2, .sl false (a2.map encU32)), (4, .ref 0 0), (9, .ref 27 0), (11, .raw (.int .i64 r7.2.2))], [(0, .box 55 [.raw (.int .u32 (a1.Ctx.a0.toNat : Int)), .raw (.int .u32 (a1.Ctx.a1.toNat : Int)), .raw (.int .u32 (a1.Ctx.a2.toNat : Int)), .raw (.int .u32 (a1.Ctx.a3.toNat : Int)), .sl false (a1.T.map enc_Table), .raw (.int .u32 (a1.Seed.toNat : Int))]), (22, .row 27 6 0 (r7.1.T.map enc_Table)), (27, .box 55 [.raw (.int .u32 (r7.1.Ctx.a0.toNat : Int)), .raw (.int .u32 (r7.1.Ctx.a1.toNat : Int)), .raw (.int .u32 (r7.1.Ctx.a2.toNat : Int)), .raw (.int .u32 (r7.1.Ctx.a3.toNat : Int)), .row 22 0 6 0 r7.1.T.length, .raw (.int .u32 (r7.1.Seed.toNat : Int))])], 31, 147, 0⟩) (Sub.of ?_ ?_ ⟨rfl, rfl, Nat.le_of_ble_eq_true rfl⟩ rfl) ?_
      · push_cast [hb6]
      · push_cast [hb6]
      refine VC.seq ?_
      refine VC.seqF tabOkF [some 39, some 40] [0, 2, 4, 9, 11, 40] rfl rfl (fun K hK => ?_)
      push_cast [hb6]
      repeat (refine And.intro (by omega) ?_)
      refine hK _ ?_
      clear hK K
      refine VC.cond rfl rfl (fun hc8 => ?_) (fun hc8 => ?_)
      · have hb8 : (r7.2.2 == 1) = true := by simpa using hc8
        replace h := cond_yes hb8 h
        refine VC.seqF tabOkF [some 41, some 42, some 43, some 44, some 6] [6] rfl rfl (fun K hK => ?_)
        push_cast [hb6, hb8]
        repeat (refine And.intro (by omega) ?_)
        refine hK _ ?_
        clear hK K
        refine VC.ret ?_
        have hr := Option.some.inj h
        subst hr
        refine endP (Sub.lo _) (Post.ret ?_ ?_ ?_)
        · push_cast [hb6, hb8]
        · push_cast [hb6, hb8]
        · rfl
      · have hb8 : (r7.2.2 == 1) = false := by simpa using hc8
        replace h := cond_no hb8 h
        refine VC.skip ?_
        refine VC.seq ?_
        obtain ⟨v9, h, hk9⟩ := po_some h
        refine VC.seqJ (X := T_Env × Bool) (fun x => p_drydocklaw06_HelperKeeps_J9 a1 a2 r7 x.1 x.2 = some r) (fun x => ⟨[(2, .sl false (a2.map encU32)), (4, .ref 0 0), (9, .ref 27 0), (11, .raw (.int .i64 r7.2.2)), (69, .raw (.bool x.2))], [(0, .box 55 [.raw (.int .u32 (a1.Ctx.a0.toNat : Int)), .raw (.int .u32 (a1.Ctx.a1.toNat : Int)), .raw (.int .u32 (a1.Ctx.a2.toNat : Int)), .raw (.int .u32 (a1.Ctx.a3.toNat : Int)), .sl false (a1.T.map enc_Table), .raw (.int .u32 (a1.Seed.toNat : Int))]), (22, .row 27 6 0 (x.1.T.map enc_Table)), (27, .box 55 [.raw (.int .u32 (x.1.Ctx.a0.toNat : Int)), .raw (.int .u32 (x.1.Ctx.a1.toNat : Int)), .raw (.int .u32 (x.1.Ctx.a2.toNat : Int)), .raw (.int .u32 (x.1.Ctx.a3.toNat : Int)), .row 22 0 6 0 x.1.T.length, .raw (.int .u32 (x.1.Seed.toNat : Int))])], 58, 147, 0⟩) ?_ ?_
        · rcases Bool.eq_false_or_eq_true ((r7.1.T.length : Int) != (a1.T.length : Int)) with hb10 | hb10
          · replace h := cond_yes hb10 h
            refine VC.lastF tabOkF [some 45, some 46, some 47, some 48, some 49, some 50, some 51, some 52, some 53, some 54, some 55, some 56, some 57, some 58, some 59, some 60, some 61, some 62, some 63, some 64, some 65, some 66, some 67, some 68, some 69] rfl rfl (fun K hK => ?_)
            refine runOps_cut 8 (fun K2 hK2 => ?_)
            push_cast [hb6, hb8, hb10]
            repeat (refine And.intro (by omega) ?_)
            refine hK2 _ _ ?_
            clear hK2 K2
            simp only [List.drop_succ_cons, List.drop_zero]
            refine runOps_cut 8 (fun K2 hK2 => ?_)
            push_cast [hb6, hb8, hb10]
            repeat (refine And.intro (by omega) ?_)
            refine hK2 _ _ ?_
            clear hK2 K2
            simp only [List.drop_succ_cons, List.drop_zero]
            push_cast [hb6, hb8, hb10]
            repeat (refine And.intro (by omega) ?_)
            refine hK _ ?_
            clear hK K
            have hv := Option.some.inj h
            rw [← hv] at hk9
            refine Exists.intro ((r7.1, true)) (And.intro hk9 ?_)
            refine Sub.trans (Sub.lo _) ?_
            refine Sub.of ?_ ?_ ⟨rfl, rfl, Nat.le_of_ble_eq_true rfl⟩ rfl
            · push_cast [hb6, hb8, hb10]
            · push_cast [hb6, hb8, hb10]
          · replace h := cond_no hb10 h
            rcases Bool.eq_false_or_eq_true (((r7.1.Ctx.a0.toNat : Int) == (a1.Ctx.a0.toNat : Int)) && (((r7.1.Ctx.a1.toNat : Int) == (a1.Ctx.a1.toNat : Int)) && (((r7.1.Ctx.a2.toNat : Int) == (a1.Ctx.a2.toNat : Int)) && ((r7.1.Ctx.a3.toNat : Int) == (a1.Ctx.a3.toNat : Int))))) with hb11 | hb11
            · replace h := cond_yes hb11 h
              rcases Bool.eq_false_or_eq_true (a0 != 4) with hb12 | hb12
              · replace h := cond_yes hb12 h
                refine VC.lastF tabOkF [some 45, some 46, some 47, some 48, some 49, some 50, some 51, some 52, some 53, some 54, some 55, some 56, some 57, some 58, some 59, some 60, some 61, some 62, some 63, some 64, some 65, some 66, some 67, some 68, some 69] rfl rfl (fun K hK => ?_)
                refine runOps_cut 8 (fun K2 hK2 => ?_)
                push_cast [hb6, hb8, hb10, hb11, hb12]
                repeat (refine And.intro (by omega) ?_)
                refine hK2 _ _ ?_
                clear hK2 K2
                simp only [List.drop_succ_cons, List.drop_zero]
                refine runOps_cut 8 (fun K2 hK2 => ?_)
                push_cast [hb6, hb8, hb10, hb11, hb12]
                repeat (refine And.intro (by omega) ?_)
                refine hK2 _ _ ?_
                clear hK2 K2
                simp only [List.drop_succ_cons, List.drop_zero]
                push_cast [hb6, hb8, hb10, hb11, hb12]
                repeat (refine And.intro (by omega) ?_)
                refine hK _ ?_
                clear hK K
                have hv := Option.some.inj h
                rw [← hv] at hk9
                refine Exists.intro ((r7.1, ((r7.1.Seed.toNat : Int) != (a1.Seed.toNat : Int)))) (And.intro hk9 ?_)
                refine Sub.trans (Sub.lo _) ?_
                refine Sub.of ?_ ?_ ⟨rfl, rfl, Nat.le_of_ble_eq_true rfl⟩ rfl
                · push_cast [hb6, hb8, hb10, hb11, hb12]
                · push_cast [hb6, hb8, hb10, hb11, hb12]
              · replace h := cond_no hb12 h
                refine VC.lastF tabOkF [some 45, some 46, some 47, some 48, some 49, some 50, some 51, some 52, some 53, some 54, some 55, some 56, some 57, some 58, some 59, some 60, some 61, some 62, some 63, some 64, some 65, some 66, some 67, some 68, some 69] rfl rfl (fun K hK => ?_)
                refine runOps_cut 8 (fun K2 hK2 => ?_)
                push_cast [hb6, hb8, hb10, hb11, hb12]
                repeat (refine And.intro (by omega) ?_)
                refine hK2 _ _ ?_
                clear hK2 K2
                simp only [List.drop_succ_cons, List.drop_zero]
                refine runOps_cut 8 (fun K2 hK2 => ?_)
                push_cast [hb6, hb8, hb10, hb11, hb12]
                repeat (refine And.intro (by omega) ?_)
                refine hK2 _ _ ?_
                clear hK2 K2
                simp only [List.drop_succ_cons, List.drop_zero]
                push_cast [hb6, hb8, hb10, hb11, hb12]
                repeat (refine And.intro (by omega) ?_)
                refine hK _ ?_
                clear hK K
                have hv := Option.some.inj h
                rw [← hv] at hk9
                refine Exists.intro ((r7.1, false)) (And.intro hk9 ?_)
                refine Sub.trans (Sub.lo _) ?_
                refine Sub.of ?_ ?_ ⟨rfl, rfl, Nat.le_of_ble_eq_true rfl⟩ rfl
                · push_cast [hb6, hb8, hb10, hb11, hb12]
                · push_cast [hb6, hb8, hb10, hb11, hb12]
            · replace h := cond_no hb11 h
              refine VC.lastF tabOkF [some 45, some 46, some 47, some 48, some 49, some 50, some 51, some 52, some 53, some 54, some 55, some 56, some 57, some 58, some 59, some 60, some 61, some 62, some 63, some 64, some 65, some 66, some 67, some 68, some 69] rfl rfl (fun K hK => ?_)
              refine runOps_cut 8 (fun K2 hK2 => ?_)
              push_cast [hb6, hb8, hb10, hb11]
              repeat (refine And.intro (by omega) ?_)
              refine hK2 _ _ ?_
              clear hK2 K2
              simp only [List.drop_succ_cons, List.drop_zero]
              refine runOps_cut 8 (fun K2 hK2 => ?_)
              push_cast [hb6, hb8, hb10, hb11]
              repeat (refine And.intro (by omega) ?_)
              refine hK2 _ _ ?_
              clear hK2 K2
              simp only [List.drop_succ_cons, List.drop_zero]
              push_cast [hb6, hb8, hb10, hb11]
              repeat (refine And.intro (by omega) ?_)
              refine hK _ ?_
              clear hK K
              have hv := Option.some.inj h
              rw [← hv] at hk9
              refine Exists.intro ((r7.1, true)) (And.intro hk9 ?_)
              refine Sub.trans (Sub.lo _) ?_
              refine Sub.of ?_ ?_ ⟨rfl, rfl, Nat.le_of_ble_eq_true rfl⟩ rfl
              · push_cast [hb6, hb8, hb10, hb11]
              · push_cast [hb6, hb8, hb10, hb11]
        · rintro ⟨s_2, i_3⟩ h
          replace h : p_drydocklaw06_HelperKeeps_J9 a1 a2 r7 s_2 i_3 = some r := h
          try push_cast
          unfold p_drydocklaw06_HelperKeeps_J9 at h
          refine VC.cond rfl rfl (fun hc13 => ?_) (fun hc13 => ?_)
          · have hb13 : i_3 = true := by simpa using hc13
            replace h := cond_yes hb13 h
            refine VC.seqF tabOkF [some 6] [6] rfl rfl (fun K hK => ?_)
            push_cast [hb6, hb8, hb13]
            repeat (refine And.intro (by omega) ?_)
            refine hK _ ?_
            clear hK K
            refine VC.ret ?_
            have hr := Option.some.inj h
            subst hr
            refine endP (Sub.lo _) (Post.ret ?_ ?_ ?_)
            · push_cast [hb6, hb8, hb13]
            · push_cast [hb6, hb8, hb13]
            · rfl
          · have hb13 : i_3 = false := by simpa using hc13
            replace h := cond_no hb13 h
            refine VC.skip ?_
            obtain ⟨v14, h, hk14⟩ := pm_some h
            refine VC.seqJ (X := Unit) (fun x => p_drydocklaw06_HelperKeeps_J14 r7 = some r) (fun x => ⟨[(11, .raw (.int .i64 r7.2.2))], [], 138, 147, 0⟩) ?_ ?_
            · refine VC.seqF tabOkF [some 12] [2, 4, 9, 11, 12] rfl rfl (fun K hK => ?_)
              push_cast [hb6, hb8, hb13]
              repeat (refine And.intro (by omega) ?_)
              refine hK _ ?_
              clear hK K
              refine VC.block ?_
              refine VC.loopP h (fun x => ⟨[(2, .sl false (a2.map encU32)), (4, .ref 0 0), (9, .ref 27 0), (11, .raw (.int .i64 r7.2.2)), (12, .raw (.int .i64 x.2))], [(0, .box 55 [.raw (.int .u32 (a1.Ctx.a0.toNat : Int)), .raw (.int .u32 (a1.Ctx.a1.toNat : Int)), .raw (.int .u32 (a1.Ctx.a2.toNat : Int)), .raw (.int .u32 (a1.Ctx.a3.toNat : Int)), .sl false (a1.T.map enc_Table), .raw (.int .u32 (a1.Seed.toNat : Int))]), (22, .row 27 6 0 (x.1.T.map enc_Table)), (27, .box 55 [.raw (.int .u32 (x.1.Ctx.a0.toNat : Int)), .raw (.int .u32 (x.1.Ctx.a1.toNat : Int)), .raw (.int .u32 (x.1.Ctx.a2.toNat : Int)), .raw (.int .u32 (x.1.Ctx.a3.toNat : Int)), .row 22 0 6 0 x.1.T.length, .raw (.int .u32 (x.1.Seed.toNat : Int))])], 133, 147, 0⟩) ?_ ?_
              · refine Sub.trans (Sub.lo _) ?_
                refine Sub.of ?_ ?_ ⟨rfl, rfl, Nat.le_of_ble_eq_true rfl⟩ rfl
                · push_cast [hb6, hb8, hb13]
                · push_cast [hb6, hb8, hb13]
              rintro ⟨s_8, i_9⟩ b15 h hf15
              replace h : p_drydocklaw06_HelperKeeps_L15 a1 a2 r7 s_8 i_9 = some b15 := h
              try push_cast
              unfold p_drydocklaw06_HelperKeeps_L15 at h
              refine VC.seq ?_
              refine VC.seqF tabOkF [some 70, some 71, some 72, some 73, some 74] [2, 4, 9, 11, 12, 74] rfl rfl (fun K hK => ?_)
              push_cast [hb6, hb8, hb13]
              repeat (refine And.intro (by omega) ?_)
              refine hK _ ?_
              clear hK K
              refine VC.cond rfl rfl (fun hc16 => ?_) (fun hc16 => ?_)
              · have hb16 : (decide (i_9 < (a1.T.length : Int))) = true := by simpa using hc16
                replace h := cond_yes hb16 h
                refine VC.skip ?_
                refine VC.seq ?_
                refine VC.block ?_
                obtain ⟨x17, hx17, h⟩ := po_some h
                obtain ⟨hx171, hx172, hx173, hx174⟩ := idx_some4 hx17
                obtain ⟨x18, hx18, h⟩ := po_some h
                obtain ⟨hx181, hx182, hx183, hx184⟩ := idx_some4 hx18
                obtain ⟨r19, hr19, h⟩ := po_some h
                refine VC.seqFD tabOkF hmixO [some 77, some 78, some 79, some 80, some 81, some 82, some 83, some 84, some 85, some 86, some 87, some 13] [2, 4, 9, 11, 12, 13] rfl rfl rfl (fun K hK => ?_)
                refine runD_cut 8 (fun K2 hK2 => ?_)
                push_cast [hb6, hb8, hb13, hb16, hx171, hx172, hx173, hx174, hx181, hx182, hx183, hx184]
                repeat (refine And.intro (by omega) ?_)
                refine hK2 _ _ _ ?_
                clear hK2 K2
                simp only [List.drop_succ_cons, List.drop_zero]
                push_cast [hb6, hb8, hb13, hb16, hx171, hx172, hx173, hx174, hx181, hx182, hx183, hx184]
                repeat (refine And.intro (by omega) ?_)
                refine callPD (Ctr.lo (c_drydockref05_Same x17 x18 hr19)) rfl ?_
                push_cast [hb6, hb8, hb13, hb16, hx171, hx172, hx173, hx174, hx181, hx182, hx183, hx184]
                repeat (refine And.intro (by omega) ?_)
                refine ⟨rfl, hK _ ?_⟩
                clear hK K
                obtain ⟨v20, h, hk20⟩ := po_some h
                refine VC.seqJ (X := T_Env × Bool) (fun x => p_drydocklaw06_HelperKeeps_J20 i_9 x18 r19 x.1 x.2 = some b15) (fun x => ⟨[(2, .sl false (a2.map encU32)), (4, .ref 0 0), (9, .ref 27 0), (11, .raw (.int .i64 r7.2.2)), (12, .raw (.int .i64 i_9)), (13, .raw (.bool r19)), (14, .raw (.bool x.2))], [(0, .box 55 [.raw (.int .u32 (a1.Ctx.a0.toNat : Int)), .raw (.int .u32 (a1.Ctx.a1.toNat : Int)), .raw (.int .u32 (a1.Ctx.a2.toNat : Int)), .raw (.int .u32 (a1.Ctx.a3.toNat : Int)), .sl false (a1.T.map enc_Table), .raw (.int .u32 (a1.Seed.toNat : Int))]), (22, .row 27 6 0 (x.1.T.map enc_Table)), (27, .box 55 [.raw (.int .u32 (x.1.Ctx.a0.toNat : Int)), .raw (.int .u32 (x.1.Ctx.a1.toNat : Int)), .raw (.int .u32 (x.1.Ctx.a2.toNat : Int)), .raw (.int .u32 (x.1.Ctx.a3.toNat : Int)), .row 22 0 6 0 x.1.T.length, .raw (.int .u32 (x.1.Seed.toNat : Int))])], 166, 147, 0⟩) ?_ ?_
                · rcases Bool.eq_false_or_eq_true (decide ((a2.length : Int) > 0)) with hb21 | hb21
                  · replace h := cond_yes hb21 h
                    obtain ⟨x22, hx22, h⟩ := po_some h
                    have hx221 := get_ltI hx22
                    have hx222 := get_lt hx22
                    rcases Bool.eq_false_or_eq_true ((x22.toNat : Int) == i_9) with hb23 | hb23
                    · replace h := cond_yes hb23 h
                      refine VC.lastF tabOkF [some 88, some 89, some 90, some 91, some 92, some 93, some 94, some 95, some 96, some 97, some 98, some 99, some 100, some 101, some 102, some 14] rfl rfl (fun K hK => ?_)
                      refine runOps_cut 8 (fun K2 hK2 => ?_)
                      push_cast [hb6, hb8, hb13, hb16, hx171, hx172, hx173, hx174, hx181, hx182, hx183, hx184, hb21, hx22, hx221, hx222, hb23]
                      repeat (refine And.intro (by omega) ?_)
                      refine hK2 _ _ ?_
                      clear hK2 K2
                      simp only [List.drop_succ_cons, List.drop_zero]
                      push_cast [hb6, hb8, hb13, hb16, hx171, hx172, hx173, hx174, hx181, hx182, hx183, hx184, hb21, hx22, hx221, hx222, hb23]
                      repeat (refine And.intro (by omega) ?_)
                      refine hK _ ?_
                      clear hK K
                      have hv := Option.some.inj h
                      rw [← hv] at hk20
                      refine Exists.intro ((s_8, (r7.2.2 == 0))) (And.intro hk20 ?_)
                      refine Sub.trans (Sub.lo _) ?_
                      refine Sub.of ?_ ?_ ⟨rfl, rfl, Nat.le_of_ble_eq_true rfl⟩ rfl
                      · push_cast [hb6, hb8, hb13, hb16, hb21, hb23]
                      · push_cast [hb6, hb8, hb13, hb16, hb21, hb23]
                    · replace h := cond_no hb23 h
                      refine VC.lastF tabOkF [some 88, some 89, some 90, some 91, some 92, some 93, some 94, some 95, some 96, some 97, some 98, some 99, some 100, some 101, some 102, some 14] rfl rfl (fun K hK => ?_)
                      refine runOps_cut 8 (fun K2 hK2 => ?_)
                      push_cast [hb6, hb8, hb13, hb16, hx171, hx172, hx173, hx174, hx181, hx182, hx183, hx184, hb21, hx22, hx221, hx222, hb23]
                      repeat (refine And.intro (by omega) ?_)
                      refine hK2 _ _ ?_
                      clear hK2 K2
                      simp only [List.drop_succ_cons, List.drop_zero]
                      push_cast [hb6, hb8, hb13, hb16, hx171, hx172, hx173, hx174, hx181, hx182, hx183, hx184, hb21, hx22, hx221, hx222, hb23]
                      repeat (refine And.intro (by omega) ?_)
                      refine hK _ ?_
                      clear hK K
                      have hv := Option.some.inj h
                      rw [← hv] at hk20
                      refine Exists.intro ((s_8, false)) (And.intro hk20 ?_)
                      refine Sub.trans (Sub.lo _) ?_
                      refine Sub.of ?_ ?_ ⟨rfl, rfl, Nat.le_of_ble_eq_true rfl⟩ rfl
                      · push_cast [hb6, hb8, hb13, hb16, hb21, hb23]
                      · push_cast [hb6, hb8, hb13, hb16, hb21, hb23]
                  · replace h := cond_no hb21 h
                    refine VC.lastF tabOkF [some 88, some 89, some 90, some 91, some 92, some 93, some 94, some 95, some 96, some 97, some 98, some 99, some 100, some 101, some 102, some 14] rfl rfl (fun K hK => ?_)
                    refine runOps_cut 8 (fun K2 hK2 => ?_)
                    push_cast [hb6, hb8, hb13, hb16, hx171, hx172, hx173, hx174, hx181, hx182, hx183, hx184, hb21]
                    repeat (refine And.intro (by omega) ?_)
                    refine hK2 _ _ ?_
                    clear hK2 K2
                    simp only [List.drop_succ_cons, List.drop_zero]
                    push_cast [hb6, hb8, hb13, hb16, hx171, hx172, hx173, hx174, hx181, hx182, hx183, hx184, hb21]
                    repeat (refine And.intro (by omega) ?_)
                    refine hK _ ?_
                    clear hK K
                    have hv := Option.some.inj h
                    rw [← hv] at hk20
                    refine Exists.intro ((s_8, false)) (And.intro hk20 ?_)
                    refine Sub.trans (Sub.lo _) ?_
                    refine Sub.of ?_ ?_ ⟨rfl, rfl, Nat.le_of_ble_eq_true rfl⟩ rfl
                    · push_cast [hb6, hb8, hb13, hb16, hb21]
                    · push_cast [hb6, hb8, hb13, hb16, hb21]
                · rintro ⟨s_20, i_21⟩ h
                  replace h : p_drydocklaw06_HelperKeeps_J20 i_9 x18 r19 s_20 i_21 = some b15 := h
                  try push_cast
                  unfold p_drydocklaw06_HelperKeeps_J20 at h
                  obtain ⟨v24, h, hk24⟩ := po_some h
                  refine VC.seqJ (X := T_Env × Bool) (fun x => p_drydocklaw06_HelperKeeps_J24 i_9 x.1 x.2 = some b15) (fun x => ⟨[(2, .sl false (a2.map encU32)), (4, .ref 0 0), (9, .ref 27 0), (11, .raw (.int .i64 r7.2.2)), (12, .raw (.int .i64 i_9)), (140, .raw (.bool x.2))], [(0, .box 55 [.raw (.int .u32 (a1.Ctx.a0.toNat : Int)), .raw (.int .u32 (a1.Ctx.a1.toNat : Int)), .raw (.int .u32 (a1.Ctx.a2.toNat : Int)), .raw (.int .u32 (a1.Ctx.a3.toNat : Int)), .sl false (a1.T.map enc_Table), .raw (.int .u32 (a1.Seed.toNat : Int))]), (22, .row 27 6 0 (x.1.T.map enc_Table)), (27, .box 55 [.raw (.int .u32 (x.1.Ctx.a0.toNat : Int)), .raw (.int .u32 (x.1.Ctx.a1.toNat : Int)), .raw (.int .u32 (x.1.Ctx.a2.toNat : Int)), .raw (.int .u32 (x.1.Ctx.a3.toNat : Int)), .row 22 0 6 0 x.1.T.length, .raw (.int .u32 (x.1.Seed.toNat : Int))])], 204, 147, 0⟩) ?_ ?_
                  · rcases Bool.eq_false_or_eq_true r19 with hb25 | hb25
                    · replace h := cond_yes hb25 h
                      obtain ⟨r26, hr26, h⟩ := po_some h
                      rcases Bool.eq_false_or_eq_true r26 with hb27 | hb27
                      · replace h := cond_yes hb27 h
                        obtain ⟨x28, hx28, h⟩ := po_some h
                        obtain ⟨hx281, hx282, hx283, hx284⟩ := idx_some4 hx28
                        obtain ⟨r29, hr29, h⟩ := po_some h
                        rcases Bool.eq_false_or_eq_true r29 with hb30 | hb30
                        · replace h := cond_yes hb30 h
                          refine VC.lastFD tabOkF hmixO [some 103, some 104, some 105, some 106, some 107, some 108, some 109, some 110, some 111, some 112, some 113, some 114, some 115, some 116, some 117, some 118, some 119, some 120, some 121, some 122, some 123, some 124, some 125, some 126, some 127, some 128, some 129, some 130, some 131, some 132, some 133, some 134, some 135, some 136, some 137, some 138, some 139, some 140] rfl rfl rfl (fun K hK => ?_)
                          refine runD_cut 8 (fun K2 hK2 => ?_)
                          push_cast [hb6, hb8, hb13, hb16, hx171, hx172, hx173, hx174, hx181, hx182, hx183, hx184, hb25, hb27, hx281, hx282, hx283, hx284, hb30]
                          repeat (refine And.intro (by omega) ?_)
                          refine hK2 _ _ _ ?_
                          clear hK2 K2
                          simp only [List.drop_succ_cons, List.drop_zero]
                          refine runD_cut 8 (fun K2 hK2 => ?_)
                          push_cast [hb6, hb8, hb13, hb16, hx171, hx172, hx173, hx174, hx181, hx182, hx183, hx184, hb25, hb27, hx281, hx282, hx283, hx284, hb30]
                          repeat (refine And.intro (by omega) ?_)
                          refine callPD (Ctr.lo (c_table_May x18 hr26)) rfl ?_
                          push_cast [hb6, hb8, hb13, hb16, hx171, hx172, hx173, hx174, hx181, hx182, hx183, hx184, hb25, hb27, hx281, hx282, hx283, hx284, hb30]
                          repeat (refine And.intro (by omega) ?_)
                          refine hK2 _ _ _ ?_
                          clear hK2 K2
                          simp only [List.drop_succ_cons, List.drop_zero]
                          refine runD_cut 8 (fun K2 hK2 => ?_)
                          push_cast [hb6, hb8, hb13, hb16, hx171, hx172, hx173, hx174, hx181, hx182, hx183, hx184, hb25, hb27, hx281, hx282, hx283, hx284, hb30]
                          repeat (refine And.intro (by omega) ?_)
                          refine callPD (Ctr.lo (c_table_May x28 hr29)) rfl ?_
                          push_cast [hb6, hb8, hb13, hb16, hx171, hx172, hx173, hx174, hx181, hx182, hx183, hx184, hb25, hb27, hx281, hx282, hx283, hx284, hb30]
                          repeat (refine And.intro (by omega) ?_)
                          refine hK2 _ _ _ ?_
                          clear hK2 K2
                          simp only [List.drop_succ_cons, List.drop_zero]
                          refine runD_cut 8 (fun K2 hK2 => ?_)
                          push_cast [hb6, hb8, hb13, hb16, hx171, hx172, hx173, hx174, hx181, hx182, hx183, hx184, hb25, hb27, hx281, hx282, hx283, hx284, hb30]
                          repeat (refine And.intro (by omega) ?_)
                          refine hK2 _ _ _ ?_
                          clear hK2 K2
                          simp only [List.drop_succ_cons, List.drop_zero]
                          push_cast [hb6, hb8, hb13, hb16, hx171, hx172, hx173, hx174, hx181, hx182, hx183, hx184, hb25, hb27, hx281, hx282, hx283, hx284, hb30]
                          repeat (refine And.intro (by omega) ?_)
                          refine ⟨rfl, hK _ ?_⟩
                          clear hK K
                          have hv := Option.some.inj h
                          rw [← hv] at hk24
                          refine Exists.intro ((s_20, (!((x28.S.Kind == x18.S.Kind) && ((x28.S.Cap == x18.S.Cap) && ((x28.S.Words == x18.S.Words) && (x28.S.Ver == x18.S.Ver))))))) (And.intro hk24 ?_)
                          refine Sub.trans (Sub.lo _) ?_
                          refine Sub.of ?_ ?_ ⟨rfl, rfl, Nat.le_of_ble_eq_true rfl⟩ rfl
                          · push_cast [hb6, hb8, hb13, hb16, hb25, hb27, hb30]
                          · push_cast [hb6, hb8, hb13, hb16, hb25, hb27, hb30]
                        · replace h := cond_no hb30 h
                          refine VC.lastFD tabOkF hmixO [some 103, some 104, some 105, some 106, some 107, some 108, some 109, some 110, some 111, some 112, some 113, some 114, some 115, some 116, some 117, some 118, some 119, some 120, some 121, some 122, some 123, some 124, some 125, some 126, some 127, some 128, some 129, some 130, some 131, some 132, some 133, some 134, some 135, some 136, some 137, some 138, some 139, some 140] rfl rfl rfl (fun K hK => ?_)
                          refine runD_cut 8 (fun K2 hK2 => ?_)
                          push_cast [hb6, hb8, hb13, hb16, hx171, hx172, hx173, hx174, hx181, hx182, hx183, hx184, hb25, hb27, hx281, hx282, hx283, hx284, hb30]
                          repeat (refine And.intro (by omega) ?_)
                          refine hK2 _ _ _ ?_
                          clear hK2 K2
                          simp only [List.drop_succ_cons, List.drop_zero]
                          refine runD_cut 8 (fun K2 hK2 => ?_)
                          push_cast [hb6, hb8, hb13, hb16, hx171, hx172, hx173, hx174, hx181, hx182, hx183, hx184, hb25, hb27, hx281, hx282, hx283, hx284, hb30]
                          repeat (refine And.intro (by omega) ?_)
                          refine callPD (Ctr.lo (c_table_May x18 hr26)) rfl ?_
                          push_cast [hb6, hb8, hb13, hb16, hx171, hx172, hx173, hx174, hx181, hx182, hx183, hx184, hb25, hb27, hx281, hx282, hx283, hx284, hb30]
                          repeat (refine And.intro (by omega) ?_)
                          refine hK2 _ _ _ ?_
                          clear hK2 K2
                          simp only [List.drop_succ_cons, List.drop_zero]
                          refine runD_cut 8 (fun K2 hK2 => ?_)
                          push_cast [hb6, hb8, hb13, hb16, hx171, hx172, hx173, hx174, hx181, hx182, hx183, hx184, hb25, hb27, hx281, hx282, hx283, hx284, hb30]
                          repeat (refine And.intro (by omega) ?_)
                          refine callPD (Ctr.lo (c_table_May x28 hr29)) rfl ?_
                          push_cast [hb6, hb8, hb13, hb16, hx171, hx172, hx173, hx174, hx181, hx182, hx183, hx184, hb25, hb27, hx281, hx282, hx283, hx284, hb30]
                          repeat (refine And.intro (by omega) ?_)
                          refine hK2 _ _ _ ?_
                          clear hK2 K2
                          simp only [List.drop_succ_cons, List.drop_zero]
                          refine runD_cut 8 (fun K2 hK2 => ?_)
                          push_cast [hb6, hb8, hb13, hb16, hx171, hx172, hx173, hx174, hx181, hx182, hx183, hx184, hb25, hb27, hx281, hx282, hx283, hx284, hb30]
                          repeat (refine And.intro (by omega) ?_)
                          refine hK2 _ _ _ ?_
                          clear hK2 K2
                          simp only [List.drop_succ_cons, List.drop_zero]
                          push_cast [hb6, hb8, hb13, hb16, hx171, hx172, hx173, hx174, hx181, hx182, hx183, hx184, hb25, hb27, hx281, hx282, hx283, hx284, hb30]
                          repeat (refine And.intro (by omega) ?_)
                          refine ⟨rfl, hK _ ?_⟩
                          clear hK K
                          have hv := Option.some.inj h
                          rw [← hv] at hk24
                          refine Exists.intro ((s_20, true)) (And.intro hk24 ?_)
                          refine Sub.trans (Sub.lo _) ?_
                          refine Sub.of ?_ ?_ ⟨rfl, rfl, Nat.le_of_ble_eq_true rfl⟩ rfl
                          · push_cast [hb6, hb8, hb13, hb16, hb25, hb27, hb30]
                          · push_cast [hb6, hb8, hb13, hb16, hb25, hb27, hb30]
                      · replace h := cond_no hb27 h
                        obtain ⟨x31, hx31, h⟩ := po_some h
                        obtain ⟨hx311, hx312, hx313, hx314⟩ := idx_some4 hx31
                        refine VC.lastFD tabOkF hmixO [some 103, some 104, some 105, some 106, some 107, some 108, some 109, some 110, some 111, some 112, some 113, some 114, some 115, some 116, some 117, some 118, some 119, some 120, some 121, some 122, some 123, some 124, some 125, some 126, some 127, some 128, some 129, some 130, some 131, some 132, some 133, some 134, some 135, some 136, some 137, some 138, some 139, some 140] rfl rfl rfl (fun K hK => ?_)
                        refine runD_cut 8 (fun K2 hK2 => ?_)
                        push_cast [hb6, hb8, hb13, hb16, hx171, hx172, hx173, hx174, hx181, hx182, hx183, hx184, hb25, hb27, hx311, hx312, hx313, hx314]
                        repeat (refine And.intro (by omega) ?_)
                        refine hK2 _ _ _ ?_
                        clear hK2 K2
                        simp only [List.drop_succ_cons, List.drop_zero]
                        refine runD_cut 8 (fun K2 hK2 => ?_)
                        push_cast [hb6, hb8, hb13, hb16, hx171, hx172, hx173, hx174, hx181, hx182, hx183, hx184, hb25, hb27, hx311, hx312, hx313, hx314]
                        repeat (refine And.intro (by omega) ?_)
                        refine callPD (Ctr.lo (c_table_May x18 hr26)) rfl ?_
                        push_cast [hb6, hb8, hb13, hb16, hx171, hx172, hx173, hx174, hx181, hx182, hx183, hx184, hb25, hb27, hx311, hx312, hx313, hx314]
                        repeat (refine And.intro (by omega) ?_)
                        refine hK2 _ _ _ ?_
                        clear hK2 K2
                        simp only [List.drop_succ_cons, List.drop_zero]
                        refine runD_cut 8 (fun K2 hK2 => ?_)
                        push_cast [hb6, hb8, hb13, hb16, hx171, hx172, hx173, hx174, hx181, hx182, hx183, hx184, hb25, hb27, hx311, hx312, hx313, hx314]
                        repeat (refine And.intro (by omega) ?_)
                        refine hK2 _ _ _ ?_
                        clear hK2 K2
                        simp only [List.drop_succ_cons, List.drop_zero]
                        refine runD_cut 8 (fun K2 hK2 => ?_)
                        push_cast [hb6, hb8, hb13, hb16, hx171, hx172, hx173, hx174, hx181, hx182, hx183, hx184, hb25, hb27, hx311, hx312, hx313, hx314]
                        repeat (refine And.intro (by omega) ?_)
                        refine hK2 _ _ _ ?_
                        clear hK2 K2
                        simp only [List.drop_succ_cons, List.drop_zero]
                        push_cast [hb6, hb8, hb13, hb16, hx171, hx172, hx173, hx174, hx181, hx182, hx183, hx184, hb25, hb27, hx311, hx312, hx313, hx314]
                        repeat (refine And.intro (by omega) ?_)
                        refine ⟨rfl, hK _ ?_⟩
                        clear hK K
                        have hv := Option.some.inj h
                        rw [← hv] at hk24
                        refine Exists.intro ((s_20, (!((x31.S.Kind == x18.S.Kind) && ((x31.S.Cap == x18.S.Cap) && ((x31.S.Words == x18.S.Words) && (x31.S.Ver == x18.S.Ver))))))) (And.intro hk24 ?_)
                        refine Sub.trans (Sub.lo _) ?_
                        refine Sub.of ?_ ?_ ⟨rfl, rfl, Nat.le_of_ble_eq_true rfl⟩ rfl
                        · push_cast [hb6, hb8, hb13, hb16, hb25, hb27]
                        · push_cast [hb6, hb8, hb13, hb16, hb25, hb27]
                    · replace h := cond_no hb25 h
                      rcases Bool.eq_false_or_eq_true i_21 with hb32 | hb32
                      · replace h := cond_yes hb32 h
                        obtain ⟨r33, hr33, h⟩ := po_some h
                        rcases Bool.eq_false_or_eq_true r33 with hb34 | hb34
                        · replace h := cond_yes hb34 h
                          obtain ⟨x35, hx35, h⟩ := po_some h
                          obtain ⟨hx351, hx352, hx353, hx354⟩ := idx_some4 hx35
                          obtain ⟨r36, hr36, h⟩ := po_some h
                          rcases Bool.eq_false_or_eq_true r36 with hb37 | hb37
                          · replace h := cond_yes hb37 h
                            refine VC.lastFD tabOkF hmixO [some 103, some 104, some 105, some 106, some 107, some 108, some 109, some 110, some 111, some 112, some 113, some 114, some 115, some 116, some 117, some 118, some 119, some 120, some 121, some 122, some 123, some 124, some 125, some 126, some 127, some 128, some 129, some 130, some 131, some 132, some 133, some 134, some 135, some 136, some 137, some 138, some 139, some 140] rfl rfl rfl (fun K hK => ?_)
                            refine runD_cut 8 (fun K2 hK2 => ?_)
                            push_cast [hb6, hb8, hb13, hb16, hx171, hx172, hx173, hx174, hx181, hx182, hx183, hx184, hb25, hb32, hb34, hx351, hx352, hx353, hx354, hb37]
                            repeat (refine And.intro (by omega) ?_)
                            refine hK2 _ _ _ ?_
                            clear hK2 K2
                            simp only [List.drop_succ_cons, List.drop_zero]
                            refine runD_cut 8 (fun K2 hK2 => ?_)
                            push_cast [hb6, hb8, hb13, hb16, hx171, hx172, hx173, hx174, hx181, hx182, hx183, hx184, hb25, hb32, hb34, hx351, hx352, hx353, hx354, hb37]
                            repeat (refine And.intro (by omega) ?_)
                            refine callPD (Ctr.lo (c_table_May x18 hr33)) rfl ?_
                            push_cast [hb6, hb8, hb13, hb16, hx171, hx172, hx173, hx174, hx181, hx182, hx183, hx184, hb25, hb32, hb34, hx351, hx352, hx353, hx354, hb37]
                            repeat (refine And.intro (by omega) ?_)
                            refine hK2 _ _ _ ?_
                            clear hK2 K2
                            simp only [List.drop_succ_cons, List.drop_zero]
                            refine runD_cut 8 (fun K2 hK2 => ?_)
                            push_cast [hb6, hb8, hb13, hb16, hx171, hx172, hx173, hx174, hx181, hx182, hx183, hx184, hb25, hb32, hb34, hx351, hx352, hx353, hx354, hb37]
                            repeat (refine And.intro (by omega) ?_)
                            refine callPD (Ctr.lo (c_table_May x35 hr36)) rfl ?_
                            push_cast [hb6, hb8, hb13, hb16, hx171, hx172, hx173, hx174, hx181, hx182, hx183, hx184, hb25, hb32, hb34, hx351, hx352, hx353, hx354, hb37]
                            repeat (refine And.intro (by omega) ?_)
                            refine hK2 _ _ _ ?_
                            clear hK2 K2
                            simp only [List.drop_succ_cons, List.drop_zero]
                            refine runD_cut 8 (fun K2 hK2 => ?_)
                            push_cast [hb6, hb8, hb13, hb16, hx171, hx172, hx173, hx174, hx181, hx182, hx183, hx184, hb25, hb32, hb34, hx351, hx352, hx353, hx354, hb37]
                            repeat (refine And.intro (by omega) ?_)
                            refine hK2 _ _ _ ?_
                            clear hK2 K2
                            simp only [List.drop_succ_cons, List.drop_zero]
                            push_cast [hb6, hb8, hb13, hb16, hx171, hx172, hx173, hx174, hx181, hx182, hx183, hx184, hb25, hb32, hb34, hx351, hx352, hx353, hx354, hb37]
                            repeat (refine And.intro (by omega) ?_)
                            refine ⟨rfl, hK _ ?_⟩
                            clear hK K
                            have hv := Option.some.inj h
                            rw [← hv] at hk24
                            refine Exists.intro ((s_20, (!((x35.S.Kind == x18.S.Kind) && ((x35.S.Cap == x18.S.Cap) && ((x35.S.Words == x18.S.Words) && (x35.S.Ver == x18.S.Ver))))))) (And.intro hk24 ?_)
                            refine Sub.trans (Sub.lo _) ?_
                            refine Sub.of ?_ ?_ ⟨rfl, rfl, Nat.le_of_ble_eq_true rfl⟩ rfl
                            · push_cast [hb6, hb8, hb13, hb16, hb25, hb32, hb34, hb37]
                            · push_cast [hb6, hb8, hb13, hb16, hb25, hb32, hb34, hb37]
                          · replace h := cond_no hb37 h
                            refine VC.lastFD tabOkF hmixO [some 103, some 104, some 105, some 106, some 107, some 108, some 109, some 110, some 111, some 112, some 113, some 114, some 115, some 116, some 117, some 118, some 119, some 120, some 121, some 122, some 123, some 124, some 125, some 126, some 127, some 128, some 129, some 130, some 131, some 132, some 133, some 134, some 135, some 136, some 137, some 138, some 139, some 140] rfl rfl rfl (fun K hK => ?_)
                            refine runD_cut 8 (fun K2 hK2 => ?_)
                            push_cast [hb6, hb8, hb13, hb16, hx171, hx172, hx173, hx174, hx181, hx182, hx183, hx184, hb25, hb32, hb34, hx351, hx352, hx353, hx354, hb37]
                            repeat (refine And.intro (by omega) ?_)
                            refine hK2 _ _ _ ?_
                            clear hK2 K2
                            simp only [List.drop_succ_cons, List.drop_zero]
                            refine runD_cut 8 (fun K2 hK2 => ?_)
                            push_cast [hb6, hb8, hb13, hb16, hx171, hx172, hx173, hx174, hx181, hx182, hx183, hx184, hb25, hb32, hb34, hx351, hx352, hx353, hx354, hb37]
                            repeat (refine And.intro (by omega) ?_)
                            refine callPD (Ctr.lo (c_table_May x18 hr33)) rfl ?_
                            push_cast [hb6, hb8, hb13, hb16, hx171, hx172, hx173, hx174, hx181, hx182, hx183, hx184, hb25, hb32, hb34, hx351, hx352, hx353, hx354, hb37]
                            repeat (refine And.intro (by omega) ?_)
                            refine hK2 _ _ _ ?_
                            clear hK2 K2
                            simp only [List.drop_succ_cons, List.drop_zero]
                            refine runD_cut 8 (fun K2 hK2 => ?_)
                            push_cast [hb6, hb8, hb13, hb16, hx171, hx172, hx173, hx174, hx181, hx182, hx183, hx184, hb25, hb32, hb34, hx351, hx352, hx353, hx354, hb37]
                            repeat (refine And.intro (by omega) ?_)
                            refine callPD (Ctr.lo (c_table_May x35 hr36)) rfl ?_
                            push_cast [hb6, hb8, hb13, hb16, hx171, hx172, hx173, hx174, hx181, hx182, hx183, hx184, hb25, hb32, hb34, hx351, hx352, hx353, hx354, hb37]
                            repeat (refine And.intro (by omega) ?_)
                            refine hK2 _ _ _ ?_
                            clear hK2 K2
                            simp only [List.drop_succ_cons, List.drop_zero]
                            refine runD_cut 8 (fun K2 hK2 => ?_)
                            push_cast [hb6, hb8, hb13, hb16, hx171, hx172, hx173, hx174, hx181, hx182, hx183, hx184, hb25, hb32, hb34, hx351, hx352, hx353, hx354, hb37]
                            repeat (refine And.intro (by omega) ?_)
                            refine hK2 _ _ _ ?_
                            clear hK2 K2
                            simp only [List.drop_succ_cons, List.drop_zero]
                            push_cast [hb6, hb8, hb13, hb16, hx171, hx172, hx173, hx174, hx181, hx182, hx183, hx184, hb25, hb32, hb34, hx351, hx352, hx353, hx354, hb37]
                            repeat (refine And.intro (by omega) ?_)
                            refine ⟨rfl, hK _ ?_⟩
                            clear hK K
                            have hv := Option.some.inj h
                            rw [← hv] at hk24
                            refine Exists.intro ((s_20, true)) (And.intro hk24 ?_)
                            refine Sub.trans (Sub.lo _) ?_
                            refine Sub.of ?_ ?_ ⟨rfl, rfl, Nat.le_of_ble_eq_true rfl⟩ rfl
                            · push_cast [hb6, hb8, hb13, hb16, hb25, hb32, hb34, hb37]
                            · push_cast [hb6, hb8, hb13, hb16, hb25, hb32, hb34, hb37]
                        · replace h := cond_no hb34 h
                          obtain ⟨x38, hx38, h⟩ := po_some h
                          obtain ⟨hx381, hx382, hx383, hx384⟩ := idx_some4 hx38
                          refine VC.lastFD tabOkF hmixO [some 103, some 104, some 105, some 106, some 107, some 108, some 109, some 110, some 111, some 112, some 113, some 114, some 115, some 116, some 117, some 118, some 119, some 120, some 121, some 122, some 123, some 124, some 125, some 126, some 127, some 128, some 129, some 130, some 131, some 132, some 133, some 134, some 135, some 136, some 137, some 138, some 139, some 140] rfl rfl rfl (fun K hK => ?_)
                          refine runD_cut 8 (fun K2 hK2 => ?_)
                          push_cast [hb6, hb8, hb13, hb16, hx171, hx172, hx173, hx174, hx181, hx182, hx183, hx184, hb25, hb32, hb34, hx381, hx382, hx383, hx384]
                          repeat (refine And.intro (by omega) ?_)
                          refine hK2 _ _ _ ?_
                          clear hK2 K2
                          simp only [List.drop_succ_cons, List.drop_zero]
                          refine runD_cut 8 (fun K2 hK2 => ?_)
                          push_cast [hb6, hb8, hb13, hb16, hx171, hx172, hx173, hx174, hx181, hx182, hx183, hx184, hb25, hb32, hb34, hx381, hx382, hx383, hx384]
                          repeat (refine And.intro (by omega) ?_)
                          refine callPD (Ctr.lo (c_table_May x18 hr33)) rfl ?_
                          push_cast [hb6, hb8, hb13, hb16, hx171, hx172, hx173, hx174, hx181, hx182, hx183, hx184, hb25, hb32, hb34, hx381, hx382, hx383, hx384]
                          repeat (refine And.intro (by omega) ?_)
                          refine hK2 _ _ _ ?_
                          clear hK2 K2
                          simp only [List.drop_succ_cons, List.drop_zero]
                          refine runD_cut 8 (fun K2 hK2 => ?_)
                          push_cast [hb6, hb8, hb13, hb16, hx171, hx172, hx173, hx174, hx181, hx182, hx183, hx184, hb25, hb32, hb34, hx381, hx382, hx383, hx384]
                          repeat (refine And.intro (by omega) ?_)
                          refine hK2 _ _ _ ?_
                          clear hK2 K2
                          simp only [List.drop_succ_cons, List.drop_zero]
                          refine runD_cut 8 (fun K2 hK2 => ?_)
                          push_cast [hb6, hb8, hb13, hb16, hx171, hx172, hx173, hx174, hx181, hx182, hx183, hx184, hb25, hb32, hb34, hx381, hx382, hx383, hx384]
                          repeat (refine And.intro (by omega) ?_)
                          refine hK2 _ _ _ ?_
                          clear hK2 K2
                          simp only [List.drop_succ_cons, List.drop_zero]
                          push_cast [hb6, hb8, hb13, hb16, hx171, hx172, hx173, hx174, hx181, hx182, hx183, hx184, hb25, hb32, hb34, hx381, hx382, hx383, hx384]
                          repeat (refine And.intro (by omega) ?_)
                          refine ⟨rfl, hK _ ?_⟩
                          clear hK K
                          have hv := Option.some.inj h
                          rw [← hv] at hk24
                          refine Exists.intro ((s_20, (!((x38.S.Kind == x18.S.Kind) && ((x38.S.Cap == x18.S.Cap) && ((x38.S.Words == x18.S.Words) && (x38.S.Ver == x18.S.Ver))))))) (And.intro hk24 ?_)
                          refine Sub.trans (Sub.lo _) ?_
                          refine Sub.of ?_ ?_ ⟨rfl, rfl, Nat.le_of_ble_eq_true rfl⟩ rfl
                          · push_cast [hb6, hb8, hb13, hb16, hb25, hb32, hb34]
                          · push_cast [hb6, hb8, hb13, hb16, hb25, hb32, hb34]
                      · replace h := cond_no hb32 h
                        refine VC.lastFD tabOkF hmixO [some 103, some 104, some 105, some 106, some 107, some 108, some 109, some 110, some 111, some 112, some 113, some 114, some 115, some 116, some 117, some 118, some 119, some 120, some 121, some 122, some 123, some 124, some 125, some 126, some 127, some 128, some 129, some 130, some 131, some 132, some 133, some 134, some 135, some 136, some 137, some 138, some 139, some 140] rfl rfl rfl (fun K hK => ?_)
                        refine runD_cut 8 (fun K2 hK2 => ?_)
                        push_cast [hb6, hb8, hb13, hb16, hx171, hx172, hx173, hx174, hx181, hx182, hx183, hx184, hb25, hb32]
                        repeat (refine And.intro (by omega) ?_)
                        refine hK2 _ _ _ ?_
                        clear hK2 K2
                        simp only [List.drop_succ_cons, List.drop_zero]
                        refine runD_cut 8 (fun K2 hK2 => ?_)
                        push_cast [hb6, hb8, hb13, hb16, hx171, hx172, hx173, hx174, hx181, hx182, hx183, hx184, hb25, hb32]
                        repeat (refine And.intro (by omega) ?_)
                        refine hK2 _ _ _ ?_
                        clear hK2 K2
                        simp only [List.drop_succ_cons, List.drop_zero]
                        refine runD_cut 8 (fun K2 hK2 => ?_)
                        push_cast [hb6, hb8, hb13, hb16, hx171, hx172, hx173, hx174, hx181, hx182, hx183, hx184, hb25, hb32]
                        repeat (refine And.intro (by omega) ?_)
                        refine hK2 _ _ _ ?_
                        clear hK2 K2
                        simp only [List.drop_succ_cons, List.drop_zero]
                        refine runD_cut 8 (fun K2 hK2 => ?_)
                        push_cast [hb6, hb8, hb13, hb16, hx171, hx172, hx173, hx174, hx181, hx182, hx183, hx184, hb25, hb32]
                        repeat (refine And.intro (by omega) ?_)
                        refine hK2 _ _ _ ?_
                        clear hK2 K2
                        simp only [List.drop_succ_cons, List.drop_zero]
                        push_cast [hb6, hb8, hb13, hb16, hx171, hx172, hx173, hx174, hx181, hx182, hx183, hx184, hb25, hb32]
                        repeat (refine And.intro (by omega) ?_)
                        refine ⟨rfl, hK _ ?_⟩
                        clear hK K
                        have hv := Option.some.inj h
                        rw [← hv] at hk24
                        refine Exists.intro ((s_20, true)) (And.intro hk24 ?_)
                        refine Sub.trans (Sub.lo _) ?_
                        refine Sub.of ?_ ?_ ⟨rfl, rfl, Nat.le_of_ble_eq_true rfl⟩ rfl
                        · push_cast [hb6, hb8, hb13, hb16, hb25, hb32]
                        · push_cast [hb6, hb8, hb13, hb16, hb25, hb32]
                  · rintro ⟨s_22, i_23⟩ h
                    replace h : p_drydocklaw06_HelperKeeps_J24 i_9 s_22 i_23 = some b15 := h
                    try push_cast
                    unfold p_drydocklaw06_HelperKeeps_J24 at h
                    refine VC.cond rfl rfl (fun hc39 => ?_) (fun hc39 => ?_)
                    · have hb39 : i_23 = true := by simpa using hc39
                      replace h := cond_yes hb39 h
                      refine VC.seqF tabOkF [some 6] [6] rfl rfl (fun K hK => ?_)
                      push_cast [hb6, hb8, hb13, hb16, hx171, hx172, hx173, hx174, hx181, hx182, hx183, hx184, hb39]
                      repeat (refine And.intro (by omega) ?_)
                      refine hK _ ?_
                      clear hK K
                      refine VC.ret ?_
                      replace h := congrArg some (hf15 _ (Option.some.inj h).symm)
                      have hv := Option.some.inj h
                      rw [← hv] at hk14
                      replace h : some false = some r := hk14
                      have hr := Option.some.inj h
                      subst hr
                      refine endP (Sub.lo _) (Post.ret ?_ ?_ ?_)
                      · push_cast [hb6, hb8, hb13, hb16, hb39]
                      · push_cast [hb6, hb8, hb13, hb16, hb39]
                      · rfl
                    · have hb39 : i_23 = false := by simpa using hc39
                      replace h := cond_no hb39 h
                      refine VC.skip ?_
                      refine VC.lastF tabOkF [some 75, some 76, some 12] rfl rfl (fun K hK => ?_)
                      push_cast [hb6, hb8, hb13, hb16, hx171, hx172, hx173, hx174, hx181, hx182, hx183, hx184, hb39]
                      repeat (refine And.intro (by omega) ?_)
                      refine hK _ ?_
                      clear hK K
                      refine Exists.intro ((s_22, (IntKind.i64.wrap (i_9 + 1)))) (And.intro (Option.some.inj h).symm ?_)
                      refine Sub.trans (Sub.lo _) ?_
                      refine Sub.of ?_ ?_ ⟨rfl, rfl, Nat.le_of_ble_eq_true rfl⟩ rfl
                      · push_cast [hb6, hb8, hb13, hb16, hb39]
                      · push_cast [hb6, hb8, hb13, hb16, hb39]
              · have hb16 : (decide (i_9 < (a1.T.length : Int))) = false := by simpa using hc16
                replace h := cond_no hb16 h
                refine VC.exit ?_
                replace h := congrArg some (hf15 _ (Option.some.inj h).symm)
                have hv := Option.some.inj h
                rw [← hv] at hk14
                refine Exists.intro (()) (And.intro hk14 ?_)
                refine Sub.trans (Sub.lo _) ?_
                refine Sub.of ?_ ?_ ⟨rfl, rfl, Nat.le_of_ble_eq_true rfl⟩ rfl
                · push_cast [hb6, hb8, hb13, hb16]
                · push_cast [hb6, hb8, hb13, hb16]
            · rintro ⟨⟩ h
              replace h : p_drydocklaw06_HelperKeeps_J14 r7 = some r := h
              try push_cast
              unfold p_drydocklaw06_HelperKeeps_J14 at h
              obtain ⟨v40, h, hk40⟩ := po_some h
              refine VC.seqJ (X := Bool) (fun x => p_drydocklaw06_HelperKeeps_J40 x = some r) (fun x => ⟨[(6, .raw (.bool x))], [], 145, 147, 0⟩) ?_ ?_
              · rcases Bool.eq_false_or_eq_true (r7.2.2 == 0) with hb41 | hb41
                · replace h := cond_yes hb41 h
                  refine VC.lastF tabOkF [some 141, some 142, some 143, some 144, some 145, some 146, some 6] rfl rfl (fun K hK => ?_)
                  push_cast [hb6, hb8, hb13, hb41]
                  repeat (refine And.intro (by omega) ?_)
                  refine hK _ ?_
                  clear hK K
                  have hv := Option.some.inj h
                  rw [← hv] at hk40
                  refine Exists.intro (true) (And.intro hk40 ?_)
                  refine Sub.trans (Sub.lo _) ?_
                  refine Sub.of ?_ ?_ ⟨rfl, rfl, Nat.le_of_ble_eq_true rfl⟩ rfl
                  · push_cast [hb6, hb8, hb13, hb41]
                  · push_cast [hb6, hb8, hb13, hb41]
                · replace h := cond_no hb41 h
                  refine VC.lastF tabOkF [some 141, some 142, some 143, some 144, some 145, some 146, some 6] rfl rfl (fun K hK => ?_)
                  push_cast [hb6, hb8, hb13, hb41]
                  repeat (refine And.intro (by omega) ?_)
                  refine hK _ ?_
                  clear hK K
                  have hv := Option.some.inj h
                  rw [← hv] at hk40
                  refine Exists.intro ((r7.2.2 == 10)) (And.intro hk40 ?_)
                  refine Sub.trans (Sub.lo _) ?_
                  refine Sub.of ?_ ?_ ⟨rfl, rfl, Nat.le_of_ble_eq_true rfl⟩ rfl
                  · push_cast [hb6, hb8, hb13, hb41]
                  · push_cast [hb6, hb8, hb13, hb41]
              · rintro i_24 h
                replace h : p_drydocklaw06_HelperKeeps_J40 i_24 = some r := h
                try push_cast
                unfold p_drydocklaw06_HelperKeeps_J40 at h
                refine VC.ret ?_
                have hr := Option.some.inj h
                subst hr
                refine endP (Sub.lo _) (Post.ret ?_ ?_ ?_)
                · push_cast [hb6, hb8, hb13]
                · push_cast [hb6, hb8, hb13]
                · rfl
end Go.Proofs.Ytpmnchgpbojppaa

