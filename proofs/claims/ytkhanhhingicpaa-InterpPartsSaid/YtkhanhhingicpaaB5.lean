/- Packed texts: ZhelperCall, Zdrydockref05Few, Hp, Hs, Gets, Ht, Ha0, Args, Row, Op, Zdrydockref05All, Zdrydockref06Same, Ha1. -/
import Derived.Test.YtkhanhhingicpaaB4
import Derived.ProofKit
import Derived.Deep.Slices
import Derived.OpenShut
set_option linter.unusedVariables false
set_option linter.unusedSimpArgs false
set_option maxHeartbeats 4000000
set_option maxRecDepth 100000
namespace Go.Proofs.Ytkhanhhingicpaa
open Go Go.RowKit Go.Proofs.Try
noncomputable def p_helper_Call_J13 (a0 : Int) (a2 : (List UInt32)) (x8 : UInt32) (x10 : T_Table) (s_4 : T_Env) (i_5 : Bool) : Option (T_Env × UInt32 × Int) :=
  cond i_5 (
  some (s_4, 0, 10)) (
  cond (a0 == 0) (
  po (p_helper_call_get (T_helper_call.mk x10) a2) fun r22 =>
  po (s_4.T[x8.toNat]?) fun x23 =>
  pl (s_4.T.set x8.toNat r22.2.t) fun y24 =>
  some ((T_Env.mk s_4.Ctx y24 s_4.Seed), r22.1, 0)) (
  cond (a0 == 1) (
  po (p_helper_call_set (T_helper_call.mk x10) a2) fun r26 =>
  po (s_4.T[x8.toNat]?) fun x27 =>
  pl (s_4.T.set x8.toNat r26.2.t) fun y28 =>
  some ((T_Env.mk s_4.Ctx y28 s_4.Seed), r26.1, 0)) (
  cond (a0 == 2) (
  po (p_helper_call_del (T_helper_call.mk x10) a2) fun r30 =>
  po (s_4.T[x8.toNat]?) fun x31 =>
  pl (s_4.T.set x8.toNat r30.2.t) fun y32 =>
  some ((T_Env.mk s_4.Ctx y32 s_4.Seed), r30.1, 0)) (
  cond (a0 == 3) (
  po (p_helper_call_has (T_helper_call.mk x10) a2) fun r34 =>
  po (s_4.T[x8.toNat]?) fun x35 =>
  pl (s_4.T.set x8.toNat r34.2.t) fun y36 =>
  some ((T_Env.mk s_4.Ctx y36 s_4.Seed), r34.1, 0)) (
  cond (a0 == 5) (
  po (p_helper_call_push (T_helper_call.mk x10) a2) fun r38 =>
  po (s_4.T[x8.toNat]?) fun x39 =>
  pl (s_4.T.set x8.toNat r38.2.t) fun y40 =>
  some ((T_Env.mk s_4.Ctx y40 s_4.Seed), r38.1, 0)) (
  none))))))
noncomputable def p_helper_Call_J11 (a0 : Int) (a2 : (List UInt32)) (x8 : UInt32) (x10 : T_Table) (s_2 : T_Env) (i_3 : Bool) : Option (T_Env × UInt32 × Int) :=
  po (
  po (p_helper_Fits a0 x10.S) fun r14 =>
  cond r14 (
  po (p_table_May x10) fun r16 =>
  cond r16 (
  cond i_3 (
  po (a2[2]?) fun x19 =>
  some (s_2, (decide ((x19.toNat : Int) ≥ (IntKind.u32.wrap x10.S.Words))))) (
  some (s_2, false))) (
  some (s_2, true))) (
  some (s_2, true))) (fun x => p_helper_Call_J13 a0 a2 x8 x10 x.1 x.2)
noncomputable def p_helper_Call_J2 (a0 : Int) (a1 : T_Env) (a2 : (List UInt32)) (i_1 : Bool) : Option (T_Env × UInt32 × Int) :=
  cond i_1 (
  some ((T_Env.mk (A4.mk 0 0 0 0) [] 0), 0, 1)) (
  po (p_helper_own a1) fun r5 =>
  cond (a0 == 4) (
  po (p_helper_Draw r5.Seed) fun r7 =>
  some ((T_Env.mk r5.Ctx r5.T r7), r7, 0)) (
  po (a2[0]?) fun x8 =>
  cond (decide ((IntKind.u64.wrap (x8.toNat : Int)) ≥ (IntKind.u64.wrap (r5.T.length : Int)))) (
  some (r5, 0, 10)) (
  po (r5.T[x8.toNat]?) fun x10 =>
  po (
  cond (a0 == 0) (
  some (r5, true)) (
  some (r5, (a0 == 1)))) (fun x => p_helper_Call_J11 a0 a2 x8 x10 x.1 x.2))))
noncomputable def p_helper_Call (a0 : Int) (a1 : T_Env) (a2 : (List UInt32)) : Option (T_Env × UInt32 × Int) :=
  po (p_helper_Args a0) fun r1 =>
  po (
  cond (r1 == -1) (
  some true) (
  some (r1 != (a2.length : Int)))) (fun x => p_helper_Call_J2 a0 a1 a2 x)
theorem c_helper_Call (a0 : Int) (a1 : T_Env) (a2 : (List UInt32)) {r : T_Env × UInt32 × Int} (h : p_helper_Call a0 a1 a2 = some r) : Ctr prog 35 [.raw (.int .i64 a0), .agg (enc_Env a1), .sl false (a2.map encU32)] [] (.tup [.agg [.raw (.int .u32 (r.1.Ctx.a0.toNat : Int)), .raw (.int .u32 (r.1.Ctx.a1.toNat : Int)), .raw (.int .u32 (r.1.Ctx.a2.toNat : Int)), .raw (.int .u32 (r.1.Ctx.a3.toNat : Int)), .row 0 0 6 0 r.1.T.length, .raw (.int .u32 (r.1.Seed.toNat : Int))], .raw (.int .u32 (r.2.1.toNat : Int)), .raw (.int .i64 r.2.2)]) [(0, .row 27 6 0 (r.1.T.map enc_Table))] := by
 unfold p_helper_Call at h; refine Ctr.ofW tabOk func35 rfl call35 0 _ ntmps35 [.cell 6 49, .tmp 7, .tmp 8] rfl rfl rfl (fun B => ?_); refine VC.seqF tabOkF [some 4, some 6, some 7, some 8] [0, 2, 4, 6] rfl rfl (fun K hK => ?_); push_cast; (repeat refine .intro (by omega) ?_); refine hK _ ?_; clear hK K; refine VC.seq ?_; obtain ⟨r1, hr1, h⟩ := po_some h; refine VC.seqF tabOkF [some 14, some 15, some 9] [0, 2, 4, 6, 9] rfl rfl (fun K hK => ?_); push_cast; (repeat refine .intro (by omega) ?_); refine callP (Ctr.lo (c_helper_Args a0 hr1)) rfl ?_; push_cast; (repeat refine .intro (by omega) ?_); refine hK _ ?_; clear hK K; obtain ⟨v2, h, hk2⟩ := po_some h; refine VC.seqJ (X := Bool) (fun x => p_helper_Call_J2 a0 a1 a2 x = some r) (fun x => ⟨[(0, .raw (.int .i64 a0)), (2, .sl false (a2.map encU32)), (4, .ref 0 0), (6, .ref 1 0), (23, .raw (.bool x))], [(0, .box 49 [.raw (.int .u32 (a1.Ctx.a0.toNat : Int)), .raw (.int .u32 (a1.Ctx.a1.toNat : Int)), .raw (.int .u32 (a1.Ctx.a2.toNat : Int)), .raw (.int .u32 (a1.Ctx.a3.toNat : Int)), .sl false (a1.T.map enc_Table), .raw (.int .u32 (a1.Seed.toNat : Int))]), (1, .box 49 [.raw (.int .u32 0), .raw (.int .u32 0), .raw (.int .u32 0), .raw (.int .u32 0), .sl true [], .raw (.int .u32 0)])], 15, 123, 0⟩) ?_ ?_
 ·rcases Bool.eq_false_or_eq_true (r1 == -1) with hb3 | hb3
  ·replace h := cond_yes hb3 h; refine VC.lastF tabOkF [some 16, some 17, some 18, some 19, some 20, some 21, some 22, some 23] rfl rfl (fun K hK => ?_); push_cast [hb3]; (repeat refine .intro (by omega) ?_); refine hK _ ?_; clear hK K; have hv := Option.some.inj h; rw [← hv] at hk2; refine Exists.intro (true) (And.intro hk2 ?_); refine sof ?_ ?_ rfl rfl
   ·push_cast [hb3]
   ·push_cast [hb3]
  ·replace h := cond_no hb3 h; refine VC.lastF tabOkF [some 16, some 17, some 18, some 19, some 20, some 21, some 22, some 23] rfl rfl (fun K hK => ?_); push_cast [hb3]; (repeat refine .intro (by omega) ?_); refine hK _ ?_; clear hK K; have hv := Option.some.inj h; rw [← hv] at hk2; refine Exists.intro ((r1 != (a2.length : Int))) (And.intro hk2 ?_); refine sof ?_ ?_ rfl rfl
   ·push_cast [hb3]
   ·push_cast [hb3]
 ·rintro i_1 h; replace h : p_helper_Call_J2 a0 a1 a2 i_1 = some r := h; (try push_cast); unfold p_helper_Call_J2 at h; refine VC.cond rfl rfl (fun hc4 => ?_) (fun hc4 => ?_)
  ·have hb4 : i_1 = true := by simpa using hc4
   replace h := cond_yes hb4 h; refine VC.seqF tabOkF [some 24, none, some 7, some 8] [6, 7, 8] rfl rfl (fun K hK => ?_); push_cast [hb4]; (repeat refine .intro (by omega) ?_); refine hK _ ?_; clear hK K; refine VC.ret ?_; have hr := Option.some.inj h; subst hr; refine endS (Sub.of (s' := ⟨[(6, .ref 1 0), (7, .raw (.int .u32 0)), (8, .raw (.int .i64 1))], [(1, .box 49 [.raw (.int .u32 0), .raw (.int .u32 0), .raw (.int .u32 0), .raw (.int .u32 0), .sl true [], .raw (.int .u32 0)])], 19, 123, 0⟩) (by push_cast [hb4]) (by push_cast [hb4]) ⟨rfl, rfl, Nat.le_of_ble_eq_true rfl⟩ rfl) ?_; refine endS (Sub.adopt (b := 1) (j := 4) (e := 27) (sz := 6) rfl rfl) ?_; refine endS (Sub.renB (b := 1) (j := 4) (i' := 0) rfl rfl rfl (Nat.le_of_ble_eq_true rfl) (Nat.le_of_ble_eq_true rfl) rfl) ?_; refine endP (Sub.lo _) (Post.ret ?_ ?_ ?_)
   ·push_cast [hb4]
   ·push_cast [hb4]
   ·rfl
  ·have hb4 : i_1 = false := by simpa using hc4
   replace h := cond_no hb4 h; refine VC.skip ?_; obtain ⟨r5, hr5, h⟩ := po_some h; refine VC.seqF tabOkF [some 25, some 26, none] [0, 2, 4, 6] rfl rfl (fun K hK => ?_); push_cast [hb4]; (repeat refine .intro (by omega) ?_); refine callH (H := []) (Ctr.loH (Ctr.ren (Bij.swp 0 16 Bij.id) (c_helper_own a1 hr5) (by push_cast [hb4]) (by push_cast [hb4]))) (by push_cast [hb4]) rfl rfl rfl ?_; push_cast [hb4]; (repeat refine .intro (by omega) ?_); refine hK _ ?_; clear hK K; refine VC.sub (s' := ⟨[(0, .raw (.int .i64 a0)), (2, .sl false (a2.map encU32)), (4, .ref 0 0), (6, .ref 1 0)], [(0, .box 49 [.raw (.int .u32 (r5.Ctx.a0.toNat : Int)), .raw (.int .u32 (r5.Ctx.a1.toNat : Int)), .raw (.int .u32 (r5.Ctx.a2.toNat : Int)), .raw (.int .u32 (r5.Ctx.a3.toNat : Int)), .row 16 0 6 0 r5.T.length, .raw (.int .u32 (r5.Seed.toNat : Int))]), (1, .box 49 [.raw (.int .u32 0), .raw (.int .u32 0), .raw (.int .u32 0), .raw (.int .u32 0), .sl true [], .raw (.int .u32 0)]), (16, .row 27 6 0 (r5.T.map enc_Table))], 18, 123, 0⟩) (sof ?_ ?_ rfl rfl) ?_
   ·push_cast [hb4]
   ·push_cast [hb4]
   refine VC.seq ?_; refine VC.seqF tabOkF [some 27, some 28] [0, 2, 4, 6, 28] rfl rfl (fun K hK => ?_); push_cast [hb4]; (repeat refine .intro (by omega) ?_); refine hK _ ?_; clear hK K; refine VC.cond rfl rfl (fun hc6 => ?_) (fun hc6 => ?_)
   ·have hb6 : (a0 == 4) = true := by simpa using hc6
    replace h := cond_yes hb6 h; obtain ⟨r7, hr7, h⟩ := po_some h; refine VC.seqF tabOkF [some 29, some 30, some 31, some 32, none] [4, 6] rfl rfl (fun K hK => ?_); push_cast [hb4, hb6]; (repeat refine .intro (by omega) ?_); refine callP (Ctr.lo (c_helper_Draw r5.Seed hr7)) rfl ?_; push_cast [hb4, hb6]; (repeat refine .intro (by omega) ?_); refine hK _ ?_; clear hK K; refine VC.seqFD tabOkF hmixO [some 33, some 34, some 35, none, some 7, some 8] [6, 7, 8] rfl rfl rfl (fun K hK => ?_); push_cast [hb4, hb6]; (repeat refine .intro (by omega) ?_); refine ⟨rfl, hK _ ?_⟩; clear hK K; refine VC.ret ?_; have hr := Option.some.inj h; subst hr; refine endS (Sub.of (s' := ⟨[(6, .ref 1 0), (7, .raw (.int .u32 (r7.toNat : Int))), (8, .raw (.int .i64 0))], [(1, .box 49 [.raw (.int .u32 (r5.Ctx.a0.toNat : Int)), .raw (.int .u32 (r5.Ctx.a1.toNat : Int)), .raw (.int .u32 (r5.Ctx.a2.toNat : Int)), .raw (.int .u32 (r5.Ctx.a3.toNat : Int)), .row 16 0 6 0 r5.T.length, .raw (.int .u32 (r7.toNat : Int))]), (16, .row 27 6 0 (r5.T.map enc_Table))], 31, 123, 0⟩) (by push_cast [hb4, hb6]) (by push_cast [hb4, hb6]) ⟨rfl, rfl, Nat.le_of_ble_eq_true rfl⟩ rfl) ?_; refine endS (Sub.renB (b := 1) (j := 4) (i' := 0) rfl rfl rfl (Nat.le_of_ble_eq_true rfl) (Nat.le_of_ble_eq_true rfl) rfl) ?_; refine endP (Sub.lo _) (Post.ret ?_ ?_ ?_)
    ·push_cast [hb4, hb6]
    ·push_cast [hb4, hb6]
    ·rfl
   ·have hb6 : (a0 == 4) = false := by simpa using hc6
    replace h := cond_no hb6 h; refine VC.skip ?_; refine VC.seq ?_; obtain ⟨x8, hx8, h⟩ := po_some h; have hx81 := get_ltI hx8; have hx82 := get_lt hx8; refine VC.seqFD tabOkF hmixO [some 36, some 37, some 38, some 39, some 40, some 41, some 42, some 43, some 44] [0, 2, 4, 6, 44] rfl rfl rfl (fun K hK => ?_); push_cast [hb4, hb6, hx8, hx81, hx82]; (repeat refine .intro (by omega) ?_); refine ⟨rfl, hK _ ?_⟩; clear hK K; refine VC.cond rfl rfl (fun hc9 => ?_) (fun hc9 => ?_)
    ·have hb9 : (decide ((IntKind.u64.wrap (x8.toNat : Int)) ≥ (IntKind.u64.wrap (r5.T.length : Int)))) = true := by simpa using hc9
     replace h := cond_yes hb9 h; refine VC.seqF tabOkF [some 45, none, some 7, some 8] [6, 7, 8] rfl rfl (fun K hK => ?_); push_cast [hb4, hb6, hx8, hx81, hx82, hb9]; (repeat refine .intro (by omega) ?_); refine hK _ ?_; clear hK K; refine VC.ret ?_; have hr := Option.some.inj h; subst hr; refine endS (Sub.of (s' := ⟨[(6, .ref 1 0), (7, .raw (.int .u32 0)), (8, .raw (.int .i64 10))], [(1, .box 49 [.raw (.int .u32 (r5.Ctx.a0.toNat : Int)), .raw (.int .u32 (r5.Ctx.a1.toNat : Int)), .raw (.int .u32 (r5.Ctx.a2.toNat : Int)), .raw (.int .u32 (r5.Ctx.a3.toNat : Int)), .row 16 0 6 0 r5.T.length, .raw (.int .u32 (r5.Seed.toNat : Int))]), (16, .row 27 6 0 (r5.T.map enc_Table))], 33, 123, 0⟩) (by push_cast [hb4, hb6, hb9]) (by push_cast [hb4, hb6, hb9]) ⟨rfl, rfl, Nat.le_of_ble_eq_true rfl⟩ rfl) ?_; refine endS (Sub.renB (b := 1) (j := 4) (i' := 0) rfl rfl rfl (Nat.le_of_ble_eq_true rfl) (Nat.le_of_ble_eq_true rfl) rfl) ?_; refine endP (Sub.lo _) (Post.ret ?_ ?_ ?_)
     ·push_cast [hb4, hb6, hb9]
     ·push_cast [hb4, hb6, hb9]
     ·rfl
    ·have hb9 : (decide ((IntKind.u64.wrap (x8.toNat : Int)) ≥ (IntKind.u64.wrap (r5.T.length : Int)))) = false := by simpa using hc9
     replace h := cond_no hb9 h; refine VC.skip ?_; obtain ⟨x10, hx10, h⟩ := po_some h; have hx102 := get_lt hx10; refine VC.seqFD tabOkF hmixO [some 46, some 47, some 48, some 49, some 50, some 51, some 52, some 53, some 54, some 10] [0, 2, 4, 6, 10] rfl rfl rfl (fun K hK => ?_); push_cast [hb4, hb6, hx8, hx81, hx82, hb9, hx10, hx102]; (repeat refine .intro (by omega) ?_); refine ⟨rfl, hK _ ?_⟩; clear hK K; obtain ⟨v11, h, hk11⟩ := po_some h; refine VC.seqJ (X := T_Env × Bool) (fun x => p_helper_Call_J11 a0 a2 x8 x10 x.1 x.2 = some r) (fun x => ⟨[(0, .raw (.int .i64 a0)), (2, .sl false (a2.map encU32)), (4, .ref 0 0), (6, .ref 1 0), (10, .ref 37 0), (11, .raw (.bool x.2))], [(0, .box 49 [.raw (.int .u32 (x.1.Ctx.a0.toNat : Int)), .raw (.int .u32 (x.1.Ctx.a1.toNat : Int)), .raw (.int .u32 (x.1.Ctx.a2.toNat : Int)), .raw (.int .u32 (x.1.Ctx.a3.toNat : Int)), .row 16 0 6 0 x.1.T.length, .raw (.int .u32 (x.1.Seed.toNat : Int))]), (1, .box 49 [.raw (.int .u32 0), .raw (.int .u32 0), .raw (.int .u32 0), .raw (.int .u32 0), .sl true [], .raw (.int .u32 0)]), (16, .row 27 6 0 (x.1.T.map enc_Table)), (37, .box 95 [.raw (.int .i64 x10.S.Kind), .raw (.int .i64 x10.S.Cap), .raw (.int .i64 x10.S.Words), .raw (.int .i64 x10.S.Ver), .sl false (x10.E.map enc_Entry), .raw (.int .u32 (x10.Next.toNat : Int))])], 46, 123, 0⟩) ?_ ?_
     ·rcases Bool.eq_false_or_eq_true (a0 == 0) with hb12 | hb12
      ·replace h := cond_yes hb12 h; refine VC.lastF tabOkF [some 55, some 56, some 57, some 58, some 59, some 60, some 11] rfl rfl (fun K hK => ?_); push_cast [hb4, hb6, hx8, hx81, hx82, hb9, hx10, hx102, hb12]; (repeat refine .intro (by omega) ?_); refine hK _ ?_; clear hK K; have hv := Option.some.inj h; rw [← hv] at hk11; refine Exists.intro ((r5, true)) (And.intro hk11 ?_); refine sof ?_ ?_ rfl rfl
       ·push_cast [hb4, hb6, hb9, hb12]
       ·push_cast [hb4, hb6, hb9, hb12]
      ·replace h := cond_no hb12 h; refine VC.lastF tabOkF [some 55, some 56, some 57, some 58, some 59, some 60, some 11] rfl rfl (fun K hK => ?_); push_cast [hb4, hb6, hx8, hx81, hx82, hb9, hx10, hx102, hb12]; (repeat refine .intro (by omega) ?_); refine hK _ ?_; clear hK K; have hv := Option.some.inj h; rw [← hv] at hk11; refine Exists.intro ((r5, (a0 == 1))) (And.intro hk11 ?_); refine sof ?_ ?_ rfl rfl
       ·push_cast [hb4, hb6, hb9, hb12]
       ·push_cast [hb4, hb6, hb9, hb12]
     ·rintro ⟨s_2, i_3⟩ h; replace h : p_helper_Call_J11 a0 a2 x8 x10 s_2 i_3 = some r := h; (try push_cast); unfold p_helper_Call_J11 at h; refine VC.seq ?_; obtain ⟨v13, h, hk13⟩ := po_some h; refine VC.seqJ (X := T_Env × Bool) (fun x => p_helper_Call_J13 a0 a2 x8 x10 x.1 x.2 = some r) (fun x => ⟨[(0, .raw (.int .i64 a0)), (2, .sl false (a2.map encU32)), (4, .ref 0 0), (6, .ref 1 0), (10, .ref 37 0), (92, .raw (.bool x.2))], [(0, .box 49 [.raw (.int .u32 (x.1.Ctx.a0.toNat : Int)), .raw (.int .u32 (x.1.Ctx.a1.toNat : Int)), .raw (.int .u32 (x.1.Ctx.a2.toNat : Int)), .raw (.int .u32 (x.1.Ctx.a3.toNat : Int)), .row 16 0 6 0 x.1.T.length, .raw (.int .u32 (x.1.Seed.toNat : Int))]), (1, .box 49 [.raw (.int .u32 0), .raw (.int .u32 0), .raw (.int .u32 0), .raw (.int .u32 0), .sl true [], .raw (.int .u32 0)]), (16, .row 27 6 0 (x.1.T.map enc_Table)), (37, .box 95 [.raw (.int .i64 x10.S.Kind), .raw (.int .i64 x10.S.Cap), .raw (.int .i64 x10.S.Words), .raw (.int .i64 x10.S.Ver), .sl false (x10.E.map enc_Entry), .raw (.int .u32 (x10.Next.toNat : Int))])], 78, 123, 0⟩) ?_ ?_
      ·obtain ⟨r14, hr14, h⟩ := po_some h; rcases Bool.eq_false_or_eq_true r14 with hb15 | hb15
       ·replace h := cond_yes hb15 h; obtain ⟨r16, hr16, h⟩ := po_some h; rcases Bool.eq_false_or_eq_true r16 with hb17 | hb17
        ·replace h := cond_yes hb17 h; rcases Bool.eq_false_or_eq_true i_3 with hb18 | hb18
         ·replace h := cond_yes hb18 h; obtain ⟨x19, hx19, h⟩ := po_some h; have hx191 := get_ltI hx19; have hx192 := get_lt hx19; refine VC.lastFD tabOkF hmixO [some 61, some 62, some 63, some 64, some 65, some 66, some 67, some 68, some 69, some 70, some 71, some 72, some 73, some 74, some 75, some 76, some 77, some 78, some 79, some 80, some 81, some 82, some 83, some 84, some 85, some 86, some 87, some 88, some 89, some 90, some 91, some 92] rfl rfl rfl (fun K hK => ?_); refine runD_cut 8 (fun K2 hK2 => ?_); push_cast [hb4, hb6, hx8, hx81, hx82, hb9, hx10, hx102, hb15, hb17, hb18, hx19, hx191, hx192]; (repeat refine .intro (by omega) ?_); refine callPD (Ctr.lo (c_helper_Fits a0 x10.S hr14)) rfl ?_; push_cast [hb4, hb6, hx8, hx81, hx82, hb9, hx10, hx102, hb15, hb17, hb18, hx19, hx191, hx192]; (repeat refine .intro (by omega) ?_); refine hK2 _ _ _ ?_; clear hK2 K2; simp only [List.drop_succ_cons, List.drop_zero]; refine runD_cut 8 (fun K2 hK2 => ?_); push_cast [hb4, hb6, hx8, hx81, hx82, hb9, hx10, hx102, hb15, hb17, hb18, hx19, hx191, hx192]; (repeat refine .intro (by omega) ?_); refine callPD (Ctr.lo (c_table_May x10 hr16)) rfl ?_; push_cast [hb4, hb6, hx8, hx81, hx82, hb9, hx10, hx102, hb15, hb17, hb18, hx19, hx191, hx192]; (repeat refine .intro (by omega) ?_); refine hK2 _ _ _ ?_; clear hK2 K2; simp only [List.drop_succ_cons, List.drop_zero]; refine runD_cut 8 (fun K2 hK2 => ?_); push_cast [hb4, hb6, hx8, hx81, hx82, hb9, hx10, hx102, hb15, hb17, hb18, hx19, hx191, hx192]; (repeat refine .intro (by omega) ?_); refine hK2 _ _ _ ?_; clear hK2 K2; simp only [List.drop_succ_cons, List.drop_zero]; push_cast [hb4, hb6, hx8, hx81, hx82, hb9, hx10, hx102, hb15, hb17, hb18, hx19, hx191, hx192]; (repeat refine .intro (by omega) ?_); refine ⟨rfl, hK _ ?_⟩; clear hK K; have hv := Option.some.inj h; rw [← hv] at hk13; refine Exists.intro ((s_2, (decide ((x19.toNat : Int) ≥ (IntKind.u32.wrap x10.S.Words))))) (And.intro hk13 ?_); refine sof ?_ ?_ rfl rfl
          ·push_cast [hb4, hb6, hb9, hb15, hb17, hb18]
          ·push_cast [hb4, hb6, hb9, hb15, hb17, hb18]
         ·replace h := cond_no hb18 h; refine VC.lastFD tabOkF hmixO [some 61, some 62, some 63, some 64, some 65, some 66, some 67, some 68, some 69, some 70, some 71, some 72, some 73, some 74, some 75, some 76, some 77, some 78, some 79, some 80, some 81, some 82, some 83, some 84, some 85, some 86, some 87, some 88, some 89, some 90, some 91, some 92] rfl rfl rfl (fun K hK => ?_); refine runD_cut 8 (fun K2 hK2 => ?_); push_cast [hb4, hb6, hx8, hx81, hx82, hb9, hx10, hx102, hb15, hb17, hb18]; (repeat refine .intro (by omega) ?_); refine callPD (Ctr.lo (c_helper_Fits a0 x10.S hr14)) rfl ?_; push_cast [hb4, hb6, hx8, hx81, hx82, hb9, hx10, hx102, hb15, hb17, hb18]; (repeat refine .intro (by omega) ?_); refine hK2 _ _ _ ?_; clear hK2 K2; simp only [List.drop_succ_cons, List.drop_zero]; refine runD_cut 8 (fun K2 hK2 => ?_); push_cast [hb4, hb6, hx8, hx81, hx82, hb9, hx10, hx102, hb15, hb17, hb18]; (repeat refine .intro (by omega) ?_); refine callPD (Ctr.lo (c_table_May x10 hr16)) rfl ?_; push_cast [hb4, hb6, hx8, hx81, hx82, hb9, hx10, hx102, hb15, hb17, hb18]; (repeat refine .intro (by omega) ?_); refine hK2 _ _ _ ?_; clear hK2 K2; simp only [List.drop_succ_cons, List.drop_zero]; refine runD_cut 8 (fun K2 hK2 => ?_); push_cast [hb4, hb6, hx8, hx81, hx82, hb9, hx10, hx102, hb15, hb17, hb18]; (repeat refine .intro (by omega) ?_); refine hK2 _ _ _ ?_; clear hK2 K2; simp only [List.drop_succ_cons, List.drop_zero]; push_cast [hb4, hb6, hx8, hx81, hx82, hb9, hx10, hx102, hb15, hb17, hb18]; (repeat refine .intro (by omega) ?_); refine ⟨rfl, hK _ ?_⟩; clear hK K; have hv := Option.some.inj h; rw [← hv] at hk13; refine Exists.intro ((s_2, false)) (And.intro hk13 ?_); refine sof ?_ ?_ rfl rfl
          ·push_cast [hb4, hb6, hb9, hb15, hb17, hb18]
          ·push_cast [hb4, hb6, hb9, hb15, hb17, hb18]
        ·replace h := cond_no hb17 h; refine VC.lastFD tabOkF hmixO [some 61, some 62, some 63, some 64, some 65, some 66, some 67, some 68, some 69, some 70, some 71, some 72, some 73, some 74, some 75, some 76, some 77, some 78, some 79, some 80, some 81, some 82, some 83, some 84, some 85, some 86, some 87, some 88, some 89, some 90, some 91, some 92] rfl rfl rfl (fun K hK => ?_); refine runD_cut 8 (fun K2 hK2 => ?_); push_cast [hb4, hb6, hx8, hx81, hx82, hb9, hx10, hx102, hb15, hb17]; (repeat refine .intro (by omega) ?_); refine callPD (Ctr.lo (c_helper_Fits a0 x10.S hr14)) rfl ?_; push_cast [hb4, hb6, hx8, hx81, hx82, hb9, hx10, hx102, hb15, hb17]; (repeat refine .intro (by omega) ?_); refine hK2 _ _ _ ?_; clear hK2 K2; simp only [List.drop_succ_cons, List.drop_zero]; refine runD_cut 8 (fun K2 hK2 => ?_); push_cast [hb4, hb6, hx8, hx81, hx82, hb9, hx10, hx102, hb15, hb17]; (repeat refine .intro (by omega) ?_); refine callPD (Ctr.lo (c_table_May x10 hr16)) rfl ?_; push_cast [hb4, hb6, hx8, hx81, hx82, hb9, hx10, hx102, hb15, hb17]; (repeat refine .intro (by omega) ?_); refine hK2 _ _ _ ?_; clear hK2 K2; simp only [List.drop_succ_cons, List.drop_zero]; refine runD_cut 8 (fun K2 hK2 => ?_); push_cast [hb4, hb6, hx8, hx81, hx82, hb9, hx10, hx102, hb15, hb17]; (repeat refine .intro (by omega) ?_); refine hK2 _ _ _ ?_; clear hK2 K2; simp only [List.drop_succ_cons, List.drop_zero]; push_cast [hb4, hb6, hx8, hx81, hx82, hb9, hx10, hx102, hb15, hb17]; (repeat refine .intro (by omega) ?_); refine ⟨rfl, hK _ ?_⟩; clear hK K; have hv := Option.some.inj h; rw [← hv] at hk13; refine Exists.intro ((s_2, true)) (And.intro hk13 ?_); refine sof ?_ ?_ rfl rfl
         ·push_cast [hb4, hb6, hb9, hb15, hb17]
         ·push_cast [hb4, hb6, hb9, hb15, hb17]
       ·replace h := cond_no hb15 h; refine VC.lastFD tabOkF hmixO [some 61, some 62, some 63, some 64, some 65, some 66, some 67, some 68, some 69, some 70, some 71, some 72, some 73, some 74, some 75, some 76, some 77, some 78, some 79, some 80, some 81, some 82, some 83, some 84, some 85, some 86, some 87, some 88, some 89, some 90, some 91, some 92] rfl rfl rfl (fun K hK => ?_); refine runD_cut 8 (fun K2 hK2 => ?_); push_cast [hb4, hb6, hx8, hx81, hx82, hb9, hx10, hx102, hb15]; (repeat refine .intro (by omega) ?_); refine callPD (Ctr.lo (c_helper_Fits a0 x10.S hr14)) rfl ?_; push_cast [hb4, hb6, hx8, hx81, hx82, hb9, hx10, hx102, hb15]; (repeat refine .intro (by omega) ?_); refine hK2 _ _ _ ?_; clear hK2 K2; simp only [List.drop_succ_cons, List.drop_zero]; refine runD_cut 8 (fun K2 hK2 => ?_); push_cast [hb4, hb6, hx8, hx81, hx82, hb9, hx10, hx102, hb15]; (repeat refine .intro (by omega) ?_); refine hK2 _ _ _ ?_; clear hK2 K2; simp only [List.drop_succ_cons, List.drop_zero]; refine runD_cut 8 (fun K2 hK2 => ?_); push_cast [hb4, hb6, hx8, hx81, hx82, hb9, hx10, hx102, hb15]; (repeat refine .intro (by omega) ?_); refine hK2 _ _ _ ?_; clear hK2 K2; simp only [List.drop_succ_cons, List.drop_zero]; push_cast [hb4, hb6, hx8, hx81, hx82, hb9, hx10, hx102, hb15]; (repeat refine .intro (by omega) ?_); refine ⟨rfl, hK _ ?_⟩; clear hK K; have hv := Option.some.inj h; rw [← hv] at hk13; refine Exists.intro ((s_2, true)) (And.intro hk13 ?_); refine sof ?_ ?_ rfl rfl
        ·push_cast [hb4, hb6, hb9, hb15]
        ·push_cast [hb4, hb6, hb9, hb15]
      ·rintro ⟨s_4, i_5⟩ h; replace h : p_helper_Call_J13 a0 a2 x8 x10 s_4 i_5 = some r := h; (try push_cast); unfold p_helper_Call_J13 at h; refine VC.cond rfl rfl (fun hc20 => ?_) (fun hc20 => ?_)
       ·have hb20 : i_5 = true := by simpa using hc20
        replace h := cond_yes hb20 h; refine VC.seqF tabOkF [some 93, none, some 7, some 8] [6, 7, 8] rfl rfl (fun K hK => ?_); push_cast [hb4, hb6, hx8, hx81, hx82, hb9, hx10, hx102, hb20]; (repeat refine .intro (by omega) ?_); refine hK _ ?_; clear hK K; refine VC.ret ?_; have hr := Option.some.inj h; subst hr; refine endS (Sub.of (s' := ⟨[(6, .ref 1 0), (7, .raw (.int .u32 0)), (8, .raw (.int .i64 10))], [(1, .box 49 [.raw (.int .u32 (s_4.Ctx.a0.toNat : Int)), .raw (.int .u32 (s_4.Ctx.a1.toNat : Int)), .raw (.int .u32 (s_4.Ctx.a2.toNat : Int)), .raw (.int .u32 (s_4.Ctx.a3.toNat : Int)), .row 16 0 6 0 s_4.T.length, .raw (.int .u32 (s_4.Seed.toNat : Int))]), (16, .row 27 6 0 (s_4.T.map enc_Table))], 82, 123, 0⟩) (by push_cast [hb4, hb6, hb9, hb20]) (by push_cast [hb4, hb6, hb9, hb20]) ⟨rfl, rfl, Nat.le_of_ble_eq_true rfl⟩ rfl) ?_; refine endS (Sub.renB (b := 1) (j := 4) (i' := 0) rfl rfl rfl (Nat.le_of_ble_eq_true rfl) (Nat.le_of_ble_eq_true rfl) rfl) ?_; refine endP (Sub.lo _) (Post.ret ?_ ?_ ?_)
        ·push_cast [hb4, hb6, hb9, hb20]
        ·push_cast [hb4, hb6, hb9, hb20]
        ·rfl
       ·have hb20 : i_5 = false := by simpa using hc20
        replace h := cond_no hb20 h; refine VC.skip ?_; rcases Bool.eq_false_or_eq_true (a0 == 0) with hb21 | hb21
        ·replace h := cond_yes hb21 h; refine VC.seqF tabOkF [some 94, some 95, some 96, none, some 97, some 98, none, some 99, some 100, none, some 101, some 102, none, some 103, some 104, none, some 105, some 106, some 107, some 12] [2, 4, 6, 10, 12] rfl rfl (fun K hK => ?_); refine runOps_cut 8 (fun K2 hK2 => ?_); push_cast [hb4, hb6, hx8, hx81, hx82, hb9, hx10, hx102, hb20, hb21]; (repeat refine .intro (by omega) ?_); refine hK2 _ _ ?_; clear hK2 K2; simp only [List.drop_succ_cons, List.drop_zero]; refine runOps_cut 8 (fun K2 hK2 => ?_); push_cast [hb4, hb6, hx8, hx81, hx82, hb9, hx10, hx102, hb20, hb21]; (repeat refine .intro (by omega) ?_); refine hK2 _ _ ?_; clear hK2 K2; simp only [List.drop_succ_cons, List.drop_zero]; push_cast [hb4, hb6, hx8, hx81, hx82, hb9, hx10, hx102, hb20, hb21]; (repeat refine .intro (by omega) ?_); refine hK _ ?_; clear hK K; obtain ⟨r22, hr22, h⟩ := po_some h; refine VC.seqF tabOkF [some 108, some 109, some 110, some 13] [2, 4, 6, 10, 13] rfl rfl (fun K hK => ?_); push_cast [hb4, hb6, hx8, hx81, hx82, hb9, hx10, hx102, hb20, hb21]; (repeat refine .intro (by omega) ?_); refine callH (H := [(37, .box 95 [.raw (.int .i64 x10.S.Kind), .raw (.int .i64 x10.S.Cap), .raw (.int .i64 x10.S.Words), .raw (.int .i64 x10.S.Ver), .sl false (x10.E.map enc_Entry), .raw (.int .u32 (x10.Next.toNat : Int))])]) (Ctr.loH (Ctr.ren (Bij.swp 0 37 Bij.id) (c_helper_call_get (T_helper_call.mk x10) a2 hr22) (by push_cast [hb4, hb6, hx8, hx81, hx82, hb9, hx10, hx102, hb20, hb21]) (by push_cast [hb4, hb6, hx8, hx81, hx82, hb9, hx10, hx102, hb20, hb21]))) (by push_cast [hb4, hb6, hx8, hx81, hx82, hb9, hx10, hx102, hb20, hb21]) rfl rfl rfl ?_; push_cast [hb4, hb6, hx8, hx81, hx82, hb9, hx10, hx102, hb20, hb21]; (repeat refine .intro (by omega) ?_); refine hK _ ?_; clear hK K; refine VC.sub (s' := ⟨[(2, .sl false (a2.map encU32)), (4, .ref 0 0), (6, .ref 1 0), (10, .ref 37 0), (13, .raw (.int .u32 (r22.1.toNat : Int)))], [(0, .box 49 [.raw (.int .u32 (s_4.Ctx.a0.toNat : Int)), .raw (.int .u32 (s_4.Ctx.a1.toNat : Int)), .raw (.int .u32 (s_4.Ctx.a2.toNat : Int)), .raw (.int .u32 (s_4.Ctx.a3.toNat : Int)), .row 16 0 6 0 s_4.T.length, .raw (.int .u32 (s_4.Seed.toNat : Int))]), (1, .box 49 [.raw (.int .u32 0), .raw (.int .u32 0), .raw (.int .u32 0), .raw (.int .u32 0), .sl true [], .raw (.int .u32 0)]), (16, .row 27 6 0 (s_4.T.map enc_Table)), (37, .box 95 [.raw (.int .i64 r22.2.t.S.Kind), .raw (.int .i64 r22.2.t.S.Cap), .raw (.int .i64 r22.2.t.S.Words), .raw (.int .i64 r22.2.t.S.Ver), .sl false (r22.2.t.E.map enc_Entry), .raw (.int .u32 (r22.2.t.Next.toNat : Int))])], 102, 123, 0⟩) (sof ?_ ?_ rfl rfl) ?_
         ·push_cast [hb4, hb6, hb9, hb20, hb21]
         ·push_cast [hb4, hb6, hb9, hb20, hb21]
         obtain ⟨x23, hx23, h⟩ := po_some h; have hx232 := get_lt hx23; obtain ⟨y24, hy24, h⟩ := pl_some h; have hy24l : y24.length = s_4.T.length := by rw [hy24, List.length_set]
         refine VC.seqFD tabOkF hmixO [some 111, some 112, some 113, some 114, some 115, some 116, some 117, some 118, some 119, some 120, none] [4, 6, 13] rfl rfl rfl (fun K hK => ?_); refine runD_cut 8 (fun K2 hK2 => ?_); push_cast [hb4, hb6, hx8, hx81, hx82, hb9, hx10, hx102, hb20, hb21, hx23, hx232]; (repeat refine .intro (by omega) ?_); refine hK2 _ _ _ ?_; clear hK2 K2; simp only [List.drop_succ_cons, List.drop_zero]; push_cast [hb4, hb6, hx8, hx81, hx82, hb9, hx10, hx102, hb20, hb21, hx23, hx232]; (repeat refine .intro (by omega) ?_); refine ⟨rfl, hK _ ?_⟩; clear hK K; refine VC.sub (s' := ⟨[(4, .ref 0 0), (6, .ref 1 0), (13, .raw (.int .u32 (r22.1.toNat : Int)))], [(0, .box 49 [.raw (.int .u32 (s_4.Ctx.a0.toNat : Int)), .raw (.int .u32 (s_4.Ctx.a1.toNat : Int)), .raw (.int .u32 (s_4.Ctx.a2.toNat : Int)), .raw (.int .u32 (s_4.Ctx.a3.toNat : Int)), .row 16 0 6 0 y24.length, .raw (.int .u32 (s_4.Seed.toNat : Int))]), (1, .box 49 [.raw (.int .u32 0), .raw (.int .u32 0), .raw (.int .u32 0), .raw (.int .u32 0), .sl true [], .raw (.int .u32 0)]), (16, .row 27 6 0 (y24.map enc_Table))], 113, 123, 0⟩) (sof ?_ ?_ rfl rfl) ?_
         ·push_cast [hb4, hb6, hb9, hb20, hb21, hy24, hy24l]
         ·push_cast [hb4, hb6, hb9, hb20, hb21, hy24, hy24l]
         refine VC.seqF tabOkF [some 121, some 122, none, some 7, some 8] [6, 7, 8] rfl rfl (fun K hK => ?_); push_cast [hb4, hb6, hx8, hx81, hx82, hb9, hx10, hx102, hb20, hb21, hx23, hx232]; (repeat refine .intro (by omega) ?_); refine hK _ ?_; clear hK K; refine VC.ret ?_; have hr := Option.some.inj h; subst hr; refine endS (Sub.of (s' := ⟨[(6, .ref 1 0), (7, .raw (.int .u32 (r22.1.toNat : Int))), (8, .raw (.int .i64 0))], [(1, .box 49 [.raw (.int .u32 (s_4.Ctx.a0.toNat : Int)), .raw (.int .u32 (s_4.Ctx.a1.toNat : Int)), .raw (.int .u32 (s_4.Ctx.a2.toNat : Int)), .raw (.int .u32 (s_4.Ctx.a3.toNat : Int)), .row 16 0 6 0 y24.length, .raw (.int .u32 (s_4.Seed.toNat : Int))]), (16, .row 27 6 0 (y24.map enc_Table))], 118, 123, 0⟩) (by push_cast [hb4, hb6, hb9, hb20, hb21, hy24, hy24l]) (by push_cast [hb4, hb6, hb9, hb20, hb21, hy24, hy24l]) ⟨rfl, rfl, Nat.le_of_ble_eq_true rfl⟩ rfl) ?_; refine endS (Sub.renB (b := 1) (j := 4) (i' := 0) rfl rfl rfl (Nat.le_of_ble_eq_true rfl) (Nat.le_of_ble_eq_true rfl) rfl) ?_; refine endP (Sub.lo _) (Post.ret ?_ ?_ ?_)
         ·push_cast [hb4, hb6, hb9, hb20, hb21, hy24, hy24l]
         ·push_cast [hb4, hb6, hb9, hb20, hb21, hy24, hy24l]
         ·rfl
        ·replace h := cond_no hb21 h; rcases Bool.eq_false_or_eq_true (a0 == 1) with hb25 | hb25
         ·replace h := cond_yes hb25 h; refine VC.seqF tabOkF [some 94, some 95, some 96, none, some 97, some 98, none, some 99, some 100, none, some 101, some 102, none, some 103, some 104, none, some 105, some 106, some 107, some 12] [2, 4, 6, 10, 12] rfl rfl (fun K hK => ?_); refine runOps_cut 8 (fun K2 hK2 => ?_); push_cast [hb4, hb6, hx8, hx81, hx82, hb9, hx10, hx102, hb20, hb21, hb25]; (repeat refine .intro (by omega) ?_); refine hK2 _ _ ?_; clear hK2 K2; simp only [List.drop_succ_cons, List.drop_zero]; refine runOps_cut 8 (fun K2 hK2 => ?_); push_cast [hb4, hb6, hx8, hx81, hx82, hb9, hx10, hx102, hb20, hb21, hb25]; (repeat refine .intro (by omega) ?_); refine hK2 _ _ ?_; clear hK2 K2; simp only [List.drop_succ_cons, List.drop_zero]; push_cast [hb4, hb6, hx8, hx81, hx82, hb9, hx10, hx102, hb20, hb21, hb25]; (repeat refine .intro (by omega) ?_); refine hK _ ?_; clear hK K; obtain ⟨r26, hr26, h⟩ := po_some h; refine VC.seqF tabOkF [some 108, some 109, some 110, some 13] [2, 4, 6, 10, 13] rfl rfl (fun K hK => ?_); push_cast [hb4, hb6, hx8, hx81, hx82, hb9, hx10, hx102, hb20, hb21, hb25]; (repeat refine .intro (by omega) ?_); refine callH (H := [(37, .box 95 [.raw (.int .i64 x10.S.Kind), .raw (.int .i64 x10.S.Cap), .raw (.int .i64 x10.S.Words), .raw (.int .i64 x10.S.Ver), .sl false (x10.E.map enc_Entry), .raw (.int .u32 (x10.Next.toNat : Int))])]) (Ctr.loH (Ctr.ren (Bij.swp 0 37 Bij.id) (c_helper_call_set (T_helper_call.mk x10) a2 hr26) (by push_cast [hb4, hb6, hx8, hx81, hx82, hb9, hx10, hx102, hb20, hb21, hb25]) (by push_cast [hb4, hb6, hx8, hx81, hx82, hb9, hx10, hx102, hb20, hb21, hb25]))) (by push_cast [hb4, hb6, hx8, hx81, hx82, hb9, hx10, hx102, hb20, hb21, hb25]) rfl rfl rfl ?_; push_cast [hb4, hb6, hx8, hx81, hx82, hb9, hx10, hx102, hb20, hb21, hb25]; (repeat refine .intro (by omega) ?_); refine hK _ ?_; clear hK K; refine VC.sub (s' := ⟨[(2, .sl false (a2.map encU32)), (4, .ref 0 0), (6, .ref 1 0), (10, .ref 37 0), (13, .raw (.int .u32 (r26.1.toNat : Int)))], [(0, .box 49 [.raw (.int .u32 (s_4.Ctx.a0.toNat : Int)), .raw (.int .u32 (s_4.Ctx.a1.toNat : Int)), .raw (.int .u32 (s_4.Ctx.a2.toNat : Int)), .raw (.int .u32 (s_4.Ctx.a3.toNat : Int)), .row 16 0 6 0 s_4.T.length, .raw (.int .u32 (s_4.Seed.toNat : Int))]), (1, .box 49 [.raw (.int .u32 0), .raw (.int .u32 0), .raw (.int .u32 0), .raw (.int .u32 0), .sl true [], .raw (.int .u32 0)]), (16, .row 27 6 0 (s_4.T.map enc_Table)), (37, .box 95 [.raw (.int .i64 r26.2.t.S.Kind), .raw (.int .i64 r26.2.t.S.Cap), .raw (.int .i64 r26.2.t.S.Words), .raw (.int .i64 r26.2.t.S.Ver), .sl false (r26.2.t.E.map enc_Entry), .raw (.int .u32 (r26.2.t.Next.toNat : Int))])], 102, 123, 0⟩) (sof ?_ ?_ rfl rfl) ?_
          ·push_cast [hb4, hb6, hb9, hb20, hb21, hb25]
          ·push_cast [hb4, hb6, hb9, hb20, hb21, hb25]
          obtain ⟨x27, hx27, h⟩ := po_some h; have hx272 := get_lt hx27; obtain ⟨y28, hy28, h⟩ := pl_some h; have hy28l : y28.length = s_4.T.length := by rw [hy28, List.length_set]
          refine VC.seqFD tabOkF hmixO [some 111, some 112, some 113, some 114, some 115, some 116, some 117, some 118, some 119, some 120, none] [4, 6, 13] rfl rfl rfl (fun K hK => ?_); refine runD_cut 8 (fun K2 hK2 => ?_); push_cast [hb4, hb6, hx8, hx81, hx82, hb9, hx10, hx102, hb20, hb21, hb25, hx27, hx272]; (repeat refine .intro (by omega) ?_); refine hK2 _ _ _ ?_; clear hK2 K2; simp only [List.drop_succ_cons, List.drop_zero]; push_cast [hb4, hb6, hx8, hx81, hx82, hb9, hx10, hx102, hb20, hb21, hb25, hx27, hx272]; (repeat refine .intro (by omega) ?_); refine ⟨rfl, hK _ ?_⟩; clear hK K; refine VC.sub (s' := ⟨[(4, .ref 0 0), (6, .ref 1 0), (13, .raw (.int .u32 (r26.1.toNat : Int)))], [(0, .box 49 [.raw (.int .u32 (s_4.Ctx.a0.toNat : Int)), .raw (.int .u32 (s_4.Ctx.a1.toNat : Int)), .raw (.int .u32 (s_4.Ctx.a2.toNat : Int)), .raw (.int .u32 (s_4.Ctx.a3.toNat : Int)), .row 16 0 6 0 y28.length, .raw (.int .u32 (s_4.Seed.toNat : Int))]), (1, .box 49 [.raw (.int .u32 0), .raw (.int .u32 0), .raw (.int .u32 0), .raw (.int .u32 0), .sl true [], .raw (.int .u32 0)]), (16, .row 27 6 0 (y28.map enc_Table))], 113, 123, 0⟩) (sof ?_ ?_ rfl rfl) ?_
          ·push_cast [hb4, hb6, hb9, hb20, hb21, hb25, hy28, hy28l]
          ·push_cast [hb4, hb6, hb9, hb20, hb21, hb25, hy28, hy28l]
          refine VC.seqF tabOkF [some 121, some 122, none, some 7, some 8] [6, 7, 8] rfl rfl (fun K hK => ?_); push_cast [hb4, hb6, hx8, hx81, hx82, hb9, hx10, hx102, hb20, hb21, hb25, hx27, hx272]; (repeat refine .intro (by omega) ?_); refine hK _ ?_; clear hK K; refine VC.ret ?_; have hr := Option.some.inj h; subst hr; refine endS (Sub.of (s' := ⟨[(6, .ref 1 0), (7, .raw (.int .u32 (r26.1.toNat : Int))), (8, .raw (.int .i64 0))], [(1, .box 49 [.raw (.int .u32 (s_4.Ctx.a0.toNat : Int)), .raw (.int .u32 (s_4.Ctx.a1.toNat : Int)), .raw (.int .u32 (s_4.Ctx.a2.toNat : Int)), .raw (.int .u32 (s_4.Ctx.a3.toNat : Int)), .row 16 0 6 0 y28.length, .raw (.int .u32 (s_4.Seed.toNat : Int))]), (16, .row 27 6 0 (y28.map enc_Table))], 118, 123, 0⟩) (by push_cast [hb4, hb6, hb9, hb20, hb21, hb25, hy28, hy28l]) (by push_cast [hb4, hb6, hb9, hb20, hb21, hb25, hy28, hy28l]) ⟨rfl, rfl, Nat.le_of_ble_eq_true rfl⟩ rfl) ?_; refine endS (Sub.renB (b := 1) (j := 4) (i' := 0) rfl rfl rfl (Nat.le_of_ble_eq_true rfl) (Nat.le_of_ble_eq_true rfl) rfl) ?_; refine endP (Sub.lo _) (Post.ret ?_ ?_ ?_)
          ·push_cast [hb4, hb6, hb9, hb20, hb21, hb25, hy28, hy28l]
          ·push_cast [hb4, hb6, hb9, hb20, hb21, hb25, hy28, hy28l]
          ·rfl
         ·replace h := cond_no hb25 h; rcases Bool.eq_false_or_eq_true (a0 == 2) with hb29 | hb29
          ·replace h := cond_yes hb29 h; refine VC.seqF tabOkF [some 94, some 95, some 96, none, some 97, some 98, none, some 99, some 100, none, some 101, some 102, none, some 103, some 104, none, some 105, some 106, some 107, some 12] [2, 4, 6, 10, 12] rfl rfl (fun K hK => ?_); refine runOps_cut 8 (fun K2 hK2 => ?_); push_cast [hb4, hb6, hx8, hx81, hx82, hb9, hx10, hx102, hb20, hb21, hb25, hb29]; (repeat refine .intro (by omega) ?_); refine hK2 _ _ ?_; clear hK2 K2; simp only [List.drop_succ_cons, List.drop_zero]; refine runOps_cut 8 (fun K2 hK2 => ?_); push_cast [hb4, hb6, hx8, hx81, hx82, hb9, hx10, hx102, hb20, hb21, hb25, hb29]; (repeat refine .intro (by omega) ?_); refine hK2 _ _ ?_; clear hK2 K2; simp only [List.drop_succ_cons, List.drop_zero]; push_cast [hb4, hb6, hx8, hx81, hx82, hb9, hx10, hx102, hb20, hb21, hb25, hb29]; (repeat refine .intro (by omega) ?_); refine hK _ ?_; clear hK K; obtain ⟨r30, hr30, h⟩ := po_some h; refine VC.seqF tabOkF [some 108, some 109, some 110, some 13] [2, 4, 6, 10, 13] rfl rfl (fun K hK => ?_); push_cast [hb4, hb6, hx8, hx81, hx82, hb9, hx10, hx102, hb20, hb21, hb25, hb29]; (repeat refine .intro (by omega) ?_); refine callH (H := [(37, .box 95 [.raw (.int .i64 x10.S.Kind), .raw (.int .i64 x10.S.Cap), .raw (.int .i64 x10.S.Words), .raw (.int .i64 x10.S.Ver), .sl false (x10.E.map enc_Entry), .raw (.int .u32 (x10.Next.toNat : Int))])]) (Ctr.loH (Ctr.ren (Bij.swp 0 37 Bij.id) (c_helper_call_del (T_helper_call.mk x10) a2 hr30) (by push_cast [hb4, hb6, hx8, hx81, hx82, hb9, hx10, hx102, hb20, hb21, hb25, hb29]) (by push_cast [hb4, hb6, hx8, hx81, hx82, hb9, hx10, hx102, hb20, hb21, hb25, hb29]))) (by push_cast [hb4, hb6, hx8, hx81, hx82, hb9, hx10, hx102, hb20, hb21, hb25, hb29]) rfl rfl rfl ?_; push_cast [hb4, hb6, hx8, hx81, hx82, hb9, hx10, hx102, hb20, hb21, hb25, hb29]; (repeat refine .intro (by omega) ?_); refine hK _ ?_; clear hK K; refine VC.sub (s' := ⟨[(2, .sl false (a2.map encU32)), (4, .ref 0 0), (6, .ref 1 0), (10, .ref 37 0), (13, .raw (.int .u32 (r30.1.toNat : Int)))], [(0, .box 49 [.raw (.int .u32 (s_4.Ctx.a0.toNat : Int)), .raw (.int .u32 (s_4.Ctx.a1.toNat : Int)), .raw (.int .u32 (s_4.Ctx.a2.toNat : Int)), .raw (.int .u32 (s_4.Ctx.a3.toNat : Int)), .row 16 0 6 0 s_4.T.length, .raw (.int .u32 (s_4.Seed.toNat : Int))]), (1, .box 49 [.raw (.int .u32 0), .raw (.int .u32 0), .raw (.int .u32 0), .raw (.int .u32 0), .sl true [], .raw (.int .u32 0)]), (16, .row 27 6 0 (s_4.T.map enc_Table)), (37, .box 95 [.raw (.int .i64 r30.2.t.S.Kind), .raw (.int .i64 r30.2.t.S.Cap), .raw (.int .i64 r30.2.t.S.Words), .raw (.int .i64 r30.2.t.S.Ver), .sl false (r30.2.t.E.map enc_Entry), .raw (.int .u32 (r30.2.t.Next.toNat : Int))])], 102, 123, 0⟩) (sof ?_ ?_ rfl rfl) ?_
           ·push_cast [hb4, hb6, hb9, hb20, hb21, hb25, hb29]
           ·push_cast [hb4, hb6, hb9, hb20, hb21, hb25, hb29]
           obtain ⟨x31, hx31, h⟩ := po_some h; have hx312 := get_lt hx31; obtain ⟨y32, hy32, h⟩ := pl_some h; have hy32l : y32.length = s_4.T.length := by rw [hy32, List.length_set]
           refine VC.seqFD tabOkF hmixO [some 111, some 112, some 113, some 114, some 115, some 116, some 117, some 118, some 119, some 120, none] [4, 6, 13] rfl rfl rfl (fun K hK => ?_); refine runD_cut 8 (fun K2 hK2 => ?_); push_cast [hb4, hb6, hx8, hx81, hx82, hb9, hx10, hx102, hb20, hb21, hb25, hb29, hx31, hx312]; (repeat refine .intro (by omega) ?_); refine hK2 _ _ _ ?_; clear hK2 K2; simp only [List.drop_succ_cons, List.drop_zero]; push_cast [hb4, hb6, hx8, hx81, hx82, hb9, hx10, hx102, hb20, hb21, hb25, hb29, hx31, hx312]; (repeat refine .intro (by omega) ?_); refine ⟨rfl, hK _ ?_⟩; clear hK K; refine VC.sub (s' := ⟨[(4, .ref 0 0), (6, .ref 1 0), (13, .raw (.int .u32 (r30.1.toNat : Int)))], [(0, .box 49 [.raw (.int .u32 (s_4.Ctx.a0.toNat : Int)), .raw (.int .u32 (s_4.Ctx.a1.toNat : Int)), .raw (.int .u32 (s_4.Ctx.a2.toNat : Int)), .raw (.int .u32 (s_4.Ctx.a3.toNat : Int)), .row 16 0 6 0 y32.length, .raw (.int .u32 (s_4.Seed.toNat : Int))]), (1, .box 49 [.raw (.int .u32 0), .raw (.int .u32 0), .raw (.int .u32 0), .raw (.int .u32 0), .sl true [], .raw (.int .u32 0)]), (16, .row 27 6 0 (y32.map enc_Table))], 113, 123, 0⟩) (sof ?_ ?_ rfl rfl) ?_
           ·push_cast [hb4, hb6, hb9, hb20, hb21, hb25, hb29, hy32, hy32l]
           ·push_cast [hb4, hb6, hb9, hb20, hb21, hb25, hb29, hy32, hy32l]
           refine VC.seqF tabOkF [some 121, some 122, none, some 7, some 8] [6, 7, 8] rfl rfl (fun K hK => ?_); push_cast [hb4, hb6, hx8, hx81, hx82, hb9, hx10, hx102, hb20, hb21, hb25, hb29, hx31, hx312]; (repeat refine .intro (by omega) ?_); refine hK _ ?_; clear hK K; refine VC.ret ?_; have hr := Option.some.inj h; subst hr; refine endS (Sub.of (s' := ⟨[(6, .ref 1 0), (7, .raw (.int .u32 (r30.1.toNat : Int))), (8, .raw (.int .i64 0))], [(1, .box 49 [.raw (.int .u32 (s_4.Ctx.a0.toNat : Int)), .raw (.int .u32 (s_4.Ctx.a1.toNat : Int)), .raw (.int .u32 (s_4.Ctx.a2.toNat : Int)), .raw (.int .u32 (s_4.Ctx.a3.toNat : Int)), .row 16 0 6 0 y32.length, .raw (.int .u32 (s_4.Seed.toNat : Int))]), (16, .row 27 6 0 (y32.map enc_Table))], 118, 123, 0⟩) (by push_cast [hb4, hb6, hb9, hb20, hb21, hb25, hb29, hy32, hy32l]) (by push_cast [hb4, hb6, hb9, hb20, hb21, hb25, hb29, hy32, hy32l]) ⟨rfl, rfl, Nat.le_of_ble_eq_true rfl⟩ rfl) ?_; refine endS (Sub.renB (b := 1) (j := 4) (i' := 0) rfl rfl rfl (Nat.le_of_ble_eq_true rfl) (Nat.le_of_ble_eq_true rfl) rfl) ?_; refine endP (Sub.lo _) (Post.ret ?_ ?_ ?_)
           ·push_cast [hb4, hb6, hb9, hb20, hb21, hb25, hb29, hy32, hy32l]
           ·push_cast [hb4, hb6, hb9, hb20, hb21, hb25, hb29, hy32, hy32l]
           ·rfl
          ·replace h := cond_no hb29 h; rcases Bool.eq_false_or_eq_true (a0 == 3) with hb33 | hb33
           ·replace h := cond_yes hb33 h; refine VC.seqF tabOkF [some 94, some 95, some 96, none, some 97, some 98, none, some 99, some 100, none, some 101, some 102, none, some 103, some 104, none, some 105, some 106, some 107, some 12] [2, 4, 6, 10, 12] rfl rfl (fun K hK => ?_); refine runOps_cut 8 (fun K2 hK2 => ?_); push_cast [hb4, hb6, hx8, hx81, hx82, hb9, hx10, hx102, hb20, hb21, hb25, hb29, hb33]; (repeat refine .intro (by omega) ?_); refine hK2 _ _ ?_; clear hK2 K2; simp only [List.drop_succ_cons, List.drop_zero]; refine runOps_cut 8 (fun K2 hK2 => ?_); push_cast [hb4, hb6, hx8, hx81, hx82, hb9, hx10, hx102, hb20, hb21, hb25, hb29, hb33]; (repeat refine .intro (by omega) ?_); refine hK2 _ _ ?_; clear hK2 K2; simp only [List.drop_succ_cons, List.drop_zero]; push_cast [hb4, hb6, hx8, hx81, hx82, hb9, hx10, hx102, hb20, hb21, hb25, hb29, hb33]; (repeat refine .intro (by omega) ?_); refine hK _ ?_; clear hK K; obtain ⟨r34, hr34, h⟩ := po_some h; refine VC.seqF tabOkF [some 108, some 109, some 110, some 13] [2, 4, 6, 10, 13] rfl rfl (fun K hK => ?_); push_cast [hb4, hb6, hx8, hx81, hx82, hb9, hx10, hx102, hb20, hb21, hb25, hb29, hb33]; (repeat refine .intro (by omega) ?_); refine callH (H := [(37, .box 95 [.raw (.int .i64 x10.S.Kind), .raw (.int .i64 x10.S.Cap), .raw (.int .i64 x10.S.Words), .raw (.int .i64 x10.S.Ver), .sl false (x10.E.map enc_Entry), .raw (.int .u32 (x10.Next.toNat : Int))])]) (Ctr.loH (Ctr.ren (Bij.swp 0 37 Bij.id) (c_helper_call_has (T_helper_call.mk x10) a2 hr34) (by push_cast [hb4, hb6, hx8, hx81, hx82, hb9, hx10, hx102, hb20, hb21, hb25, hb29, hb33]) (by push_cast [hb4, hb6, hx8, hx81, hx82, hb9, hx10, hx102, hb20, hb21, hb25, hb29, hb33]))) (by push_cast [hb4, hb6, hx8, hx81, hx82, hb9, hx10, hx102, hb20, hb21, hb25, hb29, hb33]) rfl rfl rfl ?_; push_cast [hb4, hb6, hx8, hx81, hx82, hb9, hx10, hx102, hb20, hb21, hb25, hb29, hb33]; (repeat refine .intro (by omega) ?_); refine hK _ ?_; clear hK K; refine VC.sub (s' := ⟨[(2, .sl false (a2.map encU32)), (4, .ref 0 0), (6, .ref 1 0), (10, .ref 37 0), (13, .raw (.int .u32 (r34.1.toNat : Int)))], [(0, .box 49 [.raw (.int .u32 (s_4.Ctx.a0.toNat : Int)), .raw (.int .u32 (s_4.Ctx.a1.toNat : Int)), .raw (.int .u32 (s_4.Ctx.a2.toNat : Int)), .raw (.int .u32 (s_4.Ctx.a3.toNat : Int)), .row 16 0 6 0 s_4.T.length, .raw (.int .u32 (s_4.Seed.toNat : Int))]), (1, .box 49 [.raw (.int .u32 0), .raw (.int .u32 0), .raw (.int .u32 0), .raw (.int .u32 0), .sl true [], .raw (.int .u32 0)]), (16, .row 27 6 0 (s_4.T.map enc_Table)), (37, .box 95 [.raw (.int .i64 r34.2.t.S.Kind), .raw (.int .i64 r34.2.t.S.Cap), .raw (.int .i64 r34.2.t.S.Words), .raw (.int .i64 r34.2.t.S.Ver), .sl false (r34.2.t.E.map enc_Entry), .raw (.int .u32 (r34.2.t.Next.toNat : Int))])], 102, 123, 0⟩) (sof ?_ ?_ rfl rfl) ?_
            ·push_cast [hb4, hb6, hb9, hb20, hb21, hb25, hb29, hb33]
            ·push_cast [hb4, hb6, hb9, hb20, hb21, hb25, hb29, hb33]
            obtain ⟨x35, hx35, h⟩ := po_some h; have hx352 := get_lt hx35; obtain ⟨y36, hy36, h⟩ := pl_some h; have hy36l : y36.length = s_4.T.length := by rw [hy36, List.length_set]
            refine VC.seqFD tabOkF hmixO [some 111, some 112, some 113, some 114, some 115, some 116, some 117, some 118, some 119, some 120, none] [4, 6, 13] rfl rfl rfl (fun K hK => ?_); refine runD_cut 8 (fun K2 hK2 => ?_); push_cast [hb4, hb6, hx8, hx81, hx82, hb9, hx10, hx102, hb20, hb21, hb25, hb29, hb33, hx35, hx352]; (repeat refine .intro (by omega) ?_); refine hK2 _ _ _ ?_; clear hK2 K2; simp only [List.drop_succ_cons, List.drop_zero]; push_cast [hb4, hb6, hx8, hx81, hx82, hb9, hx10, hx102, hb20, hb21, hb25, hb29, hb33, hx35, hx352]; (repeat refine .intro (by omega) ?_); refine ⟨rfl, hK _ ?_⟩; clear hK K; refine VC.sub (s' := ⟨[(4, .ref 0 0), (6, .ref 1 0), (13, .raw (.int .u32 (r34.1.toNat : Int)))], [(0, .box 49 [.raw (.int .u32 (s_4.Ctx.a0.toNat : Int)), .raw (.int .u32 (s_4.Ctx.a1.toNat : Int)), .raw (.int .u32 (s_4.Ctx.a2.toNat : Int)), .raw (.int .u32 (s_4.Ctx.a3.toNat : Int)), .row 16 0 6 0 y36.length, .raw (.int .u32 (s_4.Seed.toNat : Int))]), (1, .box 49 [.raw (.int .u32 0), .raw (.int .u32 0), .raw (.int .u32 0), .raw (.int .u32 0), .sl true [], .raw (.int .u32 0)]), (16, .row 27 6 0 (y36.map enc_Table))], 113, 123, 0⟩) (sof ?_ ?_ rfl rfl) ?_
            ·push_cast [hb4, hb6, hb9, hb20, hb21, hb25, hb29, hb33, hy36, hy36l]
            ·push_cast [hb4, hb6, hb9, hb20, hb21, hb25, hb29, hb33, hy36, hy36l]
            refine VC.seqF tabOkF [some 121, some 122, none, some 7, some 8] [6, 7, 8] rfl rfl (fun K hK => ?_); push_cast [hb4, hb6, hx8, hx81, hx82, hb9, hx10, hx102, hb20, hb21, hb25, hb29, hb33, hx35, hx352]; (repeat refine .intro (by omega) ?_); refine hK _ ?_; clear hK K; refine VC.ret ?_; have hr := Option.some.inj h; subst hr; refine endS (Sub.of (s' := ⟨[(6, .ref 1 0), (7, .raw (.int .u32 (r34.1.toNat : Int))), (8, .raw (.int .i64 0))], [(1, .box 49 [.raw (.int .u32 (s_4.Ctx.a0.toNat : Int)), .raw (.int .u32 (s_4.Ctx.a1.toNat : Int)), .raw (.int .u32 (s_4.Ctx.a2.toNat : Int)), .raw (.int .u32 (s_4.Ctx.a3.toNat : Int)), .row 16 0 6 0 y36.length, .raw (.int .u32 (s_4.Seed.toNat : Int))]), (16, .row 27 6 0 (y36.map enc_Table))], 118, 123, 0⟩) (by push_cast [hb4, hb6, hb9, hb20, hb21, hb25, hb29, hb33, hy36, hy36l]) (by push_cast [hb4, hb6, hb9, hb20, hb21, hb25, hb29, hb33, hy36, hy36l]) ⟨rfl, rfl, Nat.le_of_ble_eq_true rfl⟩ rfl) ?_; refine endS (Sub.renB (b := 1) (j := 4) (i' := 0) rfl rfl rfl (Nat.le_of_ble_eq_true rfl) (Nat.le_of_ble_eq_true rfl) rfl) ?_; refine endP (Sub.lo _) (Post.ret ?_ ?_ ?_)
            ·push_cast [hb4, hb6, hb9, hb20, hb21, hb25, hb29, hb33, hy36, hy36l]
            ·push_cast [hb4, hb6, hb9, hb20, hb21, hb25, hb29, hb33, hy36, hy36l]
            ·rfl
           ·replace h := cond_no hb33 h; rcases Bool.eq_false_or_eq_true (a0 == 5) with hb37 | hb37
            ·replace h := cond_yes hb37 h; refine VC.seqF tabOkF [some 94, some 95, some 96, none, some 97, some 98, none, some 99, some 100, none, some 101, some 102, none, some 103, some 104, none, some 105, some 106, some 107, some 12] [2, 4, 6, 10, 12] rfl rfl (fun K hK => ?_); refine runOps_cut 8 (fun K2 hK2 => ?_); push_cast [hb4, hb6, hx8, hx81, hx82, hb9, hx10, hx102, hb20, hb21, hb25, hb29, hb33, hb37]; (repeat refine .intro (by omega) ?_); refine hK2 _ _ ?_; clear hK2 K2; simp only [List.drop_succ_cons, List.drop_zero]; refine runOps_cut 8 (fun K2 hK2 => ?_); push_cast [hb4, hb6, hx8, hx81, hx82, hb9, hx10, hx102, hb20, hb21, hb25, hb29, hb33, hb37]; (repeat refine .intro (by omega) ?_); refine hK2 _ _ ?_; clear hK2 K2; simp only [List.drop_succ_cons, List.drop_zero]; push_cast [hb4, hb6, hx8, hx81, hx82, hb9, hx10, hx102, hb20, hb21, hb25, hb29, hb33, hb37]; (repeat refine .intro (by omega) ?_); refine hK _ ?_; clear hK K; obtain ⟨r38, hr38, h⟩ := po_some h; refine VC.seqF tabOkF [some 108, some 109, some 110, some 13] [2, 4, 6, 10, 13] rfl rfl (fun K hK => ?_); push_cast [hb4, hb6, hx8, hx81, hx82, hb9, hx10, hx102, hb20, hb21, hb25, hb29, hb33, hb37]; (repeat refine .intro (by omega) ?_); refine callH (H := [(37, .box 95 [.raw (.int .i64 x10.S.Kind), .raw (.int .i64 x10.S.Cap), .raw (.int .i64 x10.S.Words), .raw (.int .i64 x10.S.Ver), .sl false (x10.E.map enc_Entry), .raw (.int .u32 (x10.Next.toNat : Int))])]) (Ctr.loH (Ctr.ren (Bij.swp 0 37 Bij.id) (c_helper_call_push (T_helper_call.mk x10) a2 hr38) (by push_cast [hb4, hb6, hx8, hx81, hx82, hb9, hx10, hx102, hb20, hb21, hb25, hb29, hb33, hb37]) (by push_cast [hb4, hb6, hx8, hx81, hx82, hb9, hx10, hx102, hb20, hb21, hb25, hb29, hb33, hb37]))) (by push_cast [hb4, hb6, hx8, hx81, hx82, hb9, hx10, hx102, hb20, hb21, hb25, hb29, hb33, hb37]) rfl rfl rfl ?_; push_cast [hb4, hb6, hx8, hx81, hx82, hb9, hx10, hx102, hb20, hb21, hb25, hb29, hb33, hb37]; (repeat refine .intro (by omega) ?_); refine hK _ ?_; clear hK K; refine VC.sub (s' := ⟨[(2, .sl false (a2.map encU32)), (4, .ref 0 0), (6, .ref 1 0), (10, .ref 37 0), (13, .raw (.int .u32 (r38.1.toNat : Int)))], [(0, .box 49 [.raw (.int .u32 (s_4.Ctx.a0.toNat : Int)), .raw (.int .u32 (s_4.Ctx.a1.toNat : Int)), .raw (.int .u32 (s_4.Ctx.a2.toNat : Int)), .raw (.int .u32 (s_4.Ctx.a3.toNat : Int)), .row 16 0 6 0 s_4.T.length, .raw (.int .u32 (s_4.Seed.toNat : Int))]), (1, .box 49 [.raw (.int .u32 0), .raw (.int .u32 0), .raw (.int .u32 0), .raw (.int .u32 0), .sl true [], .raw (.int .u32 0)]), (16, .row 27 6 0 (s_4.T.map enc_Table)), (37, .box 95 [.raw (.int .i64 r38.2.t.S.Kind), .raw (.int .i64 r38.2.t.S.Cap), .raw (.int .i64 r38.2.t.S.Words), .raw (.int .i64 r38.2.t.S.Ver), .sl false (r38.2.t.E.map enc_Entry), .raw (.int .u32 (r38.2.t.Next.toNat : Int))])], 102, 123, 0⟩) (sof ?_ ?_ rfl rfl) ?_
             ·push_cast [hb4, hb6, hb9, hb20, hb21, hb25, hb29, hb33, hb37]
             ·push_cast [hb4, hb6, hb9, hb20, hb21, hb25, hb29, hb33, hb37]
             obtain ⟨x39, hx39, h⟩ := po_some h; have hx392 := get_lt hx39; obtain ⟨y40, hy40, h⟩ := pl_some h; have hy40l : y40.length = s_4.T.length := by rw [hy40, List.length_set]
             refine VC.seqFD tabOkF hmixO [some 111, some 112, some 113, some 114, some 115, some 116, some 117, some 118, some 119, some 120, none] [4, 6, 13] rfl rfl rfl (fun K hK => ?_); refine runD_cut 8 (fun K2 hK2 => ?_); push_cast [hb4, hb6, hx8, hx81, hx82, hb9, hx10, hx102, hb20, hb21, hb25, hb29, hb33, hb37, hx39, hx392]; (repeat refine .intro (by omega) ?_); refine hK2 _ _ _ ?_; clear hK2 K2; simp only [List.drop_succ_cons, List.drop_zero]; push_cast [hb4, hb6, hx8, hx81, hx82, hb9, hx10, hx102, hb20, hb21, hb25, hb29, hb33, hb37, hx39, hx392]; (repeat refine .intro (by omega) ?_); refine ⟨rfl, hK _ ?_⟩; clear hK K; refine VC.sub (s' := ⟨[(4, .ref 0 0), (6, .ref 1 0), (13, .raw (.int .u32 (r38.1.toNat : Int)))], [(0, .box 49 [.raw (.int .u32 (s_4.Ctx.a0.toNat : Int)), .raw (.int .u32 (s_4.Ctx.a1.toNat : Int)), .raw (.int .u32 (s_4.Ctx.a2.toNat : Int)), .raw (.int .u32 (s_4.Ctx.a3.toNat : Int)), .row 16 0 6 0 y40.length, .raw (.int .u32 (s_4.Seed.toNat : Int))]), (1, .box 49 [.raw (.int .u32 0), .raw (.int .u32 0), .raw (.int .u32 0), .raw (.int .u32 0), .sl true [], .raw (.int .u32 0)]), (16, .row 27 6 0 (y40.map enc_Table))], 113, 123, 0⟩) (sof ?_ ?_ rfl rfl) ?_
             ·push_cast [hb4, hb6, hb9, hb20, hb21, hb25, hb29, hb33, hb37, hy40, hy40l]
             ·push_cast [hb4, hb6, hb9, hb20, hb21, hb25, hb29, hb33, hb37, hy40, hy40l]
             refine VC.seqF tabOkF [some 121, some 122, none, some 7, some 8] [6, 7, 8] rfl rfl (fun K hK => ?_); push_cast [hb4, hb6, hx8, hx81, hx82, hb9, hx10, hx102, hb20, hb21, hb25, hb29, hb33, hb37, hx39, hx392]; (repeat refine .intro (by omega) ?_); refine hK _ ?_; clear hK K; refine VC.ret ?_; have hr := Option.some.inj h; subst hr; refine endS (Sub.of (s' := ⟨[(6, .ref 1 0), (7, .raw (.int .u32 (r38.1.toNat : Int))), (8, .raw (.int .i64 0))], [(1, .box 49 [.raw (.int .u32 (s_4.Ctx.a0.toNat : Int)), .raw (.int .u32 (s_4.Ctx.a1.toNat : Int)), .raw (.int .u32 (s_4.Ctx.a2.toNat : Int)), .raw (.int .u32 (s_4.Ctx.a3.toNat : Int)), .row 16 0 6 0 y40.length, .raw (.int .u32 (s_4.Seed.toNat : Int))]), (16, .row 27 6 0 (y40.map enc_Table))], 118, 123, 0⟩) (by push_cast [hb4, hb6, hb9, hb20, hb21, hb25, hb29, hb33, hb37, hy40, hy40l]) (by push_cast [hb4, hb6, hb9, hb20, hb21, hb25, hb29, hb33, hb37, hy40, hy40l]) ⟨rfl, rfl, Nat.le_of_ble_eq_true rfl⟩ rfl) ?_; refine endS (Sub.renB (b := 1) (j := 4) (i' := 0) rfl rfl rfl (Nat.le_of_ble_eq_true rfl) (Nat.le_of_ble_eq_true rfl) rfl) ?_; refine endP (Sub.lo _) (Post.ret ?_ ?_ ?_)
             ·push_cast [hb4, hb6, hb9, hb20, hb21, hb25, hb29, hb33, hb37, hy40, hy40l]
             ·push_cast [hb4, hb6, hb9, hb20, hb21, hb25, hb29, hb33, hb37, hy40, hy40l]
             ·rfl
            ·replace h := cond_no hb37 h; refine VC.seqF tabOkF [some 94, some 95, some 96, none, some 97, some 98, none, some 99, some 100, none, some 101, some 102, none, some 103, some 104, none, some 105, some 106, some 107, some 12] [2, 4, 6, 10, 12] rfl rfl (fun K hK => ?_); refine runOps_cut 8 (fun K2 hK2 => ?_); push_cast [hb4, hb6, hx8, hx81, hx82, hb9, hx10, hx102, hb20, hb21, hb25, hb29, hb33, hb37]; (repeat refine .intro (by omega) ?_); refine hK2 _ _ ?_; clear hK2 K2; simp only [List.drop_succ_cons, List.drop_zero]; refine runOps_cut 8 (fun K2 hK2 => ?_); push_cast [hb4, hb6, hx8, hx81, hx82, hb9, hx10, hx102, hb20, hb21, hb25, hb29, hb33, hb37]; (repeat refine .intro (by omega) ?_); refine hK2 _ _ ?_; clear hK2 K2; simp only [List.drop_succ_cons, List.drop_zero]; push_cast [hb4, hb6, hx8, hx81, hx82, hb9, hx10, hx102, hb20, hb21, hb25, hb29, hb33, hb37]; (repeat refine .intro (by omega) ?_); refine hK _ ?_; clear hK K; cases h
noncomputable def p_drydockref05_Few_J9 (x7 : T_Table) (i_41 : Bool) (i_42 : Int) (i_43 : Bool) : Option ((Bool × Int) ⊕ (Bool)) :=
  cond i_43 (
  po (idx x7.E i_42) fun x12 =>
  some (Sum.inl ((decide ((x12.V.length : Int) ≤ 6)), (IntKind.i64.wrap (i_42 + 1))))) (
  some (Sum.inr i_41))
noncomputable def p_drydockref05_Few_L8 (x7 : T_Table) (i_41 : Bool) (i_42 : Int) : Option ((Bool × Int) ⊕ (Bool)) :=
  po (
  cond (decide (i_42 < (x7.E.length : Int))) (
  some i_41) (
  some false)) (fun x => p_drydockref05_Few_J9 x7 i_41 i_42 x)
noncomputable def p_drydockref05_Few_J6 (i_16 : Int) (i_24 : Bool) : Option ((Bool × Int) ⊕ (Bool)) :=
  some (Sum.inl (i_24, (IntKind.i64.wrap (i_16 + 1))))
noncomputable def p_drydockref05_Few_J3 (a0 : (List T_Table)) (i_15 : Bool) (i_16 : Int) (i_17 : Bool) : Option ((Bool × Int) ⊕ (Bool)) :=
  cond i_17 (
  po (
  po (idx a0 i_16) fun x7 =>
  lpU (fun x => p_drydockref05_Few_L8 x7 x.1 x.2) ((decide ((x7.E.length : Int) ≤ 20)), 0)) (fun x => p_drydockref05_Few_J6 i_16 x)) (
  some (Sum.inr i_15))
noncomputable def p_drydockref05_Few_L2 (a0 : (List T_Table)) (i_15 : Bool) (i_16 : Int) : Option ((Bool × Int) ⊕ (Bool)) :=
  po (
  cond (decide (i_16 < (a0.length : Int))) (
  some i_15) (
  some false)) (fun x => p_drydockref05_Few_J3 a0 i_15 i_16 x)
noncomputable def p_drydockref05_Few_J1 (i_39 : Bool) : Option (Bool) :=
  some i_39
noncomputable def p_drydockref05_Few (a0 : (List T_Table)) : Option (Bool) :=
  po (
  lpU (fun x => p_drydockref05_Few_L2 a0 x.1 x.2) ((decide ((a0.length : Int) ≤ 6)), 0)) (fun x => p_drydockref05_Few_J1 x)
theorem c_drydockref05_Few (a0 : (List T_Table)) {r : Bool} (h : p_drydockref05_Few a0 = some r) : Ctr prog 33 [.sl false (a0.map enc_Table)] [] (.raw (.bool r)) [] := by
 unfold p_drydockref05_Few at h; refine Ctr.ofW tabOk func33 rfl call33 0 _ ntmps33 [.tmp 2] rfl rfl rfl (fun B => ?_); refine VC.seqF tabOkF [some 2] [0] rfl rfl (fun K hK => ?_); push_cast; (repeat refine .intro (by omega) ?_); refine hK _ ?_; clear hK K; refine VC.seqF tabOkF [some 6, some 7, some 8, some 3] [0, 3] rfl rfl (fun K hK => ?_); push_cast; (repeat refine .intro (by omega) ?_); refine hK _ ?_; clear hK K; obtain ⟨v1, h, hk1⟩ := po_some h; refine VC.seqJ (X := Bool) (fun x => p_drydockref05_Few_J1 x = some r) (fun x => ⟨[(3, .raw (.bool x))], [], 69, 50, 0⟩) ?_ ?_
 ·refine VC.seqF tabOkF [some 4] [0, 3, 4] rfl rfl (fun K hK => ?_); push_cast; (repeat refine .intro (by omega) ?_); refine hK _ ?_; clear hK K; refine VC.block ?_; refine VC.loopP h (fun x => ⟨[(0, .sl false (a0.map enc_Table)), (3, .raw (.bool x.1)), (4, .raw (.int .i64 x.2))], [], 62, 50, 0⟩) ?_ ?_
  ·refine slo ?_ ?_ rfl rfl
   ·push_cast
   ·push_cast
  rintro ⟨i_15, i_16⟩ b2 h hf2; replace h : p_drydockref05_Few_L2 a0 i_15 i_16 = some b2 := h; (try push_cast); unfold p_drydockref05_Few_L2 at h; refine VC.seq ?_; obtain ⟨v3, h, hk3⟩ := po_some h; refine VC.seqJ (X := Bool) (fun x => p_drydockref05_Few_J3 a0 i_15 i_16 x = some b2) (fun x => ⟨[(0, .sl false (a0.map enc_Table)), (3, .raw (.bool i_15)), (4, .raw (.int .i64 i_16)), (15, .raw (.bool x))], [], 69, 50, 0⟩) ?_ ?_
  ·rcases Bool.eq_false_or_eq_true (decide (i_16 < (a0.length : Int))) with hb4 | hb4
   ·replace h := cond_yes hb4 h; refine VC.lastF tabOkF [some 9, some 10, some 11, some 12, some 13, some 14, some 15] rfl rfl (fun K hK => ?_); push_cast [hb4]; (repeat refine .intro (by omega) ?_); refine hK _ ?_; clear hK K; have hv := Option.some.inj h; rw [← hv] at hk3; refine Exists.intro (i_15) (And.intro hk3 ?_); refine slo ?_ ?_ rfl rfl
    ·push_cast [hb4]
    ·push_cast [hb4]
   ·replace h := cond_no hb4 h; refine VC.lastF tabOkF [some 9, some 10, some 11, some 12, some 13, some 14, some 15] rfl rfl (fun K hK => ?_); push_cast [hb4]; (repeat refine .intro (by omega) ?_); refine hK _ ?_; clear hK K; have hv := Option.some.inj h; rw [← hv] at hk3; refine Exists.intro (false) (And.intro hk3 ?_); refine slo ?_ ?_ rfl rfl
    ·push_cast [hb4]
    ·push_cast [hb4]
  ·rintro i_17 h; replace h : p_drydockref05_Few_J3 a0 i_15 i_16 i_17 = some b2 := h; (try push_cast); unfold p_drydockref05_Few_J3 at h; refine VC.cond rfl rfl (fun hc5 => ?_) (fun hc5 => ?_)
   ·have hb5 : i_17 = true := by simpa using hc5
    replace h := cond_yes hb5 h; refine VC.skip ?_; obtain ⟨v6, h, hk6⟩ := po_some h; refine VC.seqJ (X := Bool) (fun x => p_drydockref05_Few_J6 i_16 x = some b2) (fun x => ⟨[(0, .sl false (a0.map enc_Table)), (3, .raw (.bool x)), (4, .raw (.int .i64 i_16))], [], 115, 50, 0⟩) ?_ ?_
    ·refine VC.block ?_; obtain ⟨x7, hx7, h⟩ := po_some h; obtain ⟨hx71, hx72, hx73, hx74⟩ := idx_some4 hx7; refine VC.seqF tabOkF [some 18, some 19, some 20, some 21, some 22, some 23, some 24, some 3] [0, 3, 4] rfl rfl (fun K hK => ?_); push_cast [hb5, hx71, hx72, hx73, hx74]; (repeat refine .intro (by omega) ?_); refine hK _ ?_; clear hK K; refine VC.seqF tabOkF [some 5] [0, 3, 4, 5] rfl rfl (fun K hK => ?_); push_cast [hb5, hx71, hx72, hx73, hx74]; (repeat refine .intro (by omega) ?_); refine hK _ ?_; clear hK K; refine VC.block ?_; refine VC.loopP h (fun x => ⟨[(0, .sl false (a0.map enc_Table)), (3, .raw (.bool x.1)), (4, .raw (.int .i64 i_16)), (5, .raw (.int .i64 x.2))], [], 104, 50, 0⟩) ?_ ?_
     ·refine slo ?_ ?_ rfl rfl
      ·push_cast [hb5]
      ·push_cast [hb5]
     rintro ⟨i_41, i_42⟩ b8 h hf8; replace h : p_drydockref05_Few_L8 x7 i_41 i_42 = some b8 := h; (try push_cast); unfold p_drydockref05_Few_L8 at h; refine VC.seq ?_; obtain ⟨v9, h, hk9⟩ := po_some h; refine VC.seqJ (X := Bool) (fun x => p_drydockref05_Few_J9 x7 i_41 i_42 x = some b8) (fun x => ⟨[(0, .sl false (a0.map enc_Table)), (3, .raw (.bool i_41)), (4, .raw (.int .i64 i_16)), (5, .raw (.int .i64 i_42)), (35, .raw (.bool x))], [], 115, 50, 0⟩) ?_ ?_
     ·rcases Bool.eq_false_or_eq_true (decide (i_42 < (x7.E.length : Int))) with hb10 | hb10
      ·replace h := cond_yes hb10 h; refine VC.lastF tabOkF [some 25, some 26, some 27, some 28, some 29, some 30, some 31, some 32, some 33, some 34, some 35] rfl rfl (fun K hK => ?_); refine runOps_cut 8 (fun K2 hK2 => ?_); push_cast [hb5, hx71, hx72, hx73, hx74, hb10]; (repeat refine .intro (by omega) ?_); refine hK2 _ _ ?_; clear hK2 K2; simp only [List.drop_succ_cons, List.drop_zero]; push_cast [hb5, hx71, hx72, hx73, hx74, hb10]; (repeat refine .intro (by omega) ?_); refine hK _ ?_; clear hK K; have hv := Option.some.inj h; rw [← hv] at hk9; refine Exists.intro (i_41) (And.intro hk9 ?_); refine slo ?_ ?_ rfl rfl
       ·push_cast [hb5, hb10]
       ·push_cast [hb5, hb10]
      ·replace h := cond_no hb10 h; refine VC.lastF tabOkF [some 25, some 26, some 27, some 28, some 29, some 30, some 31, some 32, some 33, some 34, some 35] rfl rfl (fun K hK => ?_); refine runOps_cut 8 (fun K2 hK2 => ?_); push_cast [hb5, hx71, hx72, hx73, hx74, hb10]; (repeat refine .intro (by omega) ?_); refine hK2 _ _ ?_; clear hK2 K2; simp only [List.drop_succ_cons, List.drop_zero]; push_cast [hb5, hx71, hx72, hx73, hx74, hb10]; (repeat refine .intro (by omega) ?_); refine hK _ ?_; clear hK K; have hv := Option.some.inj h; rw [← hv] at hk9; refine Exists.intro (false) (And.intro hk9 ?_); refine slo ?_ ?_ rfl rfl
       ·push_cast [hb5, hb10]
       ·push_cast [hb5, hb10]
     ·rintro i_43 h; replace h : p_drydockref05_Few_J9 x7 i_41 i_42 i_43 = some b8 := h; (try push_cast); unfold p_drydockref05_Few_J9 at h; refine VC.cond rfl rfl (fun hc11 => ?_) (fun hc11 => ?_)
      ·have hb11 : i_43 = true := by simpa using hc11
       replace h := cond_yes hb11 h; refine VC.skip ?_; refine VC.seq ?_; refine VC.block ?_; obtain ⟨x12, hx12, h⟩ := po_some h; obtain ⟨hx121, hx122, hx123, hx124⟩ := idx_some4 hx12; refine VC.lastF tabOkF [some 38, some 39, some 40, some 41, some 42, some 43, some 44, some 45, some 46, some 47, some 48, some 3] rfl rfl (fun K hK => ?_); refine runOps_cut 8 (fun K2 hK2 => ?_); push_cast [hb5, hx71, hx72, hx73, hx74, hb11, hx121, hx122, hx123, hx124]; (repeat refine .intro (by omega) ?_); refine hK2 _ _ ?_; clear hK2 K2; simp only [List.drop_succ_cons, List.drop_zero]; push_cast [hb5, hx71, hx72, hx73, hx74, hb11, hx121, hx122, hx123, hx124]; (repeat refine .intro (by omega) ?_); refine hK _ ?_; clear hK K; refine VC.lastF tabOkF [some 36, some 37, some 5] rfl rfl (fun K hK => ?_); push_cast [hb5, hx71, hx72, hx73, hx74, hb11, hx121, hx122, hx123, hx124]; (repeat refine .intro (by omega) ?_); refine hK _ ?_; clear hK K; refine Exists.intro (((decide ((x12.V.length : Int) ≤ 6)), (IntKind.i64.wrap (i_42 + 1)))) (And.intro (Option.some.inj h).symm ?_); refine slo ?_ ?_ rfl rfl
       ·push_cast [hb5, hb11]
       ·push_cast [hb5, hb11]
      ·have hb11 : i_43 = false := by simpa using hc11
       replace h := cond_no hb11 h; refine VC.exit ?_; replace h := congrArg some (hf8 _ (Option.some.inj h).symm); have hv := Option.some.inj h; rw [← hv] at hk6; refine Exists.intro (i_41) (And.intro hk6 ?_); refine slo ?_ ?_ rfl rfl
       ·push_cast [hb5, hb11]
       ·push_cast [hb5, hb11]
    ·rintro i_24 h; replace h : p_drydockref05_Few_J6 i_16 i_24 = some b2 := h; (try push_cast); unfold p_drydockref05_Few_J6 at h; refine VC.lastF tabOkF [some 16, some 17, some 4] rfl rfl (fun K hK => ?_); push_cast [hb5]; (repeat refine .intro (by omega) ?_); refine hK _ ?_; clear hK K; refine Exists.intro ((i_24, (IntKind.i64.wrap (i_16 + 1)))) (And.intro (Option.some.inj h).symm ?_); refine slo ?_ ?_ rfl rfl
     ·push_cast [hb5]
     ·push_cast [hb5]
   ·have hb5 : i_17 = false := by simpa using hc5
    replace h := cond_no hb5 h; refine VC.exit ?_; replace h := congrArg some (hf2 _ (Option.some.inj h).symm); have hv := Option.some.inj h; rw [← hv] at hk1; refine Exists.intro (i_15) (And.intro hk1 ?_); refine slo ?_ ?_ rfl rfl
    ·push_cast [hb5]
    ·push_cast [hb5]
 ·rintro i_39 h; replace h : p_drydockref05_Few_J1 i_39 = some r := h; (try push_cast); unfold p_drydockref05_Few_J1 at h; refine VC.seqF tabOkF [some 49, some 2] [2] rfl rfl (fun K hK => ?_); push_cast; (repeat refine .intro (by omega) ?_); refine hK _ ?_; clear hK K; refine VC.ret ?_; have hr := Option.some.inj h; subst hr; refine endP (Sub.lo _) (Post.ret ?_ ?_ ?_)
  ·push_cast
  ·push_cast
  ·rfl
theorem lp_inv {σ ρ : Type} {step : σ → Option (σ ⊕ ρ)} (I : σ → Prop) (μ : σ → Nat) (Q : ρ → Prop)
    (hs : ∀ s, I s → (∃ s', step s = some (.inl s') ∧ I s' ∧ μ s' < μ s) ∨ (∃ r, step s = some (.inr r) ∧ Q r)) : ∀ (s0 : σ), I s0 → ∃ r, lpU step s0 = some r ∧ Q r := by
  have key : ∀ (n : Nat) (s0 : σ), μ s0 = n → I s0 → ∃ r, lpU step s0 = some r ∧ Q r := by
    intro n
    induction n using Nat.strongRecOn with
    | _ n ih =>
      intro s0 hn h0
      rcases hs s0 h0 with ⟨s', h1, h2, h3⟩ | ⟨r, h1, h2⟩
      · rw [lpU_inl h1]
        exact ih (μ s') (by omega) s' rfl h2
      · exact ⟨r, lpU_inr h1, h2⟩
  exact fun s0 h0 => key _ s0 rfl h0
theorem w64 {n : Nat} (h : n < 9223372036854775807) : IntKind.i64.wrap ((n : Int) + 1) = ((n + 1 : Nat) : Int) := by
  rw [wrap_i64 (by omega) (by omega)]
  omega
/-! ### Few -/
structure FewT (t : T_Table) : Prop where
  e : t.E.length ≤ 20
  v : ∀ e ∈ t.E, e.V.length ≤ 6
structure FewL (l : List T_Table) : Prop where
  len : l.length ≤ 6
  t : ∀ t ∈ l, FewT t
theorem few1 (t : T_Table) : ∃ b, lpU (fun x => p_drydockref05_Few_L8 t x.1 x.2) ((decide ((t.E.length : Int) ≤ 20)), 0) = some b ∧ (b = true → FewT t) := by
  refine lp_inv (fun s => (s.1 = true → t.E.length ≤ 20) ∧ ∃ n : Nat, s.2 = (n : Int) ∧ n ≤ t.E.length ∧ (s.1 = true → ∀ j e, j < n → t.E[j]? = some e → e.V.length ≤ 6)) (fun s => ((t.E.length : Int) - s.2).toNat) (fun b => b = true → FewT t) ?_ _ ?_
  · rintro ⟨b, i⟩ ⟨h1, n, rfl, h2, h3⟩
    simp only at h1 h3
    simp only [p_drydockref05_Few_L8]
    by_cases hlt : n < t.E.length
    · have hd : decide ((n : Int) < (t.E.length : Int)) = true := by simp; omega
      rw [hd]
      simp only [cond_true, po_of, p_drydockref05_Few_J9]
      cases b with
      | true =>
        left
        simp only [cond_true, idx_nat, List.getElem?_eq_getElem hlt, po_of]
        have hn := h1 rfl
        refine ⟨_, rfl, ⟨fun _ => hn, n + 1, w64 (by omega), by omega, fun hb j e hj he => ?_⟩, by simp only [w64 (show n < 9223372036854775807 by omega)]; omega⟩
        rcases Nat.lt_or_ge j n with hjn | hjn
        · exact h3 rfl j e hjn he
        · have : j = n := by omega
          subst this
          rw [List.getElem?_eq_getElem hlt] at he
          injection he with he
          subst he
          simp at hb
          omega
      | false =>
        right
        exact ⟨false, rfl, fun h => by cases h⟩
    · have hd : decide ((n : Int) < (t.E.length : Int)) = false := by simp; omega
      rw [hd]
      right
      refine ⟨b, rfl, fun hb => ⟨h1 hb, fun e he => ?_⟩⟩
      obtain ⟨j, hj⟩ := List.mem_iff_getElem?.1 he
      exact h3 hb j e (by have := get_lt hj; omega) hj
  · exact ⟨fun h => by simp at h; omega, 0, rfl, Nat.zero_le _, fun _ j e hj => by omega⟩
theorem few_tells (l : List T_Table) : ∃ b, p_drydockref05_Few l = some b ∧ (b = true → FewL l) := by
  have key : ∃ b, lpU (fun x => p_drydockref05_Few_L2 l x.1 x.2) ((decide ((l.length : Int) ≤ 6)), 0) = some b ∧ (b = true → FewL l) := by
    refine lp_inv (fun s => (s.1 = true → l.length ≤ 6) ∧ ∃ n : Nat, s.2 = (n : Int) ∧ n ≤ l.length ∧ (s.1 = true → ∀ j t, j < n → l[j]? = some t → FewT t)) (fun s => ((l.length : Int) - s.2).toNat) (fun b => b = true → FewL l) ?_ _ ?_
    · rintro ⟨b, i⟩ ⟨h1, n, rfl, h2, h3⟩
      simp only at h1 h3
      simp only [p_drydockref05_Few_L2]
      by_cases hlt : n < l.length
      · have hd : decide ((n : Int) < (l.length : Int)) = true := by simp; omega
        rw [hd]
        simp only [cond_true, po_of, p_drydockref05_Few_J3]
        cases b with
        | true =>
          left
          obtain ⟨b2, e1, e2⟩ := few1 l[n]
          simp only [cond_true, idx_nat, List.getElem?_eq_getElem hlt, po_of, e1, p_drydockref05_Few_J6]
          have hn := h1 rfl
          refine ⟨_, rfl, ⟨fun _ => hn, n + 1, w64 (by omega), by omega, fun hb j t hj ht => ?_⟩, by simp only [w64 (show n < 9223372036854775807 by omega)]; omega⟩
          rcases Nat.lt_or_ge j n with hjn | hjn
          · exact h3 rfl j t hjn ht
          · have : j = n := by omega
            subst this
            rw [List.getElem?_eq_getElem hlt] at ht
            injection ht with ht
            subst ht
            exact e2 hb
        | false =>
          right
          exact ⟨false, rfl, fun h => by cases h⟩
      · have hd : decide ((n : Int) < (l.length : Int)) = false := by simp; omega
        rw [hd]
        right
        refine ⟨b, rfl, fun hb => ⟨h1 hb, fun t ht => ?_⟩⟩
        obtain ⟨j, hj⟩ := List.mem_iff_getElem?.1 ht
        exact h3 hb j t (by have := get_lt hj; omega) hj
    · exact ⟨fun h => by simp at h; omega, 0, rfl, Nat.zero_le _, fun _ j e hj => by omega⟩
  obtain ⟨b, h1, h2⟩ := key
  exact ⟨b, by simp only [p_drydockref05_Few, h1, po_of, p_drydockref05_Few_J1], h2⟩
/-! ### Own -/
theorem set_same {α : Type} {l : List α} {i : Nat} {a : α} (h : l[i]? = some a) : l.set i a = l := by
  have := List.getElem?_eq_some_iff.1 h
  obtain ⟨h1, h2⟩ := this
  subst h2
  exact List.set_getElem_self h1
structure Fits (l : List T_Table) : Prop where
  len : l.length ≤ 1048576
  e : ∀ t ∈ l, t.E.length ≤ 1048576
  v : ∀ t ∈ l, ∀ e ∈ t.E, e.V.length ≤ 1048576
theorem FewL.fits {l : List T_Table} (h : FewL l) : Fits l := ⟨by have := h.len; omega, fun t ht => by have := (h.t t ht).e; omega, fun t ht e he => by have := (h.t t ht).v e he; omega⟩
theorem own1 {e : T_Env} {t : T_Table} (h1 : t.E.length ≤ 1048576) (h2 : ∀ e ∈ t.E, e.V.length ≤ 1048576) : lpU (fun x => p_helper_own_L9 t.E x.1 x.2.1 x.2.2) (e, t, 0) = some (e, t) := by
  have key := lp_inv (step := fun x => p_helper_own_L9 t.E x.1 x.2.1 x.2.2) (fun s => s.1 = e ∧ s.2.1 = t ∧ ∃ n : Nat, s.2.2 = (n : Int) ∧ n ≤ t.E.length) (fun s => ((t.E.length : Int) - s.2.2).toNat) (fun r => r = (e, t)) (by
    rintro ⟨s, u, i⟩ ⟨h3, h4, n, h5, h6⟩
    simp only at h3 h4 h5
    subst h3
    subst h4
    subst h5
    simp only [p_helper_own_L9]
    by_cases hlt : n < u.E.length
    · left
      have hd : decide ((n : Int) < (u.E.length : Int)) = true := by simp; omega
      have hg := List.getElem?_eq_getElem hlt
      have hv := h2 _ (List.getElem_mem hlt)
      simp only [hd, cond_true, idx_nat, hg, po_of]
      rw [p_slices_Clone_uint32_uint32_of (by omega)]
      simp only [po_of, pl, Int.toNat_natCast]
      refine ⟨_, rfl, ⟨rfl, ?_, n + 1, w64 (by omega), by omega⟩, by simp only [w64 (show n < 9223372036854775807 by omega)]; omega⟩
      show T_Table.mk u.S (u.E.set n u.E[n]) u.Next = u
      rw [set_same hg]
    · right
      have hd : decide ((n : Int) < (u.E.length : Int)) = false := by simp; omega
      simp only [hd, cond_false]
      exact ⟨_, rfl, rfl⟩) (e, t, 0) ⟨rfl, rfl, 0, rfl, Nat.zero_le _⟩
  obtain ⟨r, h, rfl⟩ := key
  exact h
theorem own_is {e : T_Env} (h : Fits e.T) : p_helper_own e = some e := by
  have key := lp_inv (step := fun x => p_helper_own_L3 e.T x.1 x.2) (fun s => s.1 = e ∧ ∃ n : Nat, s.2 = (n : Int) ∧ n ≤ e.T.length) (fun s => ((e.T.length : Int) - s.2).toNat) (fun r => r = e) (by
    rintro ⟨s, i⟩ ⟨h3, n, h5, h6⟩
    simp only at h3 h5
    subst h3
    subst h5
    simp only [p_helper_own_L3]
    by_cases hlt : n < s.T.length
    · left
      have hd : decide ((n : Int) < (s.T.length : Int)) = true := by simp; omega
      have hg := List.getElem?_eq_getElem hlt
      have hm := List.getElem_mem hlt
      simp only [hd, cond_true, idx_nat, hg, po_of]
      have h7 := h.e _ hm
      have h8 := h.v _ hm
      have h9 := h.len
      rw [p_slices_Clone_api_Entry_api_Entry_of (by omega)]
      simp only [po_of]
      rw [own1 h7 h8]
      simp only [po_of, p_helper_own_J8, idx_nat, hg, pl, Int.toNat_natCast, p_helper_own_J5, set_same hg]
      exact ⟨_, rfl, ⟨rfl, n + 1, w64 (by omega), by omega⟩, by simp only [w64 (show n < 9223372036854775807 by omega)]; omega⟩
    · right
      have hd : decide ((n : Int) < (s.T.length : Int)) = false := by simp; omega
      simp only [hd, cond_false]
      exact ⟨_, rfl, rfl⟩) (e, 0) ⟨rfl, 0, rfl, Nat.zero_le _⟩
  obtain ⟨r, h1, rfl⟩ := key
  have h9 := h.len
  simp only [p_helper_own]
  rw [p_slices_Clone_api_Table_api_Table_of (by omega)]
  simp only [po_of]
  rw [show (T_Env.mk r.Ctx r.T r.Seed) = r from rfl, h1]
  rfl
def argsN (n : Int) : Int := if n = 0 then 3 else if n = 1 then 4 else if n = 2 then 2 else if n = 3 then 2 else if n = 4 then 0 else if n = 5 then 2 else -1
theorem args_is (n : Int) : p_helper_Args n = some (argsN n) := by
  unfold p_helper_Args argsN
  by_cases h0 : n = 0
  · subst h0; rfl
  by_cases h1 : n = 1
  · subst h1; rfl
  by_cases h2 : n = 2
  · subst h2; rfl
  by_cases h3 : n = 3
  · subst h3; rfl
  by_cases h4 : n = 4
  · subst h4; rfl
  by_cases h5 : n = 5
  · subst h5; rfl
  have ne : ∀ k : Int, ¬ n = k → (n == k) = false := fun k h => by simpa using h
  simp only [ne _ h0, ne _ h1, ne _ h2, ne _ h3, ne _ h4, ne _ h5, if_neg h0, if_neg h1, if_neg h2, if_neg h3, if_neg h4, if_neg h5, cond_false, po_of, p_helper_Args_J1]
theorem in_is (a b c : Int) : p_schema_in a b c = some (inB a b c) := by
  unfold p_schema_in inB
  by_cases h : b ≤ a
  · simp [h, p_schema_in_J1]
  · simp [h, p_schema_in_J1]
theorem smay_is (s : T_Schema) : p_schema_May s = some (toS s).may := by
  unfold p_schema_May
  have key : ∀ w : Int, p_schema_May_J1 s w = some (inB s.Kind 0 3 && inB s.Cap 1 16 && inB s.Words 1 w && inB s.Ver 0 1000) := fun w => by
    simp only [p_schema_May_J1, in_is, po_of, p_schema_May_J3]
    cases inB s.Kind 0 3 <;> cases inB s.Cap 1 16 <;> cases inB s.Words 1 w <;> rfl
  by_cases h : s.Kind = 3
  · have hb : (s.Kind == 3) = true := by simpa using h
    simp only [hb, cond_true, po_of, key]
    simp [Sch.may, toS, h]
  · have hb : (s.Kind == 3) = false := by simpa using h
    simp only [hb, cond_false, po_of, key]
    simp [Sch.may, toS, h]
def fitsN (n : Int) (s : Sch) : Bool := s.may && (if n = 5 then decide (s.kind = 3) else decide (0 ≤ n ∧ n ≤ 3) && !decide (s.kind = 3))
theorem fits_is (n : Int) (s : T_Schema) : p_helper_Fits n s = some (fitsN n (toS s)) := by
  unfold p_helper_Fits fitsN
  have hk : (s.Kind == 3) = decide ((toS s).kind = 3) := by
    rw [Bool.eq_iff_iff, beq_iff_eq, decide_eq_true_iff]
    exact Iff.rfl
  have hk2 : (s.Kind != 3) = !decide ((toS s).kind = 3) := by rw [bne, hk]
  by_cases h5 : n = 5
  · subst h5
    simp only [smay_is, po_of, hk]
    cases (toS s).may <;> simp [p_helper_Fits_J2]
  · have hb5 : (n == 5) = false := by simpa using h5
    have fin : ∀ b, p_helper_Fits_J5 s b = some (b && (toS s).may && !decide ((toS s).kind = 3)) := fun b => by
      cases b with
      | false => rfl
      | true =>
        simp only [p_helper_Fits_J5, cond_true, smay_is, po_of, hk2]
        cases (toS s).may <;> simp [p_helper_Fits_J10]
    simp only [hb5, cond_false, if_neg h5]
    by_cases h0 : n = 0
    · subst h0
      simp [fin, Bool.and_comm]
    by_cases h1 : n = 1
    · subst h1
      simp [fin, Bool.and_comm]
    by_cases h2 : n = 2
    · subst h2
      simp [fin, Bool.and_comm]
    by_cases h3 : n = 3
    · subst h3
      simp [fin, Bool.and_comm]
    have hr : decide (0 ≤ n ∧ n ≤ 3) = false := by simp; omega
    have ne : ∀ k : Int, ¬ n = k → (n == k) = false := fun k h => by simpa using h
    simp only [ne _ h0, ne _ h1, ne _ h2, ne _ h3, cond_false, po_of, fin, hr, Bool.false_and, Bool.and_false]
def toldN (b : Bool) : UInt32 := if b then 1 else 0
theorem told_is (b : Bool) : p_helper_told b = some (toldN b) := by cases b <;> rfl
inductive ActR (t : T_Table) : Int → List UInt32 → T_Table → UInt32 → Prop where
  | get (x k f : UInt32) : ActR t 0 [x, k, f] (ofT ((toT t).get k.toNat f.toNat).1) (UInt32.ofNat ((toT t).get k.toNat f.toNat).2.1)
  | set (x k f w : UInt32) (h : ((toT t).set k.toNat f.toNat w.toNat).2 = 0) : ActR t 1 [x, k, f, w] (ofT ((toT t).set k.toNat f.toNat w.toNat).1) 0
  | setE (x k f w : UInt32) (h : ((toT t).set k.toNat f.toNat w.toNat).2 ≠ 0) : ActR t 1 [x, k, f, w] t (UInt32.ofInt ((toT t).set k.toNat f.toNat w.toNat).2)
  | del (x k : UInt32) : ActR t 2 [x, k] (ofT ((toT t).del k.toNat).1) (toldN ((toT t).del k.toNat).2)
  | has (x k : UInt32) : ActR t 3 [x, k] t (toldN ((toT t).get k.toNat 0).2.2)
  | push (x w : UInt32) (h : ((toT t).push w.toNat).2 = 0) : ActR t 5 [x, w] (ofT ((toT t).push w.toNat).1) 0
  | pushE (x w : UInt32) (h : ((toT t).push w.toNat).2 ≠ 0) : ActR t 5 [x, w] t (UInt32.ofInt ((toT t).push w.toNat).2)
theorem fitsT {t : T_Table} (h1 : t.E.length ≤ 1048576) (h2 : ∀ e ∈ t.E, e.V.length ≤ 1048576) : fits (toT t).e := by
  refine ⟨by simpa [toT] using h1, fun e he => ?_⟩
  obtain ⟨x, hx, rfl⟩ := List.mem_map.1 he
  simpa [toE] using h2 x hx
def fieldN (n : Int) (a : List UInt32) (s : Sch) : Prop := (n = 0 ∨ n = 1) → ∃ f, a[2]? = some f ∧ (f.toNat : Int) < IntKind.u32.wrap s.words
inductive CallR (n : Int) (e : T_Env) (a : List UInt32) : T_Env × UInt32 × Int → Prop where
  | arg (h : argsN n = -1 ∨ argsN n ≠ a.length) : CallR n e a (⟨⟨0, 0, 0, 0⟩, [], 0⟩, 0, 1)
  | draw (h : n = 4) (ha : a = []) (d : UInt32) : CallR n e a (⟨e.Ctx, e.T, d⟩, d, 0)
  | fault (h : argsN n = a.length) (hn : n ≠ 4) (x : UInt32) (hx : a[0]? = some x) (hw : ∀ t, e.T[x.toNat]? = some t → ¬ ((toT t).may = true ∧ fitsN n (toT t).s = true ∧ fieldN n a (toT t).s)) : CallR n e a (e, 0, 10)
  | act (h : argsN n = a.length) (hn : n ≠ 4) (x : UInt32) (t u : T_Table) (v : UInt32) (hx : a[0]? = some x) (ht : e.T[x.toNat]? = some t) (hm : (toT t).may = true) (hf : fitsN n (toT t).s = true) (hfd : fieldN n a (toT t).s)
      (hA : ActR t n a u v) : CallR n e a (⟨e.Ctx, e.T.set x.toNat u, e.Seed⟩, v, 0)
theorem put_is (c : T_helper_call) (t : T_Table) (f : Int) : p_helper_call_put c t f = some (UInt32.ofInt f, if f = 0 then ⟨t⟩ else c) := by
  unfold p_helper_call_put
  by_cases h : f = 0
  · subst h; rfl
  · have hb : (f == 0) = false := by simpa using h
    simp only [hb, cond_false, po_of, p_helper_call_put_J1, if_neg h]
theorem len2 {a : List UInt32} (h : a.length = 2) : ∃ x y, a = [x, y] := by
  match a, h with
  | [x, y], _ => exact ⟨x, y, rfl⟩
theorem len3 {a : List UInt32} (h : a.length = 3) : ∃ x y z, a = [x, y, z] := by
  match a, h with
  | [x, y, z], _ => exact ⟨x, y, z, rfl⟩
theorem len4 {a : List UInt32} (h : a.length = 4) : ∃ x y z w, a = [x, y, z, w] := by
  match a, h with
  | [x, y, z, w], _ => exact ⟨x, y, z, w, rfl⟩
theorem getA {t : T_Table} (hf : fits (toT t).e) (x k f : UInt32) : p_helper_call_get ⟨t⟩ [x, k, f] = some (UInt32.ofNat ((toT t).get k.toNat f.toNat).2.1, ⟨ofT ((toT t).get k.toNat f.toNat).1⟩) := by
  unfold p_helper_call_get p_table_Get
  simp only [List.getElem?_cons_succ, List.getElem?_cons_zero, po_of, pg_of hf]
theorem setA_ {t : T_Table} (hf : fits (toT t).e) (x k f w : UInt32) : ∃ u v, p_helper_call_set ⟨t⟩ [x, k, f, w] = some (v, ⟨u⟩) ∧ ActR t 1 [x, k, f, w] u v := by
  unfold p_helper_call_set p_table_Set
  simp only [List.getElem?_cons_succ, List.getElem?_cons_zero, po_of, pg_of hf, put_is]
  by_cases h : ((toT t).set k.toNat f.toNat w.toNat).2 = 0
  · rw [if_pos h, h]
    exact ⟨_, _, rfl, .set x k f w h⟩
  · rw [if_neg h]
    exact ⟨_, _, rfl, .setE x k f w h⟩
theorem delA_ {t : T_Table} (hf : fits (toT t).e) (x k : UInt32) : p_helper_call_del ⟨t⟩ [x, k] = some (toldN ((toT t).del k.toNat).2, ⟨ofT ((toT t).del k.toNat).1⟩) := by
  unfold p_helper_call_del p_table_Del
  simp only [List.getElem?_cons_succ, List.getElem?_cons_zero, po_of, pg_of hf, told_is]
theorem hasA {t : T_Table} (hf : fits (toT t).e) (x k : UInt32) : p_helper_call_has ⟨t⟩ [x, k] = some (toldN ((toT t).get k.toNat 0).2.2, ⟨t⟩) := by
  unfold p_helper_call_has p_table_Get
  simp only [List.getElem?_cons_succ, List.getElem?_cons_zero, po_of, pg_of hf, told_is]
  rfl
theorem pushA {t : T_Table} (x w : UInt32) : ∃ u v, p_helper_call_push ⟨t⟩ [x, w] = some (v, ⟨u⟩) ∧ ActR t 5 [x, w] u v := by
  unfold p_helper_call_push p_table_Push
  simp only [List.getElem?_cons_succ, List.getElem?_cons_zero, po_of, put_is]
  by_cases h : ((toT t).push w.toNat).2 = 0
  · rw [if_pos h, h]
    exact ⟨_, _, rfl, .push x w h⟩
  · rw [if_neg h]
    exact ⟨_, _, rfl, .pushE x w h⟩
theorem call_tells {n : Int} {e : T_Env} {a : List UInt32} (hF : Fits e.T) : ∃ r, p_helper_Call n e a = some r ∧ CallR n e a r := by
  unfold p_helper_Call
  rw [args_is]
  simp only [po_of]
  by_cases h1 : argsN n = -1
  · have hb : (argsN n == -1) = true := by simpa using h1
    simp only [hb, cond_true, po_of, p_helper_Call_J2]
    exact ⟨_, rfl, .arg (.inl h1)⟩
  have hb1 : (argsN n == -1) = false := by simpa using h1
  simp only [hb1, cond_false, po_of]
  by_cases h2 : argsN n = (a.length : Int)
  case neg =>
    have hb : (argsN n != (a.length : Int)) = true := by simpa using h2
    simp only [hb, cond_true, p_helper_Call_J2]
    exact ⟨_, rfl, .arg (.inr h2)⟩
  have hb2 : (argsN n != (a.length : Int)) = false := by simpa using h2
  simp only [hb2, cond_false, p_helper_Call_J2, own_is hF, po_of]
  by_cases h4 : n = 4
  · subst h4
    have ha : a = [] := by
      have : argsN 4 = 0 := rfl
      rw [this] at h2
      exact List.eq_nil_of_length_eq_zero (by omega)
    subst ha
    exact ⟨_, rfl, .draw rfl rfl _⟩
  have hb4 : (n == 4) = false := by simpa using h4
  simp only [hb4, cond_false]
  have hlen : 2 ≤ a.length := by
    unfold argsN at h1 h2
    repeat' split at h2
    all_goals first | omega | (exfalso; simp_all; done)
  obtain ⟨x, a', rfl⟩ : ∃ x a', a = x :: a' := by
    cases a with
    | nil => simp at hlen
    | cons x a' => exact ⟨x, a', rfl⟩
  have hx : (x :: a')[0]? = some x := rfl
  simp only [List.getElem?_cons_zero, po_of]
  have hxl := x.toNat_lt
  have hT := hF.len
  have w1 : IntKind.u64.wrap (x.toNat : Int) = (x.toNat : Int) := by rw [wrap64_mod]; omega
  have w2 : IntKind.u64.wrap (e.T.length : Int) = (e.T.length : Int) := by rw [wrap64_mod]; omega
  simp only [w1, w2]
  by_cases h5 : e.T.length ≤ x.toNat
  · have hb : decide ((x.toNat : Int) ≥ (e.T.length : Int)) = true := by simp; omega
    simp only [hb, cond_true]
    refine ⟨_, rfl, .fault h2 h4 x hx fun t ht => ?_⟩
    rw [List.getElem?_eq_none h5] at ht
    cases ht
  have hb5 : decide ((x.toNat : Int) ≥ (e.T.length : Int)) = false := by simp; omega
  obtain ⟨t, ht⟩ : ∃ t, e.T[x.toNat]? = some t := ⟨_, List.getElem?_eq_getElem (by omega)⟩
  simp only [hb5, cond_false, ht, po_of]
  -- the question of a field
  have q0 : (cond (n == 0) (some (e, true)) (some (e, n == 1)) : Option (T_Env × Bool)) = some (e, decide (n = 0 ∨ n = 1)) := by
    by_cases h0 : n = 0
    · subst h0; rfl
    · have : (n == 0) = false := by simpa using h0
      simp only [this, cond_false]
      by_cases h1 : n = 1
      · subst h1; rfl
      · have : (n == 1) = false := by simpa using h1
        simp [this, h0, h1]
  rw [q0]
  simp only [po_of, p_helper_Call_J11, fits_is]
  have tw : ∀ t', e.T[x.toNat]? = some t' → t' = t := fun t' h => by
    rw [ht] at h
    injection h with h
    exact h.symm
  have fault : ∀ (hw : ¬ ((toT t).may = true ∧ fitsN n (toT t).s = true ∧ fieldN n (x :: a') (toT t).s)), CallR n e (x :: a') (e, 0, 10) := fun hw => .fault h2 h4 x hx fun t' ht' => by
    rw [tw t' ht']
    exact hw
  cases hf : fitsN n (toT t).s with
  | false =>
    have hf' : fitsN n (toS t.S) = false := hf
    simp only [hf', cond_false, po_of, p_helper_Call_J13, cond_true]
    exact ⟨_, rfl, fault (fun h => by rw [hf] at h; exact absurd h.2.1 (by decide))⟩
  | true =>
    have hf' : fitsN n (toS t.S) = true := hf
    simp only [hf', cond_true, p_table_May, po_of]
    cases hm : (toT t).may with
    | false =>
      simp only [cond_false, po_of, p_helper_Call_J13, cond_true]
      exact ⟨_, rfl, fault (fun h => by rw [hm] at h; exact absurd h.1 (by decide))⟩
    | true =>
      simp only [cond_true]
      have hft : fits (toT t).e := mayFits hm
      have base : ∀ (hfd : fieldN n (x :: a') (toT t).s) (u : T_Table) (v : UInt32), ActR t n (x :: a') u v → CallR n e (x :: a') (⟨e.Ctx, e.T.set x.toNat u, e.Seed⟩, v, 0) := fun hfd u v hA => .act h2 h4 x t u v hx ht hm hf hfd hA
      have ht' : e.T[x.toNat]? = some t := ht
      by_cases hn : n = 0 ∨ n = 1
      · have hd : decide (n = 0 ∨ n = 1) = true := by simpa using hn
        simp only [hd, cond_true]
        obtain ⟨f, hfx⟩ : ∃ f, (x :: a')[2]? = some f := by
          refine ⟨_, List.getElem?_eq_getElem (i := 2) ?_⟩
          rcases hn with rfl | rfl
          · have : argsN 0 = 3 := rfl
            omega
          · have : argsN 1 = 4 := rfl
            omega
        simp only [hfx, po_of]
        by_cases hfd : (f.toNat : Int) < IntKind.u32.wrap t.S.Words
        · have hb : decide ((f.toNat : Int) ≥ IntKind.u32.wrap t.S.Words) = false := by simpa using hfd
          have hF2 : fieldN n (x :: a') (toT t).s := fun _ => ⟨f, hfx, hfd⟩
          simp only [hb, p_helper_Call_J13, cond_false]
          rcases hn with rfl | rfl
          · obtain ⟨x0, k, f0, e0⟩ := len3 (a := x :: a') (by have : argsN 0 = 3 := rfl; omega)
            injection e0 with e1 e2
            subst e1
            subst e2
            simp only [beq_self_eq_true, cond_true, getA hft, po_of, ht', pl]
            exact ⟨_, rfl, base hF2 _ _ (.get x k f0)⟩
          · obtain ⟨x0, k, f0, w, e0⟩ := len4 (a := x :: a') (by have : argsN 1 = 4 := rfl; omega)
            injection e0 with e1 e2
            subst e1
            subst e2
            obtain ⟨u, v, e3, hA⟩ := setA_ hft x k f0 w
            have z : ((1 : Int) == 0) = false := rfl
            simp only [z, beq_self_eq_true, cond_true, cond_false, e3, po_of, ht', pl]
            exact ⟨_, rfl, base hF2 _ _ hA⟩
        · have hb : decide ((f.toNat : Int) ≥ IntKind.u32.wrap t.S.Words) = true := by simpa using hfd
          simp only [hb, p_helper_Call_J13, cond_true]
          refine ⟨_, rfl, fault fun h => ?_⟩
          obtain ⟨f', e1, e2⟩ := h.2.2 hn
          rw [hfx] at e1
          injection e1 with e1
          subst e1
          exact hfd e2
      · have hd : decide (n = 0 ∨ n = 1) = false := by simpa using hn
        have hF2 : fieldN n (x :: a') (toT t).s := fun h => absurd h hn
        simp only [hd, cond_false, po_of, p_helper_Call_J13]
        have n0 : n ≠ 0 := fun h => hn (.inl h)
        have n1 : n ≠ 1 := fun h => hn (.inr h)
        have b0 : (n == 0) = false := by simpa using n0
        have b1 : (n == 1) = false := by simpa using n1
        simp only [b0, b1, cond_false]
        by_cases h22 : n = 2
        · subst h22
          obtain ⟨x0, k, e0⟩ := len2 (a := x :: a') (by have : argsN 2 = 2 := rfl; omega)
          injection e0 with e1 e2
          subst e1
          subst e2
          simp only [beq_self_eq_true, cond_true, delA_ hft, po_of, ht', pl]
          exact ⟨_, rfl, base hF2 _ _ (.del x k)⟩
        have b2 : (n == 2) = false := by simpa using h22
        simp only [b2, cond_false]
        by_cases h33 : n = 3
        · subst h33
          obtain ⟨x0, k, e0⟩ := len2 (a := x :: a') (by have : argsN 3 = 2 := rfl; omega)
          injection e0 with e1 e2
          subst e1
          subst e2
          simp only [beq_self_eq_true, cond_true, hasA hft, po_of, ht', pl]
          exact ⟨_, rfl, base hF2 _ _ (.has x k)⟩
        have b3 : (n == 3) = false := by simpa using h33
        simp only [b3, cond_false]
        by_cases h55 : n = 5
        · subst h55
          obtain ⟨x0, w, e0⟩ := len2 (a := x :: a') (by have : argsN 5 = 2 := rfl; omega)
          injection e0 with e1 e2
          subst e1
          subst e2
          obtain ⟨u, v, e3, hA⟩ := pushA (t := t) x w
          simp only [beq_self_eq_true, cond_true, e3, po_of, ht', pl]
          exact ⟨_, rfl, base hF2 _ _ hA⟩
        · exfalso
          unfold argsN at h1
          simp [n0, n1, h22, h33, h4, h55] at h1
theorem toLast_last {α : Type} {l : List α} {i : Nat} (h : i + 1 = l.length) : toLast l i = l := by
  refine List.ext_getElem? fun j => ?_
  rw [toLast_get (by omega)]
  split
  · rfl
  · split
    · omega
    · split
      · rw [show j = i by omega]
      · rw [List.getElem?_eq_none (by omega)]
theorem gets_ok {t : Tab} {key f : Nat} (hm : t.may = true) :
    (t.get key f).1.s = t.s ∧ (t.get key f).1.next = t.next ∧ (t.get key f).1.e.length = t.e.length ∧ (t.get key f).1.may = true ∧ (t.get key f).1.get key f = t.get key f ∧
      (t.get key f).2.2 = t.has key f ∧ (t.has key f = false → t.get key f = (t, 0, false)) ∧ (t.s.kind ≠ 2 → (t.get key f).1 = t) ∧
      (t.has key f = true → t.s.kind = 2 → 0 < t.e.length ∧ ∃ e, (t.get key f).1.e[t.e.length - 1]? = some e ∧ e.key = key) := by
  cases hh : t.has key f with
  | false =>
    have hg : t.get key f = (t, 0, false) := by unfold Tab.get; rw [if_neg (by simp [hh])]
    rw [hg]
    exact ⟨rfl, rfl, rfl, hm, hg, rfl, fun _ => rfl, fun _ => rfl, fun h => by cases h⟩
  | true =>
    have hg : t.get key f = ({ t with e := touch t.s.kind t.e (t.idx key) }, t.word (t.idx key) f, true) := by unfold Tab.get; rw [if_pos hh]
    obtain ⟨hkd, hp⟩ : t.keyed f = true ∧ 0 ≤ fidx key t.e 0 := by simpa [Tab.has] using hh
    obtain ⟨_, h3, hfw⟩ := keyed_iff.1 hkd
    obtain ⟨hsm, hlc, hnx, har, hw, hn⟩ := (may_std h3).1 hm
    obtain ⟨i, e, hi, he, hek⟩ := fidx_some rfl hp
    have hid : t.idx key = i := by unfold Tab.idx; omega
    have hil : i < t.e.length := (List.getElem?_eq_some_iff.1 he).1
    rw [hid] at hg
    by_cases hk2 : t.s.kind = 2
    · have ht : touch t.s.kind t.e i = toLast t.e i := by unfold touch; rw [if_pos hk2]
      rw [ht] at hg
      have hlen : (toLast t.e i).length = t.e.length := toLast_length hil
      have hlast : (toLast t.e i)[t.e.length - 1]? = some e := by
        rw [toLast_get hil, if_neg (by omega), if_neg (by omega), if_pos (by omega), he]
      have hperm := toLast_perm hil
      have hm2 : ({ t with e := toLast t.e i } : Tab).may = true := by
        refine (may_std (t := { t with e := toLast t.e i }) h3).2 ⟨hsm, (by simp only [hlen]; exact hlc), hnx, fun h0 => absurd (hk2.symm.trans h0) (by decide), fun y hy => hw y (hperm.subset hy), (hperm.map Ent.key).nodup_iff.2 hn⟩
      have hf2 : fidx key (toLast t.e i) 0 = ((t.e.length - 1 : Nat) : Int) := by
        rw [← hek]
        exact fidx_eq ((hperm.map Ent.key).nodup_iff.2 hn) hlast
      have hkd2 : ({ t with e := toLast t.e i } : Tab).keyed f = true := keyed_iff.2 ⟨hm2, h3, hfw⟩
      have hh2 : ({ t with e := toLast t.e i } : Tab).has key f = true := by simp [Tab.has, hkd2, hf2]
      have hid2 : ({ t with e := toLast t.e i } : Tab).idx key = t.e.length - 1 := by simp [Tab.idx, hf2]
      have hg2 : ({ t with e := toLast t.e i } : Tab).get key f = t.get key f := by
        rw [hg]
        unfold Tab.get
        rw [if_pos hh2, hid2]
        have : touch t.s.kind (toLast t.e i) (t.e.length - 1) = toLast t.e i := by unfold touch; rw [if_pos hk2]; exact toLast_last (by rw [hlen]; omega)
        simp only [this]
        simp [Tab.word, hlast, he]
      rw [hg] at hg2 ⊢
      exact ⟨rfl, rfl, hlen, hm2, hg2, rfl, fun h => (by cases h), fun h => absurd hk2 h, fun _ _ => ⟨by omega, e, hlast, hek⟩⟩
    · have ht : touch t.s.kind t.e i = t.e := by unfold touch; rw [if_neg hk2]
      rw [ht] at hg
      have hg1 : (t.get key f).1 = t := by rw [hg]
      refine ⟨by rw [hg1], by rw [hg1], by rw [hg1], by rw [hg1]; exact hm, by rw [hg1], by rw [hg], fun h => (by cases h), fun _ => hg1, fun _ h => absurd h hk2⟩
theorem toS_of {t u : Tab} (h : t.s = u.s) : (ofT t).S = (ofT u).S := by
  show ofS t.s = ofS u.s
  rw [h]
theorem to_get (t : T_Table) (k f : Nat) : toT (ofT ((toT t).get k f).1) = ((toT t).get k f).1 :=
  toT_ofT (okEs_get (okEs_to t)) (by
    unfold Tab.get
    split
    · exact next_to t
    · exact next_to t)
theorem to_set (t : T_Table) (k f x : UInt32) : toT (ofT ((toT t).set k.toNat f.toNat x.toNat).1) = ((toT t).set k.toNat f.toNat x.toNat).1 :=
  toT_ofT (okEs_set (okEs_to t) k.toNat_lt x.toNat_lt) (set_next (next_to t))
theorem to_del (t : T_Table) (k : Nat) : toT (ofT ((toT t).del k).1) = ((toT t).del k).1 :=
  toT_ofT (okEs_del (okEs_to t)) (by
    unfold Tab.del
    split
    · exact next_to t
    · split
      · exact next_to t
      · exact next_to t)
theorem to_push (t : T_Table) (w : UInt32) : toT (ofT ((toT t).push w.toNat).1) = ((toT t).push w.toNat).1 :=
  toT_ofT (okEs_push (okEs_to t) (next_to t) w.toNat_lt) push_next
theorem push_stays {t : Tab} {v : Nat} (hnx : t.next < 4294967296) (h : (t.push v).2 = 0) : (t.push v).1.may = true ∧ (t.push v).1.s = t.s := by
  unfold Tab.push at h ⊢
  split at h
  · exact absurd h (by decide)
  · rename_i hn
    rw [if_neg hn]
    split at h
    · exact absurd h (by decide)
    · rename_i hc
      rw [if_neg hc]
      have hm : t.may = true := by
        cases hq : t.may with
        | true => rfl
        | false => exact absurd (.inl hq) hn
      have hk : t.s.kind = 3 := by
        by_cases hq : t.s.kind = 3
        · exact hq
        · exact absurd (.inr hq) hn
      obtain ⟨h1, h2⟩ := (Tab.may_iff t).1 hm
      simp only [Tab.headOk, Bool.and_eq_true, Bool.or_eq_true, Bool.not_eq_true', decide_eq_true_eq, decide_eq_false_iff_not] at h1
      obtain ⟨⟨⟨h3, h4⟩, _⟩, _⟩ := h1
      have hb := Sch.may_bounds h3
      have hw : t.s.words = 1 := hb.2.2.2.2.2.2.1 hk
      refine ⟨(Tab.may_iff _).2 ⟨?_, fun i e he => ?_⟩, rfl⟩
      · simp only [Tab.headOk, Bool.and_eq_true, Bool.or_eq_true, Bool.not_eq_true', decide_eq_true_eq, decide_eq_false_iff_not, List.length_append, List.length_singleton]
        exact ⟨⟨⟨h3, by omega⟩, .inl hk⟩, .inl (by omega)⟩
      · have key : ∀ (i : Nat) (e : Ent), (t.e ++ [(⟨t.next, [v]⟩ : Ent)])[i]? = some e → i ≤ t.e.length ∧ e.v.length = 1 ∧ e.key = (t.next + (4294967296 - t.e.length) + i) % 4294967296 := fun i e he => by
          rw [List.getElem?_append] at he
          split at he
          · rename_i hi
            obtain ⟨q1, _, _, q2⟩ := (t.elOk_iff i e).1 (h2 i e he)
            exact ⟨by omega, by omega, q2 hk⟩
          · rename_i hi
            obtain ⟨q1, q2⟩ := List.getElem?_eq_some_iff.1 he
            simp only [List.length_singleton] at q1
            simp only [show i - t.e.length = 0 by omega, List.getElem_cons_zero] at q2
            subst q2
            refine ⟨by omega, rfl, ?_⟩
            show t.next = _
            omega
        obtain ⟨k1, k2, k3⟩ := key i e he
        refine (Tab.elOk_iff _ _ _).2 ⟨by rw [k2, hw]; rfl, ?_, fun h => absurd (h.symm.trans hk) (by decide), fun _ => ?_⟩
        · refine (fidx_found (j := 0) he rfl fun j x hj hx => ?_).trans (by simp)
          obtain ⟨_, _, k6⟩ := key j x hx
          rw [k3, k6]
          omega
        · rw [k3]
          show _ = ((t.next + 1) % 4294967296 + (4294967296 - (t.e ++ [(⟨t.next, [v]⟩ : Ent)]).length) + i) % 4294967296
          simp only [List.length_append, List.length_singleton]
          omega
theorem act_keeps {n : Int} {t u : T_Table} {a : List UInt32} {v : UInt32} (hm : (toT t).may = true) (h : ActR t n a u v) : (toT u).may = true ∧ u.S = t.S := by
  have fin : ∀ T : Tab, T.s = (toT t).s → (ofT T).S = t.S := fun T hT => by
    have := toS_of hT
    rw [ofT_toT] at this
    exact this
  cases h with
  | get x k f =>
    rw [to_get]
    exact ⟨(gets_ok hm).2.2.2.1, fin _ (gets_ok hm).1⟩
  | set x k f w h0 =>
    rw [to_set]
    exact ⟨(set_may h0).1, fin _ (set_may h0).2.2.2.2⟩
  | setE x k f w h0 => exact ⟨hm, rfl⟩
  | del x k =>
    rw [to_del]
    exact ⟨(del_ok hm).2.2.2.1, fin _ (del_ok hm).1⟩
  | has x k => exact ⟨hm, rfl⟩
  | push x w h0 =>
    rw [to_push]
    exact ⟨(push_stays (next_to t) h0).1, fin _ (push_stays (next_to t) h0).2⟩
  | pushE x w h0 => exact ⟨hm, rfl⟩
theorem del_none {t : Tab} {key f : Nat} (hm : t.may = true) (hh : t.has key 0 = true) : ((t.del key).1.get key f).2.1 = 0 := by
  have hdm := (del_ok (key := key) hm).2.2.2.1
  obtain ⟨hkd, hp⟩ : t.keyed 0 = true ∧ 0 ≤ fidx key t.e 0 := by simpa [Tab.has] using hh
  obtain ⟨_, h3, hfw⟩ := keyed_iff.1 hkd
  obtain ⟨hsm, hlc, hnx, har, hw, hn⟩ := (may_std h3).1 hm
  obtain ⟨i, e, hi, he, hek⟩ := fidx_some rfl hp
  have hid : t.idx key = i := by unfold Tab.idx; omega
  have hil : i < t.e.length := (List.getElem?_eq_some_iff.1 he).1
  by_cases hk0 : t.s.kind = 0
  · have hd : t.del key = ({ t with e := t.e.set i { e with v := List.replicate e.v.length 0 } }, true) := by
      unfold Tab.del
      rw [if_neg (by simp [hh]), if_pos hk0, hid]
      simp [zeroE, he]
    rw [hd] at hdm ⊢
    cases hkf : ({ t with e := t.e.set i { e with v := List.replicate e.v.length 0 } } : Tab).keyed f with
    | false => rw [get_unkeyed hkf]
    | true =>
      rw [get_mem hkf (e := { e with v := List.replicate e.v.length 0 }) (List.mem_of_getElem? (i := i) (by simp [hil])) hek]
      show ((List.replicate e.v.length 0)[f]?).getD 0 = 0
      rw [List.getElem?_replicate]
      split <;> rfl
  · have hd : t.del key = ({ t with e := t.e.eraseIdx i }, true) := by
      unfold Tab.del
      rw [if_neg (by simp [hh]), if_neg hk0, hid]
    rw [hd]
    rw [get_no (t := { t with e := t.e.eraseIdx i }) fun y hy hyk => ?_]
    obtain ⟨j, hj⟩ := List.mem_iff_getElem?.1 hy
    rw [List.getElem?_eraseIdx] at hj
    split at hj
    · have := keys_inj hn hj he (by rw [hyk, hek]); omega
    · have := keys_inj hn hj he (by rw [hyk, hek]); omega
theorem set_code {t : Tab} {key f x : Nat} : (t.set key f x).2 = 0 ∨ (t.set key f x).2 = 1 ∨ (t.set key f x).2 = 3 ∨ (t.set key f x).2 = 4 := by
  unfold Tab.set
  repeat' split
  all_goals simp
theorem fitsN_same {n k : Int} (hn : 0 ≤ n ∧ n ≤ 3) (hk : 0 ≤ k ∧ k ≤ 3) (s : Sch) : fitsN n s = fitsN k s := by
  unfold fitsN
  rw [if_neg (by omega), if_neg (by omega), decide_eq_true hn, decide_eq_true hk]
structure Live (e : T_Env) (m : UInt32) (t : T_Table) : Prop where
  fits : Fits e.T
  at_ : e.T[m.toNat]? = some t
  may : (toT t).may = true
  fitsN : fitsN 1 (toT t).s = true
theorem live_call {e : T_Env} {m : UInt32} {t : T_Table} (h : Live e m t) {n : Int} (hn : 0 ≤ n ∧ n ≤ 3) {a : List UInt32} (ha : argsN n = ((m :: a).length : Int)) (hfd : fieldN n (m :: a) (toT t).s) :
    ∃ u v, ActR t n (m :: a) u v ∧ p_helper_Call n e (m :: a) = some (⟨e.Ctx, e.T.set m.toNat u, e.Seed⟩, v, 0) := by
  obtain ⟨r, hr, hR⟩ := call_tells (n := n) (a := m :: a) h.fits
  have hf : Go.Proofs.Ytkhanhhingicpaa.fitsN n (toT t).s = true := by rw [fitsN_same hn (k := 1) (by omega)]; exact h.fitsN
  cases hR with
  | arg hq =>
    exfalso
    rcases hq with hq | hq
    · rw [ha] at hq; simp at hq; omega
    · exact hq ha
  | draw h4 ha d => omega
  | fault _ _ x hx hw =>
    injection hx with hx
    subst hx
    exact absurd ⟨h.may, hf, hfd⟩ (hw t h.at_)
  | act _ _ x t0 u v hx ht0 _ _ _ hA =>
    injection hx with hx
    subst hx
    rw [h.at_] at ht0
    injection ht0 with ht0
    subst ht0
    exact ⟨u, v, hA, hr⟩
theorem fits_set {l : List T_Table} {i : Nat} {u : T_Table} (h : Fits l) (hm : (toT u).may = true) : Fits (l.set i u) := by
  have hf := mayFits hm
  obtain ⟨f1, f2⟩ := hf
  refine ⟨by rw [List.length_set]; exact h.len, fun t ht => ?_, fun t ht => ?_⟩
  · rcases List.mem_or_eq_of_mem_set ht with h1 | rfl
    · exact h.e t h1
    · simpa [toT] using f1
  · rcases List.mem_or_eq_of_mem_set ht with h1 | rfl
    · exact h.v t h1
    · intro e he
      simpa [toE] using f2 (toE e) (List.mem_map_of_mem he)
theorem live_set {e : T_Env} {m : UInt32} {t u : T_Table} (h : Live e m t) (hm : (toT u).may = true) (hs : u.S = t.S) : Live ⟨e.Ctx, e.T.set m.toNat u, e.Seed⟩ m u :=
  ⟨fits_set h.fits hm, by show (e.T.set m.toNat u)[m.toNat]? = some u; rw [List.getElem?_set_self (get_lt h.at_)], hm, by show fitsN 1 (toS u.S) = true; rw [hs]; exact h.fitsN⟩
open Go Go.RowKit Go.Proofs.Try Go.WideShapes Go.ChangeShapes Go.Deep
set_option maxRecDepth 100000
section
variable {H : Type} {enc : TypeId × Value → H} {w : World} {base : Nat} {spare : Nat → Bool} {held : Bool}
theorem i64ok_of {n : Int} (h : (Lit.int .i64 n).wf = true) : i64ok n := by
  simp [Lit.wf, IntKind.min, IntKind.max, IntKind.bits, IntKind.signed] at h
  exact ⟨by omega, by omega⟩
theorem u32_of {n : Int} (h : (Lit.int .u32 n).wf = true) : ∃ m : Nat, n = (m : Int) ∧ m < 4294967296 := by
  simp [Lit.wf, IntKind.min, IntKind.max, IntKind.bits, IntKind.signed] at h
  exact ⟨n.toNat, by omega, by omega⟩
theorem Kd.of_trod {α : Type} (k : Kd α) {t e : TypeId} {fuel : Nat} {cs : List Value} {x : DataW H × List MemPlace} (ht : prog.underlying t = some (.slice e)) (hsz : prog.cellsOf e = k.sz) (hpos : 0 < k.sz)
    (hel : ∀ n cs' y, DataW.trod enc prog w base spare held n e cs' = some y → ∃ x, k.K w w.heap.size x cs') (h : DataW.trod enc prog w base spare held fuel t cs = some x) :
    ∃ A n c xs, cs = [.slice A n c] ∧ k.At w w.heap.size A n c xs := by
  rcases open_slice ht h with ⟨rfl, _⟩ | ⟨a, len, cap, m, n, D, Pl, rfl, hb, hl, hm, hmm, hx, hi⟩
  · exact ⟨none, 0, 0, [], rfl, Kd.At.nil _ _ _ _ _ (Nat.zero_le _)⟩
  · have hlm : len ≤ m := by rw [hmm]; split <;> omega
    obtain ⟨xs, hxl, hxs⟩ := choose_list (p := fun i v => ∃ cs', w.cells? base (a.add (i * prog.cellsOf e)) (prog.cellsOf e) = some cs' ∧ k.K w w.heap.size v cs') len (fun i hil => by
      obtain ⟨cs', hc, ht'⟩ := hi i (by omega)
      obtain ⟨x, hx⟩ := hel _ _ _ ht'
      exact ⟨x, cs', hc, hx⟩)
    refine ⟨some a, len, cap, xs, rfl, hxl, hl, hm, fun i v hv => ?_⟩
    obtain ⟨cs', hc, hk⟩ := hxs i v hv
    obtain ⟨_, hlen, hat⟩ := World.cells?_some hc
    have hcell : ∀ j u, cs'[j]? = some u → w.cell? (a.add (i * k.sz + j)) = some u := by
      intro j u hu
      have hj : j < prog.cellsOf e := by rw [← hlen]; exact (List.getElem?_eq_some_iff.1 hu).1
      have := hat j hj
      rw [hu, hsz, add_add] at this
      exact this
    have h0 : 0 < cs'.length := by rw [hlen, hsz]; exact hpos
    have := World.block_lt_of_cell? w _ (hcell 0 _ (List.getElem?_eq_getElem h0))
    rw [add_block] at this
    exact ⟨a, cs', rfl, this, hcell, hk⟩
theorem kW.of_trod {fuel : Nat} {cs : List Value} {x : DataW H × List MemPlace} (h : DataW.trod enc prog w base spare held fuel 39 cs = some x) : ∃ A n c xs, cs = [.slice A n c] ∧ kW.At w w.heap.size A n c xs := by
  refine Kd.of_trod kW underlying39 (by kernel_rfl) (by decide) (fun n cs' y hy => ?_) h
  obtain ⟨z, rfl, _, hw⟩ := DataW.trod_int underlying25 hy
  obtain ⟨m, rfl, hm⟩ := u32_of hw
  exact ⟨m, rfl, hm⟩
theorem kEnt.of_trod {fuel : Nat} {cs : List Value} {x : DataW H × List MemPlace} (h : DataW.trod enc prog w base spare held fuel 24 cs = some x) : ∃ A n c xs, cs = [.slice A n c] ∧ kEnt.At w w.heap.size A n c xs := by
  refine Kd.of_trod kEnt underlying24 (by kernel_rfl) (by decide) (fun n cs' y hy => ?_) h
  obtain ⟨xs, m, _, _, hl, hxl, hg⟩ := DataW.trod_struct underlying41 hy
  have h0 : DataW.trod enc prog w base spare held m 25 ((cs'.drop 0).take (prog.cellsOf 25)) = xs[0]? := hg 0 _ rfl
  have h1 : DataW.trod enc prog w base spare held m 39 ((cs'.drop 1).take (prog.cellsOf 39)) = xs[1]? := hg 1 _ rfl
  have e0 : prog.cellsOf 25 = 1 := by kernel_rfl
  have e1 : prog.cellsOf 39 = 1 := by kernel_rfl
  have e2 : prog.cellsOf 41 = 2 := by kernel_rfl
  rw [e2] at hl
  simp only [e0, e1] at h0 h1
  match cs', hl, xs, hxl with
  | [c0, c1], _, [y0, y1], _ =>
    simp at h0 h1
    obtain ⟨z, hz, _, hw⟩ := DataW.trod_int underlying25 h0
    obtain ⟨q, rfl, hq⟩ := u32_of hw
    obtain ⟨A, n, c, ws, hc, hat⟩ := kW.of_trod h1
    cases hz
    cases hc
    exact ⟨⟨q, ws⟩, A, n, c, rfl, hq, hat⟩
theorem kSch.of_trod {fuel : Nat} {cs : List Value} {x : DataW H × List MemPlace} (h : DataW.trod enc prog w base spare held fuel 23 cs = some x) : ∃ s : Sch, cs = s.cells ∧ s.Ok := by
  obtain ⟨xs, m, _, _, hl, hxl, hg⟩ := DataW.trod_struct underlying23 h
  have h0 : DataW.trod enc prog w base spare held m 3 ((cs.drop 0).take (prog.cellsOf 3)) = xs[0]? := hg 0 _ rfl
  have h1 : DataW.trod enc prog w base spare held m 3 ((cs.drop 1).take (prog.cellsOf 3)) = xs[1]? := hg 1 _ rfl
  have h2 : DataW.trod enc prog w base spare held m 3 ((cs.drop 2).take (prog.cellsOf 3)) = xs[2]? := hg 2 _ rfl
  have h3 : DataW.trod enc prog w base spare held m 3 ((cs.drop 3).take (prog.cellsOf 3)) = xs[3]? := hg 3 _ rfl
  have e0 : prog.cellsOf 3 = 1 := by kernel_rfl
  have e2 : prog.cellsOf 23 = 4 := by kernel_rfl
  rw [e2] at hl
  simp only [e0] at h0 h1 h2 h3
  match cs, hl, xs, hxl with
  | [c0, c1, c2, c3], _, [y0, y1, y2, y3], _ =>
    simp at h0 h1 h2 h3
    obtain ⟨z0, a0, _, w0⟩ := DataW.trod_int underlying3 h0
    obtain ⟨z1, a1, _, w1⟩ := DataW.trod_int underlying3 h1
    obtain ⟨z2, a2, _, w2⟩ := DataW.trod_int underlying3 h2
    obtain ⟨z3, a3, _, w3⟩ := DataW.trod_int underlying3 h3
    cases a0
    cases a1
    cases a2
    cases a3
    exact ⟨⟨z0, z1, z2, z3⟩, rfl, i64ok_of w0, i64ok_of w1, i64ok_of w2, i64ok_of w3⟩
theorem kTab.of_trod {fuel : Nat} {cs : List Value} {x : DataW H × List MemPlace} (h : DataW.trod enc prog w base spare held fuel 27 cs = some x) : ∃ t : Tab, kTab.K w w.heap.size t cs := by
  obtain ⟨xs, m, _, _, hl, hxl, hg⟩ := DataW.trod_struct underlying27 h
  have h0 : DataW.trod enc prog w base spare held m 23 ((cs.drop 0).take (prog.cellsOf 23)) = xs[0]? := hg 0 _ rfl
  have h1 : DataW.trod enc prog w base spare held m 24 ((cs.drop 4).take (prog.cellsOf 24)) = xs[1]? := hg 1 _ rfl
  have h2 : DataW.trod enc prog w base spare held m 25 ((cs.drop 5).take (prog.cellsOf 25)) = xs[2]? := hg 2 _ rfl
  have e0 : prog.cellsOf 23 = 4 := by kernel_rfl
  have e1 : prog.cellsOf 24 = 1 := by kernel_rfl
  have e3 : prog.cellsOf 25 = 1 := by kernel_rfl
  have e2 : prog.cellsOf 27 = 6 := by kernel_rfl
  rw [e2] at hl
  simp only [e0, e1, e3] at h0 h1 h2
  match cs, hl, xs, hxl with
  | [c0, c1, c2, c3, c4, c5], _, [y0, y1, y2], _ =>
    simp at h0 h1 h2
    obtain ⟨s, hs, hok⟩ := kSch.of_trod h0
    obtain ⟨A, n, c, es, he, hat⟩ := kEnt.of_trod h1
    obtain ⟨z, hz, _, hw⟩ := DataW.trod_int underlying25 h2
    obtain ⟨q, rfl, hq⟩ := u32_of hw
    cases hs
    cases he
    cases hz
    exact ⟨⟨s, es, q⟩, A, n, c, rfl, hok, hq, hat⟩
theorem open_tab {v : Value} {d : DataW H} {p : List MemPlace} {r : Reach} {b0 : Nat} (hv : Value.okWide prog w r b0 27 v) (h : DataW.Trod enc prog w base spare held 27 v d p) :
    ∃ (s : Sch) (A : Option Addr) (n c nx : Nat) (es : List Ent), v = tabV s A n c nx ∧ s.Ok ∧ nx < 4294967296 ∧ kEnt.At w w.heap.size A n c es := by
  obtain ⟨cs, rfl, hsz⟩ := okWide_struct underlying27 hv
  obtain ⟨fuel, hf⟩ := h
  obtain ⟨t, A, n, c, hc, hok, hn, hat⟩ := kTab.of_trod hf
  refine ⟨t.s, A, n, c, t.next, t.e, ?_, hok, hn, hat⟩
  obtain ⟨l⟩ := cs
  simp only [Value.cells] at hc
  subst hc
  rfl
theorem open_u32 {v : Value} {d : DataW H} {p : List MemPlace} {r : Reach} {b0 : Nat} (hv : Value.okWide prog w r b0 25 v) (h : DataW.Trod enc prog w base spare held 25 v d p) : ∃ x : Nat, v = .int .u32 (x : Int) ∧ x < 4294967296 := by
  obtain ⟨z, rfl, _, _, hw⟩ := open_int underlying25 hv h
  obtain ⟨q, rfl, hq⟩ := u32_of hw
  exact ⟨q, rfl, hq⟩
theorem trodAll_cons {P : Program} {t : TypeId} {ts : List TypeId} {l : List Value} {ds : List (DataW H)} {ps : List MemPlace} (h : DataW.TrodAll enc P w base spare held (t :: ts) l ds ps) :
    ∃ v vs d ds' p q, l = v :: vs ∧ ds = d :: ds' ∧ ps = p ++ q ∧ DataW.Trod enc P w base spare held t v d p ∧ DataW.TrodAll enc P w base spare held ts vs ds' q := by
  cases l with
  | nil => exact h.elim
  | cons v vs =>
    cases ds with
    | nil => exact h.elim
    | cons d ds =>
      obtain ⟨p, q, h1, h2, rfl⟩ := h
      exact ⟨v, vs, d, ds, p, q, rfl, rfl, rfl, h1, h2⟩
theorem trodAll_nil {P : Program} {l : List Value} {ds : List (DataW H)} {ps : List MemPlace} (h : DataW.TrodAll enc P w base spare held [] l ds ps) : l = [] ∧ ds = [] ∧ ps = [] := by
  cases l with
  | nil =>
    cases ds with
    | nil => exact ⟨rfl, rfl, h⟩
    | cons d ds => exact h.elim
  | cons v vs => exact h.elim
theorem trodAll_stays {P : Program} (hl : laidOutB P = true) {W W' : World} {sp : Nat → Bool} (ts : List TypeId) : ∀ {vs : List Value} {ds : List (DataW H)} {ps : List MemPlace}, (∀ t ∈ ts, P.readableRec t = true ∧ t < P.types.size) →
    DataW.TrodAll enc P W 0 (fun _ => true) true ts vs ds ps → (∀ p ∈ ps, W.sameAt W' p) → (∀ p ∈ ps, sp p.block = true) → DataW.TrodAll enc P W' 0 sp true ts vs ds ps := by
  induction ts with
  | nil =>
    intro vs ds ps _ h _ _
    obtain ⟨rfl, rfl, rfl⟩ := trodAll_nil h
    exact rfl
  | cons t ts ih =>
    intro vs ds ps ha h hsame hs
    obtain ⟨v, vs, d, ds', p, q, rfl, rfl, rfl, h1, h2⟩ := trodAll_cons h
    have ht := ha t (List.mem_cons_self ..)
    exact ⟨p, q, WideElems.Trod_stays hl ht.1 ht.2 h1 (fun x hx => hsame x (List.mem_append_left _ hx)) (fun x hx => hs x (List.mem_append_left _ hx)),
      ih (fun u hu => ha u (List.mem_cons_of_mem _ hu)) h2 (fun x hx => hsame x (List.mem_append_right _ hx)) (fun x hx => hs x (List.mem_append_right _ hx)), rfl⟩
theorem all_fine {P : Program} {ts : List TypeId} (h : (ts.all fun t => P.readableRec t && decide (t < P.types.size)) = true) : ∀ t ∈ ts, P.readableRec t = true ∧ t < P.types.size := by
  intro t ht
  have := List.all_eq_true.1 h t ht
  simp only [Bool.and_eq_true, decide_eq_true_eq] at this
  exact this
theorem post_law {f : Func} {s : ChangeSpec} {apart fresh handsOn again : Bool} {W W' : World} {args : Array Value} {ds gs : List (DataW H)} {before : List MemPlace} (hl : laidOutB prog = true)
    (hW : DataW.Whole enc prog f.params.toList s.vars apart W args.toList ds gs before) (hvars : s.vars = []) (hr : f.resultTypes = #[4]) (hp : (f.params.toList.all fun t => prog.readableRec t && decide (t < prog.types.size)) = true)
    (hfn : (s.fn H (ds ++ gs)).results = [.lit (.bool true)]) (hfa : (s.fn H (ds ++ gs)).args = ds) (hfv : (s.fn H (ds ++ gs)).vars = []) (hb : Below W.heap.size W W') : s.post enc prog f apart fresh handsOn again W args (.bool true) W' := by
  have hlt : ∀ p ∈ before, p.block < W.heap.size := fun p hp => hW.lt p hp
  have hold : ∀ p ∈ before, (fun b => decide (b < W.heap.size)) p.block = true := fun p hp => by simpa using hlt p hp
  have hW0 := hW
  obtain ⟨p, q, hA, hV, hpq, hz, hn⟩ := hW0
  rw [hvars] at hV
  obtain ⟨rfl, rfl⟩ := trodVars_none hV
  have hpq' : before = p := by simpa using hpq
  subst hpq'
  have hres : ∀ (b : Nat) (sp : Nat → Bool) (hd : Bool), DataW.TrodAll enc prog W' b sp hd f.resultTypes.toList ((Value.bool true).resultList f.resultTypes.size) (s.fn H (ds ++ [])).results [] := by
    intro b sp hd
    rw [hr, hfn]
    exact trodAll_mk1 (shut_bool underlying4 true)
  have hargs : ∀ sp : Nat → Bool, (∀ p ∈ before, sp p.block = true) → DataW.TrodAll enc prog W' 0 sp true f.params.toList args.toList (s.fn H (ds ++ [])).args before := by
    intro sp hsp
    rw [hfa]
    exact trodAll_stays hl _ (all_fine hp) hA (fun x hx => hb.same (hlt x hx)) hsp
  have hvs : ∀ sp : Nat → Bool, DataW.TrodVars enc prog W' sp s.vars (s.fn H (ds ++ [])).vars [] := by
    intro sp
    rw [hvars, hfv]
    rfl
  refine ⟨ds, [], before, [], before, [], hW, hres _ _ _, hargs _ hold, hvs _, World.keptBut_mono (fun p hp => ⟨hp, ?_⟩) (hb.frame (· ∈ before)), fun _ => ?_⟩
  · exact Or.inr (Or.inl hp)
  · refine ⟨ok_one hr rfl (okWide_bool_mk underlying4 true), _, _, ([] ++ before) ++ [], ⟨[] ++ before, [], trodAll_append (hargs _ (fun _ _ => rfl)) (hres _ _ _), hvs _, rfl, ?_, ?_⟩, ?_⟩
    · intro b off hp
      have hin : MemPlace.cell b off ∈ before := by simpa using hp
      rw [hb.frozen (hlt _ hin)]
      exact hz b off hin
    · intro ha
      simpa using hn ha
    · intro p hp _
      simpa using hp
end
set_option maxRecDepth 100000
def lawCx (w : World) : Cx := ⟨fun b => b < w.heap.size, fun _ _ => False, fun _ => none, fun _ => 0⟩
theorem Ctr.law {P : Program} {f : FuncId} {args : List AV} (h : Ctr P f args [] (.raw (.bool true)) []) {w : World} {vals : Array Value} (hsz : vals.size = args.length)
    (ha : ∀ (i : Nat) (u : AV), args[i]? = some u → VRel w (lawCx w) [] u (vals.getD i undef)) : Calls P f vals w fun e w' => e = .returned (.bool true) ∧ Below w.heap.size w w' := by
  have hH : HRel w (lawCx w) [] := ⟨fun b h => h, fun id o h => by simp [look] at h, fun id t sz g els g' h => by simp [look] at h, fun id t sz g els h => by simp [look] at h, fun id o b h => by simp [look] at h, fun id id' o o' b h => by simp [look] at h, fun id o h => by simp [look] at h⟩
  refine Calls.mono (h.2 w (lawCx w) vals hH (fun id g h => h.elim) hsz ha) ?_
  rintro e w' ⟨v, x', rfl, st, hv, _⟩
  exact ⟨by rw [hv.rawEq], st.tr.os, st.tr.tape, st.tr.output, st.tr.size, fun k hk => st.tr.keep k hk fun id o h => by simp [look] at h⟩
theorem VRels.of1 {w : World} {x : Cx} {hp : Hp} {l : List AV} {m : List Value} (h : VRels w x hp l m) : ∀ (i : Nat) (u : AV), l[i]? = some u → VRel w x hp u (m.toArray.getD i undef) := h.at_
theorem kW_dat {w : World} {f : Bool} {A : Option Addr} {n c : Nat} {xs : List Nat} (ht : f = true → c = n) (h : kW.At w w.heap.size A n c xs) : Dat w (fun b => b < w.heap.size) (.sl f (xs.map encW)) (.slice A n c) := by
  have hlen : (xs.map encW).length = n := by rw [List.length_map, h.len]
  have key := Dat.sl (w := w) (ok := fun b => b < w.heap.size) f (xs.map encW) A c 1 (fun i j => match A with | some ad => (w.cell? (ad.add (i * 1 + j))).getD undef | none => undef) (by rw [hlen]; exact h.le) h.cap (by rw [hlen]; exact ht) ?_ ?_ ?_ ?_
  · rw [hlen] at key
    exact key
  · intro i cs hi
    rw [List.getElem?_map] at hi
    obtain ⟨x, _, rfl⟩ := Option.map_eq_some_iff.1 hi
    rfl
  · intro i cs hi
    rw [List.getElem?_map] at hi
    obtain ⟨x, hx, rfl⟩ := Option.map_eq_some_iff.1 hi
    obtain ⟨ad, cs, e, hB, _⟩ := h.el i x hx
    exact ⟨ad, e, hB⟩
  · intro i j cs a hi hj ha
    rw [List.getElem?_map] at hi
    obtain ⟨x, hx, rfl⟩ := Option.map_eq_some_iff.1 hi
    obtain ⟨ad, cs, e, hB, hc, rfl, _⟩ := h.el i x hx
    rw [e] at ha
    injection ha with ha
    subst ha
    subst e
    have : j = 0 := by omega
    subst this
    have h0 : w.cell? (ad.add (i * 1 + 0)) = some (.int .u32 (x : Int)) := hc 0 _ rfl
    simp only [h0, Option.getD_some]
    exact ⟨trivial, rfl⟩
  · intro i j cs u hi hu
    rw [List.getElem?_map] at hi
    obtain ⟨x, hx, rfl⟩ := Option.map_eq_some_iff.1 hi
    obtain ⟨ad, cs, e, hB, hc, rfl, _⟩ := h.el i x hx
    subst e
    match j, hu with
    | 0, hu =>
      simp only [encW, List.getElem?_cons_zero, Option.some.injEq] at hu
      subst hu
      have h0 : w.cell? (ad.add (i * 1 + 0)) = some (.int .u32 (x : Int)) := hc 0 _ rfl
      simp only [h0, Option.getD_some]
      exact .raw _
    | j + 1, hu => simp [encW] at hu
theorem kEnt_dat {w : World} {f : Bool} {A : Option Addr} {n c : Nat} {es : List Ent} (ht : f = true → c = n) (h : kEnt.At w w.heap.size A n c es) : Dat w (fun b => b < w.heap.size) (.sl f (es.map encEnt)) (.slice A n c) := by
  have hlen : (es.map encEnt).length = n := by rw [List.length_map, h.len]
  have key := Dat.sl (w := w) (ok := fun b => b < w.heap.size) f (es.map encEnt) A c 2 (fun i j => match A with | some ad => (w.cell? (ad.add (i * 2 + j))).getD undef | none => undef) (by rw [hlen]; exact h.le) h.cap (by rw [hlen]; exact ht) ?_ ?_ ?_ ?_
  · rw [hlen] at key
    exact key
  · intro i cs hi
    rw [List.getElem?_map] at hi
    obtain ⟨x, _, rfl⟩ := Option.map_eq_some_iff.1 hi
    rfl
  · intro i cs hi
    rw [List.getElem?_map] at hi
    obtain ⟨x, hx, rfl⟩ := Option.map_eq_some_iff.1 hi
    obtain ⟨ad, cs, e, hB, _⟩ := h.el i x hx
    exact ⟨ad, e, hB⟩
  · intro i j cs a hi hj ha
    rw [List.getElem?_map] at hi
    obtain ⟨x, hx, rfl⟩ := Option.map_eq_some_iff.1 hi
    obtain ⟨ad, cs, e, hB, hc, A', n', c', rfl, _, _⟩ := h.el i x hx
    rw [e] at ha
    injection ha with ha
    subst ha
    subst e
    have hj : j = 0 ∨ j = 1 := by omega
    rcases hj with rfl | rfl
    · have h0 : w.cell? (ad.add (i * 2 + 0)) = some (.int .u32 (x.key : Int)) := hc 0 _ rfl
      simp only [h0, Option.getD_some]
      exact ⟨trivial, rfl⟩
    · have h0 : w.cell? (ad.add (i * 2 + 1)) = some (.slice A' n' c') := hc 1 _ rfl
      simp only [h0, Option.getD_some]
      exact ⟨trivial, rfl⟩
  · intro i j cs u hi hu
    rw [List.getElem?_map] at hi
    obtain ⟨x, hx, rfl⟩ := Option.map_eq_some_iff.1 hi
    obtain ⟨ad, cs, e, hB, hc, A', n', c', rfl, _, hin⟩ := h.el i x hx
    subst e
    match j, hu with
    | 0, hu =>
      simp only [encEnt, List.getElem?_cons_zero, Option.some.injEq] at hu
      subst hu
      have h0 : w.cell? (ad.add (i * 2 + 0)) = some (.int .u32 (x.key : Int)) := hc 0 _ rfl
      simp only [h0, Option.getD_some]
      exact .raw _
    | 1, hu =>
      simp only [encEnt, List.getElem?_cons_succ, List.getElem?_cons_zero, Option.some.injEq] at hu
      subst hu
      have h0 : w.cell? (ad.add (i * 2 + 1)) = some (.slice A' n' c') := hc 1 _ rfl
      simp only [h0, Option.getD_some]
      exact kW_dat (by intro h; cases h) hin
    | j + 2, hu => simp [encEnt] at hu
theorem okEs_of {w : World} {B : Nat} {A : Option Addr} {n c : Nat} {es : List Ent} (h : kEnt.At w B A n c es) : okEs es := by
  intro e he
  obtain ⟨i, hi⟩ := List.mem_iff_getElem?.1 he
  obtain ⟨ad, cs, _, _, _, A', n', c', _, hk, hin⟩ := h.el i e hi
  refine ⟨hk, fun y hy => ?_⟩
  obtain ⟨j, hj⟩ := List.mem_iff_getElem?.1 hy
  obtain ⟨_, _, _, _, _, _, h2⟩ := hin.el j y hj
  exact h2
theorem lt32_of {w : World} {B : Nat} {A : Option Addr} {n c : Nat} {xs : List Nat} (h : kW.At w B A n c xs) : lt32 xs := by
  intro y hy
  obtain ⟨j, hj⟩ := List.mem_iff_getElem?.1 hy
  obtain ⟨_, _, _, _, _, _, h2⟩ := h.el j y hj
  exact h2
theorem tab_rel {w : World} {s : Sch} {A : Option Addr} {n c nx : Nat} {es : List Ent} (h : kEnt.At w w.heap.size A n c es) : VRel w (lawCx w) [] (avTab false ⟨s, es, nx⟩) (tabV s A n c nx) :=
  avTab_ofs rfl rfl (kEnt_dat (by intro h; cases h) h)
section
variable {H : Type} {enc : TypeId × Value → H} {w : World} {base : Nat} {spare : Nat → Bool} {held : Bool}
theorem open_words {v : Value} {d : DataW H} {p : List MemPlace} {r : Reach} {b0 : Nat} (hv : Value.okWide prog w r b0 39 v) (h : DataW.Trod enc prog w base spare held 39 v d p) : ∃ A n c xs, v = .slice A n c ∧ kW.At w w.heap.size A n c xs := by
  obtain ⟨a, len, cap, rfl⟩ := okWide_slice underlying39 hv
  obtain ⟨fuel, hf⟩ := h
  obtain ⟨A, n, c, xs, hc, hat⟩ := kW.of_trod hf
  injection hc with hc
  injection hc with e1 e2 e3
  subst e1
  subst e2
  subst e3
  exact ⟨_, _, _, xs, rfl, hat⟩
theorem open_i64 {v : Value} {d : DataW H} {p : List MemPlace} {r : Reach} {b0 : Nat} (hv : Value.okWide prog w r b0 3 v) (h : DataW.Trod enc prog w base spare held 3 v d p) : ∃ x : Int, v = .int .i64 x ∧ i64ok x := by
  obtain ⟨z, rfl, _, _, hw⟩ := open_int underlying3 hv h
  exact ⟨z, rfl, i64ok_of hw⟩
end
inductive DRels (w : World) (ok : Nat → Prop) : List AV → List Value → Prop where
  | nil : DRels w ok [] []
  | cons {u v l m} (h : Dat w ok u v) (h1 : v.oneCell' = true) (r : DRels w ok l m) : DRels w ok (u :: l) (v :: m)
section
variable {w : World} {ok : Nat → Prop}
theorem DRels.len {l : List AV} {m : List Value} (h : DRels w ok l m) : m.length = l.length := by
  induction h with
  | nil => rfl
  | cons _ _ _ ih => simp [ih]
theorem DRels.app {l l' : List AV} {m m' : List Value} (h : DRels w ok l m) (h' : DRels w ok l' m') : DRels w ok (l ++ l') (m ++ m') := by
  induction h with
  | nil => exact h'
  | cons a b _ ih => exact .cons a b ih
theorem DRels.at_ {l : List AV} {m : List Value} (h : DRels w ok l m) : ∀ (i : Nat) (u : AV), l[i]? = some u → Dat w ok u (m.getD i undef) ∧ (m.getD i undef).oneCell' = true := by
  induction h with
  | nil => intro i u h; simp at h
  | cons a b _ ih =>
    intro i u h
    cases i with
    | zero => simp at h; subst h; exact ⟨a, b⟩
    | succ i => simpa using ih i u (by simpa using h)
theorem DRels.cat {l l' : List AV} {cs : List Value} {o s s' : Nat} (h : DRels w ok l ((cs.drop o).take s)) (h' : DRels w ok l' ((cs.drop (o + s)).take s')) : DRels w ok (l ++ l') ((cs.drop o).take (s + s')) := by
  have e : (cs.drop o).take (s + s') = (cs.drop o).take s ++ (cs.drop (o + s)).take s' := by
    rw [List.take_add, List.drop_drop]
  rw [e]
  exact h.app h'
end
def okW (w : World) : Nat → Prop := fun b => b < w.heap.size
section
variable {H : Type} {enc : TypeId × Value → H} {w : World} {base : Nat} {spare : Nat → Bool} {held : Bool} {t e : TypeId} {fuel : Nat} {cs : List Value} {x : DataW H × List MemPlace}
theorem oU32 (ht : prog.underlying t = some (.int .u32)) (h : DataW.trod enc prog w base spare held fuel t cs = some x) : ∃ a : UInt32, DRels w (okW w) (encU32 a) cs := by
  obtain ⟨z, rfl, _, hw⟩ := DataW.trod_int ht h
  obtain ⟨m, rfl, hm⟩ := u32_of hw
  refine ⟨UInt32.ofNat m, .cons ?_ rfl .nil⟩
  have : (UInt32.ofNat m).toNat = m := Nat.mod_eq_of_lt hm
  rw [this]
  exact .raw _
theorem oI64 (ht : prog.underlying t = some (.int .i64)) (h : DataW.trod enc prog w base spare held fuel t cs = some x) : ∃ a : Int, DRels w (okW w) (encI64 a) cs := by
  obtain ⟨z, rfl, _, hw⟩ := DataW.trod_int ht h
  exact ⟨z, .cons (.raw _) rfl .nil⟩
theorem oSl {α : Type} {f : α → List AV} {sz : Nat} (ht : prog.underlying t = some (.slice e)) (hsz : prog.cellsOf e = sz) (hpos : 0 < sz) (hl : ∀ a, (f a).length = sz)
    (hel : ∀ n cs' y, DataW.trod enc prog w base spare held n e cs' = some y → ∃ a, DRels w (okW w) (f a) cs') (h : DataW.trod enc prog w base spare held fuel t cs = some x) : ∃ l : List α, DRels w (okW w) [.sl false (l.map f)] cs := by
  rcases open_slice ht h with ⟨rfl, _⟩ | ⟨a, len, cap, m, n, D, Pl, rfl, hb, hle, hm, hmm, hx, hi⟩
  · exact ⟨[], .cons (Dat.nil _ _) rfl .nil⟩
  · have hlm : len ≤ m := by rw [hmm]; split <;> omega
    obtain ⟨xs, hxl, hxs⟩ := choose_list (p := fun i v => ∃ cs', w.cells? base (a.add (i * prog.cellsOf e)) (prog.cellsOf e) = some cs' ∧ DRels w (okW w) (f v) cs') len (fun i hil => by
      obtain ⟨cs', hc, ht'⟩ := hi i (by omega)
      obtain ⟨x, hx⟩ := hel _ _ _ ht'
      exact ⟨x, cs', hc, hx⟩)
    have hlen : (xs.map f).length = len := by rw [List.length_map, hxl]
    have cell : ∀ (i : Nat) (v : α), xs[i]? = some v → ∃ cs' : List Value, DRels w (okW w) (f v) cs' ∧ cs'.length = sz ∧ ∀ j, j < sz → w.cell? (a.add (i * sz + j)) = cs'[j]? := fun i v hv => by
      obtain ⟨cs', hc, hk⟩ := hxs i v hv
      obtain ⟨_, hl', hat⟩ := World.cells?_some hc
      refine ⟨cs', hk, by rw [hl', hsz], fun j hj => ?_⟩
      have := hat j (by rw [hsz]; exact hj)
      rw [hsz, av_add_add] at this
      exact this
    have key := Dat.sl (w := w) (ok := okW w) false (xs.map f) (some a) cap sz (fun i j => (w.cell? (a.add (i * sz + j))).getD undef) (by rw [hlen]; exact hle) hm (by intro h; cases h) ?_ ?_ ?_ ?_
    · rw [hlen] at key
      exact ⟨xs, .cons key rfl .nil⟩
    · intro i cs0 h0
      obtain ⟨v, _, rfl⟩ := map_at h0
      exact hl v
    · intro i cs0 h0
      obtain ⟨v, hv, rfl⟩ := map_at h0
      refine ⟨a, rfl, ?_⟩
      obtain ⟨cs', hk, hl', hat⟩ := cell i v hv
      have h1 := hat 0 hpos
      have h2 : 0 < cs'.length := by omega
      rw [List.getElem?_eq_getElem h2] at h1
      have := World.block_lt_of_cell? w _ h1
      rw [av_add_block] at this
      exact this
    · intro i j cs0 a' h0 hj ha'
      injection ha' with ha'
      subst ha'
      obtain ⟨v, hv, rfl⟩ := map_at h0
      obtain ⟨cs', hk, hl', hat⟩ := cell i v hv
      have h1 := hat j hj
      have h2 : j < cs'.length := by omega
      rw [List.getElem?_eq_getElem h2] at h1
      rw [h1]
      refine ⟨rfl, ?_⟩
      have h3 : j < (f v).length := by rw [hl]; exact hj
      have := (hk.at_ j _ (List.getElem?_eq_getElem h3)).2
      simpa [List.getD_eq_getElem?_getD, List.getElem?_eq_getElem h2] using this
    · intro i j cs0 u h0 hu
      obtain ⟨v, hv, rfl⟩ := map_at h0
      obtain ⟨cs', hk, hl', hat⟩ := cell i v hv
      have h3 := lt_of_get hu
      rw [hl] at h3
      rw [hat j h3]
      have := (hk.at_ j u hu).1
      simpa [List.getD_eq_getElem?_getD] using this
theorem oBool (ht : prog.underlying t = some .bool) (h : DataW.trod enc prog w base spare held fuel t cs = some x) : ∃ a : Bool, DRels w (okW w) (encBool a) cs := by
  obtain ⟨z, rfl, _⟩ := DataW.trod_bool ht h
  exact ⟨z, .cons (.raw _) rfl .nil⟩
theorem full {cs : List Value} {n : Nat} (h : cs.length = n) : (cs.drop 0).take n = cs := by
  rw [List.drop_zero, List.take_of_length_le (by omega)]
/-! Arguments. -/
theorem arg_agg {us : List AV} {vs : Array Value} (h : DRels w (okW w) us vs.toList) : VRel w (lawCx w) [] (.agg us) (.agg vs) := by
  have hl := h.len
  refine .agg us vs (by simpa using hl) (fun i hi => ?_) (fun i u hu => ?_)
  · have hi' : i < us.length := by rw [← hl]; simpa using hi
    have := (h.at_ i _ (List.getElem?_eq_getElem hi')).2
    simpa using this
  · have := (h.at_ i u hu).1
    exact .dat (show Dat w (okW w) u _ from by simpa using this)
theorem arg_one {u : AV} {v : Value} (h : DRels w (okW w) [u] [v]) : VRel w (lawCx w) [] u v := by
  cases h with
  | cons h _ _ => exact .dat h
theorem okWide_arr {P : Program} {w : World} {r : Reach} {base : Nat} {t n e : TypeId} {v : Value} (ht : P.underlying t = some (.array n e)) (h : Value.okWide P w r base t v) : ∃ cs, v = .agg cs := by
  simp only [Value.okWide, ht] at h
  obtain ⟨cs, h1, _⟩ := h
  exact ⟨cs, h1⟩
end
noncomputable def p_drydockref05_All_L3 (a0 : (List T_Table)) (a1 : (List T_Table)) (i_1 : Int) : Option ((Int) ⊕ ((Unit) ⊕ (Bool))) :=
  cond (decide (i_1 < (a0.length : Int))) (
  po (idx a0 i_1) fun x5 =>
  po (idx a1 i_1) fun x6 =>
  po (p_drydockref05_Same x5 x6) fun r7 =>
  cond (!r7) (
  some (Sum.inr (Sum.inr false))) (
  some (Sum.inl (IntKind.i64.wrap (i_1 + 1))))) (
  some (Sum.inr (Sum.inl ())))
noncomputable def p_drydockref05_All_J2 : Option (Bool) :=
  some true
noncomputable def p_drydockref05_All (a0 : (List T_Table)) (a1 : (List T_Table)) : Option (Bool) :=
  cond ((a0.length : Int) != (a1.length : Int)) (
  some false) (
  pm (
  lpU (fun x => p_drydockref05_All_L3 a0 a1 x) 0) (fun x => p_drydockref05_All_J2))
theorem c_drydockref05_All (a0 : (List T_Table)) (a1 : (List T_Table)) {r : Bool} (h : p_drydockref05_All a0 a1 = some r) : Ctr prog 72 [.sl false (a0.map enc_Table), .sl false (a1.map enc_Table)] [] (.raw (.bool r)) [] := by
 unfold p_drydockref05_All at h; refine Ctr.ofW tabOk func72 rfl call72 0 _ ntmps72 [.tmp 4] rfl rfl rfl (fun B => ?_); refine VC.seqF tabOkF [some 4] [0, 1] rfl rfl (fun K hK => ?_); push_cast; (repeat refine .intro (by omega) ?_); refine hK _ ?_; clear hK K; refine VC.seq ?_; refine VC.seqF tabOkF [some 7, some 8, some 9, some 10, some 11] [0, 1, 11] rfl rfl (fun K hK => ?_); push_cast; (repeat refine .intro (by omega) ?_); refine hK _ ?_; clear hK K; refine VC.cond rfl rfl (fun hc1 => ?_) (fun hc1 => ?_)
 ·have hb1 : ((a0.length : Int) != (a1.length : Int)) = true := by simpa using hc1
  replace h := cond_yes hb1 h; refine VC.seqF tabOkF [some 4] [4] rfl rfl (fun K hK => ?_); push_cast [hb1]; (repeat refine .intro (by omega) ?_); refine hK _ ?_; clear hK K; refine VC.ret ?_; have hr := Option.some.inj h; subst hr; refine endP (Sub.lo _) (Post.ret ?_ ?_ ?_)
  ·push_cast [hb1]
  ·push_cast [hb1]
  ·rfl
 ·have hb1 : ((a0.length : Int) != (a1.length : Int)) = false := by simpa using hc1
  replace h := cond_no hb1 h; refine VC.skip ?_; obtain ⟨v2, h, hk2⟩ := pm_some h; refine VC.seqJ (X := Unit) (fun x => p_drydockref05_All_J2 = some r) (fun x => ⟨[], [], 30, 29, 0⟩) ?_ ?_
  ·refine VC.seqF tabOkF [some 5] [0, 1, 5] rfl rfl (fun K hK => ?_); push_cast [hb1]; (repeat refine .intro (by omega) ?_); refine hK _ ?_; clear hK K; refine VC.block ?_; refine VC.loopP h (fun x => ⟨[(0, .sl false (a0.map enc_Table)), (1, .sl false (a1.map enc_Table)), (5, .raw (.int .i64 x))], [], 26, 29, 0⟩) ?_ ?_
   ·refine slo ?_ ?_ rfl rfl
    ·push_cast [hb1]
    ·push_cast [hb1]
   rintro i_1 b3 h hf3; replace h : p_drydockref05_All_L3 a0 a1 i_1 = some b3 := h; (try push_cast); unfold p_drydockref05_All_L3 at h; refine VC.seq ?_; refine VC.seqF tabOkF [some 12, some 13, some 14, some 15] [0, 1, 5, 15] rfl rfl (fun K hK => ?_); push_cast [hb1]; (repeat refine .intro (by omega) ?_); refine hK _ ?_; clear hK K; refine VC.cond rfl rfl (fun hc4 => ?_) (fun hc4 => ?_)
   ·have hb4 : (decide (i_1 < (a0.length : Int))) = true := by simpa using hc4
    replace h := cond_yes hb4 h; refine VC.skip ?_; refine VC.seq ?_; refine VC.block ?_; obtain ⟨x5, hx5, h⟩ := po_some h; obtain ⟨hx51, hx52, hx53, hx54⟩ := idx_some4 hx5; obtain ⟨x6, hx6, h⟩ := po_some h; obtain ⟨hx61, hx62, hx63, hx64⟩ := idx_some4 hx6; obtain ⟨r7, hr7, h⟩ := po_some h; refine VC.seqFD tabOkF hmixO [some 18, some 19, some 20, some 21, some 22, some 23, some 24, some 25, some 26, some 6] [0, 1, 5, 6] rfl rfl rfl (fun K hK => ?_); push_cast [hb1, hb4, hx51, hx52, hx53, hx54, hx61, hx62, hx63, hx64]; (repeat refine .intro (by omega) ?_); refine callPD (Ctr.lo (c_drydockref05_Same x5 x6 hr7)) rfl ?_; push_cast [hb1, hb4, hx51, hx52, hx53, hx54, hx61, hx62, hx63, hx64]; (repeat refine .intro (by omega) ?_); refine ⟨rfl, hK _ ?_⟩; clear hK K; refine VC.seqF tabOkF [some 27, some 28] [0, 1, 5, 28] rfl rfl (fun K hK => ?_); push_cast [hb1, hb4, hx51, hx52, hx53, hx54, hx61, hx62, hx63, hx64]; (repeat refine .intro (by omega) ?_); refine hK _ ?_; clear hK K; refine VC.cond rfl rfl (fun hc8 => ?_) (fun hc8 => ?_)
    ·have hb8 : (!r7) = true := by simpa using hc8
     replace h := cond_yes hb8 h; refine VC.seqF tabOkF [some 4] [4] rfl rfl (fun K hK => ?_); push_cast [hb1, hb4, hx51, hx52, hx53, hx54, hx61, hx62, hx63, hx64, hb8]; (repeat refine .intro (by omega) ?_); refine hK _ ?_; clear hK K; refine VC.ret ?_; replace h := congrArg some (hf3 _ (Option.some.inj h).symm); have hv := Option.some.inj h; rw [← hv] at hk2; replace h : some false = some r := hk2; have hr := Option.some.inj h; subst hr; refine endP (Sub.lo _) (Post.ret ?_ ?_ ?_)
     ·push_cast [hb1, hb4, hb8]
     ·push_cast [hb1, hb4, hb8]
     ·rfl
    ·have hb8 : (!r7) = false := by simpa using hc8
     replace h := cond_no hb8 h; refine VC.skip ?_; refine VC.lastF tabOkF [some 16, some 17, some 5] rfl rfl (fun K hK => ?_); push_cast [hb1, hb4, hx51, hx52, hx53, hx54, hx61, hx62, hx63, hx64, hb8]; (repeat refine .intro (by omega) ?_); refine hK _ ?_; clear hK K; refine Exists.intro ((IntKind.i64.wrap (i_1 + 1))) (And.intro (Option.some.inj h).symm ?_); refine slo ?_ ?_ rfl rfl
     ·push_cast [hb1, hb4, hb8]
     ·push_cast [hb1, hb4, hb8]
   ·have hb4 : (decide (i_1 < (a0.length : Int))) = false := by simpa using hc4
    replace h := cond_no hb4 h; refine VC.exit ?_; replace h := congrArg some (hf3 _ (Option.some.inj h).symm); have hv := Option.some.inj h; rw [← hv] at hk2; refine Exists.intro (()) (And.intro hk2 ?_); refine slo ?_ ?_ rfl rfl
    ·push_cast [hb1, hb4]
    ·push_cast [hb1, hb4]
  ·rintro ⟨⟩ h; replace h : p_drydockref05_All_J2 = some r := h; (try push_cast); unfold p_drydockref05_All_J2 at h; refine VC.seqF tabOkF [some 4] [4] rfl rfl (fun K hK => ?_); push_cast [hb1]; (repeat refine .intro (by omega) ?_); refine hK _ ?_; clear hK K; refine VC.ret ?_; have hr := Option.some.inj h; subst hr; refine endP (Sub.lo _) (Post.ret ?_ ?_ ?_)
   ·push_cast [hb1]
   ·push_cast [hb1]
   ·rfl
noncomputable def p_drydockref06_Same_J2 (i_1 : Bool) : Option (Bool) :=
  some i_1
noncomputable def p_drydockref06_Same (a0 : T_Env) (a1 : T_Env) : Option (Bool) :=
  po (p_drydockref05_All a0.T a1.T) fun r1 =>
  po (
  cond r1 (
  cond (((a0.Ctx.a0.toNat : Int) == (a1.Ctx.a0.toNat : Int)) && (((a0.Ctx.a1.toNat : Int) == (a1.Ctx.a1.toNat : Int)) && (((a0.Ctx.a2.toNat : Int) == (a1.Ctx.a2.toNat : Int)) && ((a0.Ctx.a3.toNat : Int) == (a1.Ctx.a3.toNat : Int))))) (
  some ((a0.Seed.toNat : Int) == (a1.Seed.toNat : Int))) (
  some false)) (
  some false)) (fun x => p_drydockref06_Same_J2 x)
theorem c_drydockref06_Same (a0 : T_Env) (a1 : T_Env) {r : Bool} (h : p_drydockref06_Same a0 a1 = some r) : Ctr prog 37 [.agg (enc_Env a0), .agg (enc_Env a1)] [] (.raw (.bool r)) [] := by
 unfold p_drydockref06_Same at h; refine Ctr.ofW tabOk func37 rfl call37 0 _ ntmps37 [.tmp 4] rfl rfl rfl (fun B => ?_); refine VC.seqF tabOkF [some 2, some 3, some 4] [2, 3] rfl rfl (fun K hK => ?_); push_cast; (repeat refine .intro (by omega) ?_); refine hK _ ?_; clear hK K; obtain ⟨r1, hr1, h⟩ := po_some h; refine VC.seqF tabOkF [some 6, some 7, some 8, some 9, some 10, some 5] [2, 3, 5] rfl rfl (fun K hK => ?_); push_cast; (repeat refine .intro (by omega) ?_); refine callP (Ctr.lo (c_drydockref05_All a0.T a1.T hr1)) rfl ?_; push_cast; (repeat refine .intro (by omega) ?_); refine hK _ ?_; clear hK K; obtain ⟨v2, h, hk2⟩ := po_some h; refine VC.seqJ (X := Bool) (fun x => p_drydockref06_Same_J2 x = some r) (fun x => ⟨[(4, .raw (.bool x))], [], 25, 26, 0⟩) ?_ ?_
 ·rcases Bool.eq_false_or_eq_true r1 with hb3 | hb3
  ·replace h := cond_yes hb3 h; rcases Bool.eq_false_or_eq_true (((a0.Ctx.a0.toNat : Int) == (a1.Ctx.a0.toNat : Int)) && (((a0.Ctx.a1.toNat : Int) == (a1.Ctx.a1.toNat : Int)) && (((a0.Ctx.a2.toNat : Int) == (a1.Ctx.a2.toNat : Int)) && ((a0.Ctx.a3.toNat : Int) == (a1.Ctx.a3.toNat : Int))))) with hb4 | hb4
   ·replace h := cond_yes hb4 h; refine VC.lastF tabOkF [some 11, some 12, some 13, some 14, some 15, some 16, some 17, some 18, some 19, some 20, some 21, some 22, some 23, some 24, some 25, some 4] rfl rfl (fun K hK => ?_); refine runOps_cut 8 (fun K2 hK2 => ?_); push_cast [hb3, hb4]; (repeat refine .intro (by omega) ?_); refine hK2 _ _ ?_; clear hK2 K2; simp only [List.drop_succ_cons, List.drop_zero]; push_cast [hb3, hb4]; (repeat refine .intro (by omega) ?_); refine hK _ ?_; clear hK K; have hv := Option.some.inj h; rw [← hv] at hk2; refine Exists.intro (((a0.Seed.toNat : Int) == (a1.Seed.toNat : Int))) (And.intro hk2 ?_); refine slo ?_ ?_ rfl rfl
    ·push_cast [hb3, hb4]
    ·push_cast [hb3, hb4]
   ·replace h := cond_no hb4 h; refine VC.lastF tabOkF [some 11, some 12, some 13, some 14, some 15, some 16, some 17, some 18, some 19, some 20, some 21, some 22, some 23, some 24, some 25, some 4] rfl rfl (fun K hK => ?_); refine runOps_cut 8 (fun K2 hK2 => ?_); push_cast [hb3, hb4]; (repeat refine .intro (by omega) ?_); refine hK2 _ _ ?_; clear hK2 K2; simp only [List.drop_succ_cons, List.drop_zero]; push_cast [hb3, hb4]; (repeat refine .intro (by omega) ?_); refine hK _ ?_; clear hK K; have hv := Option.some.inj h; rw [← hv] at hk2; refine Exists.intro (false) (And.intro hk2 ?_); refine slo ?_ ?_ rfl rfl
    ·push_cast [hb3, hb4]
    ·push_cast [hb3, hb4]
  ·replace h := cond_no hb3 h; refine VC.lastF tabOkF [some 11, some 12, some 13, some 14, some 15, some 16, some 17, some 18, some 19, some 20, some 21, some 22, some 23, some 24, some 25, some 4] rfl rfl (fun K hK => ?_); refine runOps_cut 8 (fun K2 hK2 => ?_); push_cast [hb3]; (repeat refine .intro (by omega) ?_); refine hK2 _ _ ?_; clear hK2 K2; simp only [List.drop_succ_cons, List.drop_zero]; push_cast [hb3]; (repeat refine .intro (by omega) ?_); refine hK _ ?_; clear hK K; have hv := Option.some.inj h; rw [← hv] at hk2; refine Exists.intro (false) (And.intro hk2 ?_); refine slo ?_ ?_ rfl rfl
   ·push_cast [hb3]
   ·push_cast [hb3]
 ·rintro i_1 h; replace h : p_drydockref06_Same_J2 i_1 = some r := h; (try push_cast); unfold p_drydockref06_Same_J2 at h; refine VC.ret ?_; have hr := Option.some.inj h; subst hr; refine endP (Sub.lo _) (Post.ret ?_ ?_ ?_)
  ·push_cast
  ·push_cast
  ·rfl
theorem all_refl {l : List T_Table} (hl : l.length ≤ 1048576) : p_drydockref05_All l l = some true := by
  have key := lp_inv (step := fun x => p_drydockref05_All_L3 l l x) (fun s => ∃ n : Nat, s = (n : Int) ∧ n ≤ l.length) (fun s => ((l.length : Int) - s).toNat) (fun r => r = .inl ()) (by
    rintro s ⟨n, rfl, h6⟩
    simp only [p_drydockref05_All_L3]
    by_cases hlt : n < l.length
    · left
      have hd : decide ((n : Int) < (l.length : Int)) = true := by simp; omega
      simp only [hd, cond_true, idx_nat, List.getElem?_eq_getElem hlt, po_of, p_drydockref05_Same, decide_true, Bool.not_true, cond_false]
      exact ⟨_, rfl, ⟨n + 1, w64 (by omega), by omega⟩, by simp only [w64 (show n < 9223372036854775807 by omega)]; omega⟩
    · right
      have hd : decide ((n : Int) < (l.length : Int)) = false := by simp; omega
      simp only [hd, cond_false]
      exact ⟨_, rfl, rfl⟩) 0 ⟨0, rfl, Nat.zero_le _⟩
  obtain ⟨r, h, rfl⟩ := key
  unfold p_drydockref05_All
  rw [show ((l.length : Int) != (l.length : Int)) = false by simp]
  simp only [cond_false]
  rw [h]
  rfl
theorem env_refl {e : T_Env} (hl : e.T.length ≤ 1048576) : p_drydockref06_Same e e = some true := by
  unfold p_drydockref06_Same
  rw [all_refl hl]
  simp only [po_of, cond_true, beq_self_eq_true, Bool.and_self, p_drydockref06_Same_J2]
end Go.Proofs.Ytkhanhhingicpaa
