/-
  PROVED: the statement InterpKeeps of the given seat: whatever the program, the environment, and how much fuel there is, drydocklaw07.InterpKeeps returns true, and what was handed in reads as it did.
  Conditions: none beyond the statement's own.
-/
import Derived.Test.YtkhanhhingicpaaJb3
import Derived.Test.YtkhanhhingicpaaRows
set_option linter.unusedVariables false
set_option linter.unusedSimpArgs false
set_option maxHeartbeats 4000000
set_option maxRecDepth 100000
namespace Go.Proofs.Ytkhanhhingicpaa
open Go Go.RowKit Go.Proofs.Try
noncomputable def p_drydocklaw07_InterpKeeps_J14 (i_4 : Int) (i_5 : Bool) : Option ((Int) ⊕ ((Unit) ⊕ (Bool))) :=
  cond i_5 (
  some (Sum.inr (Sum.inr false))) (
  some (Sum.inl (IntKind.i64.wrap (i_4 + 1))))
noncomputable def p_drydocklaw07_InterpKeeps_L12 (a1 : T_Env) (r7 : T_Ran) (i_4 : Int) : Option ((Int) ⊕ ((Unit) ⊕ (Bool))) :=
  cond (decide (i_4 < (a1.T.length : Int))) (
  po (
  po (idx r7.E.T i_4) fun x15 =>
  po (idx a1.T i_4) fun x16 =>
  cond ((x15.S.Kind == x16.S.Kind) && ((x15.S.Cap == x16.S.Cap) && ((x15.S.Words == x16.S.Words) && (x15.S.Ver == x16.S.Ver)))) (
  po (p_table_May x16) fun r18 =>
  cond r18 (
  po (p_table_May x15) fun r20 =>
  some (!r20)) (
  some false)) (
  some true)) (fun x => p_drydocklaw07_InterpKeeps_J14 i_4 x)) (
  some (Sum.inr (Sum.inl ())))
noncomputable def p_drydocklaw07_InterpKeeps_J11 : Option (Bool) :=
  some true
noncomputable def p_drydocklaw07_InterpKeeps_J8 (a1 : T_Env) (r7 : T_Ran) (i_2 : Bool) : Option (Bool) :=
  cond i_2 (
  some false) (
  pm (
  lpU (fun x => p_drydocklaw07_InterpKeeps_L12 a1 r7 x) 0) (fun x => p_drydocklaw07_InterpKeeps_J11))
noncomputable def p_drydocklaw07_InterpKeeps_J3 (a0 : T_Prog) (a1 : T_Env) (a2 : Int) (r1 : Bool) (i_1 : Bool) : Option (Bool) :=
  cond i_1 (
  some r1) (
  po (p_interp_Run a0 a1 a2) fun r7 =>
  po (
  cond ((r7.E.T.length : Int) != (a1.T.length : Int)) (
  some true) (
  some (!(((r7.E.Ctx.a0.toNat : Int) == (a1.Ctx.a0.toNat : Int)) && (((r7.E.Ctx.a1.toNat : Int) == (a1.Ctx.a1.toNat : Int)) && (((r7.E.Ctx.a2.toNat : Int) == (a1.Ctx.a2.toNat : Int)) && ((r7.E.Ctx.a3.toNat : Int) == (a1.Ctx.a3.toNat : Int)))))))) (fun x => p_drydocklaw07_InterpKeeps_J8 a1 r7 x))
noncomputable def p_drydocklaw07_InterpKeeps (a0 : T_Prog) (a1 : T_Env) (a2 : Int) : Option (Bool) :=
  po (p_drydocklaw07_awake) fun r1 =>
  po (p_drydocklaw07_few a0 a1) fun r2 =>
  po (
  cond r1 (
  cond r2 (
  some (decide (a2 > 3000))) (
  some true)) (
  some true)) (fun x => p_drydocklaw07_InterpKeeps_J3 a0 a1 a2 r1 x)
theorem c_drydocklaw07_InterpKeeps (a0 : T_Prog) (a1 : T_Env) (a2 : Int) {r : Bool} (h : p_drydocklaw07_InterpKeeps a0 a1 a2 = some r) : Ctr prog 9 [.agg (enc_Prog a0), .agg (enc_Env a1), .raw (.int .i64 a2)] [] (.raw (.bool r)) [] := by
 unfold p_drydocklaw07_InterpKeeps at h;refine Ctr.ofW tabOk func9 rfl call9 0 _ ntmps9 [.tmp 6] rfl rfl rfl (fun B => ?_);refine VC.seqF tabOkF [some 3,some 4,some 6] [2,3,4] rfl rfl (fun K hK => ?_);push_cast;(repeat refine .intro (by omega) ?_);refine hK _ ?_;clear hK K;obtain ⟨r1,hr1,h⟩ := po_some h;refine VC.seqF tabOkF [some 11,some 7] [2,3,4,7] rfl rfl (fun K hK => ?_);push_cast;(repeat refine .intro (by omega) ?_);refine callP (Ctr.lo (c_drydocklaw07_awake  hr1)) rfl ?_;push_cast;(repeat refine .intro (by omega) ?_);refine hK _ ?_;clear hK K;obtain ⟨r2,hr2,h⟩ := po_some h;refine VC.seqF tabOkF [some 12,some 13,some 14,some 8] [2,3,4,7,8] rfl rfl (fun K hK => ?_);push_cast;(repeat refine .intro (by omega) ?_);refine callP (Ctr.lo (c_drydocklaw07_few a0 a1 hr2)) rfl ?_;push_cast;(repeat refine .intro (by omega) ?_);refine hK _ ?_;clear hK K;refine VC.seq ?_;obtain ⟨v3,h,hk3⟩ := po_some h;refine VC.seqJ (X := Bool) (fun x => p_drydocklaw07_InterpKeeps_J3 a0 a1 a2 r1 x = some r) (fun x => ⟨[(2,.raw (.int .i64 a2)),(3,.ref 0 0),(4,.ref 1 0),(7,.raw (.bool r1)),(24,.raw (.bool x))],[(0,.box 64 [.sl false (a0.Fns.map enc_Fn)]),(1,.box 49 [.raw (.int .u32 (a1.Ctx.a0.toNat : Int)),.raw (.int .u32 (a1.Ctx.a1.toNat : Int)),.raw (.int .u32 (a1.Ctx.a2.toNat : Int)),.raw (.int .u32 (a1.Ctx.a3.toNat : Int)),.sl false (a1.T.map enc_Table),.raw (.int .u32 (a1.Seed.toNat : Int))])],19,85,0⟩) ?_ ?_
 ·rcases Bool.eq_false_or_eq_true r1 with hb4 | hb4
  ·replace h := cond_yes hb4 h;rcases Bool.eq_false_or_eq_true r2 with hb5 | hb5
   ·replace h := cond_yes hb5 h;refine VC.lastF tabOkF [some 15,some 16,some 17,some 18,some 19,some 20,some 21,some 22,some 23,some 24] rfl rfl (fun K hK => ?_);push_cast [hb4,hb5];(repeat refine .intro (by omega) ?_);refine hK _ ?_;clear hK K;have hv := Option.some.inj h;rw [← hv] at hk3;refine Exists.intro ((decide (a2 > 3000))) (And.intro hk3 ?_);refine slo ?_ ?_ rfl rfl
    ·push_cast [hb4,hb5]
    ·push_cast [hb4,hb5]
   ·replace h := cond_no hb5 h;refine VC.lastF tabOkF [some 15,some 16,some 17,some 18,some 19,some 20,some 21,some 22,some 23,some 24] rfl rfl (fun K hK => ?_);push_cast [hb4,hb5];(repeat refine .intro (by omega) ?_);refine hK _ ?_;clear hK K;have hv := Option.some.inj h;rw [← hv] at hk3;refine Exists.intro (true) (And.intro hk3 ?_);refine slo ?_ ?_ rfl rfl
    ·push_cast [hb4,hb5]
    ·push_cast [hb4,hb5]
  ·replace h := cond_no hb4 h;refine VC.lastF tabOkF [some 15,some 16,some 17,some 18,some 19,some 20,some 21,some 22,some 23,some 24] rfl rfl (fun K hK => ?_);push_cast [hb4];(repeat refine .intro (by omega) ?_);refine hK _ ?_;clear hK K;have hv := Option.some.inj h;rw [← hv] at hk3;refine Exists.intro (true) (And.intro hk3 ?_);refine slo ?_ ?_ rfl rfl
   ·push_cast [hb4]
   ·push_cast [hb4]
 ·rintro i_1 h;replace h : p_drydocklaw07_InterpKeeps_J3 a0 a1 a2 r1 i_1 = some r := h;(try push_cast);unfold p_drydocklaw07_InterpKeeps_J3 at h;refine VC.cond rfl rfl (fun hc6 => ?_) (fun hc6 => ?_)
  ·have hb6 : i_1 = true := by simpa using hc6
   replace h := cond_yes hb6 h;refine VC.seqF tabOkF [some 25,some 6] [6] rfl rfl (fun K hK => ?_);push_cast [hb6];(repeat refine .intro (by omega) ?_);refine hK _ ?_;clear hK K;refine VC.ret ?_;have hr := Option.some.inj h;subst hr;refine endP (Sub.lo _) (Post.ret ?_ ?_ ?_)
   ·push_cast [hb6]
   ·push_cast [hb6]
   ·rfl
  ·have hb6 : i_1 = false := by simpa using hc6
   replace h := cond_no hb6 h;refine VC.skip ?_;obtain ⟨r7,hr7,h⟩ := po_some h;refine VC.seqF tabOkF [some 26,some 27,some 28,some 29,some 9,none] [4,9] rfl rfl (fun K hK => ?_);push_cast [hb6];(repeat refine .intro (by omega) ?_);refine callP (Ctr.lo (c_interp_Run a0 a1 a2 hr7)) rfl ?_;push_cast [hb6];(repeat refine .intro (by omega) ?_);refine hK _ ?_;clear hK K;refine VC.seq ?_;obtain ⟨v8,h,hk8⟩ := po_some h;refine VC.seqJ (X := Bool) (fun x => p_drydocklaw07_InterpKeeps_J8 a1 r7 x = some r) (fun x => ⟨[(4,.ref 1 0),(9,.ref 23 0),(45,.raw (.bool x))],[(1,.box 49 [.raw (.int .u32 (a1.Ctx.a0.toNat : Int)),.raw (.int .u32 (a1.Ctx.a1.toNat : Int)),.raw (.int .u32 (a1.Ctx.a2.toNat : Int)),.raw (.int .u32 (a1.Ctx.a3.toNat : Int)),.sl false (a1.T.map enc_Table),.raw (.int .u32 (a1.Seed.toNat : Int))]),(23,.box 67 [.raw (.int .u32 (r7.Ret.toNat : Int)),.raw (.int .u32 (r7.E.Ctx.a0.toNat : Int)),.raw (.int .u32 (r7.E.Ctx.a1.toNat : Int)),.raw (.int .u32 (r7.E.Ctx.a2.toNat : Int)),.raw (.int .u32 (r7.E.Ctx.a3.toNat : Int)),.sl false (r7.E.T.map enc_Table),.raw (.int .u32 (r7.E.Seed.toNat : Int)),.raw (.int .i64 r7.Used),.raw (.int .i64 r7.Err)])],41,85,0⟩) ?_ ?_
   ·rcases Bool.eq_false_or_eq_true ((r7.E.T.length : Int) != (a1.T.length : Int)) with hb9 | hb9
    ·replace h := cond_yes hb9 h;refine VC.lastF tabOkF [some 30,some 31,some 32,some 33,some 34,some 35,some 36,some 37,some 38,some 39,some 40,some 41,some 42,some 43,some 44,some 45] rfl rfl (fun K hK => ?_);refine runOps_cut 8 (fun K2 hK2 => ?_);push_cast [hb6,hb9];(repeat refine .intro (by omega) ?_);refine hK2 _ _ ?_;clear hK2 K2;simp only [List.drop_succ_cons,List.drop_zero];push_cast [hb6,hb9];(repeat refine .intro (by omega) ?_);refine hK _ ?_;clear hK K;have hv := Option.some.inj h;rw [← hv] at hk8;refine Exists.intro (true) (And.intro hk8 ?_);refine slo ?_ ?_ rfl rfl
     ·push_cast [hb6,hb9]
     ·push_cast [hb6,hb9]
    ·replace h := cond_no hb9 h;refine VC.lastF tabOkF [some 30,some 31,some 32,some 33,some 34,some 35,some 36,some 37,some 38,some 39,some 40,some 41,some 42,some 43,some 44,some 45] rfl rfl (fun K hK => ?_);refine runOps_cut 8 (fun K2 hK2 => ?_);push_cast [hb6,hb9];(repeat refine .intro (by omega) ?_);refine hK2 _ _ ?_;clear hK2 K2;simp only [List.drop_succ_cons,List.drop_zero];push_cast [hb6,hb9];(repeat refine .intro (by omega) ?_);refine hK _ ?_;clear hK K;have hv := Option.some.inj h;rw [← hv] at hk8;refine Exists.intro ((!(((r7.E.Ctx.a0.toNat : Int) == (a1.Ctx.a0.toNat : Int)) && (((r7.E.Ctx.a1.toNat : Int) == (a1.Ctx.a1.toNat : Int)) && (((r7.E.Ctx.a2.toNat : Int) == (a1.Ctx.a2.toNat : Int)) && ((r7.E.Ctx.a3.toNat : Int) == (a1.Ctx.a3.toNat : Int))))))) (And.intro hk8 ?_);refine slo ?_ ?_ rfl rfl
     ·push_cast [hb6,hb9]
     ·push_cast [hb6,hb9]
   ·rintro i_2 h;replace h : p_drydocklaw07_InterpKeeps_J8 a1 r7 i_2 = some r := h;(try push_cast);unfold p_drydocklaw07_InterpKeeps_J8 at h;refine VC.cond rfl rfl (fun hc10 => ?_) (fun hc10 => ?_)
    ·have hb10 : i_2 = true := by simpa using hc10
     replace h := cond_yes hb10 h;refine VC.seqF tabOkF [some 6] [6] rfl rfl (fun K hK => ?_);push_cast [hb6,hb10];(repeat refine .intro (by omega) ?_);refine hK _ ?_;clear hK K;refine VC.ret ?_;have hr := Option.some.inj h;subst hr;refine endP (Sub.lo _) (Post.ret ?_ ?_ ?_)
     ·push_cast [hb6,hb10]
     ·push_cast [hb6,hb10]
     ·rfl
    ·have hb10 : i_2 = false := by simpa using hc10
     replace h := cond_no hb10 h;refine VC.skip ?_;obtain ⟨v11,h,hk11⟩ := pm_some h;refine VC.seqJ (X := Unit) (fun x => p_drydocklaw07_InterpKeeps_J11 = some r) (fun x => ⟨[],[],87,85,0⟩) ?_ ?_
     ·refine VC.seqF tabOkF [some 10] [4,9,10] rfl rfl (fun K hK => ?_);push_cast [hb6,hb10];(repeat refine .intro (by omega) ?_);refine hK _ ?_;clear hK K;refine VC.block ?_;refine VC.loopP h (fun x => ⟨[(4,.ref 1 0),(9,.ref 23 0),(10,.raw (.int .i64 x))],[(1,.box 49 [.raw (.int .u32 (a1.Ctx.a0.toNat : Int)),.raw (.int .u32 (a1.Ctx.a1.toNat : Int)),.raw (.int .u32 (a1.Ctx.a2.toNat : Int)),.raw (.int .u32 (a1.Ctx.a3.toNat : Int)),.sl false (a1.T.map enc_Table),.raw (.int .u32 (a1.Seed.toNat : Int))]),(23,.box 67 [.raw (.int .u32 (r7.Ret.toNat : Int)),.raw (.int .u32 (r7.E.Ctx.a0.toNat : Int)),.raw (.int .u32 (r7.E.Ctx.a1.toNat : Int)),.raw (.int .u32 (r7.E.Ctx.a2.toNat : Int)),.raw (.int .u32 (r7.E.Ctx.a3.toNat : Int)),.sl false (r7.E.T.map enc_Table),.raw (.int .u32 (r7.E.Seed.toNat : Int)),.raw (.int .i64 r7.Used),.raw (.int .i64 r7.Err)])],82,85,0⟩) ?_ ?_
      ·refine slo ?_ ?_ rfl rfl
       ·push_cast [hb6,hb10]
       ·push_cast [hb6,hb10]
      rintro i_4 b12 h hf12;replace h : p_drydocklaw07_InterpKeeps_L12 a1 r7 i_4 = some b12 := h;(try push_cast);unfold p_drydocklaw07_InterpKeeps_L12 at h;refine VC.seq ?_;refine VC.seqF tabOkF [some 46,some 47,some 48,some 49,some 50] [4,9,10,50] rfl rfl (fun K hK => ?_);push_cast [hb6,hb10];(repeat refine .intro (by omega) ?_);refine hK _ ?_;clear hK K;refine VC.cond rfl rfl (fun hc13 => ?_) (fun hc13 => ?_)
      ·have hb13 : (decide (i_4 < (a1.T.length : Int))) = true := by simpa using hc13
       replace h := cond_yes hb13 h;refine VC.skip ?_;refine VC.seq ?_;refine VC.block ?_;obtain ⟨v14,h,hk14⟩ := po_some h;refine VC.seqJ (X := Bool) (fun x => p_drydocklaw07_InterpKeeps_J14 i_4 x = some b12) (fun x => ⟨[(4,.ref 1 0),(9,.ref 23 0),(10,.raw (.int .i64 i_4)),(84,.raw (.bool x))],[(1,.box 49 [.raw (.int .u32 (a1.Ctx.a0.toNat : Int)),.raw (.int .u32 (a1.Ctx.a1.toNat : Int)),.raw (.int .u32 (a1.Ctx.a2.toNat : Int)),.raw (.int .u32 (a1.Ctx.a3.toNat : Int)),.sl false (a1.T.map enc_Table),.raw (.int .u32 (a1.Seed.toNat : Int))]),(23,.box 67 [.raw (.int .u32 (r7.Ret.toNat : Int)),.raw (.int .u32 (r7.E.Ctx.a0.toNat : Int)),.raw (.int .u32 (r7.E.Ctx.a1.toNat : Int)),.raw (.int .u32 (r7.E.Ctx.a2.toNat : Int)),.raw (.int .u32 (r7.E.Ctx.a3.toNat : Int)),.sl false (r7.E.T.map enc_Table),.raw (.int .u32 (r7.E.Seed.toNat : Int)),.raw (.int .i64 r7.Used),.raw (.int .i64 r7.Err)])],119,85,0⟩) ?_ ?_
       ·obtain ⟨x15,hx15,h⟩ := po_some h;obtain ⟨hx151,hx152,hx153,hx154⟩ := idx_some4 hx15;obtain ⟨x16,hx16,h⟩ := po_some h;obtain ⟨hx161,hx162,hx163,hx164⟩ := idx_some4 hx16;rcases Bool.eq_false_or_eq_true ((x15.S.Kind == x16.S.Kind) && ((x15.S.Cap == x16.S.Cap) && ((x15.S.Words == x16.S.Words) && (x15.S.Ver == x16.S.Ver)))) with hb17 | hb17
        ·replace h := cond_yes hb17 h;obtain ⟨r18,hr18,h⟩ := po_some h;rcases Bool.eq_false_or_eq_true r18 with hb19 | hb19
         ·replace h := cond_yes hb19 h;obtain ⟨r20,hr20,h⟩ := po_some h;refine VC.lastFD tabOkF hmixO [some 53,some 54,some 55,some 56,some 57,some 58,some 59,some 60,some 61,some 62,some 63,some 64,some 65,some 66,some 67,some 68,some 69,some 70,some 71,some 72,some 73,some 74,some 75,some 76,some 77,some 78,some 79,some 80,some 81,some 82,some 83,some 84] rfl rfl rfl (fun K hK => ?_);refine runD_cut 8 (fun K2 hK2 => ?_);push_cast [hb6,hb10,hb13,hx151,hx152,hx153,hx154,hx161,hx162,hx163,hx164,hb17,hb19];(repeat refine .intro (by omega) ?_);refine hK2 _ _ _ ?_;clear hK2 K2;simp only [List.drop_succ_cons,List.drop_zero];refine runD_cut 8 (fun K2 hK2 => ?_);push_cast [hb6,hb10,hb13,hx151,hx152,hx153,hx154,hx161,hx162,hx163,hx164,hb17,hb19];(repeat refine .intro (by omega) ?_);refine hK2 _ _ _ ?_;clear hK2 K2;simp only [List.drop_succ_cons,List.drop_zero];refine runD_cut 8 (fun K2 hK2 => ?_);push_cast [hb6,hb10,hb13,hx151,hx152,hx153,hx154,hx161,hx162,hx163,hx164,hb17,hb19];(repeat refine .intro (by omega) ?_);refine callPD (Ctr.lo (c_table_May x16 hr18)) rfl ?_;push_cast [hb6,hb10,hb13,hx151,hx152,hx153,hx154,hx161,hx162,hx163,hx164,hb17,hb19];(repeat refine .intro (by omega) ?_);refine hK2 _ _ _ ?_;clear hK2 K2;simp only [List.drop_succ_cons,List.drop_zero];push_cast [hb6,hb10,hb13,hx151,hx152,hx153,hx154,hx161,hx162,hx163,hx164,hb17,hb19];(repeat refine .intro (by omega) ?_);refine callPD (Ctr.lo (c_table_May x15 hr20)) rfl ?_;push_cast [hb6,hb10,hb13,hx151,hx152,hx153,hx154,hx161,hx162,hx163,hx164,hb17,hb19];(repeat refine .intro (by omega) ?_);refine ⟨rfl,hK _ ?_⟩;clear hK K;have hv := Option.some.inj h;rw [← hv] at hk14;refine Exists.intro ((!r20)) (And.intro hk14 ?_);refine slo ?_ ?_ rfl rfl
          ·push_cast [hb6,hb10,hb13,hb17,hb19]
          ·push_cast [hb6,hb10,hb13,hb17,hb19]
         ·replace h := cond_no hb19 h;refine VC.lastFD tabOkF hmixO [some 53,some 54,some 55,some 56,some 57,some 58,some 59,some 60,some 61,some 62,some 63,some 64,some 65,some 66,some 67,some 68,some 69,some 70,some 71,some 72,some 73,some 74,some 75,some 76,some 77,some 78,some 79,some 80,some 81,some 82,some 83,some 84] rfl rfl rfl (fun K hK => ?_);refine runD_cut 8 (fun K2 hK2 => ?_);push_cast [hb6,hb10,hb13,hx151,hx152,hx153,hx154,hx161,hx162,hx163,hx164,hb17,hb19];(repeat refine .intro (by omega) ?_);refine hK2 _ _ _ ?_;clear hK2 K2;simp only [List.drop_succ_cons,List.drop_zero];refine runD_cut 8 (fun K2 hK2 => ?_);push_cast [hb6,hb10,hb13,hx151,hx152,hx153,hx154,hx161,hx162,hx163,hx164,hb17,hb19];(repeat refine .intro (by omega) ?_);refine hK2 _ _ _ ?_;clear hK2 K2;simp only [List.drop_succ_cons,List.drop_zero];refine runD_cut 8 (fun K2 hK2 => ?_);push_cast [hb6,hb10,hb13,hx151,hx152,hx153,hx154,hx161,hx162,hx163,hx164,hb17,hb19];(repeat refine .intro (by omega) ?_);refine callPD (Ctr.lo (c_table_May x16 hr18)) rfl ?_;push_cast [hb6,hb10,hb13,hx151,hx152,hx153,hx154,hx161,hx162,hx163,hx164,hb17,hb19];(repeat refine .intro (by omega) ?_);refine hK2 _ _ _ ?_;clear hK2 K2;simp only [List.drop_succ_cons,List.drop_zero];push_cast [hb6,hb10,hb13,hx151,hx152,hx153,hx154,hx161,hx162,hx163,hx164,hb17,hb19];(repeat refine .intro (by omega) ?_);refine ⟨rfl,hK _ ?_⟩;clear hK K;have hv := Option.some.inj h;rw [← hv] at hk14;refine Exists.intro (false) (And.intro hk14 ?_);refine slo ?_ ?_ rfl rfl
          ·push_cast [hb6,hb10,hb13,hb17,hb19]
          ·push_cast [hb6,hb10,hb13,hb17,hb19]
        ·replace h := cond_no hb17 h;refine VC.lastFD tabOkF hmixO [some 53,some 54,some 55,some 56,some 57,some 58,some 59,some 60,some 61,some 62,some 63,some 64,some 65,some 66,some 67,some 68,some 69,some 70,some 71,some 72,some 73,some 74,some 75,some 76,some 77,some 78,some 79,some 80,some 81,some 82,some 83,some 84] rfl rfl rfl (fun K hK => ?_);refine runD_cut 8 (fun K2 hK2 => ?_);push_cast [hb6,hb10,hb13,hx151,hx152,hx153,hx154,hx161,hx162,hx163,hx164,hb17];(repeat refine .intro (by omega) ?_);refine hK2 _ _ _ ?_;clear hK2 K2;simp only [List.drop_succ_cons,List.drop_zero];refine runD_cut 8 (fun K2 hK2 => ?_);push_cast [hb6,hb10,hb13,hx151,hx152,hx153,hx154,hx161,hx162,hx163,hx164,hb17];(repeat refine .intro (by omega) ?_);refine hK2 _ _ _ ?_;clear hK2 K2;simp only [List.drop_succ_cons,List.drop_zero];refine runD_cut 8 (fun K2 hK2 => ?_);push_cast [hb6,hb10,hb13,hx151,hx152,hx153,hx154,hx161,hx162,hx163,hx164,hb17];(repeat refine .intro (by omega) ?_);refine hK2 _ _ _ ?_;clear hK2 K2;simp only [List.drop_succ_cons,List.drop_zero];push_cast [hb6,hb10,hb13,hx151,hx152,hx153,hx154,hx161,hx162,hx163,hx164,hb17];(repeat refine .intro (by omega) ?_);refine ⟨rfl,hK _ ?_⟩;clear hK K;have hv := Option.some.inj h;rw [← hv] at hk14;refine Exists.intro (true) (And.intro hk14 ?_);refine slo ?_ ?_ rfl rfl
         ·push_cast [hb6,hb10,hb13,hb17]
         ·push_cast [hb6,hb10,hb13,hb17]
       ·rintro i_5 h;replace h : p_drydocklaw07_InterpKeeps_J14 i_4 i_5 = some b12 := h;(try push_cast);unfold p_drydocklaw07_InterpKeeps_J14 at h;refine VC.cond rfl rfl (fun hc21 => ?_) (fun hc21 => ?_)
        ·have hb21 : i_5 = true := by simpa using hc21
         replace h := cond_yes hb21 h;refine VC.seqF tabOkF [some 6] [6] rfl rfl (fun K hK => ?_);push_cast [hb6,hb10,hb13,hb21];(repeat refine .intro (by omega) ?_);refine hK _ ?_;clear hK K;refine VC.ret ?_;replace h := congrArg some (hf12 _ (Option.some.inj h).symm);have hv := Option.some.inj h;rw [← hv] at hk11;replace h : some false = some r := hk11;have hr := Option.some.inj h;subst hr;refine endP (Sub.lo _) (Post.ret ?_ ?_ ?_)
         ·push_cast [hb6,hb10,hb13,hb21]
         ·push_cast [hb6,hb10,hb13,hb21]
         ·rfl
        ·have hb21 : i_5 = false := by simpa using hc21
         replace h := cond_no hb21 h;refine VC.skip ?_;refine VC.lastF tabOkF [some 51,some 52,some 10] rfl rfl (fun K hK => ?_);push_cast [hb6,hb10,hb13,hb21];(repeat refine .intro (by omega) ?_);refine hK _ ?_;clear hK K;refine Exists.intro ((IntKind.i64.wrap (i_4 + 1))) (And.intro (Option.some.inj h).symm ?_);refine slo ?_ ?_ rfl rfl
         ·push_cast [hb6,hb10,hb13,hb21]
         ·push_cast [hb6,hb10,hb13,hb21]
      ·have hb13 : (decide (i_4 < (a1.T.length : Int))) = false := by simpa using hc13
       replace h := cond_no hb13 h;refine VC.exit ?_;replace h := congrArg some (hf12 _ (Option.some.inj h).symm);have hv := Option.some.inj h;rw [← hv] at hk11;refine Exists.intro (()) (And.intro hk11 ?_);refine slo ?_ ?_ rfl rfl
       ·push_cast [hb6,hb10,hb13]
       ·push_cast [hb6,hb10,hb13]
     ·rintro ⟨⟩ h;replace h : p_drydocklaw07_InterpKeeps_J11 = some r := h;(try push_cast);unfold p_drydocklaw07_InterpKeeps_J11 at h;refine VC.seqF tabOkF [some 6] [6] rfl rfl (fun K hK => ?_);push_cast [hb6,hb10];(repeat refine .intro (by omega) ?_);refine hK _ ?_;clear hK K;refine VC.ret ?_;have hr := Option.some.inj h;subst hr;refine endP (Sub.lo _) (Post.ret ?_ ?_ ?_)
      ·push_cast [hb6,hb10]
      ·push_cast [hb6,hb10]
      ·rfl
theorem keeps_run {p : T_Prog} {e : T_Env} {fu : Int} (hF : Fits e.T) : ∃ x, p_interp_Run p e fu = some x ∧ EKeep e x.E := by
  obtain ⟨c, hc1, hc2⟩ := progMay_tells p
  rw [runI hc1 hc2 hF]
  by_cases h : c = true ∧ 0 ≤ fu ∧ fu ≤ 100000
  · rw [if_pos h]
    have hp := hc2 h.1
    obtain ⟨v, r, q1, q2⟩ := frame_tells hp 9 (lenI hp) _ _ (preI hp hF h.2 (fn := 0) ⟨Int.le_refl _, by have := hp.len; omega⟩ (a := []) (by decide))
    rw [q1]
    exact ⟨_, rfl, q2.e⟩
  · rw [if_neg h]
    exact ⟨_, rfl, .refl hF⟩
theorem sch_eq {s t : T_Schema} (h : s = t) : ((s.Kind == t.Kind) && ((s.Cap == t.Cap) && ((s.Words == t.Words) && (s.Ver == t.Ver)))) = true := by subst h; simp
theorem keeps_true (p : T_Prog) (e : T_Env) (fu : Int) : p_drydocklaw07_InterpKeeps p e fu = some true := by
  obtain ⟨b, hb1, hb2⟩ := few7 p e
  unfold p_drydocklaw07_InterpKeeps
  simp only [awake7, hb1, po_of, cond_true]
  have up : p_drydocklaw07_InterpKeeps_J3 p e fu true true = some true := rfl
  cases b with
  | false => exact up
  | true =>
    have hF := (hb2 rfl).fits
    simp only [cond_true, po_of]
    by_cases h1 : fu > 3000
    · rw [decide_eq_true h1]; exact up
    rw [decide_eq_false h1]
    obtain ⟨x, hx, hK⟩ := keeps_run (p := p) (fu := fu) hF
    have hlen := hK.len
    have d1 : ((x.E.T.length : Int) != (e.T.length : Int)) = false := by simp [hlen]
    simp only [p_drydocklaw07_InterpKeeps_J3, cond_false, hx, po_of, d1, hK.ctx, beq_self_eq_true, Bool.and_self, Bool.not_true, p_drydocklaw07_InterpKeeps_J8]
    have hl := hF.len
    obtain ⟨r, h2, h3⟩ := lp_inv (step := fun i => p_drydocklaw07_InterpKeeps_L12 e x i) (fun s => ∃ n : Nat, s = (n : Int) ∧ n ≤ e.T.length) (fun s => ((e.T.length : Int) - s).toNat) (fun r => r = .inl ()) (by
      rintro s ⟨n, rfl, h6⟩
      simp only [p_drydocklaw07_InterpKeeps_L12]
      by_cases hlt : n < e.T.length
      · left
        have hd : decide ((n : Int) < (e.T.length : Int)) = true := by simp; omega
        obtain ⟨u, hu⟩ : ∃ u, x.E.T[n]? = some u := ⟨_, List.getElem?_eq_getElem (by omega)⟩
        obtain ⟨t, ht⟩ : ∃ t, e.T[n]? = some t := ⟨_, List.getElem?_eq_getElem hlt⟩
        obtain ⟨k1, k2⟩ := hK.tab n u t hu ht
        simp only [hd, cond_true, idx_nat, hu, ht, po_of, sch_eq k1, p_table_May]
        have w := w64 (show n < 9223372036854775807 by omega)
        cases hm : (toT t).may with
        | true =>
          simp only [cond_true, k2 hm, Bool.not_true, po_of, p_drydocklaw07_InterpKeeps_J14, cond_false, w]
          exact ⟨_, rfl, ⟨n + 1, rfl, by omega⟩, by omega⟩
        | false =>
          simp only [cond_false, po_of, p_drydocklaw07_InterpKeeps_J14, w]
          exact ⟨_, rfl, ⟨n + 1, rfl, by omega⟩, by omega⟩
      · right
        have hd : decide ((n : Int) < (e.T.length : Int)) = false := by simp; omega
        simp only [hd, cond_false]
        exact ⟨_, rfl, rfl⟩) 0 ⟨0, rfl, Nat.zero_le _⟩
    subst h3
    rw [h2]
    rfl
/-
  PROVED: the statement InterpKeeps of the given seat: whatever the program, the environment, and how much fuel there is, drydocklaw07.InterpKeeps returns true, and what was handed in reads as it did.
  Conditions: none beyond the statement's own.
-/
open Go Go.ChangeShapes Go.WideShapes Go.ChangeAt Go.RowKit Go.Proofs.Try
theorem o_3 {H : Type} {enc : TypeId × Value → H} {w : World} {base : Nat} {spare : Nat → Bool} {held : Bool} {fuel : Nat} {cs : List Value} {x : DataW H × List MemPlace} (h : DataW.trod enc prog w base spare held fuel 3 cs = some x) : ∃ a : Int, DRels w (okW w) (encI64 a) cs:= oI64 underlying3 h
theorem o_4 {H : Type} {enc : TypeId × Value → H} {w : World} {base : Nat} {spare : Nat → Bool} {held : Bool} {fuel : Nat} {cs : List Value} {x : DataW H × List MemPlace} (h : DataW.trod enc prog w base spare held fuel 4 cs = some x) : ∃ a : Bool, DRels w (okW w) (encBool a) cs:= oBool underlying4 h
theorem o_25 {H : Type} {enc : TypeId × Value → H} {w : World} {base : Nat} {spare : Nat → Bool} {held : Bool} {fuel : Nat} {cs : List Value} {x : DataW H × List MemPlace} (h : DataW.trod enc prog w base spare held fuel 25 cs = some x) : ∃ a : UInt32, DRels w (okW w) (encU32 a) cs:= oU32 underlying25 h
theorem o_76 {H : Type} {enc : TypeId × Value → H} {w : World} {base : Nat} {spare : Nat → Bool} {held : Bool} {fuel : Nat} {cs : List Value} {x : DataW H × List MemPlace} (h : DataW.trod enc prog w base spare held fuel 76 cs = some x) : ∃ a : T_Inst, DRels w (okW w) (enc_Inst a) cs := by
  obtain ⟨xs, m, _, _, hl, hxl, hg⟩ := DataW.trod_struct underlying76 h
  have hl : cs.length = 7 := hl.trans (by kernel_rfl)
  replace hxl : xs.length = 7 := hxl
  have e0 : prog.cellsOf 3 = 1 := by kernel_rfl
  have h0 : DataW.trod enc prog w base spare held m 3 ((cs.drop 0).take (prog.cellsOf 3)) = xs[0]? := hg 0 _ rfl
  simp only [e0, Nat.reduceMul] at h0
  obtain ⟨b0, r0⟩ := o_3 (h0.trans (List.getElem?_eq_getElem (by omega)))
  have e1 : prog.cellsOf 3 = 1 := by kernel_rfl
  have h1 : DataW.trod enc prog w base spare held m 3 ((cs.drop 1).take (prog.cellsOf 3)) = xs[1]? := hg 1 _ rfl
  simp only [e1, Nat.reduceMul] at h1
  obtain ⟨b1, r1⟩ := o_3 (h1.trans (List.getElem?_eq_getElem (by omega)))
  have e2 : prog.cellsOf 3 = 1 := by kernel_rfl
  have h2 : DataW.trod enc prog w base spare held m 3 ((cs.drop 2).take (prog.cellsOf 3)) = xs[2]? := hg 2 _ rfl
  simp only [e2, Nat.reduceMul] at h2
  obtain ⟨b2, r2⟩ := o_3 (h2.trans (List.getElem?_eq_getElem (by omega)))
  have e3 : prog.cellsOf 3 = 1 := by kernel_rfl
  have h3 : DataW.trod enc prog w base spare held m 3 ((cs.drop 3).take (prog.cellsOf 3)) = xs[3]? := hg 3 _ rfl
  simp only [e3, Nat.reduceMul] at h3
  obtain ⟨b3, r3⟩ := o_3 (h3.trans (List.getElem?_eq_getElem (by omega)))
  have e4 : prog.cellsOf 4 = 1 := by kernel_rfl
  have h4 : DataW.trod enc prog w base spare held m 4 ((cs.drop 4).take (prog.cellsOf 4)) = xs[4]? := hg 4 _ rfl
  simp only [e4, Nat.reduceMul] at h4
  obtain ⟨b4, r4⟩ := o_4 (h4.trans (List.getElem?_eq_getElem (by omega)))
  have e5 : prog.cellsOf 3 = 1 := by kernel_rfl
  have h5 : DataW.trod enc prog w base spare held m 3 ((cs.drop 5).take (prog.cellsOf 3)) = xs[5]? := hg 5 _ rfl
  simp only [e5, Nat.reduceMul] at h5
  obtain ⟨b5, r5⟩ := o_3 (h5.trans (List.getElem?_eq_getElem (by omega)))
  have e6 : prog.cellsOf 25 = 1 := by kernel_rfl
  have h6 : DataW.trod enc prog w base spare held m 25 ((cs.drop 6).take (prog.cellsOf 25)) = xs[6]? := hg 6 _ rfl
  simp only [e6, Nat.reduceMul] at h6
  obtain ⟨b6, r6⟩ := o_25 (h6.trans (List.getElem?_eq_getElem (by omega)))
  have r := (DRels.cat (DRels.cat (DRels.cat (DRels.cat (DRels.cat (DRels.cat r0 r1) r2) r3) r4) r5) r6)
  refine ⟨T_Inst.mk b0 b1 b2 b3 b4 b5 b6, ?_⟩
  have hf := full hl
  rw [← hf]
  exact r
theorem o_72 {H : Type} {enc : TypeId × Value → H} {w : World} {base : Nat} {spare : Nat → Bool} {held : Bool} {fuel : Nat} {cs : List Value} {x : DataW H × List MemPlace} (h : DataW.trod enc prog w base spare held fuel 72 cs = some x) : ∃ a : (List T_Inst), DRels w (okW w) ((encL enc_Inst) a) cs:= oSl (f := enc_Inst) (sz := 7) underlying72 (by kernel_rfl) (by decide) (fun _ => rfl) (fun _ _ _ h => o_76 h) h
theorem o_74 {H : Type} {enc : TypeId × Value → H} {w : World} {base : Nat} {spare : Nat → Bool} {held : Bool} {fuel : Nat} {cs : List Value} {x : DataW H × List MemPlace} (h : DataW.trod enc prog w base spare held fuel 74 cs = some x) : ∃ a : T_Fn, DRels w (okW w) (enc_Fn a) cs := by
  obtain ⟨xs, m, _, _, hl, hxl, hg⟩ := DataW.trod_struct underlying74 h
  have hl : cs.length = 2 := hl.trans (by kernel_rfl)
  replace hxl : xs.length = 2 := hxl
  have e0 : prog.cellsOf 3 = 1 := by kernel_rfl
  have h0 : DataW.trod enc prog w base spare held m 3 ((cs.drop 0).take (prog.cellsOf 3)) = xs[0]? := hg 0 _ rfl
  simp only [e0, Nat.reduceMul] at h0
  obtain ⟨b0, r0⟩ := o_3 (h0.trans (List.getElem?_eq_getElem (by omega)))
  have e1 : prog.cellsOf 72 = 1 := by kernel_rfl
  have h1 : DataW.trod enc prog w base spare held m 72 ((cs.drop 1).take (prog.cellsOf 72)) = xs[1]? := hg 1 _ rfl
  simp only [e1, Nat.reduceMul] at h1
  obtain ⟨b1, r1⟩ := o_72 (h1.trans (List.getElem?_eq_getElem (by omega)))
  have r := (DRels.cat r0 r1)
  refine ⟨T_Fn.mk b0 b1, ?_⟩
  have hf := full hl
  rw [← hf]
  exact r
theorem o_62 {H : Type} {enc : TypeId × Value → H} {w : World} {base : Nat} {spare : Nat → Bool} {held : Bool} {fuel : Nat} {cs : List Value} {x : DataW H × List MemPlace} (h : DataW.trod enc prog w base spare held fuel 62 cs = some x) : ∃ a : (List T_Fn), DRels w (okW w) ((encL enc_Fn) a) cs:= oSl (f := enc_Fn) (sz := 2) underlying62 (by kernel_rfl) (by decide) (fun _ => rfl) (fun _ _ _ h => o_74 h) h
theorem o_64 {H : Type} {enc : TypeId × Value → H} {w : World} {base : Nat} {spare : Nat → Bool} {held : Bool} {fuel : Nat} {cs : List Value} {x : DataW H × List MemPlace} (h : DataW.trod enc prog w base spare held fuel 64 cs = some x) : ∃ a : T_Prog, DRels w (okW w) (enc_Prog a) cs := by
  obtain ⟨xs, m, _, _, hl, hxl, hg⟩ := DataW.trod_struct underlying64 h
  have hl : cs.length = 1 := hl.trans (by kernel_rfl)
  replace hxl : xs.length = 1 := hxl
  have e0 : prog.cellsOf 62 = 1 := by kernel_rfl
  have h0 : DataW.trod enc prog w base spare held m 62 ((cs.drop 0).take (prog.cellsOf 62)) = xs[0]? := hg 0 _ rfl
  simp only [e0, Nat.reduceMul] at h0
  obtain ⟨b0, r0⟩ := o_62 (h0.trans (List.getElem?_eq_getElem (by omega)))
  have r := r0
  refine ⟨T_Prog.mk b0, ?_⟩
  have hf := full hl
  rw [← hf]
  exact r
theorem o_47 {H : Type} {enc : TypeId × Value → H} {w : World} {base : Nat} {spare : Nat → Bool} {held : Bool} {fuel : Nat} {cs : List Value} {x : DataW H × List MemPlace} (h : DataW.trod enc prog w base spare held fuel 47 cs = some x) : ∃ a : (A4 UInt32), DRels w (okW w) ((encA4 encU32) a) cs := by
  obtain ⟨xs, m, _, _, hl, hxl, hg⟩ := DataW.trod_array underlying47 h
  have hl : cs.length = 4 := hl.trans (by kernel_rfl)
  replace hxl : xs.length = 4 := hxl
  have e0 : prog.cellsOf 25 = 1 := by kernel_rfl
  have h0 := hg 0 (by decide)
  simp only [e0, Nat.reduceMul] at h0
  obtain ⟨b0, r0⟩ := o_25 (h0.trans (List.getElem?_eq_getElem (by omega)))
  have e1 : prog.cellsOf 25 = 1 := by kernel_rfl
  have h1 := hg 1 (by decide)
  simp only [e1, Nat.reduceMul] at h1
  obtain ⟨b1, r1⟩ := o_25 (h1.trans (List.getElem?_eq_getElem (by omega)))
  have e2 : prog.cellsOf 25 = 1 := by kernel_rfl
  have h2 := hg 2 (by decide)
  simp only [e2, Nat.reduceMul] at h2
  obtain ⟨b2, r2⟩ := o_25 (h2.trans (List.getElem?_eq_getElem (by omega)))
  have e3 : prog.cellsOf 25 = 1 := by kernel_rfl
  have h3 := hg 3 (by decide)
  simp only [e3, Nat.reduceMul] at h3
  obtain ⟨b3, r3⟩ := o_25 (h3.trans (List.getElem?_eq_getElem (by omega)))
  have r := (DRels.cat (DRels.cat (DRels.cat r0 r1) r2) r3)
  refine ⟨A4.mk b0 b1 b2 b3, ?_⟩
  have hf := full hl
  rw [← hf]
  exact r
theorem o_23 {H : Type} {enc : TypeId × Value → H} {w : World} {base : Nat} {spare : Nat → Bool} {held : Bool} {fuel : Nat} {cs : List Value} {x : DataW H × List MemPlace} (h : DataW.trod enc prog w base spare held fuel 23 cs = some x) : ∃ a : T_Schema, DRels w (okW w) (enc_Schema a) cs := by
  obtain ⟨xs, m, _, _, hl, hxl, hg⟩ := DataW.trod_struct underlying23 h
  have hl : cs.length = 4 := hl.trans (by kernel_rfl)
  replace hxl : xs.length = 4 := hxl
  have e0 : prog.cellsOf 3 = 1 := by kernel_rfl
  have h0 : DataW.trod enc prog w base spare held m 3 ((cs.drop 0).take (prog.cellsOf 3)) = xs[0]? := hg 0 _ rfl
  simp only [e0, Nat.reduceMul] at h0
  obtain ⟨b0, r0⟩ := o_3 (h0.trans (List.getElem?_eq_getElem (by omega)))
  have e1 : prog.cellsOf 3 = 1 := by kernel_rfl
  have h1 : DataW.trod enc prog w base spare held m 3 ((cs.drop 1).take (prog.cellsOf 3)) = xs[1]? := hg 1 _ rfl
  simp only [e1, Nat.reduceMul] at h1
  obtain ⟨b1, r1⟩ := o_3 (h1.trans (List.getElem?_eq_getElem (by omega)))
  have e2 : prog.cellsOf 3 = 1 := by kernel_rfl
  have h2 : DataW.trod enc prog w base spare held m 3 ((cs.drop 2).take (prog.cellsOf 3)) = xs[2]? := hg 2 _ rfl
  simp only [e2, Nat.reduceMul] at h2
  obtain ⟨b2, r2⟩ := o_3 (h2.trans (List.getElem?_eq_getElem (by omega)))
  have e3 : prog.cellsOf 3 = 1 := by kernel_rfl
  have h3 : DataW.trod enc prog w base spare held m 3 ((cs.drop 3).take (prog.cellsOf 3)) = xs[3]? := hg 3 _ rfl
  simp only [e3, Nat.reduceMul] at h3
  obtain ⟨b3, r3⟩ := o_3 (h3.trans (List.getElem?_eq_getElem (by omega)))
  have r := (DRels.cat (DRels.cat (DRels.cat r0 r1) r2) r3)
  refine ⟨T_Schema.mk b0 b1 b2 b3, ?_⟩
  have hf := full hl
  rw [← hf]
  exact r
theorem o_39 {H : Type} {enc : TypeId × Value → H} {w : World} {base : Nat} {spare : Nat → Bool} {held : Bool} {fuel : Nat} {cs : List Value} {x : DataW H × List MemPlace} (h : DataW.trod enc prog w base spare held fuel 39 cs = some x) : ∃ a : (List UInt32), DRels w (okW w) ((encL encU32) a) cs:= oSl (f := encU32) (sz := 1) underlying39 (by kernel_rfl) (by decide) (fun _ => rfl) (fun _ _ _ h => o_25 h) h
theorem o_41 {H : Type} {enc : TypeId × Value → H} {w : World} {base : Nat} {spare : Nat → Bool} {held : Bool} {fuel : Nat} {cs : List Value} {x : DataW H × List MemPlace} (h : DataW.trod enc prog w base spare held fuel 41 cs = some x) : ∃ a : T_Entry, DRels w (okW w) (enc_Entry a) cs := by
  obtain ⟨xs, m, _, _, hl, hxl, hg⟩ := DataW.trod_struct underlying41 h
  have hl : cs.length = 2 := hl.trans (by kernel_rfl)
  replace hxl : xs.length = 2 := hxl
  have e0 : prog.cellsOf 25 = 1 := by kernel_rfl
  have h0 : DataW.trod enc prog w base spare held m 25 ((cs.drop 0).take (prog.cellsOf 25)) = xs[0]? := hg 0 _ rfl
  simp only [e0, Nat.reduceMul] at h0
  obtain ⟨b0, r0⟩ := o_25 (h0.trans (List.getElem?_eq_getElem (by omega)))
  have e1 : prog.cellsOf 39 = 1 := by kernel_rfl
  have h1 : DataW.trod enc prog w base spare held m 39 ((cs.drop 1).take (prog.cellsOf 39)) = xs[1]? := hg 1 _ rfl
  simp only [e1, Nat.reduceMul] at h1
  obtain ⟨b1, r1⟩ := o_39 (h1.trans (List.getElem?_eq_getElem (by omega)))
  have r := (DRels.cat r0 r1)
  refine ⟨T_Entry.mk b0 b1, ?_⟩
  have hf := full hl
  rw [← hf]
  exact r
theorem o_24 {H : Type} {enc : TypeId × Value → H} {w : World} {base : Nat} {spare : Nat → Bool} {held : Bool} {fuel : Nat} {cs : List Value} {x : DataW H × List MemPlace} (h : DataW.trod enc prog w base spare held fuel 24 cs = some x) : ∃ a : (List T_Entry), DRels w (okW w) ((encL enc_Entry) a) cs:= oSl (f := enc_Entry) (sz := 2) underlying24 (by kernel_rfl) (by decide) (fun _ => rfl) (fun _ _ _ h => o_41 h) h
theorem o_27 {H : Type} {enc : TypeId × Value → H} {w : World} {base : Nat} {spare : Nat → Bool} {held : Bool} {fuel : Nat} {cs : List Value} {x : DataW H × List MemPlace} (h : DataW.trod enc prog w base spare held fuel 27 cs = some x) : ∃ a : T_Table, DRels w (okW w) (enc_Table a) cs := by
  obtain ⟨xs, m, _, _, hl, hxl, hg⟩ := DataW.trod_struct underlying27 h
  have hl : cs.length = 6 := hl.trans (by kernel_rfl)
  replace hxl : xs.length = 3 := hxl
  have e0 : prog.cellsOf 23 = 4 := by kernel_rfl
  have h0 : DataW.trod enc prog w base spare held m 23 ((cs.drop 0).take (prog.cellsOf 23)) = xs[0]? := hg 0 _ rfl
  simp only [e0, Nat.reduceMul] at h0
  obtain ⟨b0, r0⟩ := o_23 (h0.trans (List.getElem?_eq_getElem (by omega)))
  have e1 : prog.cellsOf 24 = 1 := by kernel_rfl
  have h1 : DataW.trod enc prog w base spare held m 24 ((cs.drop 4).take (prog.cellsOf 24)) = xs[1]? := hg 1 _ rfl
  simp only [e1, Nat.reduceMul] at h1
  obtain ⟨b1, r1⟩ := o_24 (h1.trans (List.getElem?_eq_getElem (by omega)))
  have e2 : prog.cellsOf 25 = 1 := by kernel_rfl
  have h2 : DataW.trod enc prog w base spare held m 25 ((cs.drop 5).take (prog.cellsOf 25)) = xs[2]? := hg 2 _ rfl
  simp only [e2, Nat.reduceMul] at h2
  obtain ⟨b2, r2⟩ := o_25 (h2.trans (List.getElem?_eq_getElem (by omega)))
  have r := (DRels.cat (DRels.cat r0 r1) r2)
  refine ⟨T_Table.mk b0 b1 b2, ?_⟩
  have hf := full hl
  rw [← hf]
  exact r
theorem o_38 {H : Type} {enc : TypeId × Value → H} {w : World} {base : Nat} {spare : Nat → Bool} {held : Bool} {fuel : Nat} {cs : List Value} {x : DataW H × List MemPlace} (h : DataW.trod enc prog w base spare held fuel 38 cs = some x) : ∃ a : (List T_Table), DRels w (okW w) ((encL enc_Table) a) cs:= oSl (f := enc_Table) (sz := 6) underlying38 (by kernel_rfl) (by decide) (fun _ => rfl) (fun _ _ _ h => o_27 h) h
theorem o_49 {H : Type} {enc : TypeId × Value → H} {w : World} {base : Nat} {spare : Nat → Bool} {held : Bool} {fuel : Nat} {cs : List Value} {x : DataW H × List MemPlace} (h : DataW.trod enc prog w base spare held fuel 49 cs = some x) : ∃ a : T_Env, DRels w (okW w) (enc_Env a) cs := by
  obtain ⟨xs, m, _, _, hl, hxl, hg⟩ := DataW.trod_struct underlying49 h
  have hl : cs.length = 6 := hl.trans (by kernel_rfl)
  replace hxl : xs.length = 3 := hxl
  have e0 : prog.cellsOf 47 = 4 := by kernel_rfl
  have h0 : DataW.trod enc prog w base spare held m 47 ((cs.drop 0).take (prog.cellsOf 47)) = xs[0]? := hg 0 _ rfl
  simp only [e0, Nat.reduceMul] at h0
  obtain ⟨b0, r0⟩ := o_47 (h0.trans (List.getElem?_eq_getElem (by omega)))
  have e1 : prog.cellsOf 38 = 1 := by kernel_rfl
  have h1 : DataW.trod enc prog w base spare held m 38 ((cs.drop 4).take (prog.cellsOf 38)) = xs[1]? := hg 1 _ rfl
  simp only [e1, Nat.reduceMul] at h1
  obtain ⟨b1, r1⟩ := o_38 (h1.trans (List.getElem?_eq_getElem (by omega)))
  have e2 : prog.cellsOf 25 = 1 := by kernel_rfl
  have h2 : DataW.trod enc prog w base spare held m 25 ((cs.drop 5).take (prog.cellsOf 25)) = xs[2]? := hg 2 _ rfl
  simp only [e2, Nat.reduceMul] at h2
  obtain ⟨b2, r2⟩ := o_25 (h2.trans (List.getElem?_eq_getElem (by omega)))
  have r := (DRels.cat (DRels.cat r0 r1) r2)
  refine ⟨T_Env.mk b0 b1 b2, ?_⟩
  have hf := full hl
  rw [← hf]
  exact r
theorem interpKeepsOwn : ownKnob Try.prog.godebug = none := by kernel_rfl
theorem interpKeepsLaid : laidOutB Try.prog = true := by kernel_rfl
set_option maxRecDepth 100000 in
theorem interpKeeps_lifted (os : Os) (started : os.Started) (H : Type) (enc : TypeId × Value → H) :
    ReturnsInHanded {} Try.checked os 9 .any (Rows.interpKeepsSpec.pre6 enc Try.prog Try.f9 Rows.interpKeepsRow.domain false) (Rows.interpKeepsSpec.post enc Try.prog Try.f9 false true false false) := by
  refine returnsInHanded_of_change (C := Try.checked) interpKeepsOwn started (by kernel_rfl) Try.func9
    (ChangeSpec.witness6 (enc := enc) (C := Try.checked) false ⟨#[], #[.agg #[.slice none 0 0], .agg #[.int .u32 0, .int .u32 0, .int .u32 0, .int .u32 0, .slice none 0 0, .int .u32 0], .int .i64 0], []⟩ 8 (by kernel_rfl) (by kernel_rfl) (by kernel_rfl) (by kernel_rfl)) ?_
  intro W base args ds gs before hval0 hW _ _
  have hval : ∀ (j : Nat) t v, Try.f9.params[j]? = some t → args[j]? = some v → Value.okWide Try.prog W .any base t v := hval0
  have hW' := hW
  obtain ⟨p, q, hA0, hV, rfl, hfz, hnd⟩ := hW
  have hA : DataW.TrodAll enc Try.prog W 0 (fun _ => true) true Try.f9.params.toList args.toList ds p := hA0
  rw [Try.params9] at hA hval
  obtain ⟨l⟩ := args
  obtain ⟨v0, l0, d0, ds0, p0, q0, rfl, rfl, _, h0, hA1⟩ := trodAll_cons hA
  obtain ⟨v1, l1, d1, ds1, p1, q1, rfl, rfl, _, h1, hA2⟩ := trodAll_cons hA1
  obtain ⟨v2, l2, d2, ds2, p2, q2, rfl, rfl, _, h2, hA3⟩ := trodAll_cons hA2
  obtain ⟨rfl, rfl, _⟩ := trodAll_nil hA3
  obtain ⟨rfl, rfl⟩ := trodVars_none hV
  obtain ⟨cs0, rfl, _⟩ := okWide_struct underlying64 (hval 0 _ v0 rfl rfl)
  obtain ⟨fuel0, hf0⟩ := h0
  obtain ⟨a0, r0⟩ := o_64 hf0
  obtain ⟨cs1, rfl, _⟩ := okWide_struct underlying49 (hval 1 _ v1 rfl rfl)
  obtain ⟨fuel1, hf1⟩ := h1
  obtain ⟨a1, r1⟩ := o_49 hf1
  obtain ⟨z2, rfl⟩ := okWide_int underlying3 (hval 2 _ v2 rfl rfl)
  obtain ⟨fuel2, hf2⟩ := h2
  obtain ⟨a2, r2⟩ := o_3 hf2
  refine (Ctr.law (c_drydocklaw07_InterpKeeps a0 a1 a2 (keeps_true a0 a1 a2)) rfl (VRels.of1 (.cons (arg_agg r0) (.cons (arg_agg r1) (.cons (arg_one r2) (.nil)))))).mono fun e W' ⟨he, hw⟩ => ?_
  subst he
  exact ⟨_, rfl, post_law interpKeepsLaid hW' rfl rfl (by kernel_rfl) rfl rfl rfl hw⟩
theorem interpKeeps_holds : Rows.InterpKeepsSaid :=
  OpenClaim.holds_of_wide 9 Try.f9 rfl rfl rfl rfl rfl rfl rfl ⟨rfl, rfl, rfl, rfl, rfl⟩ rfl rfl rfl rfl rfl (by kernel_rfl) Try.func9 (by kernel_rfl)
    (of_decide_eq_true (by kernel_rfl)) (by unfold Func.isWrapper; first | (rw [if_pos (by decide +kernel)]; kernel_rfl) | (rw [if_neg (by decide +kernel)]; exact ⟨rfl, rfl⟩))
    (fun os started H enc _ => interpKeeps_lifted os started H enc)
end Go.Proofs.Ytkhanhhingicpaa
