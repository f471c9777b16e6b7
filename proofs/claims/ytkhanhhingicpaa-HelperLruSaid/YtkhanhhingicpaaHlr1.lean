/-
  PROVED: the statement HelperLru of the given seat: whatever the number and the flag, drydocklaw06.HelperLru returns true, and what was handed in reads as it did.
  Conditions: none beyond the statement's own.
-/
import Derived.Test.YtkhanhhingicpaaB5
import Derived.Test.YtkhanhhingicpaaRows
set_option linter.unusedVariables false
set_option linter.unusedSimpArgs false
set_option maxHeartbeats 4000000
set_option maxRecDepth 100000
namespace Go.Proofs.Ytkhanhhingicpaa
open Go Go.RowKit Go.Proofs.Try
noncomputable def p_drydocklaw06_awake_J4 (i_1 : Bool) : Option (Bool) :=
  some i_1
noncomputable def p_drydocklaw06_awake : Option (Bool) :=
  po (p_table_New (T_Schema.mk 1 2 1 0)) fun r1 =>
  po (p_helper_Call 1 (T_Env.mk (A4.mk 0 0 0 0) ([r1.1]) 0) ([0, 5, 0, 7])) fun r2 =>
  po (p_helper_Call 0 r2.1 ([0, 5, 0])) fun r3 =>
  po (
  cond (r1.2 == 0) (
  cond (r2.2.2 == 0) (
  cond (r3.2.2 == 0) (
  cond ((r2.2.1.toNat : Int) == 0) (
  cond ((r3.2.1.toNat : Int) == 7) (
  cond ((r3.1.T.length : Int) == 1) (
  po (p_helper_Draw 0) fun r11 =>
  cond ((r11.toNat : Int) == 1013904223) (
  po (p_helper_Args 1) fun r13 =>
  some (r13 == 4)) (
  some false)) (
  some false)) (
  some false)) (
  some false)) (
  some false)) (
  some false)) (
  some false)) (fun x => p_drydocklaw06_awake_J4 x)
theorem c_drydocklaw06_awake {r : Bool} (h : p_drydocklaw06_awake = some r) : Ctr prog 32 [] [] (.raw (.bool r)) [] := by
 unfold p_drydocklaw06_awake at h;refine Ctr.ofW tabOk func32 rfl call32 0 _ ntmps32 [.tmp 0] rfl rfl rfl (fun B => ?_);refine VC.seqF tabOkF [some 0] [] rfl rfl (fun K hK => ?_);push_cast;(repeat refine .intro (by omega) ?_);refine hK _ ?_;clear hK K;obtain ⟨r1,hr1,h⟩ := po_some h;refine VC.seqF tabOkF [some 9,some 10,some 8,some 11,some 12,some 1,none,some 2] [1,2] rfl rfl (fun K hK => ?_);push_cast;(repeat refine .intro (by omega) ?_);refine callP (Ctr.lo (c_table_New (T_Schema.mk 1 2 1 0) hr1)) rfl ?_;push_cast;(repeat refine .intro (by omega) ?_);refine hK _ ?_;clear hK K;refine VC.seqF tabOkF [some 13,some 14,some 15,some 3,none] [2,3] rfl rfl (fun K hK => ?_);push_cast;(repeat refine .intro (by omega) ?_);refine hK _ ?_;clear hK K;refine VC.sub (s' := ⟨[(2,.raw (.int .i64 r1.2)),(3,.ref 12 0)],[(10,.row 27 6 0 (([r1.1]).map enc_Table)),(12,.box 49 [.raw (.int .u32 0),.raw (.int .u32 0),.raw (.int .u32 0),.raw (.int .u32 0),.row 10 0 6 0 1,.raw (.int .u32 0)])],14,62,0⟩) (sof ?_ ?_ rfl rfl) ?_
 ·push_cast
 ·push_cast
 refine VC.sub (Sub.freeze prog (b := 12) (j := 4) rfl rfl rfl (by push_cast <;> omega) (by decide)) ?_;refine VC.sub (s' := ⟨[(2,.raw (.int .i64 r1.2)),(3,.ref 12 0)],[(12,.box 49 [.raw (.int .u32 0),.raw (.int .u32 0),.raw (.int .u32 0),.raw (.int .u32 0),.sl false (([r1.1]).map enc_Table),.raw (.int .u32 0)])],14,62,0⟩) (sof ?_ ?_ rfl rfl) ?_
 ·push_cast
 ·push_cast
 obtain ⟨r2,hr2,h⟩ := po_some h;refine VC.seqF tabOkF [some 17,some 18,some 19,some 16,some 20,some 21,some 22,none,some 4,some 5] [2,3,4,5] rfl rfl (fun K hK => ?_);push_cast;(repeat refine .intro (by omega) ?_);refine callH (H := [(15,.row 25 1 0 (([0,5,0,7]).map encU32))]) (Ctr.consume (args0 := [.raw (.int .i64 1),.agg [.raw (.int .u32 0),.raw (.int .u32 0),.raw (.int .u32 0),.raw (.int .u32 0),.sl false (([r1.1]).map enc_Table),.raw (.int .u32 0)],.sl false (([0,5,0,7]).map encU32)]) (Ctr.ren (Bij.swp 0 16 Bij.id) (c_helper_Call 1 (T_Env.mk (A4.mk 0 0 0 0) ([r1.1]) 0) ([0,5,0,7]) hr2) (by push_cast) (by push_cast)) (by push_cast) rfl) (by push_cast) rfl rfl rfl ?_;push_cast;(repeat refine .intro (by omega) ?_);refine hK _ ?_;clear hK K;refine VC.sub (s' := ⟨[(2,.raw (.int .i64 r1.2)),(3,.ref 12 0),(4,.raw (.int .u32 (r2.2.1.toNat : Int))),(5,.raw (.int .i64 r2.2.2))],[(12,.box 49 [.raw (.int .u32 (r2.1.Ctx.a0.toNat : Int)),.raw (.int .u32 (r2.1.Ctx.a1.toNat : Int)),.raw (.int .u32 (r2.1.Ctx.a2.toNat : Int)),.raw (.int .u32 (r2.1.Ctx.a3.toNat : Int)),.row 16 0 6 0 r2.1.T.length,.raw (.int .u32 (r2.1.Seed.toNat : Int))]),(16,.row 27 6 0 (r2.1.T.map enc_Table))],24,62,0⟩) (sof ?_ ?_ rfl rfl) ?_
 ·push_cast
 ·push_cast
 refine VC.sub (Sub.freeze prog (b := 12) (j := 4) rfl rfl rfl (by push_cast <;> omega) (by decide)) ?_;refine VC.sub (s' := ⟨[(2,.raw (.int .i64 r1.2)),(3,.ref 12 0),(4,.raw (.int .u32 (r2.2.1.toNat : Int))),(5,.raw (.int .i64 r2.2.2))],[(12,.box 49 [.raw (.int .u32 (r2.1.Ctx.a0.toNat : Int)),.raw (.int .u32 (r2.1.Ctx.a1.toNat : Int)),.raw (.int .u32 (r2.1.Ctx.a2.toNat : Int)),.raw (.int .u32 (r2.1.Ctx.a3.toNat : Int)),.sl false (r2.1.T.map enc_Table),.raw (.int .u32 (r2.1.Seed.toNat : Int))])],24,62,0⟩) (sof ?_ ?_ rfl rfl) ?_
 ·push_cast
 ·push_cast
 obtain ⟨r3,hr3,h⟩ := po_some h;refine VC.seqF tabOkF [some 24,some 25,some 26,some 23,some 27,some 28,some 29,none,some 6,some 7] [2,3,4,5,6,7] rfl rfl (fun K hK => ?_);push_cast;(repeat refine .intro (by omega) ?_);refine callH (H := [(25,.row 25 1 0 (([0,5,0]).map encU32))]) (Ctr.consume (args0 := [.raw (.int .i64 0),.agg [.raw (.int .u32 (r2.1.Ctx.a0.toNat : Int)),.raw (.int .u32 (r2.1.Ctx.a1.toNat : Int)),.raw (.int .u32 (r2.1.Ctx.a2.toNat : Int)),.raw (.int .u32 (r2.1.Ctx.a3.toNat : Int)),.sl false (r2.1.T.map enc_Table),.raw (.int .u32 (r2.1.Seed.toNat : Int))],.sl false (([0,5,0]).map encU32)]) (Ctr.ren (Bij.swp 0 26 Bij.id) (c_helper_Call 0 r2.1 ([0,5,0]) hr3) (by push_cast) (by push_cast)) (by push_cast) rfl) (by push_cast) rfl rfl rfl ?_;push_cast;(repeat refine .intro (by omega) ?_);refine hK _ ?_;clear hK K;refine VC.sub (s' := ⟨[(2,.raw (.int .i64 r1.2)),(3,.ref 12 0),(4,.raw (.int .u32 (r2.2.1.toNat : Int))),(5,.raw (.int .i64 r2.2.2)),(6,.raw (.int .u32 (r3.2.1.toNat : Int))),(7,.raw (.int .i64 r3.2.2))],[(12,.box 49 [.raw (.int .u32 (r3.1.Ctx.a0.toNat : Int)),.raw (.int .u32 (r3.1.Ctx.a1.toNat : Int)),.raw (.int .u32 (r3.1.Ctx.a2.toNat : Int)),.raw (.int .u32 (r3.1.Ctx.a3.toNat : Int)),.row 26 0 6 0 r3.1.T.length,.raw (.int .u32 (r3.1.Seed.toNat : Int))]),(26,.row 27 6 0 (r3.1.T.map enc_Table))],34,62,0⟩) (sof ?_ ?_ rfl rfl) ?_
 ·push_cast
 ·push_cast
 obtain ⟨v4,h,hk4⟩ := po_some h;refine VC.seqJ (X := Bool) (fun x => p_drydocklaw06_awake_J4 x = some r) (fun x => ⟨[(0,.raw (.bool x))],[],67,62,0⟩) ?_ ?_
 ·rcases Bool.eq_false_or_eq_true (r1.2 == 0) with hb5 | hb5
  ·replace h := cond_yes hb5 h;rcases Bool.eq_false_or_eq_true (r2.2.2 == 0) with hb6 | hb6
   ·replace h := cond_yes hb6 h;rcases Bool.eq_false_or_eq_true (r3.2.2 == 0) with hb7 | hb7
    ·replace h := cond_yes hb7 h;rcases Bool.eq_false_or_eq_true ((r2.2.1.toNat : Int) == 0) with hb8 | hb8
     ·replace h := cond_yes hb8 h;rcases Bool.eq_false_or_eq_true ((r3.2.1.toNat : Int) == 7) with hb9 | hb9
      ·replace h := cond_yes hb9 h;rcases Bool.eq_false_or_eq_true ((r3.1.T.length : Int) == 1) with hb10 | hb10
       ·replace h := cond_yes hb10 h;obtain ⟨r11,hr11,h⟩ := po_some h;rcases Bool.eq_false_or_eq_true ((r11.toNat : Int) == 1013904223) with hb12 | hb12
        ·replace h := cond_yes hb12 h;obtain ⟨r13,hr13,h⟩ := po_some h;refine VC.lastF tabOkF [some 30,some 31,some 32,some 33,some 34,some 35,some 36,some 37,some 38,some 39,some 40,some 41,some 42,some 43,some 44,some 45,some 46,some 47,some 48,some 49,some 50,some 51,some 52,some 53,some 54,some 55,some 56,some 57,some 58,some 59,some 60,some 61,some 0] rfl rfl (fun K hK => ?_);refine runOps_cut 8 (fun K2 hK2 => ?_);push_cast [hb5,hb6,hb7,hb8,hb9,hb10,hb12];(repeat refine .intro (by omega) ?_);refine hK2 _ _ ?_;clear hK2 K2;simp only [List.drop_succ_cons,List.drop_zero];refine runOps_cut 8 (fun K2 hK2 => ?_);push_cast [hb5,hb6,hb7,hb8,hb9,hb10,hb12];(repeat refine .intro (by omega) ?_);refine hK2 _ _ ?_;clear hK2 K2;simp only [List.drop_succ_cons,List.drop_zero];refine runOps_cut 8 (fun K2 hK2 => ?_);push_cast [hb5,hb6,hb7,hb8,hb9,hb10,hb12];(repeat refine .intro (by omega) ?_);refine hK2 _ _ ?_;clear hK2 K2;simp only [List.drop_succ_cons,List.drop_zero];push_cast [hb5,hb6,hb7,hb8,hb9,hb10,hb12];(repeat refine .intro (by omega) ?_);refine callP (Ctr.lo (c_helper_Draw 0 hr11)) rfl ?_;push_cast [hb5,hb6,hb7,hb8,hb9,hb10,hb12];(repeat refine .intro (by omega) ?_);refine callP (Ctr.lo (c_helper_Args 1 hr13)) rfl ?_;push_cast [hb5,hb6,hb7,hb8,hb9,hb10,hb12];(repeat refine .intro (by omega) ?_);refine hK _ ?_;clear hK K;have hv := Option.some.inj h;rw [← hv] at hk4;refine Exists.intro ((r13 == 4)) (And.intro hk4 ?_);refine slo ?_ ?_ rfl rfl
         ·push_cast [hb5,hb6,hb7,hb8,hb9,hb10,hb12]
         ·push_cast [hb5,hb6,hb7,hb8,hb9,hb10,hb12]
        ·replace h := cond_no hb12 h;refine VC.lastF tabOkF [some 30,some 31,some 32,some 33,some 34,some 35,some 36,some 37,some 38,some 39,some 40,some 41,some 42,some 43,some 44,some 45,some 46,some 47,some 48,some 49,some 50,some 51,some 52,some 53,some 54,some 55,some 56,some 57,some 58,some 59,some 60,some 61,some 0] rfl rfl (fun K hK => ?_);refine runOps_cut 8 (fun K2 hK2 => ?_);push_cast [hb5,hb6,hb7,hb8,hb9,hb10,hb12];(repeat refine .intro (by omega) ?_);refine hK2 _ _ ?_;clear hK2 K2;simp only [List.drop_succ_cons,List.drop_zero];refine runOps_cut 8 (fun K2 hK2 => ?_);push_cast [hb5,hb6,hb7,hb8,hb9,hb10,hb12];(repeat refine .intro (by omega) ?_);refine hK2 _ _ ?_;clear hK2 K2;simp only [List.drop_succ_cons,List.drop_zero];refine runOps_cut 8 (fun K2 hK2 => ?_);push_cast [hb5,hb6,hb7,hb8,hb9,hb10,hb12];(repeat refine .intro (by omega) ?_);refine hK2 _ _ ?_;clear hK2 K2;simp only [List.drop_succ_cons,List.drop_zero];push_cast [hb5,hb6,hb7,hb8,hb9,hb10,hb12];(repeat refine .intro (by omega) ?_);refine callP (Ctr.lo (c_helper_Draw 0 hr11)) rfl ?_;push_cast [hb5,hb6,hb7,hb8,hb9,hb10,hb12];(repeat refine .intro (by omega) ?_);refine hK _ ?_;clear hK K;have hv := Option.some.inj h;rw [← hv] at hk4;refine Exists.intro (false) (And.intro hk4 ?_);refine slo ?_ ?_ rfl rfl
         ·push_cast [hb5,hb6,hb7,hb8,hb9,hb10,hb12]
         ·push_cast [hb5,hb6,hb7,hb8,hb9,hb10,hb12]
       ·replace h := cond_no hb10 h;refine VC.lastF tabOkF [some 30,some 31,some 32,some 33,some 34,some 35,some 36,some 37,some 38,some 39,some 40,some 41,some 42,some 43,some 44,some 45,some 46,some 47,some 48,some 49,some 50,some 51,some 52,some 53,some 54,some 55,some 56,some 57,some 58,some 59,some 60,some 61,some 0] rfl rfl (fun K hK => ?_);refine runOps_cut 8 (fun K2 hK2 => ?_);push_cast [hb5,hb6,hb7,hb8,hb9,hb10];(repeat refine .intro (by omega) ?_);refine hK2 _ _ ?_;clear hK2 K2;simp only [List.drop_succ_cons,List.drop_zero];refine runOps_cut 8 (fun K2 hK2 => ?_);push_cast [hb5,hb6,hb7,hb8,hb9,hb10];(repeat refine .intro (by omega) ?_);refine hK2 _ _ ?_;clear hK2 K2;simp only [List.drop_succ_cons,List.drop_zero];refine runOps_cut 8 (fun K2 hK2 => ?_);push_cast [hb5,hb6,hb7,hb8,hb9,hb10];(repeat refine .intro (by omega) ?_);refine hK2 _ _ ?_;clear hK2 K2;simp only [List.drop_succ_cons,List.drop_zero];push_cast [hb5,hb6,hb7,hb8,hb9,hb10];(repeat refine .intro (by omega) ?_);refine hK _ ?_;clear hK K;have hv := Option.some.inj h;rw [← hv] at hk4;refine Exists.intro (false) (And.intro hk4 ?_);refine slo ?_ ?_ rfl rfl
        ·push_cast [hb5,hb6,hb7,hb8,hb9,hb10]
        ·push_cast [hb5,hb6,hb7,hb8,hb9,hb10]
      ·replace h := cond_no hb9 h;refine VC.lastF tabOkF [some 30,some 31,some 32,some 33,some 34,some 35,some 36,some 37,some 38,some 39,some 40,some 41,some 42,some 43,some 44,some 45,some 46,some 47,some 48,some 49,some 50,some 51,some 52,some 53,some 54,some 55,some 56,some 57,some 58,some 59,some 60,some 61,some 0] rfl rfl (fun K hK => ?_);refine runOps_cut 8 (fun K2 hK2 => ?_);push_cast [hb5,hb6,hb7,hb8,hb9];(repeat refine .intro (by omega) ?_);refine hK2 _ _ ?_;clear hK2 K2;simp only [List.drop_succ_cons,List.drop_zero];refine runOps_cut 8 (fun K2 hK2 => ?_);push_cast [hb5,hb6,hb7,hb8,hb9];(repeat refine .intro (by omega) ?_);refine hK2 _ _ ?_;clear hK2 K2;simp only [List.drop_succ_cons,List.drop_zero];refine runOps_cut 8 (fun K2 hK2 => ?_);push_cast [hb5,hb6,hb7,hb8,hb9];(repeat refine .intro (by omega) ?_);refine hK2 _ _ ?_;clear hK2 K2;simp only [List.drop_succ_cons,List.drop_zero];push_cast [hb5,hb6,hb7,hb8,hb9];(repeat refine .intro (by omega) ?_);refine hK _ ?_;clear hK K;have hv := Option.some.inj h;rw [← hv] at hk4;refine Exists.intro (false) (And.intro hk4 ?_);refine slo ?_ ?_ rfl rfl
       ·push_cast [hb5,hb6,hb7,hb8,hb9]
       ·push_cast [hb5,hb6,hb7,hb8,hb9]
     ·replace h := cond_no hb8 h;refine VC.lastF tabOkF [some 30,some 31,some 32,some 33,some 34,some 35,some 36,some 37,some 38,some 39,some 40,some 41,some 42,some 43,some 44,some 45,some 46,some 47,some 48,some 49,some 50,some 51,some 52,some 53,some 54,some 55,some 56,some 57,some 58,some 59,some 60,some 61,some 0] rfl rfl (fun K hK => ?_);refine runOps_cut 8 (fun K2 hK2 => ?_);push_cast [hb5,hb6,hb7,hb8];(repeat refine .intro (by omega) ?_);refine hK2 _ _ ?_;clear hK2 K2;simp only [List.drop_succ_cons,List.drop_zero];refine runOps_cut 8 (fun K2 hK2 => ?_);push_cast [hb5,hb6,hb7,hb8];(repeat refine .intro (by omega) ?_);refine hK2 _ _ ?_;clear hK2 K2;simp only [List.drop_succ_cons,List.drop_zero];refine runOps_cut 8 (fun K2 hK2 => ?_);push_cast [hb5,hb6,hb7,hb8];(repeat refine .intro (by omega) ?_);refine hK2 _ _ ?_;clear hK2 K2;simp only [List.drop_succ_cons,List.drop_zero];push_cast [hb5,hb6,hb7,hb8];(repeat refine .intro (by omega) ?_);refine hK _ ?_;clear hK K;have hv := Option.some.inj h;rw [← hv] at hk4;refine Exists.intro (false) (And.intro hk4 ?_);refine slo ?_ ?_ rfl rfl
      ·push_cast [hb5,hb6,hb7,hb8]
      ·push_cast [hb5,hb6,hb7,hb8]
    ·replace h := cond_no hb7 h;refine VC.lastF tabOkF [some 30,some 31,some 32,some 33,some 34,some 35,some 36,some 37,some 38,some 39,some 40,some 41,some 42,some 43,some 44,some 45,some 46,some 47,some 48,some 49,some 50,some 51,some 52,some 53,some 54,some 55,some 56,some 57,some 58,some 59,some 60,some 61,some 0] rfl rfl (fun K hK => ?_);refine runOps_cut 8 (fun K2 hK2 => ?_);push_cast [hb5,hb6,hb7];(repeat refine .intro (by omega) ?_);refine hK2 _ _ ?_;clear hK2 K2;simp only [List.drop_succ_cons,List.drop_zero];refine runOps_cut 8 (fun K2 hK2 => ?_);push_cast [hb5,hb6,hb7];(repeat refine .intro (by omega) ?_);refine hK2 _ _ ?_;clear hK2 K2;simp only [List.drop_succ_cons,List.drop_zero];refine runOps_cut 8 (fun K2 hK2 => ?_);push_cast [hb5,hb6,hb7];(repeat refine .intro (by omega) ?_);refine hK2 _ _ ?_;clear hK2 K2;simp only [List.drop_succ_cons,List.drop_zero];push_cast [hb5,hb6,hb7];(repeat refine .intro (by omega) ?_);refine hK _ ?_;clear hK K;have hv := Option.some.inj h;rw [← hv] at hk4;refine Exists.intro (false) (And.intro hk4 ?_);refine slo ?_ ?_ rfl rfl
     ·push_cast [hb5,hb6,hb7]
     ·push_cast [hb5,hb6,hb7]
   ·replace h := cond_no hb6 h;refine VC.lastF tabOkF [some 30,some 31,some 32,some 33,some 34,some 35,some 36,some 37,some 38,some 39,some 40,some 41,some 42,some 43,some 44,some 45,some 46,some 47,some 48,some 49,some 50,some 51,some 52,some 53,some 54,some 55,some 56,some 57,some 58,some 59,some 60,some 61,some 0] rfl rfl (fun K hK => ?_);refine runOps_cut 8 (fun K2 hK2 => ?_);push_cast [hb5,hb6];(repeat refine .intro (by omega) ?_);refine hK2 _ _ ?_;clear hK2 K2;simp only [List.drop_succ_cons,List.drop_zero];refine runOps_cut 8 (fun K2 hK2 => ?_);push_cast [hb5,hb6];(repeat refine .intro (by omega) ?_);refine hK2 _ _ ?_;clear hK2 K2;simp only [List.drop_succ_cons,List.drop_zero];refine runOps_cut 8 (fun K2 hK2 => ?_);push_cast [hb5,hb6];(repeat refine .intro (by omega) ?_);refine hK2 _ _ ?_;clear hK2 K2;simp only [List.drop_succ_cons,List.drop_zero];push_cast [hb5,hb6];(repeat refine .intro (by omega) ?_);refine hK _ ?_;clear hK K;have hv := Option.some.inj h;rw [← hv] at hk4;refine Exists.intro (false) (And.intro hk4 ?_);refine slo ?_ ?_ rfl rfl
    ·push_cast [hb5,hb6]
    ·push_cast [hb5,hb6]
  ·replace h := cond_no hb5 h;refine VC.lastF tabOkF [some 30,some 31,some 32,some 33,some 34,some 35,some 36,some 37,some 38,some 39,some 40,some 41,some 42,some 43,some 44,some 45,some 46,some 47,some 48,some 49,some 50,some 51,some 52,some 53,some 54,some 55,some 56,some 57,some 58,some 59,some 60,some 61,some 0] rfl rfl (fun K hK => ?_);refine runOps_cut 8 (fun K2 hK2 => ?_);push_cast [hb5];(repeat refine .intro (by omega) ?_);refine hK2 _ _ ?_;clear hK2 K2;simp only [List.drop_succ_cons,List.drop_zero];refine runOps_cut 8 (fun K2 hK2 => ?_);push_cast [hb5];(repeat refine .intro (by omega) ?_);refine hK2 _ _ ?_;clear hK2 K2;simp only [List.drop_succ_cons,List.drop_zero];refine runOps_cut 8 (fun K2 hK2 => ?_);push_cast [hb5];(repeat refine .intro (by omega) ?_);refine hK2 _ _ ?_;clear hK2 K2;simp only [List.drop_succ_cons,List.drop_zero];push_cast [hb5];(repeat refine .intro (by omega) ?_);refine hK _ ?_;clear hK K;have hv := Option.some.inj h;rw [← hv] at hk4;refine Exists.intro (false) (And.intro hk4 ?_);refine slo ?_ ?_ rfl rfl
   ·push_cast [hb5]
   ·push_cast [hb5]
 ·rintro i_1 h;replace h : p_drydocklaw06_awake_J4 i_1 = some r := h;(try push_cast);unfold p_drydocklaw06_awake_J4 at h;refine VC.ret ?_;have hr := Option.some.inj h;subst hr;refine endP (Sub.lo _) (Post.ret ?_ ?_ ?_)
  ·push_cast
  ·push_cast
  ·rfl
theorem fits_one {t : T_Table} (h1 : t.E.length ≤ 1048576) (h2 : ∀ e ∈ t.E, e.V.length ≤ 1048576) : Fits [t] :=
  ⟨by simp, fun u hu => by rw [List.mem_singleton] at hu; rw [hu]; exact h1, fun u hu => by rw [List.mem_singleton] at hu; rw [hu]; exact h2⟩
def aw0 : T_Table := ⟨⟨1, 2, 1, 0⟩, [], 0⟩
def aw1 : T_Table := ⟨⟨1, 2, 1, 0⟩, [⟨5, [7]⟩], 0⟩
theorem awake6 : p_drydocklaw06_awake = some true := by
  have h1 : p_table_New (T_Schema.mk 1 2 1 0) = some (aw0, 0) := by decide
  have f0 : Fits [aw0] := fits_one (by decide) (by decide)
  have f1 : Fits [aw1] := fits_one (by decide) (by decide)
  have h2 : p_helper_Call 1 ⟨⟨0, 0, 0, 0⟩, [aw0], 0⟩ [0, 5, 0, 7] = some (⟨⟨0, 0, 0, 0⟩, [aw1], 0⟩, 0, 0) := by
    have ha : p_helper_Args 1 = some 4 := rfl
    unfold p_helper_Call
    rw [ha]
    simp only [po_of]
    show po (some false) (fun x => p_helper_Call_J2 1 _ _ x) = _
    simp only [po_of, p_helper_Call_J2, cond_false, own_is (e := ⟨⟨0, 0, 0, 0⟩, [aw0], 0⟩) f0]
    decide
  have h3 : p_helper_Call 0 ⟨⟨0, 0, 0, 0⟩, [aw1], 0⟩ [0, 5, 0] = some (⟨⟨0, 0, 0, 0⟩, [aw1], 0⟩, 7, 0) := by
    have ha : p_helper_Args 0 = some 3 := rfl
    unfold p_helper_Call
    rw [ha]
    simp only [po_of]
    show po (some false) (fun x => p_helper_Call_J2 0 _ _ x) = _
    simp only [po_of, p_helper_Call_J2, cond_false, own_is (e := ⟨⟨0, 0, 0, 0⟩, [aw1], 0⟩) f1]
    decide
  unfold p_drydocklaw06_awake
  rw [h1]
  simp only [po_of, h2, h3]
  decide
def lruW (cap : Int) (ws : List Nat) (k : Nat) : List Nat :=
  if ((ws.filter (· != k) ++ [k]).length : Int) > cap then (ws.filter (· != k) ++ [k]).drop 1 else ws.filter (· != k) ++ [k]
structure LruT (cap : Int) (t : Tab) : Prop where
  s : t.s = ⟨2, cap, 1, 0⟩
  n : t.next = 0
  m : t.may = true
  o : okEs t.e
theorem lru_keyed {cap : Int} {t : Tab} (h : LruT cap t) : t.keyed 0 = true := keyed_iff.2 ⟨h.m, by rw [h.s]; exact (by decide : (2 : Int) ≠ 3), by rw [h.s]; exact (by decide : ((0 : Nat) : Int) < 1)⟩
theorem filter_ne_of_not {l : List Nat} {k : Nat} (h : k ∉ l) : l.filter (· != k) = l := by
  rw [List.filter_eq_self]
  intro a ha
  simp only [bne_iff_ne, ne_eq]
  rintro rfl
  exact h ha
theorem filter_ne_erase {l : List Nat} {k i : Nat} (hn : l.Nodup) (hi : l[i]? = some k) : l.filter (· != k) = l.eraseIdx i := by
  induction l generalizing i with
  | nil => simp at hi
  | cons a l ih =>
    rw [List.nodup_cons] at hn
    cases i with
    | zero =>
      simp only [List.getElem?_cons_zero, Option.some.injEq] at hi
      subst hi
      rw [List.filter_cons, if_neg (by simp), filter_ne_of_not hn.1, List.eraseIdx_cons_zero]
    | succ i =>
      simp only [List.getElem?_cons_succ] at hi
      have hak : a ≠ k := fun e => hn.1 (e ▸ List.mem_of_getElem? hi)
      rw [List.filter_cons, if_pos (by simpa using hak), ih hn.2 hi, List.eraseIdx_cons_succ]
theorem keys_upd {l : List Ent} {i f x : Nat} : keys (updE l i f x) = keys l := by
  unfold updE
  split
  · rename_i e he
    obtain ⟨hlt, hg⟩ := List.getElem?_eq_some_iff.1 he
    unfold keys
    rw [List.map_set]
    apply List.ext_getElem? 
    intro j
    rw [List.getElem?_set]
    split
    · rename_i e1
      subst e1
      simp [hg, hlt]
    · rfl
  · rfl
theorem map_erase {α β : Type} (f : α → β) : ∀ (l : List α) (i : Nat), (l.eraseIdx i).map f = (l.map f).eraseIdx i
  | [], i => by simp
  | a :: l, 0 => by simp
  | a :: l, i + 1 => by simp [map_erase f l i]
theorem keys_toLast {l : List Ent} {i : Nat} : keys (toLast l i) = toLast (keys l) i := by
  unfold keys toLast
  rw [List.map_append, map_erase, List.getElem?_map]
  cases l[i]? <;> rfl
theorem toLast_snoc {α : Type} (l : List α) (a : α) : toLast (l ++ [a]) ((l ++ [a]).length - 1) = l ++ [a] := by
  unfold toLast
  rw [List.length_append, List.length_singleton, Nat.add_sub_cancel]
  rw [List.eraseIdx_append_of_length_le (Nat.le_refl _)]
  simp
theorem lru_step {cap : Int} {t : Tab} {k x : Nat} (h : LruT cap t) (hk : k < 4294967296) (hx : x < 4294967296) :
    (t.set k 0 x).2 = 0 ∧ LruT cap (t.set k 0 x).1 ∧ keys (t.set k 0 x).1.e = lruW cap (keys t.e) k := by
  have hkd := lru_keyed h
  obtain ⟨hsm, hlc, hnx, _, hw, hnd⟩ := (may_std (by rw [h.s]; exact (by decide : (2 : Int) ≠ 3))).1 h.m
  have hb := Sch.may_bounds hsm
  have hkind : t.s.kind = 2 := by rw [h.s]
  have hcap : t.s.cap = cap := by rw [h.s]
  have hkl : (keys t.e).length = t.e.length := by simp [keys]
  have main : (t.set k 0 x).2 = 0 ∧ (t.set k 0 x).1.next = t.next ∧ keys (t.set k 0 x).1.e = lruW cap (keys t.e) k := by
    by_cases hf : 0 ≤ fidx k t.e 0
    · obtain ⟨i, e, hi, he, hke⟩ := fidx_some rfl hf
      have hidx : t.idx k = i := by
        unfold Tab.idx
        rw [hi]
        simp
      have hset : t.set k 0 x = ({ t with e := toLast (updE t.e i 0 x) i }, 0) := by
        unfold Tab.set
        rw [if_neg (by rw [hkd]; decide), if_pos hf, hkind, hidx]
        rfl
      rw [hset]
      refine ⟨rfl, rfl, ?_⟩
      show keys (toLast (updE t.e i 0 x) i) = _
      have hki : (keys t.e)[i]? = some k := by
        unfold keys
        rw [List.getElem?_map, he]
        simp [hke]
      rw [keys_toLast, keys_upd]
      unfold lruW
      rw [filter_ne_erase hnd hki]
      have hil := (List.getElem?_eq_some_iff.1 hki).1
      have hlen : ((keys t.e).eraseIdx i ++ [k]).length = t.e.length := by
        rw [List.length_append, List.length_eraseIdx, if_pos hil, List.length_singleton]
        omega
      rw [if_neg (by rw [hlen]; omega)]
      unfold toLast
      rw [hki]
      rfl
    · have hno := fidx_none_iff hf
      have hnk : k ∉ keys t.e := by
        intro hm
        obtain ⟨e, he, hke⟩ := List.mem_map.1 hm
        exact hno e he hke
      have hset : t.set k 0 x = ({ t with e := toLast (updE (t.grow k) ((t.grow k).length - 1) 0 x) ((t.grow k).length - 1) }, 0) := by
        unfold Tab.set
        rw [if_neg (by rw [hkd]; decide), if_neg hf, if_neg (by omega), if_neg (by omega), hkind]
        rfl
      rw [hset]
      refine ⟨rfl, rfl, ?_⟩
      show keys (toLast (updE (t.grow k) ((t.grow k).length - 1) 0 x) ((t.grow k).length - 1)) = _
      rw [keys_toLast, keys_upd]
      have hg : keys (t.grow k) = (if (t.e.length : Int) = cap then (keys t.e).drop 1 else keys t.e) ++ [k] := by
        unfold Tab.grow keys
        rw [hcap]
        split <;> simp
      have hgl : (t.grow k).length = (keys (t.grow k)).length := by simp [keys]
      rw [hgl, hg, toLast_snoc]
      unfold lruW
      rw [filter_ne_of_not hnk]
      simp only [List.length_append, List.length_singleton, hkl]
      by_cases hc : (t.e.length : Int) = cap
      · rw [if_pos hc, if_pos (by omega)]
        have h1 : 1 ≤ (keys t.e).length := by omega
        rw [List.drop_append_of_le_length h1]
      · rw [if_neg hc, if_neg (by omega)]
  refine ⟨main.1, ⟨(set_may main.1).2.2.2.2.trans h.s, main.2.1.trans h.n, (set_may main.1).1, okEs_set h.o hk hx⟩, main.2.2⟩
def lruF (ws : List Nat) (k j : Nat) : List Nat := (ws.take j).filter (· != k)
theorem lruF_zero (ws : List Nat) (k : Nat) : lruF ws k 0 = [] := by simp [lruF]
theorem lruF_all {ws : List Nat} {k j : Nat} (h : j = ws.length) : lruF ws k j = ws.filter (· != k) := by simp [lruF, h]
theorem lruF_add {ws : List Nat} {k j q : Nat} (h : ws[j]? = some q) (hq : q ≠ k) : lruF ws k (j + 1) = lruF ws k j ++ [q] := by
  unfold lruF
  rw [List.take_add_one, h, List.filter_append]
  simp [hq]
theorem lruF_stay {ws : List Nat} {k j q : Nat} (h : ws[j]? = some q) (hq : q = k) : lruF ws k (j + 1) = lruF ws k j := by
  unfold lruF
  rw [List.take_add_one, h, List.filter_append]
  simp [hq]
theorem lruF_le (ws : List Nat) (k j : Nat) : (lruF ws k j).length ≤ ws.length := by
  unfold lruF
  exact Nat.le_trans (List.length_filter_le _ _) (by rw [List.length_take]; omega)
theorem lru_len {cap : Int} {t : Tab} (h : LruT cap t) : (keys t.e).length ≤ 16 := by
  have hb := Sch.may_bounds (Tab.may_sch h.m)
  have hl := Tab.may_len h.m
  have : (keys t.e).length = t.e.length := by simp [keys]
  omega
theorem lru_over {cap : Int} {ws ws' F : List Nat} {k : Nat} (hF : F = ws.filter (· != k)) (h : (F.length : Int) + 1 > cap) (he : ws' = lruW cap ws k) : (List.drop 1 (F.map encW ++ [[AV.raw (.int .u32 (k : Int))]])).take (F.length + 1 - 1) = ws'.map encW := by
  subst hF
  rw [he]
  unfold lruW
  rw [if_pos (by simp only [List.length_append, List.length_singleton]; push_cast; omega), List.map_drop, List.map_append, List.take_of_length_le (by simp)]
  rfl
theorem lru_fit {cap : Int} {ws ws' F : List Nat} {k : Nat} (hF : F = ws.filter (· != k)) (h : ¬ (F.length : Int) + 1 > cap) (he : ws' = lruW cap ws k) : (F.map encW ++ [[AV.raw (.int .u32 (k : Int))]]).take (F.length + 1) = ws'.map encW := by
  subst hF
  rw [he]
  unfold lruW
  rw [if_neg (by simp only [List.length_append, List.length_singleton]; push_cast; omega), List.map_append, List.take_of_length_le (by simp)]
  rfl
theorem lru_new {cap : Int} (h1 : 1 ≤ cap) (h2 : cap ≤ 16) : LruT cap ⟨⟨2, cap, 1, 0⟩, [], 0⟩ := by
  refine ⟨rfl, rfl, (may_std (by exact (by decide : (2 : Int) ≠ 3))).2 ⟨?_, ?_, rfl, fun h => absurd h (by exact (by decide : ¬ (2 : Int) = 0)), (fun e he => by cases he), (by simp [keys])⟩, okEs_nil⟩
  · simp [Sch.may, inB, h1, h2]
  · show ((0 : Nat) : Int) ≤ cap
    omega
noncomputable def p_drydocklaw06_HelperLru_J11 (i_5 : Int) (s_13 : T_Env) (i_14 : Bool) : Option ((T_Env × Int) ⊕ ((T_Env) ⊕ (Bool))) :=
  cond i_14 (
  some (Sum.inr (Sum.inr false))) (
  some (Sum.inl (s_13, (IntKind.i64.wrap (i_5 + 1)))))
noncomputable def p_drydocklaw06_HelperLru_L8 (a0 : Int) (r6 : T_Table × Int) (s_4 : T_Env) (i_5 : Int) : Option ((T_Env × Int) ⊕ ((T_Env) ⊕ (Bool))) :=
  cond (decide (i_5 < a0)) (
  po (p_helper_Call 1 s_4 ([0, (UInt32.ofInt i_5), 0, 1])) fun r10 =>
  po (
  cond (r6.2 != 0) (
  some (r10.1, true)) (
  cond (r10.2.2 != 0) (
  some (r10.1, true)) (
  some (r10.1, ((r10.2.1.toNat : Int) != 0))))) (fun x => p_drydocklaw06_HelperLru_J11 i_5 x.1 x.2)) (
  some (Sum.inr (Sum.inl s_4)))
noncomputable def p_drydocklaw06_HelperLru_J22 (i_17 : Bool) : Option (Bool) :=
  some i_17
noncomputable def p_drydocklaw06_HelperLru_J16 (a0 : Int) (a1 : Bool) (s_15 : T_Env) (i_16 : Int) : Option (Bool) :=
  po (p_helper_Call 1 s_15 ([0, (UInt32.ofInt a0), 0, 1])) fun r19 =>
  po (p_helper_Call 3 r19.1 ([0, 0])) fun r20 =>
  po (p_helper_Call 3 r19.1 ([0, 1])) fun r21 =>
  po (
  cond (i_16 == 0) (
  cond (r19.2.2 == 0) (
  cond (r20.2.2 == 0) (
  cond (r21.2.2 == 0) (
  cond (((r20.2.1.toNat : Int) == 1) == a1) (
  some (((r21.2.1.toNat : Int) == 1) != a1)) (
  some false)) (
  some false)) (
  some false)) (
  some false)) (
  some false)) (fun x => p_drydocklaw06_HelperLru_J22 x)
noncomputable def p_drydocklaw06_HelperLru_J7 (a0 : Int) (a1 : Bool) (s_12 : T_Env) : Option (Bool) :=
  po (p_helper_Call 3 s_12 ([0, 0])) fun r15 =>
  po (
  cond a1 (
  po (p_helper_Call 0 r15.1 ([0, 0, 0])) fun r18 =>
  some (r18.1, r18.2.2)) (
  some (r15.1, r15.2.2))) (fun x => p_drydocklaw06_HelperLru_J16 a0 a1 x.1 x.2)
noncomputable def p_drydocklaw06_HelperLru_J2 (a0 : Int) (a1 : Bool) (r1 : Bool) (i_1 : Bool) : Option (Bool) :=
  cond i_1 (
  some r1) (
  po (p_table_New (T_Schema.mk 2 a0 1 0)) fun r6 =>
  pm (
  lpU (fun x => p_drydocklaw06_HelperLru_L8 a0 r6 x.1 x.2) ((T_Env.mk (A4.mk 0 0 0 0) ([r6.1]) 0), 0)) (fun x => p_drydocklaw06_HelperLru_J7 a0 a1 x))
noncomputable def p_drydocklaw06_HelperLru (a0 : Int) (a1 : Bool) : Option (Bool) :=
  po (p_drydocklaw06_awake) fun r1 =>
  po (
  cond r1 (
  cond (decide (a0 < 2)) (
  some true) (
  some (decide (a0 > 16)))) (
  some true)) (fun x => p_drydocklaw06_HelperLru_J2 a0 a1 r1 x)
theorem c_drydocklaw06_HelperLru (a0 : Int) (a1 : Bool) {r : Bool} (h : p_drydocklaw06_HelperLru a0 a1 = some r) : Ctr prog 6 [.raw (.int .i64 a0), .raw (.bool a1)] [] (.raw (.bool r)) [] := by
 unfold p_drydocklaw06_HelperLru at h;refine Ctr.ofW tabOk func6 rfl call6 0 _ ntmps6 [.tmp 4] rfl rfl rfl (fun B => ?_);refine VC.seqF tabOkF [some 4] [0,1] rfl rfl (fun K hK => ?_);push_cast;(repeat refine .intro (by omega) ?_);refine hK _ ?_;clear hK K;obtain ⟨r1,hr1,h⟩ := po_some h;refine VC.seqF tabOkF [some 23,some 5] [0,1,5] rfl rfl (fun K hK => ?_);push_cast;(repeat refine .intro (by omega) ?_);refine callP (Ctr.lo (c_drydocklaw06_awake  hr1)) rfl ?_;push_cast;(repeat refine .intro (by omega) ?_);refine hK _ ?_;clear hK K;refine VC.seq ?_;obtain ⟨v2,h,hk2⟩ := po_some h;refine VC.seqJ (X := Bool) (fun x => p_drydocklaw06_HelperLru_J2 a0 a1 r1 x = some r) (fun x => ⟨[(0,.raw (.int .i64 a0)),(1,.raw (.bool a1)),(5,.raw (.bool r1)),(33,.raw (.bool x))],[],13,133,0⟩) ?_ ?_
 ·rcases Bool.eq_false_or_eq_true r1 with hb3 | hb3
  ·replace h := cond_yes hb3 h;rcases Bool.eq_false_or_eq_true (decide (a0 < 2)) with hb4 | hb4
   ·replace h := cond_yes hb4 h;refine VC.lastF tabOkF [some 24,some 25,some 26,some 27,some 28,some 29,some 30,some 31,some 32,some 33] rfl rfl (fun K hK => ?_);push_cast [hb3,hb4];(repeat refine .intro (by omega) ?_);refine hK _ ?_;clear hK K;have hv := Option.some.inj h;rw [← hv] at hk2;refine Exists.intro (true) (And.intro hk2 ?_);refine slo ?_ ?_ rfl rfl
    ·push_cast [hb3,hb4]
    ·push_cast [hb3,hb4]
   ·replace h := cond_no hb4 h;refine VC.lastF tabOkF [some 24,some 25,some 26,some 27,some 28,some 29,some 30,some 31,some 32,some 33] rfl rfl (fun K hK => ?_);push_cast [hb3,hb4];(repeat refine .intro (by omega) ?_);refine hK _ ?_;clear hK K;have hv := Option.some.inj h;rw [← hv] at hk2;refine Exists.intro ((decide (a0 > 16))) (And.intro hk2 ?_);refine slo ?_ ?_ rfl rfl
    ·push_cast [hb3,hb4]
    ·push_cast [hb3,hb4]
  ·replace h := cond_no hb3 h;refine VC.lastF tabOkF [some 24,some 25,some 26,some 27,some 28,some 29,some 30,some 31,some 32,some 33] rfl rfl (fun K hK => ?_);push_cast [hb3];(repeat refine .intro (by omega) ?_);refine hK _ ?_;clear hK K;have hv := Option.some.inj h;rw [← hv] at hk2;refine Exists.intro (true) (And.intro hk2 ?_);refine slo ?_ ?_ rfl rfl
   ·push_cast [hb3]
   ·push_cast [hb3]
 ·rintro i_1 h;replace h : p_drydocklaw06_HelperLru_J2 a0 a1 r1 i_1 = some r := h;(try push_cast);unfold p_drydocklaw06_HelperLru_J2 at h;refine VC.cond rfl rfl (fun hc5 => ?_) (fun hc5 => ?_)
  ·have hb5 : i_1 = true := by simpa using hc5
   replace h := cond_yes hb5 h;refine VC.seqF tabOkF [some 34,some 4] [4] rfl rfl (fun K hK => ?_);push_cast [hb5];(repeat refine .intro (by omega) ?_);refine hK _ ?_;clear hK K;refine VC.ret ?_;have hr := Option.some.inj h;subst hr;refine endP (Sub.lo _) (Post.ret ?_ ?_ ?_)
   ·push_cast [hb5]
   ·push_cast [hb5]
   ·rfl
  ·have hb5 : i_1 = false := by simpa using hc5
   replace h := cond_no hb5 h;refine VC.skip ?_;obtain ⟨r6,hr6,h⟩ := po_some h;refine VC.seqF tabOkF [some 36,some 37,some 38,some 35,some 39,some 40,some 6,none,some 7] [0,1,6,7] rfl rfl (fun K hK => ?_);push_cast [hb5];(repeat refine .intro (by omega) ?_);refine callP (Ctr.lo (c_table_New (T_Schema.mk 2 a0 1 0) hr6)) rfl ?_;push_cast [hb5];(repeat refine .intro (by omega) ?_);refine hK _ ?_;clear hK K;refine VC.seqF tabOkF [some 41,some 42,some 43,some 8,none] [0,1,7,8] rfl rfl (fun K hK => ?_);push_cast [hb5];(repeat refine .intro (by omega) ?_);refine hK _ ?_;clear hK K;refine VC.sub (s' := ⟨[(0,.raw (.int .i64 a0)),(1,.raw (.bool a1)),(7,.raw (.int .i64 r6.2)),(8,.ref 25 0)],[(23,.row 27 6 0 (([r6.1]).map enc_Table)),(25,.box 49 [.raw (.int .u32 0),.raw (.int .u32 0),.raw (.int .u32 0),.raw (.int .u32 0),.row 23 0 6 0 1,.raw (.int .u32 0)])],27,133,0⟩) (sof ?_ ?_ rfl rfl) ?_
   ·push_cast [hb5]
   ·push_cast [hb5]
   obtain ⟨v7,h,hk7⟩ := pm_some h;refine VC.seqJ (X := T_Env) (fun x => p_drydocklaw06_HelperLru_J7 a0 a1 x = some r) (fun x => ⟨[(0,.raw (.int .i64 a0)),(1,.raw (.bool a1)),(8,.ref 25 0)],[(25,.box 49 [.raw (.int .u32 (x.Ctx.a0.toNat : Int)),.raw (.int .u32 (x.Ctx.a1.toNat : Int)),.raw (.int .u32 (x.Ctx.a2.toNat : Int)),.raw (.int .u32 (x.Ctx.a3.toNat : Int)),.row 59 0 6 0 x.T.length,.raw (.int .u32 (x.Seed.toNat : Int))]),(59,.row 27 6 0 (x.T.map enc_Table))],63,133,0⟩) ?_ ?_
   ·refine VC.seqF tabOkF [some 9] [0,1,7,8,9] rfl rfl (fun K hK => ?_);push_cast [hb5];(repeat refine .intro (by omega) ?_);refine hK _ ?_;clear hK K;refine VC.block ?_;refine VC.loopP h (fun x => ⟨[(0,.raw (.int .i64 a0)),(1,.raw (.bool a1)),(7,.raw (.int .i64 r6.2)),(8,.ref 25 0),(9,.raw (.int .i64 x.2))],[(25,.box 49 [.raw (.int .u32 (x.1.Ctx.a0.toNat : Int)),.raw (.int .u32 (x.1.Ctx.a1.toNat : Int)),.raw (.int .u32 (x.1.Ctx.a2.toNat : Int)),.raw (.int .u32 (x.1.Ctx.a3.toNat : Int)),.row 59 0 6 0 x.1.T.length,.raw (.int .u32 (x.1.Seed.toNat : Int))]),(59,.row 27 6 0 (x.1.T.map enc_Table))],60,133,0⟩) ?_ ?_
    ·refine Sub.trans (Sub.of (s' := ⟨[(0,.raw (.int .i64 a0)),(1,.raw (.bool a1)),(7,.raw (.int .i64 r6.2)),(8,.ref 25 0),(9,.raw (.int .i64 0))],[(23,.row 27 6 0 (([r6.1]).map enc_Table)),(25,.box 49 [.raw (.int .u32 0),.raw (.int .u32 0),.raw (.int .u32 0),.raw (.int .u32 0),.row 23 0 6 0 1,.raw (.int .u32 0)])],28,133,0⟩) (by push_cast [hb5]) (by push_cast [hb5]) ⟨rfl,rfl,Nat.le_of_ble_eq_true rfl⟩ rfl) ?_;refine Sub.trans (Sub.renB (b := 25) (j := 4) (i' := 59) rfl rfl rfl (Nat.le_of_ble_eq_true rfl) (Nat.le_of_ble_eq_true rfl) rfl) ?_;refine slo ?_ ?_ rfl rfl
     ·push_cast [hb5]
     ·push_cast [hb5]
    rintro ⟨s_4,i_5⟩ b8 h hf8;replace h : p_drydocklaw06_HelperLru_L8 a0 r6 s_4 i_5 = some b8 := h;(try push_cast);unfold p_drydocklaw06_HelperLru_L8 at h;refine VC.seq ?_;refine VC.seqF tabOkF [some 44,some 45,some 46] [0,1,7,8,9,46] rfl rfl (fun K hK => ?_);push_cast [hb5];(repeat refine .intro (by omega) ?_);refine hK _ ?_;clear hK K;refine VC.cond rfl rfl (fun hc9 => ?_) (fun hc9 => ?_)
    ·have hb9 : (decide (i_5 < a0)) = true := by simpa using hc9
     replace h := cond_yes hb9 h;refine VC.skip ?_;refine VC.seq ?_;refine VC.block ?_;refine VC.sub (Sub.freeze prog (b := 25) (j := 4) rfl rfl rfl (by push_cast [hb5,hb9] <;> omega) (by decide)) ?_;refine VC.sub (s' := ⟨[(0,.raw (.int .i64 a0)),(1,.raw (.bool a1)),(7,.raw (.int .i64 r6.2)),(8,.ref 25 0),(9,.raw (.int .i64 i_5))],[(25,.box 49 [.raw (.int .u32 (s_4.Ctx.a0.toNat : Int)),.raw (.int .u32 (s_4.Ctx.a1.toNat : Int)),.raw (.int .u32 (s_4.Ctx.a2.toNat : Int)),.raw (.int .u32 (s_4.Ctx.a3.toNat : Int)),.sl false (s_4.T.map enc_Table),.raw (.int .u32 (s_4.Seed.toNat : Int))])],63,133,0⟩) (sof ?_ ?_ rfl rfl) ?_
     ·push_cast [hb5,hb9]
     ·push_cast [hb5,hb9]
     obtain ⟨r10,hr10,h⟩ := po_some h;refine VC.seqF tabOkF [some 50,some 51,some 52,some 53,some 54,some 49,some 55,some 56,some 57,some 10,none,some 11,some 12] [0,1,7,8,9,10,11,12] rfl rfl (fun K hK => ?_);refine runOps_cut 8 (fun K2 hK2 => ?_);push_cast [hb5,hb9];(repeat refine .intro (by omega) ?_);refine callH (H := [(66,.row 25 1 0 (([0,(UInt32.ofInt i_5),0,1]).map encU32))]) (Ctr.consume (args0 := [.raw (.int .i64 1),.agg [.raw (.int .u32 (s_4.Ctx.a0.toNat : Int)),.raw (.int .u32 (s_4.Ctx.a1.toNat : Int)),.raw (.int .u32 (s_4.Ctx.a2.toNat : Int)),.raw (.int .u32 (s_4.Ctx.a3.toNat : Int)),.sl false (s_4.T.map enc_Table),.raw (.int .u32 (s_4.Seed.toNat : Int))],.sl false (([0,(UInt32.ofInt i_5),0,1]).map encU32)]) (Ctr.ren (Bij.swp 0 67 Bij.id) (c_helper_Call 1 s_4 ([0,(UInt32.ofInt i_5),0,1]) hr10) (by push_cast [hb5,hb9]) (by push_cast [hb5,hb9])) (by push_cast [hb5,hb9]) rfl) (by push_cast [hb5,hb9]) rfl rfl rfl ?_;push_cast [hb5,hb9];(repeat refine .intro (by omega) ?_);refine hK2 _ _ ?_;clear hK2 K2;simp only [List.drop_succ_cons,List.drop_zero];push_cast [hb5,hb9];(repeat refine .intro (by omega) ?_);refine hK _ ?_;clear hK K;refine VC.sub (s' := ⟨[(0,.raw (.int .i64 a0)),(1,.raw (.bool a1)),(7,.raw (.int .i64 r6.2)),(8,.ref 25 0),(9,.raw (.int .i64 i_5)),(10,.ref 72 0),(11,.raw (.int .u32 (r10.2.1.toNat : Int))),(12,.raw (.int .i64 r10.2.2))],[(25,.box 49 [.raw (.int .u32 (s_4.Ctx.a0.toNat : Int)),.raw (.int .u32 (s_4.Ctx.a1.toNat : Int)),.raw (.int .u32 (s_4.Ctx.a2.toNat : Int)),.raw (.int .u32 (s_4.Ctx.a3.toNat : Int)),.sl false (s_4.T.map enc_Table),.raw (.int .u32 (s_4.Seed.toNat : Int))]),(67,.row 27 6 0 (r10.1.T.map enc_Table)),(72,.box 49 [.raw (.int .u32 (r10.1.Ctx.a0.toNat : Int)),.raw (.int .u32 (r10.1.Ctx.a1.toNat : Int)),.raw (.int .u32 (r10.1.Ctx.a2.toNat : Int)),.raw (.int .u32 (r10.1.Ctx.a3.toNat : Int)),.row 67 0 6 0 r10.1.T.length,.raw (.int .u32 (r10.1.Seed.toNat : Int))])],76,133,0⟩) (sof ?_ ?_ rfl rfl) ?_
     ·push_cast [hb5,hb9]
     ·push_cast [hb5,hb9]
     refine VC.seq ?_;obtain ⟨v11,h,hk11⟩ := po_some h;refine VC.seqJ (X := T_Env × Bool) (fun x => p_drydocklaw06_HelperLru_J11 i_5 x.1 x.2 = some b8) (fun x => ⟨[(0,.raw (.int .i64 a0)),(1,.raw (.bool a1)),(7,.raw (.int .i64 r6.2)),(8,.ref 25 0),(9,.raw (.int .i64 i_5)),(10,.ref 72 0),(67,.raw (.bool x.2))],[(25,.box 49 [.raw (.int .u32 (s_4.Ctx.a0.toNat : Int)),.raw (.int .u32 (s_4.Ctx.a1.toNat : Int)),.raw (.int .u32 (s_4.Ctx.a2.toNat : Int)),.raw (.int .u32 (s_4.Ctx.a3.toNat : Int)),.sl false (s_4.T.map enc_Table),.raw (.int .u32 (s_4.Seed.toNat : Int))]),(67,.row 27 6 0 (x.1.T.map enc_Table)),(72,.box 49 [.raw (.int .u32 (x.1.Ctx.a0.toNat : Int)),.raw (.int .u32 (x.1.Ctx.a1.toNat : Int)),.raw (.int .u32 (x.1.Ctx.a2.toNat : Int)),.raw (.int .u32 (x.1.Ctx.a3.toNat : Int)),.row 67 0 6 0 x.1.T.length,.raw (.int .u32 (x.1.Seed.toNat : Int))])],86,133,0⟩) ?_ ?_
     ·rcases Bool.eq_false_or_eq_true (r6.2 != 0) with hb12 | hb12
      ·replace h := cond_yes hb12 h;refine VC.lastF tabOkF [some 58,some 59,some 60,some 61,some 62,some 63,some 64,some 65,some 66,some 67] rfl rfl (fun K hK => ?_);push_cast [hb5,hb9,hb12];(repeat refine .intro (by omega) ?_);refine hK _ ?_;clear hK K;have hv := Option.some.inj h;rw [← hv] at hk11;refine Exists.intro ((r10.1,true)) (And.intro hk11 ?_);refine slo ?_ ?_ rfl rfl
       ·push_cast [hb5,hb9,hb12]
       ·push_cast [hb5,hb9,hb12]
      ·replace h := cond_no hb12 h;rcases Bool.eq_false_or_eq_true (r10.2.2 != 0) with hb13 | hb13
       ·replace h := cond_yes hb13 h;refine VC.lastF tabOkF [some 58,some 59,some 60,some 61,some 62,some 63,some 64,some 65,some 66,some 67] rfl rfl (fun K hK => ?_);push_cast [hb5,hb9,hb12,hb13];(repeat refine .intro (by omega) ?_);refine hK _ ?_;clear hK K;have hv := Option.some.inj h;rw [← hv] at hk11;refine Exists.intro ((r10.1,true)) (And.intro hk11 ?_);refine slo ?_ ?_ rfl rfl
        ·push_cast [hb5,hb9,hb12,hb13]
        ·push_cast [hb5,hb9,hb12,hb13]
       ·replace h := cond_no hb13 h;refine VC.lastF tabOkF [some 58,some 59,some 60,some 61,some 62,some 63,some 64,some 65,some 66,some 67] rfl rfl (fun K hK => ?_);push_cast [hb5,hb9,hb12,hb13];(repeat refine .intro (by omega) ?_);refine hK _ ?_;clear hK K;have hv := Option.some.inj h;rw [← hv] at hk11;refine Exists.intro ((r10.1,((r10.2.1.toNat : Int) != 0))) (And.intro hk11 ?_);refine slo ?_ ?_ rfl rfl
        ·push_cast [hb5,hb9,hb12,hb13]
        ·push_cast [hb5,hb9,hb12,hb13]
     ·rintro ⟨s_13,i_14⟩ h;replace h : p_drydocklaw06_HelperLru_J11 i_5 s_13 i_14 = some b8 := h;(try push_cast);unfold p_drydocklaw06_HelperLru_J11 at h;refine VC.cond rfl rfl (fun hc14 => ?_) (fun hc14 => ?_)
      ·have hb14 : i_14 = true := by simpa using hc14
       replace h := cond_yes hb14 h;refine VC.seqF tabOkF [some 4] [4] rfl rfl (fun K hK => ?_);push_cast [hb5,hb9,hb14];(repeat refine .intro (by omega) ?_);refine hK _ ?_;clear hK K;refine VC.ret ?_;replace h := congrArg some (hf8 _ (Option.some.inj h).symm);have hv := Option.some.inj h;rw [← hv] at hk7;replace h : some false = some r := hk7;have hr := Option.some.inj h;subst hr;refine endP (Sub.lo _) (Post.ret ?_ ?_ ?_)
       ·push_cast [hb5,hb9,hb14]
       ·push_cast [hb5,hb9,hb14]
       ·rfl
      ·have hb14 : i_14 = false := by simpa using hc14
       replace h := cond_no hb14 h;refine VC.skip ?_;refine VC.lastF tabOkF [some 68,none] rfl rfl (fun K hK => ?_);push_cast [hb5,hb9,hb14];(repeat refine .intro (by omega) ?_);refine hK _ ?_;clear hK K;refine VC.lastF tabOkF [some 47,some 48,some 9] rfl rfl (fun K hK => ?_);push_cast [hb5,hb9,hb14];(repeat refine .intro (by omega) ?_);refine hK _ ?_;clear hK K;refine Exists.intro ((s_13,(IntKind.i64.wrap (i_5 + 1)))) (And.intro (Option.some.inj h).symm ?_);refine Sub.trans (Sub.of (s' := ⟨[(0,.raw (.int .i64 a0)),(1,.raw (.bool a1)),(7,.raw (.int .i64 r6.2)),(8,.ref 25 0),(9,.raw (.int .i64 (IntKind.i64.wrap (i_5 + 1))))],[(25,.box 49 [.raw (.int .u32 (s_13.Ctx.a0.toNat : Int)),.raw (.int .u32 (s_13.Ctx.a1.toNat : Int)),.raw (.int .u32 (s_13.Ctx.a2.toNat : Int)),.raw (.int .u32 (s_13.Ctx.a3.toNat : Int)),.row 67 0 6 0 s_13.T.length,.raw (.int .u32 (s_13.Seed.toNat : Int))]),(67,.row 27 6 0 (s_13.T.map enc_Table))],91,133,0⟩) (by push_cast [hb5,hb9,hb14]) (by push_cast [hb5,hb9,hb14]) ⟨rfl,rfl,Nat.le_of_ble_eq_true rfl⟩ rfl) ?_;refine Sub.trans (Sub.renB (b := 25) (j := 4) (i' := 59) rfl rfl rfl (Nat.le_of_ble_eq_true rfl) (Nat.le_of_ble_eq_true rfl) rfl) ?_;refine slo ?_ ?_ rfl rfl
       ·push_cast [hb5,hb9,hb14]
       ·push_cast [hb5,hb9,hb14]
    ·have hb9 : (decide (i_5 < a0)) = false := by simpa using hc9
     replace h := cond_no hb9 h;refine VC.exit ?_;replace h := congrArg some (hf8 _ (Option.some.inj h).symm);have hv := Option.some.inj h;rw [← hv] at hk7;refine Exists.intro (s_4) (And.intro hk7 ?_);refine slo ?_ ?_ rfl rfl
     ·push_cast [hb5,hb9]
     ·push_cast [hb5,hb9]
   ·rintro s_12 h;replace h : p_drydocklaw06_HelperLru_J7 a0 a1 s_12 = some r := h;(try push_cast);unfold p_drydocklaw06_HelperLru_J7 at h;refine VC.sub (Sub.freeze prog (b := 25) (j := 4) rfl rfl rfl (by push_cast [hb5] <;> omega) (by decide)) ?_;refine VC.sub (s' := ⟨[(0,.raw (.int .i64 a0)),(1,.raw (.bool a1)),(8,.ref 25 0)],[(25,.box 49 [.raw (.int .u32 (s_12.Ctx.a0.toNat : Int)),.raw (.int .u32 (s_12.Ctx.a1.toNat : Int)),.raw (.int .u32 (s_12.Ctx.a2.toNat : Int)),.raw (.int .u32 (s_12.Ctx.a3.toNat : Int)),.sl false (s_12.T.map enc_Table),.raw (.int .u32 (s_12.Seed.toNat : Int))])],63,133,0⟩) (sof ?_ ?_ rfl rfl) ?_
    ·push_cast [hb5]
    ·push_cast [hb5]
    obtain ⟨r15,hr15,h⟩ := po_some h;refine VC.seqF tabOkF [some 70,some 71,some 72,some 69,some 73,some 74,some 75,none,some 13,some 14] [0,1,8,14] rfl rfl (fun K hK => ?_);push_cast [hb5];(repeat refine .intro (by omega) ?_);refine callH (H := [(64,.row 25 1 0 (([0,0]).map encU32))]) (Ctr.consume (args0 := [.raw (.int .i64 3),.agg [.raw (.int .u32 (s_12.Ctx.a0.toNat : Int)),.raw (.int .u32 (s_12.Ctx.a1.toNat : Int)),.raw (.int .u32 (s_12.Ctx.a2.toNat : Int)),.raw (.int .u32 (s_12.Ctx.a3.toNat : Int)),.sl false (s_12.T.map enc_Table),.raw (.int .u32 (s_12.Seed.toNat : Int))],.sl false (([0,0]).map encU32)]) (Ctr.ren (Bij.swp 0 65 Bij.id) (c_helper_Call 3 s_12 ([0,0]) hr15) (by push_cast [hb5]) (by push_cast [hb5])) (by push_cast [hb5]) rfl) (by push_cast [hb5]) rfl rfl rfl ?_;push_cast [hb5];(repeat refine .intro (by omega) ?_);refine hK _ ?_;clear hK K;refine VC.sub (s' := ⟨[(0,.raw (.int .i64 a0)),(1,.raw (.bool a1)),(8,.ref 25 0),(14,.raw (.int .i64 r15.2.2))],[(25,.box 49 [.raw (.int .u32 (r15.1.Ctx.a0.toNat : Int)),.raw (.int .u32 (r15.1.Ctx.a1.toNat : Int)),.raw (.int .u32 (r15.1.Ctx.a2.toNat : Int)),.raw (.int .u32 (r15.1.Ctx.a3.toNat : Int)),.row 65 0 6 0 r15.1.T.length,.raw (.int .u32 (r15.1.Seed.toNat : Int))]),(65,.row 27 6 0 (r15.1.T.map enc_Table))],73,133,0⟩) (sof ?_ ?_ rfl rfl) ?_
    ·push_cast [hb5]
    ·push_cast [hb5]
    obtain ⟨v16,h,hk16⟩ := po_some h;refine VC.seqJ (X := T_Env × Int) (fun x => p_drydocklaw06_HelperLru_J16 a0 a1 x.1 x.2 = some r) (fun x => ⟨[(0,.raw (.int .i64 a0)),(1,.raw (.bool a1)),(8,.ref 25 0),(14,.raw (.int .i64 x.2))],[(25,.box 49 [.raw (.int .u32 (x.1.Ctx.a0.toNat : Int)),.raw (.int .u32 (x.1.Ctx.a1.toNat : Int)),.raw (.int .u32 (x.1.Ctx.a2.toNat : Int)),.raw (.int .u32 (x.1.Ctx.a3.toNat : Int)),.row 83 0 6 0 x.1.T.length,.raw (.int .u32 (x.1.Seed.toNat : Int))]),(83,.row 27 6 0 (x.1.T.map enc_Table))],84,133,0⟩) ?_ ?_
    ·refine VC.seqF tabOkF [some 76] [0,1,8,14,76] rfl rfl (fun K hK => ?_);push_cast [hb5];(repeat refine .intro (by omega) ?_);refine hK _ ?_;clear hK K;refine VC.cond rfl rfl (fun hc17 => ?_) (fun hc17 => ?_)
     ·have hb17 : a1 = true := by simpa using hc17
      replace h := cond_yes hb17 h;refine VC.sub (Sub.freeze prog (b := 25) (j := 4) rfl rfl rfl (by push_cast [hb5,hb17] <;> omega) (by decide)) ?_;refine VC.sub (s' := ⟨[(0,.raw (.int .i64 a0)),(1,.raw (.bool a1)),(8,.ref 25 0),(14,.raw (.int .i64 r15.2.2)),(76,.raw (.bool a1))],[(25,.box 49 [.raw (.int .u32 (r15.1.Ctx.a0.toNat : Int)),.raw (.int .u32 (r15.1.Ctx.a1.toNat : Int)),.raw (.int .u32 (r15.1.Ctx.a2.toNat : Int)),.raw (.int .u32 (r15.1.Ctx.a3.toNat : Int)),.sl false (r15.1.T.map enc_Table),.raw (.int .u32 (r15.1.Seed.toNat : Int))])],74,133,0⟩) (sof ?_ ?_ rfl rfl) ?_
      ·push_cast [hb5,hb17]
      ·push_cast [hb5,hb17]
      obtain ⟨r18,hr18,h⟩ := po_some h;refine VC.lastF tabOkF [some 78,some 79,some 80,some 77,some 81,some 82,some 83,none,some 14] rfl rfl (fun K hK => ?_);push_cast [hb5,hb17];(repeat refine .intro (by omega) ?_);refine callH (H := [(75,.row 25 1 0 (([0,0,0]).map encU32))]) (Ctr.consume (args0 := [.raw (.int .i64 0),.agg [.raw (.int .u32 (r15.1.Ctx.a0.toNat : Int)),.raw (.int .u32 (r15.1.Ctx.a1.toNat : Int)),.raw (.int .u32 (r15.1.Ctx.a2.toNat : Int)),.raw (.int .u32 (r15.1.Ctx.a3.toNat : Int)),.sl false (r15.1.T.map enc_Table),.raw (.int .u32 (r15.1.Seed.toNat : Int))],.sl false (([0,0,0]).map encU32)]) (Ctr.ren (Bij.swp 0 76 Bij.id) (c_helper_Call 0 r15.1 ([0,0,0]) hr18) (by push_cast [hb5,hb17]) (by push_cast [hb5,hb17])) (by push_cast [hb5,hb17]) rfl) (by push_cast [hb5,hb17]) rfl rfl rfl ?_;push_cast [hb5,hb17];(repeat refine .intro (by omega) ?_);refine hK _ ?_;clear hK K;have hv := Option.some.inj h;rw [← hv] at hk16;refine Exists.intro ((r18.1,r18.2.2)) (And.intro hk16 ?_);refine Sub.trans (Sub.of (s' := ⟨[(0,.raw (.int .i64 a0)),(1,.raw (.bool a1)),(8,.ref 25 0),(14,.raw (.int .i64 r18.2.2))],[(25,.box 49 [.raw (.int .u32 (r18.1.Ctx.a0.toNat : Int)),.raw (.int .u32 (r18.1.Ctx.a1.toNat : Int)),.raw (.int .u32 (r18.1.Ctx.a2.toNat : Int)),.raw (.int .u32 (r18.1.Ctx.a3.toNat : Int)),.row 76 0 6 0 r18.1.T.length,.raw (.int .u32 (r18.1.Seed.toNat : Int))]),(76,.row 27 6 0 (r18.1.T.map enc_Table))],83,133,0⟩) (by push_cast [hb5,hb17]) (by push_cast [hb5,hb17]) ⟨rfl,rfl,Nat.le_of_ble_eq_true rfl⟩ rfl) ?_;refine Sub.trans (Sub.renB (b := 25) (j := 4) (i' := 83) rfl rfl rfl (Nat.le_of_ble_eq_true rfl) (Nat.le_of_ble_eq_true rfl) rfl) ?_;refine slo ?_ ?_ rfl rfl
      ·push_cast [hb5,hb17]
      ·push_cast [hb5,hb17]
     ·have hb17 : a1 = false := by simpa using hc17
      replace h := cond_no hb17 h;refine VC.skip ?_;have hv := Option.some.inj h;rw [← hv] at hk16;refine Exists.intro ((r15.1,r15.2.2)) (And.intro hk16 ?_);refine Sub.trans (Sub.of (s' := ⟨[(0,.raw (.int .i64 a0)),(1,.raw (.bool a1)),(8,.ref 25 0),(14,.raw (.int .i64 r15.2.2))],[(25,.box 49 [.raw (.int .u32 (r15.1.Ctx.a0.toNat : Int)),.raw (.int .u32 (r15.1.Ctx.a1.toNat : Int)),.raw (.int .u32 (r15.1.Ctx.a2.toNat : Int)),.raw (.int .u32 (r15.1.Ctx.a3.toNat : Int)),.row 65 0 6 0 r15.1.T.length,.raw (.int .u32 (r15.1.Seed.toNat : Int))]),(65,.row 27 6 0 (r15.1.T.map enc_Table))],74,133,0⟩) (by push_cast [hb5,hb17]) (by push_cast [hb5,hb17]) ⟨rfl,rfl,Nat.le_of_ble_eq_true rfl⟩ rfl) ?_;refine Sub.trans (Sub.renB (b := 25) (j := 4) (i' := 83) rfl rfl rfl (Nat.le_of_ble_eq_true rfl) (Nat.le_of_ble_eq_true rfl) rfl) ?_;refine slo ?_ ?_ rfl rfl
      ·push_cast [hb5,hb17]
      ·push_cast [hb5,hb17]
    ·rintro ⟨s_15,i_16⟩ h;replace h : p_drydocklaw06_HelperLru_J16 a0 a1 s_15 i_16 = some r := h;(try push_cast);unfold p_drydocklaw06_HelperLru_J16 at h;refine VC.sub (Sub.freeze prog (b := 25) (j := 4) rfl rfl rfl (by push_cast [hb5] <;> omega) (by decide)) ?_;refine VC.sub (s' := ⟨[(0,.raw (.int .i64 a0)),(1,.raw (.bool a1)),(8,.ref 25 0),(14,.raw (.int .i64 i_16))],[(25,.box 49 [.raw (.int .u32 (s_15.Ctx.a0.toNat : Int)),.raw (.int .u32 (s_15.Ctx.a1.toNat : Int)),.raw (.int .u32 (s_15.Ctx.a2.toNat : Int)),.raw (.int .u32 (s_15.Ctx.a3.toNat : Int)),.sl false (s_15.T.map enc_Table),.raw (.int .u32 (s_15.Seed.toNat : Int))])],84,133,0⟩) (sof ?_ ?_ rfl rfl) ?_
     ·push_cast [hb5]
     ·push_cast [hb5]
     obtain ⟨r19,hr19,h⟩ := po_some h;refine VC.seqF tabOkF [some 85,some 86,some 87,some 88,some 89,some 84,some 90,some 91,some 92,none,some 15,some 16] [1,8,14,16] rfl rfl (fun K hK => ?_);refine runOps_cut 8 (fun K2 hK2 => ?_);push_cast [hb5];(repeat refine .intro (by omega) ?_);refine callH (H := [(87,.row 25 1 0 (([0,(UInt32.ofInt a0),0,1]).map encU32))]) (Ctr.consume (args0 := [.raw (.int .i64 1),.agg [.raw (.int .u32 (s_15.Ctx.a0.toNat : Int)),.raw (.int .u32 (s_15.Ctx.a1.toNat : Int)),.raw (.int .u32 (s_15.Ctx.a2.toNat : Int)),.raw (.int .u32 (s_15.Ctx.a3.toNat : Int)),.sl false (s_15.T.map enc_Table),.raw (.int .u32 (s_15.Seed.toNat : Int))],.sl false (([0,(UInt32.ofInt a0),0,1]).map encU32)]) (Ctr.ren (Bij.swp 0 88 Bij.id) (c_helper_Call 1 s_15 ([0,(UInt32.ofInt a0),0,1]) hr19) (by push_cast [hb5]) (by push_cast [hb5])) (by push_cast [hb5]) rfl) (by push_cast [hb5]) rfl rfl rfl ?_;push_cast [hb5];(repeat refine .intro (by omega) ?_);refine hK2 _ _ ?_;clear hK2 K2;simp only [List.drop_succ_cons,List.drop_zero];push_cast [hb5];(repeat refine .intro (by omega) ?_);refine hK _ ?_;clear hK K;refine VC.sub (s' := ⟨[(1,.raw (.bool a1)),(8,.ref 25 0),(14,.raw (.int .i64 i_16)),(16,.raw (.int .i64 r19.2.2))],[(25,.box 49 [.raw (.int .u32 (r19.1.Ctx.a0.toNat : Int)),.raw (.int .u32 (r19.1.Ctx.a1.toNat : Int)),.raw (.int .u32 (r19.1.Ctx.a2.toNat : Int)),.raw (.int .u32 (r19.1.Ctx.a3.toNat : Int)),.row 88 0 6 0 r19.1.T.length,.raw (.int .u32 (r19.1.Seed.toNat : Int))]),(88,.row 27 6 0 (r19.1.T.map enc_Table))],96,133,0⟩) (sof ?_ ?_ rfl rfl) ?_
     ·push_cast [hb5]
     ·push_cast [hb5]
     refine VC.sub (Sub.freeze prog (b := 25) (j := 4) rfl rfl rfl (by push_cast [hb5] <;> omega) (by decide)) ?_;refine VC.sub (s' := ⟨[(1,.raw (.bool a1)),(8,.ref 25 0),(14,.raw (.int .i64 i_16)),(16,.raw (.int .i64 r19.2.2))],[(25,.box 49 [.raw (.int .u32 (r19.1.Ctx.a0.toNat : Int)),.raw (.int .u32 (r19.1.Ctx.a1.toNat : Int)),.raw (.int .u32 (r19.1.Ctx.a2.toNat : Int)),.raw (.int .u32 (r19.1.Ctx.a3.toNat : Int)),.sl false (r19.1.T.map enc_Table),.raw (.int .u32 (r19.1.Seed.toNat : Int))])],96,133,0⟩) (sof ?_ ?_ rfl rfl) ?_
     ·push_cast [hb5]
     ·push_cast [hb5]
     obtain ⟨r20,hr20,h⟩ := po_some h;refine VC.seqF tabOkF [some 94,some 95,some 96,some 93,some 97,some 98,some 99,some 17,none,some 18,some 19] [1,8,14,16,18,19] rfl rfl (fun K hK => ?_);refine runOps_cut 8 (fun K2 hK2 => ?_);push_cast [hb5];(repeat refine .intro (by omega) ?_);refine callH (H := [(97,.row 25 1 0 (([0,0]).map encU32))]) (Ctr.consume (args0 := [.raw (.int .i64 3),.agg [.raw (.int .u32 (r19.1.Ctx.a0.toNat : Int)),.raw (.int .u32 (r19.1.Ctx.a1.toNat : Int)),.raw (.int .u32 (r19.1.Ctx.a2.toNat : Int)),.raw (.int .u32 (r19.1.Ctx.a3.toNat : Int)),.sl false (r19.1.T.map enc_Table),.raw (.int .u32 (r19.1.Seed.toNat : Int))],.sl false (([0,0]).map encU32)]) (Ctr.ren (Bij.swp 0 98 Bij.id) (c_helper_Call 3 r19.1 ([0,0]) hr20) (by push_cast [hb5]) (by push_cast [hb5])) (by push_cast [hb5]) rfl) (by push_cast [hb5]) rfl rfl rfl ?_;push_cast [hb5];(repeat refine .intro (by omega) ?_);refine hK2 _ _ ?_;clear hK2 K2;simp only [List.drop_succ_cons,List.drop_zero];push_cast [hb5];(repeat refine .intro (by omega) ?_);refine hK _ ?_;clear hK K;refine VC.sub (s' := ⟨[(1,.raw (.bool a1)),(8,.ref 25 0),(14,.raw (.int .i64 i_16)),(16,.raw (.int .i64 r19.2.2)),(18,.raw (.int .u32 (r20.2.1.toNat : Int))),(19,.raw (.int .i64 r20.2.2))],[(25,.box 49 [.raw (.int .u32 (r19.1.Ctx.a0.toNat : Int)),.raw (.int .u32 (r19.1.Ctx.a1.toNat : Int)),.raw (.int .u32 (r19.1.Ctx.a2.toNat : Int)),.raw (.int .u32 (r19.1.Ctx.a3.toNat : Int)),.sl false (r19.1.T.map enc_Table),.raw (.int .u32 (r19.1.Seed.toNat : Int))])],107,133,0⟩) (sof ?_ ?_ rfl rfl) ?_
     ·push_cast [hb5]
     ·push_cast [hb5]
     obtain ⟨r21,hr21,h⟩ := po_some h;refine VC.seqF tabOkF [some 101,some 102,some 103,some 100,some 104,some 105,some 106,some 20,none,some 21,some 22] [1,14,16,18,19,21,22] rfl rfl (fun K hK => ?_);refine runOps_cut 8 (fun K2 hK2 => ?_);push_cast [hb5];(repeat refine .intro (by omega) ?_);refine callH (H := [(108,.row 25 1 0 (([0,1]).map encU32))]) (Ctr.consume (args0 := [.raw (.int .i64 3),.agg [.raw (.int .u32 (r19.1.Ctx.a0.toNat : Int)),.raw (.int .u32 (r19.1.Ctx.a1.toNat : Int)),.raw (.int .u32 (r19.1.Ctx.a2.toNat : Int)),.raw (.int .u32 (r19.1.Ctx.a3.toNat : Int)),.sl false (r19.1.T.map enc_Table),.raw (.int .u32 (r19.1.Seed.toNat : Int))],.sl false (([0,1]).map encU32)]) (Ctr.ren (Bij.swp 0 109 Bij.id) (c_helper_Call 3 r19.1 ([0,1]) hr21) (by push_cast [hb5]) (by push_cast [hb5])) (by push_cast [hb5]) rfl) (by push_cast [hb5]) rfl rfl rfl ?_;push_cast [hb5];(repeat refine .intro (by omega) ?_);refine hK2 _ _ ?_;clear hK2 K2;simp only [List.drop_succ_cons,List.drop_zero];push_cast [hb5];(repeat refine .intro (by omega) ?_);refine hK _ ?_;clear hK K;refine VC.sub (s' := ⟨[(1,.raw (.bool a1)),(14,.raw (.int .i64 i_16)),(16,.raw (.int .i64 r19.2.2)),(18,.raw (.int .u32 (r20.2.1.toNat : Int))),(19,.raw (.int .i64 r20.2.2)),(21,.raw (.int .u32 (r21.2.1.toNat : Int))),(22,.raw (.int .i64 r21.2.2))],[],118,133,0⟩) (sof ?_ ?_ rfl rfl) ?_
     ·push_cast [hb5]
     ·push_cast [hb5]
     obtain ⟨v22,h,hk22⟩ := po_some h;refine VC.seqJ (X := Bool) (fun x => p_drydocklaw06_HelperLru_J22 x = some r) (fun x => ⟨[(4,.raw (.bool x))],[],145,133,0⟩) ?_ ?_
     ·rcases Bool.eq_false_or_eq_true (i_16 == 0) with hb23 | hb23
      ·replace h := cond_yes hb23 h;rcases Bool.eq_false_or_eq_true (r19.2.2 == 0) with hb24 | hb24
       ·replace h := cond_yes hb24 h;rcases Bool.eq_false_or_eq_true (r20.2.2 == 0) with hb25 | hb25
        ·replace h := cond_yes hb25 h;rcases Bool.eq_false_or_eq_true (r21.2.2 == 0) with hb26 | hb26
         ·replace h := cond_yes hb26 h;rcases Bool.eq_false_or_eq_true (((r20.2.1.toNat : Int) == 1) == a1) with hb27 | hb27
          ·replace h := cond_yes hb27 h;refine VC.lastF tabOkF [some 107,some 108,some 109,some 110,some 111,some 112,some 113,some 114,some 115,some 116,some 117,some 118,some 119,some 120,some 121,some 122,some 123,some 124,some 125,some 126,some 127,some 128,some 129,some 130,some 131,some 132,some 4] rfl rfl (fun K hK => ?_);refine runOps_cut 8 (fun K2 hK2 => ?_);push_cast [hb5,hb23,hb24,hb25,hb26,hb27];(repeat refine .intro (by omega) ?_);refine hK2 _ _ ?_;clear hK2 K2;simp only [List.drop_succ_cons,List.drop_zero];refine runOps_cut 8 (fun K2 hK2 => ?_);push_cast [hb5,hb23,hb24,hb25,hb26,hb27];(repeat refine .intro (by omega) ?_);refine hK2 _ _ ?_;clear hK2 K2;simp only [List.drop_succ_cons,List.drop_zero];refine runOps_cut 8 (fun K2 hK2 => ?_);push_cast [hb5,hb23,hb24,hb25,hb26,hb27];(repeat refine .intro (by omega) ?_);refine hK2 _ _ ?_;clear hK2 K2;simp only [List.drop_succ_cons,List.drop_zero];push_cast [hb5,hb23,hb24,hb25,hb26,hb27];(repeat refine .intro (by omega) ?_);refine hK _ ?_;clear hK K;have hv := Option.some.inj h;rw [← hv] at hk22;refine Exists.intro ((((r21.2.1.toNat : Int) == 1) != a1)) (And.intro hk22 ?_);refine slo ?_ ?_ rfl rfl
           ·push_cast [hb5,hb23,hb24,hb25,hb26,hb27]
           ·push_cast [hb5,hb23,hb24,hb25,hb26,hb27]
          ·replace h := cond_no hb27 h;refine VC.lastF tabOkF [some 107,some 108,some 109,some 110,some 111,some 112,some 113,some 114,some 115,some 116,some 117,some 118,some 119,some 120,some 121,some 122,some 123,some 124,some 125,some 126,some 127,some 128,some 129,some 130,some 131,some 132,some 4] rfl rfl (fun K hK => ?_);refine runOps_cut 8 (fun K2 hK2 => ?_);push_cast [hb5,hb23,hb24,hb25,hb26,hb27];(repeat refine .intro (by omega) ?_);refine hK2 _ _ ?_;clear hK2 K2;simp only [List.drop_succ_cons,List.drop_zero];refine runOps_cut 8 (fun K2 hK2 => ?_);push_cast [hb5,hb23,hb24,hb25,hb26,hb27];(repeat refine .intro (by omega) ?_);refine hK2 _ _ ?_;clear hK2 K2;simp only [List.drop_succ_cons,List.drop_zero];refine runOps_cut 8 (fun K2 hK2 => ?_);push_cast [hb5,hb23,hb24,hb25,hb26,hb27];(repeat refine .intro (by omega) ?_);refine hK2 _ _ ?_;clear hK2 K2;simp only [List.drop_succ_cons,List.drop_zero];push_cast [hb5,hb23,hb24,hb25,hb26,hb27];(repeat refine .intro (by omega) ?_);refine hK _ ?_;clear hK K;have hv := Option.some.inj h;rw [← hv] at hk22;refine Exists.intro (false) (And.intro hk22 ?_);refine slo ?_ ?_ rfl rfl
           ·push_cast [hb5,hb23,hb24,hb25,hb26,hb27]
           ·push_cast [hb5,hb23,hb24,hb25,hb26,hb27]
         ·replace h := cond_no hb26 h;refine VC.lastF tabOkF [some 107,some 108,some 109,some 110,some 111,some 112,some 113,some 114,some 115,some 116,some 117,some 118,some 119,some 120,some 121,some 122,some 123,some 124,some 125,some 126,some 127,some 128,some 129,some 130,some 131,some 132,some 4] rfl rfl (fun K hK => ?_);refine runOps_cut 8 (fun K2 hK2 => ?_);push_cast [hb5,hb23,hb24,hb25,hb26];(repeat refine .intro (by omega) ?_);refine hK2 _ _ ?_;clear hK2 K2;simp only [List.drop_succ_cons,List.drop_zero];refine runOps_cut 8 (fun K2 hK2 => ?_);push_cast [hb5,hb23,hb24,hb25,hb26];(repeat refine .intro (by omega) ?_);refine hK2 _ _ ?_;clear hK2 K2;simp only [List.drop_succ_cons,List.drop_zero];refine runOps_cut 8 (fun K2 hK2 => ?_);push_cast [hb5,hb23,hb24,hb25,hb26];(repeat refine .intro (by omega) ?_);refine hK2 _ _ ?_;clear hK2 K2;simp only [List.drop_succ_cons,List.drop_zero];push_cast [hb5,hb23,hb24,hb25,hb26];(repeat refine .intro (by omega) ?_);refine hK _ ?_;clear hK K;have hv := Option.some.inj h;rw [← hv] at hk22;refine Exists.intro (false) (And.intro hk22 ?_);refine slo ?_ ?_ rfl rfl
          ·push_cast [hb5,hb23,hb24,hb25,hb26]
          ·push_cast [hb5,hb23,hb24,hb25,hb26]
        ·replace h := cond_no hb25 h;refine VC.lastF tabOkF [some 107,some 108,some 109,some 110,some 111,some 112,some 113,some 114,some 115,some 116,some 117,some 118,some 119,some 120,some 121,some 122,some 123,some 124,some 125,some 126,some 127,some 128,some 129,some 130,some 131,some 132,some 4] rfl rfl (fun K hK => ?_);refine runOps_cut 8 (fun K2 hK2 => ?_);push_cast [hb5,hb23,hb24,hb25];(repeat refine .intro (by omega) ?_);refine hK2 _ _ ?_;clear hK2 K2;simp only [List.drop_succ_cons,List.drop_zero];refine runOps_cut 8 (fun K2 hK2 => ?_);push_cast [hb5,hb23,hb24,hb25];(repeat refine .intro (by omega) ?_);refine hK2 _ _ ?_;clear hK2 K2;simp only [List.drop_succ_cons,List.drop_zero];refine runOps_cut 8 (fun K2 hK2 => ?_);push_cast [hb5,hb23,hb24,hb25];(repeat refine .intro (by omega) ?_);refine hK2 _ _ ?_;clear hK2 K2;simp only [List.drop_succ_cons,List.drop_zero];push_cast [hb5,hb23,hb24,hb25];(repeat refine .intro (by omega) ?_);refine hK _ ?_;clear hK K;have hv := Option.some.inj h;rw [← hv] at hk22;refine Exists.intro (false) (And.intro hk22 ?_);refine slo ?_ ?_ rfl rfl
         ·push_cast [hb5,hb23,hb24,hb25]
         ·push_cast [hb5,hb23,hb24,hb25]
       ·replace h := cond_no hb24 h;refine VC.lastF tabOkF [some 107,some 108,some 109,some 110,some 111,some 112,some 113,some 114,some 115,some 116,some 117,some 118,some 119,some 120,some 121,some 122,some 123,some 124,some 125,some 126,some 127,some 128,some 129,some 130,some 131,some 132,some 4] rfl rfl (fun K hK => ?_);refine runOps_cut 8 (fun K2 hK2 => ?_);push_cast [hb5,hb23,hb24];(repeat refine .intro (by omega) ?_);refine hK2 _ _ ?_;clear hK2 K2;simp only [List.drop_succ_cons,List.drop_zero];refine runOps_cut 8 (fun K2 hK2 => ?_);push_cast [hb5,hb23,hb24];(repeat refine .intro (by omega) ?_);refine hK2 _ _ ?_;clear hK2 K2;simp only [List.drop_succ_cons,List.drop_zero];refine runOps_cut 8 (fun K2 hK2 => ?_);push_cast [hb5,hb23,hb24];(repeat refine .intro (by omega) ?_);refine hK2 _ _ ?_;clear hK2 K2;simp only [List.drop_succ_cons,List.drop_zero];push_cast [hb5,hb23,hb24];(repeat refine .intro (by omega) ?_);refine hK _ ?_;clear hK K;have hv := Option.some.inj h;rw [← hv] at hk22;refine Exists.intro (false) (And.intro hk22 ?_);refine slo ?_ ?_ rfl rfl
        ·push_cast [hb5,hb23,hb24]
        ·push_cast [hb5,hb23,hb24]
      ·replace h := cond_no hb23 h;refine VC.lastF tabOkF [some 107,some 108,some 109,some 110,some 111,some 112,some 113,some 114,some 115,some 116,some 117,some 118,some 119,some 120,some 121,some 122,some 123,some 124,some 125,some 126,some 127,some 128,some 129,some 130,some 131,some 132,some 4] rfl rfl (fun K hK => ?_);refine runOps_cut 8 (fun K2 hK2 => ?_);push_cast [hb5,hb23];(repeat refine .intro (by omega) ?_);refine hK2 _ _ ?_;clear hK2 K2;simp only [List.drop_succ_cons,List.drop_zero];refine runOps_cut 8 (fun K2 hK2 => ?_);push_cast [hb5,hb23];(repeat refine .intro (by omega) ?_);refine hK2 _ _ ?_;clear hK2 K2;simp only [List.drop_succ_cons,List.drop_zero];refine runOps_cut 8 (fun K2 hK2 => ?_);push_cast [hb5,hb23];(repeat refine .intro (by omega) ?_);refine hK2 _ _ ?_;clear hK2 K2;simp only [List.drop_succ_cons,List.drop_zero];push_cast [hb5,hb23];(repeat refine .intro (by omega) ?_);refine hK _ ?_;clear hK K;have hv := Option.some.inj h;rw [← hv] at hk22;refine Exists.intro (false) (And.intro hk22 ?_);refine slo ?_ ?_ rfl rfl
       ·push_cast [hb5,hb23]
       ·push_cast [hb5,hb23]
     ·rintro i_17 h;replace h : p_drydocklaw06_HelperLru_J22 i_17 = some r := h;(try push_cast);unfold p_drydocklaw06_HelperLru_J22 at h;refine VC.ret ?_;have hr := Option.some.inj h;subst hr;refine endP (Sub.lo _) (Post.ret ?_ ?_ ?_)
      ·push_cast [hb5]
      ·push_cast [hb5]
      ·rfl
structure LruE (n : Int) (e : T_Env) (ks : List Nat) (t : T_Table) : Prop where
  ht : e.T = [t]
  hl : LruT n (toT t)
  hk : keys (toT t).e = ks
theorem lru_has {cap : Int} {t : Tab} (h : LruT cap t) (k : Nat) : t.has k 0 = decide (k ∈ keys t.e) := by
  have hk := lru_keyed h
  unfold Tab.has
  rw [hk, Bool.true_and, decide_eq_decide]
  constructor
  · intro h0
    obtain ⟨i, e, _, h2, h3⟩ := fidx_some rfl h0
    exact List.mem_map.2 ⟨e, List.mem_of_getElem? h2, h3⟩
  · intro hm
    obtain ⟨e, he, hke⟩ := List.mem_map.1 hm
    apply Decidable.byContradiction
    intro hn
    exact fidx_none_iff hn e he hke
theorem LruE.live {n : Int} {e : T_Env} {ks : List Nat} {t : T_Table} (h : LruE n e ks t) : Live e 0 t := by
  obtain ⟨h1, h2, h3⟩ := h
  obtain ⟨f1, f2⟩ := mayFits h2.m
  refine ⟨?_, by rw [h1]; rfl, h2.m, ?_⟩
  · rw [h1]
    refine fits_one (by simpa [toT] using f1) fun e he => ?_
    simpa [toE] using f2 (toE e) (List.mem_map_of_mem he)
  · have hs := Tab.may_sch h2.m
    unfold fitsN
    rw [hs, h2.s]
    rfl
theorem LruE.set {n : Int} {e : T_Env} {ks : List Nat} {t : T_Table} (h : LruE n e ks t) (k : UInt32) :
    ∃ e' u, p_helper_Call 1 e [0, k, 0, 1] = some (e', 0, 0) ∧ LruE n e' (lruW n ks k.toNat) u := by
  have hl := h.live
  have hw : (toT t).s.words = 1 := by rw [h.hl.s]
  have z0 : (0 : UInt32).toNat = 0 := rfl
  have z1 : (1 : UInt32).toNat = 1 := rfl
  obtain ⟨u, v, A, C⟩ := live_call hl (n := 1) (by omega) (a := [k, 0, 1]) rfl (fun _ => ⟨0, rfl, by rw [hw]; decide⟩)
  have hst := lru_step (x := 1) h.hl k.toNat_lt (by decide)
  cases A with
  | set _ _ _ _ h0 =>
    refine ⟨_, ofT ((toT t).set k.toNat (0 : UInt32).toNat (1 : UInt32).toNat).1, C, ?_, ?_, ?_⟩
    · show e.T.set 0 _ = _
      rw [h.ht]
      rfl
    · rw [to_set]
      exact hst.2.1
    · rw [to_set, ← h.hk]
      exact hst.2.2
  | setE _ _ _ _ h0 => exact absurd hst.1 h0
theorem LruE.has {n : Int} {e : T_Env} {ks : List Nat} {t : T_Table} (h : LruE n e ks t) (k : UInt32) :
    ∃ e', p_helper_Call 3 e [0, k] = some (e', toldN (decide (k.toNat ∈ ks)), 0) ∧ LruE n e' ks t := by
  have hl := h.live
  obtain ⟨u, v, A, C⟩ := live_call hl (n := 3) (by omega) (a := [k]) rfl (fun q => by omega)
  cases A with
  | has _ _ =>
    rw [has_get, lru_has h.hl, h.hk] at C
    refine ⟨_, C, ?_, h.hl, h.hk⟩
    show e.T.set 0 _ = _
    rw [h.ht]
    rfl
theorem LruE.get {n : Int} {e : T_Env} {ks : List Nat} {t : T_Table} (h : LruE n e (0 :: ks) t) :
    ∃ e' u v, p_helper_Call 0 e [0, 0, 0] = some (e', v, 0) ∧ LruE n e' (ks ++ [0]) u := by
  have hl := h.live
  have hw : (toT t).s.words = 1 := by rw [h.hl.s]
  obtain ⟨u, v, A, C⟩ := live_call hl (n := 0) (by omega) (a := [0, 0]) rfl (fun _ => ⟨0, rfl, by rw [hw]; decide⟩)
  have hg := gets_ok (key := 0) (f := 0) h.hl.m
  cases A with
  | get _ _ _ =>
    have hh : (toT t).has 0 0 = true := by rw [lru_has h.hl, h.hk]; simp
    have h0 : (keys (toT t).e)[0]? = some 0 := by rw [h.hk]; rfl
    have hnd : (keys (toT t).e).Nodup := ((may_std (by rw [h.hl.s]; exact (by decide : (2 : Int) ≠ 3))).1 h.hl.m).2.2.2.2.2
    have hi : (toT t).idx 0 = 0 := by
      unfold keys at h0
      rw [List.getElem?_map, Option.map_eq_some_iff] at h0
      obtain ⟨y, hy, hk⟩ := h0
      have := fidx_eq hnd hy
      rw [hk] at this
      unfold Tab.idx
      rw [this]
      rfl
    have he : ((toT t).get 0 0).1.e = toLast (toT t).e 0 := by
      unfold Tab.get
      rw [if_pos hh, hi]
      show touch (toT t).s.kind (toT t).e 0 = _
      rw [h.hl.s]
      rfl
    have ho := okEs_get (t := toT t) (key := 0) (f := 0) h.hl.o
    refine ⟨_, ofT ((toT t).get (0 : UInt32).toNat (0 : UInt32).toNat).1, _, C, ?_, ?_, ?_⟩
    · show e.T.set 0 _ = _
      rw [h.ht]
      rfl
    · rw [to_get]
      exact ⟨hg.1.trans h.hl.s, hg.2.1.trans h.hl.n, hg.2.2.2.1, ho⟩
    · rw [to_get]
      show keys ((toT t).get 0 0).1.e = _
      rw [he, keys_toLast, h.hk]
      rfl
theorem range_two {n : Nat} (h : 2 ≤ n) : List.range n = 0 :: 1 :: List.range' 2 (n - 2) := by
  obtain ⟨m, rfl⟩ : ∃ m, n = m + 2 := ⟨n - 2, by omega⟩
  simp [List.range_eq_range', List.range'_succ]
theorem lruW_in {n k : Nat} (h : k < n) : lruW (n : Int) (List.range k) k = List.range (k + 1) := by
  unfold lruW
  rw [filter_ne_of_not (by simp), if_neg (by simp; omega), List.range_succ]
theorem lruW_full {n : Nat} {a : Nat} {l : List Nat} (hn : n ∉ a :: l) (hl : (a :: l).length = n) : lruW (n : Int) (a :: l) n = l ++ [n] := by
  unfold lruW
  rw [filter_ne_of_not hn, if_pos (by simp at hl ⊢; omega)]
  rfl
theorem told_one (b : Bool) : (((toldN b).toNat : Int) == 1) = b := by cases b <;> rfl
theorem lru_end {n : Nat} (h2 : 2 ≤ n) (h16 : n ≤ 16) {e : T_Env} {t : T_Table} (got : Bool) (hE : LruE n e (List.range n) t) : p_drydocklaw06_HelperLru_J7 n got e = some true := by
  have hN : (UInt32.ofInt (n : Int)).toNat = n := by
    show (((n : Int) % 4294967296).toNat) % 4294967296 = n
    omega
  rw [range_two h2] at hE
  have len : (List.range' 2 (n - 2)).length = n - 2 := by simp
  have n0 : (0 : Nat) ∉ List.range' 2 (n - 2) := by simp
  have n1 : (1 : Nat) ∉ List.range' 2 (n - 2) := by simp
  have nn : n ∉ List.range' 2 (n - 2) := by simp; omega
  generalize List.range' 2 (n - 2) = r at *
  unfold p_drydocklaw06_HelperLru_J7
  obtain ⟨e1, C1, E1⟩ := hE.has 0
  simp only [C1, po_of]
  have fin : ∀ (s : T_Env) (u : T_Table) (a : Nat) (l : List Nat), LruE n s (a :: l) u → n ∉ a :: l → (a :: l).length = n → (decide (0 ∈ l ++ [n]) = got) → (decide (1 ∈ l ++ [n]) = !got) → p_drydocklaw06_HelperLru_J16 n got s 0 = some true := fun s u a l hS h3 h4 h5 h6 => by
    unfold p_drydocklaw06_HelperLru_J16
    obtain ⟨e2, u2, C2, E2⟩ := hS.set (UInt32.ofInt (n : Int))
    rw [hN, lruW_full h3 h4] at E2
    obtain ⟨e3, C3, E3⟩ := E2.has 0
    obtain ⟨e4, C4, E4⟩ := E2.has 1
    have z0 : (0 : UInt32).toNat = 0 := rfl
    have z1 : (1 : UInt32).toNat = 1 := rfl
    rw [z0, h5] at C3
    rw [z1, h6] at C4
    simp only [C2, C3, C4, po_of, beq_self_eq_true, cond_true, told_one]
    cases got <;> rfl
  cases got with
  | false =>
    simp only [cond_false, po_of]
    refine fin e1 t 0 (1 :: r) E1 ?_ ?_ ?_ ?_
    · simp [nn]; omega
    · simp [len]; omega
    · simp [n0]; omega
    · simp
  | true =>
    obtain ⟨e2, u2, v2, C2, E2⟩ := E1.get
    simp only [cond_true, C2, po_of]
    refine fin e2 u2 1 (r ++ [0]) (show LruE n e2 (1 :: (r ++ [0])) u2 from E2) ?_ ?_ ?_ ?_
    · simp [nn]; omega
    · simp [len]; omega
    · simp
    · simp [n1]; omega
theorem lru_true (n : Int) (got : Bool) : p_drydocklaw06_HelperLru n got = some true := by
  unfold p_drydocklaw06_HelperLru
  simp only [awake6, po_of, cond_true]
  by_cases h2 : n < 2
  · have d : decide (n < 2) = true := by simpa using h2
    rw [d]; rfl
  have d : decide (n < 2) = false := by simpa using h2
  by_cases h16 : n > 16
  · have d' : decide (n > 16) = true := by simpa using h16
    rw [d, d']; rfl
  have d' : decide (n > 16) = false := by simpa using h16
  simp only [d, d', cond_false, po_of, p_drydocklaw06_HelperLru_J2]
  obtain ⟨m, rfl⟩ := Int.eq_ofNat_of_zero_le (show 0 ≤ n by omega)
  have hsm : (toS (T_Schema.mk 2 (m : Int) 1 0)).may = true := by
    simp [toS, Sch.may, inB]
    exact ⟨decide_eq_true (by omega), decide_eq_true (by omega)⟩
  have hnew : Tab.new (toS (T_Schema.mk 2 (m : Int) 1 0)) = (⟨⟨2, m, 1, 0⟩, [], 0⟩, 0) := by
    unfold Tab.new
    rw [hsm]
    rfl
  simp only [p_table_New, hnew, po_of]
  have hl0 : LruT m (⟨⟨2, m, 1, 0⟩, [], 0⟩ : Tab) := lru_new (by omega) (by omega)
  obtain ⟨t0, ht0⟩ : ∃ t0, t0 = ofT (⟨⟨2, m, 1, 0⟩, [], 0⟩ : Tab) := ⟨_, rfl⟩
  have htt : toT t0 = ⟨⟨2, m, 1, 0⟩, [], 0⟩ := by rw [ht0]; exact toT_ofT okEs_nil (by show (0 : Nat) < 4294967296; decide)
  rw [← ht0]
  have E0 : LruE m (T_Env.mk (A4.mk 0 0 0 0) [t0] 0) (List.range 0) t0 := ⟨rfl, by rw [htt]; exact hl0, by rw [htt]; rfl⟩
  have key := lp_inv (step := fun x => p_drydocklaw06_HelperLru_L8 (m : Int) (t0, 0) x.1 x.2) (fun s => ∃ k : Nat, s.2 = (k : Int) ∧ k ≤ m ∧ ∃ t, LruE m s.1 (List.range k) t) (fun s => ((m : Int) - s.2).toNat) (fun q => ∃ e t, q = .inl e ∧ LruE m e (List.range m) t) (by
    rintro ⟨s, i⟩ ⟨k, h6, h7, t, hE⟩
    simp only at h6 hE
    subst h6
    by_cases hlt : k < m
    · left
      have hd : decide ((k : Int) < (m : Int)) = true := by simp; omega
      obtain ⟨e', u, C, E⟩ := hE.set (UInt32.ofInt (k : Int))
      have hK : (UInt32.ofInt (k : Int)).toNat = k := by
        show (((k : Int) % 4294967296).toNat) % 4294967296 = k
        omega
      rw [hK, lruW_in hlt] at E
      refine ⟨(e', ((k + 1 : Nat) : Int)), ?_, ⟨k + 1, rfl, by omega, u, E⟩, ?_⟩
      · simp only [p_drydocklaw06_HelperLru_L8, hd, cond_true, C, po_of, bne_self_eq_false, cond_false]
        have z : (((0 : UInt32).toNat : Int) != 0) = false := rfl
        simp only [z, p_drydocklaw06_HelperLru_J11, cond_false, w64 (show k < 9223372036854775807 by omega)]
      · show ((m : Int) - ((k + 1 : Nat) : Int)).toNat < ((m : Int) - (k : Int)).toNat
        omega
    · right
      have hd : decide ((k : Int) < (m : Int)) = false := by simp; omega
      have : k = m := by omega
      subst this
      refine ⟨.inl s, ?_, s, t, rfl, hE⟩
      simp only [p_drydocklaw06_HelperLru_L8, hd, cond_false]) (T_Env.mk (A4.mk 0 0 0 0) [t0] 0, 0) ⟨0, rfl, Nat.zero_le _, t0, E0⟩
  obtain ⟨q, h6, e, t, rfl, hE⟩ := key
  rw [h6]
  exact lru_end (by omega) (by omega) got hE
/-
  PROVED: the statement HelperLru of the given seat: whatever the number and the flag, drydocklaw06.HelperLru returns true, and what was handed in reads as it did.
  Conditions: none beyond the statement's own.
-/
open Go Go.ChangeShapes Go.WideShapes Go.ChangeAt Go.RowKit Go.Proofs.Try
theorem o_3 {H : Type} {enc : TypeId × Value → H} {w : World} {base : Nat} {spare : Nat → Bool} {held : Bool} {fuel : Nat} {cs : List Value} {x : DataW H × List MemPlace} (h : DataW.trod enc prog w base spare held fuel 3 cs = some x) : ∃ a : Int, DRels w (okW w) (encI64 a) cs:= oI64 underlying3 h
theorem o_4 {H : Type} {enc : TypeId × Value → H} {w : World} {base : Nat} {spare : Nat → Bool} {held : Bool} {fuel : Nat} {cs : List Value} {x : DataW H × List MemPlace} (h : DataW.trod enc prog w base spare held fuel 4 cs = some x) : ∃ a : Bool, DRels w (okW w) (encBool a) cs:= oBool underlying4 h
theorem helperLruOwn : ownKnob Try.prog.godebug = none := by kernel_rfl
theorem helperLruLaid : laidOutB Try.prog = true := by kernel_rfl
set_option maxRecDepth 100000 in
theorem helperLru_lifted (os : Os) (started : os.Started) (H : Type) (enc : TypeId × Value → H) :
    ReturnsInHanded {} Try.checked os 6 .any (Rows.helperLruSpec.pre6 enc Try.prog Try.f6 Rows.helperLruRow.domain false) (Rows.helperLruSpec.post enc Try.prog Try.f6 false true false false) := by
  refine returnsInHanded_of_change (C := Try.checked) helperLruOwn started (by kernel_rfl) Try.func6
    (ChangeSpec.witness6 (enc := enc) (C := Try.checked) false ⟨#[], #[.int .i64 0, .bool false], []⟩ 8 (by kernel_rfl) (by kernel_rfl) (by kernel_rfl) (by kernel_rfl)) ?_
  intro W base args ds gs before hval0 hW _ _
  have hval : ∀ (j : Nat) t v, Try.f6.params[j]? = some t → args[j]? = some v → Value.okWide Try.prog W .any base t v := hval0
  have hW' := hW
  obtain ⟨p, q, hA0, hV, rfl, hfz, hnd⟩ := hW
  have hA : DataW.TrodAll enc Try.prog W 0 (fun _ => true) true Try.f6.params.toList args.toList ds p := hA0
  rw [Try.params6] at hA hval
  obtain ⟨l⟩ := args
  obtain ⟨v0, l0, d0, ds0, p0, q0, rfl, rfl, _, h0, hA1⟩ := trodAll_cons hA
  obtain ⟨v1, l1, d1, ds1, p1, q1, rfl, rfl, _, h1, hA2⟩ := trodAll_cons hA1
  obtain ⟨rfl, rfl, _⟩ := trodAll_nil hA2
  obtain ⟨rfl, rfl⟩ := trodVars_none hV
  obtain ⟨z0, rfl⟩ := okWide_int underlying3 (hval 0 _ v0 rfl rfl)
  obtain ⟨fuel0, hf0⟩ := h0
  obtain ⟨a0, r0⟩ := o_3 hf0
  obtain ⟨z1, rfl⟩ := okWide_bool underlying4 (hval 1 _ v1 rfl rfl)
  obtain ⟨fuel1, hf1⟩ := h1
  obtain ⟨a1, r1⟩ := o_4 hf1
  refine (Ctr.law (c_drydocklaw06_HelperLru a0 a1 (lru_true a0 a1)) rfl (VRels.of1 (.cons (arg_one r0) (.cons (arg_one r1) (.nil))))).mono fun e W' ⟨he, hw⟩ => ?_
  subst he
  exact ⟨_, rfl, post_law helperLruLaid hW' rfl rfl (by kernel_rfl) rfl rfl rfl hw⟩
theorem helperLru_holds : Rows.HelperLruSaid :=
  OpenClaim.holds_of_wide 6 Try.f6 rfl rfl rfl rfl rfl rfl rfl ⟨rfl, rfl, rfl, rfl, rfl⟩ rfl rfl rfl rfl rfl (by kernel_rfl) Try.func6 (by kernel_rfl)
    (of_decide_eq_true (by kernel_rfl)) (by unfold Func.isWrapper; first | (rw [if_pos (by decide +kernel)]; kernel_rfl) | (rw [if_neg (by decide +kernel)]; exact ⟨rfl, rfl⟩))
    (fun os started H enc _ => helperLru_lifted os started H enc)
end Go.Proofs.Ytkhanhhingicpaa
