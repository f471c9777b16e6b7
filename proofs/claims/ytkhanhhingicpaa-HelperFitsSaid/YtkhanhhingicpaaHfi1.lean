/-
  PROVED: the statement HelperFits of the given seat: whatever the helper, the schema and the words, drydocklaw06.HelperFits returns true, and what was handed in reads as it did.
  Conditions: none beyond the statement's own.
-/
import Derived.Test.YtkhanhhingicpaaB5
import Derived.Test.YtkhanhhingicpaaRows
set_option linter.unusedVariables false
set_option linter.unusedSimpArgs false
set_option maxHeartbeats 4000000
set_option maxRecDepth 100000
namespace Go.Proofs.Ytkhanhhingicpaa
open Go Go.RowKit Go.Proofs.Try
noncomputable def p_drydocklaw06_awake_J4 (i_1 : Bool) : Option (Bool) :=
  some i_1
noncomputable def p_drydocklaw06_awake : Option (Bool) :=
  po (p_table_New (T_Schema.mk 1 2 1 0)) fun r1 =>
  po (p_helper_Call 1 (T_Env.mk (A4.mk 0 0 0 0) ([r1.1]) 0) ([0, 5, 0, 7])) fun r2 =>
  po (p_helper_Call 0 r2.1 ([0, 5, 0])) fun r3 =>
  po (
  cond (r1.2 == 0) (
  cond (r2.2.2 == 0) (
  cond (r3.2.2 == 0) (
  cond ((r2.2.1.toNat : Int) == 0) (
  cond ((r3.2.1.toNat : Int) == 7) (
  cond ((r3.1.T.length : Int) == 1) (
  po (p_helper_Draw 0) fun r11 =>
  cond ((r11.toNat : Int) == 1013904223) (
  po (p_helper_Args 1) fun r13 =>
  some (r13 == 4)) (
  some false)) (
  some false)) (
  some false)) (
  some false)) (
  some false)) (
  some false)) (
  some false)) (fun x => p_drydocklaw06_awake_J4 x)
theorem c_drydocklaw06_awake {r : Bool} (h : p_drydocklaw06_awake = some r) : Ctr prog 32 [] [] (.raw (.bool r)) [] := by
 unfold p_drydocklaw06_awake at h;refine Ctr.ofW tabOk func32 rfl call32 0 _ ntmps32 [.tmp 0] rfl rfl rfl (fun B => ?_);refine VC.seqF tabOkF [some 0] [] rfl rfl (fun K hK => ?_);push_cast;(repeat refine .intro (by omega) ?_);refine hK _ ?_;clear hK K;obtain ⟨r1,hr1,h⟩ := po_some h;refine VC.seqF tabOkF [some 9,some 10,some 8,some 11,some 12,some 1,none,some 2] [1,2] rfl rfl (fun K hK => ?_);push_cast;(repeat refine .intro (by omega) ?_);refine callP (Ctr.lo (c_table_New (T_Schema.mk 1 2 1 0) hr1)) rfl ?_;push_cast;(repeat refine .intro (by omega) ?_);refine hK _ ?_;clear hK K;refine VC.seqF tabOkF [some 13,some 14,some 15,some 3,none] [2,3] rfl rfl (fun K hK => ?_);push_cast;(repeat refine .intro (by omega) ?_);refine hK _ ?_;clear hK K;refine VC.sub (s' := ⟨[(2,.raw (.int .i64 r1.2)),(3,.ref 12 0)],[(10,.row 27 6 0 (([r1.1]).map enc_Table)),(12,.box 49 [.raw (.int .u32 0),.raw (.int .u32 0),.raw (.int .u32 0),.raw (.int .u32 0),.row 10 0 6 0 1,.raw (.int .u32 0)])],14,62,0⟩) (sof ?_ ?_ rfl rfl) ?_
 ·push_cast
 ·push_cast
 refine VC.sub (Sub.freeze prog (b := 12) (j := 4) rfl rfl rfl (by push_cast <;> omega) (by decide)) ?_;refine VC.sub (s' := ⟨[(2,.raw (.int .i64 r1.2)),(3,.ref 12 0)],[(12,.box 49 [.raw (.int .u32 0),.raw (.int .u32 0),.raw (.int .u32 0),.raw (.int .u32 0),.sl false (([r1.1]).map enc_Table),.raw (.int .u32 0)])],14,62,0⟩) (sof ?_ ?_ rfl rfl) ?_
 ·push_cast
 ·push_cast
 obtain ⟨r2,hr2,h⟩ := po_some h;refine VC.seqF tabOkF [some 17,some 18,some 19,some 16,some 20,some 21,some 22,none,some 4,some 5] [2,3,4,5] rfl rfl (fun K hK => ?_);push_cast;(repeat refine .intro (by omega) ?_);refine callH (H := [(15,.row 25 1 0 (([0,5,0,7]).map encU32))]) (Ctr.consume (args0 := [.raw (.int .i64 1),.agg [.raw (.int .u32 0),.raw (.int .u32 0),.raw (.int .u32 0),.raw (.int .u32 0),.sl false (([r1.1]).map enc_Table),.raw (.int .u32 0)],.sl false (([0,5,0,7]).map encU32)]) (Ctr.ren (Bij.swp 0 16 Bij.id) (c_helper_Call 1 (T_Env.mk (A4.mk 0 0 0 0) ([r1.1]) 0) ([0,5,0,7]) hr2) (by push_cast) (by push_cast)) (by push_cast) rfl) (by push_cast) rfl rfl rfl ?_;push_cast;(repeat refine .intro (by omega) ?_);refine hK _ ?_;clear hK K;refine VC.sub (s' := ⟨[(2,.raw (.int .i64 r1.2)),(3,.ref 12 0),(4,.raw (.int .u32 (r2.2.1.toNat : Int))),(5,.raw (.int .i64 r2.2.2))],[(12,.box 49 [.raw (.int .u32 (r2.1.Ctx.a0.toNat : Int)),.raw (.int .u32 (r2.1.Ctx.a1.toNat : Int)),.raw (.int .u32 (r2.1.Ctx.a2.toNat : Int)),.raw (.int .u32 (r2.1.Ctx.a3.toNat : Int)),.row 16 0 6 0 r2.1.T.length,.raw (.int .u32 (r2.1.Seed.toNat : Int))]),(16,.row 27 6 0 (r2.1.T.map enc_Table))],24,62,0⟩) (sof ?_ ?_ rfl rfl) ?_
 ·push_cast
 ·push_cast
 refine VC.sub (Sub.freeze prog (b := 12) (j := 4) rfl rfl rfl (by push_cast <;> omega) (by decide)) ?_;refine VC.sub (s' := ⟨[(2,.raw (.int .i64 r1.2)),(3,.ref 12 0),(4,.raw (.int .u32 (r2.2.1.toNat : Int))),(5,.raw (.int .i64 r2.2.2))],[(12,.box 49 [.raw (.int .u32 (r2.1.Ctx.a0.toNat : Int)),.raw (.int .u32 (r2.1.Ctx.a1.toNat : Int)),.raw (.int .u32 (r2.1.Ctx.a2.toNat : Int)),.raw (.int .u32 (r2.1.Ctx.a3.toNat : Int)),.sl false (r2.1.T.map enc_Table),.raw (.int .u32 (r2.1.Seed.toNat : Int))])],24,62,0⟩) (sof ?_ ?_ rfl rfl) ?_
 ·push_cast
 ·push_cast
 obtain ⟨r3,hr3,h⟩ := po_some h;refine VC.seqF tabOkF [some 24,some 25,some 26,some 23,some 27,some 28,some 29,none,some 6,some 7] [2,3,4,5,6,7] rfl rfl (fun K hK => ?_);push_cast;(repeat refine .intro (by omega) ?_);refine callH (H := [(25,.row 25 1 0 (([0,5,0]).map encU32))]) (Ctr.consume (args0 := [.raw (.int .i64 0),.agg [.raw (.int .u32 (r2.1.Ctx.a0.toNat : Int)),.raw (.int .u32 (r2.1.Ctx.a1.toNat : Int)),.raw (.int .u32 (r2.1.Ctx.a2.toNat : Int)),.raw (.int .u32 (r2.1.Ctx.a3.toNat : Int)),.sl false (r2.1.T.map enc_Table),.raw (.int .u32 (r2.1.Seed.toNat : Int))],.sl false (([0,5,0]).map encU32)]) (Ctr.ren (Bij.swp 0 26 Bij.id) (c_helper_Call 0 r2.1 ([0,5,0]) hr3) (by push_cast) (by push_cast)) (by push_cast) rfl) (by push_cast) rfl rfl rfl ?_;push_cast;(repeat refine .intro (by omega) ?_);refine hK _ ?_;clear hK K;refine VC.sub (s' := ⟨[(2,.raw (.int .i64 r1.2)),(3,.ref 12 0),(4,.raw (.int .u32 (r2.2.1.toNat : Int))),(5,.raw (.int .i64 r2.2.2)),(6,.raw (.int .u32 (r3.2.1.toNat : Int))),(7,.raw (.int .i64 r3.2.2))],[(12,.box 49 [.raw (.int .u32 (r3.1.Ctx.a0.toNat : Int)),.raw (.int .u32 (r3.1.Ctx.a1.toNat : Int)),.raw (.int .u32 (r3.1.Ctx.a2.toNat : Int)),.raw (.int .u32 (r3.1.Ctx.a3.toNat : Int)),.row 26 0 6 0 r3.1.T.length,.raw (.int .u32 (r3.1.Seed.toNat : Int))]),(26,.row 27 6 0 (r3.1.T.map enc_Table))],34,62,0⟩) (sof ?_ ?_ rfl rfl) ?_
 ·push_cast
 ·push_cast
 obtain ⟨v4,h,hk4⟩ := po_some h;refine VC.seqJ (X := Bool) (fun x => p_drydocklaw06_awake_J4 x = some r) (fun x => ⟨[(0,.raw (.bool x))],[],67,62,0⟩) ?_ ?_
 ·rcases Bool.eq_false_or_eq_true (r1.2 == 0) with hb5 | hb5
  ·replace h := cond_yes hb5 h;rcases Bool.eq_false_or_eq_true (r2.2.2 == 0) with hb6 | hb6
   ·replace h := cond_yes hb6 h;rcases Bool.eq_false_or_eq_true (r3.2.2 == 0) with hb7 | hb7
    ·replace h := cond_yes hb7 h;rcases Bool.eq_false_or_eq_true ((r2.2.1.toNat : Int) == 0) with hb8 | hb8
     ·replace h := cond_yes hb8 h;rcases Bool.eq_false_or_eq_true ((r3.2.1.toNat : Int) == 7) with hb9 | hb9
      ·replace h := cond_yes hb9 h;rcases Bool.eq_false_or_eq_true ((r3.1.T.length : Int) == 1) with hb10 | hb10
       ·replace h := cond_yes hb10 h;obtain ⟨r11,hr11,h⟩ := po_some h;rcases Bool.eq_false_or_eq_true ((r11.toNat : Int) == 1013904223) with hb12 | hb12
        ·replace h := cond_yes hb12 h;obtain ⟨r13,hr13,h⟩ := po_some h;refine VC.lastF tabOkF [some 30,some 31,some 32,some 33,some 34,some 35,some 36,some 37,some 38,some 39,some 40,some 41,some 42,some 43,some 44,some 45,some 46,some 47,some 48,some 49,some 50,some 51,some 52,some 53,some 54,some 55,some 56,some 57,some 58,some 59,some 60,some 61,some 0] rfl rfl (fun K hK => ?_);refine runOps_cut 8 (fun K2 hK2 => ?_);push_cast [hb5,hb6,hb7,hb8,hb9,hb10,hb12];(repeat refine .intro (by omega) ?_);refine hK2 _ _ ?_;clear hK2 K2;simp only [List.drop_succ_cons,List.drop_zero];refine runOps_cut 8 (fun K2 hK2 => ?_);push_cast [hb5,hb6,hb7,hb8,hb9,hb10,hb12];(repeat refine .intro (by omega) ?_);refine hK2 _ _ ?_;clear hK2 K2;simp only [List.drop_succ_cons,List.drop_zero];refine runOps_cut 8 (fun K2 hK2 => ?_);push_cast [hb5,hb6,hb7,hb8,hb9,hb10,hb12];(repeat refine .intro (by omega) ?_);refine hK2 _ _ ?_;clear hK2 K2;simp only [List.drop_succ_cons,List.drop_zero];push_cast [hb5,hb6,hb7,hb8,hb9,hb10,hb12];(repeat refine .intro (by omega) ?_);refine callP (Ctr.lo (c_helper_Draw 0 hr11)) rfl ?_;push_cast [hb5,hb6,hb7,hb8,hb9,hb10,hb12];(repeat refine .intro (by omega) ?_);refine callP (Ctr.lo (c_helper_Args 1 hr13)) rfl ?_;push_cast [hb5,hb6,hb7,hb8,hb9,hb10,hb12];(repeat refine .intro (by omega) ?_);refine hK _ ?_;clear hK K;have hv := Option.some.inj h;rw [← hv] at hk4;refine Exists.intro ((r13 == 4)) (And.intro hk4 ?_);refine slo ?_ ?_ rfl rfl
         ·push_cast [hb5,hb6,hb7,hb8,hb9,hb10,hb12]
         ·push_cast [hb5,hb6,hb7,hb8,hb9,hb10,hb12]
        ·replace h := cond_no hb12 h;refine VC.lastF tabOkF [some 30,some 31,some 32,some 33,some 34,some 35,some 36,some 37,some 38,some 39,some 40,some 41,some 42,some 43,some 44,some 45,some 46,some 47,some 48,some 49,some 50,some 51,some 52,some 53,some 54,some 55,some 56,some 57,some 58,some 59,some 60,some 61,some 0] rfl rfl (fun K hK => ?_);refine runOps_cut 8 (fun K2 hK2 => ?_);push_cast [hb5,hb6,hb7,hb8,hb9,hb10,hb12];(repeat refine .intro (by omega) ?_);refine hK2 _ _ ?_;clear hK2 K2;simp only [List.drop_succ_cons,List.drop_zero];refine runOps_cut 8 (fun K2 hK2 => ?_);push_cast [hb5,hb6,hb7,hb8,hb9,hb10,hb12];(repeat refine .intro (by omega) ?_);refine hK2 _ _ ?_;clear hK2 K2;simp only [List.drop_succ_cons,List.drop_zero];refine runOps_cut 8 (fun K2 hK2 => ?_);push_cast [hb5,hb6,hb7,hb8,hb9,hb10,hb12];(repeat refine .intro (by omega) ?_);refine hK2 _ _ ?_;clear hK2 K2;simp only [List.drop_succ_cons,List.drop_zero];push_cast [hb5,hb6,hb7,hb8,hb9,hb10,hb12];(repeat refine .intro (by omega) ?_);refine callP (Ctr.lo (c_helper_Draw 0 hr11)) rfl ?_;push_cast [hb5,hb6,hb7,hb8,hb9,hb10,hb12];(repeat refine .intro (by omega) ?_);refine hK _ ?_;clear hK K;have hv := Option.some.inj h;rw [← hv] at hk4;refine Exists.intro (false) (And.intro hk4 ?_);refine slo ?_ ?_ rfl rfl
         ·push_cast [hb5,hb6,hb7,hb8,hb9,hb10,hb12]
         ·push_cast [hb5,hb6,hb7,hb8,hb9,hb10,hb12]
       ·replace h := cond_no hb10 h;refine VC.lastF tabOkF [some 30,some 31,some 32,some 33,some 34,some 35,some 36,some 37,some 38,some 39,some 40,some 41,some 42,some 43,some 44,some 45,some 46,some 47,some 48,some 49,some 50,some 51,some 52,some 53,some 54,some 55,some 56,some 57,some 58,some 59,some 60,some 61,some 0] rfl rfl (fun K hK => ?_);refine runOps_cut 8 (fun K2 hK2 => ?_);push_cast [hb5,hb6,hb7,hb8,hb9,hb10];(repeat refine .intro (by omega) ?_);refine hK2 _ _ ?_;clear hK2 K2;simp only [List.drop_succ_cons,List.drop_zero];refine runOps_cut 8 (fun K2 hK2 => ?_);push_cast [hb5,hb6,hb7,hb8,hb9,hb10];(repeat refine .intro (by omega) ?_);refine hK2 _ _ ?_;clear hK2 K2;simp only [List.drop_succ_cons,List.drop_zero];refine runOps_cut 8 (fun K2 hK2 => ?_);push_cast [hb5,hb6,hb7,hb8,hb9,hb10];(repeat refine .intro (by omega) ?_);refine hK2 _ _ ?_;clear hK2 K2;simp only [List.drop_succ_cons,List.drop_zero];push_cast [hb5,hb6,hb7,hb8,hb9,hb10];(repeat refine .intro (by omega) ?_);refine hK _ ?_;clear hK K;have hv := Option.some.inj h;rw [← hv] at hk4;refine Exists.intro (false) (And.intro hk4 ?_);refine slo ?_ ?_ rfl rfl
        ·push_cast [hb5,hb6,hb7,hb8,hb9,hb10]
        ·push_cast [hb5,hb6,hb7,hb8,hb9,hb10]
      ·replace h := cond_no hb9 h;refine VC.lastF tabOkF [some 30,some 31,some 32,some 33,some 34,some 35,some 36,some 37,some 38,some 39,some 40,some 41,some 42,some 43,some 44,some 45,some 46,some 47,some 48,some 49,some 50,some 51,some 52,some 53,some 54,some 55,some 56,some 57,some 58,some 59,some 60,some 61,some 0] rfl rfl (fun K hK => ?_);refine runOps_cut 8 (fun K2 hK2 => ?_);push_cast [hb5,hb6,hb7,hb8,hb9];(repeat refine .intro (by omega) ?_);refine hK2 _ _ ?_;clear hK2 K2;simp only [List.drop_succ_cons,List.drop_zero];refine runOps_cut 8 (fun K2 hK2 => ?_);push_cast [hb5,hb6,hb7,hb8,hb9];(repeat refine .intro (by omega) ?_);refine hK2 _ _ ?_;clear hK2 K2;simp only [List.drop_succ_cons,List.drop_zero];refine runOps_cut 8 (fun K2 hK2 => ?_);push_cast [hb5,hb6,hb7,hb8,hb9];(repeat refine .intro (by omega) ?_);refine hK2 _ _ ?_;clear hK2 K2;simp only [List.drop_succ_cons,List.drop_zero];push_cast [hb5,hb6,hb7,hb8,hb9];(repeat refine .intro (by omega) ?_);refine hK _ ?_;clear hK K;have hv := Option.some.inj h;rw [← hv] at hk4;refine Exists.intro (false) (And.intro hk4 ?_);refine slo ?_ ?_ rfl rfl
       ·push_cast [hb5,hb6,hb7,hb8,hb9]
       ·push_cast [hb5,hb6,hb7,hb8,hb9]
     ·replace h := cond_no hb8 h;refine VC.lastF tabOkF [some 30,some 31,some 32,some 33,some 34,some 35,some 36,some 37,some 38,some 39,some 40,some 41,some 42,some 43,some 44,some 45,some 46,some 47,some 48,some 49,some 50,some 51,some 52,some 53,some 54,some 55,some 56,some 57,some 58,some 59,some 60,some 61,some 0] rfl rfl (fun K hK => ?_);refine runOps_cut 8 (fun K2 hK2 => ?_);push_cast [hb5,hb6,hb7,hb8];(repeat refine .intro (by omega) ?_);refine hK2 _ _ ?_;clear hK2 K2;simp only [List.drop_succ_cons,List.drop_zero];refine runOps_cut 8 (fun K2 hK2 => ?_);push_cast [hb5,hb6,hb7,hb8];(repeat refine .intro (by omega) ?_);refine hK2 _ _ ?_;clear hK2 K2;simp only [List.drop_succ_cons,List.drop_zero];refine runOps_cut 8 (fun K2 hK2 => ?_);push_cast [hb5,hb6,hb7,hb8];(repeat refine .intro (by omega) ?_);refine hK2 _ _ ?_;clear hK2 K2;simp only [List.drop_succ_cons,List.drop_zero];push_cast [hb5,hb6,hb7,hb8];(repeat refine .intro (by omega) ?_);refine hK _ ?_;clear hK K;have hv := Option.some.inj h;rw [← hv] at hk4;refine Exists.intro (false) (And.intro hk4 ?_);refine slo ?_ ?_ rfl rfl
      ·push_cast [hb5,hb6,hb7,hb8]
      ·push_cast [hb5,hb6,hb7,hb8]
    ·replace h := cond_no hb7 h;refine VC.lastF tabOkF [some 30,some 31,some 32,some 33,some 34,some 35,some 36,some 37,some 38,some 39,some 40,some 41,some 42,some 43,some 44,some 45,some 46,some 47,some 48,some 49,some 50,some 51,some 52,some 53,some 54,some 55,some 56,some 57,some 58,some 59,some 60,some 61,some 0] rfl rfl (fun K hK => ?_);refine runOps_cut 8 (fun K2 hK2 => ?_);push_cast [hb5,hb6,hb7];(repeat refine .intro (by omega) ?_);refine hK2 _ _ ?_;clear hK2 K2;simp only [List.drop_succ_cons,List.drop_zero];refine runOps_cut 8 (fun K2 hK2 => ?_);push_cast [hb5,hb6,hb7];(repeat refine .intro (by omega) ?_);refine hK2 _ _ ?_;clear hK2 K2;simp only [List.drop_succ_cons,List.drop_zero];refine runOps_cut 8 (fun K2 hK2 => ?_);push_cast [hb5,hb6,hb7];(repeat refine .intro (by omega) ?_);refine hK2 _ _ ?_;clear hK2 K2;simp only [List.drop_succ_cons,List.drop_zero];push_cast [hb5,hb6,hb7];(repeat refine .intro (by omega) ?_);refine hK _ ?_;clear hK K;have hv := Option.some.inj h;rw [← hv] at hk4;refine Exists.intro (false) (And.intro hk4 ?_);refine slo ?_ ?_ rfl rfl
     ·push_cast [hb5,hb6,hb7]
     ·push_cast [hb5,hb6,hb7]
   ·replace h := cond_no hb6 h;refine VC.lastF tabOkF [some 30,some 31,some 32,some 33,some 34,some 35,some 36,some 37,some 38,some 39,some 40,some 41,some 42,some 43,some 44,some 45,some 46,some 47,some 48,some 49,some 50,some 51,some 52,some 53,some 54,some 55,some 56,some 57,some 58,some 59,some 60,some 61,some 0] rfl rfl (fun K hK => ?_);refine runOps_cut 8 (fun K2 hK2 => ?_);push_cast [hb5,hb6];(repeat refine .intro (by omega) ?_);refine hK2 _ _ ?_;clear hK2 K2;simp only [List.drop_succ_cons,List.drop_zero];refine runOps_cut 8 (fun K2 hK2 => ?_);push_cast [hb5,hb6];(repeat refine .intro (by omega) ?_);refine hK2 _ _ ?_;clear hK2 K2;simp only [List.drop_succ_cons,List.drop_zero];refine runOps_cut 8 (fun K2 hK2 => ?_);push_cast [hb5,hb6];(repeat refine .intro (by omega) ?_);refine hK2 _ _ ?_;clear hK2 K2;simp only [List.drop_succ_cons,List.drop_zero];push_cast [hb5,hb6];(repeat refine .intro (by omega) ?_);refine hK _ ?_;clear hK K;have hv := Option.some.inj h;rw [← hv] at hk4;refine Exists.intro (false) (And.intro hk4 ?_);refine slo ?_ ?_ rfl rfl
    ·push_cast [hb5,hb6]
    ·push_cast [hb5,hb6]
  ·replace h := cond_no hb5 h;refine VC.lastF tabOkF [some 30,some 31,some 32,some 33,some 34,some 35,some 36,some 37,some 38,some 39,some 40,some 41,some 42,some 43,some 44,some 45,some 46,some 47,some 48,some 49,some 50,some 51,some 52,some 53,some 54,some 55,some 56,some 57,some 58,some 59,some 60,some 61,some 0] rfl rfl (fun K hK => ?_);refine runOps_cut 8 (fun K2 hK2 => ?_);push_cast [hb5];(repeat refine .intro (by omega) ?_);refine hK2 _ _ ?_;clear hK2 K2;simp only [List.drop_succ_cons,List.drop_zero];refine runOps_cut 8 (fun K2 hK2 => ?_);push_cast [hb5];(repeat refine .intro (by omega) ?_);refine hK2 _ _ ?_;clear hK2 K2;simp only [List.drop_succ_cons,List.drop_zero];refine runOps_cut 8 (fun K2 hK2 => ?_);push_cast [hb5];(repeat refine .intro (by omega) ?_);refine hK2 _ _ ?_;clear hK2 K2;simp only [List.drop_succ_cons,List.drop_zero];push_cast [hb5];(repeat refine .intro (by omega) ?_);refine hK _ ?_;clear hK K;have hv := Option.some.inj h;rw [← hv] at hk4;refine Exists.intro (false) (And.intro hk4 ?_);refine slo ?_ ?_ rfl rfl
   ·push_cast [hb5]
   ·push_cast [hb5]
 ·rintro i_1 h;replace h : p_drydocklaw06_awake_J4 i_1 = some r := h;(try push_cast);unfold p_drydocklaw06_awake_J4 at h;refine VC.ret ?_;have hr := Option.some.inj h;subst hr;refine endP (Sub.lo _) (Post.ret ?_ ?_ ?_)
  ·push_cast
  ·push_cast
  ·rfl
theorem fits_one {t : T_Table} (h1 : t.E.length ≤ 1048576) (h2 : ∀ e ∈ t.E, e.V.length ≤ 1048576) : Fits [t] :=
  ⟨by simp, fun u hu => by rw [List.mem_singleton] at hu; rw [hu]; exact h1, fun u hu => by rw [List.mem_singleton] at hu; rw [hu]; exact h2⟩
def aw0 : T_Table := ⟨⟨1, 2, 1, 0⟩, [], 0⟩
def aw1 : T_Table := ⟨⟨1, 2, 1, 0⟩, [⟨5, [7]⟩], 0⟩
theorem awake6 : p_drydocklaw06_awake = some true := by
  have h1 : p_table_New (T_Schema.mk 1 2 1 0) = some (aw0, 0) := by decide
  have f0 : Fits [aw0] := fits_one (by decide) (by decide)
  have f1 : Fits [aw1] := fits_one (by decide) (by decide)
  have h2 : p_helper_Call 1 ⟨⟨0, 0, 0, 0⟩, [aw0], 0⟩ [0, 5, 0, 7] = some (⟨⟨0, 0, 0, 0⟩, [aw1], 0⟩, 0, 0) := by
    have ha : p_helper_Args 1 = some 4 := rfl
    unfold p_helper_Call
    rw [ha]
    simp only [po_of]
    show po (some false) (fun x => p_helper_Call_J2 1 _ _ x) = _
    simp only [po_of, p_helper_Call_J2, cond_false, own_is (e := ⟨⟨0, 0, 0, 0⟩, [aw0], 0⟩) f0]
    decide
  have h3 : p_helper_Call 0 ⟨⟨0, 0, 0, 0⟩, [aw1], 0⟩ [0, 5, 0] = some (⟨⟨0, 0, 0, 0⟩, [aw1], 0⟩, 7, 0) := by
    have ha : p_helper_Args 0 = some 3 := rfl
    unfold p_helper_Call
    rw [ha]
    simp only [po_of]
    show po (some false) (fun x => p_helper_Call_J2 0 _ _ x) = _
    simp only [po_of, p_helper_Call_J2, cond_false, own_is (e := ⟨⟨0, 0, 0, 0⟩, [aw1], 0⟩) f1]
    decide
  unfold p_drydocklaw06_awake
  rw [h1]
  simp only [po_of, h2, h3]
  decide
def AV.dull0 : AV → AV
  | .raw v => .raw v
  | _ => .dead
def AV.dull1 : AV → AV
  | .agg cs => .agg (cs.map AV.dull0)
  | v => v.dull0
def AV.dull : AV → AV
  | .tup vs => .tup (vs.map AV.dull1)
  | v => v.dull1
def AV.isRaw : AV → Bool
  | .raw _ => true
  | _ => false
theorem VRel.dull0 {w : World} {x x2 : Cx} {hp hp2 : Hp} {u : AV} {v : Value} (hv : VRel w x hp u v) : VRel w x2 hp2 u.dull0 v := by
  unfold AV.dull0
  split
  · have e := hv.rawEq
    subst e
    exact .raw _
  · exact .dead _
theorem VRel.dull1 {w : World} {x x2 : Cx} {hp hp2 : Hp} {u : AV} {v : Value} (hv : VRel w x hp u v) : VRel w x2 hp2 u.dull1 v := by
  unfold AV.dull1
  split
  · cases hv with
    | dat hd => cases hd
    | agg cs vs hl h1 h2 =>
      refine .agg _ vs (by simpa using hl) h1 fun i u hu => ?_
      obtain ⟨a, ha, rfl⟩ := map_at hu
      exact (h2 i a ha).dull0
  · exact hv.dull0
theorem VRel.dull {w : World} {x x2 : Cx} {hp hp2 : Hp} {u : AV} {v : Value} (hv : VRel w x hp u v) : VRel w x2 hp2 u.dull v := by
  unfold AV.dull
  split
  · cases hv with
    | dat hd => cases hd
    | tup cs vs hl h2 =>
      refine .tup _ vs (by simpa using hl) fun i u hu => ?_
      obtain ⟨a, ha, rfl⟩ := map_at hu
      exact (h2 i a ha).dull1
  · exact hv.dull1
def AV.lendb0 (H : Hp) : AV → AV
  | .bsl id off n => match look H id with
    | some (.box _ cs) => if off + n ≤ cs.length ∧ cs.all AV.isRaw = true then .sl false (((cs.drop off).take n).map fun v => [v]) else .dead
    | _ => .dead
  | v => v.lend0 H
def AV.lendb1 (H : Hp) : AV → AV
  | .agg cs => .agg (cs.map (AV.lend0 H))
  | v => v.lendb0 H
theorem VRel.lendb0 (P : Program) {w : World} {x : Cx} {H : Hp} (h : HRel w x H) {u : AV} {v : Value} (hv : VRel w x H u v) : VRel w (x.lent H) [] (u.lendb0 H) v := by
  unfold AV.lendb0
  split
  · rename_i id off n
    split
    · rename_i t cs hl
      split
      · rename_i hc
        obtain ⟨hle, hraw⟩ := hc
        cases hv with
        | dat hd => cases hd
        | bsl _ _ _ A c hid hcn hm hlive =>
          obtain ⟨b, vs, e1, e2, e3, e4, e5⟩ := h.obj id _ hl
          have hlen : (((cs.drop off).take n).map fun v => [v]).length = n := by
            simp only [List.length_map, List.length_take, List.length_drop]
            omega
          have get : ∀ (i : Nat) (ds : List AV), (((cs.drop off).take n).map fun v => [v])[i]? = some ds → i < n ∧ ∃ u, ds = [u] ∧ cs[off + i]? = some u ∧ ((cs.drop off).take n)[i]? = some u := fun i ds hi => by
            obtain ⟨u, hu, rfl⟩ := map_at hi
            have hi2 : i < n := by
              have := (List.getElem?_eq_some_iff.1 hu).1
              simp only [List.length_take] at this
              omega
            refine ⟨hi2, u, rfl, ?_, hu⟩
            rw [List.getElem?_take, if_pos hi2, List.getElem?_drop] at hu
            exact hu
          have hA : n = 0 ∨ A = some ⟨b, off, none⟩ := by
            rcases hlive ⟨t, cs, hl⟩ with h0 | ⟨b', q1, q2⟩
            · exact .inl h0
            · rw [e1] at q1
              injection q1 with q1
              subst q1
              exact .inr q2
          have key : Dat w (x.lent H).ok (.sl false (((cs.drop off).take n).map fun v => [v])) (.slice A (((cs.drop off).take n).map fun v => [v]).length c) := by
            refine .sl false _ A c 1 (fun i _ => vs.getD (off + i) undef) (by rw [hlen]; exact hcn) hm (fun q => by cases q) (fun i ds hi => ?_) (fun i ds hi => ?_) (fun i j ds a hi hj ha => ?_) (fun i j ds u hi hj => ?_)
            · obtain ⟨_, u, rfl, _⟩ := get i ds hi
              rfl
            · obtain ⟨hin, _⟩ := get i ds hi
              rcases hA with h0 | h0
              · omega
              · exact ⟨_, h0, .inr ⟨id, _, hl, e1⟩⟩
            · obtain ⟨hin, u, rfl, hu, _⟩ := get i ds hi
              have hlt := (List.getElem?_eq_some_iff.1 hu).1
              rcases hA with h0 | h0
              · omega
              · rw [ha] at h0
                injection h0 with h0
                subst h0
                rw [show i * 1 + j = i by omega]
                exact ⟨cell_getD e2 (by omega), e4 _ (by omega)⟩
            · obtain ⟨hin, u', rfl, hu, hu2⟩ := get i ds hi
              have hr := all_at hraw hu
              cases j with
              | succ j => simp at hj
              | zero =>
                simp only [List.getElem?_cons_zero, Option.some.injEq] at hj
                subst hj
                have h6 := e5 _ _ hu
                unfold AV.isRaw at hr
                split at hr
                · have e := h6.rawEq
                  show Dat w _ _ (vs.getD (off + i) undef)
                  rw [e]
                  exact .raw _
                · cases hr
          rw [hlen] at key
          exact .dat key
      · exact .dead _
    · exact .dead _
  · exact hv.lend0 P h
theorem VRel.lendb1 (P : Program) {w : World} {x : Cx} {H : Hp} (h : HRel w x H) {u : AV} {v : Value} (hv : VRel w x H u v) : VRel w (x.lent H) [] (u.lendb1 H) v := by
  unfold AV.lendb1
  split
  · cases hv with
    | dat hd => cases hd
    | agg cs vs hl h1 h2 =>
      refine .agg _ vs (by simpa using hl) h1 fun i u hu => ?_
      obtain ⟨a, ha, rfl⟩ := map_at hu
      exact (h2 i a ha).lend0 P h
  · exact hv.lendb0 P h
theorem Ctr.lend {P : Program} {f : FuncId} {args args0 : List AV} {H H' : Hp} {r : AV} (hc : Ctr P f args0 [] r H') (ha : args.map (AV.lendb1 H) = args0) : Ctr P f args H r.dull H := by
  refine ⟨hc.1, fun w x vals hx hdom hsz hargs => ?_⟩
  have hx0 : HRel w (x.lent H) [] := by
    refine ⟨fun b hb => ?_, fun id o hl => by simp [look] at hl, fun id t sz g els g' hl => by simp [look] at hl, fun id t sz g els hl => by simp [look] at hl, fun id o b hl => by simp [look] at hl, fun id id' o o' b hl => by simp [look] at hl, fun id o hl => by simp [look] at hl⟩
    rcases hb with h1 | ⟨id, o, h1, h2⟩
    · exact hx.okb b h1
    · exact (hx.liv id o b h1 h2).1
  refine Calls.mono (hc.2 w (x.lent H) vals hx0 (fun id g hd => False.elim hd) (by rw [← ha]; simpa using hsz) (fun i u hu => ?_)) ?_
  · rw [← ha] at hu
    obtain ⟨a, ha', rfl⟩ := map_at hu
    exact (hargs i a ha').lendb1 P hx
  · rintro e w' ⟨v, x', e1, st, e3, e4⟩
    have m := st.mo
    have t := st.tr
    have hb : ∀ id o b, look H id = some o → x.β id = some b → w'.heap[b]? = w.heap[b]? := fun id o b h1 h2 => m.ag b (.inr ⟨id, o, h1, h2⟩)
    have mo : Mo w x H w' x H := ⟨fun _ h => h, fun _ _ h => h, fun b hb => m.ag b (.inl hb), fun _ _ h => ⟨h, rfl⟩, fun _ _ _ _ h => ⟨h, rfl, rfl⟩, fun _ _ h => ⟨h, rfl⟩⟩
    refine ⟨v, x, e1, ⟨mo, ⟨t.os, t.tape, t.output, t.size, fun b hb _ => t.keep b hb (fun id o hl => by simp [look] at hl), fun b hb => .inl hb, fun id o b h1 h2 => .inr ⟨id, o, h1, h2⟩⟩, ⟨fun b hb => Nat.lt_of_lt_of_le (hx.okb b hb) t.size, hx.dom, hx.gen, hx.gdm, fun id o b h1 h2 => ⟨Nat.lt_of_lt_of_le (hx.liv id o b h1 h2).1 t.size, (hx.liv id o b h1 h2).2⟩, hx.inj, fun id o hl => (hx.obj id o hl).mono mo rfl rfl (fun b h2 => hb id o b hl h2)⟩⟩, e3.dull, fun id g hd => .inr (hdom id g hd)⟩
theorem Ctr.consumeB {P : Program} {f : FuncId} {args args0 : List AV} {H H' : Hp} {r : AV} (hc : Ctr P f args0 [] r H') (ha : args.map (AV.lendb1 H) = args0) (hd : (H'.all fun p => !Hp.has H p.1) = true) : Ctr P f args H r H' := by
  refine ⟨hc.1, fun w x vals hx hdom hsz hargs => ?_⟩
  have hx0 : HRel w (x.lent H) [] := by
    refine ⟨fun b hb => ?_, fun id o hl => by simp [look] at hl, fun id t sz g els g' hl => by simp [look] at hl, fun id t sz g els hl => by simp [look] at hl, fun id o b hl => by simp [look] at hl, fun id id' o o' b hl => by simp [look] at hl, fun id o hl => by simp [look] at hl⟩
    rcases hb with h1 | ⟨id, o, h1, h2⟩
    · exact hx.okb b h1
    · exact (hx.liv id o b h1 h2).1
  have dis : ∀ id o, look H' id = some o → Hp.has H id = false := fun id o hl => by
    have := look_all hd hl
    simpa using this
  refine Calls.mono (hc.2 w (x.lent H) vals hx0 (fun id g hd => False.elim hd) (by rw [← ha]; simpa using hsz) (fun i u hu => ?_)) ?_
  · rw [← ha] at hu
    obtain ⟨a, ha', rfl⟩ := map_at hu
    exact (hargs i a ha').lendb1 P hx
  · rintro e w' ⟨v, x', e1, st, e3, e4⟩
    have m := st.mo
    have t := st.tr
    have no : ∀ id g o, x.dom id g → look H' id = some o → False := fun id g o h1 h2 => by
      have h3 := hdom id g h1
      rw [dis id o h2] at h3
      cases h3
    obtain ⟨x2, hx2⟩ : ∃ x2 : Cx, x2 = { ok := x'.ok, dom := fun id g => x'.dom id g ∨ x.dom id g, β := x'.β, γ := x'.γ } := ⟨_, rfl⟩
    have m2 : Mo w' x' H' w' x2 H' := by
      subst hx2
      exact ⟨fun _ h => h, fun _ _ h => .inl h, fun _ _ => rfl, fun _ _ h => ⟨h, rfl⟩, fun _ _ _ _ h => ⟨h, rfl, rfl⟩, fun _ _ h => ⟨h, rfl⟩⟩
    have h2 : HRel w' x2 H' := by
      have h1 := st.h
      subst hx2
      refine ⟨h1.okb, fun id o hl => .inl (h1.dom id o hl), fun id t sz g els g' hl hd => ?_, fun id t sz g els hl => .inl (h1.gdm id t sz g els hl), h1.liv, h1.inj, fun id o hl => (h1.obj id o hl).mono m2 rfl rfl (fun _ _ => rfl)⟩
      rcases hd with hd | hd
      · exact h1.gen id t sz g els g' hl hd
      · exact (no id g' _ hd hl).elim
    refine ⟨v, x2, e1, ⟨?_, ?_, h2⟩, e3.mono m2, fun id g hd => ?_⟩
    · subst hx2
      exact ⟨fun b hb => m.ok b (.inl hb), fun id g hd => .inr hd, fun b hb => m.ag b (.inl hb), fun id hd ⟨_, _, hl⟩ => (no id 0 _ hd hl).elim, fun id g sz hd ⟨_, _, hl⟩ => (no id g _ hd hl).elim, fun id hd ⟨_, _, hl⟩ => (no id 0 _ hd hl).elim⟩
    · subst hx2
      refine ⟨t.os, t.tape, t.output, t.size, fun b hb _ => t.keep b hb (fun id o hl => by simp [look] at hl), fun b hb => ?_, fun id o b h1 h2 => ?_⟩
      · rcases t.okx b hb with h1 | h1 | ⟨id, o, h1, _⟩
        · exact h1.imp (fun h => h) .inr
        · exact .inr (.inl h1)
        · simp [look] at h1
      · rcases t.newb id o b h1 h2 with h3 | ⟨id0, o0, h3, _⟩
        · exact .inl h3
        · simp [look] at h3
    · subst hx2
      rcases hd with hd | hd
      · rcases e4 id g hd with h | h
        · exact .inl h
        · simp [Hp.has, look] at h
      · exact .inr (hdom id g hd)
attribute [push_cast] AV.dull AV.dull1 AV.dull0 AV.lendb0 AV.lendb1 AV.isRaw List.all_cons List.all_nil
noncomputable def p_drydocklaw06_HelperFits_J9 (i_2 : Bool) : Option (Bool) :=
  some i_2
noncomputable def p_drydocklaw06_HelperFits_J19 (i_4 : Bool) : Option (Bool) :=
  some i_4
noncomputable def p_drydocklaw06_HelperFits_J16 (a0 : Int) (a1 : T_Schema) (r15 : T_Env × UInt32 × Int) (i_3 : Bool) : Option (Bool) :=
  po (
  po (p_helper_Fits a0 a1) fun r20 =>
  cond r20 (
  some ((r15.2.2 == 0) == i_3)) (
  some ((r15.2.2 == 0) == false))) (fun x => p_drydocklaw06_HelperFits_J19 x)
noncomputable def p_drydocklaw06_HelperFits_J4 (a0 : Int) (a1 : T_Schema) (a2 : (A4 UInt32)) (r1 : Bool) (r2 : T_Table × Int) (r3 : Int) (i_1 : Bool) : Option (Bool) :=
  cond i_1 (
  po (
  cond r1 (
  cond (r2.2 == 0) (
  po (p_helper_Fits a0 a1) fun r12 =>
  cond r12 (
  some (!(decide (r3 < 1)))) (
  some true)) (
  some true)) (
  some false)) (fun x => p_drydocklaw06_HelperFits_J9 x)) (
  pg (0 ≤ 0 ∧ 0 ≤ r3 ∧ r3 ≤ 4) <|
  po (p_helper_Call a0 (T_Env.mk (A4.mk 0 0 0 0) ([r2.1]) 0) (List.take r3.toNat [0, a2.a1, a2.a2, a2.a3])) fun r15 =>
  po (
  cond (a0 != 0) (
  cond (a0 != 1) (
  some true) (
  some (decide ((a2.a2.toNat : Int) < a1.Words)))) (
  some (decide ((a2.a2.toNat : Int) < a1.Words)))) (fun x => p_drydocklaw06_HelperFits_J16 a0 a1 r15 x))
noncomputable def p_drydocklaw06_HelperFits (a0 : Int) (a1 : T_Schema) (a2 : (A4 UInt32)) : Option (Bool) :=
  po (p_drydocklaw06_awake) fun r1 =>
  po (p_table_New a1) fun r2 =>
  po (p_helper_Args a0) fun r3 =>
  po (
  cond r1 (
  cond (r2.2 != 0) (
  some true) (
  cond (decide (r3 < 1)) (
  some true) (
  some (decide (r3 > 4))))) (
  some true)) (fun x => p_drydocklaw06_HelperFits_J4 a0 a1 a2 r1 r2 r3 x)
theorem c_drydocklaw06_HelperFits (a0 : Int) (a1 : T_Schema) (a2 : (A4 UInt32)) {r : Bool} (h : p_drydocklaw06_HelperFits a0 a1 a2 = some r) : Ctr prog 7 [.raw (.int .i64 a0), .agg (enc_Schema a1), .agg ((encA4 encU32) a2)] [] (.raw (.bool r)) [] := by
 unfold p_drydocklaw06_HelperFits at h;refine Ctr.ofW tabOk func7 rfl call7 0 _ ntmps7 [.tmp 6] rfl rfl rfl (fun B => ?_);refine VC.seqF tabOkF [some 4,some 5,some 6] [0,4,5] rfl rfl (fun K hK => ?_);push_cast;(repeat refine .intro (by omega) ?_);refine hK _ ?_;clear hK K;obtain ⟨r1,hr1,h⟩ := po_some h;refine VC.seqF tabOkF [some 15,some 7] [0,4,5,7] rfl rfl (fun K hK => ?_);push_cast;(repeat refine .intro (by omega) ?_);refine callP (Ctr.lo (c_drydocklaw06_awake  hr1)) rfl ?_;push_cast;(repeat refine .intro (by omega) ?_);refine hK _ ?_;clear hK K;obtain ⟨r2,hr2,h⟩ := po_some h;refine VC.seqF tabOkF [some 17,some 18,some 16,some 19,some 20,some 8,none,some 9] [0,4,5,7,8,9] rfl rfl (fun K hK => ?_);push_cast;(repeat refine .intro (by omega) ?_);refine callP (Ctr.lo (c_table_New a1 hr2)) rfl ?_;push_cast;(repeat refine .intro (by omega) ?_);refine hK _ ?_;clear hK K;obtain ⟨r3,hr3,h⟩ := po_some h;refine VC.seqF tabOkF [some 21,some 22,some 10] [0,4,5,7,8,9,10] rfl rfl (fun K hK => ?_);push_cast;(repeat refine .intro (by omega) ?_);refine callP (Ctr.lo (c_helper_Args a0 hr3)) rfl ?_;push_cast;(repeat refine .intro (by omega) ?_);refine hK _ ?_;clear hK K;refine VC.seq ?_;obtain ⟨v4,h,hk4⟩ := po_some h;refine VC.seqJ (X := Bool) (fun x => p_drydocklaw06_HelperFits_J4 a0 a1 a2 r1 r2 r3 x = some r) (fun x => ⟨[(0,.raw (.int .i64 a0)),(4,.ref 0 0),(5,.ref 1 0),(7,.raw (.bool r1)),(8,.ref 10 0),(9,.raw (.int .i64 r2.2)),(10,.raw (.int .i64 r3)),(36,.raw (.bool x))],[(0,.box 23 [.raw (.int .i64 a1.Kind),.raw (.int .i64 a1.Cap),.raw (.int .i64 a1.Words),.raw (.int .i64 a1.Ver)]),(1,.box 47 [.raw (.int .u32 (a2.a0.toNat : Int)),.raw (.int .u32 (a2.a1.toNat : Int)),.raw (.int .u32 (a2.a2.toNat : Int)),.raw (.int .u32 (a2.a3.toNat : Int))]),(10,.box 27 [.raw (.int .i64 r2.1.S.Kind),.raw (.int .i64 r2.1.S.Cap),.raw (.int .i64 r2.1.S.Words),.raw (.int .i64 r2.1.S.Ver),.sl false (r2.1.E.map enc_Entry),.raw (.int .u32 (r2.1.Next.toNat : Int))])],30,87,0⟩) ?_ ?_
 ·rcases Bool.eq_false_or_eq_true r1 with hb5 | hb5
  ·replace h := cond_yes hb5 h;rcases Bool.eq_false_or_eq_true (r2.2 != 0) with hb6 | hb6
   ·replace h := cond_yes hb6 h;refine VC.lastF tabOkF [some 23,some 24,some 25,some 26,some 27,some 28,some 29,some 30,some 31,some 32,some 33,some 34,some 35,some 36] rfl rfl (fun K hK => ?_);refine runOps_cut 8 (fun K2 hK2 => ?_);push_cast [hb5,hb6];(repeat refine .intro (by omega) ?_);refine hK2 _ _ ?_;clear hK2 K2;simp only [List.drop_succ_cons,List.drop_zero];push_cast [hb5,hb6];(repeat refine .intro (by omega) ?_);refine hK _ ?_;clear hK K;have hv := Option.some.inj h;rw [← hv] at hk4;refine Exists.intro (true) (And.intro hk4 ?_);refine slo ?_ ?_ rfl rfl
    ·push_cast [hb5,hb6]
    ·push_cast [hb5,hb6]
   ·replace h := cond_no hb6 h;rcases Bool.eq_false_or_eq_true (decide (r3 < 1)) with hb7 | hb7
    ·replace h := cond_yes hb7 h;refine VC.lastF tabOkF [some 23,some 24,some 25,some 26,some 27,some 28,some 29,some 30,some 31,some 32,some 33,some 34,some 35,some 36] rfl rfl (fun K hK => ?_);refine runOps_cut 8 (fun K2 hK2 => ?_);push_cast [hb5,hb6,hb7];(repeat refine .intro (by omega) ?_);refine hK2 _ _ ?_;clear hK2 K2;simp only [List.drop_succ_cons,List.drop_zero];push_cast [hb5,hb6,hb7];(repeat refine .intro (by omega) ?_);refine hK _ ?_;clear hK K;have hv := Option.some.inj h;rw [← hv] at hk4;refine Exists.intro (true) (And.intro hk4 ?_);refine slo ?_ ?_ rfl rfl
     ·push_cast [hb5,hb6,hb7]
     ·push_cast [hb5,hb6,hb7]
    ·replace h := cond_no hb7 h;refine VC.lastF tabOkF [some 23,some 24,some 25,some 26,some 27,some 28,some 29,some 30,some 31,some 32,some 33,some 34,some 35,some 36] rfl rfl (fun K hK => ?_);refine runOps_cut 8 (fun K2 hK2 => ?_);push_cast [hb5,hb6,hb7];(repeat refine .intro (by omega) ?_);refine hK2 _ _ ?_;clear hK2 K2;simp only [List.drop_succ_cons,List.drop_zero];push_cast [hb5,hb6,hb7];(repeat refine .intro (by omega) ?_);refine hK _ ?_;clear hK K;have hv := Option.some.inj h;rw [← hv] at hk4;refine Exists.intro ((decide (r3 > 4))) (And.intro hk4 ?_);refine slo ?_ ?_ rfl rfl
     ·push_cast [hb5,hb6,hb7]
     ·push_cast [hb5,hb6,hb7]
  ·replace h := cond_no hb5 h;refine VC.lastF tabOkF [some 23,some 24,some 25,some 26,some 27,some 28,some 29,some 30,some 31,some 32,some 33,some 34,some 35,some 36] rfl rfl (fun K hK => ?_);refine runOps_cut 8 (fun K2 hK2 => ?_);push_cast [hb5];(repeat refine .intro (by omega) ?_);refine hK2 _ _ ?_;clear hK2 K2;simp only [List.drop_succ_cons,List.drop_zero];push_cast [hb5];(repeat refine .intro (by omega) ?_);refine hK _ ?_;clear hK K;have hv := Option.some.inj h;rw [← hv] at hk4;refine Exists.intro (true) (And.intro hk4 ?_);refine slo ?_ ?_ rfl rfl
   ·push_cast [hb5]
   ·push_cast [hb5]
 ·rintro i_1 h;replace h : p_drydocklaw06_HelperFits_J4 a0 a1 a2 r1 r2 r3 i_1 = some r := h;(try push_cast);unfold p_drydocklaw06_HelperFits_J4 at h;refine VC.cond rfl rfl (fun hc8 => ?_) (fun hc8 => ?_)
  ·have hb8 : i_1 = true := by simpa using hc8
   replace h := cond_yes hb8 h;obtain ⟨v9,h,hk9⟩ := po_some h;refine VC.seqJ (X := Bool) (fun x => p_drydocklaw06_HelperFits_J9 x = some r) (fun x => ⟨[(6,.raw (.bool x))],[],46,87,0⟩) ?_ ?_
   ·rcases Bool.eq_false_or_eq_true r1 with hb10 | hb10
    ·replace h := cond_yes hb10 h;rcases Bool.eq_false_or_eq_true (r2.2 == 0) with hb11 | hb11
     ·replace h := cond_yes hb11 h;obtain ⟨r12,hr12,h⟩ := po_some h;rcases Bool.eq_false_or_eq_true r12 with hb13 | hb13
      ·replace h := cond_yes hb13 h;refine VC.lastF tabOkF [some 37,some 38,some 39,some 40,some 41,some 42,some 43,some 44,some 45,some 46,some 47,some 48,some 49,some 50,some 51,some 6] rfl rfl (fun K hK => ?_);refine runOps_cut 8 (fun K2 hK2 => ?_);push_cast [hb8,hb10,hb11,hb13];(repeat refine .intro (by omega) ?_);refine callP (Ctr.lo (c_helper_Fits a0 a1 hr12)) rfl ?_;push_cast [hb8,hb10,hb11,hb13];(repeat refine .intro (by omega) ?_);refine hK2 _ _ ?_;clear hK2 K2;simp only [List.drop_succ_cons,List.drop_zero];push_cast [hb8,hb10,hb11,hb13];(repeat refine .intro (by omega) ?_);refine hK _ ?_;clear hK K;have hv := Option.some.inj h;rw [← hv] at hk9;refine Exists.intro ((!(decide (r3 < 1)))) (And.intro hk9 ?_);refine slo ?_ ?_ rfl rfl
       ·push_cast [hb8,hb10,hb11,hb13]
       ·push_cast [hb8,hb10,hb11,hb13]
      ·replace h := cond_no hb13 h;refine VC.lastF tabOkF [some 37,some 38,some 39,some 40,some 41,some 42,some 43,some 44,some 45,some 46,some 47,some 48,some 49,some 50,some 51,some 6] rfl rfl (fun K hK => ?_);refine runOps_cut 8 (fun K2 hK2 => ?_);push_cast [hb8,hb10,hb11,hb13];(repeat refine .intro (by omega) ?_);refine callP (Ctr.lo (c_helper_Fits a0 a1 hr12)) rfl ?_;push_cast [hb8,hb10,hb11,hb13];(repeat refine .intro (by omega) ?_);refine hK2 _ _ ?_;clear hK2 K2;simp only [List.drop_succ_cons,List.drop_zero];push_cast [hb8,hb10,hb11,hb13];(repeat refine .intro (by omega) ?_);refine hK _ ?_;clear hK K;have hv := Option.some.inj h;rw [← hv] at hk9;refine Exists.intro (true) (And.intro hk9 ?_);refine slo ?_ ?_ rfl rfl
       ·push_cast [hb8,hb10,hb11,hb13]
       ·push_cast [hb8,hb10,hb11,hb13]
     ·replace h := cond_no hb11 h;refine VC.lastF tabOkF [some 37,some 38,some 39,some 40,some 41,some 42,some 43,some 44,some 45,some 46,some 47,some 48,some 49,some 50,some 51,some 6] rfl rfl (fun K hK => ?_);refine runOps_cut 8 (fun K2 hK2 => ?_);push_cast [hb8,hb10,hb11];(repeat refine .intro (by omega) ?_);refine hK2 _ _ ?_;clear hK2 K2;simp only [List.drop_succ_cons,List.drop_zero];push_cast [hb8,hb10,hb11];(repeat refine .intro (by omega) ?_);refine hK _ ?_;clear hK K;have hv := Option.some.inj h;rw [← hv] at hk9;refine Exists.intro (true) (And.intro hk9 ?_);refine slo ?_ ?_ rfl rfl
      ·push_cast [hb8,hb10,hb11]
      ·push_cast [hb8,hb10,hb11]
    ·replace h := cond_no hb10 h;refine VC.lastF tabOkF [some 37,some 38,some 39,some 40,some 41,some 42,some 43,some 44,some 45,some 46,some 47,some 48,some 49,some 50,some 51,some 6] rfl rfl (fun K hK => ?_);refine runOps_cut 8 (fun K2 hK2 => ?_);push_cast [hb8,hb10];(repeat refine .intro (by omega) ?_);refine hK2 _ _ ?_;clear hK2 K2;simp only [List.drop_succ_cons,List.drop_zero];push_cast [hb8,hb10];(repeat refine .intro (by omega) ?_);refine hK _ ?_;clear hK K;have hv := Option.some.inj h;rw [← hv] at hk9;refine Exists.intro (false) (And.intro hk9 ?_);refine slo ?_ ?_ rfl rfl
     ·push_cast [hb8,hb10]
     ·push_cast [hb8,hb10]
   ·rintro i_2 h;replace h : p_drydocklaw06_HelperFits_J9 i_2 = some r := h;(try push_cast);unfold p_drydocklaw06_HelperFits_J9 at h;refine VC.ret ?_;have hr := Option.some.inj h;subst hr;refine endP (Sub.lo _) (Post.ret ?_ ?_ ?_)
    ·push_cast [hb8]
    ·push_cast [hb8]
    ·rfl
  ·have hb8 : i_1 = false := by simpa using hc8
   replace h := cond_no hb8 h;refine VC.skip ?_;refine VC.seqF tabOkF [some 52,none] [0,4,5,8,10] rfl rfl (fun K hK => ?_);push_cast [hb8];(repeat refine .intro (by omega) ?_);refine hK _ ?_;clear hK K;obtain ⟨hg14,h⟩ := pg_some h;have hg14n : r3.toNat ≤ 4 := by omega
   obtain ⟨r15,hr15,h⟩ := po_some h;refine VC.seqFD tabOkF hmixO [some 54,some 55,some 56,some 57,some 58,some 59,some 60,some 53,some 61,some 62,some 63,some 11,none,some 12,some 13] [0,4,5,13] rfl rfl rfl (fun K hK => ?_);refine runD_cut 8 (fun K2 hK2 => ?_);push_cast [hb8,hg14,hg14n];(repeat refine .intro (by omega) ?_);refine callHD (H := [(1,.box 47 [.raw (.int .u32 0),.raw (.int .u32 (a2.a1.toNat : Int)),.raw (.int .u32 (a2.a2.toNat : Int)),.raw (.int .u32 (a2.a3.toNat : Int))]),(34,.row 27 6 0 (([r2.1]).map enc_Table))]) (H' := _) (Ctr.lend (args0 := [.raw (.int .i64 a0),.agg [.raw (.int .u32 0),.raw (.int .u32 0),.raw (.int .u32 0),.raw (.int .u32 0),.sl false (([r2.1]).map enc_Table),.raw (.int .u32 0)],.sl false ((List.take r3.toNat [0,a2.a1,a2.a2,a2.a3]).map encU32)]) (c_helper_Call a0 (T_Env.mk (A4.mk 0 0 0 0) ([r2.1]) 0) (List.take r3.toNat [0,a2.a1,a2.a2,a2.a3]) hr15) (by push_cast [hb8,hg14,hg14n])) (by push_cast [hb8,hg14,hg14n]) rfl rfl rfl ?_;push_cast [hb8,hg14,hg14n];(repeat refine .intro (by omega) ?_);refine hK2 _ _ _ ?_;clear hK2 K2;simp only [List.drop_succ_cons,List.drop_zero];push_cast [hb8,hg14,hg14n];(repeat refine .intro (by omega) ?_);refine ⟨rfl,hK _ ?_⟩;clear hK K;refine VC.sub (s' := ⟨[(0,.raw (.int .i64 a0)),(4,.ref 0 0),(5,.ref 1 0),(13,.raw (.int .i64 r15.2.2))],[(0,.box 23 [.raw (.int .i64 a1.Kind),.raw (.int .i64 a1.Cap),.raw (.int .i64 a1.Words),.raw (.int .i64 a1.Ver)]),(1,.box 47 [.raw (.int .u32 0),.raw (.int .u32 (a2.a1.toNat : Int)),.raw (.int .u32 (a2.a2.toNat : Int)),.raw (.int .u32 (a2.a3.toNat : Int))])],47,87,0⟩) (sof ?_ ?_ rfl rfl) ?_
   ·push_cast [hb8]
   ·push_cast [hb8]
   obtain ⟨v16,h,hk16⟩ := po_some h;refine VC.seqJ (X := Bool) (fun x => p_drydocklaw06_HelperFits_J16 a0 a1 r15 x = some r) (fun x => ⟨[(0,.raw (.int .i64 a0)),(4,.ref 0 0),(13,.raw (.int .i64 r15.2.2)),(14,.raw (.bool x))],[(0,.box 23 [.raw (.int .i64 a1.Kind),.raw (.int .i64 a1.Cap),.raw (.int .i64 a1.Words),.raw (.int .i64 a1.Ver)])],62,87,0⟩) ?_ ?_
   ·rcases Bool.eq_false_or_eq_true (a0 != 0) with hb17 | hb17
    ·replace h := cond_yes hb17 h;rcases Bool.eq_false_or_eq_true (a0 != 1) with hb18 | hb18
     ·replace h := cond_yes hb18 h;refine VC.lastF tabOkF [some 64,some 65,some 66,some 67,some 68,some 69,some 70,some 71,some 72,some 73,some 74,some 75,some 76,some 77,some 14] rfl rfl (fun K hK => ?_);refine runOps_cut 8 (fun K2 hK2 => ?_);push_cast [hb8,hg14,hg14n,hb17,hb18];(repeat refine .intro (by omega) ?_);refine hK2 _ _ ?_;clear hK2 K2;simp only [List.drop_succ_cons,List.drop_zero];push_cast [hb8,hg14,hg14n,hb17,hb18];(repeat refine .intro (by omega) ?_);refine hK _ ?_;clear hK K;have hv := Option.some.inj h;rw [← hv] at hk16;refine Exists.intro (true) (And.intro hk16 ?_);refine slo ?_ ?_ rfl rfl
      ·push_cast [hb8,hb17,hb18]
      ·push_cast [hb8,hb17,hb18]
     ·replace h := cond_no hb18 h;refine VC.lastF tabOkF [some 64,some 65,some 66,some 67,some 68,some 69,some 70,some 71,some 72,some 73,some 74,some 75,some 76,some 77,some 14] rfl rfl (fun K hK => ?_);refine runOps_cut 8 (fun K2 hK2 => ?_);push_cast [hb8,hg14,hg14n,hb17,hb18];(repeat refine .intro (by omega) ?_);refine hK2 _ _ ?_;clear hK2 K2;simp only [List.drop_succ_cons,List.drop_zero];push_cast [hb8,hg14,hg14n,hb17,hb18];(repeat refine .intro (by omega) ?_);refine hK _ ?_;clear hK K;have hv := Option.some.inj h;rw [← hv] at hk16;refine Exists.intro ((decide ((a2.a2.toNat : Int) < a1.Words))) (And.intro hk16 ?_);refine slo ?_ ?_ rfl rfl
      ·push_cast [hb8,hb17,hb18]
      ·push_cast [hb8,hb17,hb18]
    ·replace h := cond_no hb17 h;refine VC.lastF tabOkF [some 64,some 65,some 66,some 67,some 68,some 69,some 70,some 71,some 72,some 73,some 74,some 75,some 76,some 77,some 14] rfl rfl (fun K hK => ?_);refine runOps_cut 8 (fun K2 hK2 => ?_);push_cast [hb8,hg14,hg14n,hb17];(repeat refine .intro (by omega) ?_);refine hK2 _ _ ?_;clear hK2 K2;simp only [List.drop_succ_cons,List.drop_zero];push_cast [hb8,hg14,hg14n,hb17];(repeat refine .intro (by omega) ?_);refine hK _ ?_;clear hK K;have hv := Option.some.inj h;rw [← hv] at hk16;refine Exists.intro ((decide ((a2.a2.toNat : Int) < a1.Words))) (And.intro hk16 ?_);refine slo ?_ ?_ rfl rfl
     ·push_cast [hb8,hb17]
     ·push_cast [hb8,hb17]
   ·rintro i_3 h;replace h : p_drydocklaw06_HelperFits_J16 a0 a1 r15 i_3 = some r := h;(try push_cast);unfold p_drydocklaw06_HelperFits_J16 at h;obtain ⟨v19,h,hk19⟩ := po_some h;refine VC.seqJ (X := Bool) (fun x => p_drydocklaw06_HelperFits_J19 x = some r) (fun x => ⟨[(6,.raw (.bool x))],[],72,87,0⟩) ?_ ?_
    ·obtain ⟨r20,hr20,h⟩ := po_some h;rcases Bool.eq_false_or_eq_true r20 with hb21 | hb21
     ·replace h := cond_yes hb21 h;refine VC.lastF tabOkF [some 78,some 79,some 80,some 81,some 82,some 83,some 84,some 85,some 86,some 6] rfl rfl (fun K hK => ?_);push_cast [hb8,hg14,hg14n,hb21];(repeat refine .intro (by omega) ?_);refine callP (Ctr.lo (c_helper_Fits a0 a1 hr20)) rfl ?_;push_cast [hb8,hg14,hg14n,hb21];(repeat refine .intro (by omega) ?_);refine hK _ ?_;clear hK K;have hv := Option.some.inj h;rw [← hv] at hk19;refine Exists.intro (((r15.2.2 == 0) == i_3)) (And.intro hk19 ?_);refine slo ?_ ?_ rfl rfl
      ·push_cast [hb8,hb21]
      ·push_cast [hb8,hb21]
     ·replace h := cond_no hb21 h;refine VC.lastF tabOkF [some 78,some 79,some 80,some 81,some 82,some 83,some 84,some 85,some 86,some 6] rfl rfl (fun K hK => ?_);push_cast [hb8,hg14,hg14n,hb21];(repeat refine .intro (by omega) ?_);refine callP (Ctr.lo (c_helper_Fits a0 a1 hr20)) rfl ?_;push_cast [hb8,hg14,hg14n,hb21];(repeat refine .intro (by omega) ?_);refine hK _ ?_;clear hK K;have hv := Option.some.inj h;rw [← hv] at hk19;refine Exists.intro (((r15.2.2 == 0) == false)) (And.intro hk19 ?_);refine slo ?_ ?_ rfl rfl
      ·push_cast [hb8,hb21]
      ·push_cast [hb8,hb21]
    ·rintro i_4 h;replace h : p_drydocklaw06_HelperFits_J19 i_4 = some r := h;(try push_cast);unfold p_drydocklaw06_HelperFits_J19 at h;refine VC.ret ?_;have hr := Option.some.inj h;subst hr;refine endP (Sub.lo _) (Post.ret ?_ ?_ ?_)
     ·push_cast [hb8]
     ·push_cast [hb8]
     ·rfl
theorem new_may {s : Sch} (h : (Tab.new s).2 = 0) : s.may = true ∧ (Tab.new s).1.may = true ∧ (Tab.new s).1.s = s := by
  have hm : s.may = true := by
    cases hq : s.may with
    | true => rfl
    | false =>
      unfold Tab.new at h
      rw [if_pos hq] at h
      exact absurd h (by decide)
  have hb := Sch.may_bounds hm
  have hnew : Tab.new s = (⟨s, if s.kind = 0 then newEs s.cap.toNat s.words.toNat else [], 0⟩, 0) := by
    unfold Tab.new
    rw [if_neg (by rw [hm]; simp)]
  rw [hnew]
  refine ⟨hm, ?_, rfl⟩
  by_cases h0 : s.kind = 0
  · rw [if_pos h0]
    refine (may_std (by show s.kind ≠ 3; omega)).2 ⟨hm, ?_, rfl, fun _ => ⟨?_, ?_⟩, ?_, ?_⟩
    · simp only [newEs_length]
      omega
    · simp only [newEs_length]
      omega
    · intro i e he
      simp only [newEs, List.getElem?_map] at he
      obtain ⟨i', h5, rfl⟩ := Option.map_eq_some_iff.1 he
      obtain ⟨h6, h7⟩ := List.getElem?_eq_some_iff.1 h5
      rw [List.getElem_range] at h7
      exact h7.symm
    · intro e he
      simp [newEs] at he
      obtain ⟨i, hi, rfl⟩ := he
      simp
      omega
    · simp only [newEs, keys, List.map_map]
      have : (Ent.key ∘ fun i => (⟨i, List.replicate s.words.toNat 0⟩ : Ent)) = id := rfl
      rw [this, List.map_id]
      exact List.nodup_range
  · rw [if_neg h0]
    refine (Tab.may_iff _).2 ⟨?_, fun i e he => by simp at he⟩
    simp only [Tab.headOk, hm, Bool.true_and, List.length_nil, Bool.and_eq_true, Bool.or_eq_true, Bool.not_eq_true', decide_eq_true_eq, decide_eq_false_iff_not]
    exact ⟨⟨by show ((0 : Nat) : Int) ≤ s.cap; omega, .inr trivial⟩, .inl h0⟩
theorem fits_args {n : Int} {s : Sch} (h : fitsN n s = true) : 1 ≤ argsN n := by
  unfold fitsN at h
  unfold argsN
  by_cases h5 : n = 5
  · subst h5; decide
  · rw [if_neg h5] at h
    have : 0 ≤ n ∧ n ≤ 3 := by
      simp only [Bool.and_eq_true, decide_eq_true_eq] at h
      exact h.2.1
    have : n = 0 ∨ n = 1 ∨ n = 2 ∨ n = 3 := by omega
    rcases this with rfl | rfl | rfl | rfl <;> decide
theorem args_le (n : Int) : argsN n ≤ 4 := by
  unfold argsN
  repeat' split
  all_goals omega
theorem fits_true (n : Int) (s : T_Schema) (a : A4 UInt32) : p_drydocklaw06_HelperFits n s a = some true := by
  unfold p_drydocklaw06_HelperFits
  simp only [awake6, p_table_New, args_is, po_of, cond_true]
  by_cases h0 : (Tab.new (toS s)).2 = 0
  case neg =>
    have b0 : ((Tab.new (toS s)).2 != 0) = true := by simpa using h0
    have b1 : ((Tab.new (toS s)).2 == 0) = false := by simpa using h0
    simp only [b0, b1, cond_true, cond_false, po_of, p_drydocklaw06_HelperFits_J4, p_drydocklaw06_HelperFits_J9]
  have b0 : ((Tab.new (toS s)).2 != 0) = false := by simpa using h0
  have b1 : ((Tab.new (toS s)).2 == 0) = true := by simpa using h0
  obtain ⟨hsm, htm, hts⟩ := new_may h0
  have hle := args_le n
  have d4 : decide (argsN n > 4) = false := by simp; omega
  by_cases h1 : argsN n < 1
  · have d1 : decide (argsN n < 1) = true := by simpa using h1
    have hf : fitsN n (toS s) = false := by
      cases hq : fitsN n (toS s) with
      | false => rfl
      | true => have := fits_args hq; omega
    simp only [b0, b1, d1, cond_true, cond_false, po_of, p_drydocklaw06_HelperFits_J4, p_drydocklaw06_HelperFits_J9, fits_is, hf]
  have d1 : decide (argsN n < 1) = false := by simpa using h1
  simp only [b0, d1, d4, cond_false, po_of, p_drydocklaw06_HelperFits_J4]
  rw [pg_of (show 0 ≤ 0 ∧ 0 ≤ argsN n ∧ argsN n ≤ 4 from ⟨Nat.le_refl _, by omega, hle⟩)]
  obtain ⟨t, ht⟩ : ∃ t, t = ofT (Tab.new (toS s)).1 := ⟨_, rfl⟩
  have htt : toT t = (Tab.new (toS s)).1 := by rw [ht]; exact toT_ofT okEs_new' new_next
  rw [← ht]
  have hmay : (toT t).may = true := by rw [htt]; exact htm
  have hS : (toT t).s = toS s := by rw [htt]; exact hts
  obtain ⟨f1, f2⟩ := mayFits hmay
  have hF : Fits [t] := fits_one (by simpa [toT] using f1) fun e he => by simpa [toE] using f2 (toE e) (List.mem_map_of_mem he)
  obtain ⟨k, hk⟩ : ∃ k : Nat, (argsN n).toNat = k := ⟨_, rfl⟩
  have hk1 : 1 ≤ k ∧ k ≤ 4 ∧ argsN n = (k : Int) := by omega
  rw [hk]
  have hlen : (List.take k [0, a.a1, a.a2, a.a3]).length = k := by
    rw [List.length_take]
    simp
    omega
  have hb := Sch.may_bounds hsm
  have hw : IntKind.u32.wrap s.Words = s.Words := by
    rw [IntKind.wrap_u32]
    have h1 : 1 ≤ s.Words := hb.2.2.2.2.1
    have h2 : s.Words ≤ 4 := hb.2.2.2.2.2.1
    omega
  have x0 : (List.take k [0, a.a1, a.a2, a.a3])[0]? = some 0 := by
    rw [List.getElem?_take, if_pos (by omega)]
    rfl
  have x2 : n = 0 ∨ n = 1 → (List.take k [0, a.a1, a.a2, a.a3])[2]? = some a.a2 := fun hn => by
    have : 3 ≤ k := by
      rcases hn with rfl | rfl
      · have : argsN 0 = 3 := rfl
        omega
      · have : argsN 1 = 4 := rfl
        omega
    rw [List.getElem?_take, if_pos (by omega)]
    rfl
  obtain ⟨r, hr, hR⟩ := call_tells (n := n) (e := T_Env.mk (A4.mk 0 0 0 0) [t] 0) (a := List.take k [0, a.a1, a.a2, a.a3]) hF
  -- is the field there?
  obtain ⟨b, hb1, hb2⟩ : ∃ b, (cond (n != 0) (cond (n != 1) (some true) (some (decide ((a.a2.toNat : Int) < s.Words)))) (some (decide ((a.a2.toNat : Int) < s.Words))) : Option Bool) = some b ∧ (b = true ↔ fieldN n (List.take k [0, a.a1, a.a2, a.a3]) (toS s)) := by
    have fl : (n = 0 ∨ n = 1) → ((decide ((a.a2.toNat : Int) < s.Words)) = true ↔ fieldN n (List.take k [0, a.a1, a.a2, a.a3]) (toS s)) := fun hn => by
      rw [decide_eq_true_iff]
      constructor
      · intro h _
        exact ⟨a.a2, x2 hn, by show _ < IntKind.u32.wrap s.Words; rw [hw]; exact h⟩
      · intro h
        obtain ⟨f, e1, e2⟩ := h hn
        rw [x2 hn] at e1
        injection e1 with e1
        subst e1
        have e2' : (a.a2.toNat : Int) < IntKind.u32.wrap s.Words := e2
        rw [hw] at e2'
        exact e2'
    by_cases n0 : n = 0
    · have b0 : (n != 0) = false := by simpa using n0
      rw [b0]
      exact ⟨_, rfl, fl (.inl n0)⟩
    · have b0 : (n != 0) = true := by simpa using n0
      by_cases n1 : n = 1
      · have b1 : (n != 1) = false := by simpa using n1
        rw [b0, b1]
        exact ⟨_, rfl, fl (.inr n1)⟩
      · have b1 : (n != 1) = true := by simpa using n1
        rw [b0, b1]
        exact ⟨_, rfl, fun _ hn => by omega, fun _ => rfl⟩
  simp only [hr, po_of]
  rw [hb1]
  simp only [po_of, p_drydocklaw06_HelperFits_J16, fits_is]
  cases hR with
  | arg hq =>
    exfalso
    rw [hlen] at hq
    omega
  | draw h4 _ _ =>
    exfalso
    subst h4
    have : argsN 4 = 0 := rfl
    omega
  | fault _ _ x hx hw2 =>
    rw [x0] at hx
    injection hx with hx
    subst hx
    have hno := hw2 t rfl
    rw [hS] at hno
    have c : ((10 : Int) == 0) = false := rfl
    rcases Bool.eq_false_or_eq_true (fitsN n (toS s)) with hf | hf
    · have hbf : b = false := by
        cases b with
        | false => rfl
        | true => exact absurd ⟨hmay, hf, hb2.1 rfl⟩ hno
      rw [hf, hbf]
      rfl
    · rw [hf]
      rfl
  | act _ _ x t0 u v hx ht0 _ hf hfd _ =>
    rw [x0] at hx
    injection hx with hx
    subst hx
    have e : t0 = t := by
      injection ht0 with ht0
      exact ht0.symm
    subst e
    rw [hS] at hf hfd
    rw [hf, hb2.2 hfd]
    rfl
/-
  PROVED: the statement HelperFits of the given seat: whatever the helper, the schema and the words, drydocklaw06.HelperFits returns true, and what was handed in reads as it did.
  Conditions: none beyond the statement's own.
-/
open Go Go.ChangeShapes Go.WideShapes Go.ChangeAt Go.RowKit Go.Proofs.Try
theorem o_3 {H : Type} {enc : TypeId × Value → H} {w : World} {base : Nat} {spare : Nat → Bool} {held : Bool} {fuel : Nat} {cs : List Value} {x : DataW H × List MemPlace} (h : DataW.trod enc prog w base spare held fuel 3 cs = some x) : ∃ a : Int, DRels w (okW w) (encI64 a) cs:= oI64 underlying3 h
theorem o_23 {H : Type} {enc : TypeId × Value → H} {w : World} {base : Nat} {spare : Nat → Bool} {held : Bool} {fuel : Nat} {cs : List Value} {x : DataW H × List MemPlace} (h : DataW.trod enc prog w base spare held fuel 23 cs = some x) : ∃ a : T_Schema, DRels w (okW w) (enc_Schema a) cs := by
  obtain ⟨xs, m, _, _, hl, hxl, hg⟩ := DataW.trod_struct underlying23 h
  have hl : cs.length = 4 := hl.trans (by kernel_rfl)
  replace hxl : xs.length = 4 := hxl
  have e0 : prog.cellsOf 3 = 1 := by kernel_rfl
  have h0 : DataW.trod enc prog w base spare held m 3 ((cs.drop 0).take (prog.cellsOf 3)) = xs[0]? := hg 0 _ rfl
  simp only [e0, Nat.reduceMul] at h0
  obtain ⟨b0, r0⟩ := o_3 (h0.trans (List.getElem?_eq_getElem (by omega)))
  have e1 : prog.cellsOf 3 = 1 := by kernel_rfl
  have h1 : DataW.trod enc prog w base spare held m 3 ((cs.drop 1).take (prog.cellsOf 3)) = xs[1]? := hg 1 _ rfl
  simp only [e1, Nat.reduceMul] at h1
  obtain ⟨b1, r1⟩ := o_3 (h1.trans (List.getElem?_eq_getElem (by omega)))
  have e2 : prog.cellsOf 3 = 1 := by kernel_rfl
  have h2 : DataW.trod enc prog w base spare held m 3 ((cs.drop 2).take (prog.cellsOf 3)) = xs[2]? := hg 2 _ rfl
  simp only [e2, Nat.reduceMul] at h2
  obtain ⟨b2, r2⟩ := o_3 (h2.trans (List.getElem?_eq_getElem (by omega)))
  have e3 : prog.cellsOf 3 = 1 := by kernel_rfl
  have h3 : DataW.trod enc prog w base spare held m 3 ((cs.drop 3).take (prog.cellsOf 3)) = xs[3]? := hg 3 _ rfl
  simp only [e3, Nat.reduceMul] at h3
  obtain ⟨b3, r3⟩ := o_3 (h3.trans (List.getElem?_eq_getElem (by omega)))
  have r := (DRels.cat (DRels.cat (DRels.cat r0 r1) r2) r3)
  refine ⟨T_Schema.mk b0 b1 b2 b3, ?_⟩
  have hf := full hl
  rw [← hf]
  exact r
theorem o_25 {H : Type} {enc : TypeId × Value → H} {w : World} {base : Nat} {spare : Nat → Bool} {held : Bool} {fuel : Nat} {cs : List Value} {x : DataW H × List MemPlace} (h : DataW.trod enc prog w base spare held fuel 25 cs = some x) : ∃ a : UInt32, DRels w (okW w) (encU32 a) cs:= oU32 underlying25 h
theorem o_47 {H : Type} {enc : TypeId × Value → H} {w : World} {base : Nat} {spare : Nat → Bool} {held : Bool} {fuel : Nat} {cs : List Value} {x : DataW H × List MemPlace} (h : DataW.trod enc prog w base spare held fuel 47 cs = some x) : ∃ a : (A4 UInt32), DRels w (okW w) ((encA4 encU32) a) cs := by
  obtain ⟨xs, m, _, _, hl, hxl, hg⟩ := DataW.trod_array underlying47 h
  have hl : cs.length = 4 := hl.trans (by kernel_rfl)
  replace hxl : xs.length = 4 := hxl
  have e0 : prog.cellsOf 25 = 1 := by kernel_rfl
  have h0 := hg 0 (by decide)
  simp only [e0, Nat.reduceMul] at h0
  obtain ⟨b0, r0⟩ := o_25 (h0.trans (List.getElem?_eq_getElem (by omega)))
  have e1 : prog.cellsOf 25 = 1 := by kernel_rfl
  have h1 := hg 1 (by decide)
  simp only [e1, Nat.reduceMul] at h1
  obtain ⟨b1, r1⟩ := o_25 (h1.trans (List.getElem?_eq_getElem (by omega)))
  have e2 : prog.cellsOf 25 = 1 := by kernel_rfl
  have h2 := hg 2 (by decide)
  simp only [e2, Nat.reduceMul] at h2
  obtain ⟨b2, r2⟩ := o_25 (h2.trans (List.getElem?_eq_getElem (by omega)))
  have e3 : prog.cellsOf 25 = 1 := by kernel_rfl
  have h3 := hg 3 (by decide)
  simp only [e3, Nat.reduceMul] at h3
  obtain ⟨b3, r3⟩ := o_25 (h3.trans (List.getElem?_eq_getElem (by omega)))
  have r := (DRels.cat (DRels.cat (DRels.cat r0 r1) r2) r3)
  refine ⟨A4.mk b0 b1 b2 b3, ?_⟩
  have hf := full hl
  rw [← hf]
  exact r
theorem helperFitsOwn : ownKnob Try.prog.godebug = none := by kernel_rfl
theorem helperFitsLaid : laidOutB Try.prog = true := by kernel_rfl
set_option maxRecDepth 100000 in
theorem helperFits_lifted (os : Os) (started : os.Started) (H : Type) (enc : TypeId × Value → H) :
    ReturnsInHanded {} Try.checked os 7 .any (Rows.helperFitsSpec.pre6 enc Try.prog Try.f7 Rows.helperFitsRow.domain false) (Rows.helperFitsSpec.post enc Try.prog Try.f7 false true false false) := by
  refine returnsInHanded_of_change (C := Try.checked) helperFitsOwn started (by kernel_rfl) Try.func7
    (ChangeSpec.witness6 (enc := enc) (C := Try.checked) false ⟨#[], #[.int .i64 0, .agg #[.int .i64 0, .int .i64 0, .int .i64 0, .int .i64 0], .agg #[.int .u32 0, .int .u32 0, .int .u32 0, .int .u32 0]], []⟩ 8 (by kernel_rfl) (by kernel_rfl) (by kernel_rfl) (by kernel_rfl)) ?_
  intro W base args ds gs before hval0 hW _ _
  have hval : ∀ (j : Nat) t v, Try.f7.params[j]? = some t → args[j]? = some v → Value.okWide Try.prog W .any base t v := hval0
  have hW' := hW
  obtain ⟨p, q, hA0, hV, rfl, hfz, hnd⟩ := hW
  have hA : DataW.TrodAll enc Try.prog W 0 (fun _ => true) true Try.f7.params.toList args.toList ds p := hA0
  rw [Try.params7] at hA hval
  obtain ⟨l⟩ := args
  obtain ⟨v0, l0, d0, ds0, p0, q0, rfl, rfl, _, h0, hA1⟩ := trodAll_cons hA
  obtain ⟨v1, l1, d1, ds1, p1, q1, rfl, rfl, _, h1, hA2⟩ := trodAll_cons hA1
  obtain ⟨v2, l2, d2, ds2, p2, q2, rfl, rfl, _, h2, hA3⟩ := trodAll_cons hA2
  obtain ⟨rfl, rfl, _⟩ := trodAll_nil hA3
  obtain ⟨rfl, rfl⟩ := trodVars_none hV
  obtain ⟨z0, rfl⟩ := okWide_int underlying3 (hval 0 _ v0 rfl rfl)
  obtain ⟨fuel0, hf0⟩ := h0
  obtain ⟨a0, r0⟩ := o_3 hf0
  obtain ⟨cs1, rfl, _⟩ := okWide_struct underlying23 (hval 1 _ v1 rfl rfl)
  obtain ⟨fuel1, hf1⟩ := h1
  obtain ⟨a1, r1⟩ := o_23 hf1
  obtain ⟨cs2, rfl⟩ := okWide_arr underlying47 (hval 2 _ v2 rfl rfl)
  obtain ⟨fuel2, hf2⟩ := h2
  obtain ⟨a2, r2⟩ := o_47 hf2
  refine (Ctr.law (c_drydocklaw06_HelperFits a0 a1 a2 (fits_true a0 a1 a2)) rfl (VRels.of1 (.cons (arg_one r0) (.cons (arg_agg r1) (.cons (arg_agg r2) (.nil)))))).mono fun e W' ⟨he, hw⟩ => ?_
  subst he
  exact ⟨_, rfl, post_law helperFitsLaid hW' rfl rfl (by kernel_rfl) rfl rfl rfl hw⟩
theorem helperFits_holds : Rows.HelperFitsSaid :=
  OpenClaim.holds_of_wide 7 Try.f7 rfl rfl rfl rfl rfl rfl rfl ⟨rfl, rfl, rfl, rfl, rfl⟩ rfl rfl rfl rfl rfl (by kernel_rfl) Try.func7 (by kernel_rfl)
    (of_decide_eq_true (by kernel_rfl)) (by unfold Func.isWrapper; first | (rw [if_pos (by decide +kernel)]; kernel_rfl) | (rw [if_neg (by decide +kernel)]; exact ⟨rfl, rfl⟩))
    (fun os started H enc _ => helperFits_lifted os started H enc)
end Go.Proofs.Ytkhanhhingicpaa
