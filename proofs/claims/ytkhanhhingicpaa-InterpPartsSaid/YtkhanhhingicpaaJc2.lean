/- Packed texts: Zinterpframehelp, Zinterpframecall, Zinterpframeexit, I2, Zinterprunframe, I3, I4, ZinterpCall, ZinterpRun, Zdrydocklaw07awake, Zdrydockref03Few, Zdrydocklaw07few. -/
import Derived.Test.YtkhanhhingicpaaJc1
set_option linter.unusedVariables false
set_option linter.unusedSimpArgs false
set_option maxHeartbeats 4000000
set_option maxRecDepth 100000
namespace Go.Proofs.Ytkhanhhingicpaa
open Go Go.RowKit Go.Proofs.Try
noncomputable def p_interp_frame_help (a0 : T_interp_frame) (a0_r : T_interp_run) (a1 : T_Inst) : Option (T_interp_frame × T_interp_run) :=
  po (p_helper_Args (a1.Imm.toNat : Int)) fun r1 =>
  cond (decide (r1 < 0)) (
  po (p_interp_run_fail a0_r 10) fun r3 =>
  some (a0, r3)) (
  po (p_interp_frame_handed a0 a0_r r1) fun r4 =>
  cond (r4.2.2.err != 0) (
  some (r4.2.1, r4.2.2)) (
  po (p_helper_Call (a1.Imm.toNat : Int) r4.2.2.e r4.1) fun r6 =>
  cond (r6.2.2 != 0) (
  po (p_interp_run_fail r4.2.2 10) fun r8 =>
  some (r4.2.1, r8)) (
  po (p_interp_frame_back r4.2.1 (T_interp_run.mk r4.2.2.p r6.1 r4.2.2.fuel r4.2.2.used r4.2.2.err) r6.2.1) fun r9 =>
  some (r9.1, r9.2))))
theorem c_interp_frame_help (a0 : T_interp_frame) (a0_r : T_interp_run) (a1 : T_Inst) {r : T_interp_frame × T_interp_run} (h : p_interp_frame_help a0 a0_r a1 = some r) : Ctr prog 94 [.ref 0 0, .agg (enc_Inst a1)] [(0, .box 124 (enc_interp_frame a0 (.ref 1 0))), (1, .box 109 (enc_interp_run a0_r))] (.tup []) [(0, .box 124 (enc_interp_frame r.1 (.ref 1 0))), (1, .box 109 (enc_interp_run r.2))] := by
 unfold p_interp_frame_help at h;refine Ctr.ofW tabOk func94 rfl call94 2 _ ntmps94 [] rfl rfl rfl (fun B => ?_);refine VC.seqF tabOkF [some 3] [0,3] rfl rfl (fun K hK => ?_);push_cast;(repeat refine .intro (by omega) ?_);refine hK _ ?_;clear hK K;obtain ⟨r1,hr1,h⟩ := po_some h;refine VC.seqF tabOkF [some 9,some 10,some 11,some 12,some 4] [0,3,4] rfl rfl (fun K hK => ?_);push_cast;(repeat refine .intro (by omega) ?_);refine callP (Ctr.lo (c_helper_Args (a1.Imm.toNat : Int) hr1)) rfl ?_;push_cast;(repeat refine .intro (by omega) ?_);refine hK _ ?_;clear hK K;refine VC.seq ?_;refine VC.seqF tabOkF [some 13,some 14] [0,3,4,14] rfl rfl (fun K hK => ?_);push_cast;(repeat refine .intro (by omega) ?_);refine hK _ ?_;clear hK K;refine VC.cond rfl rfl (fun hc2 => ?_) (fun hc2 => ?_)
 ·have hb2 : (decide (r1 < 0)) = true := by simpa using hc2
  replace h := cond_yes hb2 h;obtain ⟨r3,hr3,h⟩ := po_some h;refine VC.seqF tabOkF [some 15,some 16,some 17,some 18,some 19] [] rfl rfl (fun K hK => ?_);push_cast [hb2];(repeat refine .intro (by omega) ?_);refine callH (H := [(1,.box 109 [.sl false (a0_r.p.Fns.map enc_Fn),.raw (.int .u32 (a0_r.e.Ctx.a0.toNat : Int)),.raw (.int .u32 (a0_r.e.Ctx.a1.toNat : Int)),.raw (.int .u32 (a0_r.e.Ctx.a2.toNat : Int)),.raw (.int .u32 (a0_r.e.Ctx.a3.toNat : Int)),.sl false (a0_r.e.T.map enc_Table),.raw (.int .u32 (a0_r.e.Seed.toNat : Int)),.raw (.int .i64 a0_r.fuel),.raw (.int .i64 a0_r.used),.raw (.int .i64 a0_r.err)])]) (Ctr.loH (Ctr.ren (Bij.swp 0 1 Bij.id) (c_interp_run_fail a0_r 10 hr3) (by push_cast [hb2]) (by push_cast [hb2]))) (by push_cast [hb2]) rfl rfl rfl ?_;push_cast [hb2];(repeat refine .intro (by omega) ?_);refine hK _ ?_;clear hK K;refine VC.sub (s' := ⟨[],[(0,.box 124 (enc_interp_frame a0 (.ref 1 0))),(1,.box 109 [.sl false (r3.p.Fns.map enc_Fn),.raw (.int .u32 (r3.e.Ctx.a0.toNat : Int)),.raw (.int .u32 (r3.e.Ctx.a1.toNat : Int)),.raw (.int .u32 (r3.e.Ctx.a2.toNat : Int)),.raw (.int .u32 (r3.e.Ctx.a3.toNat : Int)),.sl false (r3.e.T.map enc_Table),.raw (.int .u32 (r3.e.Seed.toNat : Int)),.raw (.int .i64 r3.fuel),.raw (.int .i64 r3.used),.raw (.int .i64 r3.err)])],15,64,2⟩) (sof ?_ ?_ rfl rfl) ?_
  ·push_cast [hb2]
  ·push_cast [hb2]
  refine VC.ret ?_;have hr := Option.some.inj h;subst hr;refine endP (Sub.lo _) (Post.ret ?_ ?_ ?_)
  ·push_cast [hb2]
  ·push_cast [hb2]
  ·rfl
 ·have hb2 : (decide (r1 < 0)) = false := by simpa using hc2
  replace h := cond_no hb2 h;refine VC.skip ?_;obtain ⟨r4,hr4,h⟩ := po_some h;refine VC.seqF tabOkF [some 20,some 21,some 22,some 5] [0,3,5] rfl rfl (fun K hK => ?_);push_cast [hb2];(repeat refine .intro (by omega) ?_);refine callH (H := [(0,.box 124 (enc_interp_frame a0 (.ref 1 0))),(1,.box 109 [.sl false (a0_r.p.Fns.map enc_Fn),.raw (.int .u32 (a0_r.e.Ctx.a0.toNat : Int)),.raw (.int .u32 (a0_r.e.Ctx.a1.toNat : Int)),.raw (.int .u32 (a0_r.e.Ctx.a2.toNat : Int)),.raw (.int .u32 (a0_r.e.Ctx.a3.toNat : Int)),.sl false (a0_r.e.T.map enc_Table),.raw (.int .u32 (a0_r.e.Seed.toNat : Int)),.raw (.int .i64 a0_r.fuel),.raw (.int .i64 a0_r.used),.raw (.int .i64 a0_r.err)])]) (Ctr.loH (Ctr.ren (Bij.swp 2 12 Bij.id) (c_interp_frame_handed a0 a0_r r1 hr4) (by push_cast [hb2]) (by push_cast [hb2]))) (by push_cast [hb2]) rfl rfl rfl ?_;push_cast [hb2];(repeat refine .intro (by omega) ?_);refine hK _ ?_;clear hK K;refine VC.sub (s' := ⟨[(0,.ref 0 0),(3,.ref 2 0),(5,.row 12 0 1 0 r4.1.length)],[(0,.box 124 (enc_interp_frame r4.2.1 (.ref 1 0))),(1,.box 109 [.sl false (r4.2.2.p.Fns.map enc_Fn),.raw (.int .u32 (r4.2.2.e.Ctx.a0.toNat : Int)),.raw (.int .u32 (r4.2.2.e.Ctx.a1.toNat : Int)),.raw (.int .u32 (r4.2.2.e.Ctx.a2.toNat : Int)),.raw (.int .u32 (r4.2.2.e.Ctx.a3.toNat : Int)),.sl false (r4.2.2.e.T.map enc_Table),.raw (.int .u32 (r4.2.2.e.Seed.toNat : Int)),.raw (.int .i64 r4.2.2.fuel),.raw (.int .i64 r4.2.2.used),.raw (.int .i64 r4.2.2.err)]),(2,.box 76 [.raw (.int .i64 a1.Op),.raw (.int .i64 a1.Fn),.raw (.int .i64 a1.Dst),.raw (.int .i64 a1.Src),.raw (.bool a1.Reg),.raw (.int .i64 a1.Off),.raw (.int .u32 (a1.Imm.toNat : Int))]),(12,.row 25 1 0 (r4.1.map encU32))],14,64,2⟩) (sof ?_ ?_ rfl rfl) ?_
  ·push_cast [hb2]
  ·push_cast [hb2]
  refine VC.seq ?_;refine VC.seqF tabOkF [some 23,some 24,some 25,some 26,some 27,some 28,some 29,some 30] [0,3,5,30] rfl rfl (fun K hK => ?_);push_cast [hb2];(repeat refine .intro (by omega) ?_);refine hK _ ?_;clear hK K;refine VC.cond rfl rfl (fun hc5 => ?_) (fun hc5 => ?_)
  ·have hb5 : (r4.2.2.err != 0) = true := by simpa using hc5
   replace h := cond_yes hb5 h;refine VC.ret ?_;have hr := Option.some.inj h;subst hr;refine endP (Sub.lo _) (Post.ret ?_ ?_ ?_)
   ·push_cast [hb2,hb5]
   ·push_cast [hb2,hb5]
   ·rfl
  ·have hb5 : (r4.2.2.err != 0) = false := by simpa using hc5
   replace h := cond_no hb5 h;refine VC.skip ?_;refine VC.sub (Sub.freezeT prog (k := 5) rfl rfl (by push_cast [hb2,hb5] <;> omega) (by decide)) ?_;refine VC.sub (s' := ⟨[(0,.ref 0 0),(3,.ref 2 0),(5,.sl false (r4.1.map encU32))],[(0,.box 124 (enc_interp_frame r4.2.1 (.ref 1 0))),(1,.box 109 [.sl false (r4.2.2.p.Fns.map enc_Fn),.raw (.int .u32 (r4.2.2.e.Ctx.a0.toNat : Int)),.raw (.int .u32 (r4.2.2.e.Ctx.a1.toNat : Int)),.raw (.int .u32 (r4.2.2.e.Ctx.a2.toNat : Int)),.raw (.int .u32 (r4.2.2.e.Ctx.a3.toNat : Int)),.sl false (r4.2.2.e.T.map enc_Table),.raw (.int .u32 (r4.2.2.e.Seed.toNat : Int)),.raw (.int .i64 r4.2.2.fuel),.raw (.int .i64 r4.2.2.used),.raw (.int .i64 r4.2.2.err)]),(2,.box 76 [.raw (.int .i64 a1.Op),.raw (.int .i64 a1.Fn),.raw (.int .i64 a1.Dst),.raw (.int .i64 a1.Src),.raw (.bool a1.Reg),.raw (.int .i64 a1.Off),.raw (.int .u32 (a1.Imm.toNat : Int))])],22,64,2⟩) (sof ?_ ?_ rfl rfl) ?_
   ·push_cast [hb2,hb5]
   ·push_cast [hb2,hb5]
   obtain ⟨r6,hr6,h⟩ := po_some h;refine VC.seqFD tabOkF hmixO [some 32,some 33,some 34,some 35,some 36,some 37,some 38,some 39,some 40,some 41,some 42,some 43,some 31,some 44,some 45,some 46,some 6,none,some 7,some 8] [0,6,7,8] rfl rfl rfl (fun K hK => ?_);refine runD_cut 8 (fun K2 hK2 => ?_);push_cast [hb2,hb5];(repeat refine .intro (by omega) ?_);refine hK2 _ _ _ ?_;clear hK2 K2;simp only [List.drop_succ_cons,List.drop_zero];refine runD_cut 8 (fun K2 hK2 => ?_);push_cast [hb2,hb5];(repeat refine .intro (by omega) ?_);refine callHD (H := []) (Ctr.loH (Ctr.ren (Bij.swp 0 33 Bij.id) (c_helper_Call (a1.Imm.toNat : Int) r4.2.2.e r4.1 hr6) (by push_cast [hb2,hb5]) (by push_cast [hb2,hb5]))) (by push_cast [hb2,hb5]) rfl rfl rfl ?_;push_cast [hb2,hb5];(repeat refine .intro (by omega) ?_);refine hK2 _ _ _ ?_;clear hK2 K2;simp only [List.drop_succ_cons,List.drop_zero];push_cast [hb2,hb5];(repeat refine .intro (by omega) ?_);refine ⟨rfl,hK _ ?_⟩;clear hK K;refine VC.sub (s' := ⟨[(0,.ref 0 0),(6,.ref 38 0),(7,.raw (.int .u32 (r6.2.1.toNat : Int))),(8,.raw (.int .i64 r6.2.2))],[(0,.box 124 (enc_interp_frame r4.2.1 (.ref 1 0))),(1,.box 109 [.sl false (r4.2.2.p.Fns.map enc_Fn),.raw (.int .u32 (r4.2.2.e.Ctx.a0.toNat : Int)),.raw (.int .u32 (r4.2.2.e.Ctx.a1.toNat : Int)),.raw (.int .u32 (r4.2.2.e.Ctx.a2.toNat : Int)),.raw (.int .u32 (r4.2.2.e.Ctx.a3.toNat : Int)),.sl false (r4.2.2.e.T.map enc_Table),.raw (.int .u32 (r4.2.2.e.Seed.toNat : Int)),.raw (.int .i64 r4.2.2.fuel),.raw (.int .i64 r4.2.2.used),.raw (.int .i64 r4.2.2.err)]),(33,.row 27 6 0 (r6.1.T.map enc_Table)),(38,.box 49 [.raw (.int .u32 (r6.1.Ctx.a0.toNat : Int)),.raw (.int .u32 (r6.1.Ctx.a1.toNat : Int)),.raw (.int .u32 (r6.1.Ctx.a2.toNat : Int)),.raw (.int .u32 (r6.1.Ctx.a3.toNat : Int)),.row 33 0 6 0 r6.1.T.length,.raw (.int .u32 (r6.1.Seed.toNat : Int))])],42,64,2⟩) (sof ?_ ?_ rfl rfl) ?_
   ·push_cast [hb2,hb5]
   ·push_cast [hb2,hb5]
   refine VC.seq ?_;refine VC.seqF tabOkF [some 47,some 48] [0,6,7,48] rfl rfl (fun K hK => ?_);push_cast [hb2,hb5];(repeat refine .intro (by omega) ?_);refine hK _ ?_;clear hK K;refine VC.cond rfl rfl (fun hc7 => ?_) (fun hc7 => ?_)
   ·have hb7 : (r6.2.2 != 0) = true := by simpa using hc7
    replace h := cond_yes hb7 h;obtain ⟨r8,hr8,h⟩ := po_some h;refine VC.seqF tabOkF [some 49,some 50,some 51,some 52,some 53] [] rfl rfl (fun K hK => ?_);push_cast [hb2,hb5,hb7];(repeat refine .intro (by omega) ?_);refine callH (H := [(1,.box 109 [.sl false (r4.2.2.p.Fns.map enc_Fn),.raw (.int .u32 (r4.2.2.e.Ctx.a0.toNat : Int)),.raw (.int .u32 (r4.2.2.e.Ctx.a1.toNat : Int)),.raw (.int .u32 (r4.2.2.e.Ctx.a2.toNat : Int)),.raw (.int .u32 (r4.2.2.e.Ctx.a3.toNat : Int)),.sl false (r4.2.2.e.T.map enc_Table),.raw (.int .u32 (r4.2.2.e.Seed.toNat : Int)),.raw (.int .i64 r4.2.2.fuel),.raw (.int .i64 r4.2.2.used),.raw (.int .i64 r4.2.2.err)])]) (Ctr.loH (Ctr.ren (Bij.swp 0 1 Bij.id) (c_interp_run_fail r4.2.2 10 hr8) (by push_cast [hb2,hb5,hb7]) (by push_cast [hb2,hb5,hb7]))) (by push_cast [hb2,hb5,hb7]) rfl rfl rfl ?_;push_cast [hb2,hb5,hb7];(repeat refine .intro (by omega) ?_);refine hK _ ?_;clear hK K;refine VC.sub (s' := ⟨[],[(0,.box 124 (enc_interp_frame r4.2.1 (.ref 1 0))),(1,.box 109 [.sl false (r8.p.Fns.map enc_Fn),.raw (.int .u32 (r8.e.Ctx.a0.toNat : Int)),.raw (.int .u32 (r8.e.Ctx.a1.toNat : Int)),.raw (.int .u32 (r8.e.Ctx.a2.toNat : Int)),.raw (.int .u32 (r8.e.Ctx.a3.toNat : Int)),.sl false (r8.e.T.map enc_Table),.raw (.int .u32 (r8.e.Seed.toNat : Int)),.raw (.int .i64 r8.fuel),.raw (.int .i64 r8.used),.raw (.int .i64 r8.err)])],49,64,2⟩) (sof ?_ ?_ rfl rfl) ?_
    ·push_cast [hb2,hb5,hb7]
    ·push_cast [hb2,hb5,hb7]
    refine VC.ret ?_;have hr := Option.some.inj h;subst hr;refine endP (Sub.lo _) (Post.ret ?_ ?_ ?_)
    ·push_cast [hb2,hb5,hb7]
    ·push_cast [hb2,hb5,hb7]
    ·rfl
   ·have hb7 : (r6.2.2 != 0) = false := by simpa using hc7
    replace h := cond_no hb7 h;refine VC.skip ?_;refine VC.seqFD tabOkF hmixO [some 54,some 55,some 56,some 57,some 58,some 59,some 60,none] [0,7] rfl rfl rfl (fun K hK => ?_);push_cast [hb2,hb5,hb7];(repeat refine .intro (by omega) ?_);refine ⟨rfl,hK _ ?_⟩;clear hK K;refine VC.sub (Sub.freeze prog (b := 1) (j := 5) rfl rfl rfl (by push_cast [hb2,hb5,hb7] <;> omega) (by decide)) ?_;refine VC.sub (s' := ⟨[(0,.ref 0 0),(7,.raw (.int .u32 (r6.2.1.toNat : Int)))],[(0,.box 124 (enc_interp_frame r4.2.1 (.ref 1 0))),(1,.box 109 [.sl false (r4.2.2.p.Fns.map enc_Fn),.raw (.int .u32 (r6.1.Ctx.a0.toNat : Int)),.raw (.int .u32 (r6.1.Ctx.a1.toNat : Int)),.raw (.int .u32 (r6.1.Ctx.a2.toNat : Int)),.raw (.int .u32 (r6.1.Ctx.a3.toNat : Int)),.sl false (r6.1.T.map enc_Table),.raw (.int .u32 (r6.1.Seed.toNat : Int)),.raw (.int .i64 r4.2.2.fuel),.raw (.int .i64 r4.2.2.used),.raw (.int .i64 r4.2.2.err)])],52,64,2⟩) (sof ?_ ?_ rfl rfl) ?_
    ·push_cast [hb2,hb5,hb7]
    ·push_cast [hb2,hb5,hb7]
    obtain ⟨r9,hr9,h⟩ := po_some h;refine VC.lastF tabOkF [some 61,some 62,some 63] rfl rfl (fun K hK => ?_);push_cast [hb2,hb5,hb7];(repeat refine .intro (by omega) ?_);refine callH (H := [(0,.box 124 (enc_interp_frame r4.2.1 (.ref 1 0))),(1,.box 109 [.sl false (r4.2.2.p.Fns.map enc_Fn),.raw (.int .u32 (r6.1.Ctx.a0.toNat : Int)),.raw (.int .u32 (r6.1.Ctx.a1.toNat : Int)),.raw (.int .u32 (r6.1.Ctx.a2.toNat : Int)),.raw (.int .u32 (r6.1.Ctx.a3.toNat : Int)),.sl false (r6.1.T.map enc_Table),.raw (.int .u32 (r6.1.Seed.toNat : Int)),.raw (.int .i64 r4.2.2.fuel),.raw (.int .i64 r4.2.2.used),.raw (.int .i64 r4.2.2.err)])]) (Ctr.loH (Ctr.ren Bij.id (c_interp_frame_back r4.2.1 (T_interp_run.mk r4.2.2.p r6.1 r4.2.2.fuel r4.2.2.used r4.2.2.err) r6.2.1 hr9) (by push_cast [hb2,hb5,hb7]) (by push_cast [hb2,hb5,hb7]))) (by push_cast [hb2,hb5,hb7]) rfl rfl rfl ?_;push_cast [hb2,hb5,hb7];(repeat refine .intro (by omega) ?_);refine hK _ ?_;clear hK K;have hr := Option.some.inj h;subst hr;refine endP (Sub.lo _) (Post.nrm ?_ ?_ ?_)
    ·push_cast [hb2,hb5,hb7]
    ·push_cast [hb2,hb5,hb7]
    ·rfl
noncomputable def p_interp_frame_call_J1 (pf : T_interp_run → Int → (List UInt32) → Option (UInt32 × T_interp_run)) (a0 : T_interp_frame) (a0_r : T_interp_run) (a1 : T_Inst) (i_1 : Bool) : Option (T_interp_frame × T_interp_run) :=
  cond i_1 (
  po (p_interp_run_fail a0_r 10) fun r4 =>
  some (a0, r4)) (
  po (a0_r.p.Fns[a1.Imm.toNat]?) fun x5 =>
  po (p_interp_frame_handed a0 a0_r x5.Args) fun r6 =>
  cond (r6.2.2.err != 0) (
  some (r6.2.1, r6.2.2)) (
  po (pf r6.2.2 (a1.Imm.toNat : Int) r6.1) fun r8 =>
  po (p_interp_frame_back r6.2.1 r8.2 r8.1) fun r9 =>
  some (r9.1, r9.2)))
noncomputable def p_interp_frame_call (pf : T_interp_run → Int → (List UInt32) → Option (UInt32 × T_interp_run)) (a0 : T_interp_frame) (a0_r : T_interp_run) (a1 : T_Inst) : Option (T_interp_frame × T_interp_run) :=
  po (
  cond (decide ((IntKind.u64.wrap (a1.Imm.toNat : Int)) ≥ (IntKind.u64.wrap (a0_r.p.Fns.length : Int)))) (
  some true) (
  some (decide ((a1.Imm.toNat : Int) ≤ a0.fn)))) (fun x => p_interp_frame_call_J1 pf a0 a0_r a1 x)
theorem c_interp_frame_call (pf : T_interp_run → Int → (List UInt32) → Option (UInt32 × T_interp_run)) (hpf : ∀ (a0 : T_interp_run) (a1 : Int) (a2 : (List UInt32)) {r : UInt32 × T_interp_run} (h : pf a0 a1 a2 = some r), Ctr prog 79 [.ref 0 0, .raw (.int .i64 a1), .sl false (a2.map encU32)] [(0, .box 109 (enc_interp_run a0))] (.raw (.int .u32 (r.1.toNat : Int))) [(0, .box 109 (enc_interp_run r.2))]) (a0 : T_interp_frame) (a0_r : T_interp_run) (a1 : T_Inst) {r : T_interp_frame × T_interp_run} (h : p_interp_frame_call pf a0 a0_r a1 = some r) : Ctr prog 95 [.ref 0 0, .agg (enc_Inst a1)] [(0, .box 124 (enc_interp_frame a0 (.ref 1 0))), (1, .box 109 (enc_interp_run a0_r))] (.tup []) [(0, .box 124 (enc_interp_frame r.1 (.ref 1 0))), (1, .box 109 (enc_interp_run r.2))] := by
 unfold p_interp_frame_call at h;refine Ctr.ofW tabOk func95 rfl call95 2 _ ntmps95 [] rfl rfl rfl (fun B => ?_);refine VC.seqF tabOkF [some 3] [0,3] rfl rfl (fun K hK => ?_);push_cast;(repeat refine .intro (by omega) ?_);refine hK _ ?_;clear hK K;refine VC.seq ?_;obtain ⟨v1,h,hk1⟩ := po_some h;refine VC.seqJ (X := Bool) (fun x => p_interp_frame_call_J1 pf a0 a0_r a1 x = some r) (fun x => ⟨[(0,.ref 0 0),(3,.ref 2 0),(28,.raw (.bool x))],[(0,.box 124 (enc_interp_frame a0 (.ref 1 0))),(1,.box 109 [.sl false (a0_r.p.Fns.map enc_Fn),.raw (.int .u32 (a0_r.e.Ctx.a0.toNat : Int)),.raw (.int .u32 (a0_r.e.Ctx.a1.toNat : Int)),.raw (.int .u32 (a0_r.e.Ctx.a2.toNat : Int)),.raw (.int .u32 (a0_r.e.Ctx.a3.toNat : Int)),.sl false (a0_r.e.T.map enc_Table),.raw (.int .u32 (a0_r.e.Seed.toNat : Int)),.raw (.int .i64 a0_r.fuel),.raw (.int .i64 a0_r.used),.raw (.int .i64 a0_r.err)]),(2,.box 76 [.raw (.int .i64 a1.Op),.raw (.int .i64 a1.Fn),.raw (.int .i64 a1.Dst),.raw (.int .i64 a1.Src),.raw (.bool a1.Reg),.raw (.int .i64 a1.Off),.raw (.int .u32 (a1.Imm.toNat : Int))])],27,68,2⟩) ?_ ?_
 ·rcases Bool.eq_false_or_eq_true (decide ((IntKind.u64.wrap (a1.Imm.toNat : Int)) ≥ (IntKind.u64.wrap (a0_r.p.Fns.length : Int)))) with hb2 | hb2
  ·replace h := cond_yes hb2 h;refine VC.lastFD tabOkF hmixO [some 5,some 6,some 7,some 8,some 9,some 10,some 11,some 12,some 13,some 14,some 15,some 16,some 17,some 18,some 19,some 20,some 21,some 22,some 23,some 24,some 25,some 26,some 27,some 28] rfl rfl rfl (fun K hK => ?_);refine runD_cut 8 (fun K2 hK2 => ?_);push_cast [hb2];(repeat refine .intro (by omega) ?_);refine hK2 _ _ _ ?_;clear hK2 K2;simp only [List.drop_succ_cons,List.drop_zero];refine runD_cut 8 (fun K2 hK2 => ?_);push_cast [hb2];(repeat refine .intro (by omega) ?_);refine hK2 _ _ _ ?_;clear hK2 K2;simp only [List.drop_succ_cons,List.drop_zero];push_cast [hb2];(repeat refine .intro (by omega) ?_);refine ⟨rfl,hK _ ?_⟩;clear hK K;have hv := Option.some.inj h;rw [← hv] at hk1;refine Exists.intro (true) (And.intro hk1 ?_);refine slo ?_ ?_ rfl rfl
   ·push_cast [hb2]
   ·push_cast [hb2]
  ·replace h := cond_no hb2 h;refine VC.lastFD tabOkF hmixO [some 5,some 6,some 7,some 8,some 9,some 10,some 11,some 12,some 13,some 14,some 15,some 16,some 17,some 18,some 19,some 20,some 21,some 22,some 23,some 24,some 25,some 26,some 27,some 28] rfl rfl rfl (fun K hK => ?_);refine runD_cut 8 (fun K2 hK2 => ?_);push_cast [hb2];(repeat refine .intro (by omega) ?_);refine hK2 _ _ _ ?_;clear hK2 K2;simp only [List.drop_succ_cons,List.drop_zero];refine runD_cut 8 (fun K2 hK2 => ?_);push_cast [hb2];(repeat refine .intro (by omega) ?_);refine hK2 _ _ _ ?_;clear hK2 K2;simp only [List.drop_succ_cons,List.drop_zero];push_cast [hb2];(repeat refine .intro (by omega) ?_);refine ⟨rfl,hK _ ?_⟩;clear hK K;have hv := Option.some.inj h;rw [← hv] at hk1;refine Exists.intro ((decide ((a1.Imm.toNat : Int) ≤ a0.fn))) (And.intro hk1 ?_);refine slo ?_ ?_ rfl rfl
   ·push_cast [hb2]
   ·push_cast [hb2]
 ·rintro i_1 h;replace h : p_interp_frame_call_J1 pf a0 a0_r a1 i_1 = some r := h;(try push_cast);unfold p_interp_frame_call_J1 at h;refine VC.cond rfl rfl (fun hc3 => ?_) (fun hc3 => ?_)
  ·have hb3 : i_1 = true := by simpa using hc3
   replace h := cond_yes hb3 h;obtain ⟨r4,hr4,h⟩ := po_some h;refine VC.seqF tabOkF [some 29,some 30,some 31,some 32,some 33] [] rfl rfl (fun K hK => ?_);push_cast [hb3];(repeat refine .intro (by omega) ?_);refine callH (H := [(1,.box 109 [.sl false (a0_r.p.Fns.map enc_Fn),.raw (.int .u32 (a0_r.e.Ctx.a0.toNat : Int)),.raw (.int .u32 (a0_r.e.Ctx.a1.toNat : Int)),.raw (.int .u32 (a0_r.e.Ctx.a2.toNat : Int)),.raw (.int .u32 (a0_r.e.Ctx.a3.toNat : Int)),.sl false (a0_r.e.T.map enc_Table),.raw (.int .u32 (a0_r.e.Seed.toNat : Int)),.raw (.int .i64 a0_r.fuel),.raw (.int .i64 a0_r.used),.raw (.int .i64 a0_r.err)])]) (Ctr.loH (Ctr.ren (Bij.swp 0 1 Bij.id) (c_interp_run_fail a0_r 10 hr4) (by push_cast [hb3]) (by push_cast [hb3]))) (by push_cast [hb3]) rfl rfl rfl ?_;push_cast [hb3];(repeat refine .intro (by omega) ?_);refine hK _ ?_;clear hK K;refine VC.sub (s' := ⟨[],[(0,.box 124 (enc_interp_frame a0 (.ref 1 0))),(1,.box 109 [.sl false (r4.p.Fns.map enc_Fn),.raw (.int .u32 (r4.e.Ctx.a0.toNat : Int)),.raw (.int .u32 (r4.e.Ctx.a1.toNat : Int)),.raw (.int .u32 (r4.e.Ctx.a2.toNat : Int)),.raw (.int .u32 (r4.e.Ctx.a3.toNat : Int)),.sl false (r4.e.T.map enc_Table),.raw (.int .u32 (r4.e.Seed.toNat : Int)),.raw (.int .i64 r4.fuel),.raw (.int .i64 r4.used),.raw (.int .i64 r4.err)])],32,68,2⟩) (sof ?_ ?_ rfl rfl) ?_
   ·push_cast [hb3]
   ·push_cast [hb3]
   refine VC.ret ?_;have hr := Option.some.inj h;subst hr;refine endP (Sub.lo _) (Post.ret ?_ ?_ ?_)
   ·push_cast [hb3]
   ·push_cast [hb3]
   ·rfl
  ·have hb3 : i_1 = false := by simpa using hc3
   replace h := cond_no hb3 h;refine VC.skip ?_;obtain ⟨x5,hx5,h⟩ := po_some h;have hx52 := get_lt hx5;obtain ⟨r6,hr6,h⟩ := po_some h;refine VC.seqFD tabOkF hmixO [some 34,some 35,some 36,some 37,some 38,some 39,some 40,some 41,some 42,some 43,some 44,some 45,some 46,some 47,some 48,some 4] [0,3,4] rfl rfl rfl (fun K hK => ?_);refine runD_cut 8 (fun K2 hK2 => ?_);push_cast [hb3,hx5,hx52];(repeat refine .intro (by omega) ?_);refine hK2 _ _ _ ?_;clear hK2 K2;simp only [List.drop_succ_cons,List.drop_zero];push_cast [hb3,hx5,hx52];(repeat refine .intro (by omega) ?_);refine callHD (H := [(0,.box 124 (enc_interp_frame a0 (.ref 1 0))),(1,.box 109 [.sl false (a0_r.p.Fns.map enc_Fn),.raw (.int .u32 (a0_r.e.Ctx.a0.toNat : Int)),.raw (.int .u32 (a0_r.e.Ctx.a1.toNat : Int)),.raw (.int .u32 (a0_r.e.Ctx.a2.toNat : Int)),.raw (.int .u32 (a0_r.e.Ctx.a3.toNat : Int)),.sl false (a0_r.e.T.map enc_Table),.raw (.int .u32 (a0_r.e.Seed.toNat : Int)),.raw (.int .i64 a0_r.fuel),.raw (.int .i64 a0_r.used),.raw (.int .i64 a0_r.err)])]) (Ctr.loH (Ctr.ren (Bij.swp 2 41 Bij.id) (c_interp_frame_handed a0 a0_r x5.Args hr6) (by push_cast [hb3,hx5,hx52]) (by push_cast [hb3,hx5,hx52]))) (by push_cast [hb3,hx5,hx52]) rfl rfl rfl ?_;push_cast [hb3,hx5,hx52];(repeat refine .intro (by omega) ?_);refine ⟨rfl,hK _ ?_⟩;clear hK K;refine VC.sub (s' := ⟨[(0,.ref 0 0),(3,.ref 2 0),(4,.row 41 0 1 0 r6.1.length)],[(0,.box 124 (enc_interp_frame r6.2.1 (.ref 1 0))),(1,.box 109 [.sl false (r6.2.2.p.Fns.map enc_Fn),.raw (.int .u32 (r6.2.2.e.Ctx.a0.toNat : Int)),.raw (.int .u32 (r6.2.2.e.Ctx.a1.toNat : Int)),.raw (.int .u32 (r6.2.2.e.Ctx.a2.toNat : Int)),.raw (.int .u32 (r6.2.2.e.Ctx.a3.toNat : Int)),.sl false (r6.2.2.e.T.map enc_Table),.raw (.int .u32 (r6.2.2.e.Seed.toNat : Int)),.raw (.int .i64 r6.2.2.fuel),.raw (.int .i64 r6.2.2.used),.raw (.int .i64 r6.2.2.err)]),(2,.box 76 [.raw (.int .i64 a1.Op),.raw (.int .i64 a1.Fn),.raw (.int .i64 a1.Dst),.raw (.int .i64 a1.Src),.raw (.bool a1.Reg),.raw (.int .i64 a1.Off),.raw (.int .u32 (a1.Imm.toNat : Int))]),(41,.row 25 1 0 (r6.1.map encU32))],43,68,2⟩) (sof ?_ ?_ rfl rfl) ?_
   ·push_cast [hb3]
   ·push_cast [hb3]
   refine VC.seq ?_;refine VC.seqF tabOkF [some 49,some 50,some 51,some 52,some 53,some 54,some 55,some 56] [0,3,4,56] rfl rfl (fun K hK => ?_);push_cast [hb3,hx5,hx52];(repeat refine .intro (by omega) ?_);refine hK _ ?_;clear hK K;refine VC.cond rfl rfl (fun hc7 => ?_) (fun hc7 => ?_)
   ·have hb7 : (r6.2.2.err != 0) = true := by simpa using hc7
    replace h := cond_yes hb7 h;refine VC.ret ?_;have hr := Option.some.inj h;subst hr;refine endP (Sub.lo _) (Post.ret ?_ ?_ ?_)
    ·push_cast [hb3,hb7]
    ·push_cast [hb3,hb7]
    ·rfl
   ·have hb7 : (r6.2.2.err != 0) = false := by simpa using hc7
    replace h := cond_no hb7 h;refine VC.skip ?_;refine VC.sub (Sub.freezeT prog (k := 4) rfl rfl (by push_cast [hb3,hb7] <;> omega) (by decide)) ?_;refine VC.sub (s' := ⟨[(0,.ref 0 0),(3,.ref 2 0),(4,.sl false (r6.1.map encU32))],[(0,.box 124 (enc_interp_frame r6.2.1 (.ref 1 0))),(1,.box 109 [.sl false (r6.2.2.p.Fns.map enc_Fn),.raw (.int .u32 (r6.2.2.e.Ctx.a0.toNat : Int)),.raw (.int .u32 (r6.2.2.e.Ctx.a1.toNat : Int)),.raw (.int .u32 (r6.2.2.e.Ctx.a2.toNat : Int)),.raw (.int .u32 (r6.2.2.e.Ctx.a3.toNat : Int)),.sl false (r6.2.2.e.T.map enc_Table),.raw (.int .u32 (r6.2.2.e.Seed.toNat : Int)),.raw (.int .i64 r6.2.2.fuel),.raw (.int .i64 r6.2.2.used),.raw (.int .i64 r6.2.2.err)]),(2,.box 76 [.raw (.int .i64 a1.Op),.raw (.int .i64 a1.Fn),.raw (.int .i64 a1.Dst),.raw (.int .i64 a1.Src),.raw (.bool a1.Reg),.raw (.int .i64 a1.Off),.raw (.int .u32 (a1.Imm.toNat : Int))])],51,68,2⟩) (sof ?_ ?_ rfl rfl) ?_
    ·push_cast [hb3,hb7]
    ·push_cast [hb3,hb7]
    obtain ⟨r8,hr8,h⟩ := po_some h;obtain ⟨r9,hr9,h⟩ := po_some h;refine VC.lastFD tabOkF hmixO [some 57,some 58,some 59,some 60,some 61,some 62,some 63,some 64,some 65,some 66,some 67] rfl rfl rfl (fun K hK => ?_);refine runD_cut 8 (fun K2 hK2 => ?_);push_cast [hb3,hx5,hx52,hb7];(repeat refine .intro (by omega) ?_);refine hK2 _ _ _ ?_;clear hK2 K2;simp only [List.drop_succ_cons,List.drop_zero];push_cast [hb3,hx5,hx52,hb7];(repeat refine .intro (by omega) ?_);refine callHD (H := [(1,.box 109 [.sl false (r6.2.2.p.Fns.map enc_Fn),.raw (.int .u32 (r6.2.2.e.Ctx.a0.toNat : Int)),.raw (.int .u32 (r6.2.2.e.Ctx.a1.toNat : Int)),.raw (.int .u32 (r6.2.2.e.Ctx.a2.toNat : Int)),.raw (.int .u32 (r6.2.2.e.Ctx.a3.toNat : Int)),.sl false (r6.2.2.e.T.map enc_Table),.raw (.int .u32 (r6.2.2.e.Seed.toNat : Int)),.raw (.int .i64 r6.2.2.fuel),.raw (.int .i64 r6.2.2.used),.raw (.int .i64 r6.2.2.err)])]) (Ctr.loH (Ctr.ren (Bij.swp 0 1 Bij.id) (hpf r6.2.2 (a1.Imm.toNat : Int) r6.1 hr8) (by push_cast [hb3,hx5,hx52,hb7]) (by push_cast [hb3,hx5,hx52,hb7]))) (by push_cast [hb3,hx5,hx52,hb7]) rfl rfl rfl ?_;push_cast [hb3,hx5,hx52,hb7];(repeat refine .intro (by omega) ?_);refine callHD (H := [(0,.box 124 (enc_interp_frame r6.2.1 (.ref 1 0))),(1,.box 109 [.sl false (r8.2.p.Fns.map enc_Fn),.raw (.int .u32 (r8.2.e.Ctx.a0.toNat : Int)),.raw (.int .u32 (r8.2.e.Ctx.a1.toNat : Int)),.raw (.int .u32 (r8.2.e.Ctx.a2.toNat : Int)),.raw (.int .u32 (r8.2.e.Ctx.a3.toNat : Int)),.sl false (r8.2.e.T.map enc_Table),.raw (.int .u32 (r8.2.e.Seed.toNat : Int)),.raw (.int .i64 r8.2.fuel),.raw (.int .i64 r8.2.used),.raw (.int .i64 r8.2.err)])]) (Ctr.loH (Ctr.ren Bij.id (c_interp_frame_back r6.2.1 r8.2 r8.1 hr9) (by push_cast [hb3,hx5,hx52,hb7]) (by push_cast [hb3,hx5,hx52,hb7]))) (by push_cast [hb3,hx5,hx52,hb7]) rfl rfl rfl ?_;push_cast [hb3,hx5,hx52,hb7];(repeat refine .intro (by omega) ?_);refine ⟨rfl,hK _ ?_⟩;clear hK K;have hr := Option.some.inj h;subst hr;refine endP (Sub.lo _) (Post.nrm ?_ ?_ ?_)
    ·push_cast [hb3,hb7]
    ·push_cast [hb3,hb7]
    ·rfl
noncomputable def p_interp_frame_exit (a0 : T_interp_frame) (a0_r : T_interp_run) (a1 : T_Inst) : Option (T_interp_frame × T_interp_run) :=
  po (p_interp_frame_get a0 a0_r 0) fun r1 =>
  some ((T_interp_frame.mk r1.2.1.fn r1.2.1.at_ r1.2.1.regs r1.2.1.set r1.2.1.stack true), r1.2.2)
theorem c_interp_frame_exit (a0 : T_interp_frame) (a0_r : T_interp_run) (a1 : T_Inst) {r : T_interp_frame × T_interp_run} (h : p_interp_frame_exit a0 a0_r a1 = some r) : Ctr prog 96 [.ref 0 0, .agg (enc_Inst a1)] [(0, .box 124 (enc_interp_frame a0 (.ref 1 0))), (1, .box 109 (enc_interp_run a0_r))] (.tup []) [(0, .box 124 (enc_interp_frame r.1 (.ref 1 0))), (1, .box 109 (enc_interp_run r.2))] := by
 unfold p_interp_frame_exit at h;refine Ctr.ofW tabOk func96 rfl call96 2 _ ntmps96 [] rfl rfl rfl (fun B => ?_);refine VC.seqF tabOkF [some 3] [0] rfl rfl (fun K hK => ?_);push_cast;(repeat refine .intro (by omega) ?_);refine hK _ ?_;clear hK K;obtain ⟨r1,hr1,h⟩ := po_some h;refine VC.seqF tabOkF [some 4,some 5] [0] rfl rfl (fun K hK => ?_);push_cast;(repeat refine .intro (by omega) ?_);refine callH (H := [(0,.box 124 (enc_interp_frame a0 (.ref 1 0))),(1,.box 109 [.sl false (a0_r.p.Fns.map enc_Fn),.raw (.int .u32 (a0_r.e.Ctx.a0.toNat : Int)),.raw (.int .u32 (a0_r.e.Ctx.a1.toNat : Int)),.raw (.int .u32 (a0_r.e.Ctx.a2.toNat : Int)),.raw (.int .u32 (a0_r.e.Ctx.a3.toNat : Int)),.sl false (a0_r.e.T.map enc_Table),.raw (.int .u32 (a0_r.e.Seed.toNat : Int)),.raw (.int .i64 a0_r.fuel),.raw (.int .i64 a0_r.used),.raw (.int .i64 a0_r.err)])]) (Ctr.loH (Ctr.ren Bij.id (c_interp_frame_get a0 a0_r 0 hr1) (by push_cast) (by push_cast))) (by push_cast) rfl rfl rfl ?_;push_cast;(repeat refine .intro (by omega) ?_);refine hK _ ?_;clear hK K;refine VC.sub (s' := ⟨[(0,.ref 0 0)],[(0,.box 124 (enc_interp_frame r1.2.1 (.ref 1 0))),(1,.box 109 [.sl false (r1.2.2.p.Fns.map enc_Fn),.raw (.int .u32 (r1.2.2.e.Ctx.a0.toNat : Int)),.raw (.int .u32 (r1.2.2.e.Ctx.a1.toNat : Int)),.raw (.int .u32 (r1.2.2.e.Ctx.a2.toNat : Int)),.raw (.int .u32 (r1.2.2.e.Ctx.a3.toNat : Int)),.sl false (r1.2.2.e.T.map enc_Table),.raw (.int .u32 (r1.2.2.e.Seed.toNat : Int)),.raw (.int .i64 r1.2.2.fuel),.raw (.int .i64 r1.2.2.used),.raw (.int .i64 r1.2.2.err)])],5,9,2⟩) (sof ?_ ?_ rfl rfl) ?_
 ·push_cast
 ·push_cast
 refine VC.lastF tabOkF [some 6,some 7,some 8,none] rfl rfl (fun K hK => ?_);push_cast;(repeat refine .intro (by omega) ?_);refine hK _ ?_;clear hK K;have hr := Option.some.inj h;subst hr;refine endP (Sub.lo _) (Post.nrm ?_ ?_ ?_)
 ·push_cast
 ·push_cast
 ·rfl
def failE (err e : Int) : Int := if err = 0 then e else err
theorem fail_is (p : T_Prog) (e : T_Env) (fu us err x : Int) : p_interp_run_fail ⟨p, e, fu, us, err⟩ x = some ⟨p, e, fu, us, failE err x⟩ := by
  unfold p_interp_run_fail failE
  by_cases h : err = 0
  · have d : (err == 0) = true := by simpa using h
    simp only [d, cond_true, if_pos h]
  · have d : (err == 0) = false := by simpa using h
    simp only [d, cond_false, if_neg h]
def getE (f : Fra) (err : Int) (n : Nat) : Int := if f.set.get n = true then err else failE err 10
theorem get_is (f : Fra) (p : T_Prog) (e : T_Env) (fu us err : Int) {n : Int} (h : 0 ≤ n ∧ n < 8) :
    p_interp_frame_get f ⟨p, e, fu, us, err⟩ n = some (f.regs.get n.toNat, f, ⟨p, e, fu, us, getE f err n.toNat⟩) := by
  unfold p_interp_frame_get getE
  rw [pg_of h]
  cases hs : f.set.get n.toNat with
  | true => simp only [Bool.not_true, cond_false, po_of, p_interp_frame_get_J1, pg_of h, if_true]
  | false =>
    simp only [Bool.not_false, cond_true, fail_is, po_of, p_interp_frame_get_J1, pg_of h]
    rfl
def wordV (f : Fra) (i : T_Inst) : UInt32 := if i.Reg = true then f.regs.get i.Src.toNat else i.Imm
def wordE (f : Fra) (err : Int) (i : T_Inst) : Int := if i.Reg = true then getE f err i.Src.toNat else err
theorem word_is (f : Fra) (p : T_Prog) (e : T_Env) (fu us err : Int) {i : T_Inst} (h : InstOk i) :
    p_interp_frame_word f ⟨p, e, fu, us, err⟩ i = some (wordV f i, f, ⟨p, e, fu, us, wordE f err i⟩) := by
  unfold p_interp_frame_word wordV wordE
  cases hr : i.Reg with
  | true => simp only [cond_true, get_is f p e fu us err h.src, po_of, if_true]
  | false => simp [cond_false]
def putF (f : Fra) (n : Nat) (v : UInt32) : Fra := ⟨f.fn, f.at_, f.regs.set n v, f.set.set n true, f.stack, f.over⟩
theorem put_is' (f : Fra) (r : Rn) {n : Int} (h : 0 ≤ n ∧ n < 8) (v : UInt32) : p_interp_frame_put f r n v = some (putF f n.toNat v, r) := by
  unfold p_interp_frame_put
  rw [pg_of h]
  unfold pl
  simp only
  rw [pg_of h]
  rfl
noncomputable def aluV (fn : Int) (a b : UInt32) : UInt32 := ((p_alu_Do fn a b).getD (0, true)).1
theorem alu_is {fn : Int} (h : 0 ≤ fn ∧ fn < 11) (a b : UInt32) : p_alu_Do fn a b = some (aluV fn a b, true) := by
  have key : ∃ v, p_alu_Do fn a b = some (v, true) := by
    unfold p_alu_Do
    have d1 : decide (fn < 0) = false := by simp; omega
    have d2 : decide (fn ≥ 11) = false := by simp; omega
    simp only [d1, d2, cond_false, po_of, p_alu_Do_J1]
    have dz : ∀ k : UInt32, ((k.toNat : Int) == 0) = true ∨ (((k.toNat : Int) == 0) = false ∧ (k.toNat : Int) ≠ 0) := fun k => by
      by_cases hk : (k.toNat : Int) = 0
      · exact .inl (by simpa using hk)
      · exact .inr ⟨by simpa using hk, hk⟩
    have hc : fn = 0 ∨ fn = 1 ∨ fn = 2 ∨ fn = 3 ∨ fn = 4 ∨ fn = 5 ∨ fn = 6 ∨ fn = 7 ∨ fn = 8 ∨ fn = 9 ∨ fn = 10 := by omega
    rcases hc with rfl | rfl | rfl | rfl | rfl | rfl | rfl | rfl | rfl | rfl | rfl
    case inr.inr.inr.inr.inl =>
      have : ∃ v, p_alu_deeds_5 a b = some v := by
        unfold p_alu_deeds_5
        rcases dz b with d | ⟨d, hn⟩
        · exact ⟨0, by rw [d]; rfl⟩
        · exact ⟨a / b, by rw [d, pg_of hn]; rfl⟩
      obtain ⟨v, hv⟩ := this
      exact ⟨v, by rw [hv]; rfl⟩
    case inr.inr.inr.inr.inr.inl =>
      have : ∃ v, p_alu_deeds_6 a b = some v := by
        unfold p_alu_deeds_6
        rcases dz b with d | ⟨d, hn⟩
        · exact ⟨a, by rw [d]; rfl⟩
        · exact ⟨a % b, by rw [d, pg_of hn]; rfl⟩
      obtain ⟨v, hv⟩ := this
      exact ⟨v, by rw [hv]; rfl⟩
    all_goals exact ⟨_, rfl⟩
  obtain ⟨v, hv⟩ := key
  unfold aluV
  rw [hv]
  rfl
noncomputable def holdsV (c : Int) (a b : UInt32) : Bool := ((p_alu_Holds c a b).getD (false, false)).1
theorem holds_is (c : Int) (a b : UInt32) : ∃ y, p_alu_Holds c a b = some (holdsV c a b, y) := by
  have key : ∃ q, p_alu_Holds c a b = some q := by
    unfold p_alu_Holds
    cases c == 0 <;> cases c == 1 <;> cases c == 2 <;> cases c == 3 <;> cases c == 4
    all_goals exact ⟨_, rfl⟩
  obtain ⟨q, hq⟩ := key
  unfold holdsV
  rw [hq]
  exact ⟨q.2, rfl⟩
def handV (f : Fra) : Nat → List UInt32
  | 0 => []
  | k + 1 => handV f k ++ [f.regs.get (k + 1)]
def handE (f : Fra) (err : Int) : Nat → Int
  | 0 => err
  | k + 1 => getE f (handE f err k) (k + 1)
theorem handV_len (f : Fra) (k : Nat) : (handV f k).length = k := by
  induction k with
  | zero => rfl
  | succ k ih => simp [handV, ih]
theorem hand_is (f : Fra) (p : T_Prog) (e : T_Env) (fu us err : Int) {n : Nat} (h : n ≤ 7) :
    p_interp_frame_handed f ⟨p, e, fu, us, err⟩ (n : Int) = some (handV f n, f, ⟨p, e, fu, us, handE f err n⟩) := by
  obtain ⟨r, h1, h2⟩ := lp_inv (step := fun x => p_interp_frame_handed_L2 (n : Int) x.1 x.2.1 x.2.2.1 x.2.2.2) (fun s => ∃ k : Nat, k ≤ n ∧ s = (f, ⟨p, e, fu, us, handE f err k⟩, handV f k, ((k + 1 : Nat) : Int))) (fun s => (n + 1 - s.2.2.2).toNat) (fun r => r = (f, ⟨p, e, fu, us, handE f err n⟩, handV f n)) (by
    rintro s ⟨k, hk, rfl⟩
    simp only [p_interp_frame_handed_L2]
    by_cases hlt : k < n
    · left
      have hd : decide (((k + 1 : Nat) : Int) ≤ (n : Int)) = true := by simp; omega
      have hl : ((handV f k).length + 1) * 4 ≤ 140737488355328 := by rw [handV_len]; omega
      simp only [hd, cond_true, get_is f p e fu us (handE f err k) (show 0 ≤ ((k + 1 : Nat) : Int) ∧ ((k + 1 : Nat) : Int) < 8 by omega), po_of, pg_of hl, pl, Int.toNat_natCast, w64 (show k + 1 < 9223372036854775807 by omega)]
      exact ⟨_, rfl, ⟨k + 1, by omega, rfl⟩, by simp only; omega⟩
    · right
      have : k = n := by omega
      subst this
      have hd : decide (((k + 1 : Nat) : Int) ≤ (k : Int)) = false := by simp; omega
      simp only [hd, cond_false]
      exact ⟨_, rfl, rfl⟩) (f, ⟨p, e, fu, us, err⟩, [], 1) ⟨0, Nat.zero_le _, rfl⟩
  subst h2
  unfold p_interp_frame_handed
  rw [h1]
  rfl
def clrF (f : Fra) : Nat → Fra
  | 0 => f
  | k + 1 => ⟨(clrF f k).fn, (clrF f k).at_, (clrF f k).regs.set (k + 1) 0, (clrF f k).set.set (k + 1) false, (clrF f k).stack, (clrF f k).over⟩
def backF (f : Fra) (v : UInt32) : Fra := clrF (putF f 0 v) 5
theorem back_is (f : Fra) (r : Rn) (v : UInt32) : p_interp_frame_back f r v = some (backF f v, r) := by
  unfold p_interp_frame_back
  rw [put_is' f r (by decide) v]
  simp only [po_of]
  obtain ⟨q, h1, h2⟩ := lp_inv (step := fun x => p_interp_frame_back_L2 (putF f (0 : Int).toNat v, r) x.1 x.2) (fun s => ∃ k : Nat, k ≤ 5 ∧ s = (clrF (putF f 0 v) k, ((k + 1 : Nat) : Int))) (fun s => (6 - s.2).toNat) (fun q => q = (backF f v, r)) (by
    rintro s ⟨k, hk, rfl⟩
    simp only [p_interp_frame_back_L2]
    by_cases hlt : k < 5
    · left
      have hd : decide (((k + 1 : Nat) : Int) ≤ 5) = true := by simp; omega
      have hb : 0 ≤ ((k + 1 : Nat) : Int) ∧ ((k + 1 : Nat) : Int) < 8 := by omega
      simp only [hd, cond_true, pg_of hb, pl, Int.toNat_natCast, w64 (show k + 1 < 9223372036854775807 by omega)]
      exact ⟨_, rfl, ⟨k + 1, by omega, rfl⟩, by simp only; omega⟩
    · right
      have : k = 5 := by omega
      subst this
      simp only [show decide (((5 + 1 : Nat) : Int) ≤ 5) = false from rfl, cond_false]
      exact ⟨_, rfl, rfl⟩) (putF f 0 v, 1) ⟨0, Nat.zero_le _, rfl⟩
  subst h2
  exact h1
/-! ### One instruction that is no call -/
noncomputable def aluS (f : Fra) (err : Int) (i : T_Inst) : Fra × Int :=
  (putF f i.Dst.toNat (aluV i.Fn (if i.Fn = 0 then 0 else f.regs.get i.Dst.toNat) (wordV f i)), if i.Fn = 0 then wordE f err i else getE f (wordE f err i) i.Dst.toNat)
theorem aluS_is (f : Fra) (p : T_Prog) (e : T_Env) (fu us err : Int) {i : T_Inst} (h : InstOk i) (h0 : i.Op = 0) :
    p_interp_frame_alu f ⟨p, e, fu, us, err⟩ i = some ((aluS f err i).1, ⟨p, e, fu, us, (aluS f err i).2⟩) := by
  unfold p_interp_frame_alu aluS
  simp only [word_is f p e fu us err h, po_of]
  by_cases hf : i.Fn = 0
  · have d : (i.Fn != 0) = false := by simpa using hf
    simp only [d, cond_false, po_of, p_interp_frame_alu_J2, alu_is (h.alu h0), put_is' _ _ h.dst, if_pos hf]
  · have d : (i.Fn != 0) = true := by simpa using hf
    simp only [d, cond_true, po_of, get_is f p e fu us _ h.dst, p_interp_frame_alu_J2, alu_is (h.alu h0), put_is' _ _ h.dst, if_neg hf]
def atF (f : Fra) (n : Int) : Fra := ⟨f.fn, n, f.regs, f.set, f.stack, f.over⟩
noncomputable def jumpS (f : Fra) (err : Int) (i : T_Inst) : Fra × Int :=
  if i.Fn = 0 then (atF f (f.at_ + i.Off), err)
  else (if holdsV i.Fn (f.regs.get i.Dst.toNat) (wordV f i) = true then atF f (f.at_ + i.Off) else f, wordE f (getE f err i.Dst.toNat) i)
theorem jumpS_is (f : Fra) (p : T_Prog) (e : T_Env) (fu us err : Int) {i : T_Inst} (h : InstOk i) (ha : 0 ≤ f.at_ ∧ f.at_ ≤ 1000000) :
    p_interp_frame_jump f ⟨p, e, fu, us, err⟩ i = some ((jumpS f err i).1, ⟨p, e, fu, us, (jumpS f err i).2⟩) := by
  have hw : IntKind.i64.wrap (f.at_ + i.Off) = f.at_ + i.Off := wrap_i64 (by have := h.off; omega) (by have := h.off; omega)
  unfold p_interp_frame_jump jumpS
  by_cases hf : i.Fn = 0
  · have d : (i.Fn == 0) = true := by simpa using hf
    simp only [d, cond_true, if_pos hf, hw]
    rfl
  · have d : (i.Fn == 0) = false := by simpa using hf
    obtain ⟨y, hy⟩ := holds_is i.Fn (f.regs.get i.Dst.toNat) (wordV f i)
    simp only [d, cond_false, get_is f p e fu us err h.dst, po_of, word_is f p e fu us _ h, hy, if_neg hf, hw]
    cases holdsV i.Fn (f.regs.get i.Dst.toNat) (wordV f i) <;> rfl
def wordsS (f : Fra) (ctx : A4 UInt32) (err : Int) (i : T_Inst) : Fra × Int :=
  if i.Op = 2 then (if 4 ≤ (wordV f i).toNat then (f, failE (wordE f err i) 10) else (putF f i.Dst.toNat (ctx.get (wordV f i).toNat), wordE f err i))
  else if i.Op = 3 then (if 16 ≤ (wordV f i).toNat then (f, failE (wordE f err i) 10) else (putF f i.Dst.toNat (f.stack.get (wordV f i).toNat), wordE f err i))
  else if 16 ≤ (wordV f i).toNat then (f, failE (getE f (wordE f err i) i.Dst.toNat) 10)
  else (⟨f.fn, f.at_, f.regs, f.set, f.stack.set (wordV f i).toNat (f.regs.get i.Dst.toNat), f.over⟩, getE f (wordE f err i) i.Dst.toNat)
theorem w64u (x : UInt32) : IntKind.u64.wrap (x.toNat : Int) = (x.toNat : Int) := by
  have := x.toNat_lt
  rw [IntKind.wrap_u64]
  omega
theorem wordsS_is (f : Fra) (p : T_Prog) (e : T_Env) (fu us err : Int) {i : T_Inst} (h : InstOk i) (hop : i.Op = 2 ∨ i.Op = 3 ∨ i.Op = 4) :
    p_interp_frame_words f ⟨p, e, fu, us, err⟩ i = some ((wordsS f e.Ctx err i).1, ⟨p, e, fu, us, (wordsS f e.Ctx err i).2⟩) := by
  unfold p_interp_frame_words wordsS
  rw [pg_of (by decide)]
  simp only [word_is f p e fu us err h, po_of, w64u]
  rcases hop with q | q | q
  · have d2 : (i.Op == 2) = true := by simpa using q
    rw [pg_of (by decide)]
    simp only [d2, cond_true, if_pos q]
    by_cases hx : 4 ≤ (wordV f i).toNat
    · have d : decide (((wordV f i).toNat : Int) ≥ 4) = true := by simp; omega
      simp only [d, cond_true, fail_is, po_of, if_pos hx]
    · have d : decide (((wordV f i).toNat : Int) ≥ 4) = false := by simp; omega
      simp only [d, cond_false, pg_of (show (wordV f i).toNat < 4 by omega), put_is' _ _ h.dst, po_of, if_neg hx]
  · have d2 : (i.Op == 2) = false := by simp [q]
    have d3 : (i.Op == 3) = true := by simpa using q
    simp only [d2, d3, cond_false, cond_true, if_neg (show ¬ i.Op = 2 by omega), if_pos q]
    by_cases hx : 16 ≤ (wordV f i).toNat
    · have d : decide (((wordV f i).toNat : Int) ≥ 16) = true := by simp; omega
      simp only [d, cond_true, fail_is, po_of, if_pos hx]
    · have d : decide (((wordV f i).toNat : Int) ≥ 16) = false := by simp; omega
      simp only [d, cond_false, pg_of (show (wordV f i).toNat < 16 by omega), put_is' _ _ h.dst, po_of, if_neg hx]
  · have d2 : (i.Op == 2) = false := by simp [q]
    have d3 : (i.Op == 3) = false := by simp [q]
    have d4 : (i.Op == 4) = true := by simpa using q
    simp only [d2, d3, d4, cond_false, cond_true, get_is f p e fu us _ h.dst, po_of, if_neg (show ¬ i.Op = 2 by omega), if_neg (show ¬ i.Op = 3 by omega)]
    by_cases hx : 16 ≤ (wordV f i).toNat
    · have d : decide (((wordV f i).toNat : Int) ≥ 16) = true := by simp; omega
      simp only [d, cond_true, fail_is, po_of, if_pos hx]
    · have d : decide (((wordV f i).toNat : Int) ≥ 16) = false := by simp; omega
      simp only [d, cond_false, pg_of (show (wordV f i).toNat < 16 by omega), pl, if_neg hx]
noncomputable def helpS (f : Fra) (e : T_Env) (err : Int) (i : T_Inst) : Fra × T_Env × Int :=
  if argsN (i.Imm.toNat : Int) < 0 then (f, e, failE err 10)
  else if handE f err (argsN (i.Imm.toNat : Int)).toNat ≠ 0 then (f, e, handE f err (argsN (i.Imm.toNat : Int)).toNat)
  else match p_helper_Call (i.Imm.toNat : Int) e (handV f (argsN (i.Imm.toNat : Int)).toNat) with
    | some (e', v, x) => if x ≠ 0 then (f, e, 10) else (backF f v, e', 0)
    | none => (f, e, 0)
theorem argsN_le (n : Int) : argsN n ≤ 4 := by
  unfold argsN
  repeat' split
  all_goals omega
theorem helpS_is (f : Fra) (p : T_Prog) (e : T_Env) (fu us err : Int) (i : T_Inst) (hF : Fits e.T) :
    p_interp_frame_help f ⟨p, e, fu, us, err⟩ i = some ((helpS f e err i).1, ⟨p, (helpS f e err i).2.1, fu, us, (helpS f e err i).2.2⟩) := by
  unfold p_interp_frame_help helpS
  simp only [args_is, po_of]
  by_cases h1 : argsN (i.Imm.toNat : Int) < 0
  · simp only [decide_eq_true h1, cond_true, fail_is, po_of, if_pos h1]
  · obtain ⟨k, hk⟩ : ∃ k : Nat, argsN (i.Imm.toNat : Int) = (k : Int) := ⟨_, (Int.toNat_of_nonneg (by omega)).symm⟩
    have hle := argsN_le (i.Imm.toNat : Int)
    simp only [decide_eq_false h1, cond_false, if_neg h1]
    rw [hk]
    simp only [hand_is f p e fu us err (show k ≤ 7 by omega), po_of, Int.toNat_natCast]
    by_cases h2 : handE f err k = 0
    · have d : (handE f err k != 0) = false := by simpa using h2
      simp only [d, cond_false, if_neg (show ¬ (handE f err k ≠ 0) from fun q => q h2)]
      obtain ⟨⟨e', v, x⟩, hr, _⟩ := call_tells (n := (i.Imm.toNat : Int)) (a := handV f k) hF
      simp only [hr, po_of]
      by_cases h3 : x = 0
      · have d : (x != 0) = false := by simpa using h3
        simp only [d, cond_false, back_is, po_of, if_neg (show ¬ (x ≠ 0) from fun q => q h3), h2]
      · have d : (x != 0) = true := by simpa using h3
        simp only [d, cond_true, fail_is, po_of, if_pos h3, h2]
        rfl
    · have d : (handE f err k != 0) = true := by simpa using h2
      simp only [d, cond_true, if_pos h2]
def exitS (f : Fra) (err : Int) : Fra × Int := (⟨f.fn, f.at_, f.regs, f.set, f.stack, true⟩, getE f err 0)
theorem exitS_is (f : Fra) (p : T_Prog) (e : T_Env) (fu us err : Int) (i : T_Inst) :
    p_interp_frame_exit f ⟨p, e, fu, us, err⟩ i = some ((exitS f err).1, ⟨p, e, fu, us, (exitS f err).2⟩) := by
  unfold p_interp_frame_exit exitS
  rw [get_is f p e fu us err (by decide)]
  rfl
noncomputable def opS (f : Fra) (e : T_Env) (err : Int) (i : T_Inst) : Fra × T_Env × Int :=
  if i.Op = 0 then ((aluS f err i).1, e, (aluS f err i).2)
  else if i.Op = 1 then ((jumpS f err i).1, e, (jumpS f err i).2)
  else if i.Op = 5 then helpS f e err i
  else if i.Op = 7 then ((exitS f err).1, e, (exitS f err).2)
  else ((wordsS f e.Ctx err i).1, e, (wordsS f e.Ctx err i).2)
/-! ### What it leaves -/
theorem failE_or {err : Int} (h : err = 0 ∨ err = 10) : failE err 10 = 0 ∨ failE err 10 = 10 := by
  unfold failE
  split
  · exact .inr rfl
  · exact h
theorem getE_or {f : Fra} {err : Int} {n : Nat} (h : err = 0 ∨ err = 10) : getE f err n = 0 ∨ getE f err n = 10 := by
  unfold getE
  split
  · exact h
  · exact failE_or h
theorem wordE_or {f : Fra} {err : Int} {i : T_Inst} (h : err = 0 ∨ err = 10) : wordE f err i = 0 ∨ wordE f err i = 10 := by
  unfold wordE
  split
  · exact getE_or h
  · exact h
theorem handE_or {f : Fra} {err : Int} {n : Nat} (h : err = 0 ∨ err = 10) : handE f err n = 0 ∨ handE f err n = 10 := by
  induction n with
  | zero => exact h
  | succ n ih => exact getE_or ih
structure EKeep (e e' : T_Env) : Prop where
  ctx : e'.Ctx = e.Ctx
  len : e'.T.length = e.T.length
  tab : ∀ (j : Nat) (u t : T_Table), e'.T[j]? = some u → e.T[j]? = some t → u.S = t.S ∧ ((toT t).may = true → (toT u).may = true)
  fits : Fits e'.T
theorem EKeep.refl {e : T_Env} (h : Fits e.T) : EKeep e e := ⟨rfl, rfl, fun j u t hu ht => by
  rw [hu] at ht
  injection ht with ht
  subst ht
  exact ⟨rfl, id⟩, h⟩
theorem EKeep.trans {a b c : T_Env} (h : EKeep a b) (k : EKeep b c) : EKeep a c := ⟨k.ctx.trans h.ctx, k.len.trans h.len, fun j u t hu ht => by
  obtain ⟨v, hv⟩ : ∃ v, b.T[j]? = some v := ⟨_, List.getElem?_eq_getElem (by rw [h.len]; exact get_lt ht)⟩
  obtain ⟨h1, h2⟩ := h.tab j v t hv ht
  obtain ⟨k1, k2⟩ := k.tab j u v hu hv
  exact ⟨k1.trans h1, fun q => k2 (h2 q)⟩, k.fits⟩
theorem call_keeps {n : Int} {e e' : T_Env} {a : List UInt32} {v : UInt32} (hF : Fits e.T) (h : p_helper_Call n e a = some (e', v, 0)) : EKeep e e' := by
  obtain ⟨r, hr, hR⟩ := call_tells (n := n) (a := a) hF
  rw [h] at hr
  injection hr with hr
  subst hr
  have hfit : Fits e'.T := by
    cases hR with
    | draw _ _ _ => exact hF
    | act _ _ x t u _ hx ht hm hf hfd hA => exact fits_set hF (act_keeps hm hA).1
  rcases kept hR with ⟨h1, _⟩ | hk
  · exact absurd (show (0 : Int) = 1 from h1) (by decide)
  · exact ⟨hk.ctx, hk.len, fun j u t hu ht => by
      obtain ⟨q1, q2, _⟩ := hk.tab j u t hu ht
      exact ⟨q1, q2⟩, hfit⟩
structure OpKeep (f : Fra) (e : T_Env) (q : Fra × T_Env × Int) : Prop where
  fn : q.1.fn = f.fn
  at_ : f.at_ ≤ q.1.at_ ∧ q.1.at_ ≤ f.at_ + 65535
  e : EKeep e q.2.1
  err : q.2.2 = 0 ∨ q.2.2 = 10
theorem clrF_at (f : Fra) (k : Nat) : (clrF f k).fn = f.fn ∧ (clrF f k).at_ = f.at_ := by
  induction k with
  | zero => exact ⟨rfl, rfl⟩
  | succ k ih => exact ih
theorem op_keeps (f : Fra) {e : T_Env} {i : T_Inst} (h : InstOk i) (hF : Fits e.T) : OpKeep f e (opS f e 0 i) := by
  have o0 : (0 : Int) = 0 ∨ (0 : Int) = 10 := .inl rfl
  have same : ∀ (g : Fra) (err : Int), g.fn = f.fn → f.at_ ≤ g.at_ ∧ g.at_ ≤ f.at_ + 65535 → (err = 0 ∨ err = 10) → OpKeep f e (g, e, err) := fun g err h1 h2 h3 => ⟨h1, h2, .refl hF, h3⟩
  have ho := h.off
  unfold opS
  split
  · refine same _ _ rfl ⟨Int.le_refl _, by show f.at_ ≤ _; omega⟩ ?_
    unfold aluS
    simp only
    split
    · exact wordE_or o0
    · exact getE_or (wordE_or o0)
  · split
    · unfold jumpS
      split
      · exact same _ _ rfl ⟨by show f.at_ ≤ f.at_ + i.Off; omega, by show f.at_ + i.Off ≤ _; omega⟩ o0
      · refine same _ _ ?_ ?_ (wordE_or (getE_or o0))
        · simp only
          split <;> rfl
        · simp only
          split
          · exact ⟨by show f.at_ ≤ f.at_ + i.Off; omega, by show f.at_ + i.Off ≤ _; omega⟩
          · exact ⟨Int.le_refl _, by show f.at_ ≤ _; omega⟩
    · split
      · unfold helpS
        split
        · exact same _ _ rfl ⟨Int.le_refl _, by show f.at_ ≤ _; omega⟩ (failE_or o0)
        · split
          · exact same _ _ rfl ⟨Int.le_refl _, by show f.at_ ≤ _; omega⟩ (handE_or o0)
          · split
            · rename_i e' v x hc
              split
              · exact same _ _ rfl ⟨Int.le_refl _, by show f.at_ ≤ _; omega⟩ (.inr rfl)
              · rename_i hx
                have hx0 : x = 0 := by omega
                subst hx0
                have hat := clrF_at (putF f 0 v) 5
                refine ⟨hat.1, ?_, call_keeps hF hc, .inl rfl⟩
                have h5 : (backF f v).at_ = f.at_ := hat.2
                show f.at_ ≤ (backF f v).at_ ∧ (backF f v).at_ ≤ _
                rw [h5]
                omega
            · exact same _ _ rfl ⟨Int.le_refl _, by show f.at_ ≤ _; omega⟩ o0
      · split
        · exact same _ _ rfl ⟨Int.le_refl _, by show f.at_ ≤ _; omega⟩ (getE_or o0)
        · unfold wordsS
          split
          · split
            · exact same _ _ rfl ⟨Int.le_refl _, by show f.at_ ≤ _; omega⟩ (failE_or (wordE_or o0))
            · exact same _ _ rfl ⟨Int.le_refl _, by show f.at_ ≤ _; omega⟩ (wordE_or o0)
          · split
            · split
              · exact same _ _ rfl ⟨Int.le_refl _, by show f.at_ ≤ _; omega⟩ (failE_or (wordE_or o0))
              · exact same _ _ rfl ⟨Int.le_refl _, by show f.at_ ≤ _; omega⟩ (wordE_or o0)
            · split
              · exact same _ _ rfl ⟨Int.le_refl _, by show f.at_ ≤ _; omega⟩ (failE_or (getE_or (wordE_or o0)))
              · exact same _ _ rfl ⟨Int.le_refl _, by show f.at_ ≤ _; omega⟩ (getE_or (wordE_or o0))
noncomputable def p_interp_run_frame_S_L2 (a2 : (List UInt32)) (s_1 : T_interp_run) (s_2 : T_interp_frame) (i_3 : Int) : Option ((T_interp_run × T_interp_frame × Int) ⊕ (T_interp_run × T_interp_frame)) :=
  cond (decide (i_3 < (a2.length : Int))) (
  po (idx a2 i_3) fun x4 =>
  po (p_interp_frame_put s_2 s_1 (IntKind.i64.wrap (i_3 + 1)) x4) fun r5 =>
  some (Sum.inl (r5.2, r5.1, (IntKind.i64.wrap (i_3 + 1))))) (
  some (Sum.inr (s_1, s_2)))
noncomputable def p_interp_run_frame_S_J9 (pf : T_interp_run → Int → (List UInt32) → Option (UInt32 × T_interp_run)) (x6 : T_Fn) (s_10 : T_interp_run) (s_11 : T_interp_frame) (i_12 : Bool) : Option ((T_interp_run × T_interp_frame) ⊕ (T_interp_run × T_interp_frame)) :=
  cond i_12 (
  cond (s_10.used == s_10.fuel) (
  po (p_interp_run_fail s_10 2) fun r13 =>
  some (Sum.inl (r13, s_11))) (
  cond (decide (s_11.at_ ≥ (x6.Code.length : Int))) (
  po (p_interp_run_fail (T_interp_run.mk s_10.p s_10.e s_10.fuel (IntKind.i64.wrap (s_10.used + 1)) s_10.err) 10) fun r15 =>
  some (Sum.inl (r15, s_11))) (
  po (idx x6.Code s_11.at_) fun x16 =>
  cond (x16.Op == 0) (
  po (p_interp_frame_alu s_11 (T_interp_run.mk s_10.p s_10.e s_10.fuel (IntKind.i64.wrap (s_10.used + 1)) s_10.err) x16) fun r18 =>
  some (Sum.inl (r18.2, (T_interp_frame.mk r18.1.fn (IntKind.i64.wrap (r18.1.at_ + 1)) r18.1.regs r18.1.set r18.1.stack r18.1.over)))) (
  cond (x16.Op == 1) (
  po (p_interp_frame_jump s_11 (T_interp_run.mk s_10.p s_10.e s_10.fuel (IntKind.i64.wrap (s_10.used + 1)) s_10.err) x16) fun r20 =>
  some (Sum.inl (r20.2, (T_interp_frame.mk r20.1.fn (IntKind.i64.wrap (r20.1.at_ + 1)) r20.1.regs r20.1.set r20.1.stack r20.1.over)))) (
  cond (x16.Op == 2) (
  po (p_interp_frame_words s_11 (T_interp_run.mk s_10.p s_10.e s_10.fuel (IntKind.i64.wrap (s_10.used + 1)) s_10.err) x16) fun r22 =>
  some (Sum.inl (r22.2, (T_interp_frame.mk r22.1.fn (IntKind.i64.wrap (r22.1.at_ + 1)) r22.1.regs r22.1.set r22.1.stack r22.1.over)))) (
  cond (x16.Op == 3) (
  po (p_interp_frame_words s_11 (T_interp_run.mk s_10.p s_10.e s_10.fuel (IntKind.i64.wrap (s_10.used + 1)) s_10.err) x16) fun r24 =>
  some (Sum.inl (r24.2, (T_interp_frame.mk r24.1.fn (IntKind.i64.wrap (r24.1.at_ + 1)) r24.1.regs r24.1.set r24.1.stack r24.1.over)))) (
  cond (x16.Op == 4) (
  po (p_interp_frame_words s_11 (T_interp_run.mk s_10.p s_10.e s_10.fuel (IntKind.i64.wrap (s_10.used + 1)) s_10.err) x16) fun r26 =>
  some (Sum.inl (r26.2, (T_interp_frame.mk r26.1.fn (IntKind.i64.wrap (r26.1.at_ + 1)) r26.1.regs r26.1.set r26.1.stack r26.1.over)))) (
  cond (x16.Op == 5) (
  po (p_interp_frame_help s_11 (T_interp_run.mk s_10.p s_10.e s_10.fuel (IntKind.i64.wrap (s_10.used + 1)) s_10.err) x16) fun r28 =>
  some (Sum.inl (r28.2, (T_interp_frame.mk r28.1.fn (IntKind.i64.wrap (r28.1.at_ + 1)) r28.1.regs r28.1.set r28.1.stack r28.1.over)))) (
  cond (x16.Op == 6) (
  po (p_interp_frame_call pf s_11 (T_interp_run.mk s_10.p s_10.e s_10.fuel (IntKind.i64.wrap (s_10.used + 1)) s_10.err) x16) fun r30 =>
  some (Sum.inl (r30.2, (T_interp_frame.mk r30.1.fn (IntKind.i64.wrap (r30.1.at_ + 1)) r30.1.regs r30.1.set r30.1.stack r30.1.over)))) (
  cond (x16.Op == 7) (
  po (p_interp_frame_exit s_11 (T_interp_run.mk s_10.p s_10.e s_10.fuel (IntKind.i64.wrap (s_10.used + 1)) s_10.err) x16) fun r32 =>
  some (Sum.inl (r32.2, (T_interp_frame.mk r32.1.fn (IntKind.i64.wrap (r32.1.at_ + 1)) r32.1.regs r32.1.set r32.1.stack r32.1.over)))) (
  none))))))))))) (
  some (Sum.inr (s_10, s_11)))
noncomputable def p_interp_run_frame_S_L8 (pf : T_interp_run → Int → (List UInt32) → Option (UInt32 × T_interp_run)) (x6 : T_Fn) (s_10 : T_interp_run) (s_11 : T_interp_frame) : Option ((T_interp_run × T_interp_frame) ⊕ (T_interp_run × T_interp_frame)) :=
  po (
  cond (s_10.err == 0) (
  some (!s_11.over)) (
  some false)) (fun x => p_interp_run_frame_S_J9 pf x6 s_10 s_11 x)
noncomputable def p_interp_run_frame_S_J7 (s_15 : T_interp_run) (s_16 : T_interp_frame) : Option (UInt32 × T_interp_run) :=
  some (s_16.regs.a0, s_15)
noncomputable def p_interp_run_frame_S_J1 (pf : T_interp_run → Int → (List UInt32) → Option (UInt32 × T_interp_run)) (a1 : Int) (s_7 : T_interp_run) (s_8 : T_interp_frame) : Option (UInt32 × T_interp_run) :=
  po (idx s_7.p.Fns a1) fun x6 =>
  po (
  lpU (fun x => p_interp_run_frame_S_L8 pf x6 x.1 x.2) (s_7, s_8)) (fun x => p_interp_run_frame_S_J7 x.1 x.2)
noncomputable def p_interp_run_frame_S (pf : T_interp_run → Int → (List UInt32) → Option (UInt32 × T_interp_run)) (a0 : T_interp_run) (a1 : Int) (a2 : (List UInt32)) : Option (UInt32 × T_interp_run) :=
  po (
  lpU (fun x => p_interp_run_frame_S_L2 a2 x.1 x.2.1 x.2.2) (a0, (T_interp_frame.mk a1 0 (A8.mk 0 0 0 0 0 0 0 0) (A8.mk false false false false false false false false) (A16.mk 0 0 0 0 0 0 0 0 0 0 0 0 0 0 0 0) false), 0)) (fun x => p_interp_run_frame_S_J1 pf a1 x.1 x.2)
theorem c_interp_run_frame_S (pf : T_interp_run → Int → (List UInt32) → Option (UInt32 × T_interp_run)) (hpf : ∀ (a0 : T_interp_run) (a1 : Int) (a2 : (List UInt32)) {r : UInt32 × T_interp_run} (h : pf a0 a1 a2 = some r), Ctr prog 79 [.ref 0 0, .raw (.int .i64 a1), .sl false (a2.map encU32)] [(0, .box 109 (enc_interp_run a0))] (.raw (.int .u32 (r.1.toNat : Int))) [(0, .box 109 (enc_interp_run r.2))]) (a0 : T_interp_run) (a1 : Int) (a2 : (List UInt32)) {r : UInt32 × T_interp_run} (h : p_interp_run_frame_S pf a0 a1 a2 = some r) : Ctr prog 79 [.ref 0 0, .raw (.int .i64 a1), .sl false (a2.map encU32)] [(0, .box 109 (enc_interp_run a0))] (.raw (.int .u32 (r.1.toNat : Int))) [(0, .box 109 (enc_interp_run r.2))] := by
 unfold p_interp_run_frame_S at h;refine Ctr.ofW tabOk func79 rfl call79 1 _ ntmps79 [.tmp 6] rfl rfl rfl (fun B => ?_);refine VC.seqF tabOkF [some 6] [0,1,2] rfl rfl (fun K hK => ?_);push_cast (maxSteps := 9000000) [-partsQ];(repeat refine .intro (by omega) ?_);refine hK _ ?_;clear hK K;refine VC.seqF tabOkF [some 13,some 14,some 15,some 16,some 7] [0,1,2,7] rfl rfl (fun K hK => ?_);push_cast (maxSteps := 9000000) [-partsQ];(repeat refine .intro (by omega) ?_);refine hK _ ?_;clear hK K;refine VC.sub (s' := ⟨[(0,.ref 0 0),(1,.raw (.int .i64 a1)),(2,.sl false (a2.map encU32)),(7,.ref 5 0)],[(0,.box 109 [.sl false (a0.p.Fns.map enc_Fn),.raw (.int .u32 (a0.e.Ctx.a0.toNat : Int)),.raw (.int .u32 (a0.e.Ctx.a1.toNat : Int)),.raw (.int .u32 (a0.e.Ctx.a2.toNat : Int)),.raw (.int .u32 (a0.e.Ctx.a3.toNat : Int)),.sl false (a0.e.T.map enc_Table),.raw (.int .u32 (a0.e.Seed.toNat : Int)),.raw (.int .i64 a0.fuel),.raw (.int .i64 a0.used),.raw (.int .i64 a0.err)]),(5,.box 124 (enc_interp_frame (T_interp_frame.mk a1 0 (A8.mk 0 0 0 0 0 0 0 0) (A8.mk false false false false false false false false) (A16.mk 0 0 0 0 0 0 0 0 0 0 0 0 0 0 0 0) false) (.ref 0 0)))],7,114,1⟩) (sof ?_ ?_ rfl rfl) ?_
 ·push_cast (maxSteps := 9000000) [-partsQ,enc_interp_frame]
 ·push_cast (maxSteps := 9000000) [-partsQ,enc_interp_frame]
 obtain ⟨v1,h,hk1⟩ := po_some h;refine VC.seqJ (X := T_interp_run × T_interp_frame) (fun x => p_interp_run_frame_S_J1 pf a1 x.1 x.2 = some r) (fun x => ⟨[(0,.ref 0 0),(1,.raw (.int .i64 a1)),(7,.ref 5 0)],[(0,.box 109 [.sl false (x.1.p.Fns.map enc_Fn),.raw (.int .u32 (x.1.e.Ctx.a0.toNat : Int)),.raw (.int .u32 (x.1.e.Ctx.a1.toNat : Int)),.raw (.int .u32 (x.1.e.Ctx.a2.toNat : Int)),.raw (.int .u32 (x.1.e.Ctx.a3.toNat : Int)),.sl false (x.1.e.T.map enc_Table),.raw (.int .u32 (x.1.e.Seed.toNat : Int)),.raw (.int .i64 x.1.fuel),.raw (.int .i64 x.1.used),.raw (.int .i64 x.1.err)]),(5,.box 124 (enc_interp_frame x.2 (.ref 0 0)))],24,114,1⟩) ?_ ?_
 ·as_aux_lemma =>
   refine VC.seqF tabOkF [some 17,some 18,some 19] [0,1,7,17,18,19] rfl rfl (fun K hK => ?_);push_cast (maxSteps := 9000000) [-partsQ];(repeat refine .intro (by omega) ?_);refine hK _ ?_;clear hK K;refine VC.block ?_;refine VC.loopP h (fun x => ⟨[(0,.ref 0 0),(1,.raw (.int .i64 a1)),(7,.ref 5 0),(17,.sl false (a2.map encU32)),(18,.raw (.int .i64 (a2.length : Int))),(19,.raw (.int .i64 x.2.2))],[(0,.box 109 [.sl false (x.1.p.Fns.map enc_Fn),.raw (.int .u32 (x.1.e.Ctx.a0.toNat : Int)),.raw (.int .u32 (x.1.e.Ctx.a1.toNat : Int)),.raw (.int .u32 (x.1.e.Ctx.a2.toNat : Int)),.raw (.int .u32 (x.1.e.Ctx.a3.toNat : Int)),.sl false (x.1.e.T.map enc_Table),.raw (.int .u32 (x.1.e.Seed.toNat : Int)),.raw (.int .i64 x.1.fuel),.raw (.int .i64 x.1.used),.raw (.int .i64 x.1.err)]),(5,.box 124 (enc_interp_frame x.2.1 (.ref 0 0)))],23,114,1⟩) ?_ ?_
   ·refine slo ?_ ?_ rfl rfl
    ·push_cast (maxSteps := 9000000) [-partsQ]
    ·push_cast (maxSteps := 9000000) [-partsQ]
   rintro ⟨s_1,s_2,i_3⟩ b2 h hf2;replace h : p_interp_run_frame_S_L2 a2 s_1 s_2 i_3 = some b2 := h;(try push_cast (maxSteps := 9000000) [-partsQ]);unfold p_interp_run_frame_S_L2 at h;refine VC.seqF tabOkF [some 20] [0,1,7,17,18,19,20] rfl rfl (fun K hK => ?_);push_cast (maxSteps := 9000000) [-partsQ];(repeat refine .intro (by omega) ?_);refine hK _ ?_;clear hK K;refine VC.seq ?_;refine VC.cond rfl rfl (fun hc3 => ?_) (fun hc3 => ?_)
   ·have hb3 : (decide (i_3 < (a2.length : Int))) = true := by simpa using hc3
    replace h := cond_yes hb3 h;refine VC.skip ?_;refine VC.seq ?_;refine VC.block ?_;obtain ⟨x4,hx4,h⟩ := po_some h;obtain ⟨hx41,hx42,hx43,hx44⟩ := idx_some4 hx4;refine VC.seqF tabOkF [some 21,some 22,some 23,some 8,some 9] [0,1,7,8,9,17,18,19] rfl rfl (fun K hK => ?_);push_cast (maxSteps := 9000000) [-partsQ,hb3,hx41,hx42,hx43,hx44];(repeat refine .intro (by omega) ?_);refine hK _ ?_;clear hK K;obtain ⟨r5,hr5,h⟩ := po_some h;refine VC.lastF tabOkF [some 24,some 25,some 26,some 27,some 28] rfl rfl (fun K hK => ?_);push_cast (maxSteps := 9000000) [-partsQ,hb3,hx41,hx42,hx43,hx44];(repeat refine .intro (by omega) ?_);refine callH (H := [(5,.box 124 (enc_interp_frame s_2 (.ref 0 0))),(0,.box 109 [.sl false (s_1.p.Fns.map enc_Fn),.raw (.int .u32 (s_1.e.Ctx.a0.toNat : Int)),.raw (.int .u32 (s_1.e.Ctx.a1.toNat : Int)),.raw (.int .u32 (s_1.e.Ctx.a2.toNat : Int)),.raw (.int .u32 (s_1.e.Ctx.a3.toNat : Int)),.sl false (s_1.e.T.map enc_Table),.raw (.int .u32 (s_1.e.Seed.toNat : Int)),.raw (.int .i64 s_1.fuel),.raw (.int .i64 s_1.used),.raw (.int .i64 s_1.err)])]) (Ctr.loH (Ctr.ren (Bij.swp 1 0 (Bij.swp 0 5 Bij.id)) (c_interp_frame_put s_2 s_1 (IntKind.i64.wrap (i_3 + 1)) x4 hr5) (by push_cast (maxSteps := 9000000) [-partsQ,hb3,hx41,hx42,hx43,hx44]) (by push_cast (maxSteps := 9000000) [-partsQ,hb3,hx41,hx42,hx43,hx44]))) (by push_cast (maxSteps := 9000000) [-partsQ,hb3,hx41,hx42,hx43,hx44]) rfl rfl rfl ?_;push_cast (maxSteps := 9000000) [-partsQ,hb3,hx41,hx42,hx43,hx44];(repeat refine .intro (by omega) ?_);refine hK _ ?_;clear hK K;refine VC.lastF tabOkF [some 29,some 19] rfl rfl (fun K hK => ?_);push_cast (maxSteps := 9000000) [-partsQ,hb3,hx41,hx42,hx43,hx44];(repeat refine .intro (by omega) ?_);refine hK _ ?_;clear hK K;refine Exists.intro ((r5.2,r5.1,(IntKind.i64.wrap (i_3 + 1)))) (And.intro (Option.some.inj h).symm ?_);refine slo ?_ ?_ rfl rfl
    ·push_cast (maxSteps := 9000000) [-partsQ,hb3]
    ·push_cast (maxSteps := 9000000) [-partsQ,hb3]
   ·have hb3 : (decide (i_3 < (a2.length : Int))) = false := by simpa using hc3
    replace h := cond_no hb3 h;refine VC.exit ?_;replace h := congrArg some (hf2 _ (Option.some.inj h).symm);have hv := Option.some.inj h;rw [← hv] at hk1;refine Exists.intro ((s_1,s_2)) (And.intro hk1 ?_);refine slo ?_ ?_ rfl rfl
    ·push_cast (maxSteps := 9000000) [-partsQ,hb3]
    ·push_cast (maxSteps := 9000000) [-partsQ,hb3]
 ·as_aux_lemma =>
   rintro ⟨s_7,s_8⟩ h;replace h : p_interp_run_frame_S_J1 pf a1 s_7 s_8 = some r := h;(try push_cast (maxSteps := 9000000) [-partsQ]);unfold p_interp_run_frame_S_J1 at h;refine VC.seqF tabOkF [some 30,some 10,none] [0,1,7,10] rfl rfl (fun K hK => ?_);push_cast (maxSteps := 9000000) [-partsQ];(repeat refine .intro (by omega) ?_);refine hK _ ?_;clear hK K;obtain ⟨x6,hx6,h⟩ := po_some h;obtain ⟨hx61,hx62,hx63,hx64⟩ := idx_some4 hx6;refine VC.seqF tabOkF [some 31,some 32,some 33,some 34,some 35,some 36,some 37,some 38,some 39,some 11] [0,7,10,11] rfl rfl (fun K hK => ?_);push_cast (maxSteps := 9000000) [-partsQ,hx61,hx62,hx63,hx64];(repeat refine .intro (by omega) ?_);refine hK _ ?_;clear hK K;obtain ⟨v7,h,hk7⟩ := po_some h;refine VC.seqJ (X := T_interp_run × T_interp_frame) (fun x => p_interp_run_frame_S_J7 x.1 x.2 = some r) (fun x => ⟨[(7,.ref 5 0)],[(0,.box 109 [.sl false (x.1.p.Fns.map enc_Fn),.raw (.int .u32 (x.1.e.Ctx.a0.toNat : Int)),.raw (.int .u32 (x.1.e.Ctx.a1.toNat : Int)),.raw (.int .u32 (x.1.e.Ctx.a2.toNat : Int)),.raw (.int .u32 (x.1.e.Ctx.a3.toNat : Int)),.sl false (x.1.e.T.map enc_Table),.raw (.int .u32 (x.1.e.Seed.toNat : Int)),.raw (.int .i64 x.1.fuel),.raw (.int .i64 x.1.used),.raw (.int .i64 x.1.err)]),(5,.box 124 (enc_interp_frame x.2 (.ref 0 0)))],111,114,1⟩) ?_ ?_
   ·as_aux_lemma =>
     refine VC.block ?_;refine VC.loopP h (fun x => ⟨[(0,.ref 0 0),(7,.ref 5 0),(10,.ref 25 0),(11,.sl false (x6.Code.map enc_Inst))],[(0,.box 109 [.sl false (x.1.p.Fns.map enc_Fn),.raw (.int .u32 (x.1.e.Ctx.a0.toNat : Int)),.raw (.int .u32 (x.1.e.Ctx.a1.toNat : Int)),.raw (.int .u32 (x.1.e.Ctx.a2.toNat : Int)),.raw (.int .u32 (x.1.e.Ctx.a3.toNat : Int)),.sl false (x.1.e.T.map enc_Table),.raw (.int .u32 (x.1.e.Seed.toNat : Int)),.raw (.int .i64 x.1.fuel),.raw (.int .i64 x.1.used),.raw (.int .i64 x.1.err)]),(5,.box 124 (enc_interp_frame x.2 (.ref 0 0))),(25,.box 128 [.fn (.func 91) [] [],.fn (.func 92) [] [],.fn (.func 93) [] [],.fn (.func 93) [] [],.fn (.func 93) [] [],.fn (.func 94) [] [],.fn (.func 95) [] [],.fn (.func 96) [] []])],99,114,1⟩) ?_ ?_
     ·refine slo ?_ ?_ rfl rfl
      ·push_cast (maxSteps := 9000000) [-partsQ]
      ·push_cast (maxSteps := 9000000) [-partsQ]
     rintro ⟨s_10,s_11⟩ b8 h hf8;replace h : p_interp_run_frame_S_L8 pf x6 s_10 s_11 = some b8 := h;(try push_cast (maxSteps := 9000000) [-partsQ]);unfold p_interp_run_frame_S_L8 at h;refine VC.seq ?_;obtain ⟨v9,h,hk9⟩ := po_some h;refine VC.seqJ (X := Bool) (fun x => p_interp_run_frame_S_J9 pf x6 s_10 s_11 x = some b8) (fun x => ⟨[(0,.ref 0 0),(7,.ref 5 0),(10,.ref 25 0),(11,.sl false (x6.Code.map enc_Inst)),(51,.raw (.bool x))],[(0,.box 109 [.sl false (s_10.p.Fns.map enc_Fn),.raw (.int .u32 (s_10.e.Ctx.a0.toNat : Int)),.raw (.int .u32 (s_10.e.Ctx.a1.toNat : Int)),.raw (.int .u32 (s_10.e.Ctx.a2.toNat : Int)),.raw (.int .u32 (s_10.e.Ctx.a3.toNat : Int)),.sl false (s_10.e.T.map enc_Table),.raw (.int .u32 (s_10.e.Seed.toNat : Int)),.raw (.int .i64 s_10.fuel),.raw (.int .i64 s_10.used),.raw (.int .i64 s_10.err)]),(5,.box 124 (enc_interp_frame s_11 (.ref 0 0))),(25,.box 128 [.fn (.func 91) [] [],.fn (.func 92) [] [],.fn (.func 93) [] [],.fn (.func 93) [] [],.fn (.func 93) [] [],.fn (.func 94) [] [],.fn (.func 95) [] [],.fn (.func 96) [] []])],111,114,1⟩) ?_ ?_
     ·as_aux_lemma =>
       rcases Bool.eq_false_or_eq_true (s_10.err == 0) with hb10 | hb10
       ·replace h := cond_yes hb10 h;refine VC.lastF tabOkF [some 40,some 41,some 42,some 43,some 44,some 45,some 46,some 47,some 48,some 49,some 50,some 51] rfl rfl (fun K hK => ?_);refine runOps_cut 8 (fun K2 hK2 => ?_);push_cast (maxSteps := 9000000) [-partsQ,hx61,hx62,hx63,hx64,hb10];(repeat refine .intro (by omega) ?_);refine hK2 _ _ ?_;clear hK2 K2;simp only [List.drop_succ_cons,List.drop_zero];push_cast (maxSteps := 9000000) [-partsQ,hx61,hx62,hx63,hx64,hb10];(repeat refine .intro (by omega) ?_);refine hK _ ?_;clear hK K;have hv := Option.some.inj h;rw [← hv] at hk9;refine Exists.intro ((!s_11.over)) (And.intro hk9 ?_);refine slo ?_ ?_ rfl rfl
        ·push_cast (maxSteps := 9000000) [-partsQ,hb10]
        ·push_cast (maxSteps := 9000000) [-partsQ,hb10]
       ·replace h := cond_no hb10 h;refine VC.lastF tabOkF [some 40,some 41,some 42,some 43,some 44,some 45,some 46,some 47,some 48,some 49,some 50,some 51] rfl rfl (fun K hK => ?_);refine runOps_cut 8 (fun K2 hK2 => ?_);push_cast (maxSteps := 9000000) [-partsQ,hx61,hx62,hx63,hx64,hb10];(repeat refine .intro (by omega) ?_);refine hK2 _ _ ?_;clear hK2 K2;simp only [List.drop_succ_cons,List.drop_zero];push_cast (maxSteps := 9000000) [-partsQ,hx61,hx62,hx63,hx64,hb10];(repeat refine .intro (by omega) ?_);refine hK _ ?_;clear hK K;have hv := Option.some.inj h;rw [← hv] at hk9;refine Exists.intro (false) (And.intro hk9 ?_);refine slo ?_ ?_ rfl rfl
        ·push_cast (maxSteps := 9000000) [-partsQ,hb10]
        ·push_cast (maxSteps := 9000000) [-partsQ,hb10]
     ·as_aux_lemma =>
       rintro i_12 h;replace h : p_interp_run_frame_S_J9 pf x6 s_10 s_11 i_12 = some b8 := h;(try push_cast (maxSteps := 9000000) [-partsQ]);unfold p_interp_run_frame_S_J9 at h;refine VC.cond rfl rfl (fun hc11 => ?_) (fun hc11 => ?_)
       ·have hb11 : i_12 = true := by simpa using hc11
        replace h := cond_yes hb11 h;refine VC.skip ?_;refine VC.block ?_;refine VC.seq ?_;refine VC.block ?_;refine VC.seqFD tabOkF hmixO [some 53,some 54,some 55,some 56,some 57,some 58,some 59,some 60,some 61,some 52] [0,7,10,11,52] rfl rfl rfl (fun K hK => ?_);push_cast (maxSteps := 9000000) [-partsQ,hx61,hx62,hx63,hx64,hb11];(repeat refine .intro (by omega) ?_);refine ⟨rfl,hK _ ?_⟩;clear hK K;refine VC.cond rfl rfl (fun hc12 => ?_) (fun hc12 => ?_)
        ·have hb12 : (s_10.used == s_10.fuel) = true := by simpa using hc12
         replace h := cond_yes hb12 h;obtain ⟨r13,hr13,h⟩ := po_some h;refine VC.seqF tabOkF [some 62,some 63] [0,7,10,11] rfl rfl (fun K hK => ?_);push_cast (maxSteps := 9000000) [-partsQ,hx61,hx62,hx63,hx64,hb11,hb12];(repeat refine .intro (by omega) ?_);refine callH (H := [(0,.box 109 [.sl false (s_10.p.Fns.map enc_Fn),.raw (.int .u32 (s_10.e.Ctx.a0.toNat : Int)),.raw (.int .u32 (s_10.e.Ctx.a1.toNat : Int)),.raw (.int .u32 (s_10.e.Ctx.a2.toNat : Int)),.raw (.int .u32 (s_10.e.Ctx.a3.toNat : Int)),.sl false (s_10.e.T.map enc_Table),.raw (.int .u32 (s_10.e.Seed.toNat : Int)),.raw (.int .i64 s_10.fuel),.raw (.int .i64 s_10.used),.raw (.int .i64 s_10.err)])]) (Ctr.loH (Ctr.ren Bij.id (c_interp_run_fail s_10 2 hr13) (by push_cast (maxSteps := 9000000) [-partsQ,hx61,hx62,hx63,hx64,hb11,hb12]) (by push_cast (maxSteps := 9000000) [-partsQ,hx61,hx62,hx63,hx64,hb11,hb12]))) (by push_cast (maxSteps := 9000000) [-partsQ,hx61,hx62,hx63,hx64,hb11,hb12]) rfl rfl rfl ?_;push_cast (maxSteps := 9000000) [-partsQ,hx61,hx62,hx63,hx64,hb11,hb12];(repeat refine .intro (by omega) ?_);refine hK _ ?_;clear hK K;refine VC.sub (s' := ⟨[(0,.ref 0 0),(7,.ref 5 0),(10,.ref 25 0),(11,.sl false (x6.Code.map enc_Inst))],[(0,.box 109 [.sl false (r13.p.Fns.map enc_Fn),.raw (.int .u32 (r13.e.Ctx.a0.toNat : Int)),.raw (.int .u32 (r13.e.Ctx.a1.toNat : Int)),.raw (.int .u32 (r13.e.Ctx.a2.toNat : Int)),.raw (.int .u32 (r13.e.Ctx.a3.toNat : Int)),.sl false (r13.e.T.map enc_Table),.raw (.int .u32 (r13.e.Seed.toNat : Int)),.raw (.int .i64 r13.fuel),.raw (.int .i64 r13.used),.raw (.int .i64 r13.err)]),(5,.box 124 (enc_interp_frame s_11 (.ref 0 0))),(25,.box 128 [.fn (.func 91) [] [],.fn (.func 92) [] [],.fn (.func 93) [] [],.fn (.func 93) [] [],.fn (.func 93) [] [],.fn (.func 94) [] [],.fn (.func 95) [] [],.fn (.func 96) [] []])],123,114,1⟩) (sof ?_ ?_ rfl rfl) ?_
         ·push_cast (maxSteps := 9000000) [-partsQ,hb11,hb12]
         ·push_cast (maxSteps := 9000000) [-partsQ,hb11,hb12]
         refine VC.exit ?_;refine Exists.intro ((r13,s_11)) (And.intro (Option.some.inj h).symm ?_);refine slo ?_ ?_ rfl rfl
         ·push_cast (maxSteps := 9000000) [-partsQ,hb11,hb12]
         ·push_cast (maxSteps := 9000000) [-partsQ,hb11,hb12]
        ·have hb12 : (s_10.used == s_10.fuel) = false := by simpa using hc12
         replace h := cond_no hb12 h;refine VC.seqF tabOkF [some 65,some 66,some 67,some 68,some 69,some 70,some 71,some 64] [0,7,10,11,64] rfl rfl (fun K hK => ?_);push_cast (maxSteps := 9000000) [-partsQ,hx61,hx62,hx63,hx64,hb11,hb12];(repeat refine .intro (by omega) ?_);refine hK _ ?_;clear hK K;refine VC.cond rfl rfl (fun hc14 => ?_) (fun hc14 => ?_)
         ·have hb14 : (decide (s_11.at_ ≥ (x6.Code.length : Int))) = true := by simpa using hc14
          replace h := cond_yes hb14 h;refine VC.seqF tabOkF [some 72,some 73,some 74,some 75,some 76,some 77,some 78,none] [0,7,10,11] rfl rfl (fun K hK => ?_);push_cast (maxSteps := 9000000) [-partsQ,hx61,hx62,hx63,hx64,hb11,hb12,hb14];(repeat refine .intro (by omega) ?_);refine hK _ ?_;clear hK K;obtain ⟨r15,hr15,h⟩ := po_some h;refine VC.seqF tabOkF [some 79,some 80] [0,7,10,11] rfl rfl (fun K hK => ?_);push_cast (maxSteps := 9000000) [-partsQ,hx61,hx62,hx63,hx64,hb11,hb12,hb14];(repeat refine .intro (by omega) ?_);refine callH (H := [(0,.box 109 [.sl false (s_10.p.Fns.map enc_Fn),.raw (.int .u32 (s_10.e.Ctx.a0.toNat : Int)),.raw (.int .u32 (s_10.e.Ctx.a1.toNat : Int)),.raw (.int .u32 (s_10.e.Ctx.a2.toNat : Int)),.raw (.int .u32 (s_10.e.Ctx.a3.toNat : Int)),.sl false (s_10.e.T.map enc_Table),.raw (.int .u32 (s_10.e.Seed.toNat : Int)),.raw (.int .i64 s_10.fuel),.raw (.int .i64 (IntKind.i64.wrap (s_10.used + 1))),.raw (.int .i64 s_10.err)])]) (Ctr.loH (Ctr.ren Bij.id (c_interp_run_fail (T_interp_run.mk s_10.p s_10.e s_10.fuel (IntKind.i64.wrap (s_10.used + 1)) s_10.err) 10 hr15) (by push_cast (maxSteps := 9000000) [-partsQ,hx61,hx62,hx63,hx64,hb11,hb12,hb14]) (by push_cast (maxSteps := 9000000) [-partsQ,hx61,hx62,hx63,hx64,hb11,hb12,hb14]))) (by push_cast (maxSteps := 9000000) [-partsQ,hx61,hx62,hx63,hx64,hb11,hb12,hb14]) rfl rfl rfl ?_;push_cast (maxSteps := 9000000) [-partsQ,hx61,hx62,hx63,hx64,hb11,hb12,hb14];(repeat refine .intro (by omega) ?_);refine hK _ ?_;clear hK K;refine VC.sub (s' := ⟨[(0,.ref 0 0),(7,.ref 5 0),(10,.ref 25 0),(11,.sl false (x6.Code.map enc_Inst))],[(0,.box 109 [.sl false (r15.p.Fns.map enc_Fn),.raw (.int .u32 (r15.e.Ctx.a0.toNat : Int)),.raw (.int .u32 (r15.e.Ctx.a1.toNat : Int)),.raw (.int .u32 (r15.e.Ctx.a2.toNat : Int)),.raw (.int .u32 (r15.e.Ctx.a3.toNat : Int)),.sl false (r15.e.T.map enc_Table),.raw (.int .u32 (r15.e.Seed.toNat : Int)),.raw (.int .i64 r15.fuel),.raw (.int .i64 r15.used),.raw (.int .i64 r15.err)]),(5,.box 124 (enc_interp_frame s_11 (.ref 0 0))),(25,.box 128 [.fn (.func 91) [] [],.fn (.func 92) [] [],.fn (.func 93) [] [],.fn (.func 93) [] [],.fn (.func 93) [] [],.fn (.func 94) [] [],.fn (.func 95) [] [],.fn (.func 96) [] []])],139,114,1⟩) (sof ?_ ?_ rfl rfl) ?_
          ·push_cast (maxSteps := 9000000) [-partsQ,hb11,hb12,hb14]
          ·push_cast (maxSteps := 9000000) [-partsQ,hb11,hb12,hb14]
          refine VC.exit ?_;refine Exists.intro ((r15,s_11)) (And.intro (Option.some.inj h).symm ?_);refine slo ?_ ?_ rfl rfl
          ·push_cast (maxSteps := 9000000) [-partsQ,hb11,hb12,hb14]
          ·push_cast (maxSteps := 9000000) [-partsQ,hb11,hb12,hb14]
         ·have hb14 : (decide (s_11.at_ ≥ (x6.Code.length : Int))) = false := by simpa using hc14
          replace h := cond_no hb14 h;refine VC.skip ?_;obtain ⟨x16,hx16,h⟩ := po_some h;obtain ⟨hx161,hx162,hx163,hx164⟩ := idx_some4 hx16;refine VC.seqF tabOkF [some 81,some 82,some 83,some 84,some 85,some 86,some 87,some 12,none] [0,7,10,11,12] rfl rfl (fun K hK => ?_);push_cast (maxSteps := 9000000) [-partsQ,hx61,hx62,hx63,hx64,hb11,hb12,hb14,hx161,hx162,hx163,hx164];(repeat refine .intro (by omega) ?_);refine hK _ ?_;clear hK K;refine VC.seqF tabOkF [some 88,some 89,some 90,some 91,some 92,some 93,some 94,none] [0,7,10,11,12] rfl rfl (fun K hK => ?_);push_cast (maxSteps := 9000000) [-partsQ,hx61,hx62,hx63,hx64,hb11,hb12,hb14,hx161,hx162,hx163,hx164];(repeat refine .intro (by omega) ?_);refine hK _ ?_;clear hK K;rcases Bool.eq_false_or_eq_true (x16.Op == 0) with hb17 | hb17
          ·as_aux_lemma =>
            replace h := cond_yes hb17 h;have hb17e : x16.Op = 0 := by simpa using hb17
            have hb17n : x16.Op.toNat = 0 := by omega
            obtain ⟨r18,hr18,h⟩ := po_some h;refine VC.seqFD tabOkF hmixO [some 95,some 96,some 97,some 98,some 99,some 100,some 101] [0,7,10,11] rfl rfl rfl (fun K hK => ?_);push_cast (maxSteps := 9000000) [-partsQ,hx61,hx62,hx63,hx64,hb11,hb12,hb14,hx161,hx162,hx163,hx164,hb17n];(repeat refine .intro (by omega) ?_);refine callHD (H := [(5,.box 124 (enc_interp_frame s_11 (.ref 0 0))),(0,.box 109 [.sl false (s_10.p.Fns.map enc_Fn),.raw (.int .u32 (s_10.e.Ctx.a0.toNat : Int)),.raw (.int .u32 (s_10.e.Ctx.a1.toNat : Int)),.raw (.int .u32 (s_10.e.Ctx.a2.toNat : Int)),.raw (.int .u32 (s_10.e.Ctx.a3.toNat : Int)),.sl false (s_10.e.T.map enc_Table),.raw (.int .u32 (s_10.e.Seed.toNat : Int)),.raw (.int .i64 s_10.fuel),.raw (.int .i64 (IntKind.i64.wrap (s_10.used + 1))),.raw (.int .i64 s_10.err)])]) (Ctr.loH (Ctr.ren (Bij.swp 1 0 (Bij.swp 0 5 Bij.id)) (c_interp_frame_alu s_11 (T_interp_run.mk s_10.p s_10.e s_10.fuel (IntKind.i64.wrap (s_10.used + 1)) s_10.err) x16 hr18) (by push_cast (maxSteps := 9000000) [-partsQ,hx61,hx62,hx63,hx64,hb11,hb12,hb14,hx161,hx162,hx163,hx164,hb17n]) (by push_cast (maxSteps := 9000000) [-partsQ,hx61,hx62,hx63,hx64,hb11,hb12,hb14,hx161,hx162,hx163,hx164,hb17n]))) (by push_cast (maxSteps := 9000000) [-partsQ,hx61,hx62,hx63,hx64,hb11,hb12,hb14,hx161,hx162,hx163,hx164,hb17n]) rfl rfl rfl ?_;push_cast (maxSteps := 9000000) [-partsQ,hx61,hx62,hx63,hx64,hb11,hb12,hb14,hx161,hx162,hx163,hx164,hb17n];(repeat refine .intro (by omega) ?_);refine ⟨rfl,hK _ ?_⟩;clear hK K;refine VC.sub (s' := ⟨[(0,.ref 0 0),(7,.ref 5 0),(10,.ref 25 0),(11,.sl false (x6.Code.map enc_Inst))],[(0,.box 109 [.sl false (r18.2.p.Fns.map enc_Fn),.raw (.int .u32 (r18.2.e.Ctx.a0.toNat : Int)),.raw (.int .u32 (r18.2.e.Ctx.a1.toNat : Int)),.raw (.int .u32 (r18.2.e.Ctx.a2.toNat : Int)),.raw (.int .u32 (r18.2.e.Ctx.a3.toNat : Int)),.sl false (r18.2.e.T.map enc_Table),.raw (.int .u32 (r18.2.e.Seed.toNat : Int)),.raw (.int .i64 r18.2.fuel),.raw (.int .i64 r18.2.used),.raw (.int .i64 r18.2.err)]),(5,.box 124 (enc_interp_frame r18.1 (.ref 0 0))),(25,.box 128 [.fn (.func 91) [] [],.fn (.func 92) [] [],.fn (.func 93) [] [],.fn (.func 93) [] [],.fn (.func 93) [] [],.fn (.func 94) [] [],.fn (.func 95) [] [],.fn (.func 96) [] []])],153,114,1⟩) (sof ?_ ?_ rfl rfl) ?_
            ·push_cast (maxSteps := 9000000) [-partsQ,hb11,hb12,hb14]
            ·push_cast (maxSteps := 9000000) [-partsQ,hb11,hb12,hb14]
            refine VC.lastF tabOkF [some 102,some 103,some 104,some 105,some 106,some 107,some 108,none] rfl rfl (fun K hK => ?_);push_cast (maxSteps := 9000000) [-partsQ,hx61,hx62,hx63,hx64,hb11,hb12,hb14,hx161,hx162,hx163,hx164,hb17n];(repeat refine .intro (by omega) ?_);refine hK _ ?_;clear hK K;refine Exists.intro ((r18.2,(T_interp_frame.mk r18.1.fn (IntKind.i64.wrap (r18.1.at_ + 1)) r18.1.regs r18.1.set r18.1.stack r18.1.over))) (And.intro (Option.some.inj h).symm ?_);refine slo ?_ ?_ rfl rfl
            ·push_cast (maxSteps := 9000000) [-partsQ,hb11,hb12,hb14]
            ·push_cast (maxSteps := 9000000) [-partsQ,hb11,hb12,hb14]
          ·replace h := cond_no hb17 h;rcases Bool.eq_false_or_eq_true (x16.Op == 1) with hb19 | hb19
           ·as_aux_lemma =>
             replace h := cond_yes hb19 h;have hb19e : x16.Op = 1 := by simpa using hb19
             have hb19n : x16.Op.toNat = 1 := by omega
             obtain ⟨r20,hr20,h⟩ := po_some h;refine VC.seqFD tabOkF hmixO [some 95,some 96,some 97,some 98,some 99,some 100,some 101] [0,7,10,11] rfl rfl rfl (fun K hK => ?_);push_cast (maxSteps := 9000000) [-partsQ,hx61,hx62,hx63,hx64,hb11,hb12,hb14,hx161,hx162,hx163,hx164,hb19n];(repeat refine .intro (by omega) ?_);refine callHD (H := [(5,.box 124 (enc_interp_frame s_11 (.ref 0 0))),(0,.box 109 [.sl false (s_10.p.Fns.map enc_Fn),.raw (.int .u32 (s_10.e.Ctx.a0.toNat : Int)),.raw (.int .u32 (s_10.e.Ctx.a1.toNat : Int)),.raw (.int .u32 (s_10.e.Ctx.a2.toNat : Int)),.raw (.int .u32 (s_10.e.Ctx.a3.toNat : Int)),.sl false (s_10.e.T.map enc_Table),.raw (.int .u32 (s_10.e.Seed.toNat : Int)),.raw (.int .i64 s_10.fuel),.raw (.int .i64 (IntKind.i64.wrap (s_10.used + 1))),.raw (.int .i64 s_10.err)])]) (Ctr.loH (Ctr.ren (Bij.swp 1 0 (Bij.swp 0 5 Bij.id)) (c_interp_frame_jump s_11 (T_interp_run.mk s_10.p s_10.e s_10.fuel (IntKind.i64.wrap (s_10.used + 1)) s_10.err) x16 hr20) (by push_cast (maxSteps := 9000000) [-partsQ,hx61,hx62,hx63,hx64,hb11,hb12,hb14,hx161,hx162,hx163,hx164,hb19n]) (by push_cast (maxSteps := 9000000) [-partsQ,hx61,hx62,hx63,hx64,hb11,hb12,hb14,hx161,hx162,hx163,hx164,hb19n]))) (by push_cast (maxSteps := 9000000) [-partsQ,hx61,hx62,hx63,hx64,hb11,hb12,hb14,hx161,hx162,hx163,hx164,hb19n]) rfl rfl rfl ?_;push_cast (maxSteps := 9000000) [-partsQ,hx61,hx62,hx63,hx64,hb11,hb12,hb14,hx161,hx162,hx163,hx164,hb19n];(repeat refine .intro (by omega) ?_);refine ⟨rfl,hK _ ?_⟩;clear hK K;refine VC.sub (s' := ⟨[(0,.ref 0 0),(7,.ref 5 0),(10,.ref 25 0),(11,.sl false (x6.Code.map enc_Inst))],[(0,.box 109 [.sl false (r20.2.p.Fns.map enc_Fn),.raw (.int .u32 (r20.2.e.Ctx.a0.toNat : Int)),.raw (.int .u32 (r20.2.e.Ctx.a1.toNat : Int)),.raw (.int .u32 (r20.2.e.Ctx.a2.toNat : Int)),.raw (.int .u32 (r20.2.e.Ctx.a3.toNat : Int)),.sl false (r20.2.e.T.map enc_Table),.raw (.int .u32 (r20.2.e.Seed.toNat : Int)),.raw (.int .i64 r20.2.fuel),.raw (.int .i64 r20.2.used),.raw (.int .i64 r20.2.err)]),(5,.box 124 (enc_interp_frame r20.1 (.ref 0 0))),(25,.box 128 [.fn (.func 91) [] [],.fn (.func 92) [] [],.fn (.func 93) [] [],.fn (.func 93) [] [],.fn (.func 93) [] [],.fn (.func 94) [] [],.fn (.func 95) [] [],.fn (.func 96) [] []])],153,114,1⟩) (sof ?_ ?_ rfl rfl) ?_
             ·push_cast (maxSteps := 9000000) [-partsQ,hb11,hb12,hb14]
             ·push_cast (maxSteps := 9000000) [-partsQ,hb11,hb12,hb14]
             refine VC.lastF tabOkF [some 102,some 103,some 104,some 105,some 106,some 107,some 108,none] rfl rfl (fun K hK => ?_);push_cast (maxSteps := 9000000) [-partsQ,hx61,hx62,hx63,hx64,hb11,hb12,hb14,hx161,hx162,hx163,hx164,hb19n];(repeat refine .intro (by omega) ?_);refine hK _ ?_;clear hK K;refine Exists.intro ((r20.2,(T_interp_frame.mk r20.1.fn (IntKind.i64.wrap (r20.1.at_ + 1)) r20.1.regs r20.1.set r20.1.stack r20.1.over))) (And.intro (Option.some.inj h).symm ?_);refine slo ?_ ?_ rfl rfl
             ·push_cast (maxSteps := 9000000) [-partsQ,hb11,hb12,hb14]
             ·push_cast (maxSteps := 9000000) [-partsQ,hb11,hb12,hb14]
           ·replace h := cond_no hb19 h;rcases Bool.eq_false_or_eq_true (x16.Op == 2) with hb21 | hb21
            ·as_aux_lemma =>
              replace h := cond_yes hb21 h;have hb21e : x16.Op = 2 := by simpa using hb21
              have hb21n : x16.Op.toNat = 2 := by omega
              obtain ⟨r22,hr22,h⟩ := po_some h;refine VC.seqFD tabOkF hmixO [some 95,some 96,some 97,some 98,some 99,some 100,some 101] [0,7,10,11] rfl rfl rfl (fun K hK => ?_);push_cast (maxSteps := 9000000) [-partsQ,hx61,hx62,hx63,hx64,hb11,hb12,hb14,hx161,hx162,hx163,hx164,hb21n];(repeat refine .intro (by omega) ?_);refine callHD (H := [(5,.box 124 (enc_interp_frame s_11 (.ref 0 0))),(0,.box 109 [.sl false (s_10.p.Fns.map enc_Fn),.raw (.int .u32 (s_10.e.Ctx.a0.toNat : Int)),.raw (.int .u32 (s_10.e.Ctx.a1.toNat : Int)),.raw (.int .u32 (s_10.e.Ctx.a2.toNat : Int)),.raw (.int .u32 (s_10.e.Ctx.a3.toNat : Int)),.sl false (s_10.e.T.map enc_Table),.raw (.int .u32 (s_10.e.Seed.toNat : Int)),.raw (.int .i64 s_10.fuel),.raw (.int .i64 (IntKind.i64.wrap (s_10.used + 1))),.raw (.int .i64 s_10.err)])]) (Ctr.loH (Ctr.ren (Bij.swp 1 0 (Bij.swp 0 5 Bij.id)) (c_interp_frame_words s_11 (T_interp_run.mk s_10.p s_10.e s_10.fuel (IntKind.i64.wrap (s_10.used + 1)) s_10.err) x16 hr22) (by push_cast (maxSteps := 9000000) [-partsQ,hx61,hx62,hx63,hx64,hb11,hb12,hb14,hx161,hx162,hx163,hx164,hb21n]) (by push_cast (maxSteps := 9000000) [-partsQ,hx61,hx62,hx63,hx64,hb11,hb12,hb14,hx161,hx162,hx163,hx164,hb21n]))) (by push_cast (maxSteps := 9000000) [-partsQ,hx61,hx62,hx63,hx64,hb11,hb12,hb14,hx161,hx162,hx163,hx164,hb21n]) rfl rfl rfl ?_;push_cast (maxSteps := 9000000) [-partsQ,hx61,hx62,hx63,hx64,hb11,hb12,hb14,hx161,hx162,hx163,hx164,hb21n];(repeat refine .intro (by omega) ?_);refine ⟨rfl,hK _ ?_⟩;clear hK K;refine VC.sub (s' := ⟨[(0,.ref 0 0),(7,.ref 5 0),(10,.ref 25 0),(11,.sl false (x6.Code.map enc_Inst))],[(0,.box 109 [.sl false (r22.2.p.Fns.map enc_Fn),.raw (.int .u32 (r22.2.e.Ctx.a0.toNat : Int)),.raw (.int .u32 (r22.2.e.Ctx.a1.toNat : Int)),.raw (.int .u32 (r22.2.e.Ctx.a2.toNat : Int)),.raw (.int .u32 (r22.2.e.Ctx.a3.toNat : Int)),.sl false (r22.2.e.T.map enc_Table),.raw (.int .u32 (r22.2.e.Seed.toNat : Int)),.raw (.int .i64 r22.2.fuel),.raw (.int .i64 r22.2.used),.raw (.int .i64 r22.2.err)]),(5,.box 124 (enc_interp_frame r22.1 (.ref 0 0))),(25,.box 128 [.fn (.func 91) [] [],.fn (.func 92) [] [],.fn (.func 93) [] [],.fn (.func 93) [] [],.fn (.func 93) [] [],.fn (.func 94) [] [],.fn (.func 95) [] [],.fn (.func 96) [] []])],153,114,1⟩) (sof ?_ ?_ rfl rfl) ?_
              ·push_cast (maxSteps := 9000000) [-partsQ,hb11,hb12,hb14]
              ·push_cast (maxSteps := 9000000) [-partsQ,hb11,hb12,hb14]
              refine VC.lastF tabOkF [some 102,some 103,some 104,some 105,some 106,some 107,some 108,none] rfl rfl (fun K hK => ?_);push_cast (maxSteps := 9000000) [-partsQ,hx61,hx62,hx63,hx64,hb11,hb12,hb14,hx161,hx162,hx163,hx164,hb21n];(repeat refine .intro (by omega) ?_);refine hK _ ?_;clear hK K;refine Exists.intro ((r22.2,(T_interp_frame.mk r22.1.fn (IntKind.i64.wrap (r22.1.at_ + 1)) r22.1.regs r22.1.set r22.1.stack r22.1.over))) (And.intro (Option.some.inj h).symm ?_);refine slo ?_ ?_ rfl rfl
              ·push_cast (maxSteps := 9000000) [-partsQ,hb11,hb12,hb14]
              ·push_cast (maxSteps := 9000000) [-partsQ,hb11,hb12,hb14]
            ·replace h := cond_no hb21 h;rcases Bool.eq_false_or_eq_true (x16.Op == 3) with hb23 | hb23
             ·as_aux_lemma =>
               replace h := cond_yes hb23 h;have hb23e : x16.Op = 3 := by simpa using hb23
               have hb23n : x16.Op.toNat = 3 := by omega
               obtain ⟨r24,hr24,h⟩ := po_some h;refine VC.seqFD tabOkF hmixO [some 95,some 96,some 97,some 98,some 99,some 100,some 101] [0,7,10,11] rfl rfl rfl (fun K hK => ?_);push_cast (maxSteps := 9000000) [-partsQ,hx61,hx62,hx63,hx64,hb11,hb12,hb14,hx161,hx162,hx163,hx164,hb23n];(repeat refine .intro (by omega) ?_);refine callHD (H := [(5,.box 124 (enc_interp_frame s_11 (.ref 0 0))),(0,.box 109 [.sl false (s_10.p.Fns.map enc_Fn),.raw (.int .u32 (s_10.e.Ctx.a0.toNat : Int)),.raw (.int .u32 (s_10.e.Ctx.a1.toNat : Int)),.raw (.int .u32 (s_10.e.Ctx.a2.toNat : Int)),.raw (.int .u32 (s_10.e.Ctx.a3.toNat : Int)),.sl false (s_10.e.T.map enc_Table),.raw (.int .u32 (s_10.e.Seed.toNat : Int)),.raw (.int .i64 s_10.fuel),.raw (.int .i64 (IntKind.i64.wrap (s_10.used + 1))),.raw (.int .i64 s_10.err)])]) (Ctr.loH (Ctr.ren (Bij.swp 1 0 (Bij.swp 0 5 Bij.id)) (c_interp_frame_words s_11 (T_interp_run.mk s_10.p s_10.e s_10.fuel (IntKind.i64.wrap (s_10.used + 1)) s_10.err) x16 hr24) (by push_cast (maxSteps := 9000000) [-partsQ,hx61,hx62,hx63,hx64,hb11,hb12,hb14,hx161,hx162,hx163,hx164,hb23n]) (by push_cast (maxSteps := 9000000) [-partsQ,hx61,hx62,hx63,hx64,hb11,hb12,hb14,hx161,hx162,hx163,hx164,hb23n]))) (by push_cast (maxSteps := 9000000) [-partsQ,hx61,hx62,hx63,hx64,hb11,hb12,hb14,hx161,hx162,hx163,hx164,hb23n]) rfl rfl rfl ?_;push_cast (maxSteps := 9000000) [-partsQ,hx61,hx62,hx63,hx64,hb11,hb12,hb14,hx161,hx162,hx163,hx164,hb23n];(repeat refine .intro (by omega) ?_);refine ⟨rfl,hK _ ?_⟩;clear hK K;refine VC.sub (s' := ⟨[(0,.ref 0 0),(7,.ref 5 0),(10,.ref 25 0),(11,.sl false (x6.Code.map enc_Inst))],[(0,.box 109 [.sl false (r24.2.p.Fns.map enc_Fn),.raw (.int .u32 (r24.2.e.Ctx.a0.toNat : Int)),.raw (.int .u32 (r24.2.e.Ctx.a1.toNat : Int)),.raw (.int .u32 (r24.2.e.Ctx.a2.toNat : Int)),.raw (.int .u32 (r24.2.e.Ctx.a3.toNat : Int)),.sl false (r24.2.e.T.map enc_Table),.raw (.int .u32 (r24.2.e.Seed.toNat : Int)),.raw (.int .i64 r24.2.fuel),.raw (.int .i64 r24.2.used),.raw (.int .i64 r24.2.err)]),(5,.box 124 (enc_interp_frame r24.1 (.ref 0 0))),(25,.box 128 [.fn (.func 91) [] [],.fn (.func 92) [] [],.fn (.func 93) [] [],.fn (.func 93) [] [],.fn (.func 93) [] [],.fn (.func 94) [] [],.fn (.func 95) [] [],.fn (.func 96) [] []])],153,114,1⟩) (sof ?_ ?_ rfl rfl) ?_
               ·push_cast (maxSteps := 9000000) [-partsQ,hb11,hb12,hb14]
               ·push_cast (maxSteps := 9000000) [-partsQ,hb11,hb12,hb14]
               refine VC.lastF tabOkF [some 102,some 103,some 104,some 105,some 106,some 107,some 108,none] rfl rfl (fun K hK => ?_);push_cast (maxSteps := 9000000) [-partsQ,hx61,hx62,hx63,hx64,hb11,hb12,hb14,hx161,hx162,hx163,hx164,hb23n];(repeat refine .intro (by omega) ?_);refine hK _ ?_;clear hK K;refine Exists.intro ((r24.2,(T_interp_frame.mk r24.1.fn (IntKind.i64.wrap (r24.1.at_ + 1)) r24.1.regs r24.1.set r24.1.stack r24.1.over))) (And.intro (Option.some.inj h).symm ?_);refine slo ?_ ?_ rfl rfl
               ·push_cast (maxSteps := 9000000) [-partsQ,hb11,hb12,hb14]
               ·push_cast (maxSteps := 9000000) [-partsQ,hb11,hb12,hb14]
             ·replace h := cond_no hb23 h;rcases Bool.eq_false_or_eq_true (x16.Op == 4) with hb25 | hb25
              ·as_aux_lemma =>
                replace h := cond_yes hb25 h;have hb25e : x16.Op = 4 := by simpa using hb25
                have hb25n : x16.Op.toNat = 4 := by omega
                obtain ⟨r26,hr26,h⟩ := po_some h;refine VC.seqFD tabOkF hmixO [some 95,some 96,some 97,some 98,some 99,some 100,some 101] [0,7,10,11] rfl rfl rfl (fun K hK => ?_);push_cast (maxSteps := 9000000) [-partsQ,hx61,hx62,hx63,hx64,hb11,hb12,hb14,hx161,hx162,hx163,hx164,hb25n];(repeat refine .intro (by omega) ?_);refine callHD (H := [(5,.box 124 (enc_interp_frame s_11 (.ref 0 0))),(0,.box 109 [.sl false (s_10.p.Fns.map enc_Fn),.raw (.int .u32 (s_10.e.Ctx.a0.toNat : Int)),.raw (.int .u32 (s_10.e.Ctx.a1.toNat : Int)),.raw (.int .u32 (s_10.e.Ctx.a2.toNat : Int)),.raw (.int .u32 (s_10.e.Ctx.a3.toNat : Int)),.sl false (s_10.e.T.map enc_Table),.raw (.int .u32 (s_10.e.Seed.toNat : Int)),.raw (.int .i64 s_10.fuel),.raw (.int .i64 (IntKind.i64.wrap (s_10.used + 1))),.raw (.int .i64 s_10.err)])]) (Ctr.loH (Ctr.ren (Bij.swp 1 0 (Bij.swp 0 5 Bij.id)) (c_interp_frame_words s_11 (T_interp_run.mk s_10.p s_10.e s_10.fuel (IntKind.i64.wrap (s_10.used + 1)) s_10.err) x16 hr26) (by push_cast (maxSteps := 9000000) [-partsQ,hx61,hx62,hx63,hx64,hb11,hb12,hb14,hx161,hx162,hx163,hx164,hb25n]) (by push_cast (maxSteps := 9000000) [-partsQ,hx61,hx62,hx63,hx64,hb11,hb12,hb14,hx161,hx162,hx163,hx164,hb25n]))) (by push_cast (maxSteps := 9000000) [-partsQ,hx61,hx62,hx63,hx64,hb11,hb12,hb14,hx161,hx162,hx163,hx164,hb25n]) rfl rfl rfl ?_;push_cast (maxSteps := 9000000) [-partsQ,hx61,hx62,hx63,hx64,hb11,hb12,hb14,hx161,hx162,hx163,hx164,hb25n];(repeat refine .intro (by omega) ?_);refine ⟨rfl,hK _ ?_⟩;clear hK K;refine VC.sub (s' := ⟨[(0,.ref 0 0),(7,.ref 5 0),(10,.ref 25 0),(11,.sl false (x6.Code.map enc_Inst))],[(0,.box 109 [.sl false (r26.2.p.Fns.map enc_Fn),.raw (.int .u32 (r26.2.e.Ctx.a0.toNat : Int)),.raw (.int .u32 (r26.2.e.Ctx.a1.toNat : Int)),.raw (.int .u32 (r26.2.e.Ctx.a2.toNat : Int)),.raw (.int .u32 (r26.2.e.Ctx.a3.toNat : Int)),.sl false (r26.2.e.T.map enc_Table),.raw (.int .u32 (r26.2.e.Seed.toNat : Int)),.raw (.int .i64 r26.2.fuel),.raw (.int .i64 r26.2.used),.raw (.int .i64 r26.2.err)]),(5,.box 124 (enc_interp_frame r26.1 (.ref 0 0))),(25,.box 128 [.fn (.func 91) [] [],.fn (.func 92) [] [],.fn (.func 93) [] [],.fn (.func 93) [] [],.fn (.func 93) [] [],.fn (.func 94) [] [],.fn (.func 95) [] [],.fn (.func 96) [] []])],153,114,1⟩) (sof ?_ ?_ rfl rfl) ?_
                ·push_cast (maxSteps := 9000000) [-partsQ,hb11,hb12,hb14]
                ·push_cast (maxSteps := 9000000) [-partsQ,hb11,hb12,hb14]
                refine VC.lastF tabOkF [some 102,some 103,some 104,some 105,some 106,some 107,some 108,none] rfl rfl (fun K hK => ?_);push_cast (maxSteps := 9000000) [-partsQ,hx61,hx62,hx63,hx64,hb11,hb12,hb14,hx161,hx162,hx163,hx164,hb25n];(repeat refine .intro (by omega) ?_);refine hK _ ?_;clear hK K;refine Exists.intro ((r26.2,(T_interp_frame.mk r26.1.fn (IntKind.i64.wrap (r26.1.at_ + 1)) r26.1.regs r26.1.set r26.1.stack r26.1.over))) (And.intro (Option.some.inj h).symm ?_);refine slo ?_ ?_ rfl rfl
                ·push_cast (maxSteps := 9000000) [-partsQ,hb11,hb12,hb14]
                ·push_cast (maxSteps := 9000000) [-partsQ,hb11,hb12,hb14]
              ·replace h := cond_no hb25 h;rcases Bool.eq_false_or_eq_true (x16.Op == 5) with hb27 | hb27
               ·as_aux_lemma =>
                 replace h := cond_yes hb27 h;have hb27e : x16.Op = 5 := by simpa using hb27
                 have hb27n : x16.Op.toNat = 5 := by omega
                 obtain ⟨r28,hr28,h⟩ := po_some h;refine VC.seqFD tabOkF hmixO [some 95,some 96,some 97,some 98,some 99,some 100,some 101] [0,7,10,11] rfl rfl rfl (fun K hK => ?_);push_cast (maxSteps := 9000000) [-partsQ,hx61,hx62,hx63,hx64,hb11,hb12,hb14,hx161,hx162,hx163,hx164,hb27n];(repeat refine .intro (by omega) ?_);refine callHD (H := [(5,.box 124 (enc_interp_frame s_11 (.ref 0 0))),(0,.box 109 [.sl false (s_10.p.Fns.map enc_Fn),.raw (.int .u32 (s_10.e.Ctx.a0.toNat : Int)),.raw (.int .u32 (s_10.e.Ctx.a1.toNat : Int)),.raw (.int .u32 (s_10.e.Ctx.a2.toNat : Int)),.raw (.int .u32 (s_10.e.Ctx.a3.toNat : Int)),.sl false (s_10.e.T.map enc_Table),.raw (.int .u32 (s_10.e.Seed.toNat : Int)),.raw (.int .i64 s_10.fuel),.raw (.int .i64 (IntKind.i64.wrap (s_10.used + 1))),.raw (.int .i64 s_10.err)])]) (Ctr.loH (Ctr.ren (Bij.swp 1 0 (Bij.swp 0 5 Bij.id)) (c_interp_frame_help s_11 (T_interp_run.mk s_10.p s_10.e s_10.fuel (IntKind.i64.wrap (s_10.used + 1)) s_10.err) x16 hr28) (by push_cast (maxSteps := 9000000) [-partsQ,hx61,hx62,hx63,hx64,hb11,hb12,hb14,hx161,hx162,hx163,hx164,hb27n]) (by push_cast (maxSteps := 9000000) [-partsQ,hx61,hx62,hx63,hx64,hb11,hb12,hb14,hx161,hx162,hx163,hx164,hb27n]))) (by push_cast (maxSteps := 9000000) [-partsQ,hx61,hx62,hx63,hx64,hb11,hb12,hb14,hx161,hx162,hx163,hx164,hb27n]) rfl rfl rfl ?_;push_cast (maxSteps := 9000000) [-partsQ,hx61,hx62,hx63,hx64,hb11,hb12,hb14,hx161,hx162,hx163,hx164,hb27n];(repeat refine .intro (by omega) ?_);refine ⟨rfl,hK _ ?_⟩;clear hK K;refine VC.sub (s' := ⟨[(0,.ref 0 0),(7,.ref 5 0),(10,.ref 25 0),(11,.sl false (x6.Code.map enc_Inst))],[(0,.box 109 [.sl false (r28.2.p.Fns.map enc_Fn),.raw (.int .u32 (r28.2.e.Ctx.a0.toNat : Int)),.raw (.int .u32 (r28.2.e.Ctx.a1.toNat : Int)),.raw (.int .u32 (r28.2.e.Ctx.a2.toNat : Int)),.raw (.int .u32 (r28.2.e.Ctx.a3.toNat : Int)),.sl false (r28.2.e.T.map enc_Table),.raw (.int .u32 (r28.2.e.Seed.toNat : Int)),.raw (.int .i64 r28.2.fuel),.raw (.int .i64 r28.2.used),.raw (.int .i64 r28.2.err)]),(5,.box 124 (enc_interp_frame r28.1 (.ref 0 0))),(25,.box 128 [.fn (.func 91) [] [],.fn (.func 92) [] [],.fn (.func 93) [] [],.fn (.func 93) [] [],.fn (.func 93) [] [],.fn (.func 94) [] [],.fn (.func 95) [] [],.fn (.func 96) [] []])],153,114,1⟩) (sof ?_ ?_ rfl rfl) ?_
                 ·push_cast (maxSteps := 9000000) [-partsQ,hb11,hb12,hb14]
                 ·push_cast (maxSteps := 9000000) [-partsQ,hb11,hb12,hb14]
                 refine VC.lastF tabOkF [some 102,some 103,some 104,some 105,some 106,some 107,some 108,none] rfl rfl (fun K hK => ?_);push_cast (maxSteps := 9000000) [-partsQ,hx61,hx62,hx63,hx64,hb11,hb12,hb14,hx161,hx162,hx163,hx164,hb27n];(repeat refine .intro (by omega) ?_);refine hK _ ?_;clear hK K;refine Exists.intro ((r28.2,(T_interp_frame.mk r28.1.fn (IntKind.i64.wrap (r28.1.at_ + 1)) r28.1.regs r28.1.set r28.1.stack r28.1.over))) (And.intro (Option.some.inj h).symm ?_);refine slo ?_ ?_ rfl rfl
                 ·push_cast (maxSteps := 9000000) [-partsQ,hb11,hb12,hb14]
                 ·push_cast (maxSteps := 9000000) [-partsQ,hb11,hb12,hb14]
               ·replace h := cond_no hb27 h;rcases Bool.eq_false_or_eq_true (x16.Op == 6) with hb29 | hb29
                ·as_aux_lemma =>
                  replace h := cond_yes hb29 h;have hb29e : x16.Op = 6 := by simpa using hb29
                  have hb29n : x16.Op.toNat = 6 := by omega
                  obtain ⟨r30,hr30,h⟩ := po_some h;refine VC.seqFD tabOkF hmixO [some 95,some 96,some 97,some 98,some 99,some 100,some 101] [0,7,10,11] rfl rfl rfl (fun K hK => ?_);push_cast (maxSteps := 9000000) [-partsQ,hx61,hx62,hx63,hx64,hb11,hb12,hb14,hx161,hx162,hx163,hx164,hb29n];(repeat refine .intro (by omega) ?_);refine callHD (H := [(5,.box 124 (enc_interp_frame s_11 (.ref 0 0))),(0,.box 109 [.sl false (s_10.p.Fns.map enc_Fn),.raw (.int .u32 (s_10.e.Ctx.a0.toNat : Int)),.raw (.int .u32 (s_10.e.Ctx.a1.toNat : Int)),.raw (.int .u32 (s_10.e.Ctx.a2.toNat : Int)),.raw (.int .u32 (s_10.e.Ctx.a3.toNat : Int)),.sl false (s_10.e.T.map enc_Table),.raw (.int .u32 (s_10.e.Seed.toNat : Int)),.raw (.int .i64 s_10.fuel),.raw (.int .i64 (IntKind.i64.wrap (s_10.used + 1))),.raw (.int .i64 s_10.err)])]) (Ctr.loH (Ctr.ren (Bij.swp 1 0 (Bij.swp 0 5 Bij.id)) (c_interp_frame_call pf hpf s_11 (T_interp_run.mk s_10.p s_10.e s_10.fuel (IntKind.i64.wrap (s_10.used + 1)) s_10.err) x16 hr30) (by push_cast (maxSteps := 9000000) [-partsQ,hx61,hx62,hx63,hx64,hb11,hb12,hb14,hx161,hx162,hx163,hx164,hb29n]) (by push_cast (maxSteps := 9000000) [-partsQ,hx61,hx62,hx63,hx64,hb11,hb12,hb14,hx161,hx162,hx163,hx164,hb29n]))) (by push_cast (maxSteps := 9000000) [-partsQ,hx61,hx62,hx63,hx64,hb11,hb12,hb14,hx161,hx162,hx163,hx164,hb29n]) rfl rfl rfl ?_;push_cast (maxSteps := 9000000) [-partsQ,hx61,hx62,hx63,hx64,hb11,hb12,hb14,hx161,hx162,hx163,hx164,hb29n];(repeat refine .intro (by omega) ?_);refine ⟨rfl,hK _ ?_⟩;clear hK K;refine VC.sub (s' := ⟨[(0,.ref 0 0),(7,.ref 5 0),(10,.ref 25 0),(11,.sl false (x6.Code.map enc_Inst))],[(0,.box 109 [.sl false (r30.2.p.Fns.map enc_Fn),.raw (.int .u32 (r30.2.e.Ctx.a0.toNat : Int)),.raw (.int .u32 (r30.2.e.Ctx.a1.toNat : Int)),.raw (.int .u32 (r30.2.e.Ctx.a2.toNat : Int)),.raw (.int .u32 (r30.2.e.Ctx.a3.toNat : Int)),.sl false (r30.2.e.T.map enc_Table),.raw (.int .u32 (r30.2.e.Seed.toNat : Int)),.raw (.int .i64 r30.2.fuel),.raw (.int .i64 r30.2.used),.raw (.int .i64 r30.2.err)]),(5,.box 124 (enc_interp_frame r30.1 (.ref 0 0))),(25,.box 128 [.fn (.func 91) [] [],.fn (.func 92) [] [],.fn (.func 93) [] [],.fn (.func 93) [] [],.fn (.func 93) [] [],.fn (.func 94) [] [],.fn (.func 95) [] [],.fn (.func 96) [] []])],153,114,1⟩) (sof ?_ ?_ rfl rfl) ?_
                  ·push_cast (maxSteps := 9000000) [-partsQ,hb11,hb12,hb14]
                  ·push_cast (maxSteps := 9000000) [-partsQ,hb11,hb12,hb14]
                  refine VC.lastF tabOkF [some 102,some 103,some 104,some 105,some 106,some 107,some 108,none] rfl rfl (fun K hK => ?_);push_cast (maxSteps := 9000000) [-partsQ,hx61,hx62,hx63,hx64,hb11,hb12,hb14,hx161,hx162,hx163,hx164,hb29n];(repeat refine .intro (by omega) ?_);refine hK _ ?_;clear hK K;refine Exists.intro ((r30.2,(T_interp_frame.mk r30.1.fn (IntKind.i64.wrap (r30.1.at_ + 1)) r30.1.regs r30.1.set r30.1.stack r30.1.over))) (And.intro (Option.some.inj h).symm ?_);refine slo ?_ ?_ rfl rfl
                  ·push_cast (maxSteps := 9000000) [-partsQ,hb11,hb12,hb14]
                  ·push_cast (maxSteps := 9000000) [-partsQ,hb11,hb12,hb14]
                ·replace h := cond_no hb29 h;rcases Bool.eq_false_or_eq_true (x16.Op == 7) with hb31 | hb31
                 ·as_aux_lemma =>
                   replace h := cond_yes hb31 h;have hb31e : x16.Op = 7 := by simpa using hb31
                   have hb31n : x16.Op.toNat = 7 := by omega
                   obtain ⟨r32,hr32,h⟩ := po_some h;refine VC.seqFD tabOkF hmixO [some 95,some 96,some 97,some 98,some 99,some 100,some 101] [0,7,10,11] rfl rfl rfl (fun K hK => ?_);push_cast (maxSteps := 9000000) [-partsQ,hx61,hx62,hx63,hx64,hb11,hb12,hb14,hx161,hx162,hx163,hx164,hb31n];(repeat refine .intro (by omega) ?_);refine callHD (H := [(5,.box 124 (enc_interp_frame s_11 (.ref 0 0))),(0,.box 109 [.sl false (s_10.p.Fns.map enc_Fn),.raw (.int .u32 (s_10.e.Ctx.a0.toNat : Int)),.raw (.int .u32 (s_10.e.Ctx.a1.toNat : Int)),.raw (.int .u32 (s_10.e.Ctx.a2.toNat : Int)),.raw (.int .u32 (s_10.e.Ctx.a3.toNat : Int)),.sl false (s_10.e.T.map enc_Table),.raw (.int .u32 (s_10.e.Seed.toNat : Int)),.raw (.int .i64 s_10.fuel),.raw (.int .i64 (IntKind.i64.wrap (s_10.used + 1))),.raw (.int .i64 s_10.err)])]) (Ctr.loH (Ctr.ren (Bij.swp 1 0 (Bij.swp 0 5 Bij.id)) (c_interp_frame_exit s_11 (T_interp_run.mk s_10.p s_10.e s_10.fuel (IntKind.i64.wrap (s_10.used + 1)) s_10.err) x16 hr32) (by push_cast (maxSteps := 9000000) [-partsQ,hx61,hx62,hx63,hx64,hb11,hb12,hb14,hx161,hx162,hx163,hx164,hb31n]) (by push_cast (maxSteps := 9000000) [-partsQ,hx61,hx62,hx63,hx64,hb11,hb12,hb14,hx161,hx162,hx163,hx164,hb31n]))) (by push_cast (maxSteps := 9000000) [-partsQ,hx61,hx62,hx63,hx64,hb11,hb12,hb14,hx161,hx162,hx163,hx164,hb31n]) rfl rfl rfl ?_;push_cast (maxSteps := 9000000) [-partsQ,hx61,hx62,hx63,hx64,hb11,hb12,hb14,hx161,hx162,hx163,hx164,hb31n];(repeat refine .intro (by omega) ?_);refine ⟨rfl,hK _ ?_⟩;clear hK K;refine VC.sub (s' := ⟨[(0,.ref 0 0),(7,.ref 5 0),(10,.ref 25 0),(11,.sl false (x6.Code.map enc_Inst))],[(0,.box 109 [.sl false (r32.2.p.Fns.map enc_Fn),.raw (.int .u32 (r32.2.e.Ctx.a0.toNat : Int)),.raw (.int .u32 (r32.2.e.Ctx.a1.toNat : Int)),.raw (.int .u32 (r32.2.e.Ctx.a2.toNat : Int)),.raw (.int .u32 (r32.2.e.Ctx.a3.toNat : Int)),.sl false (r32.2.e.T.map enc_Table),.raw (.int .u32 (r32.2.e.Seed.toNat : Int)),.raw (.int .i64 r32.2.fuel),.raw (.int .i64 r32.2.used),.raw (.int .i64 r32.2.err)]),(5,.box 124 (enc_interp_frame r32.1 (.ref 0 0))),(25,.box 128 [.fn (.func 91) [] [],.fn (.func 92) [] [],.fn (.func 93) [] [],.fn (.func 93) [] [],.fn (.func 93) [] [],.fn (.func 94) [] [],.fn (.func 95) [] [],.fn (.func 96) [] []])],153,114,1⟩) (sof ?_ ?_ rfl rfl) ?_
                   ·push_cast (maxSteps := 9000000) [-partsQ,hb11,hb12,hb14]
                   ·push_cast (maxSteps := 9000000) [-partsQ,hb11,hb12,hb14]
                   refine VC.lastF tabOkF [some 102,some 103,some 104,some 105,some 106,some 107,some 108,none] rfl rfl (fun K hK => ?_);push_cast (maxSteps := 9000000) [-partsQ,hx61,hx62,hx63,hx64,hb11,hb12,hb14,hx161,hx162,hx163,hx164,hb31n];(repeat refine .intro (by omega) ?_);refine hK _ ?_;clear hK K;refine Exists.intro ((r32.2,(T_interp_frame.mk r32.1.fn (IntKind.i64.wrap (r32.1.at_ + 1)) r32.1.regs r32.1.set r32.1.stack r32.1.over))) (And.intro (Option.some.inj h).symm ?_);refine slo ?_ ?_ rfl rfl
                   ·push_cast (maxSteps := 9000000) [-partsQ,hb11,hb12,hb14]
                   ·push_cast (maxSteps := 9000000) [-partsQ,hb11,hb12,hb14]
                 ·replace h := cond_no hb31 h;cases h
       ·have hb11 : i_12 = false := by simpa using hc11
        replace h := cond_no hb11 h;refine VC.exit ?_;replace h := congrArg some (hf8 _ (Option.some.inj h).symm);have hv := Option.some.inj h;rw [← hv] at hk7;refine Exists.intro ((s_10,s_11)) (And.intro hk7 ?_);refine slo ?_ ?_ rfl rfl
        ·push_cast (maxSteps := 9000000) [-partsQ,hb11]
        ·push_cast (maxSteps := 9000000) [-partsQ,hb11]
   ·as_aux_lemma =>
     rintro ⟨s_15,s_16⟩ h;replace h : p_interp_run_frame_S_J7 s_15 s_16 = some r := h;(try push_cast (maxSteps := 9000000) [-partsQ]);unfold p_interp_run_frame_S_J7 at h;refine VC.seqF tabOkF [some 109,some 110,some 111,some 112,some 113,some 6] [6] rfl rfl (fun K hK => ?_);push_cast (maxSteps := 9000000) [-partsQ,hx61,hx62,hx63,hx64];(repeat refine .intro (by omega) ?_);refine hK _ ?_;clear hK K;refine VC.ret ?_;have hr := Option.some.inj h;subst hr;refine endP (Sub.lo _) (Post.ret ?_ ?_ ?_)
     ·push_cast (maxSteps := 9000000) [-partsQ]
     ·push_cast (maxSteps := 9000000) [-partsQ]
     ·rfl
noncomputable def p_interp_run_frame : Nat → T_interp_run → Int → (List UInt32) → Option (UInt32 × T_interp_run)
  | 0 => fun _ _ _ => none
  | d + 1 => p_interp_run_frame_S (p_interp_run_frame d)
theorem c_interp_run_frame : ∀ (d : Nat) (a0 : T_interp_run) (a1 : Int) (a2 : (List UInt32)) {r : UInt32 × T_interp_run} (h : p_interp_run_frame d a0 a1 a2 = some r), Ctr prog 79 [.ref 0 0, .raw (.int .i64 a1), .sl false (a2.map encU32)] [(0, .box 109 (enc_interp_run a0))] (.raw (.int .u32 (r.1.toNat : Int))) [(0, .box 109 (enc_interp_run r.2))]
  | 0, a0, a1, a2, r, h => (by cases h)
  | d + 1, a0, a1, a2, r, h => c_interp_run_frame_S (p_interp_run_frame d) (fun a0 a1 a2 r h => c_interp_run_frame d a0 a1 a2 h) a0 a1 a2 h
abbrev PF := T_interp_run → Int → (List UInt32) → Option (UInt32 × T_interp_run)
noncomputable def stepR (pf : PF) (x : T_Fn) (s : Rn × Fra) : Option ((Rn × Fra) ⊕ (Rn × Fra)) := p_interp_run_frame_S_L8 pf x s.1 s.2
noncomputable def callS (pf : PF) (f : Fra) (p : T_Prog) (e : T_Env) (fu us : Int) (i : T_Inst) : Option (Fra × Rn) :=
  match p.Fns[i.Imm.toNat]? with
  | none => some (f, ⟨p, e, fu, us, 10⟩)
  | some g => if (i.Imm.toNat : Int) ≤ f.fn then some (f, ⟨p, e, fu, us, 10⟩)
    else if handE f 0 g.Args.toNat ≠ 0 then some (f, ⟨p, e, fu, us, handE f 0 g.Args.toNat⟩)
    else match pf ⟨p, e, fu, us, 0⟩ (i.Imm.toNat : Int) (handV f g.Args.toNat) with
      | none => none
      | some q => some (backF f q.1, q.2)
theorem callS_is {pf : PF} {f : Fra} {p : T_Prog} {e : T_Env} {fu us : Int} {i : T_Inst} (hp : ProgOk p) : p_interp_frame_call pf f ⟨p, e, fu, us, 0⟩ i = callS pf f p e fu us i := by
  have hl := hp.len
  have hL : IntKind.u64.wrap (p.Fns.length : Int) = (p.Fns.length : Int) := by rw [IntKind.wrap_u64]; omega
  unfold p_interp_frame_call callS
  simp only [w64u, hL]
  have bad : p_interp_frame_call_J1 pf f ⟨p, e, fu, us, 0⟩ i true = some (f, ⟨p, e, fu, us, 10⟩) := by
    simp only [p_interp_frame_call_J1, cond_true, fail_is, po_of]
    rfl
  by_cases h1 : p.Fns.length ≤ i.Imm.toNat
  · have d : decide ((i.Imm.toNat : Int) ≥ (p.Fns.length : Int)) = true := by simp; omega
    rw [List.getElem?_eq_none h1]
    simp only [d, cond_true, po_of, bad]
  · have d : decide ((i.Imm.toNat : Int) ≥ (p.Fns.length : Int)) = false := by simp; omega
    obtain ⟨g, hg⟩ : ∃ g, p.Fns[i.Imm.toNat]? = some g := ⟨_, List.getElem?_eq_getElem (by omega)⟩
    rw [hg]
    simp only [d, cond_false, po_of]
    by_cases h2 : (i.Imm.toNat : Int) ≤ f.fn
    · simp only [decide_eq_true h2, bad, if_pos h2]
    · simp only [decide_eq_false h2, if_neg h2, p_interp_frame_call_J1, cond_false, hg, po_of]
      have hgo := (hp.fns g (List.mem_of_getElem? hg)).args
      obtain ⟨k, hk⟩ : ∃ k : Nat, g.Args = (k : Int) := ⟨_, (Int.toNat_of_nonneg hgo.1).symm⟩
      rw [hk]
      simp only [hand_is f p e fu us 0 (show k ≤ 7 by omega), po_of, Int.toNat_natCast]
      by_cases h3 : handE f 0 k = 0
      · have d3 : (handE f 0 k != 0) = false := by simpa using h3
        simp only [d3, cond_false, if_neg (show ¬ (handE f 0 k ≠ 0) from fun q => q h3), h3]
        cases pf ⟨p, e, fu, us, 0⟩ (i.Imm.toNat : Int) (handV f k) with
        | none => rfl
        | some q =>
          simp only [po_of, back_is]
          rfl
      · have d3 : (handE f 0 k != 0) = true := by simpa using h3
        simp only [d3, cond_true, if_pos h3]
theorem step_end {pf : PF} {x : T_Fn} {r : Rn} {f : Fra} (h : r.err ≠ 0 ∨ f.over = true) : stepR pf x (r, f) = some (.inr (r, f)) := by
  unfold stepR p_interp_run_frame_S_L8
  by_cases h1 : r.err = 0
  · have d : (r.err == 0) = true := by simpa using h1
    have ho : f.over = true := by rcases h with h | h; exact absurd h1 h; exact h
    simp only [d, cond_true, po_of, ho, Bool.not_true, p_interp_run_frame_S_J9, cond_false]
  · have d : (r.err == 0) = false := by simpa using h1
    simp only [d, cond_false, po_of, p_interp_run_frame_S_J9]
theorem step_long {pf : PF} {x : T_Fn} {p : T_Prog} {e : T_Env} {fu : Int} {f : Fra} (ho : f.over = false) : stepR pf x (⟨p, e, fu, fu, 0⟩, f) = some (.inl (⟨p, e, fu, fu, 2⟩, f)) := by
  unfold stepR p_interp_run_frame_S_L8
  simp only [show ((0 : Int) == 0) = true from rfl, cond_true, po_of, ho, Bool.not_false, p_interp_run_frame_S_J9, beq_self_eq_true, fail_is]
  rfl
theorem wUsed {us fu : Int} (h : 0 ≤ us ∧ us < fu) (hf : fu ≤ 1000000) : IntKind.i64.wrap (us + 1) = us + 1 := wrap_i64 (by omega) (by omega)
theorem step_off {pf : PF} {x : T_Fn} {p : T_Prog} {e : T_Env} {fu us : Int} {f : Fra} (ho : f.over = false) (hu : 0 ≤ us ∧ us < fu) (hf : fu ≤ 1000000) (ha : (x.Code.length : Int) ≤ f.at_) :
    stepR pf x (⟨p, e, fu, us, 0⟩, f) = some (.inl (⟨p, e, fu, us + 1, 10⟩, f)) := by
  unfold stepR p_interp_run_frame_S_L8
  have d1 : (us == fu) = false := by simp; omega
  have d2 : decide (f.at_ ≥ (x.Code.length : Int)) = true := by simp; omega
  simp only [show ((0 : Int) == 0) = true from rfl, cond_true, po_of, ho, Bool.not_false, p_interp_run_frame_S_J9, d1, d2, cond_false, fail_is, wUsed hu hf]
  rfl
theorem step_op {pf : PF} {x : T_Fn} {p : T_Prog} {e : T_Env} {fu us : Int} {f : Fra} {i : T_Inst} (ho : f.over = false) (hu : 0 ≤ us ∧ us < fu) (hf : fu ≤ 1000000) (ha : 0 ≤ f.at_ ∧ f.at_ ≤ 64) (hi : x.Code[f.at_.toNat]? = some i)
    (hI : InstOk i) (hF : Fits e.T) (h6 : i.Op ≠ 6) :
    stepR pf x (⟨p, e, fu, us, 0⟩, f) = some (.inl (⟨p, (opS f e 0 i).2.1, fu, us + 1, (opS f e 0 i).2.2⟩, atF (opS f e 0 i).1 ((opS f e 0 i).1.at_ + 1))) := by
  have hlt := get_lt hi
  have hk := op_keeps f hI hF
  have hw : IntKind.i64.wrap ((opS f e 0 i).1.at_ + 1) = (opS f e 0 i).1.at_ + 1 := wrap_i64 (by have := hk.at_; omega) (by have := hk.at_; omega)
  have d1 : (us == fu) = false := by simp; omega
  have d2 : decide (f.at_ ≥ (x.Code.length : Int)) = false := by simp; omega
  have hop := hI.op
  unfold stepR p_interp_run_frame_S_L8
  simp only [show ((0 : Int) == 0) = true from rfl, cond_true, po_of, ho, Bool.not_false, p_interp_run_frame_S_J9, d1, d2, cond_false, wUsed hu hf, idx_of ha.1 hi]
  have ne : ∀ k : Int, i.Op ≠ k → (i.Op == k) = false := fun k h => by simpa using h
  have eq : ∀ k : Int, i.Op = k → (i.Op == k) = true := fun k h => by simpa using h
  have hc : i.Op = 0 ∨ i.Op = 1 ∨ (i.Op = 2 ∨ i.Op = 3 ∨ i.Op = 4) ∨ i.Op = 5 ∨ i.Op = 7 := by omega
  rcases hc with q | q | q | q | q
  · have e1 : opS f e 0 i = ((aluS f 0 i).1, e, (aluS f 0 i).2) := by unfold opS; rw [if_pos q]
    rw [e1] at hw ⊢
    simp only [eq 0 q, cond_true, aluS_is f p e fu _ 0 hI q, po_of, hw]
    rfl
  · have e1 : opS f e 0 i = ((jumpS f 0 i).1, e, (jumpS f 0 i).2) := by unfold opS; rw [if_neg (by omega), if_pos q]
    rw [e1] at hw ⊢
    simp only [ne 0 (by omega), eq 1 q, cond_true, cond_false, jumpS_is f p e fu _ 0 hI (by omega), po_of, hw]
    rfl
  · have e1 : opS f e 0 i = ((wordsS f e.Ctx 0 i).1, e, (wordsS f e.Ctx 0 i).2) := by unfold opS; rw [if_neg (by omega), if_neg (by omega), if_neg (by omega), if_neg (by omega)]
    rw [e1] at hw ⊢
    rcases q with q' | q' | q'
    · simp only [ne 0 (by omega), ne 1 (by omega), eq 2 q', cond_true, cond_false, wordsS_is f p e fu _ 0 hI (.inl q'), po_of, hw]
      rfl
    · simp only [ne 0 (by omega), ne 1 (by omega), ne 2 (by omega), eq 3 q', cond_true, cond_false, wordsS_is f p e fu _ 0 hI (.inr (.inl q')), po_of, hw]
      rfl
    · simp only [ne 0 (by omega), ne 1 (by omega), ne 2 (by omega), ne 3 (by omega), eq 4 q', cond_true, cond_false, wordsS_is f p e fu _ 0 hI (.inr (.inr q')), po_of, hw]
      rfl
  · have e1 : opS f e 0 i = helpS f e 0 i := by unfold opS; rw [if_neg (by omega), if_neg (by omega), if_pos q]
    rw [e1] at hw ⊢
    simp only [ne 0 (by omega), ne 1 (by omega), ne 2 (by omega), ne 3 (by omega), ne 4 (by omega), eq 5 q, cond_true, cond_false, helpS_is f p e fu _ 0 i hF, po_of, hw]
    rfl
  · have e1 : opS f e 0 i = ((exitS f 0).1, e, (exitS f 0).2) := by unfold opS; rw [if_neg (by omega), if_neg (by omega), if_neg (by omega), if_pos q]
    rw [e1] at hw ⊢
    simp only [ne 0 (by omega), ne 1 (by omega), ne 2 (by omega), ne 3 (by omega), ne 4 (by omega), ne 5 (by omega), ne 6 (by omega), eq 7 q, cond_true, cond_false, exitS_is f p e fu _ 0 i, po_of, hw]
    rfl
theorem step_call {pf : PF} {x : T_Fn} {p : T_Prog} {e : T_Env} {fu us : Int} {f f' : Fra} {r' : Rn} {i : T_Inst} (ho : f.over = false) (hu : 0 ≤ us ∧ us < fu) (hf : fu ≤ 1000000) (ha : 0 ≤ f.at_ ∧ f.at_ ≤ 64) (hi : x.Code[f.at_.toNat]? = some i)
    (hp : ProgOk p) (h6 : i.Op = 6) (hc : callS pf f p e fu (us + 1) i = some (f', r')) (hat : f'.at_ = f.at_) :
    stepR pf x (⟨p, e, fu, us, 0⟩, f) = some (.inl (r', atF f' (f.at_ + 1))) := by
  have hlt := get_lt hi
  have hw : IntKind.i64.wrap (f.at_ + 1) = f.at_ + 1 := wrap_i64 (by omega) (by omega)
  have d1 : (us == fu) = false := by simp; omega
  have d2 : decide (f.at_ ≥ (x.Code.length : Int)) = false := by simp; omega
  unfold stepR p_interp_run_frame_S_L8
  simp only [show ((0 : Int) == 0) = true from rfl, cond_true, po_of, ho, Bool.not_false, p_interp_run_frame_S_J9, d1, d2, cond_false, wUsed hu hf, idx_of ha.1 hi]
  have ne : ∀ k : Int, i.Op ≠ k → (i.Op == k) = false := fun k h => by simpa using h
  have eq : (i.Op == 6) = true := by simpa using h6
  simp only [ne 0 (by omega), ne 1 (by omega), ne 2 (by omega), ne 3 (by omega), ne 4 (by omega), ne 5 (by omega), eq, cond_true, cond_false, callS_is hp, hc, po_of, hat, hw]
  rfl
def putsF (f : Fra) : Nat → List UInt32 → Fra
  | _, [] => f
  | n, v :: l => putsF (putF f (n + 1) v) (n + 1) l
def newF (fn : Int) : Fra := ⟨fn, 0, ⟨0, 0, 0, 0, 0, 0, 0, 0⟩, ⟨false, false, false, false, false, false, false, false⟩, ⟨0, 0, 0, 0, 0, 0, 0, 0, 0, 0, 0, 0, 0, 0, 0, 0⟩, false⟩
theorem putsF_same (f : Fra) (n : Nat) (l : List UInt32) : (putsF f n l).fn = f.fn ∧ (putsF f n l).at_ = f.at_ ∧ (putsF f n l).over = f.over := by
  induction l generalizing f n with
  | nil => exact ⟨rfl, rfl, rfl⟩
  | cons v l ih => exact ih (putF f (n + 1) v) (n + 1)
theorem args_is' (r : Rn) (f : Fra) (a : List UInt32) (h : a.length ≤ 7) : lpU (fun x => p_interp_run_frame_S_L2 a x.1 x.2.1 x.2.2) (r, f, 0) = some (r, putsF f 0 a) := by
  have key : ∀ (l : List UInt32) (n : Nat) (g : Fra), a.drop n = l → n + l.length = a.length → lpU (fun x => p_interp_run_frame_S_L2 a x.1 x.2.1 x.2.2) (r, g, (n : Int)) = some (r, putsF g n l) := by
    intro l
    induction l with
    | nil =>
      intro n g hd hn
      refine lpU_inr ?_
      have d : decide ((n : Int) < (a.length : Int)) = false := by simp at hn; simp; omega
      simp only [p_interp_run_frame_S_L2, d, cond_false]
      rfl
    | cons v l ih =>
      intro n g hd hn
      simp only [List.length_cons] at hn
      have d : decide ((n : Int) < (a.length : Int)) = true := by simp; omega
      have hv : a[n]? = some v := by
        have := congrArg (fun q => q[0]?) hd
        simpa using this
      rw [lpU_inl (s' := (r, putF g (n + 1) v, ((n + 1 : Nat) : Int)))]
      · exact ih (n + 1) _ (by rw [← List.drop_drop, hd]; rfl) (by omega)
      · simp only [p_interp_run_frame_S_L2, d, cond_true, idx_nat, hv, po_of, w64 (show n < 9223372036854775807 by omega), put_is' g r (show 0 ≤ ((n + 1 : Nat) : Int) ∧ ((n + 1 : Nat) : Int) < 8 by omega), Int.toNat_natCast]
  exact key a 0 f rfl (by simp)
theorem frame_is {pf : PF} {r : Rn} {fn : Int} {a : List UInt32} {x : T_Fn} (ha : a.length ≤ 7) (h0 : 0 ≤ fn) (hx : r.p.Fns[fn.toNat]? = some x) :
    p_interp_run_frame_S pf r fn a = po (lpU (stepR pf x) (r, putsF (newF fn) 0 a)) (fun q => some (q.2.regs.a0, q.1)) := by
  unfold p_interp_run_frame_S
  have e := args_is' r (newF fn) a ha
  unfold newF at e
  rw [e]
  simp only [po_of, p_interp_run_frame_S_J1, idx_of h0 hx]
  rfl
/-! ### What is so all along -/
structure SI (P : T_Prog) (FU : Int) (FN : Int) (e0 : T_Env) (u0 : Int) (s : Rn × Fra) : Prop where
  p : s.1.p = P
  fu : s.1.fuel = FU
  us : u0 ≤ s.1.used ∧ s.1.used ≤ FU
  e : EKeep e0 s.1.e
  err : s.1.err = 0 ∨ s.1.err = 2 ∨ s.1.err = 10
  long : s.1.err = 2 → s.1.used = FU
  fn : s.2.fn = FN
  at_ : 0 ≤ s.2.at_ ∧ s.2.at_ ≤ 70000
structure FnPost (r r' : Rn) : Prop where
  p : r'.p = r.p
  fu : r'.fuel = r.fuel
  us : r.used ≤ r'.used ∧ r'.used ≤ r.fuel
  e : EKeep r.e r'.e
  err : r'.err = 0 ∨ r'.err = 2 ∨ r'.err = 10
  long : r'.err = 2 → r'.used = r.fuel
structure FnPre (P : T_Prog) (r : Rn) (FN : Int) (A : List UInt32) : Prop where
  p : r.p = P
  us : 0 ≤ r.used ∧ r.used ≤ r.fuel
  fu : r.fuel ≤ 1000000
  e : Fits r.e.T
  err : r.err = 0
  fn : 0 ≤ FN ∧ FN < (P.Fns.length : Int)
  a : A.length ≤ 7
def PfOk (p : T_Prog) (pf : PF) (fn : Int) : Prop := ∀ r k a, fn < k → FnPre p r k a → ∃ v r', pf r k a = some (v, r') ∧ FnPost r r'
inductive Rnd (pf : PF) (x : T_Fn) (p : T_Prog) (e : T_Env) (fu us : Int) (f : Fra) : Rn → Fra → Prop where
  | long (h : us = fu) : Rnd pf x p e fu us f ⟨p, e, fu, fu, 2⟩ f
  | off (h : us < fu) (ha : (x.Code.length : Int) ≤ f.at_) : Rnd pf x p e fu us f ⟨p, e, fu, us + 1, 10⟩ f
  | op (h : us < fu) (i : T_Inst) (ha : f.at_ < (x.Code.length : Int)) (hi : x.Code[f.at_.toNat]? = some i) (h6 : i.Op ≠ 6) : Rnd pf x p e fu us f ⟨p, (opS f e 0 i).2.1, fu, us + 1, (opS f e 0 i).2.2⟩ (atF (opS f e 0 i).1 ((opS f e 0 i).1.at_ + 1))
  | fail (h : us < fu) (i : T_Inst) (ha : f.at_ < (x.Code.length : Int)) (hi : x.Code[f.at_.toNat]? = some i) (h6 : i.Op = 6) (hc : ∀ (pf' : PF) (e' : T_Env) (fu' us' : Int), callS pf' f p e' fu' us' i = some (f, ⟨p, e', fu', us', 10⟩)) :
      Rnd pf x p e fu us f ⟨p, e, fu, us + 1, 10⟩ (atF f (f.at_ + 1))
  | call (h : us < fu) (i : T_Inst) (g : T_Fn) (v : UInt32) (r' : Rn) (ha : f.at_ < (x.Code.length : Int)) (hi : x.Code[f.at_.toNat]? = some i) (h6 : i.Op = 6) (hg : p.Fns[i.Imm.toNat]? = some g) (hfn : f.fn < (i.Imm.toNat : Int)) (he : handE f 0 g.Args.toNat = 0)
      (hc : pf ⟨p, e, fu, us + 1, 0⟩ (i.Imm.toNat : Int) (handV f g.Args.toNat) = some (v, r')) : Rnd pf x p e fu us f r' (atF (backF f v) (f.at_ + 1))
theorem callS_go {pf : PF} {f : Fra} {p : T_Prog} {e : T_Env} {fu us : Int} {i : T_Inst} {g : T_Fn} {v : UInt32} {r' : Rn} (hg : p.Fns[i.Imm.toNat]? = some g) (hfn : f.fn < (i.Imm.toNat : Int)) (he : handE f 0 g.Args.toNat = 0)
    (hc : pf ⟨p, e, fu, us, 0⟩ (i.Imm.toNat : Int) (handV f g.Args.toNat) = some (v, r')) : callS pf f p e fu us i = some (backF f v, r') := by
  unfold callS
  rw [hg]
  simp only
  rw [if_neg (by omega), if_neg (by rw [he]; simp), hc]
theorem backF_at (f : Fra) (v : UInt32) : (backF f v).fn = f.fn ∧ (backF f v).at_ = f.at_ := clrF_at (putF f 0 v) 5
theorem callPre {p : T_Prog} {e : T_Env} {fu us : Int} {f : Fra} {i : T_Inst} {g : T_Fn} (hp : ProgOk p) (hF : Fits e.T) (hu : 0 ≤ us ∧ us < fu) (hf : fu ≤ 1000000) (hg : p.Fns[i.Imm.toNat]? = some g) : FnPre p ⟨p, e, fu, us + 1, 0⟩ (i.Imm.toNat : Int) (handV f g.Args.toNat) :=
  ⟨rfl, ⟨by show 0 ≤ us + 1; omega, by show us + 1 ≤ fu; omega⟩, hf, hF, rfl, ⟨by omega, by have := get_lt hg; omega⟩, by
    rw [handV_len]
    have := (hp.fns g (List.mem_of_getElem? hg)).args
    omega⟩
theorem round {pf : PF} {p : T_Prog} {fn : Int} {x : T_Fn} (hp : ProgOk p) (hx : FnOk x) (hpf : PfOk p pf fn) {e : T_Env} {fu us : Int} {f : Fra} (ho : f.over = false) (hu : 0 ≤ us ∧ us ≤ fu) (hf : fu ≤ 1000000) (hat : 0 ≤ f.at_) (hfn : f.fn = fn) (h0 : 0 ≤ fn) (hF : Fits e.T) :
    ∃ r' f', stepR pf x (⟨p, e, fu, us, 0⟩, f) = some (.inl (r', f')) ∧ Rnd pf x p e fu us f r' f' := by
  by_cases h1 : us = fu
  · subst h1
    exact ⟨_, _, step_long ho, .long rfl⟩
  have hlt : us < fu := by omega
  by_cases h2 : (x.Code.length : Int) ≤ f.at_
  · exact ⟨_, _, step_off ho ⟨hu.1, hlt⟩ hf h2, .off hlt h2⟩
  have hl := hx.len
  obtain ⟨i, hi⟩ : ∃ i, x.Code[f.at_.toNat]? = some i := ⟨_, List.getElem?_eq_getElem (by omega)⟩
  have hI := hx.code i (List.mem_of_getElem? hi)
  by_cases h6 : i.Op = 6
  case neg => exact ⟨_, _, step_op ho ⟨hu.1, hlt⟩ hf ⟨hat, by omega⟩ hi hI hF h6, .op hlt i (by omega) hi h6⟩
  have bad : (∀ (pf' : PF) (e' : T_Env) (fu' us' : Int), callS pf' f p e' fu' us' i = some (f, ⟨p, e', fu', us', 10⟩)) → ∃ r' f', stepR pf x (⟨p, e, fu, us, 0⟩, f) = some (.inl (r', f')) ∧ Rnd pf x p e fu us f r' f' := fun hb =>
    ⟨_, _, step_call ho ⟨hu.1, hlt⟩ hf ⟨hat, by omega⟩ hi hp h6 (hb _ _ _ _) rfl, .fail hlt i (by omega) hi h6 hb⟩
  cases hg : p.Fns[i.Imm.toNat]? with
  | none => exact bad fun pf' e' fu' us' => by unfold callS; rw [hg]
  | some g =>
    by_cases h7 : (i.Imm.toNat : Int) ≤ f.fn
    · exact bad fun pf' e' fu' us' => by unfold callS; rw [hg]; simp only; rw [if_pos h7]
    · by_cases h8 : handE f 0 g.Args.toNat = 0
      · obtain ⟨v, r', hc, _⟩ := hpf _ _ _ (by omega) (callPre (f := f) hp hF ⟨hu.1, hlt⟩ hf hg)
        exact ⟨_, _, step_call ho ⟨hu.1, hlt⟩ hf ⟨hat, by omega⟩ hi hp h6 (callS_go hg (by omega) h8 hc) (backF_at f v).2, .call hlt i g v r' (by omega) hi h6 hg (by omega) h8 hc⟩
      · have h10 : handE f 0 g.Args.toNat = 10 := by
          rcases handE_or (f := f) (n := g.Args.toNat) (err := 0) (.inl rfl) with q | q
          · exact absurd q h8
          · exact q
        exact bad fun pf' e' fu' us' => by unfold callS; rw [hg]; simp only; rw [if_neg h7, if_pos h8, h10]
theorem rnd_keeps {pf : PF} {p : T_Prog} {fn : Int} {x : T_Fn} (hp : ProgOk p) (hx : FnOk x) (hpf : PfOk p pf fn) {e e0 : T_Env} {fu us u0 : Int} {f f' : Fra} {r' : Rn} (h : SI p fu fn e0 u0 (⟨p, e, fu, us, 0⟩, f)) (h0 : 0 ≤ u0) (hf : fu ≤ 1000000) (hr : Rnd pf x p e fu us f r' f') : SI p fu fn e0 u0 (r', f') ∧ (us < r'.used ∨ (us = fu ∧ r'.used = fu ∧ r'.err = 2)) := by
  have hus : u0 ≤ us ∧ us ≤ fu := h.us
  have hE : EKeep e0 e := h.e
  have hat : 0 ≤ f.at_ ∧ f.at_ ≤ 70000 := h.at_
  have hfn : f.fn = fn := h.fn
  have hl := hx.len
  cases hr with
  | long h1 => exact ⟨⟨rfl, rfl, ⟨by show u0 ≤ fu; omega, Int.le_refl _⟩, hE, .inr (.inl rfl), fun _ => rfl, hfn, hat⟩, .inr ⟨h1, rfl, rfl⟩⟩
  | off h1 h2 => exact ⟨⟨rfl, rfl, ⟨by show u0 ≤ us + 1; omega, by show us + 1 ≤ fu; omega⟩, hE, .inr (.inr rfl), fun q => absurd (show (10 : Int) = 2 from q) (by decide), hfn, hat⟩, .inl (by show us < us + 1; omega)⟩
  | op h1 i ha hi h6 =>
    have hk := op_keeps f (hx.code i (List.mem_of_getElem? hi)) hE.fits
    have hka := hk.at_
    refine ⟨⟨rfl, rfl, ⟨by show u0 ≤ us + 1; omega, by show us + 1 ≤ fu; omega⟩, hE.trans hk.e, ?_, fun q => ?_, hk.fn.trans hfn, ?_⟩, .inl (by show us < us + 1; omega)⟩
    · rcases hk.err with q | q
      · exact .inl q
      · exact .inr (.inr q)
    · have q' : (opS f e 0 i).2.2 = 2 := q
      rcases hk.err with q2 | q2
      · rw [q2] at q'; exact absurd q' (by decide)
      · rw [q2] at q'; exact absurd q' (by decide)
    · show 0 ≤ (opS f e 0 i).1.at_ + 1 ∧ (opS f e 0 i).1.at_ + 1 ≤ 70000
      omega
  | fail h1 i ha hi h6 hc => exact ⟨⟨rfl, rfl, ⟨by show u0 ≤ us + 1; omega, by show us + 1 ≤ fu; omega⟩, hE, .inr (.inr rfl), fun q => absurd (show (10 : Int) = 2 from q) (by decide), hfn, by show 0 ≤ f.at_ + 1 ∧ f.at_ + 1 ≤ 70000; omega⟩, .inl (by show us < us + 1; omega)⟩
  | call h1 i g v _ ha hi h6 hg hlt he hc =>
    obtain ⟨v', r2, hc', hP⟩ := hpf _ _ _ (by omega) (callPre (f := f) hp hE.fits ⟨by omega, h1⟩ hf hg)
    rw [hc] at hc'
    injection hc' with hc'
    injection hc' with _ hc'
    subst hc'
    have hPu : us + 1 ≤ r'.used ∧ r'.used ≤ fu := hP.us
    exact ⟨⟨hP.p, hP.fu, ⟨by show u0 ≤ r'.used; omega, hPu.2⟩, hE.trans hP.e, hP.err, hP.long, (backF_at f v).1.trans hfn, by show 0 ≤ f.at_ + 1 ∧ f.at_ + 1 ≤ 70000; omega⟩, .inl (by show us < r'.used; omega)⟩
theorem run_eta (r : Rn) (p : T_Prog) (fu : Int) (h1 : r.p = p) (h2 : r.fuel = fu) (h3 : r.err = 0) : r = ⟨p, r.e, fu, r.used, 0⟩ := by
  obtain ⟨a, b, c, d, e⟩ := r
  simp only at h1 h2 h3
  subst h1
  subst h2
  subst h3
  rfl
def muR (fu : Int) (s : Rn × Fra) : Nat := (fu - s.1.used).toNat * 2 + (if s.1.err = 0 then 1 else 0)
theorem mu_less {p : T_Prog} {fu fn u0 us : Int} {e0 e : T_Env} {f f' : Fra} {r' : Rn} (hS : SI p fu fn e0 u0 (r', f')) (hus : us ≤ fu) (h : us < r'.used ∨ (us = fu ∧ r'.used = fu ∧ r'.err = 2)) : muR fu (r', f') < muR fu ((⟨p, e, fu, us, 0⟩ : Rn), f) := by
  have h2 : r'.used ≤ fu := hS.us.2
  unfold muR
  simp only [if_true]
  rcases h with h | ⟨h1, h3, h4⟩
  · split <;> omega
  · rw [h4, if_neg (by decide)]
    omega
theorem loop_tells {pf : PF} {p : T_Prog} {fn : Int} {x : T_Fn} (hp : ProgOk p) (hx : FnOk x) (hpf : PfOk p pf fn) (hfn : 0 ≤ fn) {fu u0 : Int} {e0 : T_Env} (h0 : 0 ≤ u0) (hf : fu ≤ 1000000) (s : Rn × Fra) (h : SI p fu fn e0 u0 s) :
    ∃ q, lpU (stepR pf x) s = some q ∧ SI p fu fn e0 u0 q ∧ (q.1.err ≠ 0 ∨ q.2.over = true) := by
  refine lp_inv (SI p fu fn e0 u0) (muR fu) (fun q => SI p fu fn e0 u0 q ∧ (q.1.err ≠ 0 ∨ q.2.over = true)) ?_ s h
  rintro ⟨r, f⟩ hS
  by_cases he : r.err ≠ 0 ∨ f.over = true
  · exact .inr ⟨_, step_end he, hS, he⟩
  · left
    have he1 : r.err = 0 := by
      by_cases q : r.err = 0
      · exact q
      · exact absurd (.inl q) he
    have ho : f.over = false := by
      cases q : f.over with
      | false => rfl
      | true => exact absurd (.inr q) he
    have hus : u0 ≤ r.used ∧ r.used ≤ fu := hS.us
    have eta := run_eta r p fu hS.p hS.fu he1
    generalize r.e = e at eta
    generalize r.used = us at eta hus
    subst eta
    obtain ⟨r', f', h1, h2⟩ := round hp hx hpf (e := e) ho ⟨by omega, hus.2⟩ hf hS.at_.1 hS.fn hfn hS.e.fits
    obtain ⟨h3, h4⟩ := rnd_keeps hp hx hpf hS h0 hf h2
    exact ⟨_, h1, h3, mu_less h3 hus.2 h4⟩
theorem si_new {p : T_Prog} {r : Rn} {fn : Int} {a : List UInt32} (h : FnPre p r fn a) : SI p r.fuel fn r.e r.used (r, putsF (newF fn) 0 a) := by
  obtain ⟨h1, h2, h3⟩ := putsF_same (newF fn) 0 a
  exact ⟨h.p, rfl, ⟨Int.le_refl _, h.us.2⟩, .refl h.e, .inl h.err, fun q => by rw [h.err] at q; exact absurd q (by decide), h1, by
    show 0 ≤ (putsF (newF fn) 0 a).at_ ∧ _
    rw [h2]
    exact ⟨Int.le_refl 0, by show (0 : Int) ≤ 70000; decide⟩⟩
theorem si_post {p : T_Prog} {r : Rn} {fn : Int} {q : Rn × Fra} (hp : r.p = p) (h : SI p r.fuel fn r.e r.used q) : FnPost r q.1 := ⟨h.p.trans hp.symm, h.fu, h.us, h.e, h.err, h.long⟩
theorem frame_tells {p : T_Prog} (hp : ProgOk p) : ∀ (d : Nat) {fn : Int}, (p.Fns.length : Int) - fn ≤ (d : Int) → ∀ r a, FnPre p r fn a → ∃ v r', p_interp_run_frame d r fn a = some (v, r') ∧ FnPost r r' := by
  intro d
  induction d with
  | zero => intro fn hd r a h; have := h.fn; omega
  | succ d ih =>
    intro fn hd r a h
    have hpf : PfOk p (p_interp_run_frame d) fn := fun r k a hk hpre => ih (by omega) r a hpre
    obtain ⟨x, hx⟩ : ∃ x, p.Fns[fn.toNat]? = some x := ⟨_, List.getElem?_eq_getElem (by have := h.fn; omega)⟩
    have hxo := hp.fns x (List.mem_of_getElem? hx)
    obtain ⟨q, h1, h2, _⟩ := loop_tells hp hxo hpf h.fn.1 h.us.1 h.fu _ (si_new h)
    refine ⟨q.2.regs.a0, q.1, ?_, si_post h.p h2⟩
    show p_interp_run_frame_S (p_interp_run_frame d) r fn a = _
    rw [frame_is h.a h.fn.1 (by rw [h.p]; exact hx), h1]
    rfl
theorem pfOk {p : T_Prog} (hp : ProgOk p) {d : Nat} {fn : Int} (hd : (p.Fns.length : Int) - fn ≤ (d : Int) + 1) : PfOk p (p_interp_run_frame d) fn := fun r k a hk hpre => frame_tells hp d (by omega) r a hpre
theorem map_cond {α β : Type} (φ : α → β) (c : Bool) (x y : Option α) : (cond c x y).map φ = cond c (x.map φ) (y.map φ) := by cases c <;> rfl
theorem map_po {α β γ : Type} (φ : β → γ) (x : Option α) (k : α → Option β) : (po x k).map φ = po x fun a => (k a).map φ := by cases x <;> rfl
theorem po_map {α β γ : Type} (ψ : α → β) (x : Option α) (k : β → Option γ) : po (x.map ψ) k = po x fun a => k (ψ a) := by cases x <;> rfl
def gE (g : A4 UInt32 → A4 UInt32) (e : T_Env) : T_Env := ⟨g e.Ctx, e.T, e.Seed⟩
theorem call13 (g : A4 UInt32 → A4 UInt32) (n : Int) (a : List UInt32) (x8 : UInt32) (x10 : T_Table) (s : T_Env) (b : Bool) :
    p_helper_Call_J13 n a x8 x10 (gE g s) b = (p_helper_Call_J13 n a x8 x10 s b).map fun r => (gE g r.1, r.2) := by
  simp only [p_helper_Call_J13, map_cond, map_po, pl, Option.map_some]
  rfl
theorem call11 (g : A4 UInt32 → A4 UInt32) (n : Int) (a : List UInt32) (x8 : UInt32) (x10 : T_Table) (s : T_Env) (b : Bool) :
    p_helper_Call_J11 n a x8 x10 (gE g s) b = (p_helper_Call_J11 n a x8 x10 s b).map fun r => (gE g r.1, r.2) := by
  unfold p_helper_Call_J11
  rw [map_po]
  have inner : ∀ X Y : Option (T_Env × Bool), X = Y.map (fun q => (gE g q.1, q.2)) → (po X fun x => p_helper_Call_J13 n a x8 x10 x.1 x.2) = po Y fun x => (p_helper_Call_J13 n a x8 x10 x.1 x.2).map fun r => (gE g r.1, r.2) := fun X Y h => by
    subst h
    rw [po_map]
    congr 1
    funext q
    exact call13 g n a x8 x10 q.1 q.2
  refine inner _ _ ?_
  simp only [map_cond, map_po, Option.map_some]
theorem call2 (g : A4 UInt32 → A4 UInt32) (n : Int) (a : List UInt32) {e : T_Env} (hF : Fits e.T) : p_helper_Call_J2 n (gE g e) a false = (p_helper_Call_J2 n e a false).map fun r => (gE g r.1, r.2) := by
  have h2 : p_helper_own (gE g e) = some (gE g e) := own_is (e := gE g e) hF
  simp only [p_helper_Call_J2, cond_false, own_is hF, h2, po_of, map_cond, map_po, Option.map_some]
  congr 1
  congr 1
  funext x8
  congr 1
  show (po (e.T[x8.toNat]?) fun x10 => _) = po (e.T[x8.toNat]?) fun x10 => _
  congr 1
  funext x10
  cases n == 0
  · exact call11 g n a x8 x10 e _
  · exact call11 g n a x8 x10 e _
theorem call_split (n : Int) (a : List UInt32) : ∃ b, ∀ e, p_helper_Call n e a = p_helper_Call_J2 n e a b := by
  unfold p_helper_Call
  simp only [args_is, po_of]
  cases (argsN n == -1)
  · exact ⟨_, fun e => rfl⟩
  · exact ⟨_, fun e => rfl⟩
theorem call_ctx (g : A4 UInt32 → A4 UInt32) {n : Int} {a : List UInt32} {e e' : T_Env} {v : UInt32} {x : Int} (hF : Fits e.T) (h : p_helper_Call n e a = some (e', v, x)) :
    ∃ e2 v2, p_helper_Call n (gE g e) a = some (e2, v2, x) ∧ (x = 0 → e2 = gE g e' ∧ v2 = v) := by
  obtain ⟨b, hb⟩ := call_split n a
  rw [hb] at h ⊢
  cases b with
  | true =>
    unfold p_helper_Call_J2 at h ⊢
    simp only [cond_true, Option.some.injEq, Prod.mk.injEq] at h ⊢
    obtain ⟨_, _, rfl⟩ := h
    exact ⟨_, _, ⟨rfl, rfl, rfl⟩, fun q => absurd q (by decide)⟩
  | false =>
    rw [call2 g n a hF, h]
    exact ⟨_, _, rfl, fun _ => ⟨rfl, rfl⟩⟩
def CtxOk (p : T_Prog) (g : A4 UInt32 → A4 UInt32) : Prop := (∀ c, g c = c) ∨ ∀ f ∈ p.Fns, ∀ i ∈ f.Code, i.Op ≠ 2
theorem gE_id {g : A4 UInt32 → A4 UInt32} (h : ∀ c, g c = c) (e : T_Env) : gE g e = e := by
  unfold gE
  rw [h]
theorem op_ctx {g : A4 UInt32 → A4 UInt32} (f : Fra) {e : T_Env} {i : T_Inst} (hF : Fits e.T) (h : (∀ c, g c = c) ∨ i.Op ≠ 2) : opS f (gE g e) 0 i = ((opS f e 0 i).1, gE g (opS f e 0 i).2.1, (opS f e 0 i).2.2) := by
  rcases h with h | h
  · simp only [gE_id h]
  · unfold opS
    split
    · rfl
    · split
      · rfl
      · split
        · unfold helpS
          split
          · rfl
          · split
            · rfl
            · obtain ⟨⟨e', v, x⟩, hr, _⟩ := call_tells (n := (i.Imm.toNat : Int)) (a := handV f (argsN (i.Imm.toNat : Int)).toNat) hF
              obtain ⟨e2, v2, h1, h2⟩ := call_ctx g hF hr
              rw [h1, hr]
              simp only
              by_cases hx : x = 0
              · obtain ⟨rfl, rfl⟩ := h2 hx
                rw [if_neg (by omega), if_neg (by omega)]
              · rw [if_pos hx, if_pos hx]
        · split
          · rfl
          · unfold wordsS
            rw [if_neg h, if_neg h]
def tau (g : A4 UInt32 → A4 UInt32) (k m : Int) (r : Rn) : Rn := ⟨r.p, gE g r.e, r.fuel + k + m, r.used + k, r.err⟩
def PfSim (p : T_Prog) (pf : PF) (fn : Int) (g : A4 UInt32 → A4 UInt32) (k m : Int) : Prop := ∀ r j a, fn < j → FnPre p r j a → r.fuel + k + m ≤ 1000000 →
  ∃ v r', pf r j a = some (v, r') ∧ ((r'.err ≠ 2 ∨ m = 0) → pf (tau g k m r) j a = some (v, tau g k m r')) ∧ (r'.err = 2 → ∃ v2 r2, pf (tau g k m r) j a = some (v2, r2) ∧ r'.used + k ≤ r2.used)
theorem pre_tau {p : T_Prog} {r : Rn} {j : Int} {a : List UInt32} {g : A4 UInt32 → A4 UInt32} {k m : Int} (hk : 0 ≤ k) (hm : 0 ≤ m) (h : FnPre p r j a) (hf : r.fuel + k + m ≤ 1000000) : FnPre p (tau g k m r) j a := by
  have hu := h.us
  exact ⟨h.p, ⟨by show 0 ≤ r.used + k; omega, by show r.used + k ≤ r.fuel + k + m; omega⟩, hf, h.e, h.err, h.fn, h.a⟩
theorem rnd_sim {pf : PF} {p : T_Prog} {fn : Int} {x : T_Fn} (hp : ProgOk p) (hx : FnOk x) (hxp : x ∈ p.Fns) (hpf : PfOk p pf fn) {g : A4 UInt32 → A4 UInt32} {k m : Int} (hk : 0 ≤ k) (hm : 0 ≤ m) (hg : CtxOk p g) (hs : PfSim p pf fn g k m)
    {e e0 : T_Env} {fu us u0 : Int} {f f' : Fra} {r' : Rn} (ho : f.over = false) (h : SI p fu fn e0 u0 (⟨p, e, fu, us, 0⟩, f)) (h0 : 0 ≤ u0) (hf : fu + k + m ≤ 1000000) (hr : Rnd pf x p e fu us f r' f') :
    stepR pf x (tau g k m ⟨p, e, fu, us, 0⟩, f) = some (.inl (tau g k m r', f')) ∨
    (r'.err = 2 ∧ m ≠ 0 ∧ ∃ s2 eb ub, (stepR pf x (tau g k m ⟨p, e, fu, us, 0⟩, f) = some (.inl s2) ∨ s2 = (tau g k m ⟨p, e, fu, us, 0⟩, f)) ∧ SI p (fu + k + m) fn eb ub s2 ∧ 0 ≤ ub ∧ r'.used + k ≤ ub) := by
  have hus : u0 ≤ us ∧ us ≤ fu := h.us
  have hE : EKeep e0 e := h.e
  have hF : Fits (gE g e).T := hE.fits
  have hat : 0 ≤ f.at_ ∧ f.at_ ≤ 70000 := h.at_
  have hfn : f.fn = fn := h.fn
  have hl := hx.len
  show stepR pf x (⟨p, gE g e, fu + k + m, us + k, 0⟩, f) = _ ∨ _
  have sh : us + 1 + k = us + k + 1 := by omega
  have hlt : us < fu → 0 ≤ us + k ∧ us + k < fu + k + m := fun q => by omega
  cases hr with
  | long h1 =>
    subst h1
    by_cases hm0 : m = 0
    · left
      subst hm0
      show stepR pf x (⟨p, gE g e, us + k + 0, us + k, 0⟩, f) = some (.inl (⟨p, gE g e, us + k + 0, us + k, 2⟩, f))
      rw [Int.add_zero]
      exact step_long ho
    · right
      refine ⟨rfl, hm0, (⟨p, gE g e, us + k + m, us + k, 0⟩, f), gE g e, us + k, .inr rfl, ⟨rfl, rfl, ⟨Int.le_refl _, by show us + k ≤ us + k + m; omega⟩, .refl hF, .inl rfl, fun q => absurd (show (0 : Int) = 2 from q) (by decide), hfn, hat⟩, by omega, Int.le_refl _⟩
  | off h1 h2 =>
    left
    rw [step_off ho (hlt h1) hf h2]
    unfold tau
    simp only [sh]
  | op h1 i ha hi h6 =>
    left
    have hi2 : i.Op ≠ 2 ∨ ∀ c, g c = c := by
      rcases hg with q | q
      · exact .inr q
      · exact .inl (q x hxp i (List.mem_of_getElem? hi))
    rw [step_op ho (hlt h1) hf ⟨hat.1, by omega⟩ hi (hx.code i (List.mem_of_getElem? hi)) hF h6, op_ctx f hE.fits hi2.symm]
    unfold tau
    simp only [sh]
  | fail h1 i ha hi h6 hc =>
    left
    rw [step_call ho (hlt h1) hf ⟨hat.1, by omega⟩ hi hp h6 (hc _ _ _ _) rfl]
    unfold tau
    simp only [sh]
  | call h1 i gf v _ ha hi h6 hgf hlt2 he hc =>
    have hpre := callPre (f := f) (i := i) hp hE.fits ⟨by omega, h1⟩ (show fu ≤ 1000000 by omega) hgf
    obtain ⟨v', r2, hc', hA, hB⟩ := hs _ _ _ (by omega) hpre hf
    rw [hc] at hc'
    injection hc' with hc'
    injection hc' with q1 q2
    subst q1
    subst q2
    have et : tau g k m ⟨p, e, fu, us + 1, 0⟩ = ⟨p, gE g e, fu + k + m, us + k + 1, 0⟩ := by
      unfold tau
      simp only [sh]
    rw [et] at hA hB
    by_cases hq : r'.err ≠ 2 ∨ m = 0
    · left
      exact step_call ho (hlt h1) hf ⟨hat.1, by omega⟩ hi hp h6 (callS_go hgf hlt2 he (hA hq)) (backF_at f v).2
    · right
      have he2 : r'.err = 2 := by
        apply Decidable.byContradiction
        exact fun q => hq (.inl q)
      have hm0 : m ≠ 0 := fun q => hq (.inr q)
      obtain ⟨v2, r2, h3, h4⟩ := hB he2
      have hpre2 := pre_tau (g := g) hk hm hpre hf
      rw [et] at hpre2
      obtain ⟨v3, r3, h5, hP⟩ := hpf _ _ _ (by omega) hpre2
      rw [h3] at h5
      injection h5 with h5
      injection h5 with _ q4
      subst q4
      have hPu : us + k + 1 ≤ r2.used ∧ r2.used ≤ fu + k + m := hP.us
      refine ⟨he2, hm0, (r2, atF (backF f v2) (f.at_ + 1)), gE g e, r2.used, .inl (step_call ho (hlt h1) hf ⟨hat.1, by omega⟩ hi hp h6 (callS_go hgf hlt2 he h3) (backF_at f v2).2), ⟨hP.p, hP.fu, ⟨Int.le_refl _, hPu.2⟩, hP.e, hP.err, hP.long, (backF_at f v2).1.trans hfn, by show 0 ≤ f.at_ + 1 ∧ f.at_ + 1 ≤ 70000; omega⟩, by omega, h4⟩
theorem loop_sim {pf : PF} {p : T_Prog} {fn : Int} {x : T_Fn} (hp : ProgOk p) (hx : FnOk x) (hxp : x ∈ p.Fns) (hpf : PfOk p pf fn) (hfn : 0 ≤ fn) {g : A4 UInt32 → A4 UInt32} {k m : Int} (hk : 0 ≤ k) (hm : 0 ≤ m) (hg : CtxOk p g) (hs : PfSim p pf fn g k m)
    {fu u0 : Int} {e0 : T_Env} (h0 : 0 ≤ u0) (hf : fu + k + m ≤ 1000000) (s : Rn × Fra) (h : SI p fu fn e0 u0 s) :
    ∃ q, lpU (stepR pf x) s = some q ∧ ((q.1.err ≠ 2 ∨ m = 0) → lpU (stepR pf x) (tau g k m s.1, s.2) = some (tau g k m q.1, q.2)) ∧ (q.1.err = 2 → ∃ q2, lpU (stepR pf x) (tau g k m s.1, s.2) = some q2 ∧ q.1.used + k ≤ q2.1.used) := by
  refine lp_inv (fun t => SI p fu fn e0 u0 t ∧ (lpU (stepR pf x) (tau g k m t.1, t.2) = lpU (stepR pf x) (tau g k m s.1, s.2) ∨ (t.1.err = 2 ∧ m ≠ 0 ∧ ∃ s2 eb ub, lpU (stepR pf x) s2 = lpU (stepR pf x) (tau g k m s.1, s.2) ∧ SI p (fu + k + m) fn eb ub s2 ∧ 0 ≤ ub ∧ t.1.used + k ≤ ub)))
    (muR fu) (fun (q : Rn × Fra) => ((q.1.err ≠ 2 ∨ m = 0) → lpU (stepR pf x) (tau g k m s.1, s.2) = some (tau g k m q.1, q.2)) ∧ (q.1.err = 2 → ∃ q2, lpU (stepR pf x) (tau g k m s.1, s.2) = some q2 ∧ q.1.used + k ≤ q2.1.used)) ?_ s ⟨h, .inl rfl⟩
  rintro ⟨r, f⟩ ⟨hS, hL⟩
  by_cases he : r.err ≠ 0 ∨ f.over = true
  · refine .inr ⟨_, step_end he, ?_⟩
    rcases hL with hL | ⟨h2, hm0, s2, eb, ub, h3, h4, h5, h6⟩
    · have hl2 : lpU (stepR pf x) (tau g k m s.1, s.2) = some (tau g k m r, f) := by rw [← hL]; exact lpU_inr (step_end he)
      exact ⟨fun _ => hl2, fun _ => ⟨_, hl2, Int.le_refl _⟩⟩
    · refine ⟨fun q => ?_, fun _ => ?_⟩
      · rcases q with q | q
        · exact absurd h2 q
        · exact absurd q hm0
      · obtain ⟨q2, h7, h8, _⟩ := loop_tells hp hx hpf hfn h5 hf s2 h4
        have h9 : ub ≤ q2.1.used := h8.us.1
        exact ⟨q2, by rw [← h3]; exact h7, by show r.used + k ≤ q2.1.used; have : r.used + k ≤ ub := h6; omega⟩
  · left
    have he1 : r.err = 0 := by
      by_cases q : r.err = 0
      · exact q
      · exact absurd (.inl q) he
    have ho : f.over = false := by
      cases q : f.over with
      | false => rfl
      | true => exact absurd (.inr q) he
    have hus : u0 ≤ r.used ∧ r.used ≤ fu := hS.us
    have eta := run_eta r p fu hS.p hS.fu he1
    generalize r.e = e at eta
    generalize r.used = us at eta hus
    subst eta
    have hL' : lpU (stepR pf x) (tau g k m (⟨p, e, fu, us, 0⟩ : Rn), f) = lpU (stepR pf x) (tau g k m s.1, s.2) := by
      rcases hL with hL | ⟨h2, _⟩
      · exact hL
      · exact absurd (show (0 : Int) = 2 from h2) (by decide)
    obtain ⟨r', f', h1, h2⟩ := round hp hx hpf (e := e) ho ⟨by omega, hus.2⟩ (show fu ≤ 1000000 by omega) hS.at_.1 hS.fn hfn hS.e.fits
    obtain ⟨h3, h4⟩ := rnd_keeps hp hx hpf hS h0 (show fu ≤ 1000000 by omega) h2
    refine ⟨_, h1, ⟨h3, ?_⟩, mu_less h3 hus.2 h4⟩
    rcases rnd_sim hp hx hxp hpf hk hm hg hs ho hS h0 hf h2 with h5 | ⟨h5, h6, s2, eb, ub, h7, h8, h9, h10⟩
    · exact .inl ((lpU_inl h5).symm.trans hL')
    · refine .inr ⟨h5, h6, s2, eb, ub, ?_, h8, h9, h10⟩
      rcases h7 with h7 | h7
      · exact (lpU_inl h7).symm.trans hL'
      · rw [h7]
        exact hL'
theorem frame_sim {p : T_Prog} (hp : ProgOk p) {g : A4 UInt32 → A4 UInt32} {k m : Int} (hk : 0 ≤ k) (hm : 0 ≤ m) (hg : CtxOk p g) : ∀ (d : Nat) {fn : Int}, (p.Fns.length : Int) - fn ≤ (d : Int) → ∀ r a, FnPre p r fn a → r.fuel + k + m ≤ 1000000 →
    ∃ v r', p_interp_run_frame d r fn a = some (v, r') ∧ ((r'.err ≠ 2 ∨ m = 0) → p_interp_run_frame d (tau g k m r) fn a = some (v, tau g k m r')) ∧ (r'.err = 2 → ∃ v2 r2, p_interp_run_frame d (tau g k m r) fn a = some (v2, r2) ∧ r'.used + k ≤ r2.used) := by
  intro d
  induction d with
  | zero => intro fn hd r a h; have := h.fn; omega
  | succ d ih =>
    intro fn hd r a h hf
    have hpf : PfOk p (p_interp_run_frame d) fn := pfOk hp (by omega)
    have hs : PfSim p (p_interp_run_frame d) fn g k m := fun r j a hj hpre hf => ih (by omega) r a hpre hf
    obtain ⟨x, hx⟩ : ∃ x, p.Fns[fn.toNat]? = some x := ⟨_, List.getElem?_eq_getElem (by have := h.fn; omega)⟩
    have hxp := List.mem_of_getElem? hx
    obtain ⟨q, h1, h2, h3⟩ := loop_sim hp (hp.fns x hxp) hxp hpf h.fn.1 hk hm hg hs h.us.1 hf _ (si_new h)
    have e1 : p_interp_run_frame (d + 1) r fn a = po (lpU (stepR (p_interp_run_frame d) x) (r, putsF (newF fn) 0 a)) (fun q => some (q.2.regs.a0, q.1)) := frame_is h.a h.fn.1 (by rw [h.p]; exact hx)
    have e2 : p_interp_run_frame (d + 1) (tau g k m r) fn a = po (lpU (stepR (p_interp_run_frame d) x) (tau g k m r, putsF (newF fn) 0 a)) (fun q => some (q.2.regs.a0, q.1)) := frame_is h.a h.fn.1 (by show r.p.Fns[fn.toNat]? = some x; rw [h.p]; exact hx)
    refine ⟨q.2.regs.a0, q.1, ?_, fun hq => ?_, fun hq => ?_⟩
    · rw [e1, h1]
      rfl
    · rw [e2]
      have := h2 hq
      simp only at this
      rw [this]
      rfl
    · obtain ⟨q2, h4, h5⟩ := h3 hq
      simp only at h4
      exact ⟨q2.2.regs.a0, q2.1, by rw [e2, h4]; rfl, h5⟩
/-! ### How many instructions there are at most -/
def cB : Nat → Nat
  | 0 => 0
  | k + 1 => 64 * (1 + cB k)
theorem cB_mono {a b : Nat} (h : a ≤ b) : cB a ≤ cB b := by
  induction b generalizing a with
  | zero => have : a = 0 := by omega
            subst this
            exact Nat.le_refl _
  | succ b ih =>
    cases a with
    | zero => exact Nat.zero_le _
    | succ a =>
      have := ih (show a ≤ b by omega)
      simp only [cB]
      omega
theorem frame_bound {p : T_Prog} (hp : ProgOk p) : ∀ (d : Nat) {fn : Int} (K : Nat), (p.Fns.length : Int) - fn = (K : Int) → K ≤ d → ∀ r a, FnPre p r fn a → r.used + (cB K : Int) < r.fuel →
    ∃ v r', p_interp_run_frame d r fn a = some (v, r') ∧ r'.err ≠ 2 ∧ (r'.err = 0 → r'.used ≤ r.used + (cB K : Int)) := by
  intro d
  induction d with
  | zero => intro fn K hK hd r a h; have := h.fn; omega
  | succ d ih =>
    intro fn K hK hd r a h hb
    have hfnb := h.fn
    obtain ⟨J, rfl⟩ : ∃ J, K = J + 1 := ⟨K - 1, by omega⟩
    have hpf : PfOk p (p_interp_run_frame d) fn := pfOk hp (by omega)
    obtain ⟨x, hx⟩ : ∃ x, p.Fns[fn.toNat]? = some x := ⟨_, List.getElem?_eq_getElem (by omega)⟩
    have hxo := hp.fns x (List.mem_of_getElem? hx)
    have hl := hxo.len
    have hru := h.us
    obtain ⟨M, hM⟩ : ∃ M, M = 1 + cB J := ⟨_, rfl⟩
    have hcB : cB (J + 1) = M * 64 := by rw [hM]; simp only [cB]; omega
    have mono : ∀ a b : Nat, a ≤ b → M * a ≤ M * b := fun a b h => Nat.mul_le_mul_left M h
    have succ_ : ∀ a : Nat, M * (a + 1) = M * a + M := fun a => Nat.mul_succ M a
    obtain ⟨q, h1, h2, h3⟩ := lp_inv (step := stepR (p_interp_run_frame d) x) (fun t => SI p r.fuel fn r.e r.used t ∧ t.1.err ≠ 2 ∧ (t.1.err = 0 → t.1.used ≤ r.used + ((M * min t.2.at_.toNat 64 : Nat) : Int))) (muR r.fuel) (fun q => q.1.err ≠ 2 ∧ (q.1.err = 0 → q.1.used ≤ r.used + ((M * 64 : Nat) : Int))) (by
      rintro ⟨r1, f⟩ ⟨hS, hn2, hbd⟩
      by_cases he : r1.err ≠ 0 ∨ f.over = true
      · refine .inr ⟨_, step_end he, hn2, fun q => ?_⟩
        have h5 := hbd q
        have h6 := mono (min f.at_.toNat 64) 64 (Nat.min_le_right _ _)
        simp only at h5 ⊢
        omega
      · left
        have he1 : r1.err = 0 := by
          by_cases q : r1.err = 0
          · exact q
          · exact absurd (.inl q) he
        have ho : f.over = false := by
          cases q : f.over with
          | false => rfl
          | true => exact absurd (.inr q) he
        have hus : r.used ≤ r1.used ∧ r1.used ≤ r.fuel := hS.us
        have hb1 : r1.used ≤ r.used + ((M * min f.at_.toNat 64 : Nat) : Int) := hbd he1
        have eta := run_eta r1 p r.fuel hS.p hS.fu he1
        generalize r1.e = e at eta
        generalize r1.used = us at eta hus hb1
        subst eta
        have hat : 0 ≤ f.at_ ∧ f.at_ ≤ 70000 := hS.at_
        obtain ⟨r', f', h1, h2⟩ := round hp hxo hpf (e := e) ho ⟨by omega, hus.2⟩ h.fu hat.1 hS.fn hfnb.1 hS.e.fits
        obtain ⟨h3, h4⟩ := rnd_keeps hp hxo hpf hS h.us.1 h.fu h2
        refine ⟨_, h1, ⟨h3, ?_⟩, mu_less h3 hus.2 h4⟩
        have h6 := mono (min f.at_.toNat 64) 64 (Nat.min_le_right _ _)
        have inside : f.at_ < (x.Code.length : Int) → ∀ at' : Int, f.at_ + 1 ≤ at' → M * min f.at_.toNat 64 + M ≤ M * min at'.toNat 64 := fun hlt at' ha => by
          have e1 : min f.at_.toNat 64 = f.at_.toNat := by omega
          rw [e1, ← succ_]
          exact mono _ _ (by omega)
        cases h2 with
        | long q => exfalso; omega
        | off q1 q2 => exact ⟨by show (10 : Int) ≠ 2; decide, fun q => absurd (show (10 : Int) = 0 from q) (by decide)⟩
        | op q1 i ha hi h6' =>
          have hk : OpKeep f e (opS f e 0 i) := op_keeps f (hxo.code i (List.mem_of_getElem? hi)) hS.e.fits
          have hka := hk.at_
          have hin := inside ha ((opS f e 0 i).1.at_ + 1) (by omega)
          refine ⟨?_, fun q => ?_⟩
          · rcases hk.err with q | q
            · show (opS f e 0 i).2.2 ≠ 2
              rw [q]; decide
            · show (opS f e 0 i).2.2 ≠ 2
              rw [q]; decide
          · show us + 1 ≤ r.used + ((M * min ((opS f e 0 i).1.at_ + 1).toNat 64 : Nat) : Int)
            omega
        | fail q1 i ha hi h6' hc => exact ⟨by show (10 : Int) ≠ 2; decide, fun q => absurd (show (10 : Int) = 0 from q) (by decide)⟩
        | call q1 i gf v _ ha hi h6' hgf hlt he' hc =>
          have hin := inside ha (f.at_ + 1) (Int.le_refl _)
          have hgl := get_lt hgf
          have hfn' : f.fn = fn := hS.fn
          obtain ⟨K', hK'⟩ : ∃ K' : Nat, (p.Fns.length : Int) - (i.Imm.toNat : Int) = (K' : Int) := ⟨p.Fns.length - i.Imm.toNat, by omega⟩
          have hKJ : K' ≤ J := by omega
          have hcm := cB_mono hKJ
          have h7 := mono (min (f.at_ + 1).toNat 64) 64 (Nat.min_le_right _ _)
          have hpre := callPre (f := f) (i := i) (e := e) hp hS.e.fits ⟨by omega, q1⟩ h.fu hgf
          obtain ⟨v2, r2, g1, g2, g3⟩ := ih K' hK' (by omega) _ _ hpre (by show us + 1 + (cB K' : Int) < r.fuel; omega)
          rw [hc] at g1
          injection g1 with g1
          injection g1 with _ g1
          subst g1
          refine ⟨g2, fun q => ?_⟩
          have g4 : r'.used ≤ us + 1 + (cB K' : Int) := g3 q
          show r'.used ≤ r.used + ((M * min (f.at_ + 1).toNat 64 : Nat) : Int)
          omega) (r, putsF (newF fn) 0 a) ⟨si_new h, by show r.err ≠ 2; rw [h.err]; decide, fun _ => by show r.used ≤ _; omega⟩
    refine ⟨q.2.regs.a0, q.1, ?_, h2, fun he => by have := h3 he; rw [hcB]; exact this⟩
    show p_interp_run_frame_S (p_interp_run_frame d) r fn a = _
    rw [frame_is h.a h.fn.1 (by rw [h.p]; exact hx), h1]
    rfl
noncomputable def p_interp_Call_L9 (r7 : (List T_Entry)) (s_48 : T_Env) (s_49 : T_Table) (i_50 : Int) : Option ((T_Env × T_Table × Int) ⊕ (T_Env × T_Table)) :=
  cond (decide (i_50 < (r7.length : Int))) (
  po (idx s_49.E i_50) fun x11 =>
  po (p_slices_Clone_uint32_uint32 x11.V) fun r12 =>
  pl (s_49.E.set i_50.toNat (T_Entry.mk x11.Key r12)) fun y13 =>
  some (Sum.inl (s_48, (T_Table.mk s_49.S y13 s_49.Next), (IntKind.i64.wrap (i_50 + 1))))) (
  some (Sum.inr (s_48, s_49)))
noncomputable def p_interp_Call_J8 (i_19 : Int) (s_54 : T_Env) (s_55 : T_Table) : Option (T_Env) :=
  po (idx s_54.T i_19) fun x14 =>
  pl (s_54.T.set i_19.toNat s_55) fun y15 =>
  some (T_Env.mk s_54.Ctx y15 s_54.Seed)
noncomputable def p_interp_Call_J5 (i_19 : Int) (s_28 : T_Env) : Option ((T_Env × Int) ⊕ (T_Env)) :=
  some (Sum.inl (s_28, (IntKind.i64.wrap (i_19 + 1))))
noncomputable def p_interp_Call_L3 (r1 : (List T_Table)) (s_18 : T_Env) (i_19 : Int) : Option ((T_Env × Int) ⊕ (T_Env)) :=
  cond (decide (i_19 < (r1.length : Int))) (
  po (
  po (idx s_18.T i_19) fun x6 =>
  po (p_slices_Clone_api_Entry_api_Entry x6.E) fun r7 =>
  po (
  lpU (fun x => p_interp_Call_L9 r7 x.1 x.2.1 x.2.2) (s_18, (T_Table.mk x6.S r7 x6.Next), 0)) (fun x => p_interp_Call_J8 i_19 x.1 x.2)) (fun x => p_interp_Call_J5 i_19 x)) (
  some (Sum.inr s_18))
noncomputable def p_interp_Call_J27 (r26 : UInt32 × T_interp_run) (i_60 : UInt32) : Option (T_Ran) :=
  some (T_Ran.mk i_60 r26.2.e r26.2.used r26.2.err)
noncomputable def p_interp_Call_J21 (a0 : T_Prog) (a1 : Int) (a3 : Int) (a4 : (List UInt32)) (s_58 : T_Env) (i_59 : Bool) : Option (T_Ran) :=
  cond i_59 (
  some (T_Ran.mk 0 s_58 0 3)) (
  po (p_interp_run_frame 9 (T_interp_run.mk a0 s_58 a3 0 0) a1 a4) fun r26 =>
  po (
  cond (r26.2.err != 0) (
  some 0) (
  some r26.1)) (fun x => p_interp_Call_J27 r26 x))
noncomputable def p_interp_Call_J16 (a0 : T_Prog) (a1 : Int) (a3 : Int) (a4 : (List UInt32)) (s_56 : T_Env) (i_57 : Bool) : Option (T_Ran) :=
  cond i_57 (
  some (T_Ran.mk 0 s_56 0 1)) (
  po (
  cond (decide (a1 < 0)) (
  some (s_56, (decide (a1 < 0)))) (
  cond (decide (a1 ≥ (a0.Fns.length : Int))) (
  some (s_56, (decide (a1 ≥ (a0.Fns.length : Int))))) (
  po (idx a0.Fns a1) fun x24 =>
  some (s_56, ((a4.length : Int) != x24.Args))))) (fun x => p_interp_Call_J21 a0 a1 a3 a4 x.1 x.2))
noncomputable def p_interp_Call_J2 (a0 : T_Prog) (a1 : Int) (a3 : Int) (a4 : (List UInt32)) (s_47 : T_Env) : Option (T_Ran) :=
  po (
  po (p_prog_May a0) fun r17 =>
  cond (!r17) (
  some (s_47, (!r17))) (
  cond (decide (a3 < 0)) (
  some (s_47, (decide (a3 < 0)))) (
  some (s_47, (decide (a3 > 100000)))))) (fun x => p_interp_Call_J16 a0 a1 a3 a4 x.1 x.2)
noncomputable def p_interp_Call (a0 : T_Prog) (a1 : Int) (a2 : T_Env) (a3 : Int) (a4 : (List UInt32)) : Option (T_Ran) :=
  po (p_slices_Clone_api_Table_api_Table a2.T) fun r1 =>
  po (
  lpU (fun x => p_interp_Call_L3 r1 x.1 x.2) ((T_Env.mk a2.Ctx r1 a2.Seed), 0)) (fun x => p_interp_Call_J2 a0 a1 a3 a4 x)
theorem c_interp_Call (a0 : T_Prog) (a1 : Int) (a2 : T_Env) (a3 : Int) (a4 : (List UInt32)) {r : T_Ran} (h : p_interp_Call a0 a1 a2 a3 a4 = some r) : Ctr prog 48 [.agg (enc_Prog a0), .raw (.int .i64 a1), .agg (enc_Env a2), .raw (.int .i64 a3), .sl false (a4.map encU32)] [] (.agg (enc_Ran r)) [] := by
 unfold p_interp_Call at h;refine Ctr.ofW tabOk func48 rfl call48 0 _ ntmps48 [.cell 10 67] rfl rfl rfl (fun B => ?_);refine VC.seqF tabOkF [some 5,some 7,some 10] [1,3,4,5,7,10] rfl rfl (fun K hK => ?_);push_cast;(repeat refine .intro (by omega) ?_);refine hK _ ?_;clear hK K;obtain ⟨r1,hr1,h⟩ := po_some h;refine VC.seqF tabOkF [some 16,some 17,some 18,some 19,none] [1,3,4,5,7,10] rfl rfl (fun K hK => ?_);push_cast;(repeat refine .intro (by omega) ?_);refine callH (H := []) (Ctr.loH (Ctr.ren (Bij.swp 0 5 Bij.id) (c_slices_Clone_api_Table_api_Table a2.T hr1) (by push_cast) (by push_cast))) (by push_cast) rfl rfl rfl ?_;push_cast;(repeat refine .intro (by omega) ?_);refine hK _ ?_;clear hK K;refine VC.sub (s' := ⟨[(1,.raw (.int .i64 a1)),(3,.raw (.int .i64 a3)),(4,.sl false (a4.map encU32)),(5,.ref 0 0),(7,.ref 1 0),(10,.ref 2 0)],[(0,.box 64 [.sl false (a0.Fns.map enc_Fn)]),(1,.box 49 [.raw (.int .u32 (a2.Ctx.a0.toNat : Int)),.raw (.int .u32 (a2.Ctx.a1.toNat : Int)),.raw (.int .u32 (a2.Ctx.a2.toNat : Int)),.raw (.int .u32 (a2.Ctx.a3.toNat : Int)),.row 5 0 6 0 r1.length,.raw (.int .u32 (a2.Seed.toNat : Int))]),(2,.box 67 [.raw (.int .u32 0),.raw (.int .u32 0),.raw (.int .u32 0),.raw (.int .u32 0),.raw (.int .u32 0),.sl true [],.raw (.int .u32 0),.raw (.int .i64 0),.raw (.int .i64 0)]),(5,.row 27 6 0 (r1.map enc_Table))],8,114,0⟩) (sof ?_ ?_ rfl rfl) ?_
 ·push_cast
 ·push_cast
 obtain ⟨v2,h,hk2⟩ := po_some h;refine VC.seqJ (X := T_Env) (fun x => p_interp_Call_J2 a0 a1 a3 a4 x = some r) (fun x => ⟨[(1,.raw (.int .i64 a1)),(3,.raw (.int .i64 a3)),(4,.sl false (a4.map encU32)),(5,.ref 0 0),(7,.ref 1 0),(10,.ref 2 0)],[(0,.box 64 [.sl false (a0.Fns.map enc_Fn)]),(1,.box 49 [.raw (.int .u32 (x.Ctx.a0.toNat : Int)),.raw (.int .u32 (x.Ctx.a1.toNat : Int)),.raw (.int .u32 (x.Ctx.a2.toNat : Int)),.raw (.int .u32 (x.Ctx.a3.toNat : Int)),.row 5 0 6 0 x.T.length,.raw (.int .u32 (x.Seed.toNat : Int))]),(2,.box 67 [.raw (.int .u32 0),.raw (.int .u32 0),.raw (.int .u32 0),.raw (.int .u32 0),.raw (.int .u32 0),.sl true [],.raw (.int .u32 0),.raw (.int .i64 0),.raw (.int .i64 0)]),(5,.row 27 6 0 (x.T.map enc_Table))],56,114,0⟩) ?_ ?_
 ·refine VC.seqF tabOkF [some 20,some 21,some 22,some 23] [1,3,4,5,7,10,21,22,23] rfl rfl (fun K hK => ?_);push_cast;(repeat refine .intro (by omega) ?_);refine hK _ ?_;clear hK K;refine VC.block ?_;refine VC.loopP h (fun x => ⟨[(1,.raw (.int .i64 a1)),(3,.raw (.int .i64 a3)),(4,.sl false (a4.map encU32)),(5,.ref 0 0),(7,.ref 1 0),(10,.ref 2 0),(21,.row 5 0 6 0 x.1.T.length),(22,.raw (.int .i64 (r1.length : Int))),(23,.raw (.int .i64 x.2))],[(0,.box 64 [.sl false (a0.Fns.map enc_Fn)]),(1,.box 49 [.raw (.int .u32 (x.1.Ctx.a0.toNat : Int)),.raw (.int .u32 (x.1.Ctx.a1.toNat : Int)),.raw (.int .u32 (x.1.Ctx.a2.toNat : Int)),.raw (.int .u32 (x.1.Ctx.a3.toNat : Int)),.row 5 0 6 0 x.1.T.length,.raw (.int .u32 (x.1.Seed.toNat : Int))]),(2,.box 67 [.raw (.int .u32 0),.raw (.int .u32 0),.raw (.int .u32 0),.raw (.int .u32 0),.raw (.int .u32 0),.sl true [],.raw (.int .u32 0),.raw (.int .i64 0),.raw (.int .i64 0)]),(5,.row 27 6 0 (x.1.T.map enc_Table))],55,114,0⟩) ?_ ?_
  ·refine sof ?_ ?_ rfl rfl
   ·push_cast
   ·push_cast
  rintro ⟨s_18,i_19⟩ b3 h hf3;replace h : p_interp_Call_L3 r1 s_18 i_19 = some b3 := h;(try push_cast);unfold p_interp_Call_L3 at h;refine VC.seqF tabOkF [some 24] [1,3,4,5,7,10,21,22,23,24] rfl rfl (fun K hK => ?_);push_cast;(repeat refine .intro (by omega) ?_);refine hK _ ?_;clear hK K;refine VC.seq ?_;refine VC.cond rfl rfl (fun hc4 => ?_) (fun hc4 => ?_)
  ·have hb4 : (decide (i_19 < (r1.length : Int))) = true := by simpa using hc4
   replace h := cond_yes hb4 h;refine VC.skip ?_;obtain ⟨v5,h,hk5⟩ := po_some h;refine VC.seqJ (X := T_Env) (fun x => p_interp_Call_J5 i_19 x = some b3) (fun x => ⟨[(1,.raw (.int .i64 a1)),(3,.raw (.int .i64 a3)),(4,.sl false (a4.map encU32)),(5,.ref 0 0),(7,.ref 1 0),(10,.ref 2 0),(21,.row 5 0 6 0 x.T.length),(22,.raw (.int .i64 (r1.length : Int))),(23,.raw (.int .i64 i_19))],[(0,.box 64 [.sl false (a0.Fns.map enc_Fn)]),(1,.box 49 [.raw (.int .u32 (x.Ctx.a0.toNat : Int)),.raw (.int .u32 (x.Ctx.a1.toNat : Int)),.raw (.int .u32 (x.Ctx.a2.toNat : Int)),.raw (.int .u32 (x.Ctx.a3.toNat : Int)),.row 5 0 6 0 x.T.length,.raw (.int .u32 (x.Seed.toNat : Int))]),(2,.box 67 [.raw (.int .u32 0),.raw (.int .u32 0),.raw (.int .u32 0),.raw (.int .u32 0),.raw (.int .u32 0),.sl true [],.raw (.int .u32 0),.raw (.int .i64 0),.raw (.int .i64 0)]),(5,.row 27 6 0 (x.T.map enc_Table))],96,114,0⟩) ?_ ?_
   ·refine VC.block ?_;obtain ⟨x6,hx6,h⟩ := po_some h;obtain ⟨hx61,hx62,hx63,hx64⟩ := idx_some4 hx6;refine VC.seqF tabOkF [some 25,some 26,some 27,some 12,some 11,none] [1,3,4,5,7,10,11,12,21,22,23] rfl rfl (fun K hK => ?_);push_cast [hb4,hx61,hx62,hx63,hx64];(repeat refine .intro (by omega) ?_);refine hK _ ?_;clear hK K;obtain ⟨r7,hr7,h⟩ := po_some h;refine VC.seqF tabOkF [some 28,some 29,some 30,some 31,none] [1,3,4,5,7,10,11,12,21,22,23] rfl rfl (fun K hK => ?_);push_cast [hb4,hx61,hx62,hx63,hx64];(repeat refine .intro (by omega) ?_);refine callH (H := []) (Ctr.loH (Ctr.ren (Bij.swp 0 64 Bij.id) (c_slices_Clone_api_Entry_api_Entry x6.E hr7) (by push_cast [hb4,hx61,hx62,hx63,hx64]) (by push_cast [hb4,hx61,hx62,hx63,hx64]))) (by push_cast [hb4,hx61,hx62,hx63,hx64]) rfl rfl rfl ?_;push_cast [hb4,hx61,hx62,hx63,hx64];(repeat refine .intro (by omega) ?_);refine hK _ ?_;clear hK K;refine VC.sub (s' := ⟨[(1,.raw (.int .i64 a1)),(3,.raw (.int .i64 a3)),(4,.sl false (a4.map encU32)),(5,.ref 0 0),(7,.ref 1 0),(10,.ref 2 0),(11,.raw (.int .i64 i_19)),(12,.ref 59 0),(21,.row 5 0 6 0 s_18.T.length),(22,.raw (.int .i64 (r1.length : Int))),(23,.raw (.int .i64 i_19))],[(0,.box 64 [.sl false (a0.Fns.map enc_Fn)]),(1,.box 49 [.raw (.int .u32 (s_18.Ctx.a0.toNat : Int)),.raw (.int .u32 (s_18.Ctx.a1.toNat : Int)),.raw (.int .u32 (s_18.Ctx.a2.toNat : Int)),.raw (.int .u32 (s_18.Ctx.a3.toNat : Int)),.row 5 0 6 0 s_18.T.length,.raw (.int .u32 (s_18.Seed.toNat : Int))]),(2,.box 67 [.raw (.int .u32 0),.raw (.int .u32 0),.raw (.int .u32 0),.raw (.int .u32 0),.raw (.int .u32 0),.sl true [],.raw (.int .u32 0),.raw (.int .i64 0),.raw (.int .i64 0)]),(5,.row 27 6 0 (s_18.T.map enc_Table)),(59,.box 27 [.raw (.int .i64 x6.S.Kind),.raw (.int .i64 x6.S.Cap),.raw (.int .i64 x6.S.Words),.raw (.int .i64 x6.S.Ver),.row 64 0 2 0 r7.length,.raw (.int .u32 (x6.Next.toNat : Int))]),(64,.row 41 2 0 (r7.map enc_Entry))],67,114,0⟩) (sof ?_ ?_ rfl rfl) ?_
    ·push_cast [hb4]
    ·push_cast [hb4]
    obtain ⟨v8,h,hk8⟩ := po_some h;refine VC.seqJ (X := T_Env × T_Table) (fun x => p_interp_Call_J8 i_19 x.1 x.2 = some v5) (fun x => ⟨[(1,.raw (.int .i64 a1)),(3,.raw (.int .i64 a3)),(4,.sl false (a4.map encU32)),(5,.ref 0 0),(7,.ref 1 0),(10,.ref 2 0),(11,.raw (.int .i64 i_19)),(12,.ref 59 0),(21,.row 5 0 6 0 x.1.T.length),(22,.raw (.int .i64 (r1.length : Int))),(23,.raw (.int .i64 i_19))],[(0,.box 64 [.sl false (a0.Fns.map enc_Fn)]),(1,.box 49 [.raw (.int .u32 (x.1.Ctx.a0.toNat : Int)),.raw (.int .u32 (x.1.Ctx.a1.toNat : Int)),.raw (.int .u32 (x.1.Ctx.a2.toNat : Int)),.raw (.int .u32 (x.1.Ctx.a3.toNat : Int)),.row 5 0 6 0 x.1.T.length,.raw (.int .u32 (x.1.Seed.toNat : Int))]),(2,.box 67 [.raw (.int .u32 0),.raw (.int .u32 0),.raw (.int .u32 0),.raw (.int .u32 0),.raw (.int .u32 0),.sl true [],.raw (.int .u32 0),.raw (.int .i64 0),.raw (.int .i64 0)]),(5,.row 27 6 0 (x.1.T.map enc_Table)),(59,.box 27 [.raw (.int .i64 x.2.S.Kind),.raw (.int .i64 x.2.S.Cap),.raw (.int .i64 x.2.S.Words),.raw (.int .i64 x.2.S.Ver),.row 64 0 2 0 x.2.E.length,.raw (.int .u32 (x.2.Next.toNat : Int))]),(64,.row 41 2 0 (x.2.E.map enc_Entry))],90,114,0⟩) ?_ ?_
    ·refine VC.seqF tabOkF [some 32,some 33,some 34,some 35] [1,3,4,5,7,10,11,12,21,22,23,34,35] rfl rfl (fun K hK => ?_);push_cast [hb4,hx61,hx62,hx63,hx64];(repeat refine .intro (by omega) ?_);refine hK _ ?_;clear hK K;refine VC.block ?_;refine VC.loopP h (fun x => ⟨[(1,.raw (.int .i64 a1)),(3,.raw (.int .i64 a3)),(4,.sl false (a4.map encU32)),(5,.ref 0 0),(7,.ref 1 0),(10,.ref 2 0),(11,.raw (.int .i64 i_19)),(12,.ref 59 0),(21,.row 5 0 6 0 x.1.T.length),(22,.raw (.int .i64 (r1.length : Int))),(23,.raw (.int .i64 i_19)),(34,.raw (.int .i64 (r7.length : Int))),(35,.raw (.int .i64 x.2.2))],[(0,.box 64 [.sl false (a0.Fns.map enc_Fn)]),(1,.box 49 [.raw (.int .u32 (x.1.Ctx.a0.toNat : Int)),.raw (.int .u32 (x.1.Ctx.a1.toNat : Int)),.raw (.int .u32 (x.1.Ctx.a2.toNat : Int)),.raw (.int .u32 (x.1.Ctx.a3.toNat : Int)),.row 5 0 6 0 x.1.T.length,.raw (.int .u32 (x.1.Seed.toNat : Int))]),(2,.box 67 [.raw (.int .u32 0),.raw (.int .u32 0),.raw (.int .u32 0),.raw (.int .u32 0),.raw (.int .u32 0),.sl true [],.raw (.int .u32 0),.raw (.int .i64 0),.raw (.int .i64 0)]),(5,.row 27 6 0 (x.1.T.map enc_Table)),(59,.box 27 [.raw (.int .i64 x.2.1.S.Kind),.raw (.int .i64 x.2.1.S.Cap),.raw (.int .i64 x.2.1.S.Words),.raw (.int .i64 x.2.1.S.Ver),.row 64 0 2 0 x.2.1.E.length,.raw (.int .u32 (x.2.1.Next.toNat : Int))]),(64,.row 41 2 0 (x.2.1.E.map enc_Entry))],89,114,0⟩) ?_ ?_
     ·refine sof ?_ ?_ rfl rfl
      ·push_cast [hb4]
      ·push_cast [hb4]
     rintro ⟨s_48,s_49,i_50⟩ b9 h hf9;replace h : p_interp_Call_L9 r7 s_48 s_49 i_50 = some b9 := h;(try push_cast);unfold p_interp_Call_L9 at h;refine VC.seqF tabOkF [some 36] [1,3,4,5,7,10,11,12,21,22,23,34,35,36] rfl rfl (fun K hK => ?_);push_cast [hb4,hx61,hx62,hx63,hx64];(repeat refine .intro (by omega) ?_);refine hK _ ?_;clear hK K;refine VC.seq ?_;refine VC.cond rfl rfl (fun hc10 => ?_) (fun hc10 => ?_)
     ·have hb10 : (decide (i_50 < (r7.length : Int))) = true := by simpa using hc10
      replace h := cond_yes hb10 h;refine VC.skip ?_;refine VC.seq ?_;refine VC.block ?_;refine VC.seqF tabOkF [some 37,some 13] [1,3,4,5,7,10,11,12,13,21,22,23,34,35] rfl rfl (fun K hK => ?_);push_cast [hb4,hx61,hx62,hx63,hx64,hb10];(repeat refine .intro (by omega) ?_);refine hK _ ?_;clear hK K;obtain ⟨x11,hx11,h⟩ := po_some h;obtain ⟨hx111,hx112,hx113,hx114⟩ := idx_some4 hx11;obtain ⟨r12,hr12,h⟩ := po_some h;obtain ⟨y13,hy13,h⟩ := pl_some h;have hy13l : y13.length = s_49.E.length := by rw [hy13,List.length_set]
      refine VC.lastFD tabOkF hmixO [some 38,some 39,some 40,some 41,some 42,some 43,some 44,some 45,some 46,some 47,some 48,some 49,none] rfl rfl rfl (fun K hK => ?_);refine runD_cut 8 (fun K2 hK2 => ?_);push_cast [hb4,hx61,hx62,hx63,hx64,hb10,hx111,hx112,hx113,hx114];(repeat refine .intro (by omega) ?_);refine hK2 _ _ _ ?_;clear hK2 K2;simp only [List.drop_succ_cons,List.drop_zero];push_cast [hb4,hx61,hx62,hx63,hx64,hb10,hx111,hx112,hx113,hx114];(repeat refine .intro (by omega) ?_);refine callHD (H := []) (Ctr.loH (Ctr.ren (Bij.swp 0 101 Bij.id) (c_slices_Clone_uint32_uint32 x11.V hr12) (by push_cast [hb4,hx61,hx62,hx63,hx64,hb10,hx111,hx112,hx113,hx114]) (by push_cast [hb4,hx61,hx62,hx63,hx64,hb10,hx111,hx112,hx113,hx114]))) (by push_cast [hb4,hx61,hx62,hx63,hx64,hb10,hx111,hx112,hx113,hx114]) rfl rfl rfl ?_;push_cast [hb4,hx61,hx62,hx63,hx64,hb10,hx111,hx112,hx113,hx114];(repeat refine .intro (by omega) ?_);refine ⟨rfl,hK _ ?_⟩;clear hK K;refine VC.lastF tabOkF [some 50,some 35] rfl rfl (fun K hK => ?_);push_cast [hb4,hx61,hx62,hx63,hx64,hb10,hx111,hx112,hx113,hx114];(repeat refine .intro (by omega) ?_);refine hK _ ?_;clear hK K;refine Exists.intro ((s_48,(T_Table.mk s_49.S y13 s_49.Next),(IntKind.i64.wrap (i_50 + 1)))) (And.intro (Option.some.inj h).symm ?_);refine sof ?_ ?_ rfl rfl
      ·push_cast [hb4,hb10,hy13,hy13l]
      ·push_cast [hb4,hb10,hy13,hy13l]
     ·have hb10 : (decide (i_50 < (r7.length : Int))) = false := by simpa using hc10
      replace h := cond_no hb10 h;refine VC.exit ?_;replace h := congrArg some (hf9 _ (Option.some.inj h).symm);have hv := Option.some.inj h;rw [← hv] at hk8;refine Exists.intro ((s_48,s_49)) (And.intro hk8 ?_);refine sof ?_ ?_ rfl rfl
      ·push_cast [hb4,hb10]
      ·push_cast [hb4,hb10]
    ·rintro ⟨s_54,s_55⟩ h;replace h : p_interp_Call_J8 i_19 s_54 s_55 = some v5 := h;(try push_cast);unfold p_interp_Call_J8 at h;obtain ⟨x14,hx14,h⟩ := po_some h;obtain ⟨hx141,hx142,hx143,hx144⟩ := idx_some4 hx14;obtain ⟨y15,hy15,h⟩ := pl_some h;have hy15l : y15.length = s_54.T.length := by rw [hy15,List.length_set]
     refine VC.lastF tabOkF [some 51,some 52,some 53,some 54,some 55,none] rfl rfl (fun K hK => ?_);push_cast [hb4,hx61,hx62,hx63,hx64,hx141,hx142,hx143,hx144];(repeat refine .intro (by omega) ?_);refine hK _ ?_;clear hK K;have hv := Option.some.inj h;rw [← hv] at hk5;refine Exists.intro ((T_Env.mk s_54.Ctx y15 s_54.Seed)) (And.intro hk5 ?_);refine sof ?_ ?_ rfl rfl
     ·push_cast [hb4,hy15,hy15l]
     ·push_cast [hb4,hy15,hy15l]
   ·rintro s_28 h;replace h : p_interp_Call_J5 i_19 s_28 = some b3 := h;(try push_cast);unfold p_interp_Call_J5 at h;refine VC.lastF tabOkF [some 56,some 23] rfl rfl (fun K hK => ?_);push_cast [hb4];(repeat refine .intro (by omega) ?_);refine hK _ ?_;clear hK K;refine Exists.intro ((s_28,(IntKind.i64.wrap (i_19 + 1)))) (And.intro (Option.some.inj h).symm ?_);refine sof ?_ ?_ rfl rfl
    ·push_cast [hb4]
    ·push_cast [hb4]
  ·have hb4 : (decide (i_19 < (r1.length : Int))) = false := by simpa using hc4
   replace h := cond_no hb4 h;refine VC.exit ?_;replace h := congrArg some (hf3 _ (Option.some.inj h).symm);have hv := Option.some.inj h;rw [← hv] at hk2;refine Exists.intro (s_18) (And.intro hk2 ?_);refine sof ?_ ?_ rfl rfl
   ·push_cast [hb4]
   ·push_cast [hb4]
 ·rintro s_47 h;replace h : p_interp_Call_J2 a0 a1 a3 a4 s_47 = some r := h;(try push_cast);unfold p_interp_Call_J2 at h;refine VC.seq ?_;refine VC.block ?_;obtain ⟨v16,h,hk16⟩ := po_some h;refine VC.seqJ (X := T_Env × Bool) (fun x => p_interp_Call_J16 a0 a1 a3 a4 x.1 x.2 = some r) (fun x => ⟨[(1,.raw (.int .i64 a1)),(3,.raw (.int .i64 a3)),(4,.sl false (a4.map encU32)),(5,.ref 0 0),(7,.ref 1 0),(10,.ref 2 0),(57,.raw (.bool x.2))],[(0,.box 64 [.sl false (a0.Fns.map enc_Fn)]),(1,.box 49 [.raw (.int .u32 (x.1.Ctx.a0.toNat : Int)),.raw (.int .u32 (x.1.Ctx.a1.toNat : Int)),.raw (.int .u32 (x.1.Ctx.a2.toNat : Int)),.raw (.int .u32 (x.1.Ctx.a3.toNat : Int)),.row 5 0 6 0 x.1.T.length,.raw (.int .u32 (x.1.Seed.toNat : Int))]),(2,.box 67 [.raw (.int .u32 0),.raw (.int .u32 0),.raw (.int .u32 0),.raw (.int .u32 0),.raw (.int .u32 0),.sl true [],.raw (.int .u32 0),.raw (.int .i64 0),.raw (.int .i64 0)]),(5,.row 27 6 0 (x.1.T.map enc_Table))],66,114,0⟩) ?_ ?_
  ·obtain ⟨r17,hr17,h⟩ := po_some h;refine VC.seqF tabOkF [some 58,some 59,some 60,some 57] [1,3,4,5,7,10,57] rfl rfl (fun K hK => ?_);push_cast;(repeat refine .intro (by omega) ?_);refine callP (Ctr.lo (c_prog_May a0 hr17)) rfl ?_;push_cast;(repeat refine .intro (by omega) ?_);refine hK _ ?_;clear hK K;refine VC.cond rfl rfl (fun hc18 => ?_) (fun hc18 => ?_)
   ·have hb18 : (!r17) = true := by simpa using hc18
    replace h := cond_yes hb18 h;refine VC.skip ?_;have hv := Option.some.inj h;rw [← hv] at hk16;refine Exists.intro ((s_47,(!r17))) (And.intro hk16 ?_);refine sof ?_ ?_ rfl rfl
    ·push_cast [hb18]
    ·push_cast [hb18]
   ·have hb18 : (!r17) = false := by simpa using hc18
    replace h := cond_no hb18 h;refine VC.seqF tabOkF [some 61,some 62,some 57] [1,3,4,5,7,10,57] rfl rfl (fun K hK => ?_);push_cast [hb18];(repeat refine .intro (by omega) ?_);refine hK _ ?_;clear hK K;refine VC.cond rfl rfl (fun hc19 => ?_) (fun hc19 => ?_)
    ·have hb19 : (decide (a3 < 0)) = true := by simpa using hc19
     replace h := cond_yes hb19 h;refine VC.skip ?_;have hv := Option.some.inj h;rw [← hv] at hk16;refine Exists.intro ((s_47,(decide (a3 < 0)))) (And.intro hk16 ?_);refine sof ?_ ?_ rfl rfl
     ·push_cast [hb18,hb19]
     ·push_cast [hb18,hb19]
    ·have hb19 : (decide (a3 < 0)) = false := by simpa using hc19
     replace h := cond_no hb19 h;refine VC.lastF tabOkF [some 63,some 64,some 57] rfl rfl (fun K hK => ?_);push_cast [hb18,hb19];(repeat refine .intro (by omega) ?_);refine hK _ ?_;clear hK K;have hv := Option.some.inj h;rw [← hv] at hk16;refine Exists.intro ((s_47,(decide (a3 > 100000)))) (And.intro hk16 ?_);refine sof ?_ ?_ rfl rfl
     ·push_cast [hb18,hb19]
     ·push_cast [hb18,hb19]
  ·rintro ⟨s_56,i_57⟩ h;replace h : p_interp_Call_J16 a0 a1 a3 a4 s_56 i_57 = some r := h;(try push_cast);unfold p_interp_Call_J16 at h;refine VC.cond rfl rfl (fun hc20 => ?_) (fun hc20 => ?_)
   ·have hb20 : i_57 = true := by simpa using hc20
    replace h := cond_yes hb20 h;refine VC.seqF tabOkF [some 65,some 66,none] [10] rfl rfl (fun K hK => ?_);push_cast [hb20];(repeat refine .intro (by omega) ?_);refine hK _ ?_;clear hK K;refine VC.ret ?_;have hr := Option.some.inj h;subst hr;refine endS (Sub.freeze prog (b := 2) (j := 5) rfl rfl rfl (by push_cast [hb20] <;> omega) (by decide)) ?_;refine endP (Sub.lo _) (Post.ret ?_ ?_ ?_)
    ·push_cast [hb20]
    ·push_cast [hb20]
    ·rfl
   ·have hb20 : i_57 = false := by simpa using hc20
    replace h := cond_no hb20 h;obtain ⟨v21,h,hk21⟩ := po_some h;refine VC.seqJ (X := T_Env × Bool) (fun x => p_interp_Call_J21 a0 a1 a3 a4 x.1 x.2 = some r) (fun x => ⟨[(1,.raw (.int .i64 a1)),(3,.raw (.int .i64 a3)),(4,.sl false (a4.map encU32)),(5,.ref 0 0),(7,.ref 1 0),(10,.ref 2 0),(67,.raw (.bool x.2))],[(0,.box 64 [.sl false (a0.Fns.map enc_Fn)]),(1,.box 49 [.raw (.int .u32 (x.1.Ctx.a0.toNat : Int)),.raw (.int .u32 (x.1.Ctx.a1.toNat : Int)),.raw (.int .u32 (x.1.Ctx.a2.toNat : Int)),.raw (.int .u32 (x.1.Ctx.a3.toNat : Int)),.row 5 0 6 0 x.1.T.length,.raw (.int .u32 (x.1.Seed.toNat : Int))]),(2,.box 67 [.raw (.int .u32 0),.raw (.int .u32 0),.raw (.int .u32 0),.raw (.int .u32 0),.raw (.int .u32 0),.sl true [],.raw (.int .u32 0),.raw (.int .i64 0),.raw (.int .i64 0)]),(5,.row 27 6 0 (x.1.T.map enc_Table))],85,114,0⟩) ?_ ?_
    ·refine VC.seqF tabOkF [some 68,some 69,some 67] [1,3,4,5,7,10,67] rfl rfl (fun K hK => ?_);push_cast [hb20];(repeat refine .intro (by omega) ?_);refine hK _ ?_;clear hK K;refine VC.cond rfl rfl (fun hc22 => ?_) (fun hc22 => ?_)
     ·have hb22 : (decide (a1 < 0)) = true := by simpa using hc22
      replace h := cond_yes hb22 h;refine VC.skip ?_;have hv := Option.some.inj h;rw [← hv] at hk21;refine Exists.intro ((s_56,(decide (a1 < 0)))) (And.intro hk21 ?_);refine sof ?_ ?_ rfl rfl
      ·push_cast [hb20,hb22]
      ·push_cast [hb20,hb22]
     ·have hb22 : (decide (a1 < 0)) = false := by simpa using hc22
      replace h := cond_no hb22 h;refine VC.seqF tabOkF [some 70,some 71,some 72,some 73,some 74,some 67] [1,3,4,5,7,10,67] rfl rfl (fun K hK => ?_);push_cast [hb20,hb22];(repeat refine .intro (by omega) ?_);refine hK _ ?_;clear hK K;refine VC.cond rfl rfl (fun hc23 => ?_) (fun hc23 => ?_)
      ·have hb23 : (decide (a1 ≥ (a0.Fns.length : Int))) = true := by simpa using hc23
       replace h := cond_yes hb23 h;refine VC.skip ?_;have hv := Option.some.inj h;rw [← hv] at hk21;refine Exists.intro ((s_56,(decide (a1 ≥ (a0.Fns.length : Int))))) (And.intro hk21 ?_);refine sof ?_ ?_ rfl rfl
       ·push_cast [hb20,hb22,hb23]
       ·push_cast [hb20,hb22,hb23]
      ·have hb23 : (decide (a1 ≥ (a0.Fns.length : Int))) = false := by simpa using hc23
       replace h := cond_no hb23 h;obtain ⟨x24,hx24,h⟩ := po_some h;obtain ⟨hx241,hx242,hx243,hx244⟩ := idx_some4 hx24;refine VC.lastF tabOkF [some 75,some 76,some 77,some 78,some 79,some 80,some 81,some 82,some 83,some 67] rfl rfl (fun K hK => ?_);push_cast [hb20,hb22,hb23,hx241,hx242,hx243,hx244];(repeat refine .intro (by omega) ?_);refine hK _ ?_;clear hK K;have hv := Option.some.inj h;rw [← hv] at hk21;refine Exists.intro ((s_56,((a4.length : Int) != x24.Args))) (And.intro hk21 ?_);refine sof ?_ ?_ rfl rfl
       ·push_cast [hb20,hb22,hb23]
       ·push_cast [hb20,hb22,hb23]
    ·rintro ⟨s_58,i_59⟩ h;replace h : p_interp_Call_J21 a0 a1 a3 a4 s_58 i_59 = some r := h;(try push_cast);unfold p_interp_Call_J21 at h;refine VC.cond rfl rfl (fun hc25 => ?_) (fun hc25 => ?_)
     ·have hb25 : i_59 = true := by simpa using hc25
      replace h := cond_yes hb25 h;refine VC.seqF tabOkF [some 84,some 85,none] [10] rfl rfl (fun K hK => ?_);push_cast [hb20,hb25];(repeat refine .intro (by omega) ?_);refine hK _ ?_;clear hK K;refine VC.ret ?_;have hr := Option.some.inj h;subst hr;refine endS (Sub.freeze prog (b := 2) (j := 5) rfl rfl rfl (by push_cast [hb20,hb25] <;> omega) (by decide)) ?_;refine endP (Sub.lo _) (Post.ret ?_ ?_ ?_)
      ·push_cast [hb20,hb25]
      ·push_cast [hb20,hb25]
      ·rfl
     ·have hb25 : i_59 = false := by simpa using hc25
      replace h := cond_no hb25 h;refine VC.skip ?_;refine VC.seqF tabOkF [some 86,some 87,some 88,some 89,some 90,some 14] [1,4,10,14] rfl rfl (fun K hK => ?_);push_cast [hb20,hb25];(repeat refine .intro (by omega) ?_);refine hK _ ?_;clear hK K;refine VC.sub (Sub.freeze prog (b := 89) (j := 5) rfl rfl rfl (by push_cast [hb20,hb25] <;> omega) (by decide)) ?_;refine VC.sub (s' := ⟨[(1,.raw (.int .i64 a1)),(4,.sl false (a4.map encU32)),(10,.ref 2 0),(14,.ref 89 0)],[(2,.box 67 [.raw (.int .u32 0),.raw (.int .u32 0),.raw (.int .u32 0),.raw (.int .u32 0),.raw (.int .u32 0),.sl true [],.raw (.int .u32 0),.raw (.int .i64 0),.raw (.int .i64 0)]),(89,.box 109 [.sl false (a0.Fns.map enc_Fn),.raw (.int .u32 (s_58.Ctx.a0.toNat : Int)),.raw (.int .u32 (s_58.Ctx.a1.toNat : Int)),.raw (.int .u32 (s_58.Ctx.a2.toNat : Int)),.raw (.int .u32 (s_58.Ctx.a3.toNat : Int)),.sl false (s_58.T.map enc_Table),.raw (.int .u32 (s_58.Seed.toNat : Int)),.raw (.int .i64 a3),.raw (.int .i64 0),.raw (.int .i64 0)])],91,114,0⟩) (sof ?_ ?_ rfl rfl) ?_
      ·push_cast [hb20,hb25]
      ·push_cast [hb20,hb25]
      obtain ⟨r26,hr26,h⟩ := po_some h;refine VC.seqF tabOkF [some 91,some 92,some 93,some 94,some 15] [10,14,15] rfl rfl (fun K hK => ?_);push_cast [hb20,hb25];(repeat refine .intro (by omega) ?_);refine callH (H := [(89,.box 109 [.sl false (a0.Fns.map enc_Fn),.raw (.int .u32 (s_58.Ctx.a0.toNat : Int)),.raw (.int .u32 (s_58.Ctx.a1.toNat : Int)),.raw (.int .u32 (s_58.Ctx.a2.toNat : Int)),.raw (.int .u32 (s_58.Ctx.a3.toNat : Int)),.sl false (s_58.T.map enc_Table),.raw (.int .u32 (s_58.Seed.toNat : Int)),.raw (.int .i64 a3),.raw (.int .i64 0),.raw (.int .i64 0)])]) (Ctr.loH (Ctr.ren (Bij.swp 0 89 Bij.id) (c_interp_run_frame 9 (T_interp_run.mk a0 s_58 a3 0 0) a1 a4 hr26) (by push_cast [hb20,hb25]) (by push_cast [hb20,hb25]))) (by push_cast [hb20,hb25]) rfl rfl rfl ?_;push_cast [hb20,hb25];(repeat refine .intro (by omega) ?_);refine hK _ ?_;clear hK K;refine VC.sub (s' := ⟨[(10,.ref 2 0),(14,.ref 89 0),(15,.raw (.int .u32 (r26.1.toNat : Int)))],[(2,.box 67 [.raw (.int .u32 0),.raw (.int .u32 0),.raw (.int .u32 0),.raw (.int .u32 0),.raw (.int .u32 0),.sl true [],.raw (.int .u32 0),.raw (.int .i64 0),.raw (.int .i64 0)]),(89,.box 109 [.sl false (r26.2.p.Fns.map enc_Fn),.raw (.int .u32 (r26.2.e.Ctx.a0.toNat : Int)),.raw (.int .u32 (r26.2.e.Ctx.a1.toNat : Int)),.raw (.int .u32 (r26.2.e.Ctx.a2.toNat : Int)),.raw (.int .u32 (r26.2.e.Ctx.a3.toNat : Int)),.sl false (r26.2.e.T.map enc_Table),.raw (.int .u32 (r26.2.e.Seed.toNat : Int)),.raw (.int .i64 r26.2.fuel),.raw (.int .i64 r26.2.used),.raw (.int .i64 r26.2.err)])],96,114,0⟩) (sof ?_ ?_ rfl rfl) ?_
      ·push_cast [hb20,hb25]
      ·push_cast [hb20,hb25]
      obtain ⟨v27,h,hk27⟩ := po_some h;refine VC.seqJ (X := UInt32) (fun x => p_interp_Call_J27 r26 x = some r) (fun x => ⟨[(10,.ref 2 0),(14,.ref 89 0),(15,.raw (.int .u32 (x.toNat : Int)))],[(2,.box 67 [.raw (.int .u32 0),.raw (.int .u32 0),.raw (.int .u32 0),.raw (.int .u32 0),.raw (.int .u32 0),.sl true [],.raw (.int .u32 0),.raw (.int .i64 0),.raw (.int .i64 0)]),(89,.box 109 [.sl false (r26.2.p.Fns.map enc_Fn),.raw (.int .u32 (r26.2.e.Ctx.a0.toNat : Int)),.raw (.int .u32 (r26.2.e.Ctx.a1.toNat : Int)),.raw (.int .u32 (r26.2.e.Ctx.a2.toNat : Int)),.raw (.int .u32 (r26.2.e.Ctx.a3.toNat : Int)),.sl false (r26.2.e.T.map enc_Table),.raw (.int .u32 (r26.2.e.Seed.toNat : Int)),.raw (.int .i64 r26.2.fuel),.raw (.int .i64 r26.2.used),.raw (.int .i64 r26.2.err)])],102,114,0⟩) ?_ ?_
      ·refine VC.seqF tabOkF [some 95,some 96,some 97,some 98,some 99] [10,14,15,99] rfl rfl (fun K hK => ?_);push_cast [hb20,hb25];(repeat refine .intro (by omega) ?_);refine hK _ ?_;clear hK K;refine VC.cond rfl rfl (fun hc28 => ?_) (fun hc28 => ?_)
       ·have hb28 : (r26.2.err != 0) = true := by simpa using hc28
        replace h := cond_yes hb28 h;refine VC.lastF tabOkF [some 15] rfl rfl (fun K hK => ?_);push_cast [hb20,hb25,hb28];(repeat refine .intro (by omega) ?_);refine hK _ ?_;clear hK K;have hv := Option.some.inj h;rw [← hv] at hk27;refine Exists.intro (0) (And.intro hk27 ?_);refine sof ?_ ?_ rfl rfl
        ·push_cast [hb20,hb25,hb28]
        ·push_cast [hb20,hb25,hb28]
       ·have hb28 : (r26.2.err != 0) = false := by simpa using hc28
        replace h := cond_no hb28 h;refine VC.skip ?_;have hv := Option.some.inj h;rw [← hv] at hk27;refine Exists.intro (r26.1) (And.intro hk27 ?_);refine sof ?_ ?_ rfl rfl
        ·push_cast [hb20,hb25,hb28]
        ·push_cast [hb20,hb25,hb28]
      ·rintro i_60 h;replace h : p_interp_Call_J27 r26 i_60 = some r := h;(try push_cast);unfold p_interp_Call_J27 at h;refine VC.seqFD tabOkF hmixO [some 100,some 101,some 102,some 103,some 104,some 105,some 106,some 107,some 108,some 109,some 110,some 111,some 112,some 113,none] [10] rfl rfl rfl (fun K hK => ?_);refine runD_cut 8 (fun K2 hK2 => ?_);push_cast [hb20,hb25];(repeat refine .intro (by omega) ?_);refine hK2 _ _ _ ?_;clear hK2 K2;simp only [List.drop_succ_cons,List.drop_zero];push_cast [hb20,hb25];(repeat refine .intro (by omega) ?_);refine ⟨rfl,hK _ ?_⟩;clear hK K;refine VC.ret ?_;have hr := Option.some.inj h;subst hr;refine endP (Sub.lo _) (Post.ret ?_ ?_ ?_)
       ·push_cast [hb20,hb25]
       ·push_cast [hb20,hb25]
       ·rfl
noncomputable def p_interp_Run (a0 : T_Prog) (a1 : T_Env) (a2 : Int) : Option (T_Ran) :=
  po (p_interp_Call a0 0 a1 a2 []) fun r1 =>
  some r1
theorem c_interp_Run (a0 : T_Prog) (a1 : T_Env) (a2 : Int) {r : T_Ran} (h : p_interp_Run a0 a1 a2 = some r) : Ctr prog 46 [.agg (enc_Prog a0), .agg (enc_Env a1), .raw (.int .i64 a2)] [] (.agg (enc_Ran r)) [] := by
 unfold p_interp_Run at h;refine Ctr.ofW tabOk func46 rfl call46 0 _ ntmps46 [.cell 6 67] rfl rfl rfl (fun B => ?_);refine VC.seqF tabOkF [some 3,some 4,some 6] [2,3,4,6] rfl rfl (fun K hK => ?_);push_cast;(repeat refine .intro (by omega) ?_);refine hK _ ?_;clear hK K;obtain ⟨r1,hr1,h⟩ := po_some h;refine VC.seqF tabOkF [some 7,some 8,some 9,some 10,none] [6] rfl rfl (fun K hK => ?_);push_cast;(repeat refine .intro (by omega) ?_);refine callP (Ctr.lo (c_interp_Call a0 0 a1 a2 [] hr1)) rfl ?_;push_cast;(repeat refine .intro (by omega) ?_);refine hK _ ?_;clear hK K;refine VC.ret ?_;have hr := Option.some.inj h;subst hr;refine endP (Sub.lo _) (Post.ret ?_ ?_ ?_)
 ·push_cast
 ·push_cast
 ·rfl
noncomputable def p_drydocklaw07_awake_J3 (i_1 : Bool) : Option (Bool) :=
  some i_1
noncomputable def p_drydocklaw07_awake : Option (Bool) :=
  po (p_interp_Run (T_Prog.mk ([(T_Fn.mk 0 ([(T_Inst.mk 0 0 0 0 false 0 5), (T_Inst.mk 7 0 0 0 false 0 0)]))])) (T_Env.mk (A4.mk 0 0 0 0) [] 0) 9) fun r1 =>
  po (p_interp_Run (T_Prog.mk ([(T_Fn.mk 0 ([(T_Inst.mk 0 0 0 0 false 0 5), (T_Inst.mk 7 0 0 0 false 0 0)]))])) (T_Env.mk (A4.mk 0 0 0 0) [] 0) 1) fun r2 =>
  po (
  cond ((r1.Ret.toNat : Int) == 5) (
  cond (r1.Used == 2) (
  cond (r1.Err == 0) (
  cond (r2.Err == 2) (
  some (r2.Used == 1)) (
  some false)) (
  some false)) (
  some false)) (
  some false)) (fun x => p_drydocklaw07_awake_J3 x)
theorem c_drydocklaw07_awake {r : Bool} (h : p_drydocklaw07_awake = some r) : Ctr prog 44 [] [] (.raw (.bool r)) [] := by
 unfold p_drydocklaw07_awake at h;refine Ctr.ofW tabOk func44 rfl call44 0 _ ntmps44 [.tmp 0] rfl rfl rfl (fun B => ?_);refine VC.seqF tabOkF [some 0] [] rfl rfl (fun K hK => ?_);push_cast;(repeat refine .intro (by omega) ?_);refine hK _ ?_;clear hK K;refine VC.seqF tabOkF [some 4,some 5,some 6,some 7,some 8,some 9,some 1,none] [1] rfl rfl (fun K hK => ?_);push_cast;(repeat refine .intro (by omega) ?_);refine hK _ ?_;clear hK K;refine VC.sub (s' := ⟨[(1,.ref 7 0)],[(5,.row 74 2 0 (([(T_Fn.mk 0 ([(T_Inst.mk 0 0 0 0 false 0 5),(T_Inst.mk 7 0 0 0 false 0 0)]))]).map enc_Fn)),(7,.box 64 [.row 5 0 2 0 1])],9,39,0⟩) (sof ?_ ?_ rfl rfl) ?_
 ·push_cast
 ·push_cast
 refine VC.sub (Sub.freeze prog (b := 7) (j := 0) rfl rfl rfl (by push_cast <;> omega) (by decide)) ?_;refine VC.sub (s' := ⟨[(1,.ref 7 0)],[(7,.box 64 [.sl false (([(T_Fn.mk 0 ([(T_Inst.mk 0 0 0 0 false 0 5),(T_Inst.mk 7 0 0 0 false 0 0)]))]).map enc_Fn)])],9,39,0⟩) (sof ?_ ?_ rfl rfl) ?_
 ·push_cast
 ·push_cast
 obtain ⟨r1,hr1,h⟩ := po_some h;refine VC.seqF tabOkF [some 10,some 11,some 12,some 2,none] [1,2] rfl rfl (fun K hK => ?_);push_cast;(repeat refine .intro (by omega) ?_);refine callP (Ctr.lo (c_interp_Run (T_Prog.mk ([(T_Fn.mk 0 ([(T_Inst.mk 0 0 0 0 false 0 5),(T_Inst.mk 7 0 0 0 false 0 0)]))])) (T_Env.mk (A4.mk 0 0 0 0) [] 0) 9 hr1)) rfl ?_;push_cast;(repeat refine .intro (by omega) ?_);refine hK _ ?_;clear hK K;obtain ⟨r2,hr2,h⟩ := po_some h;refine VC.seqF tabOkF [some 13,some 14,some 15,some 3,none] [2,3] rfl rfl (fun K hK => ?_);push_cast;(repeat refine .intro (by omega) ?_);refine callP (Ctr.lo (c_interp_Run (T_Prog.mk ([(T_Fn.mk 0 ([(T_Inst.mk 0 0 0 0 false 0 5),(T_Inst.mk 7 0 0 0 false 0 0)]))])) (T_Env.mk (A4.mk 0 0 0 0) [] 0) 1 hr2)) rfl ?_;push_cast;(repeat refine .intro (by omega) ?_);refine hK _ ?_;clear hK K;obtain ⟨v3,h,hk3⟩ := po_some h;refine VC.seqJ (X := Bool) (fun x => p_drydocklaw07_awake_J3 x = some r) (fun x => ⟨[(0,.raw (.bool x))],[],43,39,0⟩) ?_ ?_
 ·rcases Bool.eq_false_or_eq_true ((r1.Ret.toNat : Int) == 5) with hb4 | hb4
  ·replace h := cond_yes hb4 h;rcases Bool.eq_false_or_eq_true (r1.Used == 2) with hb5 | hb5
   ·replace h := cond_yes hb5 h;rcases Bool.eq_false_or_eq_true (r1.Err == 0) with hb6 | hb6
    ·replace h := cond_yes hb6 h;rcases Bool.eq_false_or_eq_true (r2.Err == 2) with hb7 | hb7
     ·replace h := cond_yes hb7 h;refine VC.lastF tabOkF [some 16,some 17,some 18,some 19,some 20,some 21,some 22,some 23,some 24,some 25,some 26,some 27,some 28,some 29,some 30,some 31,some 32,some 33,some 34,some 35,some 36,some 37,some 38,some 0] rfl rfl (fun K hK => ?_);refine runOps_cut 8 (fun K2 hK2 => ?_);push_cast [hb4,hb5,hb6,hb7];(repeat refine .intro (by omega) ?_);refine hK2 _ _ ?_;clear hK2 K2;simp only [List.drop_succ_cons,List.drop_zero];refine runOps_cut 8 (fun K2 hK2 => ?_);push_cast [hb4,hb5,hb6,hb7];(repeat refine .intro (by omega) ?_);refine hK2 _ _ ?_;clear hK2 K2;simp only [List.drop_succ_cons,List.drop_zero];push_cast [hb4,hb5,hb6,hb7];(repeat refine .intro (by omega) ?_);refine hK _ ?_;clear hK K;have hv := Option.some.inj h;rw [← hv] at hk3;refine Exists.intro ((r2.Used == 1)) (And.intro hk3 ?_);refine slo ?_ ?_ rfl rfl
      ·push_cast [hb4,hb5,hb6,hb7]
      ·push_cast [hb4,hb5,hb6,hb7]
     ·replace h := cond_no hb7 h;refine VC.lastF tabOkF [some 16,some 17,some 18,some 19,some 20,some 21,some 22,some 23,some 24,some 25,some 26,some 27,some 28,some 29,some 30,some 31,some 32,some 33,some 34,some 35,some 36,some 37,some 38,some 0] rfl rfl (fun K hK => ?_);refine runOps_cut 8 (fun K2 hK2 => ?_);push_cast [hb4,hb5,hb6,hb7];(repeat refine .intro (by omega) ?_);refine hK2 _ _ ?_;clear hK2 K2;simp only [List.drop_succ_cons,List.drop_zero];refine runOps_cut 8 (fun K2 hK2 => ?_);push_cast [hb4,hb5,hb6,hb7];(repeat refine .intro (by omega) ?_);refine hK2 _ _ ?_;clear hK2 K2;simp only [List.drop_succ_cons,List.drop_zero];push_cast [hb4,hb5,hb6,hb7];(repeat refine .intro (by omega) ?_);refine hK _ ?_;clear hK K;have hv := Option.some.inj h;rw [← hv] at hk3;refine Exists.intro (false) (And.intro hk3 ?_);refine slo ?_ ?_ rfl rfl
      ·push_cast [hb4,hb5,hb6,hb7]
      ·push_cast [hb4,hb5,hb6,hb7]
    ·replace h := cond_no hb6 h;refine VC.lastF tabOkF [some 16,some 17,some 18,some 19,some 20,some 21,some 22,some 23,some 24,some 25,some 26,some 27,some 28,some 29,some 30,some 31,some 32,some 33,some 34,some 35,some 36,some 37,some 38,some 0] rfl rfl (fun K hK => ?_);refine runOps_cut 8 (fun K2 hK2 => ?_);push_cast [hb4,hb5,hb6];(repeat refine .intro (by omega) ?_);refine hK2 _ _ ?_;clear hK2 K2;simp only [List.drop_succ_cons,List.drop_zero];refine runOps_cut 8 (fun K2 hK2 => ?_);push_cast [hb4,hb5,hb6];(repeat refine .intro (by omega) ?_);refine hK2 _ _ ?_;clear hK2 K2;simp only [List.drop_succ_cons,List.drop_zero];push_cast [hb4,hb5,hb6];(repeat refine .intro (by omega) ?_);refine hK _ ?_;clear hK K;have hv := Option.some.inj h;rw [← hv] at hk3;refine Exists.intro (false) (And.intro hk3 ?_);refine slo ?_ ?_ rfl rfl
     ·push_cast [hb4,hb5,hb6]
     ·push_cast [hb4,hb5,hb6]
   ·replace h := cond_no hb5 h;refine VC.lastF tabOkF [some 16,some 17,some 18,some 19,some 20,some 21,some 22,some 23,some 24,some 25,some 26,some 27,some 28,some 29,some 30,some 31,some 32,some 33,some 34,some 35,some 36,some 37,some 38,some 0] rfl rfl (fun K hK => ?_);refine runOps_cut 8 (fun K2 hK2 => ?_);push_cast [hb4,hb5];(repeat refine .intro (by omega) ?_);refine hK2 _ _ ?_;clear hK2 K2;simp only [List.drop_succ_cons,List.drop_zero];refine runOps_cut 8 (fun K2 hK2 => ?_);push_cast [hb4,hb5];(repeat refine .intro (by omega) ?_);refine hK2 _ _ ?_;clear hK2 K2;simp only [List.drop_succ_cons,List.drop_zero];push_cast [hb4,hb5];(repeat refine .intro (by omega) ?_);refine hK _ ?_;clear hK K;have hv := Option.some.inj h;rw [← hv] at hk3;refine Exists.intro (false) (And.intro hk3 ?_);refine slo ?_ ?_ rfl rfl
    ·push_cast [hb4,hb5]
    ·push_cast [hb4,hb5]
  ·replace h := cond_no hb4 h;refine VC.lastF tabOkF [some 16,some 17,some 18,some 19,some 20,some 21,some 22,some 23,some 24,some 25,some 26,some 27,some 28,some 29,some 30,some 31,some 32,some 33,some 34,some 35,some 36,some 37,some 38,some 0] rfl rfl (fun K hK => ?_);refine runOps_cut 8 (fun K2 hK2 => ?_);push_cast [hb4];(repeat refine .intro (by omega) ?_);refine hK2 _ _ ?_;clear hK2 K2;simp only [List.drop_succ_cons,List.drop_zero];refine runOps_cut 8 (fun K2 hK2 => ?_);push_cast [hb4];(repeat refine .intro (by omega) ?_);refine hK2 _ _ ?_;clear hK2 K2;simp only [List.drop_succ_cons,List.drop_zero];push_cast [hb4];(repeat refine .intro (by omega) ?_);refine hK _ ?_;clear hK K;have hv := Option.some.inj h;rw [← hv] at hk3;refine Exists.intro (false) (And.intro hk3 ?_);refine slo ?_ ?_ rfl rfl
   ·push_cast [hb4]
   ·push_cast [hb4]
 ·rintro i_1 h;replace h : p_drydocklaw07_awake_J3 i_1 = some r := h;(try push_cast);unfold p_drydocklaw07_awake_J3 at h;refine VC.ret ?_;have hr := Option.some.inj h;subst hr;refine endP (Sub.lo _) (Post.ret ?_ ?_ ?_)
  ·push_cast
  ·push_cast
  ·rfl
noncomputable def p_drydockref03_Few_J3 (a0 : T_Prog) (i_2 : Bool) (i_3 : Int) (i_4 : Bool) : Option ((Bool × Int) ⊕ (Bool)) :=
  cond i_4 (
  po (idx a0.Fns i_3) fun x6 =>
  some (Sum.inl ((decide ((x6.Code.length : Int) ≤ 80)), (IntKind.i64.wrap (i_3 + 1))))) (
  some (Sum.inr i_2))
noncomputable def p_drydockref03_Few_L2 (a0 : T_Prog) (i_2 : Bool) (i_3 : Int) : Option ((Bool × Int) ⊕ (Bool)) :=
  po (
  cond (decide (i_3 < (a0.Fns.length : Int))) (
  some i_2) (
  some false)) (fun x => p_drydockref03_Few_J3 a0 i_2 i_3 x)
noncomputable def p_drydockref03_Few_J1 (i_7 : Bool) : Option (Bool) :=
  some i_7
noncomputable def p_drydockref03_Few (a0 : T_Prog) : Option (Bool) :=
  po (
  lpU (fun x => p_drydockref03_Few_L2 a0 x.1 x.2) ((decide ((a0.Fns.length : Int) ≤ 12)), 0)) (fun x => p_drydockref03_Few_J1 x)
theorem c_drydockref03_Few (a0 : T_Prog) {r : Bool} (h : p_drydockref03_Few a0 = some r) : Ctr prog 74 [.agg (enc_Prog a0)] [] (.raw (.bool r)) [] := by
 unfold p_drydockref03_Few at h;refine Ctr.ofW tabOk func74 rfl call74 0 _ ntmps74 [.tmp 2] rfl rfl rfl (fun B => ?_);refine VC.seqF tabOkF [some 1,some 2] [1] rfl rfl (fun K hK => ?_);push_cast;(repeat refine .intro (by omega) ?_);refine hK _ ?_;clear hK K;refine VC.seqF tabOkF [some 5,some 6,some 7,some 8,some 3] [1,3] rfl rfl (fun K hK => ?_);push_cast;(repeat refine .intro (by omega) ?_);refine hK _ ?_;clear hK K;obtain ⟨v1,h,hk1⟩ := po_some h;refine VC.seqJ (X := Bool) (fun x => p_drydockref03_Few_J1 x = some r) (fun x => ⟨[(3,.raw (.bool x))],[],36,28,0⟩) ?_ ?_
 ·refine VC.seqF tabOkF [some 4] [1,3,4] rfl rfl (fun K hK => ?_);push_cast;(repeat refine .intro (by omega) ?_);refine hK _ ?_;clear hK K;refine VC.block ?_;refine VC.loopP h (fun x => ⟨[(1,.ref 0 0),(3,.raw (.bool x.1)),(4,.raw (.int .i64 x.2))],[(0,.box 64 [.sl false (a0.Fns.map enc_Fn)])],28,28,0⟩) ?_ ?_
  ·refine slo ?_ ?_ rfl rfl
   ·push_cast
   ·push_cast
  rintro ⟨i_2,i_3⟩ b2 h hf2;replace h : p_drydockref03_Few_L2 a0 i_2 i_3 = some b2 := h;(try push_cast);unfold p_drydockref03_Few_L2 at h;refine VC.seq ?_;obtain ⟨v3,h,hk3⟩ := po_some h;refine VC.seqJ (X := Bool) (fun x => p_drydockref03_Few_J3 a0 i_2 i_3 x = some b2) (fun x => ⟨[(1,.ref 0 0),(3,.raw (.bool i_2)),(4,.raw (.int .i64 i_3)),(16,.raw (.bool x))],[(0,.box 64 [.sl false (a0.Fns.map enc_Fn)])],36,28,0⟩) ?_ ?_
  ·rcases Bool.eq_false_or_eq_true (decide (i_3 < (a0.Fns.length : Int))) with hb4 | hb4
   ·replace h := cond_yes hb4 h;refine VC.lastF tabOkF [some 9,some 10,some 11,some 12,some 13,some 14,some 15,some 16] rfl rfl (fun K hK => ?_);push_cast [hb4];(repeat refine .intro (by omega) ?_);refine hK _ ?_;clear hK K;have hv := Option.some.inj h;rw [← hv] at hk3;refine Exists.intro (i_2) (And.intro hk3 ?_);refine slo ?_ ?_ rfl rfl
    ·push_cast [hb4]
    ·push_cast [hb4]
   ·replace h := cond_no hb4 h;refine VC.lastF tabOkF [some 9,some 10,some 11,some 12,some 13,some 14,some 15,some 16] rfl rfl (fun K hK => ?_);push_cast [hb4];(repeat refine .intro (by omega) ?_);refine hK _ ?_;clear hK K;have hv := Option.some.inj h;rw [← hv] at hk3;refine Exists.intro (false) (And.intro hk3 ?_);refine slo ?_ ?_ rfl rfl
    ·push_cast [hb4]
    ·push_cast [hb4]
  ·rintro i_4 h;replace h : p_drydockref03_Few_J3 a0 i_2 i_3 i_4 = some b2 := h;(try push_cast);unfold p_drydockref03_Few_J3 at h;refine VC.cond rfl rfl (fun hc5 => ?_) (fun hc5 => ?_)
   ·have hb5 : i_4 = true := by simpa using hc5
    replace h := cond_yes hb5 h;refine VC.skip ?_;refine VC.seq ?_;refine VC.block ?_;obtain ⟨x6,hx6,h⟩ := po_some h;obtain ⟨hx61,hx62,hx63,hx64⟩ := idx_some4 hx6;refine VC.lastF tabOkF [some 19,some 20,some 21,some 22,some 23,some 24,some 25,some 26,some 3] rfl rfl (fun K hK => ?_);push_cast [hb5,hx61,hx62,hx63,hx64];(repeat refine .intro (by omega) ?_);refine hK _ ?_;clear hK K;refine VC.lastF tabOkF [some 17,some 18,some 4] rfl rfl (fun K hK => ?_);push_cast [hb5,hx61,hx62,hx63,hx64];(repeat refine .intro (by omega) ?_);refine hK _ ?_;clear hK K;refine Exists.intro (((decide ((x6.Code.length : Int) ≤ 80)),(IntKind.i64.wrap (i_3 + 1)))) (And.intro (Option.some.inj h).symm ?_);refine slo ?_ ?_ rfl rfl
    ·push_cast [hb5]
    ·push_cast [hb5]
   ·have hb5 : i_4 = false := by simpa using hc5
    replace h := cond_no hb5 h;refine VC.exit ?_;replace h := congrArg some (hf2 _ (Option.some.inj h).symm);have hv := Option.some.inj h;rw [← hv] at hk1;refine Exists.intro (i_2) (And.intro hk1 ?_);refine slo ?_ ?_ rfl rfl
    ·push_cast [hb5]
    ·push_cast [hb5]
 ·rintro i_7 h;replace h : p_drydockref03_Few_J1 i_7 = some r := h;(try push_cast);unfold p_drydockref03_Few_J1 at h;refine VC.seqF tabOkF [some 27,some 2] [2] rfl rfl (fun K hK => ?_);push_cast;(repeat refine .intro (by omega) ?_);refine hK _ ?_;clear hK K;refine VC.ret ?_;have hr := Option.some.inj h;subst hr;refine endP (Sub.lo _) (Post.ret ?_ ?_ ?_)
  ·push_cast
  ·push_cast
  ·rfl
noncomputable def p_drydocklaw07_few_J1 (i_1 : Bool) : Option (Bool) :=
  some i_1
noncomputable def p_drydocklaw07_few (a0 : T_Prog) (a1 : T_Env) : Option (Bool) :=
  po (
  po (p_drydockref03_Few a0) fun r2 =>
  cond r2 (
  po (p_drydockref05_Few a1.T) fun r4 =>
  some r4) (
  some false)) (fun x => p_drydocklaw07_few_J1 x)
theorem c_drydocklaw07_few (a0 : T_Prog) (a1 : T_Env) {r : Bool} (h : p_drydocklaw07_few a0 a1 = some r) : Ctr prog 45 [.agg (enc_Prog a0), .agg (enc_Env a1)] [] (.raw (.bool r)) [] := by
 unfold p_drydocklaw07_few at h;refine Ctr.ofW tabOk func45 rfl call45 0 _ ntmps45 [.tmp 4] rfl rfl rfl (fun B => ?_);refine VC.seqF tabOkF [some 2,some 3,some 4] [2,3] rfl rfl (fun K hK => ?_);push_cast;(repeat refine .intro (by omega) ?_);refine hK _ ?_;clear hK K;obtain ⟨v1,h,hk1⟩ := po_some h;refine VC.seqJ (X := Bool) (fun x => p_drydocklaw07_few_J1 x = some r) (fun x => ⟨[(4,.raw (.bool x))],[],11,12,0⟩) ?_ ?_
 ·obtain ⟨r2,hr2,h⟩ := po_some h;rcases Bool.eq_false_or_eq_true r2 with hb3 | hb3
  ·replace h := cond_yes hb3 h;obtain ⟨r4,hr4,h⟩ := po_some h;refine VC.lastF tabOkF [some 5,some 6,some 7,some 8,some 9,some 10,some 11,some 4] rfl rfl (fun K hK => ?_);push_cast [hb3];(repeat refine .intro (by omega) ?_);refine callP (Ctr.lo (c_drydockref03_Few a0 hr2)) rfl ?_;push_cast [hb3];(repeat refine .intro (by omega) ?_);refine callP (Ctr.lo (c_drydockref05_Few a1.T hr4)) rfl ?_;push_cast [hb3];(repeat refine .intro (by omega) ?_);refine hK _ ?_;clear hK K;have hv := Option.some.inj h;rw [← hv] at hk1;refine Exists.intro (r4) (And.intro hk1 ?_);refine slo ?_ ?_ rfl rfl
   ·push_cast [hb3]
   ·push_cast [hb3]
  ·replace h := cond_no hb3 h;refine VC.lastF tabOkF [some 5,some 6,some 7,some 8,some 9,some 10,some 11,some 4] rfl rfl (fun K hK => ?_);push_cast [hb3];(repeat refine .intro (by omega) ?_);refine callP (Ctr.lo (c_drydockref03_Few a0 hr2)) rfl ?_;push_cast [hb3];(repeat refine .intro (by omega) ?_);refine hK _ ?_;clear hK K;have hv := Option.some.inj h;rw [← hv] at hk1;refine Exists.intro (false) (And.intro hk1 ?_);refine slo ?_ ?_ rfl rfl
   ·push_cast [hb3]
   ·push_cast [hb3]
 ·rintro i_1 h;replace h : p_drydocklaw07_few_J1 i_1 = some r := h;(try push_cast);unfold p_drydocklaw07_few_J1 at h;refine VC.ret ?_;have hr := Option.some.inj h;subst hr;refine endP (Sub.lo _) (Post.ret ?_ ?_ ?_)
  ·push_cast
  ·push_cast
  ·rfl
end Go.Proofs.Ytkhanhhingicpaa
