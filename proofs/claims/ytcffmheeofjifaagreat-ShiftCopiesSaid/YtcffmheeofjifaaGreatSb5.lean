/-
  PROVED: the statement ShiftCopies of the given seat: whatever the map, the schema and how many words more, drydocklaw18.ShiftCopies returns true, and what was handed in reads as it did.
  Conditions: none beyond the statement's own.
-/
import Derived.Test.YtcffmheeofjifaaGreatSb4
import Derived.Lib.Hide
import Derived.ProofKit
import Derived.Deep.Slices
import Derived.OpenShut
import Derived.Test.YtcffmheeofjifaaGreatRows
set_option linter.unusedVariables false
set_option linter.unusedSimpArgs false
set_option maxHeartbeats 4000000
set_option maxRecDepth 100000
namespace Go.Proofs.YtcffmheeofjifaaGreat
open Go Go.RowKit Go.Proofs.Tryz
noncomputable def p_interp_run_frame_L2 (a2 : (List UInt32)) (s_1 : T_interp_run) (s_2 : T_interp_frame) (i_3 : Int) : Option ((T_interp_run × T_interp_frame × Int) ⊕ (T_interp_run × T_interp_frame)) :=
  cond (decide (i_3 < (a2.length : Int))) (
  po (idx a2 i_3) fun x4 =>
  po (p_interp_frame_put s_2 s_1 (IntKind.i64.wrap (i_3 + 1)) x4) fun r5 =>
  some (Sum.inl (r5.2, r5.1, (IntKind.i64.wrap (i_3 + 1))))) (
  some (Sum.inr (s_1, s_2)))
noncomputable def p_interp_run_frame_J9 (x6 : T_Fn) (s_10 : T_interp_run) (s_11 : T_interp_frame) (i_12 : Bool) : Option ((T_interp_run × T_interp_frame) ⊕ (T_interp_run × T_interp_frame)) :=
  cond i_12 (
  cond (s_10.used == s_10.fuel) (
  po (p_interp_run_fail s_10 2) fun r13 =>
  some (Sum.inl (r13, s_11))) (
  cond (decide (s_11.at_ ≥ (x6.Code.length : Int))) (
  po (p_interp_run_fail (T_interp_run.mk s_10.p s_10.e s_10.fuel (IntKind.i64.wrap (s_10.used + 1)) s_10.err) 10) fun r15 =>
  some (Sum.inl (r15, s_11))) (
  po (idx x6.Code s_11.at_) fun x16 =>
  cond (x16.Op == 0) (
  po (p_interp_frame_alu s_11 (T_interp_run.mk s_10.p s_10.e s_10.fuel (IntKind.i64.wrap (s_10.used + 1)) s_10.err) x16) fun r18 =>
  some (Sum.inl (r18.2, (T_interp_frame.mk r18.1.fn (IntKind.i64.wrap (r18.1.at_ + 1)) r18.1.regs r18.1.set r18.1.stack r18.1.over)))) (
  cond (x16.Op == 1) (
  po (p_interp_frame_jump s_11 (T_interp_run.mk s_10.p s_10.e s_10.fuel (IntKind.i64.wrap (s_10.used + 1)) s_10.err) x16) fun r20 =>
  some (Sum.inl (r20.2, (T_interp_frame.mk r20.1.fn (IntKind.i64.wrap (r20.1.at_ + 1)) r20.1.regs r20.1.set r20.1.stack r20.1.over)))) (
  cond (x16.Op == 2) (
  po (p_interp_frame_words s_11 (T_interp_run.mk s_10.p s_10.e s_10.fuel (IntKind.i64.wrap (s_10.used + 1)) s_10.err) x16) fun r22 =>
  some (Sum.inl (r22.2, (T_interp_frame.mk r22.1.fn (IntKind.i64.wrap (r22.1.at_ + 1)) r22.1.regs r22.1.set r22.1.stack r22.1.over)))) (
  cond (x16.Op == 3) (
  po (p_interp_frame_words s_11 (T_interp_run.mk s_10.p s_10.e s_10.fuel (IntKind.i64.wrap (s_10.used + 1)) s_10.err) x16) fun r24 =>
  some (Sum.inl (r24.2, (T_interp_frame.mk r24.1.fn (IntKind.i64.wrap (r24.1.at_ + 1)) r24.1.regs r24.1.set r24.1.stack r24.1.over)))) (
  cond (x16.Op == 4) (
  po (p_interp_frame_words s_11 (T_interp_run.mk s_10.p s_10.e s_10.fuel (IntKind.i64.wrap (s_10.used + 1)) s_10.err) x16) fun r26 =>
  some (Sum.inl (r26.2, (T_interp_frame.mk r26.1.fn (IntKind.i64.wrap (r26.1.at_ + 1)) r26.1.regs r26.1.set r26.1.stack r26.1.over)))) (
  cond (x16.Op == 5) (
  po (p_interp_frame_help s_11 (T_interp_run.mk s_10.p s_10.e s_10.fuel (IntKind.i64.wrap (s_10.used + 1)) s_10.err) x16) fun r28 =>
  some (Sum.inl (r28.2, (T_interp_frame.mk r28.1.fn (IntKind.i64.wrap (r28.1.at_ + 1)) r28.1.regs r28.1.set r28.1.stack r28.1.over)))) (
  cond (x16.Op == 6) (
  po (p_interp_frame_call s_11 (T_interp_run.mk s_10.p s_10.e s_10.fuel (IntKind.i64.wrap (s_10.used + 1)) s_10.err) x16) fun r30 =>
  some (Sum.inl (r30.2, (T_interp_frame.mk r30.1.fn (IntKind.i64.wrap (r30.1.at_ + 1)) r30.1.regs r30.1.set r30.1.stack r30.1.over)))) (
  cond (x16.Op == 7) (
  po (p_interp_frame_exit s_11 (T_interp_run.mk s_10.p s_10.e s_10.fuel (IntKind.i64.wrap (s_10.used + 1)) s_10.err) x16) fun r32 =>
  some (Sum.inl (r32.2, (T_interp_frame.mk r32.1.fn (IntKind.i64.wrap (r32.1.at_ + 1)) r32.1.regs r32.1.set r32.1.stack r32.1.over)))) (
  none))))))))))) (
  some (Sum.inr (s_10, s_11)))
noncomputable def p_interp_run_frame_L8 (x6 : T_Fn) (s_10 : T_interp_run) (s_11 : T_interp_frame) : Option ((T_interp_run × T_interp_frame) ⊕ (T_interp_run × T_interp_frame)) :=
  po (
  cond (s_10.err == 0) (
  some (!s_11.over)) (
  some false)) (fun x => p_interp_run_frame_J9 x6 s_10 s_11 x)
noncomputable def p_interp_run_frame_J7 (s_15 : T_interp_run) (s_16 : T_interp_frame) : Option (UInt32 × T_interp_run) :=
  some (s_16.regs.a0, s_15)
noncomputable def p_interp_run_frame_J1 (a1 : Int) (s_7 : T_interp_run) (s_8 : T_interp_frame) : Option (UInt32 × T_interp_run) :=
  po (idx s_7.p.Fns a1) fun x6 =>
  po (
  lpU (fun x => p_interp_run_frame_L8 x6 x.1 x.2) (s_7, s_8)) (fun x => p_interp_run_frame_J7 x.1 x.2)
noncomputable def p_interp_run_frame (a0 : T_interp_run) (a1 : Int) (a2 : (List UInt32)) : Option (UInt32 × T_interp_run) :=
  po (
  lpU (fun x => p_interp_run_frame_L2 a2 x.1 x.2.1 x.2.2) (a0, (T_interp_frame.mk a1 0 (A8.mk 0 0 0 0 0 0 0 0) (A8.mk false false false false false false false false) (A16.mk 0 0 0 0 0 0 0 0 0 0 0 0 0 0 0 0) false), 0)) (fun x => p_interp_run_frame_J1 a1 x.1 x.2)
theorem c_interp_run_frame {a0 : T_interp_run} {a1 : Int} {a2 : (List UInt32)} {r : UInt32 × T_interp_run} (h : p_interp_run_frame a0 a1 a2 = some r) : Ctr prog 171 [.ref 0 0, ri a1, .sl false (a2.map encU32)] [(0, .box 259 (enc_interp_run a0))] (ru r.1) [(0, .box 259 (enc_interp_run r.2))] := by
 unfold p_interp_run_frame at h;refine Ctr.ofW tabOk func171 rfl call171 1 _ ntmps171 [.tmp 6] rfl rfl rfl (fun B => ?_);refine vs [0,1,2] (fun K hK => ?_);push_cast (maxSteps := 9000000) [-partsQ];refine hK _ ?_;clear hK K;refine vs [0,1,2,7] (fun K hK => ?_);push_cast (maxSteps := 9000000) [-partsQ];refine hK _ ?_;clear hK K;refine VC.sub (s' := ⟨[(0,.ref 0 0),(1,ri a1),(2,.sl false (a2.map encU32)),(7,.ref 5 0)],[(0,.box 259 (enc_interp_run a0)),(5,.box 283 (enc_interp_frame (T_interp_frame.mk a1 0 (A8.mk 0 0 0 0 0 0 0 0) (A8.mk false false false false false false false false) (A16.mk 0 0 0 0 0 0 0 0 0 0 0 0 0 0 0 0) false) (.ref 0 0)))],7,114,1⟩) (so (by push_cast (maxSteps := 9000000) [-partsQ,enc_interp_frame])) ?_;refine vj h (fun x => ⟨[(0,.ref 0 0),(1,ri a1),(7,.ref 5 0)],[(0,.box 259 (enc_interp_run x.1)),(5,.box 283 (enc_interp_frame x.2 (.ref 0 0)))],24,114,1⟩) (fun v1 h hk1 => ?_) ?_
 ·as_aux_lemma =>
   refine vs [0,1,7,17,18,19] (fun K hK => ?_);push_cast (maxSteps := 9000000) [-partsQ];refine hK _ ?_;clear hK K;refine VC.block ?_;refine VC.loopP h (fun x => ⟨[(0,.ref 0 0),(1,ri a1),(7,.ref 5 0),(17,.sl false (a2.map encU32)),(18,ri (a2.length : Int)),(19,ri x.2.2)],[(0,.box 259 (enc_interp_run x.1)),(5,.box 283 (enc_interp_frame x.2.1 (.ref 0 0)))],23,114,1⟩) ?_ ?_
   ·exact sl (by push_cast (maxSteps := 9000000) [-partsQ])
   rintro ⟨s_1,s_2,i_3⟩ b2 (h : p_interp_run_frame_L2 a2 s_1 s_2 i_3 = some b2) hf2;(try push_cast (maxSteps := 9000000) [-partsQ]);unfold p_interp_run_frame_L2 at h;refine vs [0,1,7,17,18,19,20] (fun K hK => ?_);push_cast (maxSteps := 9000000) [-partsQ];refine hK _ ?_;clear hK K;refine VC.seq ?_;refine vc h (fun hb3 h => ?_) (fun hb3 h => ?_)
   ·refine VC.skip ?_;refine VC.seq ?_;refine VC.block ?_;obtain ⟨x4,hx4,h⟩ := po_some h;replace hx4 := idx_some4 hx4;refine vs [0,1,7,8,9,17,18,19] (fun K hK => ?_);push_cast (maxSteps := 9000000) [-partsQ,hx4];(repeat refine .intro (by omega) ?_);refine hK _ ?_;clear hK K;obtain ⟨r5,hr5,h⟩ := po_some h;refine vl (fun K hK => ?_);push_cast (maxSteps := 9000000) [-partsQ];refine ch (H := [(5,.box 283 (enc_interp_frame s_2 (.ref 0 0))),(0,.box 259 (enc_interp_run s_1))]) (Ctr.loH (Ctr.ren (Bij.swp 1 0 (Bij.swp 0 5 Bij.id)) (c_interp_frame_put hr5) (by push_cast (maxSteps := 9000000) [-partsQ]) (by push_cast (maxSteps := 9000000) [-partsQ]))) (by push_cast (maxSteps := 9000000) [-partsQ]) ?_;push_cast (maxSteps := 9000000) [-partsQ];refine hK _ ?_;clear hK K;refine vl (fun K hK => ?_);push_cast (maxSteps := 9000000) [-partsQ];refine hK _ ?_;clear hK K;refine bk h ?_;exact sl (by push_cast (maxSteps := 9000000) [-partsQ,hb3])
   ·refine VC.exit ?_;replace h := ol h hf2;refine ar h hk1 ?_;exact sl (by push_cast (maxSteps := 9000000) [-partsQ,hb3])
 ·as_aux_lemma =>
   rintro ⟨s_7,s_8⟩ (h : p_interp_run_frame_J1 a1 s_7 s_8 = some r);(try push_cast (maxSteps := 9000000) [-partsQ]);unfold p_interp_run_frame_J1 at h;refine vs [0,1,7,10] (fun K hK => ?_);push_cast (maxSteps := 9000000) [-partsQ];refine hK _ ?_;clear hK K;obtain ⟨x6,hx6,h⟩ := po_some h;replace hx6 := idx_some4 hx6;refine vs [0,7,10,11] (fun K hK => ?_);push_cast (maxSteps := 9000000) [-partsQ,hx6];(repeat refine .intro (by omega) ?_);refine hK _ ?_;clear hK K;refine vj h (fun x => ⟨[(7,.ref 5 0)],[(0,.box 259 (enc_interp_run x.1)),(5,.box 283 (enc_interp_frame x.2 (.ref 0 0)))],111,114,1⟩) (fun v7 h hk7 => ?_) ?_
   ·as_aux_lemma =>
     refine VC.block ?_;refine VC.loopP h (fun x => ⟨[(0,.ref 0 0),(7,.ref 5 0),(10,.ref 25 0),(11,.sl false (x6.Code.map enc_Inst))],[(0,.box 259 (enc_interp_run x.1)),(5,.box 283 (enc_interp_frame x.2 (.ref 0 0))),(25,.box 286 [.fn (.func 198) [] [],.fn (.func 199) [] [],.fn (.func 200) [] [],.fn (.func 200) [] [],.fn (.func 200) [] [],.fn (.func 201) [] [],.fn (.func 202) [] [],.fn (.func 203) [] []])],99,114,1⟩) ?_ ?_
     ·exact sl (by push_cast (maxSteps := 9000000) [-partsQ])
     rintro ⟨s_10,s_11⟩ b8 (h : p_interp_run_frame_L8 x6 s_10 s_11 = some b8) hf8;(try push_cast (maxSteps := 9000000) [-partsQ]);unfold p_interp_run_frame_L8 at h;refine VC.seq ?_;refine vj h (fun x => ⟨[(0,.ref 0 0),(7,.ref 5 0),(10,.ref 25 0),(11,.sl false (x6.Code.map enc_Inst)),(51,rb x)],[(0,.box 259 (enc_interp_run s_10)),(5,.box 283 (enc_interp_frame s_11 (.ref 0 0))),(25,.box 286 [.fn (.func 198) [] [],.fn (.func 199) [] [],.fn (.func 200) [] [],.fn (.func 200) [] [],.fn (.func 200) [] [],.fn (.func 201) [] [],.fn (.func 202) [] [],.fn (.func 203) [] []])],111,114,1⟩) (fun v9 h hk9 => ?_) ?_
     ·as_aux_lemma =>
       rcases Bool.eq_false_or_eq_true (s_10.err == 0) with hb10 | hb10
       ·replace h := cond_yes hb10 h;refine vlG [some 40,some 41,some 42,some 43,some 44,some 45,some 46,some 47,some 48,some 49,some 50,some 51] (fun K hK => ?_);refine runOps_cut 8 (fun K2 hK2 => ?_);push_cast (maxSteps := 9000000) [-partsQ,hb10];(repeat refine .intro (by omega) ?_);refine hK2 _ _ ?_;clear hK2 K2;simp only [List.drop_succ_cons,List.drop_zero];push_cast (maxSteps := 9000000) [-partsQ,hb10];(repeat refine .intro (by omega) ?_);refine hK _ ?_;clear hK K;refine ar h hk9 ?_;exact sl (by push_cast (maxSteps := 9000000) [-partsQ,hb10])
       ·replace h := cond_no hb10 h;refine vlG [some 40,some 41,some 42,some 43,some 44,some 45,some 46,some 47,some 48,some 49,some 50,some 51] (fun K hK => ?_);refine runOps_cut 8 (fun K2 hK2 => ?_);push_cast (maxSteps := 9000000) [-partsQ,hb10];(repeat refine .intro (by omega) ?_);refine hK2 _ _ ?_;clear hK2 K2;simp only [List.drop_succ_cons,List.drop_zero];push_cast (maxSteps := 9000000) [-partsQ,hb10];(repeat refine .intro (by omega) ?_);refine hK _ ?_;clear hK K;refine ar h hk9 ?_;exact sl (by push_cast (maxSteps := 9000000) [-partsQ,hb10])
     ·as_aux_lemma =>
       rintro i_12 (h : p_interp_run_frame_J9 x6 s_10 s_11 i_12 = some b8);(try push_cast (maxSteps := 9000000) [-partsQ]);unfold p_interp_run_frame_J9 at h;refine vc h (fun hb11 h => ?_) (fun hb11 h => ?_)
       ·refine VC.skip ?_;refine VC.block ?_;refine VC.seq ?_;refine VC.block ?_;refine vsD [some 53,some 54,some 55,some 56,some 57,some 58,some 59,some 60,some 61,some 52] [0,7,10,11,52] (fun K hK => ?_);push_cast (maxSteps := 9000000) [-partsQ];refine ⟨rfl,hK _ ?_⟩;clear hK K;refine vc h (fun hb12 h => ?_) (fun hb12 h => ?_)
        ·obtain ⟨r13,hr13,h⟩ := po_some h;refine vs [0,7,10,11] (fun K hK => ?_);push_cast (maxSteps := 9000000) [-partsQ];refine ch (H := [(0,.box 259 (enc_interp_run s_10))]) (Ctr.loH (Ctr.ren Bij.id (c_interp_run_fail hr13) (by push_cast (maxSteps := 9000000) [-partsQ]) (by push_cast (maxSteps := 9000000) [-partsQ]))) (by push_cast (maxSteps := 9000000) [-partsQ]) ?_;push_cast (maxSteps := 9000000) [-partsQ];refine hK _ ?_;clear hK K;refine VC.sub (s' := ⟨[(0,.ref 0 0),(7,.ref 5 0),(10,.ref 25 0),(11,.sl false (x6.Code.map enc_Inst))],[(0,.box 259 (enc_interp_run r13)),(5,.box 283 (enc_interp_frame s_11 (.ref 0 0))),(25,.box 286 [.fn (.func 198) [] [],.fn (.func 199) [] [],.fn (.func 200) [] [],.fn (.func 200) [] [],.fn (.func 200) [] [],.fn (.func 201) [] [],.fn (.func 202) [] [],.fn (.func 203) [] []])],123,114,1⟩) (so (by push_cast (maxSteps := 9000000) [-partsQ,hb11,hb12])) ?_;refine VC.exit ?_;refine bk h ?_;exact sl (by push_cast (maxSteps := 9000000) [-partsQ,hb11,hb12])
        ·refine vs [0,7,10,11,64] (fun K hK => ?_);push_cast (maxSteps := 9000000) [-partsQ];refine hK _ ?_;clear hK K;refine vc h (fun hb14 h => ?_) (fun hb14 h => ?_)
         ·refine vs [0,7,10,11] (fun K hK => ?_);push_cast (maxSteps := 9000000) [-partsQ];refine hK _ ?_;clear hK K;obtain ⟨r15,hr15,h⟩ := po_some h;refine vs [0,7,10,11] (fun K hK => ?_);push_cast (maxSteps := 9000000) [-partsQ];refine ch (H := [(0,.box 259 (enc_interp_run (T_interp_run.mk s_10.p s_10.e s_10.fuel (IntKind.i64.wrap (s_10.used + 1)) s_10.err)))]) (Ctr.loH (Ctr.ren Bij.id (c_interp_run_fail hr15) (by push_cast (maxSteps := 9000000) [-partsQ]) (by push_cast (maxSteps := 9000000) [-partsQ]))) (by push_cast (maxSteps := 9000000) [-partsQ]) ?_;push_cast (maxSteps := 9000000) [-partsQ];refine hK _ ?_;clear hK K;refine VC.sub (s' := ⟨[(0,.ref 0 0),(7,.ref 5 0),(10,.ref 25 0),(11,.sl false (x6.Code.map enc_Inst))],[(0,.box 259 (enc_interp_run r15)),(5,.box 283 (enc_interp_frame s_11 (.ref 0 0))),(25,.box 286 [.fn (.func 198) [] [],.fn (.func 199) [] [],.fn (.func 200) [] [],.fn (.func 200) [] [],.fn (.func 200) [] [],.fn (.func 201) [] [],.fn (.func 202) [] [],.fn (.func 203) [] []])],139,114,1⟩) (so (by push_cast (maxSteps := 9000000) [-partsQ,hb11,hb12,hb14])) ?_;refine VC.exit ?_;refine bk h ?_;exact sl (by push_cast (maxSteps := 9000000) [-partsQ,hb11,hb12,hb14])
         ·refine VC.skip ?_;obtain ⟨x16,hx16,h⟩ := po_some h;replace hx16 := idx_some4 hx16;refine vs [0,7,10,11,12] (fun K hK => ?_);push_cast (maxSteps := 9000000) [-partsQ,hx16];(repeat refine .intro (by omega) ?_);refine hK _ ?_;clear hK K;refine vs [0,7,10,11,12] (fun K hK => ?_);push_cast (maxSteps := 9000000) [-partsQ];refine hK _ ?_;clear hK K;rcases Bool.eq_false_or_eq_true (x16.Op == 0) with hb17 | hb17
          ·as_aux_lemma =>
            replace h := cond_yes hb17 h;have hb17e : x16.Op = 0 := by simpa using hb17
            have hb17n : x16.Op.toNat = 0 := by omega
            obtain ⟨r18,hr18,h⟩ := po_some h;refine vsD [some 95,some 96,some 97,some 98,some 99,some 100,some 101] [0,7,10,11] (fun K hK => ?_);push_cast (maxSteps := 9000000) [-partsQ,hb17n];(repeat refine .intro (by omega) ?_);refine chD (H := [(5,.box 283 (enc_interp_frame s_11 (.ref 0 0))),(0,.box 259 (enc_interp_run (T_interp_run.mk s_10.p s_10.e s_10.fuel (IntKind.i64.wrap (s_10.used + 1)) s_10.err)))]) (Ctr.loH (Ctr.ren (Bij.swp 1 0 (Bij.swp 0 5 Bij.id)) (c_interp_frame_alu hr18) (by push_cast (maxSteps := 9000000) [-partsQ,hb17n]) (by push_cast (maxSteps := 9000000) [-partsQ,hb17n]))) (by push_cast (maxSteps := 9000000) [-partsQ,hb17n]) ?_;push_cast (maxSteps := 9000000) [-partsQ,hb17n];(repeat refine .intro (by omega) ?_);refine ⟨rfl,hK _ ?_⟩;clear hK K;refine VC.sub (s' := ⟨[(0,.ref 0 0),(7,.ref 5 0),(10,.ref 25 0),(11,.sl false (x6.Code.map enc_Inst))],[(0,.box 259 (enc_interp_run r18.2)),(5,.box 283 (enc_interp_frame r18.1 (.ref 0 0))),(25,.box 286 [.fn (.func 198) [] [],.fn (.func 199) [] [],.fn (.func 200) [] [],.fn (.func 200) [] [],.fn (.func 200) [] [],.fn (.func 201) [] [],.fn (.func 202) [] [],.fn (.func 203) [] []])],153,114,1⟩) (so (by push_cast (maxSteps := 9000000) [-partsQ,hb11,hb12,hb14])) ?_;refine vl (fun K hK => ?_);push_cast (maxSteps := 9000000) [-partsQ];refine hK _ ?_;clear hK K;refine bk h ?_;exact sl (by push_cast (maxSteps := 9000000) [-partsQ,hb11,hb12,hb14])
          ·replace h := cond_no hb17 h;rcases Bool.eq_false_or_eq_true (x16.Op == 1) with hb19 | hb19
           ·as_aux_lemma =>
             replace h := cond_yes hb19 h;have hb19e : x16.Op = 1 := by simpa using hb19
             have hb19n : x16.Op.toNat = 1 := by omega
             obtain ⟨r20,hr20,h⟩ := po_some h;refine vsD [some 95,some 96,some 97,some 98,some 99,some 100,some 101] [0,7,10,11] (fun K hK => ?_);push_cast (maxSteps := 9000000) [-partsQ,hb19n];(repeat refine .intro (by omega) ?_);refine chD (H := [(5,.box 283 (enc_interp_frame s_11 (.ref 0 0))),(0,.box 259 (enc_interp_run (T_interp_run.mk s_10.p s_10.e s_10.fuel (IntKind.i64.wrap (s_10.used + 1)) s_10.err)))]) (Ctr.loH (Ctr.ren (Bij.swp 1 0 (Bij.swp 0 5 Bij.id)) (c_interp_frame_jump hr20) (by push_cast (maxSteps := 9000000) [-partsQ,hb19n]) (by push_cast (maxSteps := 9000000) [-partsQ,hb19n]))) (by push_cast (maxSteps := 9000000) [-partsQ,hb19n]) ?_;push_cast (maxSteps := 9000000) [-partsQ,hb19n];(repeat refine .intro (by omega) ?_);refine ⟨rfl,hK _ ?_⟩;clear hK K;refine VC.sub (s' := ⟨[(0,.ref 0 0),(7,.ref 5 0),(10,.ref 25 0),(11,.sl false (x6.Code.map enc_Inst))],[(0,.box 259 (enc_interp_run r20.2)),(5,.box 283 (enc_interp_frame r20.1 (.ref 0 0))),(25,.box 286 [.fn (.func 198) [] [],.fn (.func 199) [] [],.fn (.func 200) [] [],.fn (.func 200) [] [],.fn (.func 200) [] [],.fn (.func 201) [] [],.fn (.func 202) [] [],.fn (.func 203) [] []])],153,114,1⟩) (so (by push_cast (maxSteps := 9000000) [-partsQ,hb11,hb12,hb14])) ?_;refine vl (fun K hK => ?_);push_cast (maxSteps := 9000000) [-partsQ];refine hK _ ?_;clear hK K;refine bk h ?_;exact sl (by push_cast (maxSteps := 9000000) [-partsQ,hb11,hb12,hb14])
           ·replace h := cond_no hb19 h;rcases Bool.eq_false_or_eq_true (x16.Op == 2) with hb21 | hb21
            ·as_aux_lemma =>
              replace h := cond_yes hb21 h;have hb21e : x16.Op = 2 := by simpa using hb21
              have hb21n : x16.Op.toNat = 2 := by omega
              obtain ⟨r22,hr22,h⟩ := po_some h;refine vsD [some 95,some 96,some 97,some 98,some 99,some 100,some 101] [0,7,10,11] (fun K hK => ?_);push_cast (maxSteps := 9000000) [-partsQ,hb21n];(repeat refine .intro (by omega) ?_);refine chD (H := [(5,.box 283 (enc_interp_frame s_11 (.ref 0 0))),(0,.box 259 (enc_interp_run (T_interp_run.mk s_10.p s_10.e s_10.fuel (IntKind.i64.wrap (s_10.used + 1)) s_10.err)))]) (Ctr.loH (Ctr.ren (Bij.swp 1 0 (Bij.swp 0 5 Bij.id)) (c_interp_frame_words hr22) (by push_cast (maxSteps := 9000000) [-partsQ,hb21n]) (by push_cast (maxSteps := 9000000) [-partsQ,hb21n]))) (by push_cast (maxSteps := 9000000) [-partsQ,hb21n]) ?_;push_cast (maxSteps := 9000000) [-partsQ,hb21n];(repeat refine .intro (by omega) ?_);refine ⟨rfl,hK _ ?_⟩;clear hK K;refine VC.sub (s' := ⟨[(0,.ref 0 0),(7,.ref 5 0),(10,.ref 25 0),(11,.sl false (x6.Code.map enc_Inst))],[(0,.box 259 (enc_interp_run r22.2)),(5,.box 283 (enc_interp_frame r22.1 (.ref 0 0))),(25,.box 286 [.fn (.func 198) [] [],.fn (.func 199) [] [],.fn (.func 200) [] [],.fn (.func 200) [] [],.fn (.func 200) [] [],.fn (.func 201) [] [],.fn (.func 202) [] [],.fn (.func 203) [] []])],153,114,1⟩) (so (by push_cast (maxSteps := 9000000) [-partsQ,hb11,hb12,hb14])) ?_;refine vl (fun K hK => ?_);push_cast (maxSteps := 9000000) [-partsQ];refine hK _ ?_;clear hK K;refine bk h ?_;exact sl (by push_cast (maxSteps := 9000000) [-partsQ,hb11,hb12,hb14])
            ·replace h := cond_no hb21 h;rcases Bool.eq_false_or_eq_true (x16.Op == 3) with hb23 | hb23
             ·as_aux_lemma =>
               replace h := cond_yes hb23 h;have hb23e : x16.Op = 3 := by simpa using hb23
               have hb23n : x16.Op.toNat = 3 := by omega
               obtain ⟨r24,hr24,h⟩ := po_some h;refine vsD [some 95,some 96,some 97,some 98,some 99,some 100,some 101] [0,7,10,11] (fun K hK => ?_);push_cast (maxSteps := 9000000) [-partsQ,hb23n];(repeat refine .intro (by omega) ?_);refine chD (H := [(5,.box 283 (enc_interp_frame s_11 (.ref 0 0))),(0,.box 259 (enc_interp_run (T_interp_run.mk s_10.p s_10.e s_10.fuel (IntKind.i64.wrap (s_10.used + 1)) s_10.err)))]) (Ctr.loH (Ctr.ren (Bij.swp 1 0 (Bij.swp 0 5 Bij.id)) (c_interp_frame_words hr24) (by push_cast (maxSteps := 9000000) [-partsQ,hb23n]) (by push_cast (maxSteps := 9000000) [-partsQ,hb23n]))) (by push_cast (maxSteps := 9000000) [-partsQ,hb23n]) ?_;push_cast (maxSteps := 9000000) [-partsQ,hb23n];(repeat refine .intro (by omega) ?_);refine ⟨rfl,hK _ ?_⟩;clear hK K;refine VC.sub (s' := ⟨[(0,.ref 0 0),(7,.ref 5 0),(10,.ref 25 0),(11,.sl false (x6.Code.map enc_Inst))],[(0,.box 259 (enc_interp_run r24.2)),(5,.box 283 (enc_interp_frame r24.1 (.ref 0 0))),(25,.box 286 [.fn (.func 198) [] [],.fn (.func 199) [] [],.fn (.func 200) [] [],.fn (.func 200) [] [],.fn (.func 200) [] [],.fn (.func 201) [] [],.fn (.func 202) [] [],.fn (.func 203) [] []])],153,114,1⟩) (so (by push_cast (maxSteps := 9000000) [-partsQ,hb11,hb12,hb14])) ?_;refine vl (fun K hK => ?_);push_cast (maxSteps := 9000000) [-partsQ];refine hK _ ?_;clear hK K;refine bk h ?_;exact sl (by push_cast (maxSteps := 9000000) [-partsQ,hb11,hb12,hb14])
             ·replace h := cond_no hb23 h;rcases Bool.eq_false_or_eq_true (x16.Op == 4) with hb25 | hb25
              ·as_aux_lemma =>
                replace h := cond_yes hb25 h;have hb25e : x16.Op = 4 := by simpa using hb25
                have hb25n : x16.Op.toNat = 4 := by omega
                obtain ⟨r26,hr26,h⟩ := po_some h;refine vsD [some 95,some 96,some 97,some 98,some 99,some 100,some 101] [0,7,10,11] (fun K hK => ?_);push_cast (maxSteps := 9000000) [-partsQ,hb25n];(repeat refine .intro (by omega) ?_);refine chD (H := [(5,.box 283 (enc_interp_frame s_11 (.ref 0 0))),(0,.box 259 (enc_interp_run (T_interp_run.mk s_10.p s_10.e s_10.fuel (IntKind.i64.wrap (s_10.used + 1)) s_10.err)))]) (Ctr.loH (Ctr.ren (Bij.swp 1 0 (Bij.swp 0 5 Bij.id)) (c_interp_frame_words hr26) (by push_cast (maxSteps := 9000000) [-partsQ,hb25n]) (by push_cast (maxSteps := 9000000) [-partsQ,hb25n]))) (by push_cast (maxSteps := 9000000) [-partsQ,hb25n]) ?_;push_cast (maxSteps := 9000000) [-partsQ,hb25n];(repeat refine .intro (by omega) ?_);refine ⟨rfl,hK _ ?_⟩;clear hK K;refine VC.sub (s' := ⟨[(0,.ref 0 0),(7,.ref 5 0),(10,.ref 25 0),(11,.sl false (x6.Code.map enc_Inst))],[(0,.box 259 (enc_interp_run r26.2)),(5,.box 283 (enc_interp_frame r26.1 (.ref 0 0))),(25,.box 286 [.fn (.func 198) [] [],.fn (.func 199) [] [],.fn (.func 200) [] [],.fn (.func 200) [] [],.fn (.func 200) [] [],.fn (.func 201) [] [],.fn (.func 202) [] [],.fn (.func 203) [] []])],153,114,1⟩) (so (by push_cast (maxSteps := 9000000) [-partsQ,hb11,hb12,hb14])) ?_;refine vl (fun K hK => ?_);push_cast (maxSteps := 9000000) [-partsQ];refine hK _ ?_;clear hK K;refine bk h ?_;exact sl (by push_cast (maxSteps := 9000000) [-partsQ,hb11,hb12,hb14])
              ·replace h := cond_no hb25 h;rcases Bool.eq_false_or_eq_true (x16.Op == 5) with hb27 | hb27
               ·as_aux_lemma =>
                 replace h := cond_yes hb27 h;have hb27e : x16.Op = 5 := by simpa using hb27
                 have hb27n : x16.Op.toNat = 5 := by omega
                 obtain ⟨r28,hr28,h⟩ := po_some h;refine vsD [some 95,some 96,some 97,some 98,some 99,some 100,some 101] [0,7,10,11] (fun K hK => ?_);push_cast (maxSteps := 9000000) [-partsQ,hb27n];(repeat refine .intro (by omega) ?_);refine chD (H := [(5,.box 283 (enc_interp_frame s_11 (.ref 0 0))),(0,.box 259 (enc_interp_run (T_interp_run.mk s_10.p s_10.e s_10.fuel (IntKind.i64.wrap (s_10.used + 1)) s_10.err)))]) (Ctr.loH (Ctr.ren (Bij.swp 1 0 (Bij.swp 0 5 Bij.id)) (c_interp_frame_help hr28) (by push_cast (maxSteps := 9000000) [-partsQ,hb27n]) (by push_cast (maxSteps := 9000000) [-partsQ,hb27n]))) (by push_cast (maxSteps := 9000000) [-partsQ,hb27n]) ?_;push_cast (maxSteps := 9000000) [-partsQ,hb27n];(repeat refine .intro (by omega) ?_);refine ⟨rfl,hK _ ?_⟩;clear hK K;refine VC.sub (s' := ⟨[(0,.ref 0 0),(7,.ref 5 0),(10,.ref 25 0),(11,.sl false (x6.Code.map enc_Inst))],[(0,.box 259 (enc_interp_run r28.2)),(5,.box 283 (enc_interp_frame r28.1 (.ref 0 0))),(25,.box 286 [.fn (.func 198) [] [],.fn (.func 199) [] [],.fn (.func 200) [] [],.fn (.func 200) [] [],.fn (.func 200) [] [],.fn (.func 201) [] [],.fn (.func 202) [] [],.fn (.func 203) [] []])],153,114,1⟩) (so (by push_cast (maxSteps := 9000000) [-partsQ,hb11,hb12,hb14])) ?_;refine vl (fun K hK => ?_);push_cast (maxSteps := 9000000) [-partsQ];refine hK _ ?_;clear hK K;refine bk h ?_;exact sl (by push_cast (maxSteps := 9000000) [-partsQ,hb11,hb12,hb14])
               ·replace h := cond_no hb27 h;rcases Bool.eq_false_or_eq_true (x16.Op == 6) with hb29 | hb29
                ·as_aux_lemma =>
                  replace h := cond_yes hb29 h;have hb29e : x16.Op = 6 := by simpa using hb29
                  have hb29n : x16.Op.toNat = 6 := by omega
                  obtain ⟨r30,hr30,h⟩ := po_some h;refine vsD [some 95,some 96,some 97,some 98,some 99,some 100,some 101] [0,7,10,11] (fun K hK => ?_);push_cast (maxSteps := 9000000) [-partsQ,hb29n];(repeat refine .intro (by omega) ?_);refine chD (H := [(5,.box 283 (enc_interp_frame s_11 (.ref 0 0))),(0,.box 259 (enc_interp_run (T_interp_run.mk s_10.p s_10.e s_10.fuel (IntKind.i64.wrap (s_10.used + 1)) s_10.err)))]) (Ctr.loH (Ctr.ren (Bij.swp 1 0 (Bij.swp 0 5 Bij.id)) (c_interp_frame_call hr30) (by push_cast (maxSteps := 9000000) [-partsQ,hb29n]) (by push_cast (maxSteps := 9000000) [-partsQ,hb29n]))) (by push_cast (maxSteps := 9000000) [-partsQ,hb29n]) ?_;push_cast (maxSteps := 9000000) [-partsQ,hb29n];(repeat refine .intro (by omega) ?_);refine ⟨rfl,hK _ ?_⟩;clear hK K;refine VC.sub (s' := ⟨[(0,.ref 0 0),(7,.ref 5 0),(10,.ref 25 0),(11,.sl false (x6.Code.map enc_Inst))],[(0,.box 259 (enc_interp_run r30.2)),(5,.box 283 (enc_interp_frame r30.1 (.ref 0 0))),(25,.box 286 [.fn (.func 198) [] [],.fn (.func 199) [] [],.fn (.func 200) [] [],.fn (.func 200) [] [],.fn (.func 200) [] [],.fn (.func 201) [] [],.fn (.func 202) [] [],.fn (.func 203) [] []])],153,114,1⟩) (so (by push_cast (maxSteps := 9000000) [-partsQ,hb11,hb12,hb14])) ?_;refine vl (fun K hK => ?_);push_cast (maxSteps := 9000000) [-partsQ];refine hK _ ?_;clear hK K;refine bk h ?_;exact sl (by push_cast (maxSteps := 9000000) [-partsQ,hb11,hb12,hb14])
                ·replace h := cond_no hb29 h;rcases Bool.eq_false_or_eq_true (x16.Op == 7) with hb31 | hb31
                 ·as_aux_lemma =>
                   replace h := cond_yes hb31 h;have hb31e : x16.Op = 7 := by simpa using hb31
                   have hb31n : x16.Op.toNat = 7 := by omega
                   obtain ⟨r32,hr32,h⟩ := po_some h;refine vsD [some 95,some 96,some 97,some 98,some 99,some 100,some 101] [0,7,10,11] (fun K hK => ?_);push_cast (maxSteps := 9000000) [-partsQ,hb31n];(repeat refine .intro (by omega) ?_);refine chD (H := [(5,.box 283 (enc_interp_frame s_11 (.ref 0 0))),(0,.box 259 (enc_interp_run (T_interp_run.mk s_10.p s_10.e s_10.fuel (IntKind.i64.wrap (s_10.used + 1)) s_10.err)))]) (Ctr.loH (Ctr.ren (Bij.swp 1 0 (Bij.swp 0 5 Bij.id)) (c_interp_frame_exit hr32) (by push_cast (maxSteps := 9000000) [-partsQ,hb31n]) (by push_cast (maxSteps := 9000000) [-partsQ,hb31n]))) (by push_cast (maxSteps := 9000000) [-partsQ,hb31n]) ?_;push_cast (maxSteps := 9000000) [-partsQ,hb31n];(repeat refine .intro (by omega) ?_);refine ⟨rfl,hK _ ?_⟩;clear hK K;refine VC.sub (s' := ⟨[(0,.ref 0 0),(7,.ref 5 0),(10,.ref 25 0),(11,.sl false (x6.Code.map enc_Inst))],[(0,.box 259 (enc_interp_run r32.2)),(5,.box 283 (enc_interp_frame r32.1 (.ref 0 0))),(25,.box 286 [.fn (.func 198) [] [],.fn (.func 199) [] [],.fn (.func 200) [] [],.fn (.func 200) [] [],.fn (.func 200) [] [],.fn (.func 201) [] [],.fn (.func 202) [] [],.fn (.func 203) [] []])],153,114,1⟩) (so (by push_cast (maxSteps := 9000000) [-partsQ,hb11,hb12,hb14])) ?_;refine vl (fun K hK => ?_);push_cast (maxSteps := 9000000) [-partsQ];refine hK _ ?_;clear hK K;refine bk h ?_;exact sl (by push_cast (maxSteps := 9000000) [-partsQ,hb11,hb12,hb14])
                 ·replace h := cond_no hb31 h;cases h
       ·refine VC.exit ?_;replace h := ol h hf8;refine ar h hk7 ?_;exact sl (by push_cast (maxSteps := 9000000) [-partsQ,hb11])
   ·as_aux_lemma =>
     rintro ⟨s_15,s_16⟩ (h : p_interp_run_frame_J7 s_15 s_16 = some r);(try push_cast (maxSteps := 9000000) [-partsQ]);unfold p_interp_run_frame_J7 at h;refine vs [6] (fun K hK => ?_);push_cast (maxSteps := 9000000) [-partsQ];refine hK _ ?_;clear hK K;refine VC.ret ?_;replace h := Option.some.inj h;subst h;exact en (by push_cast (maxSteps := 9000000) [-partsQ])
def p_slices_Clone_api_Entry_api_Entry (a0 : List T_Entry) : Option (List T_Entry) := pg (a0.length * 32 ≤ 140737488355328) (some a0)
theorem c_slices_Clone_api_Entry_api_Entry {a0 : List T_Entry} {r : List T_Entry} (h : p_slices_Clone_api_Entry_api_Entry a0 = some r) : Ctr prog 78 [.sl false (a0.map enc_Entry)] [] (.row 0 0 2 0 r.length) [(0, .row 66 2 0 (r.map enc_Entry))] := by
 unfold p_slices_Clone_api_Entry_api_Entry at h;obtain ⟨hg,h⟩ := pg_some h;have hr := Option.some.inj h;subst hr;refine Ctr.ofW tabOk func78 rfl call78 0 _ ntmps78 [.tmp 2] rfl rfl rfl (fun B => ?_);refine VC.seqF tabOkF [some 2] [0] rfl rfl (fun K hK => ?_);push_cast;refine hK _ ?_;clear hK K;refine VC.seq ?_;refine VC.seqF tabOkF [some 3,some 4] [0,4] rfl rfl (fun K hK => ?_);push_cast;intro bn hbn;refine hK _ ?_;clear hK K;refine VC.cond rfl rfl (fun hc => ?_) (fun hc => ?_)
 ·have hn : a0 = [] := by
   have := hbn hc;cases a0 with
   | nil => rfl
   | cons _ _ => simp at this
  subst hn;refine VC.seqF tabOkF [some 2] [2] rfl rfl (fun K hK => ?_);push_cast;refine hK _ ?_;clear hK K;refine VC.ret ?_;refine endS (Sub.adoptT (k := 2) (e := 66) (sz := 2) rfl) ?_;refine endS (Sub.renT (k := 2) (i' := 0) rfl rfl (Nat.le_of_ble_eq_true rfl) (Nat.le_of_ble_eq_true rfl) rfl) ?_;refine endP (Sub.lo _) (Post.ret ?_ ?_ ?_)
  ·push_cast
  ·push_cast
  ·rfl
 ·refine VC.skip ?_;refine VC.seqF tabOkF [some 5,some 6,some 7,some 2] [2] rfl rfl (fun K hK => ?_);push_cast [hg];(repeat refine .intro (by omega) ?_);refine hK _ ?_;clear hK K;refine VC.ret ?_;refine endS (Sub.renT (k := 2) (i' := 0) rfl rfl (Nat.le_of_ble_eq_true rfl) (Nat.le_of_ble_eq_true rfl) rfl) ?_;refine endP (Sub.lo _) (Post.ret ?_ ?_ ?_)
  ·push_cast
  ·push_cast
  ·rfl
def p_slices_Clone_api_Table_api_Table (a0 : List T_Table) : Option (List T_Table) := pg (a0.length * 64 ≤ 140737488355328) (some a0)
theorem c_slices_Clone_api_Table_api_Table {a0 : List T_Table} {r : List T_Table} (h : p_slices_Clone_api_Table_api_Table a0 = some r) : Ctr prog 77 [.sl false (a0.map enc_Table)] [] (.row 0 0 6 0 r.length) [(0, .row 53 6 0 (r.map enc_Table))] := by
 unfold p_slices_Clone_api_Table_api_Table at h;obtain ⟨hg,h⟩ := pg_some h;have hr := Option.some.inj h;subst hr;refine Ctr.ofW tabOk func77 rfl call77 0 _ ntmps77 [.tmp 2] rfl rfl rfl (fun B => ?_);refine VC.seqF tabOkF [some 2] [0] rfl rfl (fun K hK => ?_);push_cast;refine hK _ ?_;clear hK K;refine VC.seq ?_;refine VC.seqF tabOkF [some 3,some 4] [0,4] rfl rfl (fun K hK => ?_);push_cast;intro bn hbn;refine hK _ ?_;clear hK K;refine VC.cond rfl rfl (fun hc => ?_) (fun hc => ?_)
 ·have hn : a0 = [] := by
   have := hbn hc;cases a0 with
   | nil => rfl
   | cons _ _ => simp at this
  subst hn;refine VC.seqF tabOkF [some 2] [2] rfl rfl (fun K hK => ?_);push_cast;refine hK _ ?_;clear hK K;refine VC.ret ?_;refine endS (Sub.adoptT (k := 2) (e := 53) (sz := 6) rfl) ?_;refine endS (Sub.renT (k := 2) (i' := 0) rfl rfl (Nat.le_of_ble_eq_true rfl) (Nat.le_of_ble_eq_true rfl) rfl) ?_;refine endP (Sub.lo _) (Post.ret ?_ ?_ ?_)
  ·push_cast
  ·push_cast
  ·rfl
 ·refine VC.skip ?_;refine VC.seqF tabOkF [some 5,some 6,some 7,some 2] [2] rfl rfl (fun K hK => ?_);push_cast [hg];(repeat refine .intro (by omega) ?_);refine hK _ ?_;clear hK K;refine VC.ret ?_;refine endS (Sub.renT (k := 2) (i' := 0) rfl rfl (Nat.le_of_ble_eq_true rfl) (Nat.le_of_ble_eq_true rfl) rfl) ?_;refine endP (Sub.lo _) (Post.ret ?_ ?_ ?_)
  ·push_cast
  ·push_cast
  ·rfl
def p_slices_Clone_uint32_uint32 (a0 : List UInt32) : Option (List UInt32) := pg (a0.length * 4 ≤ 140737488355328) (some a0)
theorem c_slices_Clone_uint32_uint32 {a0 : List UInt32} {r : List UInt32} (h : p_slices_Clone_uint32_uint32 a0 = some r) : Ctr prog 79 [.sl false (a0.map encU32)] [] (.row 0 0 1 0 r.length) [(0, .row 25 1 0 (r.map encU32))] := by
 unfold p_slices_Clone_uint32_uint32 at h;obtain ⟨hg,h⟩ := pg_some h;have hr := Option.some.inj h;subst hr;refine Ctr.ofW tabOk func79 rfl call79 0 _ ntmps79 [.tmp 2] rfl rfl rfl (fun B => ?_);refine VC.seqF tabOkF [some 2] [0] rfl rfl (fun K hK => ?_);push_cast;refine hK _ ?_;clear hK K;refine VC.seq ?_;refine VC.seqF tabOkF [some 3,some 4] [0,4] rfl rfl (fun K hK => ?_);push_cast;intro bn hbn;refine hK _ ?_;clear hK K;refine VC.cond rfl rfl (fun hc => ?_) (fun hc => ?_)
 ·have hn : a0 = [] := by
   have := hbn hc;cases a0 with
   | nil => rfl
   | cons _ _ => simp at this
  subst hn;refine VC.seqF tabOkF [some 2] [2] rfl rfl (fun K hK => ?_);push_cast;refine hK _ ?_;clear hK K;refine VC.ret ?_;refine endS (Sub.adoptT (k := 2) (e := 25) (sz := 1) rfl) ?_;refine endS (Sub.renT (k := 2) (i' := 0) rfl rfl (Nat.le_of_ble_eq_true rfl) (Nat.le_of_ble_eq_true rfl) rfl) ?_;refine endP (Sub.lo _) (Post.ret ?_ ?_ ?_)
  ·push_cast
  ·push_cast
  ·rfl
 ·refine VC.skip ?_;refine VC.seqF tabOkF [some 5,some 6,some 7,some 2] [2] rfl rfl (fun K hK => ?_);push_cast [hg];(repeat refine .intro (by omega) ?_);refine hK _ ?_;clear hK K;refine VC.ret ?_;refine endS (Sub.renT (k := 2) (i' := 0) rfl rfl (Nat.le_of_ble_eq_true rfl) (Nat.le_of_ble_eq_true rfl) rfl) ?_;refine endP (Sub.lo _) (Post.ret ?_ ?_ ?_)
  ·push_cast
  ·push_cast
  ·rfl
noncomputable def p_interp_Call_L9 (r7 : (List T_Entry)) (s_48 : T_Env) (s_49 : T_Table) (i_50 : Int) : Option ((T_Env × T_Table × Int) ⊕ (T_Env × T_Table)) :=
  cond (decide (i_50 < (r7.length : Int))) (
  po (idx s_49.E i_50) fun x11 =>
  po (p_slices_Clone_uint32_uint32 x11.V) fun r12 =>
  pl (s_49.E.set i_50.toNat (T_Entry.mk x11.Key r12)) fun y13 =>
  some (Sum.inl (s_48, (T_Table.mk s_49.S y13 s_49.Next), (IntKind.i64.wrap (i_50 + 1))))) (
  some (Sum.inr (s_48, s_49)))
noncomputable def p_interp_Call_J8 (i_19 : Int) (s_54 : T_Env) (s_55 : T_Table) : Option (T_Env) :=
  po (idx s_54.T i_19) fun x14 =>
  pl (s_54.T.set i_19.toNat s_55) fun y15 =>
  some (T_Env.mk s_54.Ctx y15 s_54.Seed)
noncomputable def p_interp_Call_J5 (i_19 : Int) (s_28 : T_Env) : Option ((T_Env × Int) ⊕ (T_Env)) :=
  some (Sum.inl (s_28, (IntKind.i64.wrap (i_19 + 1))))
noncomputable def p_interp_Call_L3 (r1 : (List T_Table)) (s_18 : T_Env) (i_19 : Int) : Option ((T_Env × Int) ⊕ (T_Env)) :=
  cond (decide (i_19 < (r1.length : Int))) (
  po (
  po (idx s_18.T i_19) fun x6 =>
  po (p_slices_Clone_api_Entry_api_Entry x6.E) fun r7 =>
  po (
  lpU (fun x => p_interp_Call_L9 r7 x.1 x.2.1 x.2.2) (s_18, (T_Table.mk x6.S r7 x6.Next), 0)) (fun x => p_interp_Call_J8 i_19 x.1 x.2)) (fun x => p_interp_Call_J5 i_19 x)) (
  some (Sum.inr s_18))
noncomputable def p_interp_Call_J27 (r26 : UInt32 × T_interp_run) (i_60 : UInt32) : Option (T_Ran) :=
  some (T_Ran.mk i_60 r26.2.e r26.2.used r26.2.err)
noncomputable def p_interp_Call_J21 (a0 : T_Prog) (a1 : Int) (a3 : Int) (a4 : (List UInt32)) (s_58 : T_Env) (i_59 : Bool) : Option (T_Ran) :=
  cond i_59 (
  some (T_Ran.mk 0 s_58 0 3)) (
  po (p_interp_run_frame (T_interp_run.mk a0 s_58 a3 0 0) a1 a4) fun r26 =>
  po (
  cond (r26.2.err != 0) (
  some 0) (
  some r26.1)) (fun x => p_interp_Call_J27 r26 x))
noncomputable def p_interp_Call_J16 (a0 : T_Prog) (a1 : Int) (a3 : Int) (a4 : (List UInt32)) (s_56 : T_Env) (i_57 : Bool) : Option (T_Ran) :=
  cond i_57 (
  some (T_Ran.mk 0 s_56 0 1)) (
  po (
  cond (decide (a1 < 0)) (
  some (s_56, (decide (a1 < 0)))) (
  cond (decide (a1 ≥ (a0.Fns.length : Int))) (
  some (s_56, (decide (a1 ≥ (a0.Fns.length : Int))))) (
  po (idx a0.Fns a1) fun x24 =>
  some (s_56, ((a4.length : Int) != x24.Args))))) (fun x => p_interp_Call_J21 a0 a1 a3 a4 x.1 x.2))
noncomputable def p_interp_Call_J2 (a0 : T_Prog) (a1 : Int) (a3 : Int) (a4 : (List UInt32)) (s_47 : T_Env) : Option (T_Ran) :=
  po (
  po (p_prog_May a0) fun r17 =>
  cond (!r17) (
  some (s_47, (!r17))) (
  cond (decide (a3 < 0)) (
  some (s_47, (decide (a3 < 0)))) (
  some (s_47, (decide (a3 > 100000)))))) (fun x => p_interp_Call_J16 a0 a1 a3 a4 x.1 x.2)
noncomputable def p_interp_Call (a0 : T_Prog) (a1 : Int) (a2 : T_Env) (a3 : Int) (a4 : (List UInt32)) : Option (T_Ran) :=
  po (p_slices_Clone_api_Table_api_Table a2.T) fun r1 =>
  po (
  lpU (fun x => p_interp_Call_L3 r1 x.1 x.2) ((T_Env.mk a2.Ctx r1 a2.Seed), 0)) (fun x => p_interp_Call_J2 a0 a1 a3 a4 x)
theorem c_interp_Call {a0 : T_Prog} {a1 : Int} {a2 : T_Env} {a3 : Int} {a4 : (List UInt32)} {r : T_Ran} (h : p_interp_Call a0 a1 a2 a3 a4 = some r) : Ctr prog 125 [.agg (enc_Prog a0), ri a1, .agg (enc_Env a2), ri a3, .sl false (a4.map encU32)] [] (.agg (enc_Ran r)) [] := by
 unfold p_interp_Call at h;refine Ctr.ofW tabOk func125 rfl call125 0 _ ntmps125 [.cell 10 162] rfl rfl rfl (fun B => ?_);refine vs [1,3,4,5,7,10] (fun K hK => ?_);push_cast;refine hK _ ?_;clear hK K;obtain ⟨r1,hr1,h⟩ := po_some h;refine vs [1,3,4,5,7,10] (fun K hK => ?_);push_cast;refine ch (H := []) (Ctr.loH (Ctr.ren (Bij.swp 0 5 Bij.id) (c_slices_Clone_api_Table_api_Table hr1) (by push_cast) (by push_cast))) (by push_cast) ?_;push_cast;refine hK _ ?_;clear hK K;refine VC.sub (s' := ⟨[(1,ri a1),(3,ri a3),(4,.sl false (a4.map encU32)),(5,.ref 0 0),(7,.ref 1 0),(10,.ref 2 0)],[(0,.box 56 [.sl false (a0.Fns.map enc_Fn)]),(1,.box 29 [ru a2.Ctx.a0,ru a2.Ctx.a1,ru a2.Ctx.a2,ru a2.Ctx.a3,.row 5 0 6 0 r1.length,ru a2.Seed]),(2,.box 162 [.raw (.int .u32 0),.raw (.int .u32 0),.raw (.int .u32 0),.raw (.int .u32 0),.raw (.int .u32 0),.sl true [],.raw (.int .u32 0),ri 0,ri 0]),(5,.row 53 6 0 (r1.map enc_Table))],8,114,0⟩) (so (by push_cast)) ?_;refine vj h (fun x => ⟨[(1,ri a1),(3,ri a3),(4,.sl false (a4.map encU32)),(5,.ref 0 0),(7,.ref 1 0),(10,.ref 2 0)],[(0,.box 56 [.sl false (a0.Fns.map enc_Fn)]),(1,.box 29 [ru x.Ctx.a0,ru x.Ctx.a1,ru x.Ctx.a2,ru x.Ctx.a3,.row 5 0 6 0 x.T.length,ru x.Seed]),(2,.box 162 [.raw (.int .u32 0),.raw (.int .u32 0),.raw (.int .u32 0),.raw (.int .u32 0),.raw (.int .u32 0),.sl true [],.raw (.int .u32 0),ri 0,ri 0]),(5,.row 53 6 0 (x.T.map enc_Table))],56,114,0⟩) (fun v2 h hk2 => ?_) ?_
 ·refine vs [1,3,4,5,7,10,21,22,23] (fun K hK => ?_);push_cast;refine hK _ ?_;clear hK K;refine VC.block ?_;refine VC.loopP h (fun x => ⟨[(1,ri a1),(3,ri a3),(4,.sl false (a4.map encU32)),(5,.ref 0 0),(7,.ref 1 0),(10,.ref 2 0),(21,.row 5 0 6 0 x.1.T.length),(22,ri (r1.length : Int)),(23,ri x.2)],[(0,.box 56 [.sl false (a0.Fns.map enc_Fn)]),(1,.box 29 [ru x.1.Ctx.a0,ru x.1.Ctx.a1,ru x.1.Ctx.a2,ru x.1.Ctx.a3,.row 5 0 6 0 x.1.T.length,ru x.1.Seed]),(2,.box 162 [.raw (.int .u32 0),.raw (.int .u32 0),.raw (.int .u32 0),.raw (.int .u32 0),.raw (.int .u32 0),.sl true [],.raw (.int .u32 0),ri 0,ri 0]),(5,.row 53 6 0 (x.1.T.map enc_Table))],55,114,0⟩) ?_ ?_
  ·exact so (by push_cast)
  rintro ⟨s_18,i_19⟩ b3 (h : p_interp_Call_L3 r1 s_18 i_19 = some b3) hf3;(try push_cast);unfold p_interp_Call_L3 at h;refine vs [1,3,4,5,7,10,21,22,23,24] (fun K hK => ?_);push_cast;refine hK _ ?_;clear hK K;refine VC.seq ?_;refine vc h (fun hb4 h => ?_) (fun hb4 h => ?_)
  ·refine VC.skip ?_;refine vj h (fun x => ⟨[(1,ri a1),(3,ri a3),(4,.sl false (a4.map encU32)),(5,.ref 0 0),(7,.ref 1 0),(10,.ref 2 0),(21,.row 5 0 6 0 x.T.length),(22,ri (r1.length : Int)),(23,ri i_19)],[(0,.box 56 [.sl false (a0.Fns.map enc_Fn)]),(1,.box 29 [ru x.Ctx.a0,ru x.Ctx.a1,ru x.Ctx.a2,ru x.Ctx.a3,.row 5 0 6 0 x.T.length,ru x.Seed]),(2,.box 162 [.raw (.int .u32 0),.raw (.int .u32 0),.raw (.int .u32 0),.raw (.int .u32 0),.raw (.int .u32 0),.sl true [],.raw (.int .u32 0),ri 0,ri 0]),(5,.row 53 6 0 (x.T.map enc_Table))],96,114,0⟩) (fun v5 h hk5 => ?_) ?_
   ·refine VC.block ?_;obtain ⟨x6,hx6,h⟩ := po_some h;replace hx6 := idx_some4 hx6;refine vs [1,3,4,5,7,10,11,12,21,22,23] (fun K hK => ?_);push_cast [hx6];(repeat refine .intro (by omega) ?_);refine hK _ ?_;clear hK K;obtain ⟨r7,hr7,h⟩ := po_some h;refine vs [1,3,4,5,7,10,11,12,21,22,23] (fun K hK => ?_);push_cast;refine ch (H := []) (Ctr.loH (Ctr.ren (Bij.swp 0 64 Bij.id) (c_slices_Clone_api_Entry_api_Entry hr7) (by push_cast) (by push_cast))) (by push_cast) ?_;push_cast;refine hK _ ?_;clear hK K;refine VC.sub (s' := ⟨[(1,ri a1),(3,ri a3),(4,.sl false (a4.map encU32)),(5,.ref 0 0),(7,.ref 1 0),(10,.ref 2 0),(11,ri i_19),(12,.ref 59 0),(21,.row 5 0 6 0 s_18.T.length),(22,ri (r1.length : Int)),(23,ri i_19)],[(0,.box 56 [.sl false (a0.Fns.map enc_Fn)]),(1,.box 29 [ru s_18.Ctx.a0,ru s_18.Ctx.a1,ru s_18.Ctx.a2,ru s_18.Ctx.a3,.row 5 0 6 0 s_18.T.length,ru s_18.Seed]),(2,.box 162 [.raw (.int .u32 0),.raw (.int .u32 0),.raw (.int .u32 0),.raw (.int .u32 0),.raw (.int .u32 0),.sl true [],.raw (.int .u32 0),ri 0,ri 0]),(5,.row 53 6 0 (s_18.T.map enc_Table)),(59,.box 53 [ri x6.S.Kind,ri x6.S.Cap,ri x6.S.Words,ri x6.S.Ver,.row 64 0 2 0 r7.length,ru x6.Next]),(64,.row 66 2 0 (r7.map enc_Entry))],67,114,0⟩) (so (by push_cast [hb4])) ?_;refine vj h (fun x => ⟨[(1,ri a1),(3,ri a3),(4,.sl false (a4.map encU32)),(5,.ref 0 0),(7,.ref 1 0),(10,.ref 2 0),(11,ri i_19),(12,.ref 59 0),(21,.row 5 0 6 0 x.1.T.length),(22,ri (r1.length : Int)),(23,ri i_19)],[(0,.box 56 [.sl false (a0.Fns.map enc_Fn)]),(1,.box 29 [ru x.1.Ctx.a0,ru x.1.Ctx.a1,ru x.1.Ctx.a2,ru x.1.Ctx.a3,.row 5 0 6 0 x.1.T.length,ru x.1.Seed]),(2,.box 162 [.raw (.int .u32 0),.raw (.int .u32 0),.raw (.int .u32 0),.raw (.int .u32 0),.raw (.int .u32 0),.sl true [],.raw (.int .u32 0),ri 0,ri 0]),(5,.row 53 6 0 (x.1.T.map enc_Table)),(59,.box 53 [ri x.2.S.Kind,ri x.2.S.Cap,ri x.2.S.Words,ri x.2.S.Ver,.row 64 0 2 0 x.2.E.length,ru x.2.Next]),(64,.row 66 2 0 (x.2.E.map enc_Entry))],90,114,0⟩) (fun v8 h hk8 => ?_) ?_
    ·refine vs [1,3,4,5,7,10,11,12,21,22,23,34,35] (fun K hK => ?_);push_cast;refine hK _ ?_;clear hK K;refine VC.block ?_;refine VC.loopP h (fun x => ⟨[(1,ri a1),(3,ri a3),(4,.sl false (a4.map encU32)),(5,.ref 0 0),(7,.ref 1 0),(10,.ref 2 0),(11,ri i_19),(12,.ref 59 0),(21,.row 5 0 6 0 x.1.T.length),(22,ri (r1.length : Int)),(23,ri i_19),(34,ri (r7.length : Int)),(35,ri x.2.2)],[(0,.box 56 [.sl false (a0.Fns.map enc_Fn)]),(1,.box 29 [ru x.1.Ctx.a0,ru x.1.Ctx.a1,ru x.1.Ctx.a2,ru x.1.Ctx.a3,.row 5 0 6 0 x.1.T.length,ru x.1.Seed]),(2,.box 162 [.raw (.int .u32 0),.raw (.int .u32 0),.raw (.int .u32 0),.raw (.int .u32 0),.raw (.int .u32 0),.sl true [],.raw (.int .u32 0),ri 0,ri 0]),(5,.row 53 6 0 (x.1.T.map enc_Table)),(59,.box 53 [ri x.2.1.S.Kind,ri x.2.1.S.Cap,ri x.2.1.S.Words,ri x.2.1.S.Ver,.row 64 0 2 0 x.2.1.E.length,ru x.2.1.Next]),(64,.row 66 2 0 (x.2.1.E.map enc_Entry))],89,114,0⟩) ?_ ?_
     ·exact so (by push_cast [hb4])
     rintro ⟨s_48,s_49,i_50⟩ b9 (h : p_interp_Call_L9 r7 s_48 s_49 i_50 = some b9) hf9;(try push_cast);unfold p_interp_Call_L9 at h;refine vs [1,3,4,5,7,10,11,12,21,22,23,34,35,36] (fun K hK => ?_);push_cast;refine hK _ ?_;clear hK K;refine VC.seq ?_;refine vc h (fun hb10 h => ?_) (fun hb10 h => ?_)
     ·refine VC.skip ?_;refine VC.seq ?_;refine VC.block ?_;refine vs [1,3,4,5,7,10,11,12,13,21,22,23,34,35] (fun K hK => ?_);push_cast;refine hK _ ?_;clear hK K;obtain ⟨x11,hx11,h⟩ := po_some h;replace hx11 := idx_some4 hx11;obtain ⟨r12,hr12,h⟩ := po_some h;obtain ⟨y13,hy13,h⟩ := pl_some h;have hy13l : y13.length = s_49.E.length := by rw [hy13,List.length_set]
      refine vlD [some 38,some 39,some 40,some 41,some 42,some 43,some 44,some 45,some 46,some 47,some 48,some 49,none] (fun K hK => ?_);refine runD_cut 8 (fun K2 hK2 => ?_);push_cast [hx11];(repeat refine .intro (by omega) ?_);refine hK2 _ _ _ ?_;clear hK2 K2;simp only [List.drop_succ_cons,List.drop_zero];push_cast [hx11];(repeat refine .intro (by omega) ?_);refine chD (H := []) (Ctr.loH (Ctr.ren (Bij.swp 0 101 Bij.id) (c_slices_Clone_uint32_uint32 hr12) (by push_cast [hx11]) (by push_cast [hx11]))) (by push_cast [hx11]) ?_;push_cast [hx11];(repeat refine .intro (by omega) ?_);refine ⟨rfl,hK _ ?_⟩;clear hK K;refine vl (fun K hK => ?_);push_cast;refine hK _ ?_;clear hK K;refine bk h ?_;exact so (by push_cast [hb4,hb10,hy13,hy13l])
     ·refine VC.exit ?_;replace h := ol h hf9;refine ar h hk8 ?_;exact so (by push_cast [hb4,hb10])
    ·rintro ⟨s_54,s_55⟩ (h : p_interp_Call_J8 i_19 s_54 s_55 = some v5);(try push_cast);unfold p_interp_Call_J8 at h;obtain ⟨x14,hx14,h⟩ := po_some h;replace hx14 := idx_some4 hx14;obtain ⟨y15,hy15,h⟩ := pl_some h;have hy15l : y15.length = s_54.T.length := by rw [hy15,List.length_set]
     refine vl (fun K hK => ?_);push_cast [hx14];(repeat refine .intro (by omega) ?_);refine hK _ ?_;clear hK K;refine ar h hk5 ?_;exact so (by push_cast [hb4,hy15,hy15l])
   ·rintro s_28 (h : p_interp_Call_J5 i_19 s_28 = some b3);(try push_cast);unfold p_interp_Call_J5 at h;refine vl (fun K hK => ?_);push_cast;refine hK _ ?_;clear hK K;refine bk h ?_;exact so (by push_cast [hb4])
  ·refine VC.exit ?_;replace h := ol h hf3;refine ar h hk2 ?_;exact so (by push_cast [hb4])
 ·rintro s_47 (h : p_interp_Call_J2 a0 a1 a3 a4 s_47 = some r);(try push_cast);unfold p_interp_Call_J2 at h;refine VC.seq ?_;refine VC.block ?_;refine vj h (fun x => ⟨[(1,ri a1),(3,ri a3),(4,.sl false (a4.map encU32)),(5,.ref 0 0),(7,.ref 1 0),(10,.ref 2 0),(57,rb x.2)],[(0,.box 56 [.sl false (a0.Fns.map enc_Fn)]),(1,.box 29 [ru x.1.Ctx.a0,ru x.1.Ctx.a1,ru x.1.Ctx.a2,ru x.1.Ctx.a3,.row 5 0 6 0 x.1.T.length,ru x.1.Seed]),(2,.box 162 [.raw (.int .u32 0),.raw (.int .u32 0),.raw (.int .u32 0),.raw (.int .u32 0),.raw (.int .u32 0),.sl true [],.raw (.int .u32 0),ri 0,ri 0]),(5,.row 53 6 0 (x.1.T.map enc_Table))],66,114,0⟩) (fun v16 h hk16 => ?_) ?_
  ·obtain ⟨r17,hr17,h⟩ := po_some h;refine vs [1,3,4,5,7,10,57] (fun K hK => ?_);push_cast;refine cp (c_prog_May hr17) ?_;push_cast;refine hK _ ?_;clear hK K;refine vc h (fun hb18 h => ?_) (fun hb18 h => ?_)
   ·refine VC.skip ?_;refine ar h hk16 ?_;exact so (by push_cast [hb18])
   ·refine vs [1,3,4,5,7,10,57] (fun K hK => ?_);push_cast;refine hK _ ?_;clear hK K;refine vc h (fun hb19 h => ?_) (fun hb19 h => ?_)
    ·refine VC.skip ?_;refine ar h hk16 ?_;exact so (by push_cast [hb18,hb19])
    ·refine vl (fun K hK => ?_);push_cast;refine hK _ ?_;clear hK K;refine ar h hk16 ?_;exact so (by push_cast [hb18,hb19])
  ·rintro ⟨s_56,i_57⟩ (h : p_interp_Call_J16 a0 a1 a3 a4 s_56 i_57 = some r);(try push_cast);unfold p_interp_Call_J16 at h;refine vc h (fun hb20 h => ?_) (fun hb20 h => ?_)
   ·refine vs [10] (fun K hK => ?_);push_cast;refine hK _ ?_;clear hK K;refine VC.ret ?_;replace h := Option.some.inj h;subst h;refine endS (Sub.freeze prog (b := 2) (j := 5) rfl rfl rfl (by push_cast [hb20] <;> omega) (by decide)) ?_;exact en (by push_cast [hb20])
   ·refine vj h (fun x => ⟨[(1,ri a1),(3,ri a3),(4,.sl false (a4.map encU32)),(5,.ref 0 0),(7,.ref 1 0),(10,.ref 2 0),(67,rb x.2)],[(0,.box 56 [.sl false (a0.Fns.map enc_Fn)]),(1,.box 29 [ru x.1.Ctx.a0,ru x.1.Ctx.a1,ru x.1.Ctx.a2,ru x.1.Ctx.a3,.row 5 0 6 0 x.1.T.length,ru x.1.Seed]),(2,.box 162 [.raw (.int .u32 0),.raw (.int .u32 0),.raw (.int .u32 0),.raw (.int .u32 0),.raw (.int .u32 0),.sl true [],.raw (.int .u32 0),ri 0,ri 0]),(5,.row 53 6 0 (x.1.T.map enc_Table))],85,114,0⟩) (fun v21 h hk21 => ?_) ?_
    ·refine vs [1,3,4,5,7,10,67] (fun K hK => ?_);push_cast;refine hK _ ?_;clear hK K;refine vc h (fun hb22 h => ?_) (fun hb22 h => ?_)
     ·refine VC.skip ?_;refine ar h hk21 ?_;exact so (by push_cast [hb20,hb22])
     ·refine vs [1,3,4,5,7,10,67] (fun K hK => ?_);push_cast;refine hK _ ?_;clear hK K;refine vc h (fun hb23 h => ?_) (fun hb23 h => ?_)
      ·refine VC.skip ?_;refine ar h hk21 ?_;exact so (by push_cast [hb20,hb22,hb23])
      ·obtain ⟨x24,hx24,h⟩ := po_some h;replace hx24 := idx_some4 hx24;refine vl (fun K hK => ?_);push_cast [hx24];(repeat refine .intro (by omega) ?_);refine hK _ ?_;clear hK K;refine ar h hk21 ?_;exact so (by push_cast [hb20,hb22,hb23])
    ·rintro ⟨s_58,i_59⟩ (h : p_interp_Call_J21 a0 a1 a3 a4 s_58 i_59 = some r);(try push_cast);unfold p_interp_Call_J21 at h;refine vc h (fun hb25 h => ?_) (fun hb25 h => ?_)
     ·refine vs [10] (fun K hK => ?_);push_cast;refine hK _ ?_;clear hK K;refine VC.ret ?_;replace h := Option.some.inj h;subst h;refine endS (Sub.freeze prog (b := 2) (j := 5) rfl rfl rfl (by push_cast [hb20,hb25] <;> omega) (by decide)) ?_;exact en (by push_cast [hb20,hb25])
     ·refine VC.skip ?_;refine vs [1,4,10,14] (fun K hK => ?_);push_cast;refine hK _ ?_;clear hK K;refine VC.sub (Sub.freeze prog (b := 89) (j := 5) rfl rfl rfl (by push_cast [hb20,hb25] <;> omega) (by decide)) ?_;refine VC.sub (s' := ⟨[(1,ri a1),(4,.sl false (a4.map encU32)),(10,.ref 2 0),(14,.ref 89 0)],[(2,.box 162 [.raw (.int .u32 0),.raw (.int .u32 0),.raw (.int .u32 0),.raw (.int .u32 0),.raw (.int .u32 0),.sl true [],.raw (.int .u32 0),ri 0,ri 0]),(89,.box 259 (enc_interp_run (T_interp_run.mk a0 s_58 a3 0 0)))],91,114,0⟩) (so (by push_cast [hb20,hb25])) ?_;obtain ⟨r26,hr26,h⟩ := po_some h;refine vs [10,14,15] (fun K hK => ?_);push_cast;refine ch (H := [(89,.box 259 (enc_interp_run (T_interp_run.mk a0 s_58 a3 0 0)))]) (Ctr.loH (Ctr.ren (Bij.swp 0 89 Bij.id) (c_interp_run_frame hr26) (by push_cast) (by push_cast))) (by push_cast) ?_;push_cast;refine hK _ ?_;clear hK K;refine VC.sub (s' := ⟨[(10,.ref 2 0),(14,.ref 89 0),(15,ru r26.1)],[(2,.box 162 [.raw (.int .u32 0),.raw (.int .u32 0),.raw (.int .u32 0),.raw (.int .u32 0),.raw (.int .u32 0),.sl true [],.raw (.int .u32 0),ri 0,ri 0]),(89,.box 259 (enc_interp_run r26.2))],96,114,0⟩) (so (by push_cast [hb20,hb25])) ?_;refine vj h (fun x => ⟨[(10,.ref 2 0),(14,.ref 89 0),(15,ru x)],[(2,.box 162 [.raw (.int .u32 0),.raw (.int .u32 0),.raw (.int .u32 0),.raw (.int .u32 0),.raw (.int .u32 0),.sl true [],.raw (.int .u32 0),ri 0,ri 0]),(89,.box 259 (enc_interp_run r26.2))],102,114,0⟩) (fun v27 h hk27 => ?_) ?_
      ·refine vs [10,14,15,99] (fun K hK => ?_);push_cast;refine hK _ ?_;clear hK K;refine vc h (fun hb28 h => ?_) (fun hb28 h => ?_)
       ·refine vl (fun K hK => ?_);push_cast;refine hK _ ?_;clear hK K;refine ar h hk27 ?_;exact so (by push_cast [hb20,hb25,hb28])
       ·refine VC.skip ?_;refine ar h hk27 ?_;exact so (by push_cast [hb20,hb25,hb28])
      ·rintro i_60 (h : p_interp_Call_J27 r26 i_60 = some r);(try push_cast);unfold p_interp_Call_J27 at h;refine vsD [some 100,some 101,some 102,some 103,some 104,some 105,some 106,some 107,some 108,some 109,some 110,some 111,some 112,some 113,none] [10] (fun K hK => ?_);refine runD_cut 8 (fun K2 hK2 => ?_);push_cast;refine hK2 _ _ _ ?_;clear hK2 K2;simp only [List.drop_succ_cons,List.drop_zero];push_cast;refine ⟨rfl,hK _ ?_⟩;clear hK K;refine VC.ret ?_;replace h := Option.some.inj h;subst h;exact en (by push_cast [hb20,hb25])
noncomputable def p_interp_Run (a0 : T_Prog) (a1 : T_Env) (a2 : Int) : Option (T_Ran) :=
  po (p_interp_Call a0 0 a1 a2 []) fun r1 =>
  some r1
theorem c_interp_Run {a0 : T_Prog} {a1 : T_Env} {a2 : Int} {r : T_Ran} (h : p_interp_Run a0 a1 a2 = some r) : Ctr prog 88 [.agg (enc_Prog a0), .agg (enc_Env a1), ri a2] [] (.agg (enc_Ran r)) [] := by
 unfold p_interp_Run at h;refine Ctr.ofW tabOk func88 rfl call88 0 _ ntmps88 [.cell 6 162] rfl rfl rfl (fun B => ?_);refine vs [2,3,4,6] (fun K hK => ?_);push_cast;refine hK _ ?_;clear hK K;obtain ⟨r1,hr1,h⟩ := po_some h;refine vs [6] (fun K hK => ?_);push_cast;refine cp (c_interp_Call hr1) ?_;push_cast;refine hK _ ?_;clear hK K;refine VC.ret ?_;replace h := Option.some.inj h;subst h;exact en (by push_cast)
noncomputable def p_shift_put_J12 (i_6 : Int) (r11 : T_Ran) (l_16 : (List UInt32)) (i_17 : Bool) : Option (((List UInt32) × Int) ⊕ (((List UInt32)) ⊕ ((List UInt32) × Int))) :=
  cond i_17 (
  some (Sum.inr (Sum.inr ([], 10)))) (
  po (idx l_16 i_6) fun x15 =>
  pl (l_16.set i_6.toNat r11.Ret) fun y16 =>
  some (Sum.inl (y16, (IntKind.i64.wrap (i_6 + 1)))))
noncomputable def p_shift_put_J6 (a1 : T_Prog) (a2 : UInt32) (a3 : (List UInt32)) (i_6 : Int) (l_7 : (List UInt32)) (i_8 : UInt32) : Option (((List UInt32) × Int) ⊕ (((List UInt32)) ⊕ ((List UInt32) × Int))) :=
  po (a3[0]?) fun x9 =>
  pl ((UInt32.ofInt i_6)) fun c10 =>
  po (p_interp_Run a1 (T_Env.mk (A4.mk a2 c10 i_8 x9) [] 0) 2000) fun r11 =>
  po (
  cond (r11.Err != 0) (
  some (l_7, true)) (
  some (l_7, ((r11.Ret.toNat : Int) == 4294967295)))) (fun x => p_shift_put_J12 i_6 r11 x.1 x.2)
noncomputable def p_shift_put_L4 (a0 : T_Schema) (a1 : T_Prog) (a2 : UInt32) (a3 : (List UInt32)) (l_5 : (List UInt32)) (i_6 : Int) : Option (((List UInt32) × Int) ⊕ (((List UInt32)) ⊕ ((List UInt32) × Int))) :=
  cond (decide (i_6 < a0.Words)) (
  po (
  cond (decide (i_6 < (a3.length : Int))) (
  po (idx a3 i_6) fun x8 =>
  some (l_5, x8)) (
  some (l_5, 0))) (fun x => p_shift_put_J6 a1 a2 a3 i_6 x.1 x.2)) (
  some (Sum.inr (Sum.inl l_5)))
noncomputable def p_shift_put_J3 (l_15 : (List UInt32)) : Option ((List UInt32) × Int) :=
  some (l_15, 0)
noncomputable def p_shift_put (a0 : T_Schema) (a1 : T_Prog) (a2 : UInt32) (a3 : (List UInt32)) : Option ((List UInt32) × Int) :=
  pg (0 ≤ a0.Words ∧ 4 * a0.Words ≤ 140737488355328) <|
  pl (List.replicate a0.Words.toNat 0) fun y2 =>
  pm (
  lpU (fun x => p_shift_put_L4 a0 a1 a2 a3 x.1 x.2) (y2, 0)) (fun x => p_shift_put_J3 x)
theorem c_shift_put {a0 : T_Schema} {a1 : T_Prog} {a2 : UInt32} {a3 : (List UInt32)} {r : (List UInt32) × Int} (h : p_shift_put a0 a1 a2 a3 = some r) : Ctr prog 55 [.agg (enc_Schema a0), .agg (enc_Prog a1), ru a2, .sl false (a3.map encU32)] [] (.tup [.row 0 0 1 0 r.1.length, ri r.2]) [(0, .row 25 1 0 (r.1.map encU32))] := by
 unfold p_shift_put at h;refine Ctr.ofW tabOk func55 rfl call55 0 _ ntmps55 [.tmp 8,.tmp 9] rfl rfl rfl (fun B => ?_);refine vs [2,3,4,5] (fun K hK => ?_);push_cast;refine hK _ ?_;clear hK K;obtain ⟨hg1,h⟩ := pg_some h;obtain ⟨y2,hy2,h⟩ := pl_some h;refine vs [2,3,4,5,10] (fun K hK => ?_);push_cast [hg1];(repeat refine .intro (by omega) ?_);refine hK _ ?_;clear hK K;refine VC.sub (s' := ⟨[(2,ru a2),(3,.sl false (a3.map encU32)),(4,.ref 0 0),(5,.ref 1 0),(10,.row 6 0 1 0 y2.length)],[(0,.box 50 (enc_Schema a0)),(1,.box 56 [.sl false (a1.Fns.map enc_Fn)]),(6,.row 25 1 0 (y2.map encU32))],8,56,0⟩) (so (by push_cast [hy2])) ?_;refine vm h (fun x => ⟨[(10,.row 6 0 1 0 x.length)],[(6,.row 25 1 0 (x.map encU32))],54,56,0⟩) (fun v3 h hk3 => ?_) ?_
 ·refine vs [2,3,5,10,18,19] (fun K hK => ?_);push_cast;refine hK _ ?_;clear hK K;refine VC.block ?_;refine VC.loopP h (fun x => ⟨[(2,ru a2),(3,.sl false (a3.map encU32)),(5,.ref 1 0),(10,.row 6 0 1 0 x.1.length),(18,ri a0.Words),(19,ri x.2)],[(1,.box 56 [.sl false (a1.Fns.map enc_Fn)]),(6,.row 25 1 0 (x.1.map encU32))],53,56,0⟩) ?_ ?_
  ·exact sl (by push_cast)
  rintro ⟨l_5,i_6⟩ b4 (h : p_shift_put_L4 a0 a1 a2 a3 l_5 i_6 = some b4) hf4;(try push_cast);unfold p_shift_put_L4 at h;refine vs [2,3,5,10,18,19,20] (fun K hK => ?_);push_cast;refine hK _ ?_;clear hK K;refine VC.seq ?_;refine vc h (fun hb5 h => ?_) (fun hb5 h => ?_)
  ·refine VC.skip ?_;refine VC.seq ?_;refine VC.block ?_;refine vs [2,3,5,10,11,18,19] (fun K hK => ?_);push_cast;refine hK _ ?_;clear hK K;refine vs [2,3,5,10,11,12,18,19] (fun K hK => ?_);push_cast;refine hK _ ?_;clear hK K;refine vj h (fun x => ⟨[(2,ru a2),(3,.sl false (a3.map encU32)),(5,.ref 1 0),(10,.row 6 0 1 0 x.1.length),(11,ri i_6),(12,ru x.2),(18,ri a0.Words),(19,ri i_6)],[(1,.box 56 [.sl false (a1.Fns.map enc_Fn)]),(6,.row 25 1 0 (x.1.map encU32))],66,56,0⟩) (fun v6 h hk6 => ?_) ?_
   ·refine vs [2,3,5,10,11,12,18,19,25] (fun K hK => ?_);push_cast;refine hK _ ?_;clear hK K;refine vc h (fun hb7 h => ?_) (fun hb7 h => ?_)
    ·obtain ⟨x8,hx8,h⟩ := po_some h;replace hx8 := idx_some4 hx8;refine vl (fun K hK => ?_);push_cast [hx8];(repeat refine .intro (by omega) ?_);refine hK _ ?_;clear hK K;refine ar h hk6 ?_;exact sl (by push_cast [hb5,hb7])
    ·refine VC.skip ?_;refine ar h hk6 ?_;exact sl (by push_cast [hb5,hb7])
   ·rintro ⟨l_7,i_8⟩ (h : p_shift_put_J6 a1 a2 a3 i_6 l_7 i_8 = some b4);(try push_cast);unfold p_shift_put_J6 at h;obtain ⟨x9,hx9,h⟩ := po_some h;replace hx9 := gL hx9;obtain ⟨c10,hc10,h⟩ := pl_some h;have hc10i : (((UInt32.ofInt i_6)).toNat : Int) = (c10.toNat : Int) := by rw [hc10]
    push_cast at hc10i;obtain ⟨r11,hr11,h⟩ := po_some h;refine vsD [some 30,some 31,some 32,some 33,some 34,some 35,some 36,some 37,some 38,some 39,some 40,some 13,none] [2,3,5,10,11,13,18,19] (fun K hK => ?_);refine runD_cut 8 (fun K2 hK2 => ?_);push_cast [hx9,hc10i];(repeat refine .intro (by omega) ?_);refine hK2 _ _ _ ?_;clear hK2 K2;simp only [List.drop_succ_cons,List.drop_zero];push_cast [hx9,hc10i];(repeat refine .intro (by omega) ?_);refine cpD (c_interp_Run hr11) ?_;push_cast [hx9,hc10i];(repeat refine .intro (by omega) ?_);refine ⟨rfl,hK _ ?_⟩;clear hK K;refine VC.seq ?_;refine vj h (fun x => ⟨[(2,ru a2),(3,.sl false (a3.map encU32)),(5,.ref 1 0),(10,.row 6 0 1 0 x.1.length),(11,ri i_6),(13,.ref 77 0),(18,ri a0.Words),(19,ri i_6),(48,rb x.2)],[(1,.box 56 [.sl false (a1.Fns.map enc_Fn)]),(6,.row 25 1 0 (x.1.map encU32)),(77,.box 162 (enc_Ran r11))],87,56,0⟩) (fun v12 h hk12 => ?_) ?_
    ·rcases Bool.eq_false_or_eq_true (r11.Err != 0) with hb13 | hb13
     ·replace h := cond_yes hb13 h;refine vlG [some 41,some 42,some 43,some 44,some 45,some 46,some 47,some 48] (fun K hK => ?_);push_cast [hb13];(repeat refine .intro (by omega) ?_);refine hK _ ?_;clear hK K;refine ar h hk12 ?_;exact sl (by push_cast [hb5,hc10i,hb13])
     ·replace h := cond_no hb13 h;refine vlG [some 41,some 42,some 43,some 44,some 45,some 46,some 47,some 48] (fun K hK => ?_);push_cast [hb13];(repeat refine .intro (by omega) ?_);refine hK _ ?_;clear hK K;refine ar h hk12 ?_;exact sl (by push_cast [hb5,hc10i,hb13])
    ·rintro ⟨l_16,i_17⟩ (h : p_shift_put_J12 i_6 r11 l_16 i_17 = some b4);(try push_cast);unfold p_shift_put_J12 at h;refine vc h (fun hb14 h => ?_) (fun hb14 h => ?_)
     ·refine vs [8,9] (fun K hK => ?_);push_cast;refine hK _ ?_;clear hK K;refine VC.ret ?_;replace h := ol h hf4;replace h := om h hk3;replace h := Option.some.inj h;subst h;refine endS (so (s' := ⟨[(8,.sl true []),(9,ri 10)],[],89,56,0⟩) (by push_cast [hb5,hc10i,hb14])) ?_;refine endS (Sub.adoptT (k := 8) (e := 25) (sz := 1) rfl) ?_;refine endS (Sub.renT (k := 8) (i' := 0) rfl rfl (Nat.le_of_ble_eq_true rfl) (Nat.le_of_ble_eq_true rfl) rfl) ?_;exact en (by push_cast [hb5,hc10i,hb14])
     ·refine VC.skip ?_;obtain ⟨x15,hx15,h⟩ := po_some h;replace hx15 := idx_some4 hx15;obtain ⟨y16,hy16,h⟩ := pl_some h;have hy16l : y16.length = l_16.length := by rw [hy16,List.length_set]
      refine vl (fun K hK => ?_);push_cast [hx15];(repeat refine .intro (by omega) ?_);refine hK _ ?_;clear hK K;refine vl (fun K hK => ?_);push_cast;refine hK _ ?_;clear hK K;refine bk h ?_;exact sl (by push_cast [hb5,hc10i,hb14,hy16,hy16l])
  ·refine VC.exit ?_;replace h := ol h hf4;refine am h hk3 ?_;exact sl (by push_cast [hb5])
 ·rintro l_15 (h : p_shift_put_J3 l_15 = some r);(try push_cast);unfold p_shift_put_J3 at h;refine vs [8,9] (fun K hK => ?_);push_cast;refine hK _ ?_;clear hK K;refine VC.ret ?_;replace h := Option.some.inj h;subst h;refine endS (so (s' := ⟨[(8,.row 6 0 1 0 l_15.length),(9,ri 0)],[(6,.row 25 1 0 (l_15.map encU32))],57,56,0⟩) (by push_cast)) ?_;refine endS (Sub.renT (k := 8) (i' := 0) rfl rfl (Nat.le_of_ble_eq_true rfl) (Nat.le_of_ble_eq_true rfl) rfl) ?_;exact en (by push_cast)
noncomputable def p_shift_Image_L7 (a0 : T_Table) (a1 : T_Schema) (a2 : T_Prog) (s_1 : T_Table) (i_2 : Int) : Option ((T_Table × Int) ⊕ ((T_Table) ⊕ (T_Table × Int))) :=
  cond (decide (i_2 < (a0.E.length : Int))) (
  po (idx a0.E i_2) fun x9 =>
  po (p_shift_put a1 a2 x9.Key x9.V) fun r10 =>
  cond (r10.2 != 0) (
  some (Sum.inr (Sum.inr ((T_Table.mk (T_Schema.mk 0 0 0 0) [] 0), r10.2)))) (
  pg ((s_1.E.length + 1) * 32 ≤ 140737488355328) <|
  pl (s_1.E ++ ([(T_Entry.mk x9.Key r10.1)])) fun y13 =>
  some (Sum.inl ((T_Table.mk s_1.S y13 s_1.Next), (IntKind.i64.wrap (i_2 + 1)))))) (
  some (Sum.inr (Sum.inl s_1)))
noncomputable def p_shift_Image_J6 (y5 : (List T_Entry)) (s_5 : T_Table) : Option (T_Table × Int) :=
  pg ((s_5.E.length + y5.length) * 32 ≤ 140737488355328) <|
  pl (s_5.E ++ y5) fun y15 =>
  some ((T_Table.mk s_5.S y15 s_5.Next), 0)
noncomputable def p_shift_Image (a0 : T_Table) (a1 : T_Schema) (a2 : T_Prog) : Option (T_Table × Int) :=
  po (p_shift_may a0 a1 a2) fun r1 =>
  cond (r1 != 0) (
  some ((T_Table.mk (T_Schema.mk 0 0 0 0) [] 0), r1)) (
  po (p_table_New a1) fun r3 =>
  pg (0 ≤ (minI (a0.E.length : Int) (r3.1.E.length : Int)) ∧ (minI (a0.E.length : Int) (r3.1.E.length : Int)) ≤ (r3.1.E.length : Int) ∧ (r3.1.E.length : Int) ≤ (r3.1.E.length : Int)) <|
  pl ((r3.1.E.drop ((minI (a0.E.length : Int) (r3.1.E.length : Int)).toNat))) fun y5 =>
  pm (
  lpU (fun x => p_shift_Image_L7 a0 a1 a2 x.1 x.2) ((T_Table.mk r3.1.S [] r3.1.Next), 0)) (fun x => p_shift_Image_J6 y5 x))
theorem c_shift_Image {a0 : T_Table} {a1 : T_Schema} {a2 : T_Prog} {r : T_Table × Int} (h : p_shift_Image a0 a1 a2 = some r) : Ctr prog 21 [.agg (enc_Table a0), .agg (enc_Schema a1), .agg (enc_Prog a2)] [] (.tup [.agg [ri r.1.S.Kind, ri r.1.S.Cap, ri r.1.S.Words, ri r.1.S.Ver, .row 0 0 2 0 r.1.E.length, ru r.1.Next], ri r.2]) [(0, .row 66 2 0 (r.1.E.map enc_Entry))] := by
 unfold p_shift_Image at h;refine Ctr.ofW tabOk func21 rfl call21 0 _ ntmps21 [.cell 6 53,.tmp 7] rfl rfl rfl (fun B => ?_);refine vs [3,4,5,6] (fun K hK => ?_);push_cast;refine hK _ ?_;clear hK K;refine VC.seq ?_;obtain ⟨r1,hr1,h⟩ := po_some h;refine vs [3,4,5,6,8] (fun K hK => ?_);push_cast;refine cp (c_shift_may hr1) ?_;push_cast;refine hK _ ?_;clear hK K;refine vs [3,4,5,6,8,21] (fun K hK => ?_);push_cast;refine hK _ ?_;clear hK K;refine vc h (fun hb2 h => ?_) (fun hb2 h => ?_)
 ·refine vs [6,7] (fun K hK => ?_);push_cast;refine hK _ ?_;clear hK K;refine VC.ret ?_;replace h := Option.some.inj h;subst h;refine endS (so (s' := ⟨[(6,.ref 3 0),(7,ri r1)],[(3,.box 53 [ri 0,ri 0,ri 0,ri 0,.sl true [],.raw (.int .u32 0)])],16,77,0⟩) (by push_cast [hb2])) ?_;refine endS (Sub.adopt (b := 3) (j := 4) (e := 66) (sz := 2) rfl rfl) ?_;refine endS (Sub.renB (b := 3) (j := 4) (i' := 0) rfl rfl rfl (Nat.le_of_ble_eq_true rfl) (Nat.le_of_ble_eq_true rfl) rfl) ?_;exact en (by push_cast [hb2])
 ·refine VC.skip ?_;obtain ⟨r3,hr3,h⟩ := po_some h;refine vs [3,4,5,6,9] (fun K hK => ?_);push_cast;refine cp (c_table_New a1 hr3) ?_;push_cast;refine hK _ ?_;clear hK K;obtain ⟨hg4,h⟩ := pg_some h;obtain ⟨y5,hy5,h⟩ := pl_some h;refine vs [3,4,5,6,9,11] (fun K hK => ?_);refine runOps_cut 8 (fun K2 hK2 => ?_);push_cast [hg4];(repeat refine .intro (by omega) ?_);refine hK2 _ _ ?_;clear hK2 K2;simp only [List.drop_succ_cons,List.drop_zero];push_cast [hg4];(repeat refine .intro (by omega) ?_);refine hK _ ?_;clear hK K;refine VC.sub (s' := ⟨[(3,.ref 0 0),(4,.ref 1 0),(5,.ref 2 0),(6,.ref 3 0),(9,.ref 17 0),(11,.sl false (y5.map enc_Entry))],[(0,.box 53 (enc_Table a0)),(1,.box 50 (enc_Schema a1)),(2,.box 56 [.sl false (a2.Fns.map enc_Fn)]),(3,.box 53 [ri 0,ri 0,ri 0,ri 0,.sl true [],.raw (.int .u32 0)]),(17,.box 53 (enc_Table r3.1))],31,77,0⟩) (so (by push_cast [hb2,hy5])) ?_;refine vs [3,4,5,6,9,11] (fun K hK => ?_);push_cast;refine hK _ ?_;clear hK K;refine vm h (fun x => ⟨[(6,.ref 3 0),(9,.ref 17 0),(11,.sl false (y5.map enc_Entry))],[(3,.box 53 [ri 0,ri 0,ri 0,ri 0,.sl true [],.raw (.int .u32 0)]),(17,.box 53 [ri x.S.Kind,ri x.S.Cap,ri x.S.Words,ri x.S.Ver,.row 63 0 2 0 x.E.length,ru x.Next]),(63,.row 66 2 0 (x.E.map enc_Entry))],69,77,0⟩) (fun v6 h hk6 => ?_) ?_
  ·refine vs [4,5,6,9,11,41,42,43] (fun K hK => ?_);push_cast;refine hK _ ?_;clear hK K;refine VC.block ?_;refine VC.loopP h (fun x => ⟨[(4,.ref 1 0),(5,.ref 2 0),(6,.ref 3 0),(9,.ref 17 0),(11,.sl false (y5.map enc_Entry)),(41,.sl false (a0.E.map enc_Entry)),(42,ri (a0.E.length : Int)),(43,ri x.2)],[(1,.box 50 (enc_Schema a1)),(2,.box 56 [.sl false (a2.Fns.map enc_Fn)]),(3,.box 53 [ri 0,ri 0,ri 0,ri 0,.sl true [],.raw (.int .u32 0)]),(17,.box 53 [ri x.1.S.Kind,ri x.1.S.Cap,ri x.1.S.Words,ri x.1.S.Ver,.row 63 0 2 0 x.1.E.length,ru x.1.Next]),(63,.row 66 2 0 (x.1.E.map enc_Entry))],68,77,0⟩) ?_ ?_
   ·refine Sub.trans (so (s' := ⟨[(4,.ref 1 0),(5,.ref 2 0),(6,.ref 3 0),(9,.ref 17 0),(11,.sl false (y5.map enc_Entry)),(41,.sl false (a0.E.map enc_Entry)),(42,ri (a0.E.length : Int)),(43,ri 0)],[(1,.box 50 (enc_Schema a1)),(2,.box 56 [.sl false (a2.Fns.map enc_Fn)]),(3,.box 53 [ri 0,ri 0,ri 0,ri 0,.sl true [],.raw (.int .u32 0)]),(17,.box 53 [ri r3.1.S.Kind,ri r3.1.S.Cap,ri r3.1.S.Words,ri r3.1.S.Ver,.sl true [],ru r3.1.Next])],37,77,0⟩) (by push_cast [hb2])) ?_;refine Sub.trans (Sub.adopt (b := 17) (j := 4) (e := 66) (sz := 2) rfl rfl) ?_;refine Sub.trans (Sub.renB (b := 17) (j := 4) (i' := 63) rfl rfl rfl (Nat.le_of_ble_eq_true rfl) (Nat.le_of_ble_eq_true rfl) rfl) ?_;exact so (by push_cast [hb2])
   rintro ⟨s_1,i_2⟩ b7 (h : p_shift_Image_L7 a0 a1 a2 s_1 i_2 = some b7) hf7;(try push_cast);unfold p_shift_Image_L7 at h;refine vs [4,5,6,9,11,41,42,43,44] (fun K hK => ?_);push_cast;refine hK _ ?_;clear hK K;refine VC.seq ?_;refine vc h (fun hb8 h => ?_) (fun hb8 h => ?_)
   ·refine VC.skip ?_;refine VC.seq ?_;refine VC.block ?_;obtain ⟨x9,hx9,h⟩ := po_some h;replace hx9 := idx_some4 hx9;refine vs [4,5,6,9,11,13,41,42,43] (fun K hK => ?_);push_cast [hx9];(repeat refine .intro (by omega) ?_);refine hK _ ?_;clear hK K;obtain ⟨r10,hr10,h⟩ := po_some h;refine vs [4,5,6,9,11,13,14,15,41,42,43] (fun K hK => ?_);refine runOps_cut 8 (fun K2 hK2 => ?_);push_cast;refine ch (H := []) (Ctr.loH (Ctr.ren (Bij.swp 0 79 Bij.id) (c_shift_put hr10) (by push_cast) (by push_cast))) (by push_cast) ?_;push_cast;refine hK2 _ _ ?_;clear hK2 K2;simp only [List.drop_succ_cons,List.drop_zero];push_cast;refine hK _ ?_;clear hK K;refine VC.sub (s' := ⟨[(4,.ref 1 0),(5,.ref 2 0),(6,.ref 3 0),(9,.ref 17 0),(11,.sl false (y5.map enc_Entry)),(13,.ref 71 0),(14,.row 79 0 1 0 r10.1.length),(15,ri r10.2),(41,.sl false (a0.E.map enc_Entry)),(42,ri (a0.E.length : Int)),(43,ri i_2)],[(1,.box 50 (enc_Schema a1)),(2,.box 56 [.sl false (a2.Fns.map enc_Fn)]),(3,.box 53 [ri 0,ri 0,ri 0,ri 0,.sl true [],.raw (.int .u32 0)]),(17,.box 53 [ri s_1.S.Kind,ri s_1.S.Cap,ri s_1.S.Words,ri s_1.S.Ver,.row 63 0 2 0 s_1.E.length,ru s_1.Next]),(63,.row 66 2 0 (s_1.E.map enc_Entry)),(71,.box 66 (enc_Entry x9)),(79,.row 25 1 0 (r10.1.map encU32))],85,77,0⟩) (so (by push_cast [hb2,hb8])) ?_;refine VC.seq ?_;refine vs [4,5,6,9,11,13,14,15,41,42,43,58] (fun K hK => ?_);push_cast;refine hK _ ?_;clear hK K;refine vc h (fun hb11 h => ?_) (fun hb11 h => ?_)
    ·refine vs [6,7] (fun K hK => ?_);push_cast;refine hK _ ?_;clear hK K;refine VC.ret ?_;replace h := ol h hf7;replace h := om h hk6;replace h := Option.some.inj h;subst h;refine endS (so (s' := ⟨[(6,.ref 3 0),(7,ri r10.2)],[(3,.box 53 [ri 0,ri 0,ri 0,ri 0,.sl true [],.raw (.int .u32 0)])],91,77,0⟩) (by push_cast [hb2,hb8,hb11])) ?_;refine endS (Sub.adopt (b := 3) (j := 4) (e := 66) (sz := 2) rfl rfl) ?_;refine endS (Sub.renB (b := 3) (j := 4) (i' := 0) rfl rfl rfl (Nat.le_of_ble_eq_true rfl) (Nat.le_of_ble_eq_true rfl) rfl) ?_;exact en (by push_cast [hb2,hb8,hb11])
    ·refine VC.skip ?_;obtain ⟨hg12,h⟩ := pg_some h;obtain ⟨y13,hy13,h⟩ := pl_some h;refine vl (fun K hK => ?_);push_cast [hg12];(repeat refine .intro (by omega) ?_);refine hK _ ?_;clear hK K;refine vl (fun K hK => ?_);push_cast;refine hK _ ?_;clear hK K;refine bk h ?_;refine Sub.trans (so (s' := ⟨[(4,.ref 1 0),(5,.ref 2 0),(6,.ref 3 0),(9,.ref 17 0),(11,.sl false (y5.map enc_Entry)),(41,.sl false (a0.E.map enc_Entry)),(42,ri (a0.E.length : Int)),(43,ri (IntKind.i64.wrap (i_2 + 1)))],[(1,.box 50 (enc_Schema a1)),(2,.box 56 [.sl false (a2.Fns.map enc_Fn)]),(3,.box 53 [ri 0,ri 0,ri 0,ri 0,.sl true [],.raw (.int .u32 0)]),(17,.box 53 [ri s_1.S.Kind,ri s_1.S.Cap,ri s_1.S.Words,ri s_1.S.Ver,.row 63 1 2 0 y13.length,ru s_1.Next]),(63,.row 66 2 1 (y13.map enc_Entry))],99,77,0⟩) (by push_cast [hb2,hb8,hb11,hy13])) ?_;refine Sub.trans (Sub.renB (b := 17) (j := 4) (i' := 63) rfl rfl rfl (Nat.le_of_ble_eq_true rfl) (Nat.le_of_ble_eq_true rfl) rfl) ?_;exact so (by push_cast [hb2,hb8,hb11,hy13])
   ·refine VC.exit ?_;replace h := ol h hf7;refine am h hk6 ?_;exact so (by push_cast [hb2,hb8])
  ·rintro s_5 (h : p_shift_Image_J6 y5 s_5 = some r);(try push_cast);unfold p_shift_Image_J6 at h;obtain ⟨hg14,h⟩ := pg_some h;obtain ⟨y15,hy15,h⟩ := pl_some h;refine vs [6,9] (fun K hK => ?_);push_cast [hg14];(repeat refine .intro (by omega) ?_);refine hK _ ?_;clear hK K;refine VC.sub (s' := ⟨[(6,.ref 3 0),(9,.ref 17 0)],[(3,.box 53 [ri 0,ri 0,ri 0,ri 0,.sl true [],.raw (.int .u32 0)]),(17,.box 53 [ri s_5.S.Kind,ri s_5.S.Cap,ri s_5.S.Words,ri s_5.S.Ver,.row 63 1 2 0 y15.length,ru s_5.Next]),(63,.row 66 2 1 (y15.map enc_Entry))],75,77,0⟩) (so (by push_cast [hb2,hy15])) ?_;refine vs [6,7] (fun K hK => ?_);push_cast;refine hK _ ?_;clear hK K;refine VC.ret ?_;replace h := Option.some.inj h;subst h;refine endS (so (s' := ⟨[(6,.ref 3 0),(7,ri 0)],[(3,.box 53 [ri s_5.S.Kind,ri s_5.S.Cap,ri s_5.S.Words,ri s_5.S.Ver,.row 63 1 2 0 y15.length,ru s_5.Next]),(63,.row 66 2 1 (y15.map enc_Entry))],78,77,0⟩) (by push_cast [hb2])) ?_;refine endS (Sub.renB (b := 3) (j := 4) (i' := 0) rfl rfl rfl (Nat.le_of_ble_eq_true rfl) (Nat.le_of_ble_eq_true rfl) rfl) ?_;exact en (by push_cast [hb2])
noncomputable def p_shift_One_J1 (a0 : T_Schema) (a1 : T_Prog) (a2 : UInt32) (a3 : (List UInt32)) (i_1 : Bool) : Option ((List UInt32) × Int) :=
  cond i_1 (
  some ([], 1)) (
  po (p_verify_Verify a1 []) fun r5 =>
  cond (r5.2 != 0) (
  some ([], r5.2)) (
  po (p_shift_put a0 a1 a2 a3) fun r7 =>
  some (r7.1, r7.2)))
noncomputable def p_shift_One (a0 : T_Schema) (a1 : T_Prog) (a2 : UInt32) (a3 : (List UInt32)) : Option ((List UInt32) × Int) :=
  po (
  po (p_schema_May a0) fun r2 =>
  cond r2 (
  some ((a3.length : Int) == 0)) (
  some true)) (fun x => p_shift_One_J1 a0 a1 a2 a3 x)
theorem c_shift_One {a0 : T_Schema} {a1 : T_Prog} {a2 : UInt32} {a3 : (List UInt32)} {r : (List UInt32) × Int} (h : p_shift_One a0 a1 a2 a3 = some r) : Ctr prog 24 [.agg (enc_Schema a0), .agg (enc_Prog a1), ru a2, .sl false (a3.map encU32)] [] (.tup [.row 0 0 1 0 r.1.length, ri r.2]) [(0, .row 25 1 0 (r.1.map encU32))] := by
 unfold p_shift_One at h;refine Ctr.ofW tabOk func24 rfl call24 0 _ ntmps24 [.tmp 8,.tmp 9] rfl rfl rfl (fun B => ?_);refine vs [2,3,4,5] (fun K hK => ?_);push_cast;refine hK _ ?_;clear hK K;refine VC.seq ?_;refine vj h (fun x => ⟨[(2,ru a2),(3,.sl false (a3.map encU32)),(4,.ref 0 0),(5,.ref 1 0),(19,rb x)],[(0,.box 50 (enc_Schema a0)),(1,.box 56 [.sl false (a1.Fns.map enc_Fn)])],12,35,0⟩) (fun v1 h hk1 => ?_) ?_
 ·obtain ⟨r2,hr2,h⟩ := po_some h;rcases Bool.eq_false_or_eq_true r2 with hb3 | hb3
  ·replace h := cond_yes hb3 h;refine vlG [some 12,some 13,some 14,some 15,some 16,some 17,some 18,some 19] (fun K hK => ?_);push_cast [hb3];(repeat refine .intro (by omega) ?_);refine cp (c_schema_May hr2) ?_;push_cast [hb3];(repeat refine .intro (by omega) ?_);refine hK _ ?_;clear hK K;refine ar h hk1 ?_;exact sl (by push_cast [hb3])
  ·replace h := cond_no hb3 h;refine vlG [some 12,some 13,some 14,some 15,some 16,some 17,some 18,some 19] (fun K hK => ?_);push_cast [hb3];(repeat refine .intro (by omega) ?_);refine cp (c_schema_May hr2) ?_;push_cast [hb3];(repeat refine .intro (by omega) ?_);refine hK _ ?_;clear hK K;refine ar h hk1 ?_;exact sl (by push_cast [hb3])
 ·rintro i_1 (h : p_shift_One_J1 a0 a1 a2 a3 i_1 = some r);(try push_cast);unfold p_shift_One_J1 at h;refine vc h (fun hb4 h => ?_) (fun hb4 h => ?_)
  ·refine vs [8,9] (fun K hK => ?_);push_cast;refine hK _ ?_;clear hK K;refine VC.ret ?_;replace h := Option.some.inj h;subst h;refine endS (so (s' := ⟨[(8,.sl true []),(9,ri 1)],[],14,35,0⟩) (by push_cast [hb4])) ?_;refine endS (Sub.adoptT (k := 8) (e := 25) (sz := 1) rfl) ?_;refine endS (Sub.renT (k := 8) (i' := 0) rfl rfl (Nat.le_of_ble_eq_true rfl) (Nat.le_of_ble_eq_true rfl) rfl) ?_;exact en (by push_cast [hb4])
  ·refine VC.skip ?_;refine VC.seq ?_;obtain ⟨r5,hr5,h⟩ := po_some h;refine vs [2,3,4,5,11] (fun K hK => ?_);push_cast;refine cp (c_verify_Verify hr5) ?_;push_cast;refine hK _ ?_;clear hK K;refine vs [2,3,4,5,11,26] (fun K hK => ?_);push_cast;refine hK _ ?_;clear hK K;refine vc h (fun hb6 h => ?_) (fun hb6 h => ?_)
   ·refine vs [8,9] (fun K hK => ?_);push_cast;refine hK _ ?_;clear hK K;refine VC.ret ?_;replace h := Option.some.inj h;subst h;refine endS (so (s' := ⟨[(8,.sl true []),(9,ri r5.2)],[],24,35,0⟩) (by push_cast [hb4,hb6])) ?_;refine endS (Sub.adoptT (k := 8) (e := 25) (sz := 1) rfl) ?_;refine endS (Sub.renT (k := 8) (i' := 0) rfl rfl (Nat.le_of_ble_eq_true rfl) (Nat.le_of_ble_eq_true rfl) rfl) ?_;exact en (by push_cast [hb4,hb6])
   ·refine VC.skip ?_;obtain ⟨r7,hr7,h⟩ := po_some h;refine vs [8,9] (fun K hK => ?_);push_cast;refine ch (H := []) (Ctr.loH (Ctr.ren (Bij.swp 0 25 Bij.id) (c_shift_put hr7) (by push_cast) (by push_cast))) (by push_cast) ?_;push_cast;refine hK _ ?_;clear hK K;refine VC.sub (s' := ⟨[(8,.row 25 0 1 0 r7.1.length),(9,ri r7.2)],[(25,.row 25 1 0 (r7.1.map encU32))],30,35,0⟩) (so (by push_cast [hb4,hb6])) ?_;refine VC.ret ?_;replace h := Option.some.inj h;subst h;refine endS (so (s' := ⟨[(8,.row 25 0 1 0 r7.1.length),(9,ri r7.2)],[(25,.row 25 1 0 (r7.1.map encU32))],30,35,0⟩) (by push_cast [hb4,hb6])) ?_;refine endS (Sub.renT (k := 8) (i' := 0) rfl rfl (Nat.le_of_ble_eq_true rfl) (Nat.le_of_ble_eq_true rfl) rfl) ?_;exact en (by push_cast [hb4,hb6])
noncomputable def p_drydocklaw18_awake_J3 (i_1 : Bool) : Option (Bool) :=
  some i_1
noncomputable def p_drydocklaw18_awake : Option (Bool) :=
  po (p_shift_One (T_Schema.mk 1 1 3 0) (T_Prog.mk ([(T_Fn.mk 0 ([(T_Inst.mk 2 0 0 0 false 0 2), (T_Inst.mk 7 0 0 0 false 0 0)]))])) 7 ([4, 5])) fun r1 =>
  po (p_shift_Image (T_Table.mk (T_Schema.mk 1 1 1 0) ([(T_Entry.mk 9 ([6]))]) 0) (T_Schema.mk 1 2 2 1) (T_Prog.mk ([(T_Fn.mk 0 ([(T_Inst.mk 2 0 0 0 false 0 2), (T_Inst.mk 7 0 0 0 false 0 0)]))]))) fun r2 =>
  po (
  cond (r1.2 == 0) (
  po (p_drydockref01_Words r1.1 ([4, 5, 0])) fun r5 =>
  cond r5 (
  cond (r2.2 == 0) (
  cond ((r2.1.E.length : Int) == 1) (
  po (r2.1.E[0]?) fun x9 =>
  po (p_drydockref01_Words x9.V ([6, 0])) fun r10 =>
  some r10) (
  some false)) (
  some false)) (
  some false)) (
  some false)) (fun x => p_drydocklaw18_awake_J3 x)
theorem c_drydocklaw18_awake {r : Bool} (h : p_drydocklaw18_awake = some r) : Ctr prog 19 [] [] (rb r) [] := by
 unfold p_drydocklaw18_awake at h;refine Ctr.ofW tabOk func19 rfl call19 0 _ ntmps19 [.tmp 0] rfl rfl rfl (fun B => ?_);refine vs [] (fun K hK => ?_);push_cast;refine hK _ ?_;clear hK K;refine vs [1] (fun K hK => ?_);push_cast;refine hK _ ?_;clear hK K;refine VC.sub (s' := ⟨[(1,.ref 7 0)],[(5,.row 71 2 0 (([(T_Fn.mk 0 ([(T_Inst.mk 2 0 0 0 false 0 2),(T_Inst.mk 7 0 0 0 false 0 0)]))]).map enc_Fn)),(7,.box 56 [.row 5 0 2 0 1])],9,56,0⟩) (so (by push_cast)) ?_;refine VC.sub (Sub.freeze prog (b := 7) (j := 0) rfl rfl rfl (by push_cast <;> omega) (by decide)) ?_;refine VC.sub (s' := ⟨[(1,.ref 7 0)],[(7,.box 56 [.sl false (([(T_Fn.mk 0 ([(T_Inst.mk 2 0 0 0 false 0 2),(T_Inst.mk 7 0 0 0 false 0 0)]))]).map enc_Fn)])],9,56,0⟩) (so (by push_cast)) ?_;obtain ⟨r1,hr1,h⟩ := po_some h;refine vs [1,2,3] (fun K hK => ?_);push_cast;refine ch (H := [(11,.row 25 1 0 (([4,5]).map encU32))]) (Ctr.consume (args0 := [.agg [ri 1,ri 1,ri 3,ri 0],.agg [.sl false (([(T_Fn.mk 0 ([(T_Inst.mk 2 0 0 0 false 0 2),(T_Inst.mk 7 0 0 0 false 0 0)]))]).map enc_Fn)],.raw (.int .u32 7),.sl false (([4,5]).map encU32)]) (Ctr.ren (Bij.swp 0 12 Bij.id) (c_shift_One hr1) (by push_cast) (by push_cast)) (by push_cast) rfl) (by push_cast) ?_;push_cast;refine hK _ ?_;clear hK K;refine VC.sub (s' := ⟨[(1,.ref 7 0),(2,.row 12 0 1 0 r1.1.length),(3,ri r1.2)],[(7,.box 56 [.sl false (([(T_Fn.mk 0 ([(T_Inst.mk 2 0 0 0 false 0 2),(T_Inst.mk 7 0 0 0 false 0 0)]))]).map enc_Fn)]),(12,.row 25 1 0 (r1.1.map encU32))],18,56,0⟩) (so (by push_cast)) ?_;obtain ⟨r2,hr2,h⟩ := po_some h;refine vs [2,3,4,5] (fun K hK => ?_);refine runOps_cut 8 (fun K2 hK2 => ?_);push_cast;refine ch (H := [(21,.row 66 2 0 (([(T_Entry.mk 9 ([6]))]).map enc_Entry))]) (Ctr.consume (args0 := [.agg [ri 1,ri 1,ri 1,ri 0,.sl false (([(T_Entry.mk 9 ([6]))]).map enc_Entry),.raw (.int .u32 0)],.agg [ri 1,ri 2,ri 2,ri 1],.agg [.sl false (([(T_Fn.mk 0 ([(T_Inst.mk 2 0 0 0 false 0 2),(T_Inst.mk 7 0 0 0 false 0 0)]))]).map enc_Fn)]]) (Ctr.ren (Bij.swp 0 25 Bij.id) (c_shift_Image hr2) (by push_cast) (by push_cast)) (by push_cast) rfl) (by push_cast) ?_;push_cast;refine hK2 _ _ ?_;clear hK2 K2;simp only [List.drop_succ_cons,List.drop_zero];push_cast;refine hK _ ?_;clear hK K;refine VC.sub (s' := ⟨[(2,.row 12 0 1 0 r1.1.length),(3,ri r1.2),(4,.ref 29 0),(5,ri r2.2)],[(12,.row 25 1 0 (r1.1.map encU32)),(25,.row 66 2 0 (r2.1.E.map enc_Entry)),(29,.box 53 [ri r2.1.S.Kind,ri r2.1.S.Cap,ri r2.1.S.Words,ri r2.1.S.Ver,.row 25 0 2 0 r2.1.E.length,ru r2.1.Next])],32,56,0⟩) (so (by push_cast)) ?_;refine vj h (fun x => ⟨[(0,rb x)],[],59,56,0⟩) (fun v3 h hk3 => ?_) ?_
 ·rcases Bool.eq_false_or_eq_true (r1.2 == 0) with hb4 | hb4
  ·replace h := cond_yes hb4 h;obtain ⟨r5,hr5,h⟩ := po_some h;rcases Bool.eq_false_or_eq_true r5 with hb6 | hb6
   ·replace h := cond_yes hb6 h;rcases Bool.eq_false_or_eq_true (r2.2 == 0) with hb7 | hb7
    ·replace h := cond_yes hb7 h;rcases Bool.eq_false_or_eq_true ((r2.1.E.length : Int) == 1) with hb8 | hb8
     ·replace h := cond_yes hb8 h;obtain ⟨x9,hx9,h⟩ := po_some h;replace hx9 := gL hx9;obtain ⟨r10,hr10,h⟩ := po_some h;refine vlG [some 30,some 31,some 32,some 33,some 34,some 35,some 36,some 37,some 38,some 39,some 40,some 41,some 42,some 43,some 44,some 45,some 46,some 47,some 48,some 49,some 50,some 51,some 52,some 53,some 54,some 55,some 0] (fun K hK => ?_);refine runOps_cut 8 (fun K2 hK2 => ?_);push_cast [hb4,hb6,hb7,hb8,hx9];(repeat refine .intro (by omega) ?_);refine ch (H := [(12,.row 25 1 0 (r1.1.map encU32)),(36,.row 25 1 0 (([4,5,0]).map encU32))]) (H' := _) (Ctr.borrow (c_drydockref01_Words hr5) (by push_cast [hb4,hb6,hb7,hb8,hx9]) rfl) (by push_cast [hb4,hb6,hb7,hb8,hx9]) ?_;push_cast [hb4,hb6,hb7,hb8,hx9];(repeat refine .intro (by omega) ?_);refine hK2 _ _ ?_;clear hK2 K2;simp only [List.drop_succ_cons,List.drop_zero];refine runOps_cut 8 (fun K2 hK2 => ?_);push_cast [hb4,hb6,hb7,hb8,hx9];(repeat refine .intro (by omega) ?_);refine hK2 _ _ ?_;clear hK2 K2;simp only [List.drop_succ_cons,List.drop_zero];refine runOps_cut 8 (fun K2 hK2 => ?_);push_cast [hb4,hb6,hb7,hb8,hx9];(repeat refine .intro (by omega) ?_);refine hK2 _ _ ?_;clear hK2 K2;simp only [List.drop_succ_cons,List.drop_zero];push_cast [hb4,hb6,hb7,hb8,hx9];(repeat refine .intro (by omega) ?_);refine ch (H := [(55,.row 25 1 0 (([6,0]).map encU32))]) (H' := _) (Ctr.borrow (c_drydockref01_Words hr10) (by push_cast [hb4,hb6,hb7,hb8,hx9]) rfl) (by push_cast [hb4,hb6,hb7,hb8,hx9]) ?_;push_cast [hb4,hb6,hb7,hb8,hx9];(repeat refine .intro (by omega) ?_);refine hK _ ?_;clear hK K;refine ar h hk3 ?_;exact sl (by push_cast [hb4,hb6,hb7,hb8])
     ·replace h := cond_no hb8 h;refine vlG [some 30,some 31,some 32,some 33,some 34,some 35,some 36,some 37,some 38,some 39,some 40,some 41,some 42,some 43,some 44,some 45,some 46,some 47,some 48,some 49,some 50,some 51,some 52,some 53,some 54,some 55,some 0] (fun K hK => ?_);refine runOps_cut 8 (fun K2 hK2 => ?_);push_cast [hb4,hb6,hb7,hb8];(repeat refine .intro (by omega) ?_);refine ch (H := [(12,.row 25 1 0 (r1.1.map encU32)),(36,.row 25 1 0 (([4,5,0]).map encU32))]) (H' := _) (Ctr.borrow (c_drydockref01_Words hr5) (by push_cast [hb4,hb6,hb7,hb8]) rfl) (by push_cast [hb4,hb6,hb7,hb8]) ?_;push_cast [hb4,hb6,hb7,hb8];(repeat refine .intro (by omega) ?_);refine hK2 _ _ ?_;clear hK2 K2;simp only [List.drop_succ_cons,List.drop_zero];refine runOps_cut 8 (fun K2 hK2 => ?_);push_cast [hb4,hb6,hb7,hb8];(repeat refine .intro (by omega) ?_);refine hK2 _ _ ?_;clear hK2 K2;simp only [List.drop_succ_cons,List.drop_zero];refine runOps_cut 8 (fun K2 hK2 => ?_);push_cast [hb4,hb6,hb7,hb8];(repeat refine .intro (by omega) ?_);refine hK2 _ _ ?_;clear hK2 K2;simp only [List.drop_succ_cons,List.drop_zero];push_cast [hb4,hb6,hb7,hb8];(repeat refine .intro (by omega) ?_);refine hK _ ?_;clear hK K;refine ar h hk3 ?_;exact sl (by push_cast [hb4,hb6,hb7,hb8])
    ·replace h := cond_no hb7 h;refine vlG [some 30,some 31,some 32,some 33,some 34,some 35,some 36,some 37,some 38,some 39,some 40,some 41,some 42,some 43,some 44,some 45,some 46,some 47,some 48,some 49,some 50,some 51,some 52,some 53,some 54,some 55,some 0] (fun K hK => ?_);refine runOps_cut 8 (fun K2 hK2 => ?_);push_cast [hb4,hb6,hb7];(repeat refine .intro (by omega) ?_);refine ch (H := [(12,.row 25 1 0 (r1.1.map encU32)),(36,.row 25 1 0 (([4,5,0]).map encU32))]) (H' := _) (Ctr.borrow (c_drydockref01_Words hr5) (by push_cast [hb4,hb6,hb7]) rfl) (by push_cast [hb4,hb6,hb7]) ?_;push_cast [hb4,hb6,hb7];(repeat refine .intro (by omega) ?_);refine hK2 _ _ ?_;clear hK2 K2;simp only [List.drop_succ_cons,List.drop_zero];refine runOps_cut 8 (fun K2 hK2 => ?_);push_cast [hb4,hb6,hb7];(repeat refine .intro (by omega) ?_);refine hK2 _ _ ?_;clear hK2 K2;simp only [List.drop_succ_cons,List.drop_zero];refine runOps_cut 8 (fun K2 hK2 => ?_);push_cast [hb4,hb6,hb7];(repeat refine .intro (by omega) ?_);refine hK2 _ _ ?_;clear hK2 K2;simp only [List.drop_succ_cons,List.drop_zero];push_cast [hb4,hb6,hb7];(repeat refine .intro (by omega) ?_);refine hK _ ?_;clear hK K;refine ar h hk3 ?_;exact sl (by push_cast [hb4,hb6,hb7])
   ·replace h := cond_no hb6 h;refine vlG [some 30,some 31,some 32,some 33,some 34,some 35,some 36,some 37,some 38,some 39,some 40,some 41,some 42,some 43,some 44,some 45,some 46,some 47,some 48,some 49,some 50,some 51,some 52,some 53,some 54,some 55,some 0] (fun K hK => ?_);refine runOps_cut 8 (fun K2 hK2 => ?_);push_cast [hb4,hb6];(repeat refine .intro (by omega) ?_);refine ch (H := [(12,.row 25 1 0 (r1.1.map encU32)),(36,.row 25 1 0 (([4,5,0]).map encU32))]) (H' := _) (Ctr.borrow (c_drydockref01_Words hr5) (by push_cast [hb4,hb6]) rfl) (by push_cast [hb4,hb6]) ?_;push_cast [hb4,hb6];(repeat refine .intro (by omega) ?_);refine hK2 _ _ ?_;clear hK2 K2;simp only [List.drop_succ_cons,List.drop_zero];refine runOps_cut 8 (fun K2 hK2 => ?_);push_cast [hb4,hb6];(repeat refine .intro (by omega) ?_);refine hK2 _ _ ?_;clear hK2 K2;simp only [List.drop_succ_cons,List.drop_zero];refine runOps_cut 8 (fun K2 hK2 => ?_);push_cast [hb4,hb6];(repeat refine .intro (by omega) ?_);refine hK2 _ _ ?_;clear hK2 K2;simp only [List.drop_succ_cons,List.drop_zero];push_cast [hb4,hb6];(repeat refine .intro (by omega) ?_);refine hK _ ?_;clear hK K;refine ar h hk3 ?_;exact sl (by push_cast [hb4,hb6])
  ·replace h := cond_no hb4 h;refine vlG [some 30,some 31,some 32,some 33,some 34,some 35,some 36,some 37,some 38,some 39,some 40,some 41,some 42,some 43,some 44,some 45,some 46,some 47,some 48,some 49,some 50,some 51,some 52,some 53,some 54,some 55,some 0] (fun K hK => ?_);refine runOps_cut 8 (fun K2 hK2 => ?_);push_cast [hb4];(repeat refine .intro (by omega) ?_);refine hK2 _ _ ?_;clear hK2 K2;simp only [List.drop_succ_cons,List.drop_zero];refine runOps_cut 8 (fun K2 hK2 => ?_);push_cast [hb4];(repeat refine .intro (by omega) ?_);refine hK2 _ _ ?_;clear hK2 K2;simp only [List.drop_succ_cons,List.drop_zero];refine runOps_cut 8 (fun K2 hK2 => ?_);push_cast [hb4];(repeat refine .intro (by omega) ?_);refine hK2 _ _ ?_;clear hK2 K2;simp only [List.drop_succ_cons,List.drop_zero];push_cast [hb4];(repeat refine .intro (by omega) ?_);refine hK _ ?_;clear hK K;refine ar h hk3 ?_;exact sl (by push_cast [hb4])
 ·rintro i_1 (h : p_drydocklaw18_awake_J3 i_1 = some r);(try push_cast);unfold p_drydocklaw18_awake_J3 at h;refine VC.ret ?_;replace h := Option.some.inj h;subst h;exact en (by push_cast)
def itF {σ ρ : Type} (step : σ → Option (σ ⊕ ρ)) (s : σ) : Option ρ := iterU step 5000 s
def Le {α : Type} (x y : Option α) : Prop := ∀ r, x = some r → y = some r
section
variable {α β γ σ ρ : Type}
theorem Le.refl (x : Option α) : Le x x := fun _ h => h
theorem Le.po {x x' : Option α} {k k' : α → Option β} (hx : Le x x') (hk : ∀ a, Le (k a) (k' a)) : Le (po x k) (po x' k') := by
  intro r h
  obtain ⟨a, h1, h2⟩ := po_some h
  rw [hx a h1]
  exact hk a r h2
theorem Le.pl {x : α} {k k' : α → Option β} (hk : ∀ a, Le (k a) (k' a)) : Le (pl x k) (pl x k') := hk x
theorem Le.pg {c : Prop} [Decidable c] {k k' : Option β} (hk : Le k k') : Le (pg c k) (pg c k') := by
  intro r h
  obtain ⟨h1, h2⟩ := pg_some h
  rw [pg_of h1]
  exact hk r h2
theorem Le.cond {c : Bool} {a a' b b' : Option α} (ha : Le a a') (hb : Le b b') : Le (cond c a b) (cond c a' b') := by
  cases c
  · exact hb
  · exact ha
theorem Le.pm {x x' : Option (α ⊕ β)} {k k' : α → Option β} (hx : Le x x') (hk : ∀ a, Le (k a) (k' a)) : Le (pm x k) (pm x' k') := by
  intro r h
  cases hq : x with
  | none => rw [hq] at h; cases h
  | some v =>
    rw [hx v hq]
    rw [hq] at h
    cases v with
    | inl a => exact hk a r h
    | inr b => exact h
theorem Le.pq {x x' : Option (α ⊕ β)} {k k' : α → Option γ} {kr kr' : β → Option γ} (hx : Le x x') (hk : ∀ a, Le (k a) (k' a)) (hr : ∀ a, Le (kr a) (kr' a)) : Le (pq x k kr) (pq x' k' kr') := by
  intro r h
  cases hq : x with
  | none => rw [hq] at h; cases h
  | some v =>
    rw [hx v hq]
    rw [hq] at h
    cases v with
    | inl a => exact hk a r h
    | inr b => exact hr b r h
theorem Le.iter {st st' : σ → Option (σ ⊕ ρ)} (h : ∀ s, Le (st s) (st' s)) : ∀ (n : Nat) (s : σ) (r : ρ), iterU st n s = some r → iterU st' n s = some r
  | 0, s, r, hr => by cases hr
  | n + 1, s, r, hr => by
    simp only [iterU] at hr ⊢
    split at hr
    · cases hr
    · rename_i s' hs
      rw [h s _ hs]
      exact Le.iter h n s' r hr
    · rename_i b hs
      rw [h s _ hs]
      exact hr
theorem Le.lp {st st' : σ → Option (σ ⊕ ρ)} {s : σ} (h : ∀ s, Le (st s) (st' s)) : Le (itF st s) (lpU st' s) := fun r hr => lpU_some.2 ⟨5000, Le.iter h _ s r hr⟩
theorem Le.itU {st st' : σ → α → Option (σ ⊕ ρ)} {l : List α} {s : σ} (h : ∀ s u, Le (st s u) (st' s u)) : Le (itU st l s) (itU st' l s) := by
  intro r hr
  induction l generalizing s with
  | nil => exact hr
  | cons u l ih =>
    simp only [Go.Proofs.YtcffmheeofjifaaGreat.itU] at hr ⊢
    split at hr
    · cases hr
    · rename_i s' hs
      rw [h s u _ hs]
      exact ih hr
    · rename_i b hs
      rw [h s u _ hs]
      exact hr
end
noncomputable def q_slices_IndexFunc_api_Inst_api_Inst_prog_fine_1 (a0 : (List T_Inst)) : Option (Int) :=
  pm (
  itF (fun x => p_slices_IndexFunc_api_Inst_api_Inst_prog_fine_1_L2 a0 x) 0) (fun x => p_slices_IndexFunc_api_Inst_api_Inst_prog_fine_1_J1)
theorem q_slices_IndexFunc_api_Inst_api_Inst_prog_fine_1_le (a0 : (List T_Inst)) : Le (q_slices_IndexFunc_api_Inst_api_Inst_prog_fine_1 a0) (p_slices_IndexFunc_api_Inst_api_Inst_prog_fine_1 a0) := by
  unfold q_slices_IndexFunc_api_Inst_api_Inst_prog_fine_1 p_slices_IndexFunc_api_Inst_api_Inst_prog_fine_1
  repeat' with_reducible first | (intro _) | apply Le.po | apply Le.cond | apply Le.pl | apply Le.pg | apply Le.pm | apply Le.pq | apply Le.lp | apply Le.itU | exact Le.refl _
noncomputable def q_slices_ContainsFunc_api_Inst_api_Inst_prog_fine_1 (a0 : (List T_Inst)) : Option (Bool) :=
  po (q_slices_IndexFunc_api_Inst_api_Inst_prog_fine_1 a0) fun r1 =>
  some (decide (r1 ≥ 0))
theorem q_slices_ContainsFunc_api_Inst_api_Inst_prog_fine_1_le (a0 : (List T_Inst)) : Le (q_slices_ContainsFunc_api_Inst_api_Inst_prog_fine_1 a0) (p_slices_ContainsFunc_api_Inst_api_Inst_prog_fine_1 a0) := by
  unfold q_slices_ContainsFunc_api_Inst_api_Inst_prog_fine_1 p_slices_ContainsFunc_api_Inst_api_Inst_prog_fine_1
  repeat' with_reducible first | (intro _) | apply q_slices_IndexFunc_api_Inst_api_Inst_prog_fine_1_le | apply Le.po | apply Le.cond | apply Le.pl | apply Le.pg | apply Le.pm | apply Le.pq | apply Le.lp | apply Le.itU | exact Le.refl _
noncomputable def q_prog_fine (a0 : T_Fn) : Option (Bool) :=
  po (
  cond (decide (a0.Args ≥ 0)) (
  cond (decide (a0.Args ≤ 4)) (
  cond (decide ((a0.Code.length : Int) > 0)) (
  cond (decide ((a0.Code.length : Int) ≤ 64)) (
  po (q_slices_ContainsFunc_api_Inst_api_Inst_prog_fine_1 a0.Code) fun r6 =>
  some (!r6)) (
  some false)) (
  some false)) (
  some false)) (
  some false)) (fun x => p_prog_fine_J1 x)
theorem q_prog_fine_le (a0 : T_Fn) : Le (q_prog_fine a0) (p_prog_fine a0) := by
  unfold q_prog_fine p_prog_fine
  repeat' with_reducible first | (intro _) | apply q_slices_ContainsFunc_api_Inst_api_Inst_prog_fine_1_le | apply Le.po | apply Le.cond | apply Le.pl | apply Le.pg | apply Le.pm | apply Le.pq | apply Le.lp | apply Le.itU | exact Le.refl _
noncomputable def q_prog_May_1 (a0 : T_Fn) : Option (Bool) :=
  po (q_prog_fine a0) fun r1 =>
  some (!r1)
theorem q_prog_May_1_le (a0 : T_Fn) : Le (q_prog_May_1 a0) (p_prog_May_1 a0) := by
  unfold q_prog_May_1 p_prog_May_1
  repeat' with_reducible first | (intro _) | apply q_prog_fine_le | apply Le.po | apply Le.cond | apply Le.pl | apply Le.pg | apply Le.pm | apply Le.pq | apply Le.lp | apply Le.itU | exact Le.refl _
noncomputable def q_slices_IndexFunc_api_Fn_api_Fn_prog_May_1_L2 (a0 : (List T_Fn)) (i_1 : Int) : Option ((Int) ⊕ ((Unit) ⊕ (Int))) :=
  cond (decide (i_1 < (a0.length : Int))) (
  po (idx a0 i_1) fun x4 =>
  po (q_prog_May_1 x4) fun r5 =>
  cond r5 (
  some (Sum.inr (Sum.inr i_1))) (
  some (Sum.inl (IntKind.i64.wrap (i_1 + 1))))) (
  some (Sum.inr (Sum.inl ())))
theorem q_slices_IndexFunc_api_Fn_api_Fn_prog_May_1_L2_le (a0 : (List T_Fn)) (i_1 : Int) : Le (q_slices_IndexFunc_api_Fn_api_Fn_prog_May_1_L2 a0 i_1) (p_slices_IndexFunc_api_Fn_api_Fn_prog_May_1_L2 a0 i_1) := by
  unfold q_slices_IndexFunc_api_Fn_api_Fn_prog_May_1_L2 p_slices_IndexFunc_api_Fn_api_Fn_prog_May_1_L2
  repeat' with_reducible first | (intro _) | apply q_prog_May_1_le | apply Le.po | apply Le.cond | apply Le.pl | apply Le.pg | apply Le.pm | apply Le.pq | apply Le.lp | apply Le.itU | exact Le.refl _
noncomputable def q_slices_IndexFunc_api_Fn_api_Fn_prog_May_1 (a0 : (List T_Fn)) : Option (Int) :=
  pm (
  itF (fun x => q_slices_IndexFunc_api_Fn_api_Fn_prog_May_1_L2 a0 x) 0) (fun x => p_slices_IndexFunc_api_Fn_api_Fn_prog_May_1_J1)
theorem q_slices_IndexFunc_api_Fn_api_Fn_prog_May_1_le (a0 : (List T_Fn)) : Le (q_slices_IndexFunc_api_Fn_api_Fn_prog_May_1 a0) (p_slices_IndexFunc_api_Fn_api_Fn_prog_May_1 a0) := by
  unfold q_slices_IndexFunc_api_Fn_api_Fn_prog_May_1 p_slices_IndexFunc_api_Fn_api_Fn_prog_May_1
  repeat' with_reducible first | (intro _) | apply q_slices_IndexFunc_api_Fn_api_Fn_prog_May_1_L2_le | apply Le.po | apply Le.cond | apply Le.pl | apply Le.pg | apply Le.pm | apply Le.pq | apply Le.lp | apply Le.itU | exact Le.refl _
noncomputable def q_slices_ContainsFunc_api_Fn_api_Fn_prog_May_1 (a0 : (List T_Fn)) : Option (Bool) :=
  po (q_slices_IndexFunc_api_Fn_api_Fn_prog_May_1 a0) fun r1 =>
  some (decide (r1 ≥ 0))
theorem q_slices_ContainsFunc_api_Fn_api_Fn_prog_May_1_le (a0 : (List T_Fn)) : Le (q_slices_ContainsFunc_api_Fn_api_Fn_prog_May_1 a0) (p_slices_ContainsFunc_api_Fn_api_Fn_prog_May_1 a0) := by
  unfold q_slices_ContainsFunc_api_Fn_api_Fn_prog_May_1 p_slices_ContainsFunc_api_Fn_api_Fn_prog_May_1
  repeat' with_reducible first | (intro _) | apply q_slices_IndexFunc_api_Fn_api_Fn_prog_May_1_le | apply Le.po | apply Le.cond | apply Le.pl | apply Le.pg | apply Le.pm | apply Le.pq | apply Le.lp | apply Le.itU | exact Le.refl _
noncomputable def q_prog_May_J1 (a0 : T_Prog) (i_1 : Bool) : Option (Bool) :=
  cond i_1 (
  some false) (
  po (q_slices_ContainsFunc_api_Fn_api_Fn_prog_May_1 a0.Fns) fun r6 =>
  some (!r6))
theorem q_prog_May_J1_le (a0 : T_Prog) (i_1 : Bool) : Le (q_prog_May_J1 a0 i_1) (p_prog_May_J1 a0 i_1) := by
  unfold q_prog_May_J1 p_prog_May_J1
  repeat' with_reducible first | (intro _) | apply q_slices_ContainsFunc_api_Fn_api_Fn_prog_May_1_le | apply Le.po | apply Le.cond | apply Le.pl | apply Le.pg | apply Le.pm | apply Le.pq | apply Le.lp | apply Le.itU | exact Le.refl _
noncomputable def q_prog_May (a0 : T_Prog) : Option (Bool) :=
  po (
  cond ((a0.Fns.length : Int) == 0) (
  some true) (
  cond (decide ((a0.Fns.length : Int) > 8)) (
  some true) (
  po (a0.Fns[0]?) fun x4 =>
  some (x4.Args != 0)))) (fun x => q_prog_May_J1 a0 x)
theorem q_prog_May_le (a0 : T_Prog) : Le (q_prog_May a0) (p_prog_May a0) := by
  unfold q_prog_May p_prog_May
  repeat' with_reducible first | (intro _) | apply q_prog_May_J1_le | apply Le.po | apply Le.cond | apply Le.pl | apply Le.pg | apply Le.pm | apply Le.pq | apply Le.lp | apply Le.itU | exact Le.refl _
noncomputable def q_slices_IndexFunc_api_Schema_api_Schema_verify_Shapes_1 (a0 : (List T_Schema)) : Option (Int) :=
  pm (
  itF (fun x => p_slices_IndexFunc_api_Schema_api_Schema_verify_Shapes_1_L2 a0 x) 0) (fun x => p_slices_IndexFunc_api_Schema_api_Schema_verify_Shapes_1_J1)
theorem q_slices_IndexFunc_api_Schema_api_Schema_verify_Shapes_1_le (a0 : (List T_Schema)) : Le (q_slices_IndexFunc_api_Schema_api_Schema_verify_Shapes_1 a0) (p_slices_IndexFunc_api_Schema_api_Schema_verify_Shapes_1 a0) := by
  unfold q_slices_IndexFunc_api_Schema_api_Schema_verify_Shapes_1 p_slices_IndexFunc_api_Schema_api_Schema_verify_Shapes_1
  repeat' with_reducible first | (intro _) | apply Le.po | apply Le.cond | apply Le.pl | apply Le.pg | apply Le.pm | apply Le.pq | apply Le.lp | apply Le.itU | exact Le.refl _
noncomputable def q_slices_ContainsFunc_api_Schema_api_Schema_verify_Shapes_1 (a0 : (List T_Schema)) : Option (Bool) :=
  po (q_slices_IndexFunc_api_Schema_api_Schema_verify_Shapes_1 a0) fun r1 =>
  some (decide (r1 ≥ 0))
theorem q_slices_ContainsFunc_api_Schema_api_Schema_verify_Shapes_1_le (a0 : (List T_Schema)) : Le (q_slices_ContainsFunc_api_Schema_api_Schema_verify_Shapes_1 a0) (p_slices_ContainsFunc_api_Schema_api_Schema_verify_Shapes_1 a0) := by
  unfold q_slices_ContainsFunc_api_Schema_api_Schema_verify_Shapes_1 p_slices_ContainsFunc_api_Schema_api_Schema_verify_Shapes_1
  repeat' with_reducible first | (intro _) | apply q_slices_IndexFunc_api_Schema_api_Schema_verify_Shapes_1_le | apply Le.po | apply Le.cond | apply Le.pl | apply Le.pg | apply Le.pm | apply Le.pq | apply Le.lp | apply Le.itU | exact Le.refl _
noncomputable def q_shape_New_J1 (a0 : Int) (i_1 : Bool) : Option (T_Shape × Bool) :=
  cond i_1 (
  some ((T_Shape.mk (A8.mk false false false false false false false false) (A8.mk (C128.mk 0 0) (C128.mk 0 0) (C128.mk 0 0) (C128.mk 0 0) (C128.mk 0 0) (C128.mk 0 0) (C128.mk 0 0) (C128.mk 0 0))), false)) (
  po (
  itF (fun x => p_shape_New_L5 a0 x.1 x.2) ((T_Shape.mk (A8.mk false false false false false false false false) (A8.mk (C128.mk 0 0) (C128.mk 0 0) (C128.mk 0 0) (C128.mk 0 0) (C128.mk 0 0) (C128.mk 0 0) (C128.mk 0 0) (C128.mk 0 0))), 0)) (fun x => p_shape_New_J4 x))
theorem q_shape_New_J1_le (a0 : Int) (i_1 : Bool) : Le (q_shape_New_J1 a0 i_1) (p_shape_New_J1 a0 i_1) := by
  unfold q_shape_New_J1 p_shape_New_J1
  repeat' with_reducible first | (intro _) | apply Le.po | apply Le.cond | apply Le.pl | apply Le.pg | apply Le.pm | apply Le.pq | apply Le.lp | apply Le.itU | exact Le.refl _
noncomputable def q_shape_New (a0 : Int) : Option (T_Shape × Bool) :=
  po (
  cond (decide (a0 < 0)) (
  some true) (
  some (decide (a0 > 4)))) (fun x => q_shape_New_J1 a0 x)
theorem q_shape_New_le (a0 : Int) : Le (q_shape_New a0) (p_shape_New a0) := by
  unfold q_shape_New p_shape_New
  repeat' with_reducible first | (intro _) | apply q_shape_New_J1_le | apply Le.po | apply Le.cond | apply Le.pl | apply Le.pg | apply Le.pm | apply Le.pq | apply Le.lp | apply Le.itU | exact Le.refl _
noncomputable def q_shape_May (a0 : T_Shape) : Option (Bool) :=
  pm (
  itF (fun x => p_shape_May_L2 a0 x.1 x.2) (a0, 0)) (fun x => p_shape_May_J1 a0 x)
theorem q_shape_May_le (a0 : T_Shape) : Le (q_shape_May a0) (p_shape_May a0) := by
  unfold q_shape_May p_shape_May
  repeat' with_reducible first | (intro _) | apply Le.po | apply Le.cond | apply Le.pl | apply Le.pg | apply Le.pm | apply Le.pq | apply Le.lp | apply Le.itU | exact Le.refl _
noncomputable def q_shape_Put (a0 : T_Shape) (a1 : Int) (a2 : C128) : Option (T_Shape) :=
  pm (
  po (q_shape_May a0) fun r2 =>
  cond (!r2) (
  some (Sum.inr (T_Shape.mk (A8.mk false false false false false false false false) (A8.mk (C128.mk 0 0) (C128.mk 0 0) (C128.mk 0 0) (C128.mk 0 0) (C128.mk 0 0) (C128.mk 0 0) (C128.mk 0 0) (C128.mk 0 0))))) (
  po (p_shape_in a1) fun r4 =>
  cond (!r4) (
  some (Sum.inr a0)) (
  po (p_bounds_May a2) fun r6 =>
  cond (!r6) (
  po (p_shape_all) fun r8 =>
  some (Sum.inl r8)) (
  some (Sum.inl a2))))) (fun x => p_shape_Put_J1 a0 a1 x)
theorem q_shape_Put_le (a0 : T_Shape) (a1 : Int) (a2 : C128) : Le (q_shape_Put a0 a1 a2) (p_shape_Put a0 a1 a2) := by
  unfold q_shape_Put p_shape_Put
  repeat' with_reducible first | (intro _) | apply q_shape_May_le | apply Le.po | apply Le.cond | apply Le.pl | apply Le.pg | apply Le.pm | apply Le.pq | apply Le.lp | apply Le.itU | exact Le.refl _
noncomputable def q_shape_Join_J10 (a0 : T_Shape) (a1 : T_Shape) (s_4 : T_Shape) (i_5 : Int) (i_6 : Bool) : Option (T_Shape) :=
  cond i_6 (
  pg (0 ≤ i_5 ∧ i_5 < 8) <|
  po (p_bounds_Join (a0.R.get i_5.toNat) (a1.R.get i_5.toNat)) fun r15 =>
  po (q_shape_Put s_4 i_5 r15) fun r16 =>
  some r16) (
  some s_4)
theorem q_shape_Join_J10_le (a0 : T_Shape) (a1 : T_Shape) (s_4 : T_Shape) (i_5 : Int) (i_6 : Bool) : Le (q_shape_Join_J10 a0 a1 s_4 i_5 i_6) (p_shape_Join_J10 a0 a1 s_4 i_5 i_6) := by
  unfold q_shape_Join_J10 p_shape_Join_J10
  repeat' with_reducible first | (intro _) | apply q_shape_Put_le | apply Le.po | apply Le.cond | apply Le.pl | apply Le.pg | apply Le.pm | apply Le.pq | apply Le.lp | apply Le.itU | exact Le.refl _
noncomputable def q_shape_Join_L7 (a0 : T_Shape) (a1 : T_Shape) (s_4 : T_Shape) (i_5 : Int) : Option ((T_Shape × Int) ⊕ (T_Shape)) :=
  cond (decide (i_5 < 8)) (
  po (
  po (
  pg (0 ≤ i_5 ∧ i_5 < 8) <|
  cond (a0.Set.get i_5.toNat) (
  some (a1.Set.get i_5.toNat)) (
  some false)) (fun x => q_shape_Join_J10 a0 a1 s_4 i_5 x)) (fun x => p_shape_Join_J9 i_5 x)) (
  some (Sum.inr s_4))
theorem q_shape_Join_L7_le (a0 : T_Shape) (a1 : T_Shape) (s_4 : T_Shape) (i_5 : Int) : Le (q_shape_Join_L7 a0 a1 s_4 i_5) (p_shape_Join_L7 a0 a1 s_4 i_5) := by
  unfold q_shape_Join_L7 p_shape_Join_L7
  repeat' with_reducible first | (intro _) | apply q_shape_Join_J10_le | apply Le.po | apply Le.cond | apply Le.pl | apply Le.pg | apply Le.pm | apply Le.pq | apply Le.lp | apply Le.itU | exact Le.refl _
noncomputable def q_shape_Join_J1 (a0 : T_Shape) (a1 : T_Shape) (i_1 : Bool) : Option (T_Shape) :=
  cond i_1 (
  some (T_Shape.mk (A8.mk false false false false false false false false) (A8.mk (C128.mk 0 0) (C128.mk 0 0) (C128.mk 0 0) (C128.mk 0 0) (C128.mk 0 0) (C128.mk 0 0) (C128.mk 0 0) (C128.mk 0 0)))) (
  po (
  itF (fun x => q_shape_Join_L7 a0 a1 x.1 x.2) ((T_Shape.mk (A8.mk false false false false false false false false) (A8.mk (C128.mk 0 0) (C128.mk 0 0) (C128.mk 0 0) (C128.mk 0 0) (C128.mk 0 0) (C128.mk 0 0) (C128.mk 0 0) (C128.mk 0 0))), 0)) (fun x => p_shape_Join_J6 x))
theorem q_shape_Join_J1_le (a0 : T_Shape) (a1 : T_Shape) (i_1 : Bool) : Le (q_shape_Join_J1 a0 a1 i_1) (p_shape_Join_J1 a0 a1 i_1) := by
  unfold q_shape_Join_J1 p_shape_Join_J1
  repeat' with_reducible first | (intro _) | apply q_shape_Join_L7_le | apply Le.po | apply Le.cond | apply Le.pl | apply Le.pg | apply Le.pm | apply Le.pq | apply Le.lp | apply Le.itU | exact Le.refl _
noncomputable def q_shape_Join (a0 : T_Shape) (a1 : T_Shape) : Option (T_Shape) :=
  po (
  po (q_shape_May a0) fun r2 =>
  cond r2 (
  po (q_shape_May a1) fun r4 =>
  some (!r4)) (
  some true)) (fun x => q_shape_Join_J1 a0 a1 x)
theorem q_shape_Join_le (a0 : T_Shape) (a1 : T_Shape) : Le (q_shape_Join a0 a1) (p_shape_Join a0 a1) := by
  unfold q_shape_Join p_shape_Join
  repeat' with_reducible first | (intro _) | apply q_shape_May_le | apply q_shape_Join_J1_le | apply Le.po | apply Le.cond | apply Le.pl | apply Le.pg | apply Le.pm | apply Le.pq | apply Le.lp | apply Le.itU | exact Le.refl _
noncomputable def q_verify_work_to (a0 : T_verify_work) (a1 : Int) (a2 : T_Shape) : Option (T_verify_work) :=
  cond (decide (a1 ≥ (a0.in_.length : Int))) (
  some (T_verify_work.mk a0.p a0.fn a0.l a0.in_ a0.is a0.at_ false)) (
  po (idx a0.is a1) fun x2 =>
  cond x2 (
  po (idx a0.in_ a1) fun x4 =>
  po (q_shape_Join x4 a2) fun r5 =>
  pl (a0.in_.set a1.toNat r5) fun y6 =>
  some (T_verify_work.mk a0.p a0.fn a0.l y6 a0.is a0.at_ a0.safe)) (
  po (idx a0.in_ a1) fun x7 =>
  pl (a0.in_.set a1.toNat a2) fun y8 =>
  pl (a0.is.set a1.toNat true) fun y9 =>
  some (T_verify_work.mk a0.p a0.fn a0.l y8 y9 a0.at_ a0.safe)))
theorem q_verify_work_to_le (a0 : T_verify_work) (a1 : Int) (a2 : T_Shape) : Le (q_verify_work_to a0 a1 a2) (p_verify_work_to a0 a1 a2) := by
  unfold q_verify_work_to p_verify_work_to
  repeat' with_reducible first | (intro _) | apply q_shape_Join_le | apply Le.po | apply Le.cond | apply Le.pl | apply Le.pg | apply Le.pm | apply Le.pq | apply Le.lp | apply Le.itU | exact Le.refl _
noncomputable def q_shape_Get (a0 : T_Shape) (a1 : Int) : Option (C128 × Bool) :=
  po (
  po (q_shape_May a0) fun r2 =>
  cond r2 (
  po (p_shape_in a1) fun r4 =>
  cond r4 (
  pg (0 ≤ a1 ∧ a1 < 8) <|
  some (!(a0.Set.get a1.toNat))) (
  some true)) (
  some true)) (fun x => p_shape_Get_J1 a0 a1 x)
theorem q_shape_Get_le (a0 : T_Shape) (a1 : Int) : Le (q_shape_Get a0 a1) (p_shape_Get a0 a1) := by
  unfold q_shape_Get p_shape_Get
  repeat' with_reducible first | (intro _) | apply q_shape_May_le | apply Le.po | apply Le.cond | apply Le.pl | apply Le.pg | apply Le.pm | apply Le.pq | apply Le.lp | apply Le.itU | exact Le.refl _
noncomputable def q_shape_Word_J1 (a0 : T_Shape) (a1 : T_Inst) (i_1 : Bool) : Option (C128 × Bool) :=
  cond i_1 (
  some ((C128.mk 0 0), false)) (
  cond a1.Reg (
  po (q_shape_Get a0 a1.Src) fun r7 =>
  some (r7.1, r7.2)) (
  po (p_bounds_Of a1.Imm a1.Imm) fun r8 =>
  some (r8, true)))
theorem q_shape_Word_J1_le (a0 : T_Shape) (a1 : T_Inst) (i_1 : Bool) : Le (q_shape_Word_J1 a0 a1 i_1) (p_shape_Word_J1 a0 a1 i_1) := by
  unfold q_shape_Word_J1 p_shape_Word_J1
  repeat' with_reducible first | (intro _) | apply q_shape_Get_le | apply Le.po | apply Le.cond | apply Le.pl | apply Le.pg | apply Le.pm | apply Le.pq | apply Le.lp | apply Le.itU | exact Le.refl _
noncomputable def q_shape_Word (a0 : T_Shape) (a1 : T_Inst) : Option (C128 × Bool) :=
  po (
  po (q_shape_May a0) fun r2 =>
  cond (!r2) (
  some (!r2)) (
  po (p_inst_May a1) fun r4 =>
  some (!r4))) (fun x => q_shape_Word_J1 a0 a1 x)
theorem q_shape_Word_le (a0 : T_Shape) (a1 : T_Inst) : Le (q_shape_Word a0 a1) (p_shape_Word a0 a1) := by
  unfold q_shape_Word p_shape_Word
  repeat' with_reducible first | (intro _) | apply q_shape_May_le | apply q_shape_Word_J1_le | apply Le.po | apply Le.cond | apply Le.pl | apply Le.pg | apply Le.pm | apply Le.pq | apply Le.lp | apply Le.itU | exact Le.refl _
noncomputable def q_verify_work_word (a0 : T_verify_work) (a1 : T_Inst) : Option (C128 × T_verify_work) :=
  po (p_verify_work_here a0) fun r1 =>
  pg (r1.2 = a0) <|
  po (q_shape_Word r1.1 a1) fun r3 =>
  po (
  cond a0.safe (
  some (T_verify_work.mk a0.p a0.fn a0.l a0.in_ a0.is a0.at_ r3.2)) (
  some (T_verify_work.mk a0.p a0.fn a0.l a0.in_ a0.is a0.at_ false))) (fun x => p_verify_work_word_J4 r3 x)
theorem q_verify_work_word_le (a0 : T_verify_work) (a1 : T_Inst) : Le (q_verify_work_word a0 a1) (p_verify_work_word a0 a1) := by
  unfold q_verify_work_word p_verify_work_word
  repeat' with_reducible first | (intro _) | apply q_shape_Word_le | apply Le.po | apply Le.cond | apply Le.pl | apply Le.pg | apply Le.pm | apply Le.pq | apply Le.lp | apply Le.itU | exact Le.refl _
noncomputable def q_verify_work_then (a0 : T_verify_work) (a1 : T_Shape) : Option (T_verify_work) :=
  cond a0.safe (
  po (q_verify_work_to a0 (IntKind.i64.wrap (a0.at_ + 1)) a1) fun r2 =>
  some r2) (
  some a0)
theorem q_verify_work_then_le (a0 : T_verify_work) (a1 : T_Shape) : Le (q_verify_work_then a0 a1) (p_verify_work_then a0 a1) := by
  unfold q_verify_work_then p_verify_work_then
  repeat' with_reducible first | (intro _) | apply q_verify_work_to_le | apply Le.po | apply Le.cond | apply Le.pl | apply Le.pg | apply Le.pm | apply Le.pq | apply Le.lp | apply Le.itU | exact Le.refl _
noncomputable def q_verify_work_put (a0 : T_verify_work) (a1 : Int) (a2 : C128) : Option (T_verify_work) :=
  po (p_verify_work_here a0) fun r1 =>
  pg (r1.2 = a0) <|
  po (q_shape_Put r1.1 a1 a2) fun r3 =>
  po (q_verify_work_then a0 r3) fun r4 =>
  some r4
theorem q_verify_work_put_le (a0 : T_verify_work) (a1 : Int) (a2 : C128) : Le (q_verify_work_put a0 a1 a2) (p_verify_work_put a0 a1 a2) := by
  unfold q_verify_work_put p_verify_work_put
  repeat' with_reducible first | (intro _) | apply q_shape_Put_le | apply q_verify_work_then_le | apply Le.po | apply Le.cond | apply Le.pl | apply Le.pg | apply Le.pm | apply Le.pq | apply Le.lp | apply Le.itU | exact Le.refl _
noncomputable def q_verify_work_ctx (a0 : T_verify_work) (a1 : T_Inst) : Option (T_verify_work) :=
  po (q_verify_work_word a0 a1) fun r1 =>
  po (p_verify_work_within r1.2 r1.1 4) fun r2 =>
  po (p_bounds_Of 0 4294967295) fun r3 =>
  po (q_verify_work_put r2 a1.Dst r3) fun r4 =>
  some r4
theorem q_verify_work_ctx_le (a0 : T_verify_work) (a1 : T_Inst) : Le (q_verify_work_ctx a0 a1) (p_verify_work_ctx a0 a1) := by
  unfold q_verify_work_ctx p_verify_work_ctx
  repeat' with_reducible first | (intro _) | apply q_verify_work_word_le | apply q_verify_work_put_le | apply Le.po | apply Le.cond | apply Le.pl | apply Le.pg | apply Le.pm | apply Le.pq | apply Le.lp | apply Le.itU | exact Le.refl _
noncomputable def q_verify_work_get (a0 : T_verify_work) (a1 : Int) : Option (C128 × T_verify_work) :=
  po (p_verify_work_here a0) fun r1 =>
  pg (r1.2 = a0) <|
  po (q_shape_Get r1.1 a1) fun r3 =>
  po (
  cond a0.safe (
  some (T_verify_work.mk a0.p a0.fn a0.l a0.in_ a0.is a0.at_ r3.2)) (
  some (T_verify_work.mk a0.p a0.fn a0.l a0.in_ a0.is a0.at_ false))) (fun x => p_verify_work_get_J4 r3 x)
theorem q_verify_work_get_le (a0 : T_verify_work) (a1 : Int) : Le (q_verify_work_get a0 a1) (p_verify_work_get a0 a1) := by
  unfold q_verify_work_get p_verify_work_get
  repeat' with_reducible first | (intro _) | apply q_shape_Get_le | apply Le.po | apply Le.cond | apply Le.pl | apply Le.pg | apply Le.pm | apply Le.pq | apply Le.lp | apply Le.itU | exact Le.refl _
noncomputable def q_verify_work_exit (a0 : T_verify_work) (a1 : T_Inst) : Option (T_verify_work) :=
  po (q_verify_work_get a0 0) fun r1 =>
  some r1.2
theorem q_verify_work_exit_le (a0 : T_verify_work) (a1 : T_Inst) : Le (q_verify_work_exit a0 a1) (p_verify_work_exit a0 a1) := by
  unfold q_verify_work_exit p_verify_work_exit
  repeat' with_reducible first | (intro _) | apply q_verify_work_get_le | apply Le.po | apply Le.cond | apply Le.pl | apply Le.pg | apply Le.pm | apply Le.pq | apply Le.lp | apply Le.itU | exact Le.refl _
noncomputable def q_verify_Shapes_L20 (x10 : T_Fn) (s_4 : T_verify_work) (i_5 : Int) : Option ((T_verify_work × Int) ⊕ ((T_verify_work) ⊕ ((List T_Shape) × (List Bool) × Int))) :=
  cond (decide (i_5 < (x10.Code.length : Int))) (
  po (idx x10.Code i_5) fun x22 =>
  po (
  po (idx s_4.is i_5) fun x24 =>
  cond x24 (
  cond (x22.Op == 0) (
  po (p_verify_work_alu (T_verify_work.mk s_4.p s_4.fn s_4.l s_4.in_ s_4.is i_5 s_4.safe) x22) fun r27 =>
  some r27) (
  cond (x22.Op == 1) (
  po (p_verify_work_jump (T_verify_work.mk s_4.p s_4.fn s_4.l s_4.in_ s_4.is i_5 s_4.safe) x22) fun r29 =>
  some r29) (
  cond (x22.Op == 2) (
  po (q_verify_work_ctx (T_verify_work.mk s_4.p s_4.fn s_4.l s_4.in_ s_4.is i_5 s_4.safe) x22) fun r31 =>
  some r31) (
  cond (x22.Op == 3) (
  po (p_verify_work_load (T_verify_work.mk s_4.p s_4.fn s_4.l s_4.in_ s_4.is i_5 s_4.safe) x22) fun r33 =>
  some r33) (
  cond (x22.Op == 4) (
  po (p_verify_work_store (T_verify_work.mk s_4.p s_4.fn s_4.l s_4.in_ s_4.is i_5 s_4.safe) x22) fun r35 =>
  some r35) (
  cond (x22.Op == 5) (
  po (p_verify_work_help (T_verify_work.mk s_4.p s_4.fn s_4.l s_4.in_ s_4.is i_5 s_4.safe) x22) fun r37 =>
  some r37) (
  cond (x22.Op == 6) (
  po (p_verify_work_call (T_verify_work.mk s_4.p s_4.fn s_4.l s_4.in_ s_4.is i_5 s_4.safe) x22) fun r39 =>
  some r39) (
  cond (x22.Op == 7) (
  po (q_verify_work_exit (T_verify_work.mk s_4.p s_4.fn s_4.l s_4.in_ s_4.is i_5 s_4.safe) x22) fun r41 =>
  some r41) (
  none))))))))) (
  some (T_verify_work.mk s_4.p s_4.fn s_4.l s_4.in_ s_4.is i_5 s_4.safe))) (fun x => p_verify_Shapes_J23 i_5 x)) (
  some (Sum.inr (Sum.inl s_4)))
theorem q_verify_Shapes_L20_le (x10 : T_Fn) (s_4 : T_verify_work) (i_5 : Int) : Le (q_verify_Shapes_L20 x10 s_4 i_5) (p_verify_Shapes_L20 x10 s_4 i_5) := by
  unfold q_verify_Shapes_L20 p_verify_Shapes_L20
  repeat' with_reducible first | (intro _) | apply q_verify_work_ctx_le | apply q_verify_work_exit_le | apply Le.po | apply Le.cond | apply Le.pl | apply Le.pg | apply Le.pm | apply Le.pq | apply Le.lp | apply Le.itU | exact Le.refl _
noncomputable def q_verify_Shapes_J7 (a0 : T_Prog) (a1 : Int) (a2 : (List T_Schema)) (i_2 : Bool) : Option ((List T_Shape) × (List Bool) × Int) :=
  cond i_2 (
  some ([], [], 3)) (
  po (idx a0.Fns a1) fun x10 =>
  pg (0 ≤ (x10.Code.length : Int) ∧ 136 * (x10.Code.length : Int) ≤ 140737488355328) <|
  pl (List.replicate x10.Code.length (T_Shape.mk (A8.mk false false false false false false false false) (A8.mk (C128.mk 0 0) (C128.mk 0 0) (C128.mk 0 0) (C128.mk 0 0) (C128.mk 0 0) (C128.mk 0 0) (C128.mk 0 0) (C128.mk 0 0)))) fun y12 =>
  pg (0 ≤ (x10.Code.length : Int) ∧ 1 * (x10.Code.length : Int) ≤ 140737488355328) <|
  pl (List.replicate x10.Code.length false) fun y14 =>
  po (q_shape_New x10.Args) fun r15 =>
  po (q_verify_work_to (T_verify_work.mk a0 a1 a2 y12 y14 0 true) 0 r15.1) fun r16 =>
  po (some ()) fun r18 =>
  pm (
  itF (fun x => q_verify_Shapes_L20 x10 x.1 x.2) (r16, 0)) (fun x => p_verify_Shapes_J19 x))
theorem q_verify_Shapes_J7_le (a0 : T_Prog) (a1 : Int) (a2 : (List T_Schema)) (i_2 : Bool) : Le (q_verify_Shapes_J7 a0 a1 a2 i_2) (p_verify_Shapes_J7 a0 a1 a2 i_2) := by
  unfold q_verify_Shapes_J7 p_verify_Shapes_J7
  repeat' with_reducible first | (intro _) | apply q_shape_New_le | apply q_verify_work_to_le | apply q_verify_Shapes_L20_le | apply Le.po | apply Le.cond | apply Le.pl | apply Le.pg | apply Le.pm | apply Le.pq | apply Le.lp | apply Le.itU | exact Le.refl _
noncomputable def q_verify_Shapes_J1 (a0 : T_Prog) (a1 : Int) (a2 : (List T_Schema)) (i_1 : Bool) : Option ((List T_Shape) × (List Bool) × Int) :=
  cond i_1 (
  some ([], [], 1)) (
  po (
  cond (decide (a1 < 0)) (
  some (decide (a1 < 0))) (
  some (decide (a1 ≥ (a0.Fns.length : Int))))) (fun x => q_verify_Shapes_J7 a0 a1 a2 x))
theorem q_verify_Shapes_J1_le (a0 : T_Prog) (a1 : Int) (a2 : (List T_Schema)) (i_1 : Bool) : Le (q_verify_Shapes_J1 a0 a1 a2 i_1) (p_verify_Shapes_J1 a0 a1 a2 i_1) := by
  unfold q_verify_Shapes_J1 p_verify_Shapes_J1
  repeat' with_reducible first | (intro _) | apply q_verify_Shapes_J7_le | apply Le.po | apply Le.cond | apply Le.pl | apply Le.pg | apply Le.pm | apply Le.pq | apply Le.lp | apply Le.itU | exact Le.refl _
noncomputable def q_verify_Shapes (a0 : T_Prog) (a1 : Int) (a2 : (List T_Schema)) : Option ((List T_Shape) × (List Bool) × Int) :=
  po (
  po (q_prog_May a0) fun r2 =>
  cond (!r2) (
  some (!r2)) (
  cond (decide ((a2.length : Int) > 4)) (
  some (decide ((a2.length : Int) > 4))) (
  po (q_slices_ContainsFunc_api_Schema_api_Schema_verify_Shapes_1 a2) fun r5 =>
  some r5))) (fun x => q_verify_Shapes_J1 a0 a1 a2 x)
theorem q_verify_Shapes_le (a0 : T_Prog) (a1 : Int) (a2 : (List T_Schema)) : Le (q_verify_Shapes a0 a1 a2) (p_verify_Shapes a0 a1 a2) := by
  unfold q_verify_Shapes p_verify_Shapes
  repeat' with_reducible first | (intro _) | apply q_prog_May_le | apply q_slices_ContainsFunc_api_Schema_api_Schema_verify_Shapes_1_le | apply q_verify_Shapes_J1_le | apply Le.po | apply Le.cond | apply Le.pl | apply Le.pg | apply Le.pm | apply Le.pq | apply Le.lp | apply Le.itU | exact Le.refl _
noncomputable def q_verify_inside (a0 : T_Prog) (a1 : Int) : Option (Bool) :=
  po (idx a0.Fns a1) fun x1 =>
  pm (
  itF (fun x => p_verify_inside_L3 a0 x1 x) 0) (fun x => p_verify_inside_J2)
theorem q_verify_inside_le (a0 : T_Prog) (a1 : Int) : Le (q_verify_inside a0 a1) (p_verify_inside a0 a1) := by
  unfold q_verify_inside p_verify_inside
  repeat' with_reducible first | (intro _) | apply Le.po | apply Le.cond | apply Le.pl | apply Le.pg | apply Le.pm | apply Le.pq | apply Le.lp | apply Le.itU | exact Le.refl _
noncomputable def q_verify_Verify_L2 (a0 : T_Prog) (a1 : (List T_Schema)) (i_1 : Int) : Option ((Int) ⊕ ((Unit) ⊕ (Int × Int))) :=
  cond (decide (i_1 < (maxI 1 (a0.Fns.length : Int)))) (
  po (q_verify_Shapes a0 i_1 a1) fun r4 =>
  cond (r4.2.2 != 0) (
  some (Sum.inr (Sum.inr (0, r4.2.2)))) (
  po (q_verify_inside a0 i_1) fun r6 =>
  cond (!r6) (
  some (Sum.inr (Sum.inr (0, 8)))) (
  some (Sum.inl (IntKind.i64.wrap (i_1 + 1)))))) (
  some (Sum.inr (Sum.inl ())))
theorem q_verify_Verify_L2_le (a0 : T_Prog) (a1 : (List T_Schema)) (i_1 : Int) : Le (q_verify_Verify_L2 a0 a1 i_1) (p_verify_Verify_L2 a0 a1 i_1) := by
  unfold q_verify_Verify_L2 p_verify_Verify_L2
  repeat' with_reducible first | (intro _) | apply q_verify_Shapes_le | apply q_verify_inside_le | apply Le.po | apply Le.cond | apply Le.pl | apply Le.pg | apply Le.pm | apply Le.pq | apply Le.lp | apply Le.itU | exact Le.refl _
noncomputable def q_slices_IndexFunc_api_Inst_api_Inst_course_may_1 (a0 : (List T_Inst)) : Option (Int) :=
  pm (
  itF (fun x => p_slices_IndexFunc_api_Inst_api_Inst_course_may_1_L2 a0 x) 0) (fun x => p_slices_IndexFunc_api_Inst_api_Inst_course_may_1_J1)
theorem q_slices_IndexFunc_api_Inst_api_Inst_course_may_1_le (a0 : (List T_Inst)) : Le (q_slices_IndexFunc_api_Inst_api_Inst_course_may_1 a0) (p_slices_IndexFunc_api_Inst_api_Inst_course_may_1 a0) := by
  unfold q_slices_IndexFunc_api_Inst_api_Inst_course_may_1 p_slices_IndexFunc_api_Inst_api_Inst_course_may_1
  repeat' with_reducible first | (intro _) | apply Le.po | apply Le.cond | apply Le.pl | apply Le.pg | apply Le.pm | apply Le.pq | apply Le.lp | apply Le.itU | exact Le.refl _
noncomputable def q_slices_ContainsFunc_api_Inst_api_Inst_course_may_1 (a0 : (List T_Inst)) : Option (Bool) :=
  po (q_slices_IndexFunc_api_Inst_api_Inst_course_may_1 a0) fun r1 =>
  some (decide (r1 ≥ 0))
theorem q_slices_ContainsFunc_api_Inst_api_Inst_course_may_1_le (a0 : (List T_Inst)) : Le (q_slices_ContainsFunc_api_Inst_api_Inst_course_may_1 a0) (p_slices_ContainsFunc_api_Inst_api_Inst_course_may_1 a0) := by
  unfold q_slices_ContainsFunc_api_Inst_api_Inst_course_may_1 p_slices_ContainsFunc_api_Inst_api_Inst_course_may_1
  repeat' with_reducible first | (intro _) | apply q_slices_IndexFunc_api_Inst_api_Inst_course_may_1_le | apply Le.po | apply Le.cond | apply Le.pl | apply Le.pg | apply Le.pm | apply Le.pq | apply Le.lp | apply Le.itU | exact Le.refl _
noncomputable def q_course_may (a0 : (List T_Inst)) : Option (Bool) :=
  po (
  cond (decide ((a0.length : Int) > 0)) (
  cond (decide ((a0.length : Int) ≤ 64)) (
  po (q_slices_ContainsFunc_api_Inst_api_Inst_course_may_1 a0) fun r4 =>
  some (!r4)) (
  some false)) (
  some false)) (fun x => p_course_may_J1 x)
theorem q_course_may_le (a0 : (List T_Inst)) : Le (q_course_may a0) (p_course_may a0) := by
  unfold q_course_may p_course_may
  repeat' with_reducible first | (intro _) | apply q_slices_ContainsFunc_api_Inst_api_Inst_course_may_1_le | apply Le.po | apply Le.cond | apply Le.pl | apply Le.pg | apply Le.pm | apply Le.pq | apply Le.lp | apply Le.itU | exact Le.refl _
noncomputable def q_course_Longest_L3 (a0 : (List T_Inst)) (a1 : (List Int)) (w_27 : (AN 65)) (i_28 : Int) : Option (((AN 65) × Int) ⊕ (Int)) :=
  po (
  po (p_course_next a0 i_28) fun r5 =>
  itF (fun x => p_course_Longest_L6 a0 w_27 r5 x.1 x.2.1 x.2.2) (0, r5, 0)) (fun x => p_course_Longest_J4 a0 a1 w_27 i_28 x)
theorem q_course_Longest_L3_le (a0 : (List T_Inst)) (a1 : (List Int)) (w_27 : (AN 65)) (i_28 : Int) : Le (q_course_Longest_L3 a0 a1 w_27 i_28) (p_course_Longest_L3 a0 a1 w_27 i_28) := by
  unfold q_course_Longest_L3 p_course_Longest_L3
  repeat' with_reducible first | (intro _) | apply Le.po | apply Le.cond | apply Le.pl | apply Le.pg | apply Le.pm | apply Le.pq | apply Le.lp | apply Le.itU | exact Le.refl _
noncomputable def q_course_Longest (a0 : (List T_Inst)) (a1 : (List Int)) : Option (Int) :=
  po (q_course_may a0) fun r1 =>
  cond (!r1) (
  some 0) (
  itF (fun x => q_course_Longest_L3 a0 a1 x.1 x.2) ((AN.zero 65), (IntKind.i64.wrap ((a0.length : Int) - 1))))
theorem q_course_Longest_le (a0 : (List T_Inst)) (a1 : (List Int)) : Le (q_course_Longest a0 a1) (p_course_Longest a0 a1) := by
  unfold q_course_Longest p_course_Longest
  repeat' with_reducible first | (intro _) | apply q_course_may_le | apply q_course_Longest_L3_le | apply Le.po | apply Le.cond | apply Le.pl | apply Le.pg | apply Le.pm | apply Le.pq | apply Le.lp | apply Le.itU | exact Le.refl _
noncomputable def q_course_Budget_L7 (a0 : T_Prog) (l_4 : (List Int)) (u6 : Int) : Option (((List Int)) ⊕ (Unit)) :=
  po (idx a0.Fns u6) fun x8 =>
  po (q_course_Longest x8.Code l_4) fun r9 =>
  po (idx l_4 u6) fun x10 =>
  pl (l_4.set u6.toNat r9) fun y11 =>
  some (Sum.inl y11)
theorem q_course_Budget_L7_le (a0 : T_Prog) (l_4 : (List Int)) (u6 : Int) : Le (q_course_Budget_L7 a0 l_4 u6) (p_course_Budget_L7 a0 l_4 u6) := by
  unfold q_course_Budget_L7 p_course_Budget_L7
  repeat' with_reducible first | (intro _) | apply q_course_Longest_le | apply Le.po | apply Le.cond | apply Le.pl | apply Le.pg | apply Le.pm | apply Le.pq | apply Le.lp | apply Le.itU | exact Le.refl _
noncomputable def q_course_Budget (a0 : T_Prog) : Option (Int) :=
  po (q_prog_May a0) fun r1 =>
  cond (!r1) (
  some 0) (
  pg (0 ≤ (a0.Fns.length : Int) ∧ 8 * (a0.Fns.length : Int) ≤ 140737488355328) <|
  pl (List.replicate a0.Fns.length 0) fun y4 =>
  po (
  pq (itU (fun x u => q_course_Budget_L7 a0 x u) (backL a0.Fns) y4) (fun x => p_course_Budget_K7 x) (fun _ => none)) (fun x => p_course_Budget_J5 x))
theorem q_course_Budget_le (a0 : T_Prog) : Le (q_course_Budget a0) (p_course_Budget a0) := by
  unfold q_course_Budget p_course_Budget
  repeat' with_reducible first | (intro _) | apply q_prog_May_le | apply q_course_Budget_L7_le | apply Le.po | apply Le.cond | apply Le.pl | apply Le.pg | apply Le.pm | apply Le.pq | apply Le.lp | apply Le.itU | exact Le.refl _
noncomputable def q_verify_Verify_J1 (a0 : T_Prog) : Option (Int × Int) :=
  po (q_course_Budget a0) fun r8 =>
  cond (decide (r8 > 2000)) (
  some (0, 2)) (
  some (r8, 0))
theorem q_verify_Verify_J1_le (a0 : T_Prog) : Le (q_verify_Verify_J1 a0) (p_verify_Verify_J1 a0) := by
  unfold q_verify_Verify_J1 p_verify_Verify_J1
  repeat' with_reducible first | (intro _) | apply q_course_Budget_le | apply Le.po | apply Le.cond | apply Le.pl | apply Le.pg | apply Le.pm | apply Le.pq | apply Le.lp | apply Le.itU | exact Le.refl _
noncomputable def q_verify_Verify (a0 : T_Prog) (a1 : (List T_Schema)) : Option (Int × Int) :=
  pm (
  itF (fun x => q_verify_Verify_L2 a0 a1 x) 0) (fun x => q_verify_Verify_J1 a0)
theorem q_verify_Verify_le (a0 : T_Prog) (a1 : (List T_Schema)) : Le (q_verify_Verify a0 a1) (p_verify_Verify a0 a1) := by
  unfold q_verify_Verify p_verify_Verify
  repeat' with_reducible first | (intro _) | apply q_verify_Verify_L2_le | apply q_verify_Verify_J1_le | apply Le.po | apply Le.cond | apply Le.pl | apply Le.pg | apply Le.pm | apply Le.pq | apply Le.lp | apply Le.itU | exact Le.refl _
noncomputable def q_interp_Call_L3 (r1 : (List T_Table)) (s_18 : T_Env) (i_19 : Int) : Option ((T_Env × Int) ⊕ (T_Env)) :=
  cond (decide (i_19 < (r1.length : Int))) (
  po (
  po (idx s_18.T i_19) fun x6 =>
  po (p_slices_Clone_api_Entry_api_Entry x6.E) fun r7 =>
  po (
  itF (fun x => p_interp_Call_L9 r7 x.1 x.2.1 x.2.2) (s_18, (T_Table.mk x6.S r7 x6.Next), 0)) (fun x => p_interp_Call_J8 i_19 x.1 x.2)) (fun x => p_interp_Call_J5 i_19 x)) (
  some (Sum.inr s_18))
theorem q_interp_Call_L3_le (r1 : (List T_Table)) (s_18 : T_Env) (i_19 : Int) : Le (q_interp_Call_L3 r1 s_18 i_19) (p_interp_Call_L3 r1 s_18 i_19) := by
  unfold q_interp_Call_L3 p_interp_Call_L3
  repeat' with_reducible first | (intro _) | apply Le.po | apply Le.cond | apply Le.pl | apply Le.pg | apply Le.pm | apply Le.pq | apply Le.lp | apply Le.itU | exact Le.refl _
noncomputable def q_interp_run_frame_J1 (a1 : Int) (s_7 : T_interp_run) (s_8 : T_interp_frame) : Option (UInt32 × T_interp_run) :=
  po (idx s_7.p.Fns a1) fun x6 =>
  po (
  itF (fun x => p_interp_run_frame_L8 x6 x.1 x.2) (s_7, s_8)) (fun x => p_interp_run_frame_J7 x.1 x.2)
theorem q_interp_run_frame_J1_le (a1 : Int) (s_7 : T_interp_run) (s_8 : T_interp_frame) : Le (q_interp_run_frame_J1 a1 s_7 s_8) (p_interp_run_frame_J1 a1 s_7 s_8) := by
  unfold q_interp_run_frame_J1 p_interp_run_frame_J1
  repeat' with_reducible first | (intro _) | apply Le.po | apply Le.cond | apply Le.pl | apply Le.pg | apply Le.pm | apply Le.pq | apply Le.lp | apply Le.itU | exact Le.refl _
noncomputable def q_interp_run_frame (a0 : T_interp_run) (a1 : Int) (a2 : (List UInt32)) : Option (UInt32 × T_interp_run) :=
  po (
  itF (fun x => p_interp_run_frame_L2 a2 x.1 x.2.1 x.2.2) (a0, (T_interp_frame.mk a1 0 (A8.mk 0 0 0 0 0 0 0 0) (A8.mk false false false false false false false false) (A16.mk 0 0 0 0 0 0 0 0 0 0 0 0 0 0 0 0) false), 0)) (fun x => q_interp_run_frame_J1 a1 x.1 x.2)
theorem q_interp_run_frame_le (a0 : T_interp_run) (a1 : Int) (a2 : (List UInt32)) : Le (q_interp_run_frame a0 a1 a2) (p_interp_run_frame a0 a1 a2) := by
  unfold q_interp_run_frame p_interp_run_frame
  repeat' with_reducible first | (intro _) | apply q_interp_run_frame_J1_le | apply Le.po | apply Le.cond | apply Le.pl | apply Le.pg | apply Le.pm | apply Le.pq | apply Le.lp | apply Le.itU | exact Le.refl _
noncomputable def q_interp_Call_J21 (a0 : T_Prog) (a1 : Int) (a3 : Int) (a4 : (List UInt32)) (s_58 : T_Env) (i_59 : Bool) : Option (T_Ran) :=
  cond i_59 (
  some (T_Ran.mk 0 s_58 0 3)) (
  po (q_interp_run_frame (T_interp_run.mk a0 s_58 a3 0 0) a1 a4) fun r26 =>
  po (
  cond (r26.2.err != 0) (
  some 0) (
  some r26.1)) (fun x => p_interp_Call_J27 r26 x))
theorem q_interp_Call_J21_le (a0 : T_Prog) (a1 : Int) (a3 : Int) (a4 : (List UInt32)) (s_58 : T_Env) (i_59 : Bool) : Le (q_interp_Call_J21 a0 a1 a3 a4 s_58 i_59) (p_interp_Call_J21 a0 a1 a3 a4 s_58 i_59) := by
  unfold q_interp_Call_J21 p_interp_Call_J21
  repeat' with_reducible first | (intro _) | apply q_interp_run_frame_le | apply Le.po | apply Le.cond | apply Le.pl | apply Le.pg | apply Le.pm | apply Le.pq | apply Le.lp | apply Le.itU | exact Le.refl _
noncomputable def q_interp_Call_J16 (a0 : T_Prog) (a1 : Int) (a3 : Int) (a4 : (List UInt32)) (s_56 : T_Env) (i_57 : Bool) : Option (T_Ran) :=
  cond i_57 (
  some (T_Ran.mk 0 s_56 0 1)) (
  po (
  cond (decide (a1 < 0)) (
  some (s_56, (decide (a1 < 0)))) (
  cond (decide (a1 ≥ (a0.Fns.length : Int))) (
  some (s_56, (decide (a1 ≥ (a0.Fns.length : Int))))) (
  po (idx a0.Fns a1) fun x24 =>
  some (s_56, ((a4.length : Int) != x24.Args))))) (fun x => q_interp_Call_J21 a0 a1 a3 a4 x.1 x.2))
theorem q_interp_Call_J16_le (a0 : T_Prog) (a1 : Int) (a3 : Int) (a4 : (List UInt32)) (s_56 : T_Env) (i_57 : Bool) : Le (q_interp_Call_J16 a0 a1 a3 a4 s_56 i_57) (p_interp_Call_J16 a0 a1 a3 a4 s_56 i_57) := by
  unfold q_interp_Call_J16 p_interp_Call_J16
  repeat' with_reducible first | (intro _) | apply q_interp_Call_J21_le | apply Le.po | apply Le.cond | apply Le.pl | apply Le.pg | apply Le.pm | apply Le.pq | apply Le.lp | apply Le.itU | exact Le.refl _
noncomputable def q_interp_Call_J2 (a0 : T_Prog) (a1 : Int) (a3 : Int) (a4 : (List UInt32)) (s_47 : T_Env) : Option (T_Ran) :=
  po (
  po (q_prog_May a0) fun r17 =>
  cond (!r17) (
  some (s_47, (!r17))) (
  cond (decide (a3 < 0)) (
  some (s_47, (decide (a3 < 0)))) (
  some (s_47, (decide (a3 > 100000)))))) (fun x => q_interp_Call_J16 a0 a1 a3 a4 x.1 x.2)
theorem q_interp_Call_J2_le (a0 : T_Prog) (a1 : Int) (a3 : Int) (a4 : (List UInt32)) (s_47 : T_Env) : Le (q_interp_Call_J2 a0 a1 a3 a4 s_47) (p_interp_Call_J2 a0 a1 a3 a4 s_47) := by
  unfold q_interp_Call_J2 p_interp_Call_J2
  repeat' with_reducible first | (intro _) | apply q_prog_May_le | apply q_interp_Call_J16_le | apply Le.po | apply Le.cond | apply Le.pl | apply Le.pg | apply Le.pm | apply Le.pq | apply Le.lp | apply Le.itU | exact Le.refl _
noncomputable def q_interp_Call (a0 : T_Prog) (a1 : Int) (a2 : T_Env) (a3 : Int) (a4 : (List UInt32)) : Option (T_Ran) :=
  po (p_slices_Clone_api_Table_api_Table a2.T) fun r1 =>
  po (
  itF (fun x => q_interp_Call_L3 r1 x.1 x.2) ((T_Env.mk a2.Ctx r1 a2.Seed), 0)) (fun x => q_interp_Call_J2 a0 a1 a3 a4 x)
theorem q_interp_Call_le (a0 : T_Prog) (a1 : Int) (a2 : T_Env) (a3 : Int) (a4 : (List UInt32)) : Le (q_interp_Call a0 a1 a2 a3 a4) (p_interp_Call a0 a1 a2 a3 a4) := by
  unfold q_interp_Call p_interp_Call
  repeat' with_reducible first | (intro _) | apply q_interp_Call_L3_le | apply q_interp_Call_J2_le | apply Le.po | apply Le.cond | apply Le.pl | apply Le.pg | apply Le.pm | apply Le.pq | apply Le.lp | apply Le.itU | exact Le.refl _
noncomputable def q_interp_Run (a0 : T_Prog) (a1 : T_Env) (a2 : Int) : Option (T_Ran) :=
  po (q_interp_Call a0 0 a1 a2 []) fun r1 =>
  some r1
theorem q_interp_Run_le (a0 : T_Prog) (a1 : T_Env) (a2 : Int) : Le (q_interp_Run a0 a1 a2) (p_interp_Run a0 a1 a2) := by
  unfold q_interp_Run p_interp_Run
  repeat' with_reducible first | (intro _) | apply q_interp_Call_le | apply Le.po | apply Le.cond | apply Le.pl | apply Le.pg | apply Le.pm | apply Le.pq | apply Le.lp | apply Le.itU | exact Le.refl _
noncomputable def q_shift_put_J6 (a1 : T_Prog) (a2 : UInt32) (a3 : (List UInt32)) (i_6 : Int) (l_7 : (List UInt32)) (i_8 : UInt32) : Option (((List UInt32) × Int) ⊕ (((List UInt32)) ⊕ ((List UInt32) × Int))) :=
  po (a3[0]?) fun x9 =>
  pl ((UInt32.ofInt i_6)) fun c10 =>
  po (q_interp_Run a1 (T_Env.mk (A4.mk a2 c10 i_8 x9) [] 0) 2000) fun r11 =>
  po (
  cond (r11.Err != 0) (
  some (l_7, true)) (
  some (l_7, ((r11.Ret.toNat : Int) == 4294967295)))) (fun x => p_shift_put_J12 i_6 r11 x.1 x.2)
theorem q_shift_put_J6_le (a1 : T_Prog) (a2 : UInt32) (a3 : (List UInt32)) (i_6 : Int) (l_7 : (List UInt32)) (i_8 : UInt32) : Le (q_shift_put_J6 a1 a2 a3 i_6 l_7 i_8) (p_shift_put_J6 a1 a2 a3 i_6 l_7 i_8) := by
  unfold q_shift_put_J6 p_shift_put_J6
  repeat' with_reducible first | (intro _) | apply q_interp_Run_le | apply Le.po | apply Le.cond | apply Le.pl | apply Le.pg | apply Le.pm | apply Le.pq | apply Le.lp | apply Le.itU | exact Le.refl _
noncomputable def q_shift_put_L4 (a0 : T_Schema) (a1 : T_Prog) (a2 : UInt32) (a3 : (List UInt32)) (l_5 : (List UInt32)) (i_6 : Int) : Option (((List UInt32) × Int) ⊕ (((List UInt32)) ⊕ ((List UInt32) × Int))) :=
  cond (decide (i_6 < a0.Words)) (
  po (
  cond (decide (i_6 < (a3.length : Int))) (
  po (idx a3 i_6) fun x8 =>
  some (l_5, x8)) (
  some (l_5, 0))) (fun x => q_shift_put_J6 a1 a2 a3 i_6 x.1 x.2)) (
  some (Sum.inr (Sum.inl l_5)))
theorem q_shift_put_L4_le (a0 : T_Schema) (a1 : T_Prog) (a2 : UInt32) (a3 : (List UInt32)) (l_5 : (List UInt32)) (i_6 : Int) : Le (q_shift_put_L4 a0 a1 a2 a3 l_5 i_6) (p_shift_put_L4 a0 a1 a2 a3 l_5 i_6) := by
  unfold q_shift_put_L4 p_shift_put_L4
  repeat' with_reducible first | (intro _) | apply q_shift_put_J6_le | apply Le.po | apply Le.cond | apply Le.pl | apply Le.pg | apply Le.pm | apply Le.pq | apply Le.lp | apply Le.itU | exact Le.refl _
noncomputable def q_shift_put (a0 : T_Schema) (a1 : T_Prog) (a2 : UInt32) (a3 : (List UInt32)) : Option ((List UInt32) × Int) :=
  pg (0 ≤ a0.Words ∧ 4 * a0.Words ≤ 140737488355328) <|
  pl (List.replicate a0.Words.toNat 0) fun y2 =>
  pm (
  itF (fun x => q_shift_put_L4 a0 a1 a2 a3 x.1 x.2) (y2, 0)) (fun x => p_shift_put_J3 x)
theorem q_shift_put_le (a0 : T_Schema) (a1 : T_Prog) (a2 : UInt32) (a3 : (List UInt32)) : Le (q_shift_put a0 a1 a2 a3) (p_shift_put a0 a1 a2 a3) := by
  unfold q_shift_put p_shift_put
  repeat' with_reducible first | (intro _) | apply q_shift_put_L4_le | apply Le.po | apply Le.cond | apply Le.pl | apply Le.pg | apply Le.pm | apply Le.pq | apply Le.lp | apply Le.itU | exact Le.refl _
noncomputable def q_shift_One_J1 (a0 : T_Schema) (a1 : T_Prog) (a2 : UInt32) (a3 : (List UInt32)) (i_1 : Bool) : Option ((List UInt32) × Int) :=
  cond i_1 (
  some ([], 1)) (
  po (q_verify_Verify a1 []) fun r5 =>
  cond (r5.2 != 0) (
  some ([], r5.2)) (
  po (q_shift_put a0 a1 a2 a3) fun r7 =>
  some (r7.1, r7.2)))
theorem q_shift_One_J1_le (a0 : T_Schema) (a1 : T_Prog) (a2 : UInt32) (a3 : (List UInt32)) (i_1 : Bool) : Le (q_shift_One_J1 a0 a1 a2 a3 i_1) (p_shift_One_J1 a0 a1 a2 a3 i_1) := by
  unfold q_shift_One_J1 p_shift_One_J1
  repeat' with_reducible first | (intro _) | apply q_verify_Verify_le | apply q_shift_put_le | apply Le.po | apply Le.cond | apply Le.pl | apply Le.pg | apply Le.pm | apply Le.pq | apply Le.lp | apply Le.itU | exact Le.refl _
noncomputable def q_shift_One (a0 : T_Schema) (a1 : T_Prog) (a2 : UInt32) (a3 : (List UInt32)) : Option ((List UInt32) × Int) :=
  po (
  po (p_schema_May a0) fun r2 =>
  cond r2 (
  some ((a3.length : Int) == 0)) (
  some true)) (fun x => q_shift_One_J1 a0 a1 a2 a3 x)
theorem q_shift_One_le (a0 : T_Schema) (a1 : T_Prog) (a2 : UInt32) (a3 : (List UInt32)) : Le (q_shift_One a0 a1 a2 a3) (p_shift_One a0 a1 a2 a3) := by
  unfold q_shift_One p_shift_One
  repeat' with_reducible first | (intro _) | apply q_shift_One_J1_le | apply Le.po | apply Le.cond | apply Le.pl | apply Le.pg | apply Le.pm | apply Le.pq | apply Le.lp | apply Le.itU | exact Le.refl _
noncomputable def q_shift_Fits_J1 (a2 : T_Prog) (i_1 : Bool) : Option (Int) :=
  cond i_1 (
  some 9) (
  po (q_verify_Verify a2 []) fun r6 =>
  some r6.2)
theorem q_shift_Fits_J1_le (a2 : T_Prog) (i_1 : Bool) : Le (q_shift_Fits_J1 a2 i_1) (p_shift_Fits_J1 a2 i_1) := by
  unfold q_shift_Fits_J1 p_shift_Fits_J1
  repeat' with_reducible first | (intro _) | apply q_verify_Verify_le | apply Le.po | apply Le.cond | apply Le.pl | apply Le.pg | apply Le.pm | apply Le.pq | apply Le.lp | apply Le.itU | exact Le.refl _
noncomputable def q_shift_Fits (a0 : T_Schema) (a1 : T_Schema) (a2 : T_Prog) : Option (Int) :=
  po (
  cond (a0.Kind == 3) (
  some true) (
  po (p_schema_Step a0 a1) fun r3 =>
  cond (r3 != 1) (
  some true) (
  some (decide (a1.Cap < a0.Cap))))) (fun x => q_shift_Fits_J1 a2 x)
theorem q_shift_Fits_le (a0 : T_Schema) (a1 : T_Schema) (a2 : T_Prog) : Le (q_shift_Fits a0 a1 a2) (p_shift_Fits a0 a1 a2) := by
  unfold q_shift_Fits p_shift_Fits
  repeat' with_reducible first | (intro _) | apply q_shift_Fits_J1_le | apply Le.po | apply Le.cond | apply Le.pl | apply Le.pg | apply Le.pm | apply Le.pq | apply Le.lp | apply Le.itU | exact Le.refl _
noncomputable def q_shift_may (a0 : T_Table) (a1 : T_Schema) (a2 : T_Prog) : Option (Int) :=
  po (p_table_May a0) fun r1 =>
  cond (!r1) (
  some 1) (
  po (q_shift_Fits a0.S a1 a2) fun r3 =>
  some r3)
theorem q_shift_may_le (a0 : T_Table) (a1 : T_Schema) (a2 : T_Prog) : Le (q_shift_may a0 a1 a2) (p_shift_may a0 a1 a2) := by
  unfold q_shift_may p_shift_may
  repeat' with_reducible first | (intro _) | apply q_shift_Fits_le | apply Le.po | apply Le.cond | apply Le.pl | apply Le.pg | apply Le.pm | apply Le.pq | apply Le.lp | apply Le.itU | exact Le.refl _
noncomputable def q_shift_Image_L7 (a0 : T_Table) (a1 : T_Schema) (a2 : T_Prog) (s_1 : T_Table) (i_2 : Int) : Option ((T_Table × Int) ⊕ ((T_Table) ⊕ (T_Table × Int))) :=
  cond (decide (i_2 < (a0.E.length : Int))) (
  po (idx a0.E i_2) fun x9 =>
  po (q_shift_put a1 a2 x9.Key x9.V) fun r10 =>
  cond (r10.2 != 0) (
  some (Sum.inr (Sum.inr ((T_Table.mk (T_Schema.mk 0 0 0 0) [] 0), r10.2)))) (
  pg ((s_1.E.length + 1) * 32 ≤ 140737488355328) <|
  pl (s_1.E ++ ([(T_Entry.mk x9.Key r10.1)])) fun y13 =>
  some (Sum.inl ((T_Table.mk s_1.S y13 s_1.Next), (IntKind.i64.wrap (i_2 + 1)))))) (
  some (Sum.inr (Sum.inl s_1)))
theorem q_shift_Image_L7_le (a0 : T_Table) (a1 : T_Schema) (a2 : T_Prog) (s_1 : T_Table) (i_2 : Int) : Le (q_shift_Image_L7 a0 a1 a2 s_1 i_2) (p_shift_Image_L7 a0 a1 a2 s_1 i_2) := by
  unfold q_shift_Image_L7 p_shift_Image_L7
  repeat' with_reducible first | (intro _) | apply q_shift_put_le | apply Le.po | apply Le.cond | apply Le.pl | apply Le.pg | apply Le.pm | apply Le.pq | apply Le.lp | apply Le.itU | exact Le.refl _
noncomputable def q_shift_Image (a0 : T_Table) (a1 : T_Schema) (a2 : T_Prog) : Option (T_Table × Int) :=
  po (q_shift_may a0 a1 a2) fun r1 =>
  cond (r1 != 0) (
  some ((T_Table.mk (T_Schema.mk 0 0 0 0) [] 0), r1)) (
  po (p_table_New a1) fun r3 =>
  pg (0 ≤ (minI (a0.E.length : Int) (r3.1.E.length : Int)) ∧ (minI (a0.E.length : Int) (r3.1.E.length : Int)) ≤ (r3.1.E.length : Int) ∧ (r3.1.E.length : Int) ≤ (r3.1.E.length : Int)) <|
  pl ((r3.1.E.drop ((minI (a0.E.length : Int) (r3.1.E.length : Int)).toNat))) fun y5 =>
  pm (
  itF (fun x => q_shift_Image_L7 a0 a1 a2 x.1 x.2) ((T_Table.mk r3.1.S [] r3.1.Next), 0)) (fun x => p_shift_Image_J6 y5 x))
theorem q_shift_Image_le (a0 : T_Table) (a1 : T_Schema) (a2 : T_Prog) : Le (q_shift_Image a0 a1 a2) (p_shift_Image a0 a1 a2) := by
  unfold q_shift_Image p_shift_Image
  repeat' with_reducible first | (intro _) | apply q_shift_may_le | apply q_shift_Image_L7_le | apply Le.po | apply Le.cond | apply Le.pl | apply Le.pg | apply Le.pm | apply Le.pq | apply Le.lp | apply Le.itU | exact Le.refl _
noncomputable def q_drydockref01_Words (a0 : (List UInt32)) (a1 : (List UInt32)) : Option (Bool) :=
  cond ((a0.length : Int) != (a1.length : Int)) (
  some false) (
  pm (
  itF (fun x => p_drydockref01_Words_L3 a0 a1 x) 0) (fun x => p_drydockref01_Words_J2))
theorem q_drydockref01_Words_le (a0 : (List UInt32)) (a1 : (List UInt32)) : Le (q_drydockref01_Words a0 a1) (p_drydockref01_Words a0 a1) := by
  unfold q_drydockref01_Words p_drydockref01_Words
  repeat' with_reducible first | (intro _) | apply Le.po | apply Le.cond | apply Le.pl | apply Le.pg | apply Le.pm | apply Le.pq | apply Le.lp | apply Le.itU | exact Le.refl _
noncomputable def q_drydocklaw18_awake : Option (Bool) :=
  po (q_shift_One (T_Schema.mk 1 1 3 0) (T_Prog.mk ([(T_Fn.mk 0 ([(T_Inst.mk 2 0 0 0 false 0 2), (T_Inst.mk 7 0 0 0 false 0 0)]))])) 7 ([4, 5])) fun r1 =>
  po (q_shift_Image (T_Table.mk (T_Schema.mk 1 1 1 0) ([(T_Entry.mk 9 ([6]))]) 0) (T_Schema.mk 1 2 2 1) (T_Prog.mk ([(T_Fn.mk 0 ([(T_Inst.mk 2 0 0 0 false 0 2), (T_Inst.mk 7 0 0 0 false 0 0)]))]))) fun r2 =>
  po (
  cond (r1.2 == 0) (
  po (q_drydockref01_Words r1.1 ([4, 5, 0])) fun r5 =>
  cond r5 (
  cond (r2.2 == 0) (
  cond ((r2.1.E.length : Int) == 1) (
  po (r2.1.E[0]?) fun x9 =>
  po (q_drydockref01_Words x9.V ([6, 0])) fun r10 =>
  some r10) (
  some false)) (
  some false)) (
  some false)) (
  some false)) (fun x => p_drydocklaw18_awake_J3 x)
theorem q_drydocklaw18_awake_le : Le (q_drydocklaw18_awake) (p_drydocklaw18_awake) := by
  unfold q_drydocklaw18_awake p_drydocklaw18_awake
  repeat' with_reducible first | (intro _) | apply q_shift_One_le | apply q_shift_Image_le | apply q_drydockref01_Words_le | apply Le.po | apply Le.cond | apply Le.pl | apply Le.pg | apply Le.pm | apply Le.pq | apply Le.lp | apply Le.itU | exact Le.refl _
def P0 : T_Prog := ⟨[⟨0, [⟨2, 0, 0, 0, false, 0, 2⟩, ⟨7, 0, 0, 0, false, 0, 0⟩]⟩]⟩
theorem ver0 : p_verify_Verify P0 [] = some (2, 0) := q_verify_Verify_le _ _ _ (by kernel_rfl)
theorem run0 (k n o v : UInt32) : p_interp_Run P0 ⟨⟨k, n, o, v⟩, [], 0⟩ 2000 = some ⟨o, ⟨⟨k, n, o, v⟩, [], 0⟩, 2, 0⟩ := q_interp_Run_le _ _ _ _ (by kernel_rfl)
theorem lp_inv {σ ρ : Type} {step : σ → Option (σ ⊕ ρ)} (I : σ → Prop) (μ : σ → Nat) (Q : ρ → Prop)
    (hs : ∀ s, I s → (∃ s', step s = some (.inl s') ∧ I s' ∧ μ s' < μ s) ∨ (∃ r, step s = some (.inr r) ∧ Q r)) : ∀ (s0 : σ), I s0 → ∃ r, lpU step s0 = some r ∧ Q r := by
  have key : ∀ (n : Nat) (s0 : σ), μ s0 = n → I s0 → ∃ r, lpU step s0 = some r ∧ Q r := by
    intro n
    induction n using Nat.strongRecOn with
    | _ n ih =>
      intro s0 hn h0
      rcases hs s0 h0 with ⟨s', h1, h2, h3⟩ | ⟨r, h1, h2⟩
      · rw [lpU_inl h1]
        exact ih (μ s') (by omega) s' rfl h2
      · exact ⟨r, lpU_inr h1, h2⟩
  exact fun s0 h0 => key _ s0 rfl h0
theorem w64 {n : Nat} (h : n < 9223372036854775807) : IntKind.i64.wrap ((n : Int) + 1) = ((n + 1 : Nat) : Int) := by
  rw [wrap_i64 (by omega) (by omega)]
  omega
theorem idxN {α : Type} {l : List α} {k : Nat} {x : α} (h : l[k]? = some x) : idx l (k : Int) = some x := by rw [idx_nat, h]
def wantW (v : List UInt32) (n : Nat) : UInt32 := v.getD n 0
theorem put0 (s : T_Schema) (key : UInt32) (v : List UInt32) (W : Nat) (hW : s.Words = (W : Int)) (h4 : W ≤ 4) (hv : v ≠ []) :
    ∃ r, p_shift_put s P0 key v = some r ∧ ((r.2 = 0 ∧ r.1.length = W ∧ ∀ n, n < W → r.1[n]? = some (wantW v n)) ∨ r.2 = 10) := by
  unfold p_shift_put
  rw [hW, pg_of (by omega)]
  simp only [pl, Int.toNat_natCast]
  obtain ⟨x0, hx0⟩ : ∃ x0, v[0]? = some x0 := by
    cases v with
    | nil => exact absurd rfl hv
    | cons a l => exact ⟨a, rfl⟩
  obtain ⟨r, hr, hq⟩ := lp_inv (step := fun x => p_shift_put_L4 s P0 key v x.1 x.2)
    (fun x => ∃ k : Nat, x.2 = (k : Int) ∧ k ≤ W ∧ x.1.length = W ∧ ∀ n, n < k → x.1[n]? = some (wantW v n)) (fun x => W - x.2.toNat)
    (fun r => (∃ l, r = .inl l ∧ l.length = W ∧ ∀ n, n < W → l[n]? = some (wantW v n)) ∨ r = .inr ([], 10)) (by
      rintro ⟨l, i⟩ ⟨k, hk, hkW, hl, hp⟩
      simp only at hk hl hp
      subst hk
      unfold p_shift_put_L4
      rw [hW]
      by_cases hlt : k < W
      · rw [decide_eq_true (show (k : Int) < (W : Int) by omega)]
        have hin : (po (cond (decide ((k : Int) < (v.length : Int))) (po (idx v (k : Int)) fun x8 => some (l, x8)) (some (l, 0))) fun x => p_shift_put_J6 P0 key v (k : Int) x.1 x.2) = p_shift_put_J6 P0 key v (k : Int) l (wantW v k) := by
          by_cases hkv : k < v.length
          · have hx : v[k]? = some (wantW v k) := by simp [wantW, hkv]
            rw [decide_eq_true (show (k : Int) < (v.length : Int) by omega)]
            simp only [cond_true, idxN hx, po_of]
          · rw [decide_eq_false (show ¬ (k : Int) < (v.length : Int) by omega)]
            have : wantW v k = 0 := by simp [wantW, List.getD_eq_getElem?_getD, List.getElem?_eq_none (show v.length ≤ k by omega)]
            rw [this]
            simp only [cond_false, po_of]
        simp only [cond_true]
        rw [hin]
        unfold p_shift_put_J6
        simp only [hx0, po_of, pl, run0]
        show (∃ s', po (cond ((0 : Int) != 0) _ (some (l, ((wantW v k).toNat : Int) == 4294967295))) _ = some (Sum.inl s') ∧ _) ∨ _
        simp only [bne_self_eq_false, cond_false, po_of]
        unfold p_shift_put_J12
        cases hc : (((wantW v k).toNat : Int) == 4294967295) with
        | true =>
          right
          exact ⟨_, rfl, .inr rfl⟩
        | false =>
          left
          have hlk : ∃ y, l[k]? = some y := ⟨_, List.getElem?_eq_getElem (by omega)⟩
          obtain ⟨y, hy⟩ := hlk
          refine ⟨(l.set k (wantW v k), ((k + 1 : Nat) : Int)), ?_, ⟨k + 1, rfl, by omega, by simpa using hl, fun n hn => ?_⟩, ?_⟩
          · simp only [cond_false, idxN hy, po_of, pl, Int.toNat_natCast, w64 (show k < 9223372036854775807 by omega)]
          · rw [List.getElem?_set]
            by_cases hnk : k = n
            · subst hnk
              rw [if_pos rfl, if_pos (by omega)]
            · rw [if_neg hnk]
              exact hp n (by omega)
          · simp only [Int.toNat_natCast]
            omega
      · rw [decide_eq_false (show ¬ (k : Int) < (W : Int) by omega)]
        right
        have : k = W := by omega
        subst this
        exact ⟨_, rfl, .inl ⟨l, rfl, hl, hp⟩⟩) (List.replicate W 0, 0) ⟨0, rfl, Nat.zero_le _, by simp, fun n h => by omega⟩
  rw [hr]
  rcases hq with ⟨l, rfl, h1, h2⟩ | rfl
  · exact ⟨(l, 0), rfl, .inl ⟨rfl, h1, h2⟩⟩
  · exact ⟨([], 10), rfl, .inr rfl⟩
theorem pin (a b c : Int) : p_schema_in a b c = some (inB a b c) := by
  unfold p_schema_in p_schema_in_J1 inB
  by_cases h : a ≥ b
  · rw [decide_eq_true h]
    rfl
  · rw [decide_eq_false h]
    rfl
theorem smay (s : T_Schema) : p_schema_May s = some (toS s).may := by
  unfold p_schema_May
  have key : ∀ m, p_schema_May_J1 s m = some (inB s.Kind 0 3 && inB s.Cap 1 16 && inB s.Words 1 m && inB s.Ver 0 1000) := by
    intro m
    unfold p_schema_May_J1 p_schema_May_J3
    simp only [pin, po_of]
    cases inB s.Kind 0 3 <;> cases inB s.Cap 1 16 <;> cases inB s.Words 1 m <;> rfl
  by_cases h : s.Kind = 3
  · have h2 : (s.Kind == 3) = true := by simpa using h
    rw [h2]
    simp only [cond_true, po_of, key]
    simp [Sch.may, toS, h]
  · have h2 : (s.Kind == 3) = false := by simpa using h
    rw [h2]
    simp only [cond_false, po_of, key]
    simp [Sch.may, toS, h]
theorem step_all (a b : T_Schema) : ∃ r, p_schema_Step a b = some r ∧ (r = 1 → (toS b).may = true ∧ a.Kind = b.Kind) := by
  unfold p_schema_Step
  rw [smay, smay]
  have n2 : (2 : Int) = 1 → False := by decide
  have n0 : (0 : Int) = 1 → False := by decide
  cases h1 : (toS a).may with
  | false => exact ⟨2, rfl, fun h => (n2 h).elim⟩
  | true =>
    cases h2 : (toS b).may with
    | false => exact ⟨2, rfl, fun h => (n2 h).elim⟩
    | true =>
      simp only [po_of, Bool.not_true, cond_false]
      unfold p_schema_Step_J1
      simp only [cond_false]
      cases h3 : ((a.Kind == b.Kind) && ((a.Cap == b.Cap) && ((a.Words == b.Words) && (a.Ver == b.Ver)))) with
      | true => exact ⟨0, rfl, fun h => (n0 h).elim⟩
      | false =>
        simp only [cond_false]
        cases h4 : (a.Kind == b.Kind) with
        | false => exact ⟨2, rfl, fun h => (n2 h).elim⟩
        | true =>
          simp only [cond_true, po_of]
          unfold p_schema_Step_J7
          cases (b.Ver == IntKind.i64.wrap (a.Ver + 1)) with
          | true => exact ⟨1, rfl, fun _ => ⟨by first | exact h2 | trivial, by simpa using h4⟩⟩
          | false => exact ⟨2, rfl, fun h => (n2 h).elim⟩
theorem fits0 (a b : T_Schema) : ∃ r, p_shift_Fits a b P0 = some r ∧ (r = 0 → (toS b).may = true ∧ a.Kind = b.Kind ∧ a.Cap ≤ b.Cap ∧ a.Kind ≠ 3) := by
  unfold p_shift_Fits
  have n9 : (9 : Int) = 0 → False := by decide
  have j1 : p_shift_Fits_J1 P0 true = some 9 := rfl
  have j0 : p_shift_Fits_J1 P0 false = some 0 := by
    unfold p_shift_Fits_J1
    simp only [cond_false, ver0, po_of]
  cases h1 : (a.Kind == 3) with
  | true => exact ⟨9, by simp only [cond_true, po_of, j1], fun h => (n9 h).elim⟩
  | false =>
    obtain ⟨r, hr, hq⟩ := step_all a b
    simp only [cond_false, hr, po_of]
    cases h2 : (r != 1) with
    | true => exact ⟨9, by simp only [cond_true, po_of, j1], fun h => (n9 h).elim⟩
    | false =>
      have hr1 : r = 1 := by simpa using h2
      obtain ⟨q1, q2⟩ := hq hr1
      simp only [cond_false, po_of]
      by_cases h3 : b.Cap < a.Cap
      · exact ⟨9, by simp only [decide_eq_true h3, j1], fun h => (n9 h).elim⟩
      · exact ⟨0, by simp only [decide_eq_false h3, j0], fun _ => ⟨q1, q2, by omega, by simpa using h1⟩⟩
structure Put (t : T_Table) (s : T_Schema) (x : T_Table) : Prop where
  may : (toT t).may = true
  smay : (toS s).may = true
  kind : t.S.Kind = s.Kind
  S : x.S = s
  next : x.Next = 0
  len : x.E.length = if s.Kind = 0 then max t.E.length s.Cap.toNat else t.E.length
  at_ : ∀ (i : Nat) (e : T_Entry), t.E[i]? = some e → ∃ e' : T_Entry, x.E[i]? = some e' ∧ e'.V.length = s.Words.toNat ∧ ∀ n, n < s.Words.toNat → e'.V[n]? = some (wantW e.V n)
theorem image0 (t : T_Table) (s : T_Schema) : ∃ r, p_shift_Image t s P0 = some r ∧ ((r.2 = 0 ∧ Put t s r.1) ∨ (r.2 ≠ 0 ∧ r.1.E = [])) := by
  unfold p_shift_Image p_shift_may p_table_May
  simp only [po_of]
  cases hm : (toT t).may with
  | false => exact ⟨_, rfl, .inr ⟨by decide, rfl⟩⟩
  | true =>
    obtain ⟨e, he, hq⟩ := fits0 t.S s
    simp only [Bool.not_true, cond_false, he, po_of]
    cases h1 : (e != 0) with
    | true => exact ⟨_, rfl, .inr ⟨by simpa using h1, rfl⟩⟩
    | false =>
      have he0 : e = 0 := by simpa using h1
      obtain ⟨q1, q2, q3, q4⟩ := hq he0
      simp only [cond_false]
      obtain ⟨N, hN⟩ : ∃ N, N = ofT (Tab.new (toS s)).1 := ⟨_, rfl⟩
      have hnew : Tab.new (toS s) = (⟨toS s, if (toS s).kind = 0 then newEs (toS s).cap.toNat (toS s).words.toNat else [], 0⟩, 0) := by
        unfold Tab.new
        rw [if_neg (by rw [q1]; simp)]
      have hNS : N.S = s := by rw [hN, hnew]; rfl
      have hNn : N.Next = 0 := by rw [hN, hnew]; rfl
      have hNl : N.E.length = if s.Kind = 0 then s.Cap.toNat else 0 := by
        rw [hN, hnew]
        show ((if (toS s).kind = 0 then newEs (toS s).cap.toNat (toS s).words.toNat else []).map ofE).length = _
        rw [List.length_map]
        show (if s.Kind = 0 then newEs s.Cap.toNat s.Words.toNat else []).length = _
        split
        · exact newEs_length _ _
        · rfl
      have hb := Sch.may_bounds q1
      have hbt := Sch.may_bounds (Tab.may_sch hm)
      have hlen := Tab.may_len hm
      have hel := ((Tab.may_iff _).1 hm).2
      have c1 : (toS s).cap = s.Cap := rfl
      have c2 : (toS s).words = s.Words := rfl
      have c3 : (toT t).s.cap = t.S.Cap := rfl
      have c4 : (toT t).e.length = t.E.length := by simp [toT]
      have c5 : (toT t).s.words = t.S.Words := rfl
      rw [c1, c2] at hb
      rw [c3, c5] at hbt
      rw [c3, c4] at hlen
      obtain ⟨W, hW⟩ : ∃ W : Nat, s.Words = (W : Int) := ⟨s.Words.toNat, by omega⟩
      have hNl16 : N.E.length ≤ 16 := by
        rw [hNl]
        split <;> omega
      have hnewp : p_table_New s = some (N, 0) := by
        unfold p_table_New
        rw [hN, hnew]
      rw [hnewp]
      simp only [po_of, pl]
      have hmin : minI (t.E.length : Int) (N.E.length : Int) = ((min t.E.length N.E.length : Nat) : Int) := by
        unfold minI
        split <;> omega
      rw [hmin, pg_of (by omega)]
      simp only [Int.toNat_natCast]
      have hput : ∀ (i : Nat) (e : T_Entry), t.E[i]? = some e → ∃ r, p_shift_put s P0 e.Key e.V = some r ∧ ((r.2 = 0 ∧ r.1.length = W ∧ ∀ n, n < W → r.1[n]? = some (wantW e.V n)) ∨ r.2 = 10) := by
        intro i e hi
        refine put0 s e.Key e.V W hW (by omega) ?_
        have he2 : (toT t).e[i]? = some (toE e) := by simp [toT, hi]
        have := ((Tab.elOk_iff _ _ _).1 (hel i _ he2)).1
        rw [c5] at this
        intro hn
        simp [toE, hn] at this
        omega
      obtain ⟨r, hr, hQ⟩ := lp_inv (step := fun x => p_shift_Image_L7 t s P0 x.1 x.2)
        (fun x => ∃ k : Nat, x.2 = (k : Int) ∧ k ≤ t.E.length ∧ x.1.S = s ∧ x.1.Next = 0 ∧ x.1.E.length = k ∧ ∀ (i : Nat) (e : T_Entry), i < k → t.E[i]? = some e → ∃ e' : T_Entry, x.1.E[i]? = some e' ∧ e'.V.length = W ∧ ∀ n, n < W → e'.V[n]? = some (wantW e.V n))
        (fun x => t.E.length - x.2.toNat)
        (fun r => (∃ u : T_Table, r = .inl u ∧ u.S = s ∧ u.Next = 0 ∧ u.E.length = t.E.length ∧ ∀ (i : Nat) (e : T_Entry), t.E[i]? = some e → ∃ e' : T_Entry, u.E[i]? = some e' ∧ e'.V.length = W ∧ ∀ n, n < W → e'.V[n]? = some (wantW e.V n)) ∨ r = .inr (⟨⟨0, 0, 0, 0⟩, [], 0⟩, 10)) (by
          rintro ⟨u, i⟩ ⟨k, hk, hkl, hS, hn, hl, hp⟩
          simp only at hk hS hn hl hp
          subst hk
          unfold p_shift_Image_L7
          by_cases hlt : k < t.E.length
          · rw [decide_eq_true (show (k : Int) < (t.E.length : Int) by omega)]
            obtain ⟨e, hek⟩ : ∃ e, t.E[k]? = some e := ⟨_, List.getElem?_eq_getElem hlt⟩
            obtain ⟨r, hr, hrq⟩ := hput k e hek
            simp only [cond_true, idxN hek, po_of, hr]
            rcases hrq with ⟨z, hz1, hz2⟩ | z
            · left
              rw [z]
              refine ⟨(⟨u.S, u.E ++ [⟨e.Key, r.1⟩], u.Next⟩, ((k + 1 : Nat) : Int)), ?_, ⟨k + 1, rfl, by omega, hS, hn, by simp [hl], fun i e1 hi he1 => ?_⟩, ?_⟩
              · simp only [bne_self_eq_false, cond_false, pl]
                rw [pg_of (by omega), w64 (show k < 9223372036854775807 by omega)]
              · show ∃ e', (u.E ++ [(⟨e.Key, r.1⟩ : T_Entry)])[i]? = some e' ∧ _
                rw [List.getElem?_append]
                by_cases hik : i < k
                · rw [if_pos (by omega)]
                  exact hp i e1 hik he1
                · have : i = k := by omega
                  subst this
                  rw [if_neg (by omega), hl, Nat.sub_self]
                  rw [hek] at he1
                  injection he1 with he1
                  subst he1
                  exact ⟨_, rfl, hz1, hz2⟩
              · simp only [Int.toNat_natCast]
                omega
            · right
              rw [z]
              exact ⟨_, rfl, .inr rfl⟩
          · rw [decide_eq_false (show ¬ (k : Int) < (t.E.length : Int) by omega)]
            right
            have : k = t.E.length := by omega
            refine ⟨_, rfl, .inl ⟨u, rfl, hS, hn, by omega, fun i e he => hp i e ?_ he⟩⟩
            have := (List.getElem?_eq_some_iff.1 he).1
            omega) (⟨N.S, [], N.Next⟩, 0) ⟨0, rfl, Nat.zero_le _, hNS, hNn, rfl, fun i e h => by omega⟩
      rw [hr]
      rcases hQ with ⟨u, rfl, h1, h2, h3, h4⟩ | rfl
      · simp only [pm_inl]
        unfold p_shift_Image_J6
        have hdl : (N.E.drop (min t.E.length N.E.length)).length ≤ 16 := by
          rw [List.length_drop]
          omega
        rw [pg_of (by omega)]
        refine ⟨_, rfl, .inl ⟨rfl, ⟨hm, q1, q2, h1, h2, ?_, fun i e he => ?_⟩⟩⟩
        · show (u.E ++ N.E.drop (min t.E.length N.E.length)).length = _
          rw [List.length_append, List.length_drop, h3, hNl]
          split <;> omega
        · obtain ⟨e', k1, k2, k3⟩ := h4 i e he
          refine ⟨e', ?_, by rw [hW]; exact k2, by rw [hW]; exact k3⟩
          show (u.E ++ N.E.drop (min t.E.length N.E.length))[i]? = some e'
          rw [List.getElem?_append_left (List.getElem?_eq_some_iff.1 k1).1]
          exact k1
      · exact ⟨_, rfl, .inr ⟨by decide, rfl⟩⟩
theorem awake18 : p_drydocklaw18_awake = some true := q_drydocklaw18_awake_le _ (by kernel_rfl)
noncomputable def p_drydockref03_Few_J3 (a0 : T_Prog) (i_2 : Bool) (i_3 : Int) (i_4 : Bool) : Option ((Bool × Int) ⊕ (Bool)) :=
  cond i_4 (
  po (idx a0.Fns i_3) fun x6 =>
  some (Sum.inl ((decide ((x6.Code.length : Int) ≤ 80)), (IntKind.i64.wrap (i_3 + 1))))) (
  some (Sum.inr i_2))
noncomputable def p_drydockref03_Few_L2 (a0 : T_Prog) (i_2 : Bool) (i_3 : Int) : Option ((Bool × Int) ⊕ (Bool)) :=
  po (
  cond (decide (i_3 < (a0.Fns.length : Int))) (
  some i_2) (
  some false)) (fun x => p_drydockref03_Few_J3 a0 i_2 i_3 x)
noncomputable def p_drydockref03_Few_J1 (i_7 : Bool) : Option (Bool) :=
  some i_7
noncomputable def p_drydockref03_Few (a0 : T_Prog) : Option (Bool) :=
  po (
  lpU (fun x => p_drydockref03_Few_L2 a0 x.1 x.2) ((decide ((a0.Fns.length : Int) ≤ 12)), 0)) (fun x => p_drydockref03_Few_J1 x)
theorem c_drydockref03_Few {a0 : T_Prog} {r : Bool} (h : p_drydockref03_Few a0 = some r) : Ctr prog 52 [.agg (enc_Prog a0)] [] (rb r) [] := by
 unfold p_drydockref03_Few at h;refine Ctr.ofW tabOk func52 rfl call52 0 _ ntmps52 [.tmp 2] rfl rfl rfl (fun B => ?_);refine vs [1] (fun K hK => ?_);push_cast;refine hK _ ?_;clear hK K;refine vs [1,3] (fun K hK => ?_);push_cast;refine hK _ ?_;clear hK K;refine vj h (fun x => ⟨[(3,rb x)],[],36,28,0⟩) (fun v1 h hk1 => ?_) ?_
 ·refine vs [1,3,4] (fun K hK => ?_);push_cast;refine hK _ ?_;clear hK K;refine VC.block ?_;refine VC.loopP h (fun x => ⟨[(1,.ref 0 0),(3,rb x.1),(4,ri x.2)],[(0,.box 56 [.sl false (a0.Fns.map enc_Fn)])],28,28,0⟩) ?_ ?_
  ·exact sl (by push_cast)
  rintro ⟨i_2,i_3⟩ b2 (h : p_drydockref03_Few_L2 a0 i_2 i_3 = some b2) hf2;(try push_cast);unfold p_drydockref03_Few_L2 at h;refine VC.seq ?_;refine vj h (fun x => ⟨[(1,.ref 0 0),(3,rb i_2),(4,ri i_3),(16,rb x)],[(0,.box 56 [.sl false (a0.Fns.map enc_Fn)])],36,28,0⟩) (fun v3 h hk3 => ?_) ?_
  ·rcases Bool.eq_false_or_eq_true (decide (i_3 < (a0.Fns.length : Int))) with hb4 | hb4
   ·replace h := cond_yes hb4 h;refine vlG [some 9,some 10,some 11,some 12,some 13,some 14,some 15,some 16] (fun K hK => ?_);push_cast [hb4];(repeat refine .intro (by omega) ?_);refine hK _ ?_;clear hK K;refine ar h hk3 ?_;exact sl (by push_cast [hb4])
   ·replace h := cond_no hb4 h;refine vlG [some 9,some 10,some 11,some 12,some 13,some 14,some 15,some 16] (fun K hK => ?_);push_cast [hb4];(repeat refine .intro (by omega) ?_);refine hK _ ?_;clear hK K;refine ar h hk3 ?_;exact sl (by push_cast [hb4])
  ·rintro i_4 (h : p_drydockref03_Few_J3 a0 i_2 i_3 i_4 = some b2);(try push_cast);unfold p_drydockref03_Few_J3 at h;refine vc h (fun hb5 h => ?_) (fun hb5 h => ?_)
   ·refine VC.skip ?_;refine VC.seq ?_;refine VC.block ?_;obtain ⟨x6,hx6,h⟩ := po_some h;replace hx6 := idx_some4 hx6;refine vl (fun K hK => ?_);push_cast [hx6];(repeat refine .intro (by omega) ?_);refine hK _ ?_;clear hK K;refine vl (fun K hK => ?_);push_cast;refine hK _ ?_;clear hK K;refine bk h ?_;exact sl (by push_cast [hb5])
   ·refine VC.exit ?_;replace h := ol h hf2;refine ar h hk1 ?_;exact sl (by push_cast [hb5])
 ·rintro i_7 (h : p_drydockref03_Few_J1 i_7 = some r);(try push_cast);unfold p_drydockref03_Few_J1 at h;refine vs [2] (fun K hK => ?_);push_cast;refine hK _ ?_;clear hK K;refine VC.ret ?_;replace h := Option.some.inj h;subst h;exact en (by push_cast)
noncomputable def p_drydockref05_Few_J9 (x7 : T_Table) (i_41 : Bool) (i_42 : Int) (i_43 : Bool) : Option ((Bool × Int) ⊕ (Bool)) :=
  cond i_43 (
  po (idx x7.E i_42) fun x12 =>
  some (Sum.inl ((decide ((x12.V.length : Int) ≤ 6)), (IntKind.i64.wrap (i_42 + 1))))) (
  some (Sum.inr i_41))
noncomputable def p_drydockref05_Few_L8 (x7 : T_Table) (i_41 : Bool) (i_42 : Int) : Option ((Bool × Int) ⊕ (Bool)) :=
  po (
  cond (decide (i_42 < (x7.E.length : Int))) (
  some i_41) (
  some false)) (fun x => p_drydockref05_Few_J9 x7 i_41 i_42 x)
noncomputable def p_drydockref05_Few_J6 (i_16 : Int) (i_24 : Bool) : Option ((Bool × Int) ⊕ (Bool)) :=
  some (Sum.inl (i_24, (IntKind.i64.wrap (i_16 + 1))))
noncomputable def p_drydockref05_Few_J3 (a0 : (List T_Table)) (i_15 : Bool) (i_16 : Int) (i_17 : Bool) : Option ((Bool × Int) ⊕ (Bool)) :=
  cond i_17 (
  po (
  po (idx a0 i_16) fun x7 =>
  lpU (fun x => p_drydockref05_Few_L8 x7 x.1 x.2) ((decide ((x7.E.length : Int) ≤ 20)), 0)) (fun x => p_drydockref05_Few_J6 i_16 x)) (
  some (Sum.inr i_15))
noncomputable def p_drydockref05_Few_L2 (a0 : (List T_Table)) (i_15 : Bool) (i_16 : Int) : Option ((Bool × Int) ⊕ (Bool)) :=
  po (
  cond (decide (i_16 < (a0.length : Int))) (
  some i_15) (
  some false)) (fun x => p_drydockref05_Few_J3 a0 i_15 i_16 x)
noncomputable def p_drydockref05_Few_J1 (i_39 : Bool) : Option (Bool) :=
  some i_39
noncomputable def p_drydockref05_Few (a0 : (List T_Table)) : Option (Bool) :=
  po (
  lpU (fun x => p_drydockref05_Few_L2 a0 x.1 x.2) ((decide ((a0.length : Int) ≤ 6)), 0)) (fun x => p_drydockref05_Few_J1 x)
theorem c_drydockref05_Few {a0 : (List T_Table)} {r : Bool} (h : p_drydockref05_Few a0 = some r) : Ctr prog 13 [.sl false (a0.map enc_Table)] [] (rb r) [] := by
 unfold p_drydockref05_Few at h;refine Ctr.ofW tabOk func13 rfl call13 0 _ ntmps13 [.tmp 2] rfl rfl rfl (fun B => ?_);refine vs [0] (fun K hK => ?_);push_cast;refine hK _ ?_;clear hK K;refine vs [0,3] (fun K hK => ?_);push_cast;refine hK _ ?_;clear hK K;refine vj h (fun x => ⟨[(3,rb x)],[],69,50,0⟩) (fun v1 h hk1 => ?_) ?_
 ·refine vs [0,3,4] (fun K hK => ?_);push_cast;refine hK _ ?_;clear hK K;refine VC.block ?_;refine VC.loopP h (fun x => ⟨[(0,.sl false (a0.map enc_Table)),(3,rb x.1),(4,ri x.2)],[],62,50,0⟩) ?_ ?_
  ·exact sl (by push_cast)
  rintro ⟨i_15,i_16⟩ b2 (h : p_drydockref05_Few_L2 a0 i_15 i_16 = some b2) hf2;(try push_cast);unfold p_drydockref05_Few_L2 at h;refine VC.seq ?_;refine vj h (fun x => ⟨[(0,.sl false (a0.map enc_Table)),(3,rb i_15),(4,ri i_16),(15,rb x)],[],69,50,0⟩) (fun v3 h hk3 => ?_) ?_
  ·rcases Bool.eq_false_or_eq_true (decide (i_16 < (a0.length : Int))) with hb4 | hb4
   ·replace h := cond_yes hb4 h;refine vlG [some 9,some 10,some 11,some 12,some 13,some 14,some 15] (fun K hK => ?_);push_cast [hb4];(repeat refine .intro (by omega) ?_);refine hK _ ?_;clear hK K;refine ar h hk3 ?_;exact sl (by push_cast [hb4])
   ·replace h := cond_no hb4 h;refine vlG [some 9,some 10,some 11,some 12,some 13,some 14,some 15] (fun K hK => ?_);push_cast [hb4];(repeat refine .intro (by omega) ?_);refine hK _ ?_;clear hK K;refine ar h hk3 ?_;exact sl (by push_cast [hb4])
  ·rintro i_17 (h : p_drydockref05_Few_J3 a0 i_15 i_16 i_17 = some b2);(try push_cast);unfold p_drydockref05_Few_J3 at h;refine vc h (fun hb5 h => ?_) (fun hb5 h => ?_)
   ·refine VC.skip ?_;refine vj h (fun x => ⟨[(0,.sl false (a0.map enc_Table)),(3,rb x),(4,ri i_16)],[],115,50,0⟩) (fun v6 h hk6 => ?_) ?_
    ·refine VC.block ?_;obtain ⟨x7,hx7,h⟩ := po_some h;replace hx7 := idx_some4 hx7;refine vs [0,3,4] (fun K hK => ?_);push_cast [hx7];(repeat refine .intro (by omega) ?_);refine hK _ ?_;clear hK K;refine vs [0,3,4,5] (fun K hK => ?_);push_cast;refine hK _ ?_;clear hK K;refine VC.block ?_;refine VC.loopP h (fun x => ⟨[(0,.sl false (a0.map enc_Table)),(3,rb x.1),(4,ri i_16),(5,ri x.2)],[],104,50,0⟩) ?_ ?_
     ·exact sl (by push_cast [hb5])
     rintro ⟨i_41,i_42⟩ b8 (h : p_drydockref05_Few_L8 x7 i_41 i_42 = some b8) hf8;(try push_cast);unfold p_drydockref05_Few_L8 at h;refine VC.seq ?_;refine vj h (fun x => ⟨[(0,.sl false (a0.map enc_Table)),(3,rb i_41),(4,ri i_16),(5,ri i_42),(35,rb x)],[],115,50,0⟩) (fun v9 h hk9 => ?_) ?_
     ·rcases Bool.eq_false_or_eq_true (decide (i_42 < (x7.E.length : Int))) with hb10 | hb10
      ·replace h := cond_yes hb10 h;refine vlG [some 25,some 26,some 27,some 28,some 29,some 30,some 31,some 32,some 33,some 34,some 35] (fun K hK => ?_);refine runOps_cut 8 (fun K2 hK2 => ?_);push_cast [hb10,hx7];(repeat refine .intro (by omega) ?_);refine hK2 _ _ ?_;clear hK2 K2;simp only [List.drop_succ_cons,List.drop_zero];push_cast [hb10,hx7];(repeat refine .intro (by omega) ?_);refine hK _ ?_;clear hK K;refine ar h hk9 ?_;exact sl (by push_cast [hb5,hb10])
      ·replace h := cond_no hb10 h;refine vlG [some 25,some 26,some 27,some 28,some 29,some 30,some 31,some 32,some 33,some 34,some 35] (fun K hK => ?_);refine runOps_cut 8 (fun K2 hK2 => ?_);push_cast [hb10,hx7];(repeat refine .intro (by omega) ?_);refine hK2 _ _ ?_;clear hK2 K2;simp only [List.drop_succ_cons,List.drop_zero];push_cast [hb10,hx7];(repeat refine .intro (by omega) ?_);refine hK _ ?_;clear hK K;refine ar h hk9 ?_;exact sl (by push_cast [hb5,hb10])
     ·rintro i_43 (h : p_drydockref05_Few_J9 x7 i_41 i_42 i_43 = some b8);(try push_cast);unfold p_drydockref05_Few_J9 at h;refine vc h (fun hb11 h => ?_) (fun hb11 h => ?_)
      ·refine VC.skip ?_;refine VC.seq ?_;refine VC.block ?_;obtain ⟨x12,hx12,h⟩ := po_some h;replace hx12 := idx_some4 hx12;refine vl (fun K hK => ?_);refine runOps_cut 8 (fun K2 hK2 => ?_);push_cast [hx12,hx7];(repeat refine .intro (by omega) ?_);refine hK2 _ _ ?_;clear hK2 K2;simp only [List.drop_succ_cons,List.drop_zero];push_cast [hx12,hx7];(repeat refine .intro (by omega) ?_);refine hK _ ?_;clear hK K;refine vl (fun K hK => ?_);push_cast;refine hK _ ?_;clear hK K;refine bk h ?_;exact sl (by push_cast [hb5,hb11])
      ·refine VC.exit ?_;replace h := ol h hf8;refine ar h hk6 ?_;exact sl (by push_cast [hb5,hb11])
    ·rintro i_24 (h : p_drydockref05_Few_J6 i_16 i_24 = some b2);(try push_cast);unfold p_drydockref05_Few_J6 at h;refine vl (fun K hK => ?_);push_cast;refine hK _ ?_;clear hK K;refine bk h ?_;exact sl (by push_cast [hb5])
   ·refine VC.exit ?_;replace h := ol h hf2;refine ar h hk1 ?_;exact sl (by push_cast [hb5])
 ·rintro i_39 (h : p_drydockref05_Few_J1 i_39 = some r);(try push_cast);unfold p_drydockref05_Few_J1 at h;refine vs [2] (fun K hK => ?_);push_cast;refine hK _ ?_;clear hK K;refine VC.ret ?_;replace h := Option.some.inj h;subst h;exact en (by push_cast)
noncomputable def p_drydocklaw18_few_J1 (i_1 : Bool) : Option (Bool) :=
  some i_1
noncomputable def p_drydocklaw18_few (a0 : T_Prog) (a1 : (List T_Table)) (a2 : (List UInt32)) : Option (Bool) :=
  po (
  po (p_drydockref03_Few a0) fun r2 =>
  cond r2 (
  po (p_drydockref05_Few a1) fun r4 =>
  cond r4 (
  some (decide ((a2.length : Int) ≤ 40))) (
  some false)) (
  some false)) (fun x => p_drydocklaw18_few_J1 x)
theorem c_drydocklaw18_few {a0 : T_Prog} {a1 : (List T_Table)} {a2 : (List UInt32)} {r : Bool} (h : p_drydocklaw18_few a0 a1 a2 = some r) : Ctr prog 20 [.agg (enc_Prog a0), .sl false (a1.map enc_Table), .sl false (a2.map encU32)] [] (rb r) [] := by
 unfold p_drydocklaw18_few at h;refine Ctr.ofW tabOk func20 rfl call20 0 _ ntmps20 [.tmp 6] rfl rfl rfl (fun B => ?_);refine vs [1,2,3] (fun K hK => ?_);push_cast;refine hK _ ?_;clear hK K;refine vj h (fun x => ⟨[(6,rb x)],[],14,18,0⟩) (fun v1 h hk1 => ?_) ?_
 ·obtain ⟨r2,hr2,h⟩ := po_some h;rcases Bool.eq_false_or_eq_true r2 with hb3 | hb3
  ·replace h := cond_yes hb3 h;obtain ⟨r4,hr4,h⟩ := po_some h;rcases Bool.eq_false_or_eq_true r4 with hb5 | hb5
   ·replace h := cond_yes hb5 h;refine vlG [some 7,some 8,some 9,some 10,some 11,some 12,some 13,some 14,some 15,some 16,some 17,some 6] (fun K hK => ?_);refine runOps_cut 8 (fun K2 hK2 => ?_);push_cast [hb3,hb5];(repeat refine .intro (by omega) ?_);refine cp (c_drydockref03_Few hr2) ?_;push_cast [hb3,hb5];(repeat refine .intro (by omega) ?_);refine cp (c_drydockref05_Few hr4) ?_;push_cast [hb3,hb5];(repeat refine .intro (by omega) ?_);refine hK2 _ _ ?_;clear hK2 K2;simp only [List.drop_succ_cons,List.drop_zero];push_cast [hb3,hb5];(repeat refine .intro (by omega) ?_);refine hK _ ?_;clear hK K;refine ar h hk1 ?_;exact sl (by push_cast [hb3,hb5])
   ·replace h := cond_no hb5 h;refine vlG [some 7,some 8,some 9,some 10,some 11,some 12,some 13,some 14,some 15,some 16,some 17,some 6] (fun K hK => ?_);refine runOps_cut 8 (fun K2 hK2 => ?_);push_cast [hb3,hb5];(repeat refine .intro (by omega) ?_);refine cp (c_drydockref03_Few hr2) ?_;push_cast [hb3,hb5];(repeat refine .intro (by omega) ?_);refine cp (c_drydockref05_Few hr4) ?_;push_cast [hb3,hb5];(repeat refine .intro (by omega) ?_);refine hK2 _ _ ?_;clear hK2 K2;simp only [List.drop_succ_cons,List.drop_zero];push_cast [hb3,hb5];(repeat refine .intro (by omega) ?_);refine hK _ ?_;clear hK K;refine ar h hk1 ?_;exact sl (by push_cast [hb3,hb5])
  ·replace h := cond_no hb3 h;refine vlG [some 7,some 8,some 9,some 10,some 11,some 12,some 13,some 14,some 15,some 16,some 17,some 6] (fun K hK => ?_);refine runOps_cut 8 (fun K2 hK2 => ?_);push_cast [hb3];(repeat refine .intro (by omega) ?_);refine cp (c_drydockref03_Few hr2) ?_;push_cast [hb3];(repeat refine .intro (by omega) ?_);refine hK2 _ _ ?_;clear hK2 K2;simp only [List.drop_succ_cons,List.drop_zero];push_cast [hb3];(repeat refine .intro (by omega) ?_);refine hK _ ?_;clear hK K;refine ar h hk1 ?_;exact sl (by push_cast [hb3])
 ·rintro i_1 (h : p_drydocklaw18_few_J1 i_1 = some r);(try push_cast);unfold p_drydocklaw18_few_J1 at h;refine VC.ret ?_;replace h := Option.some.inj h;subst h;exact en (by push_cast)
noncomputable def p_drydocklaw18_ShiftCopies_J18 (i_22 : Int) (s_25 : T_Table) (i_26 : Bool) : Option ((T_Table × Int) ⊕ ((T_Table) ⊕ ((T_Table × Int) ⊕ ((T_Table) ⊕ (Bool))))) :=
  cond i_26 (
  some (Sum.inr (Sum.inr (Sum.inr (Sum.inr false))))) (
  some (Sum.inl (s_25, (IntKind.i64.wrap (i_22 + 1)))))
noncomputable def p_drydocklaw18_ShiftCopies_J14 (i_16 : Int) (i_22 : Int) (s_23 : T_Table) (i_24 : UInt32) : Option ((T_Table × Int) ⊕ ((T_Table) ⊕ ((T_Table × Int) ⊕ ((T_Table) ⊕ (Bool))))) :=
  po (
  cond (decide (i_16 ≥ (s_23.E.length : Int))) (
  some (s_23, true)) (
  po (idx s_23.E i_16) fun x20 =>
  cond (decide (i_22 ≥ (x20.V.length : Int))) (
  some (s_23, true)) (
  po (idx x20.V i_22) fun x22 =>
  cond ((x22.toNat : Int) != (i_24.toNat : Int)) (
  some (s_23, ((i_24.toNat : Int) != 4294967295))) (
  some (s_23, false))))) (fun x => p_drydocklaw18_ShiftCopies_J18 i_22 x.1 x.2)
noncomputable def p_drydocklaw18_ShiftCopies_L12 (a0 : T_Table) (a1 : T_Schema) (i_16 : Int) (s_21 : T_Table) (i_22 : Int) : Option ((T_Table × Int) ⊕ ((T_Table) ⊕ ((T_Table × Int) ⊕ ((T_Table) ⊕ (Bool))))) :=
  cond (decide (i_22 < a1.Words)) (
  po (
  po (idx a0.E i_16) fun x15 =>
  cond (decide (i_22 < (x15.V.length : Int))) (
  po (idx x15.V i_22) fun x17 =>
  some (s_21, x17)) (
  some (s_21, 0))) (fun x => p_drydocklaw18_ShiftCopies_J14 i_16 i_22 x.1 x.2)) (
  some (Sum.inr (Sum.inl s_21)))
noncomputable def p_drydocklaw18_ShiftCopies_J11 (i_16 : Int) (s_29 : T_Table) : Option ((T_Table × Int) ⊕ ((T_Table) ⊕ (Bool))) :=
  some (Sum.inl (s_29, (IntKind.i64.wrap (i_16 + 1))))
noncomputable def p_drydocklaw18_ShiftCopies_L9 (a0 : T_Table) (a1 : T_Schema) (s_15 : T_Table) (i_16 : Int) : Option ((T_Table × Int) ⊕ ((T_Table) ⊕ (Bool))) :=
  cond (decide (i_16 < (a0.E.length : Int))) (
  pm (
  lpU (fun x => p_drydocklaw18_ShiftCopies_L12 a0 a1 i_16 x.1 x.2) (s_15, 0)) (fun x => p_drydocklaw18_ShiftCopies_J11 i_16 x)) (
  some (Sum.inr (Sum.inl s_15)))
noncomputable def p_drydocklaw18_ShiftCopies_J26 (i_33 : Bool) : Option (Bool) :=
  some i_33
noncomputable def p_drydocklaw18_ShiftCopies_J8 (a1 : T_Schema) (a2 : Int) (s_32 : T_Table) : Option (Bool) :=
  po (p_shift_Image s_32 (T_Schema.mk a1.Kind a1.Cap a2 (IntKind.i64.wrap (a1.Ver + 1))) (T_Prog.mk ([(T_Fn.mk 0 ([(T_Inst.mk 2 0 0 0 false 0 2), (T_Inst.mk 7 0 0 0 false 0 0)]))]))) fun r25 =>
  po (
  cond (r25.2 != 0) (
  some true) (
  po (p_drydockref05_Same (T_Table.mk (T_Schema.mk a1.Kind a1.Cap a2 (IntKind.i64.wrap (a1.Ver + 1))) r25.1.E 0) r25.1) fun r28 =>
  cond r28 (
  some ((r25.1.E.length : Int) == (s_32.E.length : Int))) (
  some false))) (fun x => p_drydocklaw18_ShiftCopies_J26 x)
noncomputable def p_drydocklaw18_ShiftCopies_J2 (a0 : T_Table) (a1 : T_Schema) (a2 : Int) (r1 : Bool) (i_1 : Bool) : Option (Bool) :=
  cond i_1 (
  some r1) (
  po (p_shift_Image a0 a1 (T_Prog.mk ([(T_Fn.mk 0 ([(T_Inst.mk 2 0 0 0 false 0 2), (T_Inst.mk 7 0 0 0 false 0 0)]))]))) fun r6 =>
  cond (r6.2 != 0) (
  some ((r6.1.E.length : Int) == 0)) (
  pm (
  lpU (fun x => p_drydocklaw18_ShiftCopies_L9 a0 a1 x.1 x.2) (r6.1, 0)) (fun x => p_drydocklaw18_ShiftCopies_J8 a1 a2 x)))
noncomputable def p_drydocklaw18_ShiftCopies (a0 : T_Table) (a1 : T_Schema) (a2 : Int) : Option (Bool) :=
  po (p_drydocklaw18_awake) fun r1 =>
  po (
  cond r1 (
  po (p_drydocklaw18_few (T_Prog.mk []) ([a0]) []) fun r4 =>
  some (!r4)) (
  some true)) (fun x => p_drydocklaw18_ShiftCopies_J2 a0 a1 a2 r1 x)
theorem c_drydocklaw18_ShiftCopies {a0 : T_Table} {a1 : T_Schema} {a2 : Int} {r : Bool} (h : p_drydocklaw18_ShiftCopies a0 a1 a2 = some r) : Ctr prog 5 [.agg (enc_Table a0), .agg (enc_Schema a1), ri a2] [] (rb r) [] := by
 unfold p_drydocklaw18_ShiftCopies at h;refine Ctr.ofW tabOk func5 rfl call5 0 _ ntmps5 [.tmp 6] rfl rfl rfl (fun B => ?_);refine vs [2,3,4] (fun K hK => ?_);push_cast;refine hK _ ?_;clear hK K;obtain ⟨r1,hr1,h⟩ := po_some h;refine vs [2,3,4,7] (fun K hK => ?_);push_cast;refine cp (c_drydocklaw18_awake hr1) ?_;push_cast;refine hK _ ?_;clear hK K;refine VC.seq ?_;refine vj h (fun x => ⟨[(2,ri a2),(3,.ref 0 0),(4,.ref 1 0),(7,rb r1),(26,rb x)],[(0,.box 53 (enc_Table a0)),(1,.box 50 (enc_Schema a1))],14,144,0⟩) (fun v2 h hk2 => ?_) ?_
 ·rcases Bool.eq_false_or_eq_true r1 with hb3 | hb3
  ·replace h := cond_yes hb3 h;obtain ⟨r4,hr4,h⟩ := po_some h;refine vlG [some 18,some 19,some 20,some 21,some 22,some 23,some 24,some 25,some 26] (fun K hK => ?_);push_cast [hb3];(repeat refine .intro (by omega) ?_);refine ch (H := [(10,.row 53 6 0 (([a0]).map enc_Table))]) (H' := _) (Ctr.borrow (c_drydocklaw18_few hr4) (by push_cast [hb3]) rfl) (by push_cast [hb3]) ?_;push_cast [hb3];(repeat refine .intro (by omega) ?_);refine hK _ ?_;clear hK K;refine ar h hk2 ?_;exact sl (by push_cast [hb3])
  ·replace h := cond_no hb3 h;refine vlG [some 18,some 19,some 20,some 21,some 22,some 23,some 24,some 25,some 26] (fun K hK => ?_);push_cast [hb3];(repeat refine .intro (by omega) ?_);refine hK _ ?_;clear hK K;refine ar h hk2 ?_;exact sl (by push_cast [hb3])
 ·rintro i_1 (h : p_drydocklaw18_ShiftCopies_J2 a0 a1 a2 r1 i_1 = some r);(try push_cast);unfold p_drydocklaw18_ShiftCopies_J2 at h;refine vc h (fun hb5 h => ?_) (fun hb5 h => ?_)
  ·refine vs [6] (fun K hK => ?_);push_cast;refine hK _ ?_;clear hK K;refine VC.ret ?_;replace h := Option.some.inj h;subst h;exact en (by push_cast [hb5])
  ·refine VC.skip ?_;refine vs [2,3,4,8] (fun K hK => ?_);push_cast;refine hK _ ?_;clear hK K;refine VC.sub (s' := ⟨[(2,ri a2),(3,.ref 0 0),(4,.ref 1 0),(8,.ref 20 0)],[(0,.box 53 (enc_Table a0)),(1,.box 50 (enc_Schema a1)),(18,.row 71 2 0 (([(T_Fn.mk 0 ([(T_Inst.mk 2 0 0 0 false 0 2),(T_Inst.mk 7 0 0 0 false 0 0)]))]).map enc_Fn)),(20,.box 56 [.row 18 0 2 0 1])],22,144,0⟩) (so (by push_cast [hb5])) ?_;refine VC.sub (Sub.freeze prog (b := 20) (j := 0) rfl rfl rfl (by push_cast [hb5] <;> omega) (by decide)) ?_;refine VC.sub (s' := ⟨[(2,ri a2),(3,.ref 0 0),(4,.ref 1 0),(8,.ref 20 0)],[(0,.box 53 (enc_Table a0)),(1,.box 50 (enc_Schema a1)),(20,.box 56 [.sl false (([(T_Fn.mk 0 ([(T_Inst.mk 2 0 0 0 false 0 2),(T_Inst.mk 7 0 0 0 false 0 0)]))]).map enc_Fn)])],22,144,0⟩) (so (by push_cast [hb5])) ?_;obtain ⟨r6,hr6,h⟩ := po_some h;refine vs [2,3,4,8,9,10] (fun K hK => ?_);push_cast;refine ch (H := []) (Ctr.loH (Ctr.ren (Bij.swp 0 25 Bij.id) (c_shift_Image hr6) (by push_cast) (by push_cast))) (by push_cast) ?_;push_cast;refine hK _ ?_;clear hK K;refine VC.sub (s' := ⟨[(2,ri a2),(3,.ref 0 0),(4,.ref 1 0),(8,.ref 20 0),(9,.ref 29 0),(10,ri r6.2)],[(0,.box 53 (enc_Table a0)),(1,.box 50 (enc_Schema a1)),(20,.box 56 [.sl false (([(T_Fn.mk 0 ([(T_Inst.mk 2 0 0 0 false 0 2),(T_Inst.mk 7 0 0 0 false 0 0)]))]).map enc_Fn)]),(25,.row 66 2 0 (r6.1.E.map enc_Entry)),(29,.box 53 [ri r6.1.S.Kind,ri r6.1.S.Cap,ri r6.1.S.Words,ri r6.1.S.Ver,.row 25 0 2 0 r6.1.E.length,ru r6.1.Next])],32,144,0⟩) (so (by push_cast [hb5])) ?_;refine VC.seq ?_;refine vs [2,3,4,8,9,42] (fun K hK => ?_);push_cast;refine hK _ ?_;clear hK K;refine vc h (fun hb7 h => ?_) (fun hb7 h => ?_)
   ·refine vs [6] (fun K hK => ?_);push_cast;refine hK _ ?_;clear hK K;refine VC.ret ?_;replace h := Option.some.inj h;subst h;exact en (by push_cast [hb5,hb7])
   ·refine VC.skip ?_;refine vm h (fun x => ⟨[(2,ri a2),(4,.ref 1 0),(8,.ref 20 0),(9,.ref 29 0)],[(1,.box 50 (enc_Schema a1)),(20,.box 56 [.sl false (([(T_Fn.mk 0 ([(T_Inst.mk 2 0 0 0 false 0 2),(T_Inst.mk 7 0 0 0 false 0 0)]))]).map enc_Fn)]),(25,.row 66 2 0 (x.E.map enc_Entry)),(29,.box 53 [ri x.S.Kind,ri x.S.Cap,ri x.S.Words,ri x.S.Ver,.row 25 0 2 0 x.E.length,ru x.Next])],113,144,0⟩) (fun v8 h hk8 => ?_) ?_
    ·refine vs [2,3,4,8,9,11] (fun K hK => ?_);push_cast;refine hK _ ?_;clear hK K;refine VC.block ?_;refine VC.loopP h (fun x => ⟨[(2,ri a2),(3,.ref 0 0),(4,.ref 1 0),(8,.ref 20 0),(9,.ref 29 0),(11,ri x.2)],[(0,.box 53 (enc_Table a0)),(1,.box 50 (enc_Schema a1)),(20,.box 56 [.sl false (([(T_Fn.mk 0 ([(T_Inst.mk 2 0 0 0 false 0 2),(T_Inst.mk 7 0 0 0 false 0 0)]))]).map enc_Fn)]),(25,.row 66 2 0 (x.1.E.map enc_Entry)),(29,.box 53 [ri x.1.S.Kind,ri x.1.S.Cap,ri x.1.S.Words,ri x.1.S.Ver,.row 25 0 2 0 x.1.E.length,ru x.1.Next])],108,144,0⟩) ?_ ?_
     ·exact sl (by push_cast [hb5,hb7])
     rintro ⟨s_15,i_16⟩ b9 (h : p_drydocklaw18_ShiftCopies_L9 a0 a1 s_15 i_16 = some b9) hf9;(try push_cast);unfold p_drydocklaw18_ShiftCopies_L9 at h;refine VC.seq ?_;refine vs [2,3,4,8,9,11,51] (fun K hK => ?_);push_cast;refine hK _ ?_;clear hK K;refine vc h (fun hb10 h => ?_) (fun hb10 h => ?_)
     ·refine VC.skip ?_;refine vm h (fun x => ⟨[(2,ri a2),(3,.ref 0 0),(4,.ref 1 0),(8,.ref 20 0),(9,.ref 29 0),(11,ri i_16)],[(0,.box 53 (enc_Table a0)),(1,.box 50 (enc_Schema a1)),(20,.box 56 [.sl false (([(T_Fn.mk 0 ([(T_Inst.mk 2 0 0 0 false 0 2),(T_Inst.mk 7 0 0 0 false 0 0)]))]).map enc_Fn)]),(25,.row 66 2 0 (x.E.map enc_Entry)),(29,.box 53 [ri x.S.Kind,ri x.S.Cap,ri x.S.Words,ri x.S.Ver,.row 25 0 2 0 x.E.length,ru x.Next])],178,144,0⟩) (fun v11 h hk11 => ?_) ?_
      ·refine VC.block ?_;refine vs [2,3,4,8,9,11,12] (fun K hK => ?_);push_cast;refine hK _ ?_;clear hK K;refine VC.block ?_;refine VC.loopP h (fun x => ⟨[(2,ri a2),(3,.ref 0 0),(4,.ref 1 0),(8,.ref 20 0),(9,.ref 29 0),(11,ri i_16),(12,ri x.2)],[(0,.box 53 (enc_Table a0)),(1,.box 50 (enc_Schema a1)),(20,.box 56 [.sl false (([(T_Fn.mk 0 ([(T_Inst.mk 2 0 0 0 false 0 2),(T_Inst.mk 7 0 0 0 false 0 0)]))]).map enc_Fn)]),(25,.row 66 2 0 (x.1.E.map enc_Entry)),(29,.box 53 [ri x.1.S.Kind,ri x.1.S.Cap,ri x.1.S.Words,ri x.1.S.Ver,.row 25 0 2 0 x.1.E.length,ru x.1.Next])],174,144,0⟩) ?_ ?_
       ·exact sl (by push_cast [hb5,hb7,hb10])
       rintro ⟨s_21,i_22⟩ b12 (h : p_drydocklaw18_ShiftCopies_L12 a0 a1 i_16 s_21 i_22 = some b12) hf12;(try push_cast);unfold p_drydocklaw18_ShiftCopies_L12 at h;refine VC.seq ?_;refine vs [2,3,4,8,9,11,12,57] (fun K hK => ?_);push_cast;refine hK _ ?_;clear hK K;refine vc h (fun hb13 h => ?_) (fun hb13 h => ?_)
       ·refine VC.skip ?_;refine VC.seq ?_;refine VC.block ?_;refine vs [2,3,4,8,9,11,12,13] (fun K hK => ?_);push_cast;refine hK _ ?_;clear hK K;refine vj h (fun x => ⟨[(2,ri a2),(3,.ref 0 0),(4,.ref 1 0),(8,.ref 20 0),(9,.ref 29 0),(11,ri i_16),(12,ri i_22),(13,ru x.2)],[(0,.box 53 (enc_Table a0)),(1,.box 50 (enc_Schema a1)),(20,.box 56 [.sl false (([(T_Fn.mk 0 ([(T_Inst.mk 2 0 0 0 false 0 2),(T_Inst.mk 7 0 0 0 false 0 0)]))]).map enc_Fn)]),(25,.row 66 2 0 (x.1.E.map enc_Entry)),(29,.box 53 [ri x.1.S.Kind,ri x.1.S.Cap,ri x.1.S.Words,ri x.1.S.Ver,.row 25 0 2 0 x.1.E.length,ru x.1.Next])],198,144,0⟩) (fun v14 h hk14 => ?_) ?_
        ·obtain ⟨x15,hx15,h⟩ := po_some h;replace hx15 := idx_some4 hx15;refine vs [2,3,4,8,9,11,12,13,68] (fun K hK => ?_);push_cast [hx15];(repeat refine .intro (by omega) ?_);refine hK _ ?_;clear hK K;refine vc h (fun hb16 h => ?_) (fun hb16 h => ?_)
         ·obtain ⟨x17,hx17,h⟩ := po_some h;replace hx17 := idx_some4 hx17;refine vl (fun K hK => ?_);push_cast [hx17,hx15];(repeat refine .intro (by omega) ?_);refine hK _ ?_;clear hK K;refine ar h hk14 ?_;exact sl (by push_cast [hb5,hb7,hb10,hb13,hb16])
         ·refine VC.skip ?_;refine ar h hk14 ?_;exact sl (by push_cast [hb5,hb7,hb10,hb13,hb16])
        ·rintro ⟨s_23,i_24⟩ (h : p_drydocklaw18_ShiftCopies_J14 i_16 i_22 s_23 i_24 = some b12);(try push_cast);unfold p_drydocklaw18_ShiftCopies_J14 at h;refine vj h (fun x => ⟨[(2,ri a2),(3,.ref 0 0),(4,.ref 1 0),(8,.ref 20 0),(9,.ref 29 0),(11,ri i_16),(12,ri i_22),(110,rb x.2)],[(0,.box 53 (enc_Table a0)),(1,.box 50 (enc_Schema a1)),(20,.box 56 [.sl false (([(T_Fn.mk 0 ([(T_Inst.mk 2 0 0 0 false 0 2),(T_Inst.mk 7 0 0 0 false 0 0)]))]).map enc_Fn)]),(25,.row 66 2 0 (x.1.E.map enc_Entry)),(29,.box 53 [ri x.1.S.Kind,ri x.1.S.Cap,ri x.1.S.Words,ri x.1.S.Ver,.row 25 0 2 0 x.1.E.length,ru x.1.Next])],231,144,0⟩) (fun v18 h hk18 => ?_) ?_
         ·rcases Bool.eq_false_or_eq_true (decide (i_16 ≥ (s_23.E.length : Int))) with hb19 | hb19
          ·replace h := cond_yes hb19 h;refine vlG [some 78,some 79,some 80,some 81,some 82,some 83,some 84,some 85,some 86,some 87,some 88,some 89,some 90,some 91,some 92,some 93,some 94,some 95,some 96,some 97,some 98,some 99,some 100,some 101,some 102,some 103,some 104,some 105,some 106,some 107,some 108,some 109,some 110] (fun K hK => ?_);refine runOps_cut 8 (fun K2 hK2 => ?_);push_cast [hb19];(repeat refine .intro (by omega) ?_);refine hK2 _ _ ?_;clear hK2 K2;simp only [List.drop_succ_cons,List.drop_zero];refine runOps_cut 8 (fun K2 hK2 => ?_);push_cast [hb19];(repeat refine .intro (by omega) ?_);refine hK2 _ _ ?_;clear hK2 K2;simp only [List.drop_succ_cons,List.drop_zero];refine runOps_cut 8 (fun K2 hK2 => ?_);push_cast [hb19];(repeat refine .intro (by omega) ?_);refine hK2 _ _ ?_;clear hK2 K2;simp only [List.drop_succ_cons,List.drop_zero];push_cast [hb19];(repeat refine .intro (by omega) ?_);refine hK _ ?_;clear hK K;refine ar h hk18 ?_;exact sl (by push_cast [hb5,hb7,hb10,hb13,hb19])
          ·replace h := cond_no hb19 h;obtain ⟨x20,hx20,h⟩ := po_some h;replace hx20 := idx_some4 hx20;rcases Bool.eq_false_or_eq_true (decide (i_22 ≥ (x20.V.length : Int))) with hb21 | hb21
           ·replace h := cond_yes hb21 h;refine vlG [some 78,some 79,some 80,some 81,some 82,some 83,some 84,some 85,some 86,some 87,some 88,some 89,some 90,some 91,some 92,some 93,some 94,some 95,some 96,some 97,some 98,some 99,some 100,some 101,some 102,some 103,some 104,some 105,some 106,some 107,some 108,some 109,some 110] (fun K hK => ?_);refine runOps_cut 8 (fun K2 hK2 => ?_);push_cast [hb19,hx20,hb21];(repeat refine .intro (by omega) ?_);refine hK2 _ _ ?_;clear hK2 K2;simp only [List.drop_succ_cons,List.drop_zero];refine runOps_cut 8 (fun K2 hK2 => ?_);push_cast [hb19,hx20,hb21];(repeat refine .intro (by omega) ?_);refine hK2 _ _ ?_;clear hK2 K2;simp only [List.drop_succ_cons,List.drop_zero];refine runOps_cut 8 (fun K2 hK2 => ?_);push_cast [hb19,hx20,hb21];(repeat refine .intro (by omega) ?_);refine hK2 _ _ ?_;clear hK2 K2;simp only [List.drop_succ_cons,List.drop_zero];push_cast [hb19,hx20,hb21];(repeat refine .intro (by omega) ?_);refine hK _ ?_;clear hK K;refine ar h hk18 ?_;exact sl (by push_cast [hb5,hb7,hb10,hb13,hb19,hb21])
           ·replace h := cond_no hb21 h;obtain ⟨x22,hx22,h⟩ := po_some h;replace hx22 := idx_some4 hx22;rcases Bool.eq_false_or_eq_true ((x22.toNat : Int) != (i_24.toNat : Int)) with hb23 | hb23
            ·replace h := cond_yes hb23 h;refine vlG [some 78,some 79,some 80,some 81,some 82,some 83,some 84,some 85,some 86,some 87,some 88,some 89,some 90,some 91,some 92,some 93,some 94,some 95,some 96,some 97,some 98,some 99,some 100,some 101,some 102,some 103,some 104,some 105,some 106,some 107,some 108,some 109,some 110] (fun K hK => ?_);refine runOps_cut 8 (fun K2 hK2 => ?_);push_cast [hb19,hx20,hb21,hx22,hb23];(repeat refine .intro (by omega) ?_);refine hK2 _ _ ?_;clear hK2 K2;simp only [List.drop_succ_cons,List.drop_zero];refine runOps_cut 8 (fun K2 hK2 => ?_);push_cast [hb19,hx20,hb21,hx22,hb23];(repeat refine .intro (by omega) ?_);refine hK2 _ _ ?_;clear hK2 K2;simp only [List.drop_succ_cons,List.drop_zero];refine runOps_cut 8 (fun K2 hK2 => ?_);push_cast [hb19,hx20,hb21,hx22,hb23];(repeat refine .intro (by omega) ?_);refine hK2 _ _ ?_;clear hK2 K2;simp only [List.drop_succ_cons,List.drop_zero];push_cast [hb19,hx20,hb21,hx22,hb23];(repeat refine .intro (by omega) ?_);refine hK _ ?_;clear hK K;refine ar h hk18 ?_;exact sl (by push_cast [hb5,hb7,hb10,hb13,hb19,hb21,hb23])
            ·replace h := cond_no hb23 h;refine vlG [some 78,some 79,some 80,some 81,some 82,some 83,some 84,some 85,some 86,some 87,some 88,some 89,some 90,some 91,some 92,some 93,some 94,some 95,some 96,some 97,some 98,some 99,some 100,some 101,some 102,some 103,some 104,some 105,some 106,some 107,some 108,some 109,some 110] (fun K hK => ?_);refine runOps_cut 8 (fun K2 hK2 => ?_);push_cast [hb19,hx20,hb21,hx22,hb23];(repeat refine .intro (by omega) ?_);refine hK2 _ _ ?_;clear hK2 K2;simp only [List.drop_succ_cons,List.drop_zero];refine runOps_cut 8 (fun K2 hK2 => ?_);push_cast [hb19,hx20,hb21,hx22,hb23];(repeat refine .intro (by omega) ?_);refine hK2 _ _ ?_;clear hK2 K2;simp only [List.drop_succ_cons,List.drop_zero];refine runOps_cut 8 (fun K2 hK2 => ?_);push_cast [hb19,hx20,hb21,hx22,hb23];(repeat refine .intro (by omega) ?_);refine hK2 _ _ ?_;clear hK2 K2;simp only [List.drop_succ_cons,List.drop_zero];push_cast [hb19,hx20,hb21,hx22,hb23];(repeat refine .intro (by omega) ?_);refine hK _ ?_;clear hK K;refine ar h hk18 ?_;exact sl (by push_cast [hb5,hb7,hb10,hb13,hb19,hb21,hb23])
         ·rintro ⟨s_25,i_26⟩ (h : p_drydocklaw18_ShiftCopies_J18 i_22 s_25 i_26 = some b12);(try push_cast);unfold p_drydocklaw18_ShiftCopies_J18 at h;refine vc h (fun hb24 h => ?_) (fun hb24 h => ?_)
          ·refine vs [6] (fun K hK => ?_);push_cast;refine hK _ ?_;clear hK K;refine VC.ret ?_;replace h := ol h hf12;replace h := om h hk11;replace h := ol h hf9;replace h := om h hk8;replace h := Option.some.inj h;subst h;exact en (by push_cast [hb5,hb7,hb10,hb13,hb24])
          ·refine VC.skip ?_;refine vl (fun K hK => ?_);push_cast;refine hK _ ?_;clear hK K;refine bk h ?_;exact sl (by push_cast [hb5,hb7,hb10,hb13,hb24])
       ·refine VC.exit ?_;replace h := ol h hf12;refine am h hk11 ?_;exact sl (by push_cast [hb5,hb7,hb10,hb13])
      ·rintro s_29 (h : p_drydocklaw18_ShiftCopies_J11 i_16 s_29 = some b9);(try push_cast);unfold p_drydocklaw18_ShiftCopies_J11 at h;refine vl (fun K hK => ?_);push_cast;refine hK _ ?_;clear hK K;refine bk h ?_;exact sl (by push_cast [hb5,hb7,hb10])
     ·refine VC.exit ?_;replace h := ol h hf9;refine am h hk8 ?_;exact sl (by push_cast [hb5,hb7,hb10])
    ·rintro s_32 (h : p_drydocklaw18_ShiftCopies_J8 a1 a2 s_32 = some r);(try push_cast);unfold p_drydocklaw18_ShiftCopies_J8 at h;refine vs [2,4,8,9,14] (fun K hK => ?_);push_cast;refine hK _ ?_;clear hK K;refine vs [2,8,9,14] (fun K hK => ?_);push_cast;refine hK _ ?_;clear hK K;refine vs [8,9,14] (fun K hK => ?_);push_cast;refine hK _ ?_;clear hK K;refine VC.sub (Sub.freeze prog (b := 29) (j := 4) rfl rfl rfl (by push_cast [hb5,hb7] <;> omega) (by decide)) ?_;refine VC.sub (s' := ⟨[(8,.ref 20 0),(9,.ref 29 0),(14,.ref 114 0)],[(20,.box 56 [.sl false (([(T_Fn.mk 0 ([(T_Inst.mk 2 0 0 0 false 0 2),(T_Inst.mk 7 0 0 0 false 0 0)]))]).map enc_Fn)]),(29,.box 53 (enc_Table s_32)),(114,.box 50 [ri a1.Kind,ri a1.Cap,ri a2,ri (IntKind.i64.wrap (a1.Ver + 1))])],124,144,0⟩) (so (by push_cast [hb5,hb7])) ?_;obtain ⟨r25,hr25,h⟩ := po_some h;refine vs [9,14,15,16] (fun K hK => ?_);push_cast;refine ch (H := []) (Ctr.loH (Ctr.ren (Bij.swp 0 127 Bij.id) (c_shift_Image hr25) (by push_cast) (by push_cast))) (by push_cast) ?_;push_cast;refine hK _ ?_;clear hK K;refine VC.sub (s' := ⟨[(9,.ref 29 0),(14,.ref 114 0),(15,.ref 131 0),(16,ri r25.2)],[(29,.box 53 (enc_Table s_32)),(114,.box 50 [ri a1.Kind,ri a1.Cap,ri a2,ri (IntKind.i64.wrap (a1.Ver + 1))]),(127,.row 66 2 0 (r25.1.E.map enc_Entry)),(131,.box 53 [ri r25.1.S.Kind,ri r25.1.S.Cap,ri r25.1.S.Words,ri r25.1.S.Ver,.row 127 0 2 0 r25.1.E.length,ru r25.1.Next])],134,144,0⟩) (so (by push_cast [hb5,hb7])) ?_;refine vj h (fun x => ⟨[(6,rb x)],[],154,144,0⟩) (fun v26 h hk26 => ?_) ?_
     ·rcases Bool.eq_false_or_eq_true (r25.2 != 0) with hb27 | hb27
      ·replace h := cond_yes hb27 h;refine vlG [some 125,some 126,some 127,some 128,some 129,some 130,some 131,some 132,some 133,some 134,some 135,some 136,some 137,some 138,some 139,some 140,some 141,some 142,some 143,some 6] (fun K hK => ?_);refine runOps_cut 8 (fun K2 hK2 => ?_);push_cast [hb27];(repeat refine .intro (by omega) ?_);refine hK2 _ _ ?_;clear hK2 K2;simp only [List.drop_succ_cons,List.drop_zero];refine runOps_cut 8 (fun K2 hK2 => ?_);push_cast [hb27];(repeat refine .intro (by omega) ?_);refine hK2 _ _ ?_;clear hK2 K2;simp only [List.drop_succ_cons,List.drop_zero];push_cast [hb27];(repeat refine .intro (by omega) ?_);refine hK _ ?_;clear hK K;refine ar h hk26 ?_;exact sl (by push_cast [hb5,hb7,hb27])
      ·replace h := cond_no hb27 h;obtain ⟨r28,hr28,h⟩ := po_some h;rcases Bool.eq_false_or_eq_true r28 with hb29 | hb29
       ·replace h := cond_yes hb29 h;refine vlG [some 125,some 126,some 127,some 128,some 129,some 130,some 131,some 132,some 133,some 134,some 135,some 136,some 137,some 138,some 139,some 140,some 141,some 142,some 143,some 6] (fun K hK => ?_);refine runOps_cut 8 (fun K2 hK2 => ?_);push_cast [hb27,hb29];(repeat refine .intro (by omega) ?_);refine hK2 _ _ ?_;clear hK2 K2;simp only [List.drop_succ_cons,List.drop_zero];refine runOps_cut 8 (fun K2 hK2 => ?_);push_cast [hb27,hb29];(repeat refine .intro (by omega) ?_);refine ch (H := [(127,.row 66 2 0 (r25.1.E.map enc_Entry))]) (H' := _) (Ctr.borrow (c_drydockref05_Same (T_Table.mk (T_Schema.mk a1.Kind a1.Cap a2 (IntKind.i64.wrap (a1.Ver + 1))) r25.1.E 0) r25.1 hr28) (by push_cast [hb27,hb29]) rfl) (by push_cast [hb27,hb29]) ?_;push_cast [hb27,hb29];(repeat refine .intro (by omega) ?_);refine hK2 _ _ ?_;clear hK2 K2;simp only [List.drop_succ_cons,List.drop_zero];push_cast [hb27,hb29];(repeat refine .intro (by omega) ?_);refine hK _ ?_;clear hK K;refine ar h hk26 ?_;exact sl (by push_cast [hb5,hb7,hb27,hb29])
       ·replace h := cond_no hb29 h;refine vlG [some 125,some 126,some 127,some 128,some 129,some 130,some 131,some 132,some 133,some 134,some 135,some 136,some 137,some 138,some 139,some 140,some 141,some 142,some 143,some 6] (fun K hK => ?_);refine runOps_cut 8 (fun K2 hK2 => ?_);push_cast [hb27,hb29];(repeat refine .intro (by omega) ?_);refine hK2 _ _ ?_;clear hK2 K2;simp only [List.drop_succ_cons,List.drop_zero];refine runOps_cut 8 (fun K2 hK2 => ?_);push_cast [hb27,hb29];(repeat refine .intro (by omega) ?_);refine ch (H := [(127,.row 66 2 0 (r25.1.E.map enc_Entry))]) (H' := _) (Ctr.borrow (c_drydockref05_Same (T_Table.mk (T_Schema.mk a1.Kind a1.Cap a2 (IntKind.i64.wrap (a1.Ver + 1))) r25.1.E 0) r25.1 hr28) (by push_cast [hb27,hb29]) rfl) (by push_cast [hb27,hb29]) ?_;push_cast [hb27,hb29];(repeat refine .intro (by omega) ?_);refine hK2 _ _ ?_;clear hK2 K2;simp only [List.drop_succ_cons,List.drop_zero];push_cast [hb27,hb29];(repeat refine .intro (by omega) ?_);refine hK _ ?_;clear hK K;refine ar h hk26 ?_;exact sl (by push_cast [hb5,hb7,hb27,hb29])
     ·rintro i_33 (h : p_drydocklaw18_ShiftCopies_J26 i_33 = some r);(try push_cast);unfold p_drydocklaw18_ShiftCopies_J26 at h;refine VC.ret ?_;replace h := Option.some.inj h;subst h;exact en (by push_cast [hb5,hb7])
/-! ### Few -/
structure FewT (t : T_Table) : Prop where
  e : t.E.length ≤ 20
  v : ∀ e ∈ t.E, e.V.length ≤ 6
structure FewL (l : List T_Table) : Prop where
  len : l.length ≤ 6
  t : ∀ t ∈ l, FewT t
theorem few1 (t : T_Table) : ∃ b, lpU (fun x => p_drydockref05_Few_L8 t x.1 x.2) ((decide ((t.E.length : Int) ≤ 20)), 0) = some b ∧ (b = true → FewT t) := by
  refine lp_inv (fun s => (s.1 = true → t.E.length ≤ 20) ∧ ∃ n : Nat, s.2 = (n : Int) ∧ n ≤ t.E.length ∧ (s.1 = true → ∀ j e, j < n → t.E[j]? = some e → e.V.length ≤ 6)) (fun s => ((t.E.length : Int) - s.2).toNat) (fun b => b = true → FewT t) ?_ _ ?_
  · rintro ⟨b, i⟩ ⟨h1, n, rfl, h2, h3⟩
    simp only at h1 h3
    simp only [p_drydockref05_Few_L8]
    by_cases hlt : n < t.E.length
    · have hd : decide ((n : Int) < (t.E.length : Int)) = true := by simp; omega
      rw [hd]
      simp only [cond_true, po_of, p_drydockref05_Few_J9]
      cases b with
      | true =>
        left
        simp only [cond_true, idx_nat, List.getElem?_eq_getElem hlt, po_of]
        have hn := h1 rfl
        refine ⟨_, rfl, ⟨fun _ => hn, n + 1, w64 (by omega), by omega, fun hb j e hj he => ?_⟩, by simp only [w64 (show n < 9223372036854775807 by omega)]; omega⟩
        rcases Nat.lt_or_ge j n with hjn | hjn
        · exact h3 rfl j e hjn he
        · have : j = n := by omega
          subst this
          rw [List.getElem?_eq_getElem hlt] at he
          injection he with he
          subst he
          simp at hb
          omega
      | false =>
        right
        exact ⟨false, rfl, fun h => by cases h⟩
    · have hd : decide ((n : Int) < (t.E.length : Int)) = false := by simp; omega
      rw [hd]
      right
      refine ⟨b, rfl, fun hb => ⟨h1 hb, fun e he => ?_⟩⟩
      obtain ⟨j, hj⟩ := List.mem_iff_getElem?.1 he
      exact h3 hb j e (by have := get_lt hj; omega) hj
  · exact ⟨fun h => by simp at h; omega, 0, rfl, Nat.zero_le _, fun _ j e hj => by omega⟩
theorem few_tells (l : List T_Table) : ∃ b, p_drydockref05_Few l = some b ∧ (b = true → FewL l) := by
  have key : ∃ b, lpU (fun x => p_drydockref05_Few_L2 l x.1 x.2) ((decide ((l.length : Int) ≤ 6)), 0) = some b ∧ (b = true → FewL l) := by
    refine lp_inv (fun s => (s.1 = true → l.length ≤ 6) ∧ ∃ n : Nat, s.2 = (n : Int) ∧ n ≤ l.length ∧ (s.1 = true → ∀ j t, j < n → l[j]? = some t → FewT t)) (fun s => ((l.length : Int) - s.2).toNat) (fun b => b = true → FewL l) ?_ _ ?_
    · rintro ⟨b, i⟩ ⟨h1, n, rfl, h2, h3⟩
      simp only at h1 h3
      simp only [p_drydockref05_Few_L2]
      by_cases hlt : n < l.length
      · have hd : decide ((n : Int) < (l.length : Int)) = true := by simp; omega
        rw [hd]
        simp only [cond_true, po_of, p_drydockref05_Few_J3]
        cases b with
        | true =>
          left
          obtain ⟨b2, e1, e2⟩ := few1 l[n]
          simp only [cond_true, idx_nat, List.getElem?_eq_getElem hlt, po_of, e1, p_drydockref05_Few_J6]
          have hn := h1 rfl
          refine ⟨_, rfl, ⟨fun _ => hn, n + 1, w64 (by omega), by omega, fun hb j t hj ht => ?_⟩, by simp only [w64 (show n < 9223372036854775807 by omega)]; omega⟩
          rcases Nat.lt_or_ge j n with hjn | hjn
          · exact h3 rfl j t hjn ht
          · have : j = n := by omega
            subst this
            rw [List.getElem?_eq_getElem hlt] at ht
            injection ht with ht
            subst ht
            exact e2 hb
        | false =>
          right
          exact ⟨false, rfl, fun h => by cases h⟩
      · have hd : decide ((n : Int) < (l.length : Int)) = false := by simp; omega
        rw [hd]
        right
        refine ⟨b, rfl, fun hb => ⟨h1 hb, fun t ht => ?_⟩⟩
        obtain ⟨j, hj⟩ := List.mem_iff_getElem?.1 ht
        exact h3 hb j t (by have := get_lt hj; omega) hj
    · exact ⟨fun h => by simp at h; omega, 0, rfl, Nat.zero_le _, fun _ j e hj => by omega⟩
  obtain ⟨b, h1, h2⟩ := key
  exact ⟨b, by simp only [p_drydockref05_Few, h1, po_of, p_drydockref05_Few_J1], h2⟩
theorem few03 : p_drydockref03_Few ⟨[]⟩ = some true := by
  unfold p_drydockref03_Few
  rw [lpU_inr (r := true) (by rfl)]
  rfl
theorem few18 (t : T_Table) : ∃ b, p_drydocklaw18_few ⟨[]⟩ [t] [] = some b := by
  obtain ⟨b, hb, _⟩ := few_tells [t]
  unfold p_drydocklaw18_few
  simp only [few03, po_of, cond_true, hb]
  cases b <;> exact ⟨_, rfl⟩
theorem words_ok {t : T_Table} {s : T_Schema} {x : T_Table} (hx : Put t s x) {k : Nat} (hk : k < t.E.length) : lpU (fun q => p_drydocklaw18_ShiftCopies_L12 t s (k : Int) q.1 q.2) (x, 0) = some (.inl x) := by
  have hb := Sch.may_bounds hx.smay
  have c2 : (toS s).words = s.Words := rfl
  rw [c2] at hb
  obtain ⟨W, hW⟩ : ∃ W : Nat, s.Words = (W : Int) := ⟨s.Words.toNat, by omega⟩
  obtain ⟨e, he⟩ : ∃ e, t.E[k]? = some e := ⟨_, List.getElem?_eq_getElem hk⟩
  obtain ⟨e', he', hl', hw'⟩ := hx.at_ k e he
  rw [hW, Int.toNat_natCast] at hl' hw'
  have hkx : k < x.E.length := (List.getElem?_eq_some_iff.1 he').1
  obtain ⟨r, hr, hq⟩ := lp_inv (step := fun q => p_drydocklaw18_ShiftCopies_L12 t s (k : Int) q.1 q.2) (fun q => q.1 = x ∧ ∃ n : Nat, q.2 = (n : Int) ∧ n ≤ W) (fun q => W - q.2.toNat) (fun r => r = .inl x) (by
    rintro ⟨u, i⟩ ⟨hu, n, hn, hnW⟩
    simp only at hu hn
    subst hu
    subst hn
    unfold p_drydocklaw18_ShiftCopies_L12
    rw [hW]
    by_cases hlt : n < W
    · left
      rw [decide_eq_true (show (n : Int) < (W : Int) by omega)]
      have hin : (po (po (idx t.E (k : Int)) fun x15 => cond (decide ((n : Int) < (x15.V.length : Int))) (po (idx x15.V (n : Int)) fun x17 => some (u, x17)) (some (u, 0))) fun q => p_drydocklaw18_ShiftCopies_J14 (k : Int) (n : Int) q.1 q.2) = p_drydocklaw18_ShiftCopies_J14 (k : Int) (n : Int) u (wantW e.V n) := by
        simp only [idxN he, po_of]
        by_cases hkv : n < e.V.length
        · have hx : e.V[n]? = some (wantW e.V n) := by simp [wantW, hkv]
          rw [decide_eq_true (show (n : Int) < (e.V.length : Int) by omega)]
          simp only [cond_true, idxN hx, po_of]
        · rw [decide_eq_false (show ¬ (n : Int) < (e.V.length : Int) by omega)]
          have : wantW e.V n = 0 := by simp [wantW, List.getD_eq_getElem?_getD, List.getElem?_eq_none (show e.V.length ≤ n by omega)]
          rw [this]
          simp only [cond_false, po_of]
      simp only [cond_true]
      rw [hin]
      unfold p_drydocklaw18_ShiftCopies_J14
      rw [decide_eq_false (show ¬ (k : Int) ≥ (u.E.length : Int) by omega)]
      simp only [cond_false, idxN he', po_of]
      rw [decide_eq_false (show ¬ (n : Int) ≥ (e'.V.length : Int) by omega)]
      simp only [cond_false, idxN (hw' n hlt), po_of, bne_self_eq_false]
      unfold p_drydocklaw18_ShiftCopies_J18
      simp only [cond_false]
      rw [w64 (show n < 9223372036854775807 by omega)]
      exact ⟨_, rfl, ⟨rfl, n + 1, rfl, by omega⟩, by simp only [Int.toNat_natCast]; omega⟩
    · right
      rw [decide_eq_false (show ¬ (n : Int) < (W : Int) by omega)]
      exact ⟨_, rfl, rfl⟩) (x, 0) ⟨rfl, 0, rfl, Nat.zero_le _⟩
  rw [hr, hq]
theorem entries_ok {t : T_Table} {s : T_Schema} {x : T_Table} (hx : Put t s x) : lpU (fun q => p_drydocklaw18_ShiftCopies_L9 t s q.1 q.2) (x, 0) = some (.inl x) := by
  have hlen := Tab.may_len hx.may
  have hbt := Sch.may_bounds (Tab.may_sch hx.may)
  have c3 : (toT t).s.cap = t.S.Cap := rfl
  have c4 : (toT t).e.length = t.E.length := by simp [toT]
  rw [c3] at hbt
  rw [c3, c4] at hlen
  obtain ⟨r, hr, hq⟩ := lp_inv (step := fun q => p_drydocklaw18_ShiftCopies_L9 t s q.1 q.2) (fun q => q.1 = x ∧ ∃ n : Nat, q.2 = (n : Int) ∧ n ≤ t.E.length) (fun q => t.E.length - q.2.toNat) (fun r => r = .inl x) (by
    rintro ⟨u, i⟩ ⟨hu, n, hn, hnW⟩
    simp only at hu hn
    subst hu
    subst hn
    unfold p_drydocklaw18_ShiftCopies_L9
    by_cases hlt : n < t.E.length
    · left
      rw [decide_eq_true (show (n : Int) < (t.E.length : Int) by omega)]
      simp only [cond_true, words_ok hx hlt, pm_inl, p_drydocklaw18_ShiftCopies_J11]
      rw [w64 (show n < 9223372036854775807 by omega)]
      exact ⟨_, rfl, ⟨rfl, n + 1, rfl, by omega⟩, by simp only [Int.toNat_natCast]; omega⟩
    · right
      rw [decide_eq_false (show ¬ (n : Int) < (t.E.length : Int) by omega)]
      exact ⟨_, rfl, rfl⟩) (x, 0) ⟨rfl, 0, rfl, Nat.zero_le _⟩
  rw [hr, hq]
theorem copies_true (t : T_Table) (s : T_Schema) (more : Int) : p_drydocklaw18_ShiftCopies t s more = some true := by
  unfold p_drydocklaw18_ShiftCopies
  obtain ⟨b, hb⟩ := few18 t
  simp only [awake18, po_of, cond_true, hb]
  unfold p_drydocklaw18_ShiftCopies_J2
  cases b with
  | false => rfl
  | true =>
    simp only [Bool.not_true, cond_false]
    obtain ⟨r, hr, hq⟩ := image0 t s
    have hr' : p_shift_Image t s ⟨[⟨0, [⟨2, 0, 0, 0, false, 0, 2⟩, ⟨7, 0, 0, 0, false, 0, 0⟩]⟩]⟩ = some r := hr
    rw [hr', po_of]
    rcases hq with ⟨h0, hx⟩ | ⟨h0, hE⟩
    · have hne : (r.2 != 0) = false := by rw [h0]; rfl
      rw [hne]
      simp only [cond_false, entries_ok hx, pm_inl]
      unfold p_drydocklaw18_ShiftCopies_J8
      obtain ⟨r2, hr2, hq2⟩ := image0 r.1 ⟨s.Kind, s.Cap, more, IntKind.i64.wrap (s.Ver + 1)⟩
      have hr2' : p_shift_Image r.1 ⟨s.Kind, s.Cap, more, IntKind.i64.wrap (s.Ver + 1)⟩ ⟨[⟨0, [⟨2, 0, 0, 0, false, 0, 2⟩, ⟨7, 0, 0, 0, false, 0, 0⟩]⟩]⟩ = some r2 := hr2
      rw [hr2', po_of]
      rcases hq2 with ⟨g0, hy⟩ | ⟨g0, hE2⟩
      · have hne2 : (r2.2 != 0) = false := by rw [g0]; rfl
        rw [hne2]
        have hsame : (⟨⟨s.Kind, s.Cap, more, IntKind.i64.wrap (s.Ver + 1)⟩, r2.1.E, 0⟩ : T_Table) = r2.1 := by
          have h1 := hy.S
          have h2 := hy.next
          generalize r2.1 = y at h1 h2
          obtain ⟨yS, yE, yN⟩ := y
          simp only at h1 h2
          rw [h1, h2]
        have hlen : r2.1.E.length = r.1.E.length := by
          have h1 := hy.len
          have h2 := hx.len
          simp only at h1
          by_cases hk : s.Kind = 0
          · rw [if_pos hk] at h1 h2
            omega
          · rw [if_neg hk] at h1
            exact h1
        simp only [cond_false]
        unfold p_drydockref05_Same
        rw [decide_eq_true hsame]
        simp only [po_of, cond_true, hlen, beq_self_eq_true, p_drydocklaw18_ShiftCopies_J26]
      · have hne2 : (r2.2 != 0) = true := by simpa using g0
        rw [hne2]
        rfl
    · have hne : (r.2 != 0) = true := by simpa using h0
      rw [hne, hE]
      rfl
open Go Go.RowKit Go.Proofs.Tryz Go.WideShapes Go.ChangeShapes Go.Deep
set_option maxRecDepth 100000
section
variable {H : Type} {enc : TypeId × Value → H} {w : World} {base : Nat} {spare : Nat → Bool} {held : Bool}
theorem u32_of {n : Int} (h : (Lit.int .u32 n).wf = true) : ∃ m : Nat, n = (m : Int) ∧ m < 4294967296 := by
  simp [Lit.wf, IntKind.min, IntKind.max, IntKind.bits, IntKind.signed] at h
  exact ⟨n.toNat, by omega, by omega⟩
theorem trodAll_cons {P : Program} {t : TypeId} {ts : List TypeId} {l : List Value} {ds : List (DataW H)} {ps : List MemPlace} (h : DataW.TrodAll enc P w base spare held (t :: ts) l ds ps) :
    ∃ v vs d ds' p q, l = v :: vs ∧ ds = d :: ds' ∧ ps = p ++ q ∧ DataW.Trod enc P w base spare held t v d p ∧ DataW.TrodAll enc P w base spare held ts vs ds' q := by
  cases l with
  | nil => exact h.elim
  | cons v vs =>
    cases ds with
    | nil => exact h.elim
    | cons d ds =>
      obtain ⟨p, q, h1, h2, rfl⟩ := h
      exact ⟨v, vs, d, ds, p, q, rfl, rfl, rfl, h1, h2⟩
theorem trodAll_nil {P : Program} {l : List Value} {ds : List (DataW H)} {ps : List MemPlace} (h : DataW.TrodAll enc P w base spare held [] l ds ps) : l = [] ∧ ds = [] ∧ ps = [] := by
  cases l with
  | nil =>
    cases ds with
    | nil => exact ⟨rfl, rfl, h⟩
    | cons d ds => exact h.elim
  | cons v vs => exact h.elim
theorem trodAll_stays {P : Program} (hl : laidOutB P = true) {W W' : World} {sp : Nat → Bool} (ts : List TypeId) : ∀ {vs : List Value} {ds : List (DataW H)} {ps : List MemPlace}, (∀ t ∈ ts, P.readableRec t = true ∧ t < P.types.size) →
    DataW.TrodAll enc P W 0 (fun _ => true) true ts vs ds ps → (∀ p ∈ ps, W.sameAt W' p) → (∀ p ∈ ps, sp p.block = true) → DataW.TrodAll enc P W' 0 sp true ts vs ds ps := by
  induction ts with
  | nil =>
    intro vs ds ps _ h _ _
    obtain ⟨rfl, rfl, rfl⟩ := trodAll_nil h
    exact rfl
  | cons t ts ih =>
    intro vs ds ps ha h hsame hs
    obtain ⟨v, vs, d, ds', p, q, rfl, rfl, rfl, h1, h2⟩ := trodAll_cons h
    have ht := ha t (List.mem_cons_self ..)
    exact ⟨p, q, WideElems.Trod_stays hl ht.1 ht.2 h1 (fun x hx => hsame x (List.mem_append_left _ hx)) (fun x hx => hs x (List.mem_append_left _ hx)),
      ih (fun u hu => ha u (List.mem_cons_of_mem _ hu)) h2 (fun x hx => hsame x (List.mem_append_right _ hx)) (fun x hx => hs x (List.mem_append_right _ hx)), rfl⟩
theorem all_fine {P : Program} {ts : List TypeId} (h : (ts.all fun t => P.readableRec t && decide (t < P.types.size)) = true) : ∀ t ∈ ts, P.readableRec t = true ∧ t < P.types.size := by
  intro t ht
  have := List.all_eq_true.1 h t ht
  simp only [Bool.and_eq_true, decide_eq_true_eq] at this
  exact this
theorem post_law {f : Func} {s : ChangeSpec} {apart fresh handsOn again : Bool} {W W' : World} {args : Array Value} {ds gs : List (DataW H)} {before : List MemPlace} (hl : laidOutB prog = true)
    (hW : DataW.Whole enc prog f.params.toList s.vars apart W args.toList ds gs before) (hvars : s.vars = []) (hr : f.resultTypes = #[4]) (hp : (f.params.toList.all fun t => prog.readableRec t && decide (t < prog.types.size)) = true)
    (hfn : (s.fn H (ds ++ gs)).results = [.lit (.bool true)]) (hfa : (s.fn H (ds ++ gs)).args = ds) (hfv : (s.fn H (ds ++ gs)).vars = []) (hb : Below W.heap.size W W') : s.post enc prog f apart fresh handsOn again W args (.bool true) W' := by
  have hlt : ∀ p ∈ before, p.block < W.heap.size := fun p hp => hW.lt p hp
  have hold : ∀ p ∈ before, (fun b => decide (b < W.heap.size)) p.block = true := fun p hp => by simpa using hlt p hp
  have hW0 := hW
  obtain ⟨p, q, hA, hV, hpq, hz, hn⟩ := hW0
  rw [hvars] at hV
  obtain ⟨rfl, rfl⟩ := trodVars_none hV
  have hpq' : before = p := by simpa using hpq
  subst hpq'
  have hres : ∀ (b : Nat) (sp : Nat → Bool) (hd : Bool), DataW.TrodAll enc prog W' b sp hd f.resultTypes.toList ((Value.bool true).resultList f.resultTypes.size) (s.fn H (ds ++ [])).results [] := by
    intro b sp hd
    rw [hr, hfn]
    exact trodAll_mk1 (shut_bool underlying4 true)
  have hargs : ∀ sp : Nat → Bool, (∀ p ∈ before, sp p.block = true) → DataW.TrodAll enc prog W' 0 sp true f.params.toList args.toList (s.fn H (ds ++ [])).args before := by
    intro sp hsp
    rw [hfa]
    exact trodAll_stays hl _ (all_fine hp) hA (fun x hx => hb.same (hlt x hx)) hsp
  have hvs : ∀ sp : Nat → Bool, DataW.TrodVars enc prog W' sp s.vars (s.fn H (ds ++ [])).vars [] := by
    intro sp
    rw [hvars, hfv]
    rfl
  refine ⟨ds, [], before, [], before, [], hW, hres _ _ _, hargs _ hold, hvs _, World.keptBut_mono (fun p hp => ⟨hp, ?_⟩) (hb.frame (· ∈ before)), fun _ => ?_⟩
  · exact Or.inr (Or.inl hp)
  · refine ⟨ok_one hr rfl (okWide_bool_mk underlying4 true), _, _, ([] ++ before) ++ [], ⟨[] ++ before, [], trodAll_append (hargs _ (fun _ _ => rfl)) (hres _ _ _), hvs _, rfl, ?_, ?_⟩, ?_⟩
    · intro b off hp
      have hin : MemPlace.cell b off ∈ before := by simpa using hp
      rw [hb.frozen (hlt _ hin)]
      exact hz b off hin
    · intro ha
      simpa using hn ha
    · intro p hp _
      simpa using hp
end
set_option maxRecDepth 100000
def lawCx (w : World) : Cx := ⟨fun b => b < w.heap.size, fun _ _ => False, fun _ => none, fun _ => 0⟩
theorem Ctr.law {P : Program} {f : FuncId} {args : List AV} (h : Ctr P f args [] (.raw (.bool true)) []) {w : World} {vals : Array Value} (hsz : vals.size = args.length)
    (ha : ∀ (i : Nat) (u : AV), args[i]? = some u → VRel w (lawCx w) [] u (vals.getD i undef)) : Calls P f vals w fun e w' => e = .returned (.bool true) ∧ Below w.heap.size w w' := by
  have hH : HRel w (lawCx w) [] := ⟨fun b h => h, fun id o h => by simp [look] at h, fun id t sz g els g' h => by simp [look] at h, fun id t sz g els h => by simp [look] at h, fun id o b h => by simp [look] at h, fun id id' o o' b h => by simp [look] at h, fun id o h => by simp [look] at h⟩
  refine Calls.mono (h.2 w (lawCx w) vals hH (fun id g h => h.elim) hsz ha) ?_
  rintro e w' ⟨v, x', rfl, st, hv, _⟩
  exact ⟨by rw [hv.rawEq], st.tr.os, st.tr.tape, st.tr.output, st.tr.size, fun k hk => st.tr.keep k hk fun id o h => by simp [look] at h⟩
theorem VRels.of1 {w : World} {x : Cx} {hp : Hp} {l : List AV} {m : List Value} (h : VRels w x hp l m) : ∀ (i : Nat) (u : AV), l[i]? = some u → VRel w x hp u (m.toArray.getD i undef) := h.at_
section
variable {H : Type} {enc : TypeId × Value → H} {w : World} {base : Nat} {spare : Nat → Bool} {held : Bool}
end
inductive DRels (w : World) (ok : Nat → Prop) : List AV → List Value → Prop where
  | nil : DRels w ok [] []
  | cons {u v l m} (h : Dat w ok u v) (h1 : v.oneCell' = true) (r : DRels w ok l m) : DRels w ok (u :: l) (v :: m)
section
variable {w : World} {ok : Nat → Prop}
theorem DRels.len {l : List AV} {m : List Value} (h : DRels w ok l m) : m.length = l.length := by
  induction h with
  | nil => rfl
  | cons _ _ _ ih => simp [ih]
theorem DRels.app {l l' : List AV} {m m' : List Value} (h : DRels w ok l m) (h' : DRels w ok l' m') : DRels w ok (l ++ l') (m ++ m') := by
  induction h with
  | nil => exact h'
  | cons a b _ ih => exact .cons a b ih
theorem DRels.at_ {l : List AV} {m : List Value} (h : DRels w ok l m) : ∀ (i : Nat) (u : AV), l[i]? = some u → Dat w ok u (m.getD i undef) ∧ (m.getD i undef).oneCell' = true := by
  induction h with
  | nil => intro i u h; simp at h
  | cons a b _ ih =>
    intro i u h
    cases i with
    | zero => simp at h; subst h; exact ⟨a, b⟩
    | succ i => simpa using ih i u (by simpa using h)
theorem DRels.cat {l l' : List AV} {cs : List Value} {o s s' : Nat} (h : DRels w ok l ((cs.drop o).take s)) (h' : DRels w ok l' ((cs.drop (o + s)).take s')) : DRels w ok (l ++ l') ((cs.drop o).take (s + s')) := by
  have e : (cs.drop o).take (s + s') = (cs.drop o).take s ++ (cs.drop (o + s)).take s' := by
    rw [List.take_add, List.drop_drop]
  rw [e]
  exact h.app h'
end
def okW (w : World) : Nat → Prop := fun b => b < w.heap.size
section
variable {H : Type} {enc : TypeId × Value → H} {w : World} {base : Nat} {spare : Nat → Bool} {held : Bool} {t e : TypeId} {fuel : Nat} {cs : List Value} {x : DataW H × List MemPlace}
theorem oU32 (ht : prog.underlying t = some (.int .u32)) (h : DataW.trod enc prog w base spare held fuel t cs = some x) : ∃ a : UInt32, DRels w (okW w) (encU32 a) cs := by
  obtain ⟨z, rfl, _, hw⟩ := DataW.trod_int ht h
  obtain ⟨m, rfl, hm⟩ := u32_of hw
  refine ⟨UInt32.ofNat m, .cons ?_ rfl .nil⟩
  have : (UInt32.ofNat m).toNat = m := Nat.mod_eq_of_lt hm
  rw [this]
  exact .raw _
theorem oI64 (ht : prog.underlying t = some (.int .i64)) (h : DataW.trod enc prog w base spare held fuel t cs = some x) : ∃ a : Int, DRels w (okW w) (encI64 a) cs := by
  obtain ⟨z, rfl, _, hw⟩ := DataW.trod_int ht h
  exact ⟨z, .cons (.raw _) rfl .nil⟩
theorem oSl {α : Type} {f : α → List AV} {sz : Nat} (ht : prog.underlying t = some (.slice e)) (hsz : prog.cellsOf e = sz) (hpos : 0 < sz) (hl : ∀ a, (f a).length = sz)
    (hel : ∀ n cs' y, DataW.trod enc prog w base spare held n e cs' = some y → ∃ a, DRels w (okW w) (f a) cs') (h : DataW.trod enc prog w base spare held fuel t cs = some x) : ∃ l : List α, DRels w (okW w) [.sl false (l.map f)] cs := by
  rcases open_slice ht h with ⟨rfl, _⟩ | ⟨a, len, cap, m, n, D, Pl, rfl, hb, hle, hm, hmm, hx, hi⟩
  · exact ⟨[], .cons (Dat.nil _ _) rfl .nil⟩
  · have hlm : len ≤ m := by rw [hmm]; split <;> omega
    obtain ⟨xs, hxl, hxs⟩ := choose_list (p := fun i v => ∃ cs', w.cells? base (a.add (i * prog.cellsOf e)) (prog.cellsOf e) = some cs' ∧ DRels w (okW w) (f v) cs') len (fun i hil => by
      obtain ⟨cs', hc, ht'⟩ := hi i (by omega)
      obtain ⟨x, hx⟩ := hel _ _ _ ht'
      exact ⟨x, cs', hc, hx⟩)
    have hlen : (xs.map f).length = len := by rw [List.length_map, hxl]
    have cell : ∀ (i : Nat) (v : α), xs[i]? = some v → ∃ cs' : List Value, DRels w (okW w) (f v) cs' ∧ cs'.length = sz ∧ ∀ j, j < sz → w.cell? (a.add (i * sz + j)) = cs'[j]? := fun i v hv => by
      obtain ⟨cs', hc, hk⟩ := hxs i v hv
      obtain ⟨_, hl', hat⟩ := World.cells?_some hc
      refine ⟨cs', hk, by rw [hl', hsz], fun j hj => ?_⟩
      have := hat j (by rw [hsz]; exact hj)
      rw [hsz, av_add_add] at this
      exact this
    have key := Dat.sl (w := w) (ok := okW w) false (xs.map f) (some a) cap sz (fun i j => (w.cell? (a.add (i * sz + j))).getD undef) (by rw [hlen]; exact hle) hm (by intro h; cases h) ?_ ?_ ?_ ?_
    · rw [hlen] at key
      exact ⟨xs, .cons key rfl .nil⟩
    · intro i cs0 h0
      obtain ⟨v, _, rfl⟩ := map_at h0
      exact hl v
    · intro i cs0 h0
      obtain ⟨v, hv, rfl⟩ := map_at h0
      refine ⟨a, rfl, ?_⟩
      obtain ⟨cs', hk, hl', hat⟩ := cell i v hv
      have h1 := hat 0 hpos
      have h2 : 0 < cs'.length := by omega
      rw [List.getElem?_eq_getElem h2] at h1
      have := World.block_lt_of_cell? w _ h1
      rw [av_add_block] at this
      exact this
    · intro i j cs0 a' h0 hj ha'
      injection ha' with ha'
      subst ha'
      obtain ⟨v, hv, rfl⟩ := map_at h0
      obtain ⟨cs', hk, hl', hat⟩ := cell i v hv
      have h1 := hat j hj
      have h2 : j < cs'.length := by omega
      rw [List.getElem?_eq_getElem h2] at h1
      rw [h1]
      refine ⟨rfl, ?_⟩
      have h3 : j < (f v).length := by rw [hl]; exact hj
      have := (hk.at_ j _ (List.getElem?_eq_getElem h3)).2
      simpa [List.getD_eq_getElem?_getD, List.getElem?_eq_getElem h2] using this
    · intro i j cs0 u h0 hu
      obtain ⟨v, hv, rfl⟩ := map_at h0
      obtain ⟨cs', hk, hl', hat⟩ := cell i v hv
      have h3 := lt_of_get hu
      rw [hl] at h3
      rw [hat j h3]
      have := (hk.at_ j u hu).1
      simpa [List.getD_eq_getElem?_getD] using this
theorem full {cs : List Value} {n : Nat} (h : cs.length = n) : (cs.drop 0).take n = cs := by
  rw [List.drop_zero, List.take_of_length_le (by omega)]
/-! Arguments. -/
theorem arg_agg {us : List AV} {vs : Array Value} (h : DRels w (okW w) us vs.toList) : VRel w (lawCx w) [] (.agg us) (.agg vs) := by
  have hl := h.len
  refine .agg us vs (by simpa using hl) (fun i hi => ?_) (fun i u hu => ?_)
  · have hi' : i < us.length := by rw [← hl]; simpa using hi
    have := (h.at_ i _ (List.getElem?_eq_getElem hi')).2
    simpa using this
  · have := (h.at_ i u hu).1
    exact .dat (show Dat w (okW w) u _ from by simpa using this)
theorem arg_one {u : AV} {v : Value} (h : DRels w (okW w) [u] [v]) : VRel w (lawCx w) [] u v := by
  cases h with
  | cons h _ _ => exact .dat h
end
/-
  PROVED: the statement ShiftCopies of the given seat: whatever the map, the schema and how many words more, drydocklaw18.ShiftCopies returns true, and what was handed in reads as it did.
  Conditions: none beyond the statement's own.
-/
open Go Go.ChangeShapes Go.WideShapes Go.ChangeAt Go.RowKit Go.Proofs.Tryz
theorem o_3 {H : Type} {enc : TypeId × Value → H} {w : World} {base : Nat} {spare : Nat → Bool} {held : Bool} {fuel : Nat} {cs : List Value} {x : DataW H × List MemPlace} (h : DataW.trod enc prog w base spare held fuel 3 cs = some x) : ∃ a : Int, DRels w (okW w) (encI64 a) cs:= oI64 underlying3 h
theorem o_50 {H : Type} {enc : TypeId × Value → H} {w : World} {base : Nat} {spare : Nat → Bool} {held : Bool} {fuel : Nat} {cs : List Value} {x : DataW H × List MemPlace} (h : DataW.trod enc prog w base spare held fuel 50 cs = some x) : ∃ a : T_Schema, DRels w (okW w) (enc_Schema a) cs := by
  obtain ⟨xs, m, _, _, hl, hxl, hg⟩ := DataW.trod_struct underlying50 h
  have hl : cs.length = 4 := hl.trans (by kernel_rfl)
  replace hxl : xs.length = 4 := hxl
  have e0 : prog.cellsOf 3 = 1 := by kernel_rfl
  have h0 : DataW.trod enc prog w base spare held m 3 ((cs.drop 0).take (prog.cellsOf 3)) = xs[0]? := hg 0 _ rfl
  simp only [e0, Nat.reduceMul] at h0
  obtain ⟨b0, r0⟩ := o_3 (h0.trans (List.getElem?_eq_getElem (by omega)))
  have e1 : prog.cellsOf 3 = 1 := by kernel_rfl
  have h1 : DataW.trod enc prog w base spare held m 3 ((cs.drop 1).take (prog.cellsOf 3)) = xs[1]? := hg 1 _ rfl
  simp only [e1, Nat.reduceMul] at h1
  obtain ⟨b1, r1⟩ := o_3 (h1.trans (List.getElem?_eq_getElem (by omega)))
  have e2 : prog.cellsOf 3 = 1 := by kernel_rfl
  have h2 : DataW.trod enc prog w base spare held m 3 ((cs.drop 2).take (prog.cellsOf 3)) = xs[2]? := hg 2 _ rfl
  simp only [e2, Nat.reduceMul] at h2
  obtain ⟨b2, r2⟩ := o_3 (h2.trans (List.getElem?_eq_getElem (by omega)))
  have e3 : prog.cellsOf 3 = 1 := by kernel_rfl
  have h3 : DataW.trod enc prog w base spare held m 3 ((cs.drop 3).take (prog.cellsOf 3)) = xs[3]? := hg 3 _ rfl
  simp only [e3, Nat.reduceMul] at h3
  obtain ⟨b3, r3⟩ := o_3 (h3.trans (List.getElem?_eq_getElem (by omega)))
  have r := (DRels.cat (DRels.cat (DRels.cat r0 r1) r2) r3)
  refine ⟨T_Schema.mk b0 b1 b2 b3, ?_⟩
  have hf := full hl
  rw [← hf]
  exact r
theorem o_25 {H : Type} {enc : TypeId × Value → H} {w : World} {base : Nat} {spare : Nat → Bool} {held : Bool} {fuel : Nat} {cs : List Value} {x : DataW H × List MemPlace} (h : DataW.trod enc prog w base spare held fuel 25 cs = some x) : ∃ a : UInt32, DRels w (okW w) (encU32 a) cs:= oU32 underlying25 h
theorem o_62 {H : Type} {enc : TypeId × Value → H} {w : World} {base : Nat} {spare : Nat → Bool} {held : Bool} {fuel : Nat} {cs : List Value} {x : DataW H × List MemPlace} (h : DataW.trod enc prog w base spare held fuel 62 cs = some x) : ∃ a : (List UInt32), DRels w (okW w) ((encL encU32) a) cs:= oSl (f := encU32) (sz := 1) underlying62 (by kernel_rfl) (by decide) (fun _ => rfl) (fun _ _ _ h => o_25 h) h
theorem o_66 {H : Type} {enc : TypeId × Value → H} {w : World} {base : Nat} {spare : Nat → Bool} {held : Bool} {fuel : Nat} {cs : List Value} {x : DataW H × List MemPlace} (h : DataW.trod enc prog w base spare held fuel 66 cs = some x) : ∃ a : T_Entry, DRels w (okW w) (enc_Entry a) cs := by
  obtain ⟨xs, m, _, _, hl, hxl, hg⟩ := DataW.trod_struct underlying66 h
  have hl : cs.length = 2 := hl.trans (by kernel_rfl)
  replace hxl : xs.length = 2 := hxl
  have e0 : prog.cellsOf 25 = 1 := by kernel_rfl
  have h0 : DataW.trod enc prog w base spare held m 25 ((cs.drop 0).take (prog.cellsOf 25)) = xs[0]? := hg 0 _ rfl
  simp only [e0, Nat.reduceMul] at h0
  obtain ⟨b0, r0⟩ := o_25 (h0.trans (List.getElem?_eq_getElem (by omega)))
  have e1 : prog.cellsOf 62 = 1 := by kernel_rfl
  have h1 : DataW.trod enc prog w base spare held m 62 ((cs.drop 1).take (prog.cellsOf 62)) = xs[1]? := hg 1 _ rfl
  simp only [e1, Nat.reduceMul] at h1
  obtain ⟨b1, r1⟩ := o_62 (h1.trans (List.getElem?_eq_getElem (by omega)))
  have r := (DRels.cat r0 r1)
  refine ⟨T_Entry.mk b0 b1, ?_⟩
  have hf := full hl
  rw [← hf]
  exact r
theorem o_51 {H : Type} {enc : TypeId × Value → H} {w : World} {base : Nat} {spare : Nat → Bool} {held : Bool} {fuel : Nat} {cs : List Value} {x : DataW H × List MemPlace} (h : DataW.trod enc prog w base spare held fuel 51 cs = some x) : ∃ a : (List T_Entry), DRels w (okW w) ((encL enc_Entry) a) cs:= oSl (f := enc_Entry) (sz := 2) underlying51 (by kernel_rfl) (by decide) (fun _ => rfl) (fun _ _ _ h => o_66 h) h
theorem o_53 {H : Type} {enc : TypeId × Value → H} {w : World} {base : Nat} {spare : Nat → Bool} {held : Bool} {fuel : Nat} {cs : List Value} {x : DataW H × List MemPlace} (h : DataW.trod enc prog w base spare held fuel 53 cs = some x) : ∃ a : T_Table, DRels w (okW w) (enc_Table a) cs := by
  obtain ⟨xs, m, _, _, hl, hxl, hg⟩ := DataW.trod_struct underlying53 h
  have hl : cs.length = 6 := hl.trans (by kernel_rfl)
  replace hxl : xs.length = 3 := hxl
  have e0 : prog.cellsOf 50 = 4 := by kernel_rfl
  have h0 : DataW.trod enc prog w base spare held m 50 ((cs.drop 0).take (prog.cellsOf 50)) = xs[0]? := hg 0 _ rfl
  simp only [e0, Nat.reduceMul] at h0
  obtain ⟨b0, r0⟩ := o_50 (h0.trans (List.getElem?_eq_getElem (by omega)))
  have e1 : prog.cellsOf 51 = 1 := by kernel_rfl
  have h1 : DataW.trod enc prog w base spare held m 51 ((cs.drop 4).take (prog.cellsOf 51)) = xs[1]? := hg 1 _ rfl
  simp only [e1, Nat.reduceMul] at h1
  obtain ⟨b1, r1⟩ := o_51 (h1.trans (List.getElem?_eq_getElem (by omega)))
  have e2 : prog.cellsOf 25 = 1 := by kernel_rfl
  have h2 : DataW.trod enc prog w base spare held m 25 ((cs.drop 5).take (prog.cellsOf 25)) = xs[2]? := hg 2 _ rfl
  simp only [e2, Nat.reduceMul] at h2
  obtain ⟨b2, r2⟩ := o_25 (h2.trans (List.getElem?_eq_getElem (by omega)))
  have r := (DRels.cat (DRels.cat r0 r1) r2)
  refine ⟨T_Table.mk b0 b1 b2, ?_⟩
  have hf := full hl
  rw [← hf]
  exact r
theorem shiftCopiesOwn : ownKnob Tryz.prog.godebug = none := by kernel_rfl
theorem shiftCopiesLaid : laidOutB Tryz.prog = true := by kernel_rfl
set_option maxRecDepth 100000 in
theorem shiftCopies_lifted (os : Os) (started : os.Started) (H : Type) (enc : TypeId × Value → H) :
    ReturnsInHanded {} Tryz.checked os 5 .any (Rows.shiftCopiesSpec.pre6 enc Tryz.prog Tryz.f5 Rows.shiftCopiesRow.domain false) (Rows.shiftCopiesSpec.post enc Tryz.prog Tryz.f5 false true false false) := by
  refine returnsInHanded_of_change (C := Tryz.checked) shiftCopiesOwn started (by kernel_rfl) Tryz.func5
    (ChangeSpec.witness6 (enc := enc) (C := Tryz.checked) false ⟨#[], #[.agg #[.int .i64 0, .int .i64 0, .int .i64 0, .int .i64 0, .slice none 0 0, .int .u32 0], .agg #[.int .i64 0, .int .i64 0, .int .i64 0, .int .i64 0], .int .i64 0], []⟩ 8 (by kernel_rfl) (by kernel_rfl) (by kernel_rfl) (by kernel_rfl)) ?_
  intro W base args ds gs before hval0 hW _ _
  have hval : ∀ (j : Nat) t v, Tryz.f5.params[j]? = some t → args[j]? = some v → Value.okWide Tryz.prog W .any base t v := hval0
  have hW' := hW
  obtain ⟨p, q, hA0, hV, rfl, hfz, hnd⟩ := hW
  have hA : DataW.TrodAll enc Tryz.prog W 0 (fun _ => true) true Tryz.f5.params.toList args.toList ds p := hA0
  rw [Tryz.params5] at hA hval
  obtain ⟨l⟩ := args
  obtain ⟨v0, l0, d0, ds0, p0, q0, rfl, rfl, _, h0, hA1⟩ := trodAll_cons hA
  obtain ⟨v1, l1, d1, ds1, p1, q1, rfl, rfl, _, h1, hA2⟩ := trodAll_cons hA1
  obtain ⟨v2, l2, d2, ds2, p2, q2, rfl, rfl, _, h2, hA3⟩ := trodAll_cons hA2
  obtain ⟨rfl, rfl, _⟩ := trodAll_nil hA3
  obtain ⟨rfl, rfl⟩ := trodVars_none hV
  obtain ⟨cs0, rfl, _⟩ := okWide_struct underlying53 (hval 0 _ v0 rfl rfl)
  obtain ⟨fuel0, hf0⟩ := h0
  obtain ⟨a0, r0⟩ := o_53 hf0
  obtain ⟨cs1, rfl, _⟩ := okWide_struct underlying50 (hval 1 _ v1 rfl rfl)
  obtain ⟨fuel1, hf1⟩ := h1
  obtain ⟨a1, r1⟩ := o_50 hf1
  obtain ⟨z2, rfl⟩ := okWide_int underlying3 (hval 2 _ v2 rfl rfl)
  obtain ⟨fuel2, hf2⟩ := h2
  obtain ⟨a2, r2⟩ := o_3 hf2
  refine (Ctr.law (c_drydocklaw18_ShiftCopies (copies_true a0 a1 a2)) rfl (VRels.of1 (.cons (arg_agg r0) (.cons (arg_agg r1) (.cons (arg_one r2) (.nil)))))).mono fun e W' ⟨he, hw⟩ => ?_
  subst he
  exact ⟨_, rfl, post_law shiftCopiesLaid hW' rfl rfl (by kernel_rfl) rfl rfl rfl hw⟩
theorem shiftCopies_holds : Rows.ShiftCopiesSaid :=
  OpenClaim.holds_of_wide 5 Tryz.f5 rfl rfl rfl rfl rfl rfl rfl ⟨rfl, rfl, rfl, rfl, rfl⟩ rfl rfl rfl rfl rfl (by kernel_rfl) Tryz.func5 (by kernel_rfl)
    (of_decide_eq_true (by kernel_rfl)) (by unfold Func.isWrapper; first | (rw [if_pos (by decide +kernel)]; kernel_rfl) | (rw [if_neg (by decide +kernel)]; exact ⟨rfl, rfl⟩))
    (fun os started H enc _ => shiftCopies_lifted os started H enc)
end Go.Proofs.YtcffmheeofjifaaGreat
