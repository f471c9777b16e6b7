/- Packed texts: Qinterprunframe, Sk3, QinterpCall, QinterpRun, Sk4, Qboundsspantold, Qboundsfit, Qboundsword, QboundsMay, Qboundsof, Qboundsrules1, Qboundsrules10, Qboundsrules11, Qboundsrules2, Qboundsrules3, Qboundsrules4, Qboundsrules5, Qboundsrules6, Qboundsrules7, Qboundspower, Qboundsrules8, Qboundsrules9, Qboundsrules, QboundsAlu, QboundsCut, QboundsJoin, QboundsEnds, Gp, QshapeMay, QboundsOf, Qshapeall, Qshapein, QshapePut, QshapeBack, QshapeGet, QshapeWord, QshapeJoin, QshapeNew, Sk5, Uarenaend, It, Qcoursemay1, QslicesIndexFuncapiInstapiInstcoursemay1, QslicesContainsFuncapiInstapiInstcoursemay1, Qcoursemay, Qcoursenext, QcourseLongest, QcourseBudget, Qverifyworkto, QverifyShapes1, Qverifyworkhere, Qverifyworkget, Qverifyworkthen. -/
import Derived.Test.YtcffmheeofjifaaGreatSe4
set_option linter.unusedVariables false
set_option linter.unusedSimpArgs false
set_option maxHeartbeats 4000000
set_option maxRecDepth 100000
namespace Go.Proofs.YtcffmheeofjifaaGreat
open Go Go.RowKit Go.Proofs.Tryz
noncomputable def Bk (a2 : (List UInt32)) (s_1 : T_interp_run) (s_2 : T_interp_frame) (i_3 : Int) : Option ((T_interp_run × T_interp_frame × Int) ⊕ (T_interp_run × T_interp_frame)) :=
  cond (decide (i_3 < (a2.length : Int))) (
  po (idx a2 i_3) fun x4 =>
  po (Ca s_2 s_1 (IntKind.i64.wrap (i_3 + 1)) x4) fun r5 =>
  some (Sum.inl (r5.2, r5.1, (IntKind.i64.wrap (i_3 + 1))))) (
  some (Sum.inr (s_1, s_2)))
noncomputable def Ba (pf : T_interp_run → Int → (List UInt32) → Option (UInt32 × T_interp_run)) (x6 : T_Fn) (s_10 : T_interp_run) (s_11 : T_interp_frame) (i_12 : Bool) : Option ((T_interp_run × T_interp_frame) ⊕ (T_interp_run × T_interp_frame)) :=
  cond i_12 (
  cond (s_10.used == s_10.fuel) (
  po (Bc s_10 2) fun r13 =>
  some (Sum.inl (r13, s_11))) (
  cond (decide (s_11.at_ ≥ (x6.Code.length : Int))) (
  po (Bc (T_interp_run.mk s_10.p s_10.e s_10.fuel (IntKind.i64.wrap (s_10.used + 1)) s_10.err) 10) fun r15 =>
  some (Sum.inl (r15, s_11))) (
  po (idx x6.Code s_11.at_) fun x16 =>
  cond (x16.Op == 0) (
  po (Er s_11 (T_interp_run.mk s_10.p s_10.e s_10.fuel (IntKind.i64.wrap (s_10.used + 1)) s_10.err) x16) fun r18 =>
  some (Sum.inl (r18.2, (T_interp_frame.mk r18.1.fn (IntKind.i64.wrap (r18.1.at_ + 1)) r18.1.regs r18.1.set r18.1.stack r18.1.over)))) (
  cond (x16.Op == 1) (
  po (Dx s_11 (T_interp_run.mk s_10.p s_10.e s_10.fuel (IntKind.i64.wrap (s_10.used + 1)) s_10.err) x16) fun r20 =>
  some (Sum.inl (r20.2, (T_interp_frame.mk r20.1.fn (IntKind.i64.wrap (r20.1.at_ + 1)) r20.1.regs r20.1.set r20.1.stack r20.1.over)))) (
  cond (x16.Op == 2) (
  po (Bh s_11 (T_interp_run.mk s_10.p s_10.e s_10.fuel (IntKind.i64.wrap (s_10.used + 1)) s_10.err) x16) fun r22 =>
  some (Sum.inl (r22.2, (T_interp_frame.mk r22.1.fn (IntKind.i64.wrap (r22.1.at_ + 1)) r22.1.regs r22.1.set r22.1.stack r22.1.over)))) (
  cond (x16.Op == 3) (
  po (Bh s_11 (T_interp_run.mk s_10.p s_10.e s_10.fuel (IntKind.i64.wrap (s_10.used + 1)) s_10.err) x16) fun r24 =>
  some (Sum.inl (r24.2, (T_interp_frame.mk r24.1.fn (IntKind.i64.wrap (r24.1.at_ + 1)) r24.1.regs r24.1.set r24.1.stack r24.1.over)))) (
  cond (x16.Op == 4) (
  po (Bh s_11 (T_interp_run.mk s_10.p s_10.e s_10.fuel (IntKind.i64.wrap (s_10.used + 1)) s_10.err) x16) fun r26 =>
  some (Sum.inl (r26.2, (T_interp_frame.mk r26.1.fn (IntKind.i64.wrap (r26.1.at_ + 1)) r26.1.regs r26.1.set r26.1.stack r26.1.over)))) (
  cond (x16.Op == 5) (
  po (Dv s_11 (T_interp_run.mk s_10.p s_10.e s_10.fuel (IntKind.i64.wrap (s_10.used + 1)) s_10.err) x16) fun r28 =>
  some (Sum.inl (r28.2, (T_interp_frame.mk r28.1.fn (IntKind.i64.wrap (r28.1.at_ + 1)) r28.1.regs r28.1.set r28.1.stack r28.1.over)))) (
  cond (x16.Op == 6) (
  po (Dw pf s_11 (T_interp_run.mk s_10.p s_10.e s_10.fuel (IntKind.i64.wrap (s_10.used + 1)) s_10.err) x16) fun r30 =>
  some (Sum.inl (r30.2, (T_interp_frame.mk r30.1.fn (IntKind.i64.wrap (r30.1.at_ + 1)) r30.1.regs r30.1.set r30.1.stack r30.1.over)))) (
  cond (x16.Op == 7) (
  po (Dz s_11 (T_interp_run.mk s_10.p s_10.e s_10.fuel (IntKind.i64.wrap (s_10.used + 1)) s_10.err) x16) fun r32 =>
  some (Sum.inl (r32.2, (T_interp_frame.mk r32.1.fn (IntKind.i64.wrap (r32.1.at_ + 1)) r32.1.regs r32.1.set r32.1.stack r32.1.over)))) (
  none))))))))))) (
  some (Sum.inr (s_10, s_11)))
noncomputable def Az (pf : T_interp_run → Int → (List UInt32) → Option (UInt32 × T_interp_run)) (x6 : T_Fn) (s_10 : T_interp_run) (s_11 : T_interp_frame) : Option ((T_interp_run × T_interp_frame) ⊕ (T_interp_run × T_interp_frame)) :=
  po (
  cond (s_10.err == 0) (
  some (!s_11.over)) (
  some false)) (fun x => Ba pf x6 s_10 s_11 x)
noncomputable def Gg (s_15 : T_interp_run) (s_16 : T_interp_frame) : Option (UInt32 × T_interp_run) :=
  some (s_16.regs.a0, s_15)
noncomputable def Ck (pf : T_interp_run → Int → (List UInt32) → Option (UInt32 × T_interp_run)) (a1 : Int) (s_7 : T_interp_run) (s_8 : T_interp_frame) : Option (UInt32 × T_interp_run) :=
  po (idx s_7.p.Fns a1) fun x6 =>
  po (
  lpU (fun x => Az pf x6 x.1 x.2) (s_7, s_8)) (fun x => Gg x.1 x.2)
noncomputable def Cb (pf : T_interp_run → Int → (List UInt32) → Option (UInt32 × T_interp_run)) (a0 : T_interp_run) (a1 : Int) (a2 : (List UInt32)) : Option (UInt32 × T_interp_run) :=
  po (
  lpU (fun x => Bk a2 x.1 x.2.1 x.2.2) (a0, (T_interp_frame.mk a1 0 (A8.mk 0 0 0 0 0 0 0 0) (A8.mk false false false false false false false false) (A16.mk 0 0 0 0 0 0 0 0 0 0 0 0 0 0 0 0) false), 0)) (fun x => Ck pf a1 x.1 x.2)
theorem Ur (pf : T_interp_run → Int → (List UInt32) → Option (UInt32 × T_interp_run)) (hpf : ∀ {a0 : T_interp_run} {a1 : Int} {a2 : (List UInt32)} {r : UInt32 × T_interp_run} (h : pf a0 a1 a2 = some r), Ctr prog 171 [.ref 0 0, ri a1, .sl false (a2.map encU32)] [(0, .box 259 (enc_interp_run a0))] (ru r.1) [(0, .box 259 (enc_interp_run r.2))]) {a0 : T_interp_run} {a1 : Int} {a2 : (List UInt32)} {r : UInt32 × T_interp_run} (h : Cb pf a0 a1 a2 = some r) : Ctr prog 171 [.ref 0 0, ri a1, .sl false (a2.map encU32)] [(0, .box 259 (enc_interp_run a0))] (ru r.1) [(0, .box 259 (enc_interp_run r.2))] := by
 unfold Cb at h;refine Ctr.ofW tabOk func171 rfl call171 1 _ ntmps171 [.tmp 6] rfl rfl rfl (fun B => ?_);refine vs [0,1,2] (fun K hK => ?_);push_cast (maxSteps := 9000000) [-partsQ];apply hK;clear hK K;refine vs [0,1,2,7] (fun K hK => ?_);push_cast (maxSteps := 9000000) [-partsQ];apply hK;clear hK K;refine VC.sub (s' := ⟨[(0,.ref 0 0),(1,ri a1),(2,.sl false (a2.map encU32)),(7,.ref 5 0)],[(0,.box 259 (enc_interp_run a0)),(5,.box 283 (enc_interp_frame (T_interp_frame.mk a1 0 (A8.mk 0 0 0 0 0 0 0 0) (A8.mk false false false false false false false false) (A16.mk 0 0 0 0 0 0 0 0 0 0 0 0 0 0 0 0) false) (.ref 0 0)))],7,114,1⟩) (so (by push_cast (maxSteps := 9000000) [-partsQ,enc_interp_frame])) ?_;refine vj h (fun x => ⟨[(0,.ref 0 0),(1,ri a1),(7,.ref 5 0)],[(0,.box 259 (enc_interp_run x.1)),(5,.box 283 (enc_interp_frame x.2 (.ref 0 0)))],24,114,1⟩) (fun v1 h hk1 => ?_) ?_
 ·as_aux_lemma =>
   refine vs [0,1,7,17,18,19] (fun K hK => ?_);push_cast (maxSteps := 9000000) [-partsQ];apply hK;clear hK K;refine VC.block ?_;refine VC.loopP h (fun x => ⟨[(0,.ref 0 0),(1,ri a1),(7,.ref 5 0),(17,.sl false (a2.map encU32)),(18,ri (a2.length : Int)),(19,ri x.2.2)],[(0,.box 259 (enc_interp_run x.1)),(5,.box 283 (enc_interp_frame x.2.1 (.ref 0 0)))],23,114,1⟩) ?_ ?_
   ·exact sl (by push_cast (maxSteps := 9000000) [-partsQ])
   rintro ⟨s_1,s_2,i_3⟩ b2 (h : Bk a2 s_1 s_2 i_3 = some b2) hf2;(try push_cast (maxSteps := 9000000) [-partsQ]);unfold Bk at h;refine vs [0,1,7,17,18,19,20] (fun K hK => ?_);push_cast (maxSteps := 9000000) [-partsQ];apply hK;clear hK K;refine VC.seq ?_;refine vc h (fun hb3 h => ?_) (fun hb3 h => ?_)
   ·refine VC.skip ?_;refine VC.seq ?_;refine VC.block ?_;obtain ⟨x4,hx4,h⟩ := po_some h;replace hx4 := idx_some4 hx4;refine vs [0,1,7,8,9,17,18,19] (fun K hK => ?_);push_cast (maxSteps := 9000000) [-partsQ,hx4];(repeat refine ao ?_);apply hK;clear hK K;obtain ⟨r5,hr5,h⟩ := po_some h;refine vl (fun K hK => ?_);push_cast (maxSteps := 9000000) [-partsQ];refine ch (H := [(5,.box 283 (enc_interp_frame s_2 (.ref 0 0))),(0,.box 259 (enc_interp_run s_1))]) (Ctr.loH (Ctr.ren (Bij.swp 1 0 (Bij.swp 0 5 Bij.id)) (Hf hr5) (by push_cast (maxSteps := 9000000) [-partsQ]) (by push_cast (maxSteps := 9000000) [-partsQ]))) (by push_cast (maxSteps := 9000000) [-partsQ]) ?_;push_cast (maxSteps := 9000000) [-partsQ];apply hK;clear hK K;refine vl (fun K hK => ?_);push_cast (maxSteps := 9000000) [-partsQ];apply hK;clear hK K;refine bk h ?_;exact sl (by push_cast (maxSteps := 9000000) [-partsQ,hb3])
   ·refine VC.exit ?_;replace h := ol h hf2;refine ar h hk1 ?_;exact sl (by push_cast (maxSteps := 9000000) [-partsQ,hb3])
 ·as_aux_lemma =>
   rintro ⟨s_7,s_8⟩ (h : Ck pf a1 s_7 s_8 = some r);(try push_cast (maxSteps := 9000000) [-partsQ]);unfold Ck at h;refine vs [0,1,7,10] (fun K hK => ?_);push_cast (maxSteps := 9000000) [-partsQ];apply hK;clear hK K;obtain ⟨x6,hx6,h⟩ := po_some h;replace hx6 := idx_some4 hx6;refine vs [0,7,10,11] (fun K hK => ?_);push_cast (maxSteps := 9000000) [-partsQ,hx6];(repeat refine ao ?_);apply hK;clear hK K;refine vj h (fun x => ⟨[(7,.ref 5 0)],[(0,.box 259 (enc_interp_run x.1)),(5,.box 283 (enc_interp_frame x.2 (.ref 0 0)))],111,114,1⟩) (fun v7 h hk7 => ?_) ?_
   ·as_aux_lemma =>
     refine VC.block ?_;refine VC.loopP h (fun x => ⟨[(0,.ref 0 0),(7,.ref 5 0),(10,.ref 25 0),(11,.sl false (x6.Code.map enc_Inst))],[(0,.box 259 (enc_interp_run x.1)),(5,.box 283 (enc_interp_frame x.2 (.ref 0 0))),(25,.box 286 [.fn (.func 198) [] [],.fn (.func 199) [] [],.fn (.func 200) [] [],.fn (.func 200) [] [],.fn (.func 200) [] [],.fn (.func 201) [] [],.fn (.func 202) [] [],.fn (.func 203) [] []])],99,114,1⟩) ?_ ?_
     ·exact sl (by push_cast (maxSteps := 9000000) [-partsQ])
     rintro ⟨s_10,s_11⟩ b8 (h : Az pf x6 s_10 s_11 = some b8) hf8;(try push_cast (maxSteps := 9000000) [-partsQ]);unfold Az at h;refine VC.seq ?_;refine vj h (fun x => ⟨[(0,.ref 0 0),(7,.ref 5 0),(10,.ref 25 0),(11,.sl false (x6.Code.map enc_Inst)),(51,rb x)],[(0,.box 259 (enc_interp_run s_10)),(5,.box 283 (enc_interp_frame s_11 (.ref 0 0))),(25,.box 286 [.fn (.func 198) [] [],.fn (.func 199) [] [],.fn (.func 200) [] [],.fn (.func 200) [] [],.fn (.func 200) [] [],.fn (.func 201) [] [],.fn (.func 202) [] [],.fn (.func 203) [] []])],111,114,1⟩) (fun v9 h hk9 => ?_) ?_
     ·as_aux_lemma =>
       rcases Bool.eq_false_or_eq_true (s_10.err == 0) with hb10 | hb10
       ·replace h := cond_yes hb10 h;refine vlG [some 40,some 41,some 42,some 43,some 44,some 45,some 46,some 47,some 48,some 49,some 50,some 51] (fun K hK => ?_);refine runOps_cut 8 (fun K2 hK2 => ?_);push_cast (maxSteps := 9000000) [-partsQ,hb10];(repeat refine ao ?_);refine hK2 _ _ ?_;clear hK2 K2;simp only [List.drop_succ_cons,List.drop_zero];push_cast (maxSteps := 9000000) [-partsQ,hb10];(repeat refine ao ?_);apply hK;clear hK K;refine ar h hk9 ?_;exact sl (by push_cast (maxSteps := 9000000) [-partsQ,hb10])
       ·replace h := cond_no hb10 h;refine vlG [some 40,some 41,some 42,some 43,some 44,some 45,some 46,some 47,some 48,some 49,some 50,some 51] (fun K hK => ?_);refine runOps_cut 8 (fun K2 hK2 => ?_);push_cast (maxSteps := 9000000) [-partsQ,hb10];(repeat refine ao ?_);refine hK2 _ _ ?_;clear hK2 K2;simp only [List.drop_succ_cons,List.drop_zero];push_cast (maxSteps := 9000000) [-partsQ,hb10];(repeat refine ao ?_);apply hK;clear hK K;refine ar h hk9 ?_;exact sl (by push_cast (maxSteps := 9000000) [-partsQ,hb10])
     ·as_aux_lemma =>
       rintro i_12 (h : Ba pf x6 s_10 s_11 i_12 = some b8);(try push_cast (maxSteps := 9000000) [-partsQ]);unfold Ba at h;refine vc h (fun hb11 h => ?_) (fun hb11 h => ?_)
       ·refine VC.skip ?_;refine VC.block ?_;refine VC.seq ?_;refine VC.block ?_;refine vsD [some 53,some 54,some 55,some 56,some 57,some 58,some 59,some 60,some 61,some 52] [0,7,10,11,52] (fun K hK => ?_);push_cast (maxSteps := 9000000) [-partsQ];refine ⟨rfl,hK _ ?_⟩;clear hK K;refine vc h (fun hb12 h => ?_) (fun hb12 h => ?_)
        ·obtain ⟨r13,hr13,h⟩ := po_some h;refine vs [0,7,10,11] (fun K hK => ?_);push_cast (maxSteps := 9000000) [-partsQ];refine ch (H := [(0,.box 259 (enc_interp_run s_10))]) (Ctr.loH (Ctr.ren Bij.id (Cf hr13) (by push_cast (maxSteps := 9000000) [-partsQ]) (by push_cast (maxSteps := 9000000) [-partsQ]))) (by push_cast (maxSteps := 9000000) [-partsQ]) ?_;push_cast (maxSteps := 9000000) [-partsQ];apply hK;clear hK K;refine VC.sub (s' := ⟨[(0,.ref 0 0),(7,.ref 5 0),(10,.ref 25 0),(11,.sl false (x6.Code.map enc_Inst))],[(0,.box 259 (enc_interp_run r13)),(5,.box 283 (enc_interp_frame s_11 (.ref 0 0))),(25,.box 286 [.fn (.func 198) [] [],.fn (.func 199) [] [],.fn (.func 200) [] [],.fn (.func 200) [] [],.fn (.func 200) [] [],.fn (.func 201) [] [],.fn (.func 202) [] [],.fn (.func 203) [] []])],123,114,1⟩) (so (by push_cast (maxSteps := 9000000) [-partsQ,hb11,hb12])) ?_;refine VC.exit ?_;refine bk h ?_;exact sl (by push_cast (maxSteps := 9000000) [-partsQ,hb11,hb12])
        ·refine vs [0,7,10,11,64] (fun K hK => ?_);push_cast (maxSteps := 9000000) [-partsQ];apply hK;clear hK K;refine vc h (fun hb14 h => ?_) (fun hb14 h => ?_)
         ·refine vs [0,7,10,11] (fun K hK => ?_);push_cast (maxSteps := 9000000) [-partsQ];apply hK;clear hK K;obtain ⟨r15,hr15,h⟩ := po_some h;refine vs [0,7,10,11] (fun K hK => ?_);push_cast (maxSteps := 9000000) [-partsQ];refine ch (H := [(0,.box 259 (enc_interp_run (T_interp_run.mk s_10.p s_10.e s_10.fuel (IntKind.i64.wrap (s_10.used + 1)) s_10.err)))]) (Ctr.loH (Ctr.ren Bij.id (Cf hr15) (by push_cast (maxSteps := 9000000) [-partsQ]) (by push_cast (maxSteps := 9000000) [-partsQ]))) (by push_cast (maxSteps := 9000000) [-partsQ]) ?_;push_cast (maxSteps := 9000000) [-partsQ];apply hK;clear hK K;refine VC.sub (s' := ⟨[(0,.ref 0 0),(7,.ref 5 0),(10,.ref 25 0),(11,.sl false (x6.Code.map enc_Inst))],[(0,.box 259 (enc_interp_run r15)),(5,.box 283 (enc_interp_frame s_11 (.ref 0 0))),(25,.box 286 [.fn (.func 198) [] [],.fn (.func 199) [] [],.fn (.func 200) [] [],.fn (.func 200) [] [],.fn (.func 200) [] [],.fn (.func 201) [] [],.fn (.func 202) [] [],.fn (.func 203) [] []])],139,114,1⟩) (so (by push_cast (maxSteps := 9000000) [-partsQ,hb11,hb12,hb14])) ?_;refine VC.exit ?_;refine bk h ?_;exact sl (by push_cast (maxSteps := 9000000) [-partsQ,hb11,hb12,hb14])
         ·refine VC.skip ?_;obtain ⟨x16,hx16,h⟩ := po_some h;replace hx16 := idx_some4 hx16;refine vs [0,7,10,11,12] (fun K hK => ?_);push_cast (maxSteps := 9000000) [-partsQ,hx16];(repeat refine ao ?_);apply hK;clear hK K;refine vs [0,7,10,11,12] (fun K hK => ?_);push_cast (maxSteps := 9000000) [-partsQ];apply hK;clear hK K;rcases Bool.eq_false_or_eq_true (x16.Op == 0) with hb17 | hb17
          ·as_aux_lemma =>
            replace h := cond_yes hb17 h;have hb17e : x16.Op = 0 := by simpa using hb17
            have hb17n : x16.Op.toNat = 0 := by omega
            obtain ⟨r18,hr18,h⟩ := po_some h;refine vsD [some 95,some 96,some 97,some 98,some 99,some 100,some 101] [0,7,10,11] (fun K hK => ?_);push_cast (maxSteps := 9000000) [-partsQ,hb17n];(repeat refine ao ?_);refine chD (H := [(5,.box 283 (enc_interp_frame s_11 (.ref 0 0))),(0,.box 259 (enc_interp_run (T_interp_run.mk s_10.p s_10.e s_10.fuel (IntKind.i64.wrap (s_10.used + 1)) s_10.err)))]) (Ctr.loH (Ctr.ren (Bij.swp 1 0 (Bij.swp 0 5 Bij.id)) (Vv hr18) (by push_cast (maxSteps := 9000000) [-partsQ,hb17n]) (by push_cast (maxSteps := 9000000) [-partsQ,hb17n]))) (by push_cast (maxSteps := 9000000) [-partsQ,hb17n]) ?_;push_cast (maxSteps := 9000000) [-partsQ,hb17n];(repeat refine ao ?_);refine ⟨rfl,hK _ ?_⟩;clear hK K;refine VC.sub (s' := ⟨[(0,.ref 0 0),(7,.ref 5 0),(10,.ref 25 0),(11,.sl false (x6.Code.map enc_Inst))],[(0,.box 259 (enc_interp_run r18.2)),(5,.box 283 (enc_interp_frame r18.1 (.ref 0 0))),(25,.box 286 [.fn (.func 198) [] [],.fn (.func 199) [] [],.fn (.func 200) [] [],.fn (.func 200) [] [],.fn (.func 200) [] [],.fn (.func 201) [] [],.fn (.func 202) [] [],.fn (.func 203) [] []])],153,114,1⟩) (so (by push_cast (maxSteps := 9000000) [-partsQ,hb11,hb12,hb14])) ?_;refine vl (fun K hK => ?_);push_cast (maxSteps := 9000000) [-partsQ];apply hK;clear hK K;refine bk h ?_;exact sl (by push_cast (maxSteps := 9000000) [-partsQ,hb11,hb12,hb14])
          ·replace h := cond_no hb17 h;rcases Bool.eq_false_or_eq_true (x16.Op == 1) with hb19 | hb19
           ·as_aux_lemma =>
             replace h := cond_yes hb19 h;have hb19e : x16.Op = 1 := by simpa using hb19
             have hb19n : x16.Op.toNat = 1 := by omega
             obtain ⟨r20,hr20,h⟩ := po_some h;refine vsD [some 95,some 96,some 97,some 98,some 99,some 100,some 101] [0,7,10,11] (fun K hK => ?_);push_cast (maxSteps := 9000000) [-partsQ,hb19n];(repeat refine ao ?_);refine chD (H := [(5,.box 283 (enc_interp_frame s_11 (.ref 0 0))),(0,.box 259 (enc_interp_run (T_interp_run.mk s_10.p s_10.e s_10.fuel (IntKind.i64.wrap (s_10.used + 1)) s_10.err)))]) (Ctr.loH (Ctr.ren (Bij.swp 1 0 (Bij.swp 0 5 Bij.id)) (Vc hr20) (by push_cast (maxSteps := 9000000) [-partsQ,hb19n]) (by push_cast (maxSteps := 9000000) [-partsQ,hb19n]))) (by push_cast (maxSteps := 9000000) [-partsQ,hb19n]) ?_;push_cast (maxSteps := 9000000) [-partsQ,hb19n];(repeat refine ao ?_);refine ⟨rfl,hK _ ?_⟩;clear hK K;refine VC.sub (s' := ⟨[(0,.ref 0 0),(7,.ref 5 0),(10,.ref 25 0),(11,.sl false (x6.Code.map enc_Inst))],[(0,.box 259 (enc_interp_run r20.2)),(5,.box 283 (enc_interp_frame r20.1 (.ref 0 0))),(25,.box 286 [.fn (.func 198) [] [],.fn (.func 199) [] [],.fn (.func 200) [] [],.fn (.func 200) [] [],.fn (.func 200) [] [],.fn (.func 201) [] [],.fn (.func 202) [] [],.fn (.func 203) [] []])],153,114,1⟩) (so (by push_cast (maxSteps := 9000000) [-partsQ,hb11,hb12,hb14])) ?_;refine vl (fun K hK => ?_);push_cast (maxSteps := 9000000) [-partsQ];apply hK;clear hK K;refine bk h ?_;exact sl (by push_cast (maxSteps := 9000000) [-partsQ,hb11,hb12,hb14])
           ·replace h := cond_no hb19 h;rcases Bool.eq_false_or_eq_true (x16.Op == 2) with hb21 | hb21
            ·as_aux_lemma =>
              replace h := cond_yes hb21 h;have hb21e : x16.Op = 2 := by simpa using hb21
              have hb21n : x16.Op.toNat = 2 := by omega
              obtain ⟨r22,hr22,h⟩ := po_some h;refine vsD [some 95,some 96,some 97,some 98,some 99,some 100,some 101] [0,7,10,11] (fun K hK => ?_);push_cast (maxSteps := 9000000) [-partsQ,hb21n];(repeat refine ao ?_);refine chD (H := [(5,.box 283 (enc_interp_frame s_11 (.ref 0 0))),(0,.box 259 (enc_interp_run (T_interp_run.mk s_10.p s_10.e s_10.fuel (IntKind.i64.wrap (s_10.used + 1)) s_10.err)))]) (Ctr.loH (Ctr.ren (Bij.swp 1 0 (Bij.swp 0 5 Bij.id)) (Lm hr22) (by push_cast (maxSteps := 9000000) [-partsQ,hb21n]) (by push_cast (maxSteps := 9000000) [-partsQ,hb21n]))) (by push_cast (maxSteps := 9000000) [-partsQ,hb21n]) ?_;push_cast (maxSteps := 9000000) [-partsQ,hb21n];(repeat refine ao ?_);refine ⟨rfl,hK _ ?_⟩;clear hK K;refine VC.sub (s' := ⟨[(0,.ref 0 0),(7,.ref 5 0),(10,.ref 25 0),(11,.sl false (x6.Code.map enc_Inst))],[(0,.box 259 (enc_interp_run r22.2)),(5,.box 283 (enc_interp_frame r22.1 (.ref 0 0))),(25,.box 286 [.fn (.func 198) [] [],.fn (.func 199) [] [],.fn (.func 200) [] [],.fn (.func 200) [] [],.fn (.func 200) [] [],.fn (.func 201) [] [],.fn (.func 202) [] [],.fn (.func 203) [] []])],153,114,1⟩) (so (by push_cast (maxSteps := 9000000) [-partsQ,hb11,hb12,hb14])) ?_;refine vl (fun K hK => ?_);push_cast (maxSteps := 9000000) [-partsQ];apply hK;clear hK K;refine bk h ?_;exact sl (by push_cast (maxSteps := 9000000) [-partsQ,hb11,hb12,hb14])
            ·replace h := cond_no hb21 h;rcases Bool.eq_false_or_eq_true (x16.Op == 3) with hb23 | hb23
             ·as_aux_lemma =>
               replace h := cond_yes hb23 h;have hb23e : x16.Op = 3 := by simpa using hb23
               have hb23n : x16.Op.toNat = 3 := by omega
               obtain ⟨r24,hr24,h⟩ := po_some h;refine vsD [some 95,some 96,some 97,some 98,some 99,some 100,some 101] [0,7,10,11] (fun K hK => ?_);push_cast (maxSteps := 9000000) [-partsQ,hb23n];(repeat refine ao ?_);refine chD (H := [(5,.box 283 (enc_interp_frame s_11 (.ref 0 0))),(0,.box 259 (enc_interp_run (T_interp_run.mk s_10.p s_10.e s_10.fuel (IntKind.i64.wrap (s_10.used + 1)) s_10.err)))]) (Ctr.loH (Ctr.ren (Bij.swp 1 0 (Bij.swp 0 5 Bij.id)) (Lm hr24) (by push_cast (maxSteps := 9000000) [-partsQ,hb23n]) (by push_cast (maxSteps := 9000000) [-partsQ,hb23n]))) (by push_cast (maxSteps := 9000000) [-partsQ,hb23n]) ?_;push_cast (maxSteps := 9000000) [-partsQ,hb23n];(repeat refine ao ?_);refine ⟨rfl,hK _ ?_⟩;clear hK K;refine VC.sub (s' := ⟨[(0,.ref 0 0),(7,.ref 5 0),(10,.ref 25 0),(11,.sl false (x6.Code.map enc_Inst))],[(0,.box 259 (enc_interp_run r24.2)),(5,.box 283 (enc_interp_frame r24.1 (.ref 0 0))),(25,.box 286 [.fn (.func 198) [] [],.fn (.func 199) [] [],.fn (.func 200) [] [],.fn (.func 200) [] [],.fn (.func 200) [] [],.fn (.func 201) [] [],.fn (.func 202) [] [],.fn (.func 203) [] []])],153,114,1⟩) (so (by push_cast (maxSteps := 9000000) [-partsQ,hb11,hb12,hb14])) ?_;refine vl (fun K hK => ?_);push_cast (maxSteps := 9000000) [-partsQ];apply hK;clear hK K;refine bk h ?_;exact sl (by push_cast (maxSteps := 9000000) [-partsQ,hb11,hb12,hb14])
             ·replace h := cond_no hb23 h;rcases Bool.eq_false_or_eq_true (x16.Op == 4) with hb25 | hb25
              ·as_aux_lemma =>
                replace h := cond_yes hb25 h;have hb25e : x16.Op = 4 := by simpa using hb25
                have hb25n : x16.Op.toNat = 4 := by omega
                obtain ⟨r26,hr26,h⟩ := po_some h;refine vsD [some 95,some 96,some 97,some 98,some 99,some 100,some 101] [0,7,10,11] (fun K hK => ?_);push_cast (maxSteps := 9000000) [-partsQ,hb25n];(repeat refine ao ?_);refine chD (H := [(5,.box 283 (enc_interp_frame s_11 (.ref 0 0))),(0,.box 259 (enc_interp_run (T_interp_run.mk s_10.p s_10.e s_10.fuel (IntKind.i64.wrap (s_10.used + 1)) s_10.err)))]) (Ctr.loH (Ctr.ren (Bij.swp 1 0 (Bij.swp 0 5 Bij.id)) (Lm hr26) (by push_cast (maxSteps := 9000000) [-partsQ,hb25n]) (by push_cast (maxSteps := 9000000) [-partsQ,hb25n]))) (by push_cast (maxSteps := 9000000) [-partsQ,hb25n]) ?_;push_cast (maxSteps := 9000000) [-partsQ,hb25n];(repeat refine ao ?_);refine ⟨rfl,hK _ ?_⟩;clear hK K;refine VC.sub (s' := ⟨[(0,.ref 0 0),(7,.ref 5 0),(10,.ref 25 0),(11,.sl false (x6.Code.map enc_Inst))],[(0,.box 259 (enc_interp_run r26.2)),(5,.box 283 (enc_interp_frame r26.1 (.ref 0 0))),(25,.box 286 [.fn (.func 198) [] [],.fn (.func 199) [] [],.fn (.func 200) [] [],.fn (.func 200) [] [],.fn (.func 200) [] [],.fn (.func 201) [] [],.fn (.func 202) [] [],.fn (.func 203) [] []])],153,114,1⟩) (so (by push_cast (maxSteps := 9000000) [-partsQ,hb11,hb12,hb14])) ?_;refine vl (fun K hK => ?_);push_cast (maxSteps := 9000000) [-partsQ];apply hK;clear hK K;refine bk h ?_;exact sl (by push_cast (maxSteps := 9000000) [-partsQ,hb11,hb12,hb14])
              ·replace h := cond_no hb25 h;rcases Bool.eq_false_or_eq_true (x16.Op == 5) with hb27 | hb27
               ·as_aux_lemma =>
                 replace h := cond_yes hb27 h;have hb27e : x16.Op = 5 := by simpa using hb27
                 have hb27n : x16.Op.toNat = 5 := by omega
                 obtain ⟨r28,hr28,h⟩ := po_some h;refine vsD [some 95,some 96,some 97,some 98,some 99,some 100,some 101] [0,7,10,11] (fun K hK => ?_);push_cast (maxSteps := 9000000) [-partsQ,hb27n];(repeat refine ao ?_);refine chD (H := [(5,.box 283 (enc_interp_frame s_11 (.ref 0 0))),(0,.box 259 (enc_interp_run (T_interp_run.mk s_10.p s_10.e s_10.fuel (IntKind.i64.wrap (s_10.used + 1)) s_10.err)))]) (Ctr.loH (Ctr.ren (Bij.swp 1 0 (Bij.swp 0 5 Bij.id)) (Uz hr28) (by push_cast (maxSteps := 9000000) [-partsQ,hb27n]) (by push_cast (maxSteps := 9000000) [-partsQ,hb27n]))) (by push_cast (maxSteps := 9000000) [-partsQ,hb27n]) ?_;push_cast (maxSteps := 9000000) [-partsQ,hb27n];(repeat refine ao ?_);refine ⟨rfl,hK _ ?_⟩;clear hK K;refine VC.sub (s' := ⟨[(0,.ref 0 0),(7,.ref 5 0),(10,.ref 25 0),(11,.sl false (x6.Code.map enc_Inst))],[(0,.box 259 (enc_interp_run r28.2)),(5,.box 283 (enc_interp_frame r28.1 (.ref 0 0))),(25,.box 286 [.fn (.func 198) [] [],.fn (.func 199) [] [],.fn (.func 200) [] [],.fn (.func 200) [] [],.fn (.func 200) [] [],.fn (.func 201) [] [],.fn (.func 202) [] [],.fn (.func 203) [] []])],153,114,1⟩) (so (by push_cast (maxSteps := 9000000) [-partsQ,hb11,hb12,hb14])) ?_;refine vl (fun K hK => ?_);push_cast (maxSteps := 9000000) [-partsQ];apply hK;clear hK K;refine bk h ?_;exact sl (by push_cast (maxSteps := 9000000) [-partsQ,hb11,hb12,hb14])
               ·replace h := cond_no hb27 h;rcases Bool.eq_false_or_eq_true (x16.Op == 6) with hb29 | hb29
                ·as_aux_lemma =>
                  replace h := cond_yes hb29 h;have hb29e : x16.Op = 6 := by simpa using hb29
                  have hb29n : x16.Op.toNat = 6 := by omega
                  obtain ⟨r30,hr30,h⟩ := po_some h;refine vsD [some 95,some 96,some 97,some 98,some 99,some 100,some 101] [0,7,10,11] (fun K hK => ?_);push_cast (maxSteps := 9000000) [-partsQ,hb29n];(repeat refine ao ?_);refine chD (H := [(5,.box 283 (enc_interp_frame s_11 (.ref 0 0))),(0,.box 259 (enc_interp_run (T_interp_run.mk s_10.p s_10.e s_10.fuel (IntKind.i64.wrap (s_10.used + 1)) s_10.err)))]) (Ctr.loH (Ctr.ren (Bij.swp 1 0 (Bij.swp 0 5 Bij.id)) (Uy pf hpf hr30) (by push_cast (maxSteps := 9000000) [-partsQ,hb29n]) (by push_cast (maxSteps := 9000000) [-partsQ,hb29n]))) (by push_cast (maxSteps := 9000000) [-partsQ,hb29n]) ?_;push_cast (maxSteps := 9000000) [-partsQ,hb29n];(repeat refine ao ?_);refine ⟨rfl,hK _ ?_⟩;clear hK K;refine VC.sub (s' := ⟨[(0,.ref 0 0),(7,.ref 5 0),(10,.ref 25 0),(11,.sl false (x6.Code.map enc_Inst))],[(0,.box 259 (enc_interp_run r30.2)),(5,.box 283 (enc_interp_frame r30.1 (.ref 0 0))),(25,.box 286 [.fn (.func 198) [] [],.fn (.func 199) [] [],.fn (.func 200) [] [],.fn (.func 200) [] [],.fn (.func 200) [] [],.fn (.func 201) [] [],.fn (.func 202) [] [],.fn (.func 203) [] []])],153,114,1⟩) (so (by push_cast (maxSteps := 9000000) [-partsQ,hb11,hb12,hb14])) ?_;refine vl (fun K hK => ?_);push_cast (maxSteps := 9000000) [-partsQ];apply hK;clear hK K;refine bk h ?_;exact sl (by push_cast (maxSteps := 9000000) [-partsQ,hb11,hb12,hb14])
                ·replace h := cond_no hb29 h;rcases Bool.eq_false_or_eq_true (x16.Op == 7) with hb31 | hb31
                 ·as_aux_lemma =>
                   replace h := cond_yes hb31 h;have hb31e : x16.Op = 7 := by simpa using hb31
                   have hb31n : x16.Op.toNat = 7 := by omega
                   obtain ⟨r32,hr32,h⟩ := po_some h;refine vsD [some 95,some 96,some 97,some 98,some 99,some 100,some 101] [0,7,10,11] (fun K hK => ?_);push_cast (maxSteps := 9000000) [-partsQ,hb31n];(repeat refine ao ?_);refine chD (H := [(5,.box 283 (enc_interp_frame s_11 (.ref 0 0))),(0,.box 259 (enc_interp_run (T_interp_run.mk s_10.p s_10.e s_10.fuel (IntKind.i64.wrap (s_10.used + 1)) s_10.err)))]) (Ctr.loH (Ctr.ren (Bij.swp 1 0 (Bij.swp 0 5 Bij.id)) (Vf hr32) (by push_cast (maxSteps := 9000000) [-partsQ,hb31n]) (by push_cast (maxSteps := 9000000) [-partsQ,hb31n]))) (by push_cast (maxSteps := 9000000) [-partsQ,hb31n]) ?_;push_cast (maxSteps := 9000000) [-partsQ,hb31n];(repeat refine ao ?_);refine ⟨rfl,hK _ ?_⟩;clear hK K;refine VC.sub (s' := ⟨[(0,.ref 0 0),(7,.ref 5 0),(10,.ref 25 0),(11,.sl false (x6.Code.map enc_Inst))],[(0,.box 259 (enc_interp_run r32.2)),(5,.box 283 (enc_interp_frame r32.1 (.ref 0 0))),(25,.box 286 [.fn (.func 198) [] [],.fn (.func 199) [] [],.fn (.func 200) [] [],.fn (.func 200) [] [],.fn (.func 200) [] [],.fn (.func 201) [] [],.fn (.func 202) [] [],.fn (.func 203) [] []])],153,114,1⟩) (so (by push_cast (maxSteps := 9000000) [-partsQ,hb11,hb12,hb14])) ?_;refine vl (fun K hK => ?_);push_cast (maxSteps := 9000000) [-partsQ];apply hK;clear hK K;refine bk h ?_;exact sl (by push_cast (maxSteps := 9000000) [-partsQ,hb11,hb12,hb14])
                 ·replace h := cond_no hb31 h;cases h
       ·refine VC.exit ?_;replace h := ol h hf8;refine ar h hk7 ?_;exact sl (by push_cast (maxSteps := 9000000) [-partsQ,hb11])
   ·as_aux_lemma =>
     rintro ⟨s_15,s_16⟩ (h : Gg s_15 s_16 = some r);(try push_cast (maxSteps := 9000000) [-partsQ]);unfold Gg at h;refine vs [6] (fun K hK => ?_);push_cast (maxSteps := 9000000) [-partsQ];apply hK;clear hK K;refine VC.ret ?_;replace h := Option.some.inj h;subst h;exact en (by push_cast (maxSteps := 9000000) [-partsQ])
noncomputable def Bs : Nat → T_interp_run → Int → (List UInt32) → Option (UInt32 × T_interp_run)
  | 0 => fun _ _ _ => none
  | d + 1 => Cb (Bs d)
theorem Qr : ∀ (d : Nat) (a0 : T_interp_run) (a1 : Int) (a2 : (List UInt32)) {r : UInt32 × T_interp_run} (h : Bs d a0 a1 a2 = some r), Ctr prog 171 [.ref 0 0, ri a1, .sl false (a2.map encU32)] [(0, .box 259 (enc_interp_run a0))] (ru r.1) [(0, .box 259 (enc_interp_run r.2))]
  | 0, a0, a1, a2, r, h => (by cases h)
  | d + 1, a0, a1, a2, r, h => Ur (Bs d) (fun h => Qr d _ _ _ h) h
abbrev PF := T_interp_run → Int → (List UInt32) → Option (UInt32 × T_interp_run)
noncomputable def stepR (pf : PF) (x : T_Fn) (s : Rn × Fra) : Option ((Rn × Fra) ⊕ (Rn × Fra)) := Az pf x s.1 s.2
noncomputable def callS (pf : PF) (f : Fra) (p : T_Prog) (e : T_Env) (fu us : Int) (i : T_Inst) : Option (Fra × Rn) :=
  match p.Fns[i.Imm.toNat]? with
  | none => some (f, ⟨p, e, fu, us, 10⟩)
  | some g => if (i.Imm.toNat : Int) ≤ f.fn then some (f, ⟨p, e, fu, us, 10⟩)
    else if handE f 0 g.Args.toNat ≠ 0 then some (f, ⟨p, e, fu, us, handE f 0 g.Args.toNat⟩)
    else match pf ⟨p, e, fu, us, 0⟩ (i.Imm.toNat : Int) (handV f g.Args.toNat) with
      | none => none
      | some q => some (backF f q.1, q.2)
theorem callS_is {pf : PF} {f : Fra} {p : T_Prog} {e : T_Env} {fu us : Int} {i : T_Inst} (hp : ProgOk p) : Dw pf f ⟨p, e, fu, us, 0⟩ i = callS pf f p e fu us i := by
  have hl := hp.len
  have hL : IntKind.u64.wrap (p.Fns.length : Int) = (p.Fns.length : Int) := by rw [IntKind.wrap_u64]; omega
  unfold Dw callS
  simp only [w64u, hL]
  have bad : Cn pf f ⟨p, e, fu, us, 0⟩ i true = some (f, ⟨p, e, fu, us, 10⟩) := by
    simp only [Cn, cond_true, fail_is, po_of]
    rfl
  by_cases h1 : p.Fns.length ≤ i.Imm.toNat
  · have d : decide ((i.Imm.toNat : Int) ≥ (p.Fns.length : Int)) = true := by simp; omega
    rw [List.getElem?_eq_none h1]
    simp only [d, cond_true, po_of, bad]
  · have d : decide ((i.Imm.toNat : Int) ≥ (p.Fns.length : Int)) = false := by simp; omega
    obtain ⟨g, hg⟩ : ∃ g, p.Fns[i.Imm.toNat]? = some g := ⟨_, List.getElem?_eq_getElem (by omega)⟩
    rw [hg]
    simp only [d, cond_false, po_of]
    by_cases h2 : (i.Imm.toNat : Int) ≤ f.fn
    · simp only [decide_eq_true h2, bad, if_pos h2]
    · simp only [decide_eq_false h2, if_neg h2, Cn, cond_false, hg, po_of]
      have hgo := (hp.fns g (List.mem_of_getElem? hg)).args
      obtain ⟨k, hk⟩ : ∃ k : Nat, g.Args = (k : Int) := ⟨_, (Int.toNat_of_nonneg hgo.1).symm⟩
      rw [hk]
      simp only [hand_is f p e fu us 0 (show k ≤ 7 by omega), po_of, Int.toNat_natCast]
      by_cases h3 : handE f 0 k = 0
      · have d3 : (handE f 0 k != 0) = false := by simpa using h3
        simp only [d3, cond_false, if_neg (show ¬ (handE f 0 k ≠ 0) from fun q => q h3), h3]
        cases pf ⟨p, e, fu, us, 0⟩ (i.Imm.toNat : Int) (handV f k) with
        | none => rfl
        | some q =>
          simp only [po_of, back_is]
          rfl
      · have d3 : (handE f 0 k != 0) = true := by simpa using h3
        simp only [d3, cond_true, if_pos h3]
theorem step_end {pf : PF} {x : T_Fn} {r : Rn} {f : Fra} (h : r.err ≠ 0 ∨ f.over = true) : stepR pf x (r, f) = some (.inr (r, f)) := by
  unfold stepR Az
  by_cases h1 : r.err = 0
  · have d : (r.err == 0) = true := by simpa using h1
    have ho : f.over = true := by rcases h with h | h; exact absurd h1 h; exact h
    simp only [d, cond_true, po_of, ho, Bool.not_true, Ba, cond_false]
  · have d : (r.err == 0) = false := by simpa using h1
    simp only [d, cond_false, po_of, Ba]
theorem step_long {pf : PF} {x : T_Fn} {p : T_Prog} {e : T_Env} {fu : Int} {f : Fra} (ho : f.over = false) : stepR pf x (⟨p, e, fu, fu, 0⟩, f) = some (.inl (⟨p, e, fu, fu, 2⟩, f)) := by
  unfold stepR Az
  simp only [show ((0 : Int) == 0) = true from rfl, cond_true, po_of, ho, Bool.not_false, Ba, beq_self_eq_true, fail_is]
  rfl
theorem wUsed {us fu : Int} (h : 0 ≤ us ∧ us < fu) (hf : fu ≤ 1000000) : IntKind.i64.wrap (us + 1) = us + 1 := wrap_i64 (by omega) (by omega)
theorem step_off {pf : PF} {x : T_Fn} {p : T_Prog} {e : T_Env} {fu us : Int} {f : Fra} (ho : f.over = false) (hu : 0 ≤ us ∧ us < fu) (hf : fu ≤ 1000000) (ha : (x.Code.length : Int) ≤ f.at_) :
    stepR pf x (⟨p, e, fu, us, 0⟩, f) = some (.inl (⟨p, e, fu, us + 1, 10⟩, f)) := by
  unfold stepR Az
  have d1 : (us == fu) = false := by simp; omega
  have d2 : decide (f.at_ ≥ (x.Code.length : Int)) = true := by simp; omega
  simp only [show ((0 : Int) == 0) = true from rfl, cond_true, po_of, ho, Bool.not_false, Ba, d1, d2, cond_false, fail_is, wUsed hu hf]
  rfl
theorem step_op {pf : PF} {x : T_Fn} {p : T_Prog} {e : T_Env} {fu us : Int} {f : Fra} {i : T_Inst} (ho : f.over = false) (hu : 0 ≤ us ∧ us < fu) (hf : fu ≤ 1000000) (ha : 0 ≤ f.at_ ∧ f.at_ ≤ 64) (hi : x.Code[f.at_.toNat]? = some i)
    (hI : InstOk i) (hF : Fits e.T) (h6 : i.Op ≠ 6) :
    stepR pf x (⟨p, e, fu, us, 0⟩, f) = some (.inl (⟨p, (opS f e 0 i).2.1, fu, us + 1, (opS f e 0 i).2.2⟩, atF (opS f e 0 i).1 ((opS f e 0 i).1.at_ + 1))) := by
  have hlt := get_lt hi
  have hk := op_keeps f hI hF
  have hw : IntKind.i64.wrap ((opS f e 0 i).1.at_ + 1) = (opS f e 0 i).1.at_ + 1 := wrap_i64 (by have := hk.at_; omega) (by have := hk.at_; omega)
  have d1 : (us == fu) = false := by simp; omega
  have d2 : decide (f.at_ ≥ (x.Code.length : Int)) = false := by simp; omega
  have hop := hI.op
  unfold stepR Az
  simp only [show ((0 : Int) == 0) = true from rfl, cond_true, po_of, ho, Bool.not_false, Ba, d1, d2, cond_false, wUsed hu hf, idx_of ha.1 hi]
  have ne : ∀ k : Int, i.Op ≠ k → (i.Op == k) = false := fun k h => by simpa using h
  have eq : ∀ k : Int, i.Op = k → (i.Op == k) = true := fun k h => by simpa using h
  have hc : i.Op = 0 ∨ i.Op = 1 ∨ (i.Op = 2 ∨ i.Op = 3 ∨ i.Op = 4) ∨ i.Op = 5 ∨ i.Op = 7 := by omega
  rcases hc with q | q | q | q | q
  · have e1 : opS f e 0 i = ((aluS f 0 i).1, e, (aluS f 0 i).2) := by unfold opS; rw [if_pos q]
    rw [e1] at hw ⊢
    simp only [eq 0 q, cond_true, aluS_is f p e fu _ 0 hI q, po_of, hw]
    rfl
  · have e1 : opS f e 0 i = ((jumpS f 0 i).1, e, (jumpS f 0 i).2) := by unfold opS; rw [if_neg (by omega), if_pos q]
    rw [e1] at hw ⊢
    simp only [ne 0 (by omega), eq 1 q, cond_true, cond_false, jumpS_is f p e fu _ 0 hI (by omega), po_of, hw]
    rfl
  · have e1 : opS f e 0 i = ((wordsS f e.Ctx 0 i).1, e, (wordsS f e.Ctx 0 i).2) := by unfold opS; rw [if_neg (by omega), if_neg (by omega), if_neg (by omega), if_neg (by omega)]
    rw [e1] at hw ⊢
    rcases q with q' | q' | q'
    · simp only [ne 0 (by omega), ne 1 (by omega), eq 2 q', cond_true, cond_false, wordsS_is f p e fu _ 0 hI (.inl q'), po_of, hw]
      rfl
    · simp only [ne 0 (by omega), ne 1 (by omega), ne 2 (by omega), eq 3 q', cond_true, cond_false, wordsS_is f p e fu _ 0 hI (.inr (.inl q')), po_of, hw]
      rfl
    · simp only [ne 0 (by omega), ne 1 (by omega), ne 2 (by omega), ne 3 (by omega), eq 4 q', cond_true, cond_false, wordsS_is f p e fu _ 0 hI (.inr (.inr q')), po_of, hw]
      rfl
  · have e1 : opS f e 0 i = helpS f e 0 i := by unfold opS; rw [if_neg (by omega), if_neg (by omega), if_pos q]
    rw [e1] at hw ⊢
    simp only [ne 0 (by omega), ne 1 (by omega), ne 2 (by omega), ne 3 (by omega), ne 4 (by omega), eq 5 q, cond_true, cond_false, helpS_is f p e fu _ 0 i hF, po_of, hw]
    rfl
  · have e1 : opS f e 0 i = ((exitS f 0).1, e, (exitS f 0).2) := by unfold opS; rw [if_neg (by omega), if_neg (by omega), if_neg (by omega), if_pos q]
    rw [e1] at hw ⊢
    simp only [ne 0 (by omega), ne 1 (by omega), ne 2 (by omega), ne 3 (by omega), ne 4 (by omega), ne 5 (by omega), ne 6 (by omega), eq 7 q, cond_true, cond_false, exitS_is f p e fu _ 0 i, po_of, hw]
    rfl
theorem step_call {pf : PF} {x : T_Fn} {p : T_Prog} {e : T_Env} {fu us : Int} {f f' : Fra} {r' : Rn} {i : T_Inst} (ho : f.over = false) (hu : 0 ≤ us ∧ us < fu) (hf : fu ≤ 1000000) (ha : 0 ≤ f.at_ ∧ f.at_ ≤ 64) (hi : x.Code[f.at_.toNat]? = some i)
    (hp : ProgOk p) (h6 : i.Op = 6) (hc : callS pf f p e fu (us + 1) i = some (f', r')) (hat : f'.at_ = f.at_) :
    stepR pf x (⟨p, e, fu, us, 0⟩, f) = some (.inl (r', atF f' (f.at_ + 1))) := by
  have hlt := get_lt hi
  have hw : IntKind.i64.wrap (f.at_ + 1) = f.at_ + 1 := wrap_i64 (by omega) (by omega)
  have d1 : (us == fu) = false := by simp; omega
  have d2 : decide (f.at_ ≥ (x.Code.length : Int)) = false := by simp; omega
  unfold stepR Az
  simp only [show ((0 : Int) == 0) = true from rfl, cond_true, po_of, ho, Bool.not_false, Ba, d1, d2, cond_false, wUsed hu hf, idx_of ha.1 hi]
  have ne : ∀ k : Int, i.Op ≠ k → (i.Op == k) = false := fun k h => by simpa using h
  have eq : (i.Op == 6) = true := by simpa using h6
  simp only [ne 0 (by omega), ne 1 (by omega), ne 2 (by omega), ne 3 (by omega), ne 4 (by omega), ne 5 (by omega), eq, cond_true, cond_false, callS_is hp, hc, po_of, hat, hw]
  rfl
def putsF (f : Fra) : Nat → List UInt32 → Fra
  | _, [] => f
  | n, v :: l => putsF (putF f (n + 1) v) (n + 1) l
def newF (fn : Int) : Fra := ⟨fn, 0, ⟨0, 0, 0, 0, 0, 0, 0, 0⟩, ⟨false, false, false, false, false, false, false, false⟩, ⟨0, 0, 0, 0, 0, 0, 0, 0, 0, 0, 0, 0, 0, 0, 0, 0⟩, false⟩
theorem putsF_same (f : Fra) (n : Nat) (l : List UInt32) : (putsF f n l).fn = f.fn ∧ (putsF f n l).at_ = f.at_ ∧ (putsF f n l).over = f.over := by
  induction l generalizing f n with
  | nil => exact ⟨rfl, rfl, rfl⟩
  | cons v l ih => exact ih (putF f (n + 1) v) (n + 1)
theorem args_is' (r : Rn) (f : Fra) (a : List UInt32) (h : a.length ≤ 7) : lpU (fun x => Bk a x.1 x.2.1 x.2.2) (r, f, 0) = some (r, putsF f 0 a) := by
  have key : ∀ (l : List UInt32) (n : Nat) (g : Fra), a.drop n = l → n + l.length = a.length → lpU (fun x => Bk a x.1 x.2.1 x.2.2) (r, g, (n : Int)) = some (r, putsF g n l) := by
    intro l
    induction l with
    | nil =>
      intro n g hd hn
      refine lpU_inr ?_
      have d : decide ((n : Int) < (a.length : Int)) = false := by simp at hn; simp; omega
      simp only [Bk, d, cond_false]
      rfl
    | cons v l ih =>
      intro n g hd hn
      simp only [List.length_cons] at hn
      have d : decide ((n : Int) < (a.length : Int)) = true := by simp; omega
      have hv : a[n]? = some v := by
        have := congrArg (fun q => q[0]?) hd
        simpa using this
      rw [lpU_inl (s' := (r, putF g (n + 1) v, ((n + 1 : Nat) : Int)))]
      · exact ih (n + 1) _ (by rw [← List.drop_drop, hd]; rfl) (by omega)
      · simp only [Bk, d, cond_true, idx_nat, hv, po_of, w64 (show n < 9223372036854775807 by omega), put_is' g r (show 0 ≤ ((n + 1 : Nat) : Int) ∧ ((n + 1 : Nat) : Int) < 8 by omega), Int.toNat_natCast]
  exact key a 0 f rfl (by simp)
theorem frame_is {pf : PF} {r : Rn} {fn : Int} {a : List UInt32} {x : T_Fn} (ha : a.length ≤ 7) (h0 : 0 ≤ fn) (hx : r.p.Fns[fn.toNat]? = some x) :
    Cb pf r fn a = po (lpU (stepR pf x) (r, putsF (newF fn) 0 a)) (fun q => some (q.2.regs.a0, q.1)) := by
  unfold Cb
  have e := args_is' r (newF fn) a ha
  unfold newF at e
  rw [e]
  simp only [po_of, Ck, idx_of h0 hx]
  rfl
structure SI (P : T_Prog) (FU : Int) (FN : Int) (e0 : T_Env) (u0 : Int) (s : Rn × Fra) : Prop where
  p : s.1.p = P
  fu : s.1.fuel = FU
  us : u0 ≤ s.1.used ∧ s.1.used ≤ FU
  e : EKeep e0 s.1.e
  err : s.1.err = 0 ∨ s.1.err = 2 ∨ s.1.err = 10
  long : s.1.err = 2 → s.1.used = FU
  fn : s.2.fn = FN
  at_ : 0 ≤ s.2.at_ ∧ s.2.at_ ≤ 70000
structure FnPost (r r' : Rn) : Prop where
  p : r'.p = r.p
  fu : r'.fuel = r.fuel
  us : r.used ≤ r'.used ∧ r'.used ≤ r.fuel
  e : EKeep r.e r'.e
  err : r'.err = 0 ∨ r'.err = 2 ∨ r'.err = 10
  long : r'.err = 2 → r'.used = r.fuel
structure FnPre (P : T_Prog) (r : Rn) (FN : Int) (A : List UInt32) : Prop where
  p : r.p = P
  us : 0 ≤ r.used ∧ r.used ≤ r.fuel
  fu : r.fuel ≤ 1000000
  e : Fits r.e.T
  err : r.err = 0
  fn : 0 ≤ FN ∧ FN < (P.Fns.length : Int)
  a : A.length ≤ 7
def PfOk (p : T_Prog) (pf : PF) (fn : Int) : Prop := ∀ r k a, fn < k → FnPre p r k a → ∃ v r', pf r k a = some (v, r') ∧ FnPost r r'
inductive Rnd (pf : PF) (x : T_Fn) (p : T_Prog) (e : T_Env) (fu us : Int) (f : Fra) : Rn → Fra → Prop where
  | long (h : us = fu) : Rnd pf x p e fu us f ⟨p, e, fu, fu, 2⟩ f
  | off (h : us < fu) (ha : (x.Code.length : Int) ≤ f.at_) : Rnd pf x p e fu us f ⟨p, e, fu, us + 1, 10⟩ f
  | op (h : us < fu) (i : T_Inst) (ha : f.at_ < (x.Code.length : Int)) (hi : x.Code[f.at_.toNat]? = some i) (h6 : i.Op ≠ 6) : Rnd pf x p e fu us f ⟨p, (opS f e 0 i).2.1, fu, us + 1, (opS f e 0 i).2.2⟩ (atF (opS f e 0 i).1 ((opS f e 0 i).1.at_ + 1))
  | fail (h : us < fu) (i : T_Inst) (ha : f.at_ < (x.Code.length : Int)) (hi : x.Code[f.at_.toNat]? = some i) (h6 : i.Op = 6) (hc : ∀ (pf' : PF) (e' : T_Env) (fu' us' : Int), callS pf' f p e' fu' us' i = some (f, ⟨p, e', fu', us', 10⟩)) :
      Rnd pf x p e fu us f ⟨p, e, fu, us + 1, 10⟩ (atF f (f.at_ + 1))
  | call (h : us < fu) (i : T_Inst) (g : T_Fn) (v : UInt32) (r' : Rn) (ha : f.at_ < (x.Code.length : Int)) (hi : x.Code[f.at_.toNat]? = some i) (h6 : i.Op = 6) (hg : p.Fns[i.Imm.toNat]? = some g) (hfn : f.fn < (i.Imm.toNat : Int)) (he : handE f 0 g.Args.toNat = 0)
      (hc : pf ⟨p, e, fu, us + 1, 0⟩ (i.Imm.toNat : Int) (handV f g.Args.toNat) = some (v, r')) : Rnd pf x p e fu us f r' (atF (backF f v) (f.at_ + 1))
theorem callS_go {pf : PF} {f : Fra} {p : T_Prog} {e : T_Env} {fu us : Int} {i : T_Inst} {g : T_Fn} {v : UInt32} {r' : Rn} (hg : p.Fns[i.Imm.toNat]? = some g) (hfn : f.fn < (i.Imm.toNat : Int)) (he : handE f 0 g.Args.toNat = 0)
    (hc : pf ⟨p, e, fu, us, 0⟩ (i.Imm.toNat : Int) (handV f g.Args.toNat) = some (v, r')) : callS pf f p e fu us i = some (backF f v, r') := by
  unfold callS
  rw [hg]
  simp only
  rw [if_neg (by omega), if_neg (by rw [he]; simp), hc]
theorem backF_at (f : Fra) (v : UInt32) : (backF f v).fn = f.fn ∧ (backF f v).at_ = f.at_ := clrF_at (putF f 0 v) 5
theorem callPre {p : T_Prog} {e : T_Env} {fu us : Int} {f : Fra} {i : T_Inst} {g : T_Fn} (hp : ProgOk p) (hF : Fits e.T) (hu : 0 ≤ us ∧ us < fu) (hf : fu ≤ 1000000) (hg : p.Fns[i.Imm.toNat]? = some g) : FnPre p ⟨p, e, fu, us + 1, 0⟩ (i.Imm.toNat : Int) (handV f g.Args.toNat) :=
  ⟨rfl, ⟨by show 0 ≤ us + 1; omega, by show us + 1 ≤ fu; omega⟩, hf, hF, rfl, ⟨by omega, by have := get_lt hg; omega⟩, by
    rw [handV_len]
    have := (hp.fns g (List.mem_of_getElem? hg)).args
    omega⟩
theorem round {pf : PF} {p : T_Prog} {fn : Int} {x : T_Fn} (hp : ProgOk p) (hx : FnOk x) (hpf : PfOk p pf fn) {e : T_Env} {fu us : Int} {f : Fra} (ho : f.over = false) (hu : 0 ≤ us ∧ us ≤ fu) (hf : fu ≤ 1000000) (hat : 0 ≤ f.at_) (hfn : f.fn = fn) (h0 : 0 ≤ fn) (hF : Fits e.T) :
    ∃ r' f', stepR pf x (⟨p, e, fu, us, 0⟩, f) = some (.inl (r', f')) ∧ Rnd pf x p e fu us f r' f' := by
  by_cases h1 : us = fu
  · subst h1
    exact ⟨_, _, step_long ho, .long rfl⟩
  have hlt : us < fu := by omega
  by_cases h2 : (x.Code.length : Int) ≤ f.at_
  · exact ⟨_, _, step_off ho ⟨hu.1, hlt⟩ hf h2, .off hlt h2⟩
  have hl := hx.len
  obtain ⟨i, hi⟩ : ∃ i, x.Code[f.at_.toNat]? = some i := ⟨_, List.getElem?_eq_getElem (by omega)⟩
  have hI := hx.code i (List.mem_of_getElem? hi)
  by_cases h6 : i.Op = 6
  case neg => exact ⟨_, _, step_op ho ⟨hu.1, hlt⟩ hf ⟨hat, by omega⟩ hi hI hF h6, .op hlt i (by omega) hi h6⟩
  have bad : (∀ (pf' : PF) (e' : T_Env) (fu' us' : Int), callS pf' f p e' fu' us' i = some (f, ⟨p, e', fu', us', 10⟩)) → ∃ r' f', stepR pf x (⟨p, e, fu, us, 0⟩, f) = some (.inl (r', f')) ∧ Rnd pf x p e fu us f r' f' := fun hb =>
    ⟨_, _, step_call ho ⟨hu.1, hlt⟩ hf ⟨hat, by omega⟩ hi hp h6 (hb _ _ _ _) rfl, .fail hlt i (by omega) hi h6 hb⟩
  cases hg : p.Fns[i.Imm.toNat]? with
  | none => exact bad fun pf' e' fu' us' => by unfold callS; rw [hg]
  | some g =>
    by_cases h7 : (i.Imm.toNat : Int) ≤ f.fn
    · exact bad fun pf' e' fu' us' => by unfold callS; rw [hg]; simp only; rw [if_pos h7]
    · by_cases h8 : handE f 0 g.Args.toNat = 0
      · obtain ⟨v, r', hc, _⟩ := hpf _ _ _ (by omega) (callPre (f := f) hp hF ⟨hu.1, hlt⟩ hf hg)
        exact ⟨_, _, step_call ho ⟨hu.1, hlt⟩ hf ⟨hat, by omega⟩ hi hp h6 (callS_go hg (by omega) h8 hc) (backF_at f v).2, .call hlt i g v r' (by omega) hi h6 hg (by omega) h8 hc⟩
      · have h10 : handE f 0 g.Args.toNat = 10 := by
          rcases handE_or (f := f) (n := g.Args.toNat) (err := 0) (.inl rfl) with q | q
          · exact absurd q h8
          · exact q
        exact bad fun pf' e' fu' us' => by unfold callS; rw [hg]; simp only; rw [if_neg h7, if_pos h8, h10]
theorem rnd_keeps {pf : PF} {p : T_Prog} {fn : Int} {x : T_Fn} (hp : ProgOk p) (hx : FnOk x) (hpf : PfOk p pf fn) {e e0 : T_Env} {fu us u0 : Int} {f f' : Fra} {r' : Rn} (h : SI p fu fn e0 u0 (⟨p, e, fu, us, 0⟩, f)) (h0 : 0 ≤ u0) (hf : fu ≤ 1000000) (hr : Rnd pf x p e fu us f r' f') : SI p fu fn e0 u0 (r', f') ∧ (us < r'.used ∨ (us = fu ∧ r'.used = fu ∧ r'.err = 2)) := by
  have hus : u0 ≤ us ∧ us ≤ fu := h.us
  have hE : EKeep e0 e := h.e
  have hat : 0 ≤ f.at_ ∧ f.at_ ≤ 70000 := h.at_
  have hfn : f.fn = fn := h.fn
  have hl := hx.len
  cases hr with
  | long h1 => exact ⟨⟨rfl, rfl, ⟨by show u0 ≤ fu; omega, Int.le_refl _⟩, hE, .inr (.inl rfl), fun _ => rfl, hfn, hat⟩, .inr ⟨h1, rfl, rfl⟩⟩
  | off h1 h2 => exact ⟨⟨rfl, rfl, ⟨by show u0 ≤ us + 1; omega, by show us + 1 ≤ fu; omega⟩, hE, .inr (.inr rfl), fun q => absurd (show (10 : Int) = 2 from q) (by decide), hfn, hat⟩, .inl (by show us < us + 1; omega)⟩
  | op h1 i ha hi h6 =>
    have hk := op_keeps f (hx.code i (List.mem_of_getElem? hi)) hE.fits
    have hka := hk.at_
    refine ⟨⟨rfl, rfl, ⟨by show u0 ≤ us + 1; omega, by show us + 1 ≤ fu; omega⟩, hE.trans hk.e, ?_, fun q => ?_, hk.fn.trans hfn, ?_⟩, .inl (by show us < us + 1; omega)⟩
    · rcases hk.err with q | q
      · exact .inl q
      · exact .inr (.inr q)
    · have q' : (opS f e 0 i).2.2 = 2 := q
      rcases hk.err with q2 | q2
      · rw [q2] at q'; exact absurd q' (by decide)
      · rw [q2] at q'; exact absurd q' (by decide)
    · show 0 ≤ (opS f e 0 i).1.at_ + 1 ∧ (opS f e 0 i).1.at_ + 1 ≤ 70000
      omega
  | fail h1 i ha hi h6 hc => exact ⟨⟨rfl, rfl, ⟨by show u0 ≤ us + 1; omega, by show us + 1 ≤ fu; omega⟩, hE, .inr (.inr rfl), fun q => absurd (show (10 : Int) = 2 from q) (by decide), hfn, by show 0 ≤ f.at_ + 1 ∧ f.at_ + 1 ≤ 70000; omega⟩, .inl (by show us < us + 1; omega)⟩
  | call h1 i g v _ ha hi h6 hg hlt he hc =>
    obtain ⟨v', r2, hc', hP⟩ := hpf _ _ _ (by omega) (callPre (f := f) hp hE.fits ⟨by omega, h1⟩ hf hg)
    rw [hc] at hc'
    injection hc' with hc'
    injection hc' with _ hc'
    subst hc'
    have hPu : us + 1 ≤ r'.used ∧ r'.used ≤ fu := hP.us
    exact ⟨⟨hP.p, hP.fu, ⟨by show u0 ≤ r'.used; omega, hPu.2⟩, hE.trans hP.e, hP.err, hP.long, (backF_at f v).1.trans hfn, by show 0 ≤ f.at_ + 1 ∧ f.at_ + 1 ≤ 70000; omega⟩, .inl (by show us < r'.used; omega)⟩
theorem run_eta (r : Rn) (p : T_Prog) (fu : Int) (h1 : r.p = p) (h2 : r.fuel = fu) (h3 : r.err = 0) : r = ⟨p, r.e, fu, r.used, 0⟩ := by
  obtain ⟨a, b, c, d, e⟩ := r
  simp only at h1 h2 h3
  subst h1
  subst h2
  subst h3
  rfl
def muR (fu : Int) (s : Rn × Fra) : Nat := (fu - s.1.used).toNat * 2 + (if s.1.err = 0 then 1 else 0)
theorem mu_less {p : T_Prog} {fu fn u0 us : Int} {e0 e : T_Env} {f f' : Fra} {r' : Rn} (hS : SI p fu fn e0 u0 (r', f')) (hus : us ≤ fu) (h : us < r'.used ∨ (us = fu ∧ r'.used = fu ∧ r'.err = 2)) : muR fu (r', f') < muR fu ((⟨p, e, fu, us, 0⟩ : Rn), f) := by
  have h2 : r'.used ≤ fu := hS.us.2
  unfold muR
  simp only [if_true]
  rcases h with h | ⟨h1, h3, h4⟩
  · split <;> omega
  · rw [h4, if_neg (by decide)]
    omega
theorem loop_tells {pf : PF} {p : T_Prog} {fn : Int} {x : T_Fn} (hp : ProgOk p) (hx : FnOk x) (hpf : PfOk p pf fn) (hfn : 0 ≤ fn) {fu u0 : Int} {e0 : T_Env} (h0 : 0 ≤ u0) (hf : fu ≤ 1000000) (s : Rn × Fra) (h : SI p fu fn e0 u0 s) :
    ∃ q, lpU (stepR pf x) s = some q ∧ SI p fu fn e0 u0 q ∧ (q.1.err ≠ 0 ∨ q.2.over = true) := by
  refine lp_inv (SI p fu fn e0 u0) (muR fu) (fun q => SI p fu fn e0 u0 q ∧ (q.1.err ≠ 0 ∨ q.2.over = true)) ?_ s h
  rintro ⟨r, f⟩ hS
  by_cases he : r.err ≠ 0 ∨ f.over = true
  · exact .inr ⟨_, step_end he, hS, he⟩
  · left
    have he1 : r.err = 0 := by
      by_cases q : r.err = 0
      · exact q
      · exact absurd (.inl q) he
    have ho : f.over = false := by
      cases q : f.over with
      | false => rfl
      | true => exact absurd (.inr q) he
    have hus : u0 ≤ r.used ∧ r.used ≤ fu := hS.us
    have eta := run_eta r p fu hS.p hS.fu he1
    generalize r.e = e at eta
    generalize r.used = us at eta hus
    subst eta
    obtain ⟨r', f', h1, h2⟩ := round hp hx hpf (e := e) ho ⟨by omega, hus.2⟩ hf hS.at_.1 hS.fn hfn hS.e.fits
    obtain ⟨h3, h4⟩ := rnd_keeps hp hx hpf hS h0 hf h2
    exact ⟨_, h1, h3, mu_less h3 hus.2 h4⟩
theorem si_new {p : T_Prog} {r : Rn} {fn : Int} {a : List UInt32} (h : FnPre p r fn a) : SI p r.fuel fn r.e r.used (r, putsF (newF fn) 0 a) := by
  obtain ⟨h1, h2, h3⟩ := putsF_same (newF fn) 0 a
  exact ⟨h.p, rfl, ⟨Int.le_refl _, h.us.2⟩, .refl h.e, .inl h.err, fun q => by rw [h.err] at q; exact absurd q (by decide), h1, by
    show 0 ≤ (putsF (newF fn) 0 a).at_ ∧ _
    rw [h2]
    exact ⟨Int.le_refl 0, by show (0 : Int) ≤ 70000; decide⟩⟩
theorem si_post {p : T_Prog} {r : Rn} {fn : Int} {q : Rn × Fra} (hp : r.p = p) (h : SI p r.fuel fn r.e r.used q) : FnPost r q.1 := ⟨h.p.trans hp.symm, h.fu, h.us, h.e, h.err, h.long⟩
theorem frame_tells {p : T_Prog} (hp : ProgOk p) : ∀ (d : Nat) {fn : Int}, (p.Fns.length : Int) - fn ≤ (d : Int) → ∀ r a, FnPre p r fn a → ∃ v r', Bs d r fn a = some (v, r') ∧ FnPost r r' := by
  intro d
  induction d with
  | zero => intro fn hd r a h; have := h.fn; omega
  | succ d ih =>
    intro fn hd r a h
    have hpf : PfOk p (Bs d) fn := fun r k a hk hpre => ih (by omega) r a hpre
    obtain ⟨x, hx⟩ : ∃ x, p.Fns[fn.toNat]? = some x := ⟨_, List.getElem?_eq_getElem (by have := h.fn; omega)⟩
    have hxo := hp.fns x (List.mem_of_getElem? hx)
    obtain ⟨q, h1, h2, _⟩ := loop_tells hp hxo hpf h.fn.1 h.us.1 h.fu _ (si_new h)
    refine ⟨q.2.regs.a0, q.1, ?_, si_post h.p h2⟩
    show Cb (Bs d) r fn a = _
    rw [frame_is h.a h.fn.1 (by rw [h.p]; exact hx), h1]
    rfl
noncomputable def Jl (r7 : (List T_Entry)) (s_48 : T_Env) (s_49 : T_Table) (i_50 : Int) : Option ((T_Env × T_Table × Int) ⊕ (T_Env × T_Table)) :=
  cond (decide (i_50 < (r7.length : Int))) (
  po (idx s_49.E i_50) fun x11 =>
  po (Dh x11.V) fun r12 =>
  pl (s_49.E.set i_50.toNat (T_Entry.mk x11.Key r12)) fun y13 =>
  some (Sum.inl (s_48, (T_Table.mk s_49.S y13 s_49.Next), (IntKind.i64.wrap (i_50 + 1))))) (
  some (Sum.inr (s_48, s_49)))
noncomputable def Ly (i_19 : Int) (s_54 : T_Env) (s_55 : T_Table) : Option (T_Env) :=
  po (idx s_54.T i_19) fun x14 =>
  pl (s_54.T.set i_19.toNat s_55) fun y15 =>
  some (T_Env.mk s_54.Ctx y15 s_54.Seed)
noncomputable def Lv (i_19 : Int) (s_28 : T_Env) : Option ((T_Env × Int) ⊕ (T_Env)) :=
  some (Sum.inl (s_28, (IntKind.i64.wrap (i_19 + 1))))
noncomputable def Gl (r1 : (List T_Table)) (s_18 : T_Env) (i_19 : Int) : Option ((T_Env × Int) ⊕ (T_Env)) :=
  cond (decide (i_19 < (r1.length : Int))) (
  po (
  po (idx s_18.T i_19) fun x6 =>
  po (Bl x6.E) fun r7 =>
  po (
  lpU (fun x => Jl r7 x.1 x.2.1 x.2.2) (s_18, (T_Table.mk x6.S r7 x6.Next), 0)) (fun x => Ly i_19 x.1 x.2)) (fun x => Lv i_19 x)) (
  some (Sum.inr s_18))
noncomputable def Ks (r26 : UInt32 × T_interp_run) (i_60 : UInt32) : Option (T_Ran) :=
  some (T_Ran.mk i_60 r26.2.e r26.2.used r26.2.err)
noncomputable def Dq (a0 : T_Prog) (a1 : Int) (a3 : Int) (a4 : (List UInt32)) (s_58 : T_Env) (i_59 : Bool) : Option (T_Ran) :=
  cond i_59 (
  some (T_Ran.mk 0 s_58 0 3)) (
  po (Bs 9 (T_interp_run.mk a0 s_58 a3 0 0) a1 a4) fun r26 =>
  po (
  cond (r26.2.err != 0) (
  some 0) (
  some r26.1)) (fun x => Ks r26 x))
noncomputable def Dp (a0 : T_Prog) (a1 : Int) (a3 : Int) (a4 : (List UInt32)) (s_56 : T_Env) (i_57 : Bool) : Option (T_Ran) :=
  cond i_57 (
  some (T_Ran.mk 0 s_56 0 1)) (
  po (
  cond (decide (a1 < 0)) (
  some (s_56, (decide (a1 < 0)))) (
  cond (decide (a1 ≥ (a0.Fns.length : Int))) (
  some (s_56, (decide (a1 ≥ (a0.Fns.length : Int))))) (
  po (idx a0.Fns a1) fun x24 =>
  some (s_56, ((a4.length : Int) != x24.Args))))) (fun x => Dq a0 a1 a3 a4 x.1 x.2))
noncomputable def Ed (a0 : T_Prog) (a1 : Int) (a3 : Int) (a4 : (List UInt32)) (s_47 : T_Env) : Option (T_Ran) :=
  po (
  po (Fl a0) fun r17 =>
  cond (!r17) (
  some (s_47, (!r17))) (
  cond (decide (a3 < 0)) (
  some (s_47, (decide (a3 < 0)))) (
  some (s_47, (decide (a3 > 100000)))))) (fun x => Dp a0 a1 a3 a4 x.1 x.2)
noncomputable def Dd (a0 : T_Prog) (a1 : Int) (a2 : T_Env) (a3 : Int) (a4 : (List UInt32)) : Option (T_Ran) :=
  po (Be a2.T) fun r1 =>
  po (
  lpU (fun x => Gl r1 x.1 x.2) ((T_Env.mk a2.Ctx r1 a2.Seed), 0)) (fun x => Ed a0 a1 a3 a4 x)
theorem Xr {a0 : T_Prog} {a1 : Int} {a2 : T_Env} {a3 : Int} {a4 : (List UInt32)} {r : T_Ran} (h : Dd a0 a1 a2 a3 a4 = some r) : Ctr prog 125 [.agg (enc_Prog a0), ri a1, .agg (enc_Env a2), ri a3, .sl false (a4.map encU32)] [] (.agg (enc_Ran r)) [] := by
 unfold Dd at h;refine Ctr.ofW tabOk func125 rfl call125 0 _ ntmps125 [.cell 10 162] rfl rfl rfl (fun B => ?_);refine vs [1,3,4,5,7,10] (fun K hK => ?_);push_cast;apply hK;clear hK K;obtain ⟨r1,hr1,h⟩ := po_some h;refine vs [1,3,4,5,7,10] (fun K hK => ?_);push_cast;refine ch (H := []) (Ctr.loH (Ctr.ren (Bij.swp 0 5 Bij.id) (Ic hr1) (by push_cast) (by push_cast))) (by push_cast) ?_;push_cast;apply hK;clear hK K;refine VC.sub (s' := ⟨[(1,ri a1),(3,ri a3),(4,.sl false (a4.map encU32)),(5,.ref 0 0),(7,.ref 1 0),(10,.ref 2 0)],[(0,.box 56 [.sl false (a0.Fns.map enc_Fn)]),(1,.box 29 [ru a2.Ctx.a0,ru a2.Ctx.a1,ru a2.Ctx.a2,ru a2.Ctx.a3,.row 5 0 6 0 r1.length,ru a2.Seed]),(2,.box 162 [.raw (.int .u32 0),.raw (.int .u32 0),.raw (.int .u32 0),.raw (.int .u32 0),.raw (.int .u32 0),.sl true [],.raw (.int .u32 0),ri 0,ri 0]),(5,.row 53 6 0 (r1.map enc_Table))],8,114,0⟩) (so (by push_cast)) ?_;refine vj h (fun x => ⟨[(1,ri a1),(3,ri a3),(4,.sl false (a4.map encU32)),(5,.ref 0 0),(7,.ref 1 0),(10,.ref 2 0)],[(0,.box 56 [.sl false (a0.Fns.map enc_Fn)]),(1,.box 29 [ru x.Ctx.a0,ru x.Ctx.a1,ru x.Ctx.a2,ru x.Ctx.a3,.row 5 0 6 0 x.T.length,ru x.Seed]),(2,.box 162 [.raw (.int .u32 0),.raw (.int .u32 0),.raw (.int .u32 0),.raw (.int .u32 0),.raw (.int .u32 0),.sl true [],.raw (.int .u32 0),ri 0,ri 0]),(5,.row 53 6 0 (x.T.map enc_Table))],56,114,0⟩) (fun v2 h hk2 => ?_) ?_
 ·refine vs [1,3,4,5,7,10,21,22,23] (fun K hK => ?_);push_cast;apply hK;clear hK K;refine VC.block ?_;refine VC.loopP h (fun x => ⟨[(1,ri a1),(3,ri a3),(4,.sl false (a4.map encU32)),(5,.ref 0 0),(7,.ref 1 0),(10,.ref 2 0),(21,.row 5 0 6 0 x.1.T.length),(22,ri (r1.length : Int)),(23,ri x.2)],[(0,.box 56 [.sl false (a0.Fns.map enc_Fn)]),(1,.box 29 [ru x.1.Ctx.a0,ru x.1.Ctx.a1,ru x.1.Ctx.a2,ru x.1.Ctx.a3,.row 5 0 6 0 x.1.T.length,ru x.1.Seed]),(2,.box 162 [.raw (.int .u32 0),.raw (.int .u32 0),.raw (.int .u32 0),.raw (.int .u32 0),.raw (.int .u32 0),.sl true [],.raw (.int .u32 0),ri 0,ri 0]),(5,.row 53 6 0 (x.1.T.map enc_Table))],55,114,0⟩) ?_ ?_
  ·exact so (by push_cast)
  rintro ⟨s_18,i_19⟩ b3 (h : Gl r1 s_18 i_19 = some b3) hf3;(try push_cast);unfold Gl at h;refine vs [1,3,4,5,7,10,21,22,23,24] (fun K hK => ?_);push_cast;apply hK;clear hK K;refine VC.seq ?_;refine vc h (fun hb4 h => ?_) (fun hb4 h => ?_)
  ·refine VC.skip ?_;refine vj h (fun x => ⟨[(1,ri a1),(3,ri a3),(4,.sl false (a4.map encU32)),(5,.ref 0 0),(7,.ref 1 0),(10,.ref 2 0),(21,.row 5 0 6 0 x.T.length),(22,ri (r1.length : Int)),(23,ri i_19)],[(0,.box 56 [.sl false (a0.Fns.map enc_Fn)]),(1,.box 29 [ru x.Ctx.a0,ru x.Ctx.a1,ru x.Ctx.a2,ru x.Ctx.a3,.row 5 0 6 0 x.T.length,ru x.Seed]),(2,.box 162 [.raw (.int .u32 0),.raw (.int .u32 0),.raw (.int .u32 0),.raw (.int .u32 0),.raw (.int .u32 0),.sl true [],.raw (.int .u32 0),ri 0,ri 0]),(5,.row 53 6 0 (x.T.map enc_Table))],96,114,0⟩) (fun v5 h hk5 => ?_) ?_
   ·refine VC.block ?_;obtain ⟨x6,hx6,h⟩ := po_some h;replace hx6 := idx_some4 hx6;refine vs [1,3,4,5,7,10,11,12,21,22,23] (fun K hK => ?_);push_cast [hx6];(repeat refine ao ?_);apply hK;clear hK K;obtain ⟨r7,hr7,h⟩ := po_some h;refine vs [1,3,4,5,7,10,11,12,21,22,23] (fun K hK => ?_);push_cast;refine ch (H := []) (Ctr.loH (Ctr.ren (Bij.swp 0 64 Bij.id) (Ii hr7) (by push_cast) (by push_cast))) (by push_cast) ?_;push_cast;apply hK;clear hK K;refine VC.sub (s' := ⟨[(1,ri a1),(3,ri a3),(4,.sl false (a4.map encU32)),(5,.ref 0 0),(7,.ref 1 0),(10,.ref 2 0),(11,ri i_19),(12,.ref 59 0),(21,.row 5 0 6 0 s_18.T.length),(22,ri (r1.length : Int)),(23,ri i_19)],[(0,.box 56 [.sl false (a0.Fns.map enc_Fn)]),(1,.box 29 [ru s_18.Ctx.a0,ru s_18.Ctx.a1,ru s_18.Ctx.a2,ru s_18.Ctx.a3,.row 5 0 6 0 s_18.T.length,ru s_18.Seed]),(2,.box 162 [.raw (.int .u32 0),.raw (.int .u32 0),.raw (.int .u32 0),.raw (.int .u32 0),.raw (.int .u32 0),.sl true [],.raw (.int .u32 0),ri 0,ri 0]),(5,.row 53 6 0 (s_18.T.map enc_Table)),(59,.box 53 [ri x6.S.Kind,ri x6.S.Cap,ri x6.S.Words,ri x6.S.Ver,.row 64 0 2 0 r7.length,ru x6.Next]),(64,.row 66 2 0 (r7.map enc_Entry))],67,114,0⟩) (so (by push_cast [hb4])) ?_;refine vj h (fun x => ⟨[(1,ri a1),(3,ri a3),(4,.sl false (a4.map encU32)),(5,.ref 0 0),(7,.ref 1 0),(10,.ref 2 0),(11,ri i_19),(12,.ref 59 0),(21,.row 5 0 6 0 x.1.T.length),(22,ri (r1.length : Int)),(23,ri i_19)],[(0,.box 56 [.sl false (a0.Fns.map enc_Fn)]),(1,.box 29 [ru x.1.Ctx.a0,ru x.1.Ctx.a1,ru x.1.Ctx.a2,ru x.1.Ctx.a3,.row 5 0 6 0 x.1.T.length,ru x.1.Seed]),(2,.box 162 [.raw (.int .u32 0),.raw (.int .u32 0),.raw (.int .u32 0),.raw (.int .u32 0),.raw (.int .u32 0),.sl true [],.raw (.int .u32 0),ri 0,ri 0]),(5,.row 53 6 0 (x.1.T.map enc_Table)),(59,.box 53 [ri x.2.S.Kind,ri x.2.S.Cap,ri x.2.S.Words,ri x.2.S.Ver,.row 64 0 2 0 x.2.E.length,ru x.2.Next]),(64,.row 66 2 0 (x.2.E.map enc_Entry))],90,114,0⟩) (fun v8 h hk8 => ?_) ?_
    ·refine vs [1,3,4,5,7,10,11,12,21,22,23,34,35] (fun K hK => ?_);push_cast;apply hK;clear hK K;refine VC.block ?_;refine VC.loopP h (fun x => ⟨[(1,ri a1),(3,ri a3),(4,.sl false (a4.map encU32)),(5,.ref 0 0),(7,.ref 1 0),(10,.ref 2 0),(11,ri i_19),(12,.ref 59 0),(21,.row 5 0 6 0 x.1.T.length),(22,ri (r1.length : Int)),(23,ri i_19),(34,ri (r7.length : Int)),(35,ri x.2.2)],[(0,.box 56 [.sl false (a0.Fns.map enc_Fn)]),(1,.box 29 [ru x.1.Ctx.a0,ru x.1.Ctx.a1,ru x.1.Ctx.a2,ru x.1.Ctx.a3,.row 5 0 6 0 x.1.T.length,ru x.1.Seed]),(2,.box 162 [.raw (.int .u32 0),.raw (.int .u32 0),.raw (.int .u32 0),.raw (.int .u32 0),.raw (.int .u32 0),.sl true [],.raw (.int .u32 0),ri 0,ri 0]),(5,.row 53 6 0 (x.1.T.map enc_Table)),(59,.box 53 [ri x.2.1.S.Kind,ri x.2.1.S.Cap,ri x.2.1.S.Words,ri x.2.1.S.Ver,.row 64 0 2 0 x.2.1.E.length,ru x.2.1.Next]),(64,.row 66 2 0 (x.2.1.E.map enc_Entry))],89,114,0⟩) ?_ ?_
     ·exact so (by push_cast [hb4])
     rintro ⟨s_48,s_49,i_50⟩ b9 (h : Jl r7 s_48 s_49 i_50 = some b9) hf9;(try push_cast);unfold Jl at h;refine vs [1,3,4,5,7,10,11,12,21,22,23,34,35,36] (fun K hK => ?_);push_cast;apply hK;clear hK K;refine VC.seq ?_;refine vc h (fun hb10 h => ?_) (fun hb10 h => ?_)
     ·refine VC.skip ?_;refine VC.seq ?_;refine VC.block ?_;refine vs [1,3,4,5,7,10,11,12,13,21,22,23,34,35] (fun K hK => ?_);push_cast;apply hK;clear hK K;obtain ⟨x11,hx11,h⟩ := po_some h;replace hx11 := idx_some4 hx11;obtain ⟨r12,hr12,h⟩ := po_some h;obtain ⟨y13,hy13,h⟩ := pl_some h;have hy13l : y13.length = s_49.E.length := by rw [hy13,List.length_set]
      refine vlD [some 38,some 39,some 40,some 41,some 42,some 43,some 44,some 45,some 46,some 47,some 48,some 49,none] (fun K hK => ?_);refine runD_cut 8 (fun K2 hK2 => ?_);push_cast [hx11];(repeat refine ao ?_);refine hK2 _ _ _ ?_;clear hK2 K2;simp only [List.drop_succ_cons,List.drop_zero];push_cast [hx11];(repeat refine ao ?_);refine chD (H := []) (Ctr.loH (Ctr.ren (Bij.swp 0 101 Bij.id) (Lg hr12) (by push_cast [hx11]) (by push_cast [hx11]))) (by push_cast [hx11]) ?_;push_cast [hx11];(repeat refine ao ?_);refine ⟨rfl,hK _ ?_⟩;clear hK K;refine vl (fun K hK => ?_);push_cast;apply hK;clear hK K;refine bk h ?_;exact so (by push_cast [hb4,hb10,hy13,hy13l])
     ·refine VC.exit ?_;replace h := ol h hf9;refine ar h hk8 ?_;exact so (by push_cast [hb4,hb10])
    ·rintro ⟨s_54,s_55⟩ (h : Ly i_19 s_54 s_55 = some v5);(try push_cast);unfold Ly at h;obtain ⟨x14,hx14,h⟩ := po_some h;replace hx14 := idx_some4 hx14;obtain ⟨y15,hy15,h⟩ := pl_some h;have hy15l : y15.length = s_54.T.length := by rw [hy15,List.length_set]
     refine vl (fun K hK => ?_);push_cast [hx14];(repeat refine ao ?_);apply hK;clear hK K;refine ar h hk5 ?_;exact so (by push_cast [hb4,hy15,hy15l])
   ·rintro s_28 (h : Lv i_19 s_28 = some b3);(try push_cast);unfold Lv at h;refine vl (fun K hK => ?_);push_cast;apply hK;clear hK K;refine bk h ?_;exact so (by push_cast [hb4])
  ·refine VC.exit ?_;replace h := ol h hf3;refine ar h hk2 ?_;exact so (by push_cast [hb4])
 ·rintro s_47 (h : Ed a0 a1 a3 a4 s_47 = some r);(try push_cast);unfold Ed at h;refine VC.seq ?_;refine VC.block ?_;refine vj h (fun x => ⟨[(1,ri a1),(3,ri a3),(4,.sl false (a4.map encU32)),(5,.ref 0 0),(7,.ref 1 0),(10,.ref 2 0),(57,rb x.2)],[(0,.box 56 [.sl false (a0.Fns.map enc_Fn)]),(1,.box 29 [ru x.1.Ctx.a0,ru x.1.Ctx.a1,ru x.1.Ctx.a2,ru x.1.Ctx.a3,.row 5 0 6 0 x.1.T.length,ru x.1.Seed]),(2,.box 162 [.raw (.int .u32 0),.raw (.int .u32 0),.raw (.int .u32 0),.raw (.int .u32 0),.raw (.int .u32 0),.sl true [],.raw (.int .u32 0),ri 0,ri 0]),(5,.row 53 6 0 (x.1.T.map enc_Table))],66,114,0⟩) (fun v16 h hk16 => ?_) ?_
  ·obtain ⟨r17,hr17,h⟩ := po_some h;refine vs [1,3,4,5,7,10,57] (fun K hK => ?_);push_cast;refine cp (Ui hr17) ?_;push_cast;apply hK;clear hK K;refine vc h (fun hb18 h => ?_) (fun hb18 h => ?_)
   ·refine VC.skip ?_;refine ar h hk16 ?_;exact so (by push_cast [hb18])
   ·refine vs [1,3,4,5,7,10,57] (fun K hK => ?_);push_cast;apply hK;clear hK K;refine vc h (fun hb19 h => ?_) (fun hb19 h => ?_)
    ·refine VC.skip ?_;refine ar h hk16 ?_;exact so (by push_cast [hb18,hb19])
    ·refine vl (fun K hK => ?_);push_cast;apply hK;clear hK K;refine ar h hk16 ?_;exact so (by push_cast [hb18,hb19])
  ·rintro ⟨s_56,i_57⟩ (h : Dp a0 a1 a3 a4 s_56 i_57 = some r);(try push_cast);unfold Dp at h;refine vc h (fun hb20 h => ?_) (fun hb20 h => ?_)
   ·refine vs [10] (fun K hK => ?_);push_cast;apply hK;clear hK K;refine VC.ret ?_;replace h := Option.some.inj h;subst h;refine endS (Sub.freeze prog (b := 2) (j := 5) rfl rfl rfl (by push_cast [hb20] <;> omega) (by decide)) ?_;exact en (by push_cast [hb20])
   ·refine vj h (fun x => ⟨[(1,ri a1),(3,ri a3),(4,.sl false (a4.map encU32)),(5,.ref 0 0),(7,.ref 1 0),(10,.ref 2 0),(67,rb x.2)],[(0,.box 56 [.sl false (a0.Fns.map enc_Fn)]),(1,.box 29 [ru x.1.Ctx.a0,ru x.1.Ctx.a1,ru x.1.Ctx.a2,ru x.1.Ctx.a3,.row 5 0 6 0 x.1.T.length,ru x.1.Seed]),(2,.box 162 [.raw (.int .u32 0),.raw (.int .u32 0),.raw (.int .u32 0),.raw (.int .u32 0),.raw (.int .u32 0),.sl true [],.raw (.int .u32 0),ri 0,ri 0]),(5,.row 53 6 0 (x.1.T.map enc_Table))],85,114,0⟩) (fun v21 h hk21 => ?_) ?_
    ·refine vs [1,3,4,5,7,10,67] (fun K hK => ?_);push_cast;apply hK;clear hK K;refine vc h (fun hb22 h => ?_) (fun hb22 h => ?_)
     ·refine VC.skip ?_;refine ar h hk21 ?_;exact so (by push_cast [hb20,hb22])
     ·refine vs [1,3,4,5,7,10,67] (fun K hK => ?_);push_cast;apply hK;clear hK K;refine vc h (fun hb23 h => ?_) (fun hb23 h => ?_)
      ·refine VC.skip ?_;refine ar h hk21 ?_;exact so (by push_cast [hb20,hb22,hb23])
      ·obtain ⟨x24,hx24,h⟩ := po_some h;replace hx24 := idx_some4 hx24;refine vl (fun K hK => ?_);push_cast [hx24];(repeat refine ao ?_);apply hK;clear hK K;refine ar h hk21 ?_;exact so (by push_cast [hb20,hb22,hb23])
    ·rintro ⟨s_58,i_59⟩ (h : Dq a0 a1 a3 a4 s_58 i_59 = some r);(try push_cast);unfold Dq at h;refine vc h (fun hb25 h => ?_) (fun hb25 h => ?_)
     ·refine vs [10] (fun K hK => ?_);push_cast;apply hK;clear hK K;refine VC.ret ?_;replace h := Option.some.inj h;subst h;refine endS (Sub.freeze prog (b := 2) (j := 5) rfl rfl rfl (by push_cast [hb20,hb25] <;> omega) (by decide)) ?_;exact en (by push_cast [hb20,hb25])
     ·refine VC.skip ?_;refine vs [1,4,10,14] (fun K hK => ?_);push_cast;apply hK;clear hK K;refine VC.sub (Sub.freeze prog (b := 89) (j := 5) rfl rfl rfl (by push_cast [hb20,hb25] <;> omega) (by decide)) ?_;refine VC.sub (s' := ⟨[(1,ri a1),(4,.sl false (a4.map encU32)),(10,.ref 2 0),(14,.ref 89 0)],[(2,.box 162 [.raw (.int .u32 0),.raw (.int .u32 0),.raw (.int .u32 0),.raw (.int .u32 0),.raw (.int .u32 0),.sl true [],.raw (.int .u32 0),ri 0,ri 0]),(89,.box 259 (enc_interp_run (T_interp_run.mk a0 s_58 a3 0 0)))],91,114,0⟩) (so (by push_cast [hb20,hb25])) ?_;obtain ⟨r26,hr26,h⟩ := po_some h;refine vs [10,14,15] (fun K hK => ?_);push_cast;refine ch (H := [(89,.box 259 (enc_interp_run (T_interp_run.mk a0 s_58 a3 0 0)))]) (Ctr.loH (Ctr.ren (Bij.swp 0 89 Bij.id) (Qr 9 (T_interp_run.mk a0 s_58 a3 0 0) a1 a4 hr26) (by push_cast) (by push_cast))) (by push_cast) ?_;push_cast;apply hK;clear hK K;refine VC.sub (s' := ⟨[(10,.ref 2 0),(14,.ref 89 0),(15,ru r26.1)],[(2,.box 162 [.raw (.int .u32 0),.raw (.int .u32 0),.raw (.int .u32 0),.raw (.int .u32 0),.raw (.int .u32 0),.sl true [],.raw (.int .u32 0),ri 0,ri 0]),(89,.box 259 (enc_interp_run r26.2))],96,114,0⟩) (so (by push_cast [hb20,hb25])) ?_;refine vj h (fun x => ⟨[(10,.ref 2 0),(14,.ref 89 0),(15,ru x)],[(2,.box 162 [.raw (.int .u32 0),.raw (.int .u32 0),.raw (.int .u32 0),.raw (.int .u32 0),.raw (.int .u32 0),.sl true [],.raw (.int .u32 0),ri 0,ri 0]),(89,.box 259 (enc_interp_run r26.2))],102,114,0⟩) (fun v27 h hk27 => ?_) ?_
      ·refine vs [10,14,15,99] (fun K hK => ?_);push_cast;apply hK;clear hK K;refine vc h (fun hb28 h => ?_) (fun hb28 h => ?_)
       ·refine vl (fun K hK => ?_);push_cast;apply hK;clear hK K;refine ar h hk27 ?_;exact so (by push_cast [hb20,hb25,hb28])
       ·refine VC.skip ?_;refine ar h hk27 ?_;exact so (by push_cast [hb20,hb25,hb28])
      ·rintro i_60 (h : Ks r26 i_60 = some r);(try push_cast);unfold Ks at h;refine vsD [some 100,some 101,some 102,some 103,some 104,some 105,some 106,some 107,some 108,some 109,some 110,some 111,some 112,some 113,none] [10] (fun K hK => ?_);refine runD_cut 8 (fun K2 hK2 => ?_);push_cast;refine hK2 _ _ _ ?_;clear hK2 K2;simp only [List.drop_succ_cons,List.drop_zero];push_cast;refine ⟨rfl,hK _ ?_⟩;clear hK K;refine VC.ret ?_;replace h := Option.some.inj h;subst h;exact en (by push_cast [hb20,hb25])
noncomputable def Fd (a0 : T_Prog) (a1 : T_Env) (a2 : Int) : Option (T_Ran) :=
  po (Dd a0 0 a1 a2 []) fun r1 =>
  some r1
theorem Ym {a0 : T_Prog} {a1 : T_Env} {a2 : Int} {r : T_Ran} (h : Fd a0 a1 a2 = some r) : Ctr prog 88 [.agg (enc_Prog a0), .agg (enc_Env a1), ri a2] [] (.agg (enc_Ran r)) [] := by
 unfold Fd at h;refine Ctr.ofW tabOk func88 rfl call88 0 _ ntmps88 [.cell 6 162] rfl rfl rfl (fun B => ?_);refine vs [2,3,4,6] (fun K hK => ?_);push_cast;apply hK;clear hK K;obtain ⟨r1,hr1,h⟩ := po_some h;refine vs [6] (fun K hK => ?_);push_cast;refine cp (Xr hr1) ?_;push_cast;apply hK;clear hK K;refine VC.ret ?_;replace h := Option.some.inj h;subst h;exact en (by push_cast)
theorem callI_own {p : T_Prog} {fn : Int} {e : T_Env} {fu : Int} {a : List UInt32} (hF : Fits e.T) : Dd p fn e fu a = Ed p fn fu a e := by
  have h := own_is hF
  unfold Lc at h
  unfold Dd
  obtain ⟨r1, h1, h2⟩ := po_some h
  obtain ⟨v, h3, h4⟩ := po_some h2
  have h5 : v = e := Option.some.inj h4
  subst h5
  rw [h1]
  have e9 : Jl = Mw := rfl
  have e3 : Gl = Mv := rfl
  simp only [po_of, e3, h3]
def ranOf (v : UInt32) (r : Rn) : T_Ran := ⟨if r.err = 0 then v else 0, r.e, r.used, r.err⟩
theorem callI {p : T_Prog} {b : Bool} (hb : Fl p = some b) {fn : Int} {e : T_Env} {fu : Int} {a : List UInt32} (hF : Fits e.T) :
    Dd p fn e fu a = if b = true ∧ 0 ≤ fu ∧ fu ≤ 100000 then
      (match idx p.Fns fn with
        | none => some ⟨0, e, 0, 3⟩
        | some f => if (a.length : Int) = f.Args then po (Bs 9 ⟨p, e, fu, 0, 0⟩ fn a) (fun q => some (ranOf q.1 q.2)) else some ⟨0, e, 0, 3⟩)
      else some ⟨0, e, 0, 1⟩ := by
  rw [callI_own hF]
  unfold Ed
  rw [hb]
  have bad : Dp p fn fu a e true = some ⟨0, e, 0, 1⟩ := rfl
  cases b with
  | false =>
    rw [if_neg (fun q => by cases q.1)]
    exact bad
  | true =>
    simp only [po_of, Bool.not_true, cond_false]
    by_cases h1 : fu < 0
    · rw [if_neg (fun q => by omega), decide_eq_true h1]
      exact bad
    · rw [decide_eq_false h1]
      by_cases h2 : fu > 100000
      · rw [if_neg (fun q => by omega), decide_eq_true h2]
        exact bad
      · rw [if_pos ⟨trivial, by omega, by omega⟩, decide_eq_false h2]
        simp only [cond_false, po_of, Dp]
        have none_ : Dq p fn fu a e true = some ⟨0, e, 0, 3⟩ := rfl
        by_cases h3 : fn < 0
        · have : idx p.Fns fn = none := by unfold idx; rw [if_neg (by omega)]
          rw [this, decide_eq_true h3]
          exact none_
        · rw [decide_eq_false h3]
          by_cases h4 : fn ≥ (p.Fns.length : Int)
          · have : idx p.Fns fn = none := by unfold idx; rw [if_pos (by omega), List.getElem?_eq_none (by omega)]
            rw [this, decide_eq_true h4]
            exact none_
          · rw [decide_eq_false h4]
            obtain ⟨f, hf⟩ : ∃ f, idx p.Fns fn = some f := ⟨_, idx_of (by omega) (List.getElem?_eq_getElem (show fn.toNat < p.Fns.length by omega))⟩
            rw [hf]
            simp only [cond_false, po_of]
            by_cases h5 : (a.length : Int) = f.Args
            · have d : ((a.length : Int) != f.Args) = false := by simpa using h5
              rw [d, if_pos h5]
              simp only [Dq, cond_false]
              congr 1
              funext q
              by_cases h6 : q.2.err = 0
              · have d6 : (q.2.err != 0) = false := by simpa using h6
                rw [d6]
                unfold ranOf
                rw [if_pos h6]
                rfl
              · have d6 : (q.2.err != 0) = true := by simpa using h6
                rw [d6]
                unfold ranOf
                rw [if_neg h6]
                rfl
            · have d : ((a.length : Int) != f.Args) = true := by simpa using h5
              rw [d, if_neg h5]
              exact none_
theorem runI {p : T_Prog} {b : Bool} (hb : Fl p = some b) (hbp : b = true → ProgOk p) {e : T_Env} {fu : Int} (hF : Fits e.T) :
    Fd p e fu = if b = true ∧ 0 ≤ fu ∧ fu ≤ 100000 then po (Bs 9 ⟨p, e, fu, 0, 0⟩ 0 []) (fun q => some (ranOf q.1 q.2)) else some ⟨0, e, 0, 1⟩ := by
  have e1 : Fd p e fu = Dd p 0 e fu [] := by
    unfold Fd
    cases Dd p 0 e fu [] <;> rfl
  rw [e1, callI hb hF]
  by_cases h : b = true ∧ 0 ≤ fu ∧ fu ≤ 100000
  · rw [if_pos h, if_pos h]
    have hp := hbp h.1
    obtain ⟨f, hf⟩ : ∃ f, p.Fns[0]? = some f := ⟨_, List.getElem?_eq_getElem hp.len.1⟩
    have hi : idx p.Fns 0 = some f := idx_of (Int.le_refl 0) hf
    rw [hi]
    simp only
    rw [if_pos (show (([] : List UInt32).length : Int) = f.Args by rw [hp.main f hf]; rfl)]
  · rw [if_neg h, if_neg h]
theorem preI {p : T_Prog} (hp : ProgOk p) {e : T_Env} (hF : Fits e.T) {fu : Int} (hf : 0 ≤ fu ∧ fu ≤ 100000) {fn : Int} (hfn : 0 ≤ fn ∧ fn < (p.Fns.length : Int)) {a : List UInt32} (ha : a.length ≤ 7) : FnPre p ⟨p, e, fu, 0, 0⟩ fn a :=
  ⟨rfl, ⟨Int.le_refl _, hf.1⟩, by show fu ≤ 1000000; omega, hF, rfl, hfn, ha⟩
theorem lenI {p : T_Prog} (hp : ProgOk p) : (p.Fns.length : Int) - 0 ≤ ((9 : Nat) : Int) := by have := hp.len; omega
theorem keeps_run {p : T_Prog} {e : T_Env} {fu : Int} (hF : Fits e.T) : ∃ x, Fd p e fu = some x ∧ EKeep e x.E := by
  obtain ⟨c, hc1, hc2⟩ := progMay_tells p
  rw [runI hc1 hc2 hF]
  by_cases h : c = true ∧ 0 ≤ fu ∧ fu ≤ 100000
  · rw [if_pos h]
    have hp := hc2 h.1
    obtain ⟨v, r, q1, q2⟩ := frame_tells hp 9 (lenI hp) _ _ (preI hp hF h.2 (fn := 0) ⟨Int.le_refl _, by have := hp.len; omega⟩ (a := []) (by decide))
    rw [q1]
    exact ⟨_, rfl, q2.e⟩
  · rw [if_neg h]
    exact ⟨_, rfl, .refl hF⟩
noncomputable def Ah (a0 : T_bounds_span) : Option (C128) :=
  some (C128.mk (i2f (a0.low.toNat : Int)) (i2f (a0.high.toNat : Int)))
theorem Au {a0 : T_bounds_span} {r : C128} (h : Ah a0 = some r) : Ctr prog 227 [.agg (enc_bounds_span a0)] [] (.raw (.complex .f64 r.re r.im)) [] := by
 unfold Ah at h;refine Ctr.ofW tabOk func227 rfl call227 0 _ ntmps227 [.tmp 2] rfl rfl rfl (fun B => ?_);refine vs [1] (fun K hK => ?_);push_cast;apply hK;clear hK K;refine vs [2] (fun K hK => ?_);push_cast;apply hK;clear hK K;refine VC.ret ?_;replace h := Option.some.inj h;subst h;exact en (by push_cast)
noncomputable def Mz (a0 : UInt64) (a1 : UInt64) (i_1 : Bool) : Option (T_bounds_span) :=
  cond i_1 (
  pl ((4294967295 : UInt64)) fun c4 =>
  some (T_bounds_span.mk 0 c4)) (
  some (T_bounds_span.mk a0 a1))
noncomputable def Da (a0 : UInt64) (a1 : UInt64) : Option (T_bounds_span) :=
  po (
  cond (decide ((a1.toNat : Int) > 4294967295)) (
  some true) (
  some (decide (a0.toNat > a1.toNat)))) (fun x => Mz a0 a1 x)
theorem Jg {a0 : UInt64} {a1 : UInt64} {r : T_bounds_span} (h : Da a0 a1 = some r) : Ctr prog 233 [.raw (.int .u64 (a0.toNat : Int)), .raw (.int .u64 (a1.toNat : Int))] [] (.agg (enc_bounds_span r)) [] := by
 unfold Da at h;refine Ctr.ofW tabOk func233 rfl call233 0 _ ntmps233 [.cell 4 311] rfl rfl rfl (fun B => ?_);refine vs [0,1,4] (fun K hK => ?_);push_cast;apply hK;clear hK K;refine VC.seq ?_;refine vj h (fun x => ⟨[(0,.raw (.int .u64 (a0.toNat : Int))),(1,.raw (.int .u64 (a1.toNat : Int))),(4,.ref 0 0),(11,rb x)],[(0,.box 311 (enc_bounds_span (T_bounds_span.mk 0 0)))],8,16,0⟩) (fun v1 h hk1 => ?_) ?_
 ·rcases Bool.eq_false_or_eq_true (decide ((a1.toNat : Int) > 4294967295)) with hb2 | hb2
  ·replace h := cond_yes hb2 h;refine vlG [some 5,some 6,some 7,some 8,some 9,some 10,some 11] (fun K hK => ?_);push_cast [hb2];(repeat refine ao ?_);apply hK;clear hK K;refine ar h hk1 ?_;exact sl (by push_cast [hb2])
  ·replace h := cond_no hb2 h;refine vlG [some 5,some 6,some 7,some 8,some 9,some 10,some 11] (fun K hK => ?_);push_cast [hb2];(repeat refine ao ?_);apply hK;clear hK K;refine ar h hk1 ?_;exact sl (by push_cast [hb2])
 ·rintro i_1 (h : Mz a0 a1 i_1 = some r);(try push_cast);unfold Mz at h;refine vc h (fun hb3 h => ?_) (fun hb3 h => ?_)
  ·obtain ⟨c4,hc4,h⟩ := pl_some h;have hc4i : (c4.toNat : Int) = 4294967295 := by rw [hc4];rfl
   refine vs [4] (fun K hK => ?_);push_cast [hc4i];(repeat refine ao ?_);apply hK;clear hK K;refine VC.ret ?_;replace h := Option.some.inj h;subst h;exact en (by push_cast [hb3,hc4i])
  ·refine VC.skip ?_;refine vs [4] (fun K hK => ?_);push_cast;apply hK;clear hK K;refine VC.ret ?_;replace h := Option.some.inj h;subst h;exact en (by push_cast [hb3])
noncomputable def Lp (i_1 : Bool) : Option (Bool) :=
  some i_1
noncomputable def Jw (a0 : F64) : Option (Bool) :=
  po (
  cond (fge a0 0) (
  cond (fle a0 4751297606873776128) (
  po (f2u a0) fun x4 =>
  some (feq a0 (i2f (x4.toNat : Int)))) (
  some false)) (
  some false)) (fun x => Lp x)
theorem Ml {a0 : F64} {r : Bool} (h : Jw a0 = some r) : Ctr prog 235 [.raw (.float .f64 a0)] [] (rb r) [] := by
 unfold Jw at h;refine Ctr.ofW tabOk func235 rfl call235 0 _ ntmps235 [.tmp 2] rfl rfl rfl (fun B => ?_);refine vs [0] (fun K hK => ?_);push_cast;apply hK;clear hK K;refine vj h (fun x => ⟨[(2,rb x)],[],15,16,0⟩) (fun v1 h hk1 => ?_) ?_
 ·rcases Bool.eq_false_or_eq_true (fge a0 0) with hb2 | hb2
  ·replace h := cond_yes hb2 h;rcases Bool.eq_false_or_eq_true (fle a0 4751297606873776128) with hb3 | hb3
   ·replace h := cond_yes hb3 h;obtain ⟨x4,hx4,h⟩ := po_some h;replace hx4 := f2u_some hx4;refine vlG [some 3,some 4,some 5,some 6,some 7,some 8,some 9,some 10,some 11,some 12,some 13,some 14,some 15,some 2] (fun K hK => ?_);refine runOps_cut 8 (fun K2 hK2 => ?_);push_cast [hb2,hb3,hx4];(repeat refine ao ?_);refine hK2 _ _ ?_;clear hK2 K2;simp only [List.drop_succ_cons,List.drop_zero];push_cast [hb2,hb3,hx4];(repeat refine ao ?_);apply hK;clear hK K;refine ar h hk1 ?_;exact sl (by push_cast [hb2,hb3])
   ·replace h := cond_no hb3 h;refine vlG [some 3,some 4,some 5,some 6,some 7,some 8,some 9,some 10,some 11,some 12,some 13,some 14,some 15,some 2] (fun K hK => ?_);refine runOps_cut 8 (fun K2 hK2 => ?_);push_cast [hb2,hb3];(repeat refine ao ?_);refine hK2 _ _ ?_;clear hK2 K2;simp only [List.drop_succ_cons,List.drop_zero];push_cast [hb2,hb3];(repeat refine ao ?_);apply hK;clear hK K;refine ar h hk1 ?_;exact sl (by push_cast [hb2,hb3])
  ·replace h := cond_no hb2 h;refine vlG [some 3,some 4,some 5,some 6,some 7,some 8,some 9,some 10,some 11,some 12,some 13,some 14,some 15,some 2] (fun K hK => ?_);refine runOps_cut 8 (fun K2 hK2 => ?_);push_cast [hb2];(repeat refine ao ?_);refine hK2 _ _ ?_;clear hK2 K2;simp only [List.drop_succ_cons,List.drop_zero];push_cast [hb2];(repeat refine ao ?_);apply hK;clear hK K;refine ar h hk1 ?_;exact sl (by push_cast [hb2])
 ·rintro i_1 (h : Lp i_1 = some r);(try push_cast);unfold Lp at h;refine VC.ret ?_;replace h := Option.some.inj h;subst h;exact en (by push_cast)
noncomputable def My (i_1 : Bool) : Option (Bool) :=
  some i_1
noncomputable def Fh (a0 : C128) : Option (Bool) :=
  po (
  po (Jw a0.re) fun r2 =>
  cond r2 (
  po (Jw a0.im) fun r4 =>
  cond r4 (
  some (fle a0.re a0.im)) (
  some false)) (
  some false)) (fun x => My x)
theorem Pr {a0 : C128} {r : Bool} (h : Fh a0 = some r) : Ctr prog 228 [.raw (.complex .f64 a0.re a0.im)] [] (rb r) [] := by
 unfold Fh at h;refine Ctr.ofW tabOk func228 rfl call228 0 _ ntmps228 [.tmp 2] rfl rfl rfl (fun B => ?_);refine vs [0] (fun K hK => ?_);push_cast;apply hK;clear hK K;refine vj h (fun x => ⟨[(2,rb x)],[],17,18,0⟩) (fun v1 h hk1 => ?_) ?_
 ·obtain ⟨r2,hr2,h⟩ := po_some h;rcases Bool.eq_false_or_eq_true r2 with hb3 | hb3
  ·replace h := cond_yes hb3 h;obtain ⟨r4,hr4,h⟩ := po_some h;rcases Bool.eq_false_or_eq_true r4 with hb5 | hb5
   ·replace h := cond_yes hb5 h;refine vlG [some 3,some 4,some 5,some 6,some 7,some 8,some 9,some 10,some 11,some 12,some 13,some 14,some 15,some 16,some 17,some 2] (fun K hK => ?_);refine runOps_cut 8 (fun K2 hK2 => ?_);push_cast [hb3,hb5];(repeat refine ao ?_);refine cp (Ml hr2) ?_;push_cast [hb3,hb5];(repeat refine ao ?_);refine cp (Ml hr4) ?_;push_cast [hb3,hb5];(repeat refine ao ?_);refine hK2 _ _ ?_;clear hK2 K2;simp only [List.drop_succ_cons,List.drop_zero];push_cast [hb3,hb5];(repeat refine ao ?_);apply hK;clear hK K;refine ar h hk1 ?_;exact sl (by push_cast [hb3,hb5])
   ·replace h := cond_no hb5 h;refine vlG [some 3,some 4,some 5,some 6,some 7,some 8,some 9,some 10,some 11,some 12,some 13,some 14,some 15,some 16,some 17,some 2] (fun K hK => ?_);refine runOps_cut 8 (fun K2 hK2 => ?_);push_cast [hb3,hb5];(repeat refine ao ?_);refine cp (Ml hr2) ?_;push_cast [hb3,hb5];(repeat refine ao ?_);refine cp (Ml hr4) ?_;push_cast [hb3,hb5];(repeat refine ao ?_);refine hK2 _ _ ?_;clear hK2 K2;simp only [List.drop_succ_cons,List.drop_zero];push_cast [hb3,hb5];(repeat refine ao ?_);apply hK;clear hK K;refine ar h hk1 ?_;exact sl (by push_cast [hb3,hb5])
  ·replace h := cond_no hb3 h;refine vlG [some 3,some 4,some 5,some 6,some 7,some 8,some 9,some 10,some 11,some 12,some 13,some 14,some 15,some 16,some 17,some 2] (fun K hK => ?_);refine runOps_cut 8 (fun K2 hK2 => ?_);push_cast [hb3];(repeat refine ao ?_);refine cp (Ml hr2) ?_;push_cast [hb3];(repeat refine ao ?_);refine hK2 _ _ ?_;clear hK2 K2;simp only [List.drop_succ_cons,List.drop_zero];push_cast [hb3];(repeat refine ao ?_);apply hK;clear hK K;refine ar h hk1 ?_;exact sl (by push_cast [hb3])
 ·rintro i_1 (h : My i_1 = some r);(try push_cast);unfold My at h;refine VC.ret ?_;replace h := Option.some.inj h;subst h;exact en (by push_cast)
noncomputable def Ai (a0 : C128) : Option (T_bounds_span) :=
  po (Fh a0) fun r1 =>
  cond (!r1) (
  pl ((4294967295 : UInt64)) fun c3 =>
  some (T_bounds_span.mk 0 c3)) (
  po (f2u a0.re) fun x4 =>
  po (f2u a0.im) fun x5 =>
  some (T_bounds_span.mk x4 x5))
theorem Ar {a0 : C128} {r : T_bounds_span} (h : Ai a0 = some r) : Ctr prog 230 [.raw (.complex .f64 a0.re a0.im)] [] (.agg (enc_bounds_span r)) [] := by
 unfold Ai at h;refine Ctr.ofW tabOk func230 rfl call230 0 _ ntmps230 [.cell 2 311] rfl rfl rfl (fun B => ?_);refine vs [0,2] (fun K hK => ?_);push_cast;apply hK;clear hK K;refine VC.seq ?_;obtain ⟨r1,hr1,h⟩ := po_some h;refine vs [0,2,5] (fun K hK => ?_);push_cast;refine cp (Pr hr1) ?_;push_cast;apply hK;clear hK K;refine vc h (fun hb2 h => ?_) (fun hb2 h => ?_)
 ·obtain ⟨c3,hc3,h⟩ := pl_some h;have hc3i : (c3.toNat : Int) = 4294967295 := by rw [hc3];rfl
  refine vs [2] (fun K hK => ?_);push_cast [hc3i];(repeat refine ao ?_);apply hK;clear hK K;refine VC.ret ?_;replace h := Option.some.inj h;subst h;exact en (by push_cast [hb2,hc3i])
 ·refine VC.skip ?_;obtain ⟨x4,hx4,h⟩ := po_some h;replace hx4 := f2u_some hx4;obtain ⟨x5,hx5,h⟩ := po_some h;replace hx5 := f2u_some hx5;refine vs [2] (fun K hK => ?_);push_cast [hx4,hx5];(repeat refine ao ?_);apply hK;clear hK K;refine VC.ret ?_;replace h := Option.some.inj h;subst h;exact en (by push_cast [hb2])
noncomputable def Pa (a0 : T_bounds_span) (a1 : T_bounds_span) : Option (T_bounds_span) :=
  some a1
theorem Wx {a0 : T_bounds_span} {a1 : T_bounds_span} {r : T_bounds_span} (h : Pa a0 a1 = some r) : Ctr prog 236 [.agg (enc_bounds_span a0), .agg (enc_bounds_span a1)] [] (.agg (enc_bounds_span r)) [] := by
 unfold Pa at h;refine Ctr.ofW tabOk func236 rfl call236 0 _ ntmps236 [.cell 4 311] rfl rfl rfl (fun B => ?_);refine vs [3,4] (fun K hK => ?_);push_cast;apply hK;clear hK K;refine vs [4] (fun K hK => ?_);push_cast;apply hK;clear hK K;refine VC.ret ?_;replace h := Option.some.inj h;subst h;exact en (by push_cast)
noncomputable def Kv (a0 : T_bounds_span) (a1 : T_bounds_span) : Option (T_bounds_span) :=
  cond ((a1.low.toNat : Int) != (a1.high.toNat : Int)) (
  po (Da 1 0) fun r2 =>
  some r2) (
  pl ((shl64 a0.low (Int.tmod (a1.low.toNat : Int) 32))) fun c3 =>
  pl ((shl64 a0.high (Int.tmod (a1.low.toNat : Int) 32))) fun c4 =>
  po (Da c3 c4) fun r5 =>
  some r5)
theorem Wa {a0 : T_bounds_span} {a1 : T_bounds_span} {r : T_bounds_span} (h : Kv a0 a1 = some r) : Ctr prog 246 [.agg (enc_bounds_span a0), .agg (enc_bounds_span a1)] [] (.agg (enc_bounds_span r)) [] := by
 unfold Kv at h;refine Ctr.ofW tabOk func246 rfl call246 0 _ ntmps246 [.cell 4 311] rfl rfl rfl (fun B => ?_);refine vs [2,3,4] (fun K hK => ?_);push_cast;apply hK;clear hK K;refine VC.seq ?_;refine vs [2,3,4,10] (fun K hK => ?_);push_cast;apply hK;clear hK K;refine vc h (fun hb1 h => ?_) (fun hb1 h => ?_)
 ·obtain ⟨r2,hr2,h⟩ := po_some h;refine vs [4] (fun K hK => ?_);push_cast;refine cp (Jg hr2) ?_;push_cast;apply hK;clear hK K;refine VC.ret ?_;replace h := Option.some.inj h;subst h;exact en (by push_cast [hb1])
 ·refine VC.skip ?_;refine vs [2,4,5] (fun K hK => ?_);push_cast;apply hK;clear hK K;obtain ⟨c3,hc3,h⟩ := pl_some h;have hc3i : (((shl64 a0.low (Int.tmod (a1.low.toNat : Int) 32))).toNat : Int) = (c3.toNat : Int) := by rw [hc3]
  push_cast at hc3i;obtain ⟨c4,hc4,h⟩ := pl_some h;have hc4i : (((shl64 a0.high (Int.tmod (a1.low.toNat : Int) 32))).toNat : Int) = (c4.toNat : Int) := by rw [hc4]
  push_cast at hc4i;obtain ⟨r5,hr5,h⟩ := po_some h;refine vs [4] (fun K hK => ?_);push_cast [hc3i,hc4i];(repeat refine ao ?_);refine cp (Jg hr5) ?_;push_cast [hc3i,hc4i];(repeat refine ao ?_);apply hK;clear hK K;refine VC.ret ?_;replace h := Option.some.inj h;subst h;exact en (by push_cast [hb1,hc3i,hc4i])
noncomputable def Ku (a0 : T_bounds_span) (a1 : T_bounds_span) : Option (T_bounds_span) :=
  cond ((a1.low.toNat : Int) != (a1.high.toNat : Int)) (
  some (T_bounds_span.mk 0 a0.high)) (
  some (T_bounds_span.mk (shr64 a0.low (Int.tmod (a1.low.toNat : Int) 32)) (shr64 a0.high (Int.tmod (a1.low.toNat : Int) 32))))
theorem Vx {a0 : T_bounds_span} {a1 : T_bounds_span} {r : T_bounds_span} (h : Ku a0 a1 = some r) : Ctr prog 247 [.agg (enc_bounds_span a0), .agg (enc_bounds_span a1)] [] (.agg (enc_bounds_span r)) [] := by
 unfold Ku at h;refine Ctr.ofW tabOk func247 rfl call247 0 _ ntmps247 [.cell 4 311] rfl rfl rfl (fun B => ?_);refine vs [2,3,4] (fun K hK => ?_);push_cast;apply hK;clear hK K;refine VC.seq ?_;refine vs [2,3,4,10] (fun K hK => ?_);push_cast;apply hK;clear hK K;refine vc h (fun hb1 h => ?_) (fun hb1 h => ?_)
 ·refine vs [4] (fun K hK => ?_);push_cast;apply hK;clear hK K;refine VC.ret ?_;replace h := Option.some.inj h;subst h;exact en (by push_cast [hb1])
 ·refine VC.skip ?_;refine vs [2,4,5] (fun K hK => ?_);push_cast;apply hK;clear hK K;refine vs [4] (fun K hK => ?_);push_cast;apply hK;clear hK K;refine VC.ret ?_;replace h := Option.some.inj h;subst h;exact en (by push_cast [hb1])
noncomputable def Oy (a0 : T_bounds_span) (a1 : T_bounds_span) : Option (T_bounds_span) :=
  pl ((a0.low + a1.low)) fun c1 =>
  pl ((a0.high + a1.high)) fun c2 =>
  po (Da c1 c2) fun r3 =>
  some r3
theorem Wq {a0 : T_bounds_span} {a1 : T_bounds_span} {r : T_bounds_span} (h : Oy a0 a1 = some r) : Ctr prog 237 [.agg (enc_bounds_span a0), .agg (enc_bounds_span a1)] [] (.agg (enc_bounds_span r)) [] := by
 unfold Oy at h;refine Ctr.ofW tabOk func237 rfl call237 0 _ ntmps237 [.cell 4 311] rfl rfl rfl (fun B => ?_);refine vs [2,3,4] (fun K hK => ?_);push_cast;apply hK;clear hK K;obtain ⟨c1,hc1,h⟩ := pl_some h;have hc1i : (((a0.low + a1.low)).toNat : Int) = (c1.toNat : Int) := by rw [hc1]
 push_cast at hc1i;obtain ⟨c2,hc2,h⟩ := pl_some h;have hc2i : (((a0.high + a1.high)).toNat : Int) = (c2.toNat : Int) := by rw [hc2]
 push_cast at hc2i;obtain ⟨r3,hr3,h⟩ := po_some h;refine vs [4] (fun K hK => ?_);refine runOps_cut 8 (fun K2 hK2 => ?_);push_cast [hc1i,hc2i];(repeat refine ao ?_);refine hK2 _ _ ?_;clear hK2 K2;simp only [List.drop_succ_cons,List.drop_zero];push_cast [hc1i,hc2i];(repeat refine ao ?_);refine cp (Jg hr3) ?_;push_cast [hc1i,hc2i];(repeat refine ao ?_);apply hK;clear hK K;refine VC.ret ?_;replace h := Option.some.inj h;subst h;exact en (by push_cast [hc1i,hc2i])
noncomputable def Mf (a0 : T_bounds_span) (a1 : T_bounds_span) : Option (T_bounds_span) :=
  cond (decide (a0.low.toNat < a1.high.toNat)) (
  po (Da 1 0) fun r2 =>
  some r2) (
  some (T_bounds_span.mk (a0.low - a1.high) (a0.high - a1.low)))
theorem Wm {a0 : T_bounds_span} {a1 : T_bounds_span} {r : T_bounds_span} (h : Mf a0 a1 = some r) : Ctr prog 238 [.agg (enc_bounds_span a0), .agg (enc_bounds_span a1)] [] (.agg (enc_bounds_span r)) [] := by
 unfold Mf at h;refine Ctr.ofW tabOk func238 rfl call238 0 _ ntmps238 [.cell 4 311] rfl rfl rfl (fun B => ?_);refine vs [2,3,4] (fun K hK => ?_);push_cast;apply hK;clear hK K;refine VC.seq ?_;refine vs [2,3,4,9] (fun K hK => ?_);push_cast;apply hK;clear hK K;refine vc h (fun hb1 h => ?_) (fun hb1 h => ?_)
 ·obtain ⟨r2,hr2,h⟩ := po_some h;refine vs [4] (fun K hK => ?_);push_cast;refine cp (Jg hr2) ?_;push_cast;apply hK;clear hK K;refine VC.ret ?_;replace h := Option.some.inj h;subst h;exact en (by push_cast [hb1])
 ·refine VC.skip ?_;refine vs [4] (fun K hK => ?_);refine runOps_cut 8 (fun K2 hK2 => ?_);push_cast;refine hK2 _ _ ?_;clear hK2 K2;simp only [List.drop_succ_cons,List.drop_zero];push_cast;apply hK;clear hK K;refine VC.ret ?_;replace h := Option.some.inj h;subst h;exact en (by push_cast [hb1])
noncomputable def Om (a0 : T_bounds_span) (a1 : T_bounds_span) : Option (T_bounds_span) :=
  pl ((a0.low * a1.low)) fun c1 =>
  pl ((a0.high * a1.high)) fun c2 =>
  po (Da c1 c2) fun r3 =>
  some r3
theorem Wl {a0 : T_bounds_span} {a1 : T_bounds_span} {r : T_bounds_span} (h : Om a0 a1 = some r) : Ctr prog 239 [.agg (enc_bounds_span a0), .agg (enc_bounds_span a1)] [] (.agg (enc_bounds_span r)) [] := by
 unfold Om at h;refine Ctr.ofW tabOk func239 rfl call239 0 _ ntmps239 [.cell 4 311] rfl rfl rfl (fun B => ?_);refine vs [2,3,4] (fun K hK => ?_);push_cast;apply hK;clear hK K;obtain ⟨c1,hc1,h⟩ := pl_some h;have hc1i : (((a0.low * a1.low)).toNat : Int) = (c1.toNat : Int) := by rw [hc1]
 push_cast at hc1i;obtain ⟨c2,hc2,h⟩ := pl_some h;have hc2i : (((a0.high * a1.high)).toNat : Int) = (c2.toNat : Int) := by rw [hc2]
 push_cast at hc2i;obtain ⟨r3,hr3,h⟩ := po_some h;refine vs [4] (fun K hK => ?_);refine runOps_cut 8 (fun K2 hK2 => ?_);push_cast [hc1i,hc2i];(repeat refine ao ?_);refine hK2 _ _ ?_;clear hK2 K2;simp only [List.drop_succ_cons,List.drop_zero];push_cast [hc1i,hc2i];(repeat refine ao ?_);refine cp (Jg hr3) ?_;push_cast [hc1i,hc2i];(repeat refine ao ?_);apply hK;clear hK K;refine VC.ret ?_;replace h := Option.some.inj h;subst h;exact en (by push_cast [hc1i,hc2i])
noncomputable def Lz (a0 : T_bounds_span) (a1 : T_bounds_span) : Option (T_bounds_span) :=
  cond ((a1.low.toNat : Int) == 0) (
  some (T_bounds_span.mk 0 a0.high)) (
  pg ((a1.high.toNat : Int) ≠ 0) <|
  pg ((a1.low.toNat : Int) ≠ 0) <|
  some (T_bounds_span.mk (a0.low / a1.high) (a0.high / a1.low)))
theorem Wp {a0 : T_bounds_span} {a1 : T_bounds_span} {r : T_bounds_span} (h : Lz a0 a1 = some r) : Ctr prog 240 [.agg (enc_bounds_span a0), .agg (enc_bounds_span a1)] [] (.agg (enc_bounds_span r)) [] := by
 unfold Lz at h;refine Ctr.ofW tabOk func240 rfl call240 0 _ ntmps240 [.cell 4 311] rfl rfl rfl (fun B => ?_);refine vs [2,3,4] (fun K hK => ?_);push_cast;apply hK;clear hK K;refine VC.seq ?_;refine vs [2,3,4,7] (fun K hK => ?_);push_cast;apply hK;clear hK K;refine vc h (fun hb1 h => ?_) (fun hb1 h => ?_)
 ·refine vs [4] (fun K hK => ?_);push_cast;apply hK;clear hK K;refine VC.ret ?_;replace h := Option.some.inj h;subst h;exact en (by push_cast [hb1])
 ·refine VC.skip ?_;obtain ⟨hg2,h⟩ := pg_some h;obtain ⟨hg3,h⟩ := pg_some h;refine vsD [some 11,some 12,some 13,some 14,some 15,some 16,some 17,some 18,some 19,some 20,some 21,none] [4] (fun K hK => ?_);refine runD_cut 8 (fun K2 hK2 => ?_);push_cast [hg2,hg3];(repeat refine ao ?_);refine hK2 _ _ _ ?_;clear hK2 K2;simp only [List.drop_succ_cons,List.drop_zero];push_cast [hg2,hg3];(repeat refine ao ?_);refine ⟨rfl,hK _ ?_⟩;clear hK K;refine VC.ret ?_;replace h := Option.some.inj h;subst h;exact en (by push_cast [hb1])
noncomputable def Lr (a0 : T_bounds_span) (a1 : T_bounds_span) : Option (T_bounds_span) :=
  cond (decide (a0.high.toNat < a1.low.toNat)) (
  some a0) (
  cond ((a1.low.toNat : Int) == 0) (
  some (T_bounds_span.mk 0 a0.high)) (
  pl ((a1.high - 1)) fun c3 =>
  some (T_bounds_span.mk 0 (min64 a0.high c3))))
theorem Wu {a0 : T_bounds_span} {a1 : T_bounds_span} {r : T_bounds_span} (h : Lr a0 a1 = some r) : Ctr prog 241 [.agg (enc_bounds_span a0), .agg (enc_bounds_span a1)] [] (.agg (enc_bounds_span r)) [] := by
 unfold Lr at h;refine Ctr.ofW tabOk func241 rfl call241 0 _ ntmps241 [.cell 4 311] rfl rfl rfl (fun B => ?_);refine vs [2,3,4] (fun K hK => ?_);push_cast;apply hK;clear hK K;refine VC.seq ?_;refine VC.block ?_;refine vs [2,3,4,5] (fun K hK => ?_);push_cast;apply hK;clear hK K;refine vc h (fun hb1 h => ?_) (fun hb1 h => ?_)
 ·refine vs [4] (fun K hK => ?_);push_cast;apply hK;clear hK K;refine VC.ret ?_;replace h := Option.some.inj h;subst h;exact en (by push_cast [hb1])
 ·refine vs [2,3,4,12] (fun K hK => ?_);push_cast;apply hK;clear hK K;refine vc h (fun hb2 h => ?_) (fun hb2 h => ?_)
  ·refine vs [4] (fun K hK => ?_);push_cast;apply hK;clear hK K;refine VC.ret ?_;replace h := Option.some.inj h;subst h;exact en (by push_cast [hb1,hb2])
  ·refine VC.skip ?_;obtain ⟨c3,hc3,h⟩ := pl_some h;have hc3i : (((a1.high - 1)).toNat : Int) = (c3.toNat : Int) := by rw [hc3]
   push_cast at hc3i;refine vs [4] (fun K hK => ?_);push_cast [hc3i];(repeat refine ao ?_);apply hK;clear hK K;refine VC.ret ?_;replace h := Option.some.inj h;subst h;exact en (by push_cast [hb1,hb2,hc3i])
noncomputable def Oo (a0 : T_bounds_span) (a1 : T_bounds_span) : Option (T_bounds_span) :=
  some (T_bounds_span.mk 0 (min64 a0.high a1.high))
theorem Wo {a0 : T_bounds_span} {a1 : T_bounds_span} {r : T_bounds_span} (h : Oo a0 a1 = some r) : Ctr prog 242 [.agg (enc_bounds_span a0), .agg (enc_bounds_span a1)] [] (.agg (enc_bounds_span r)) [] := by
 unfold Oo at h;refine Ctr.ofW tabOk func242 rfl call242 0 _ ntmps242 [.cell 4 311] rfl rfl rfl (fun B => ?_);refine vs [2,3,4] (fun K hK => ?_);push_cast;apply hK;clear hK K;refine vs [4] (fun K hK => ?_);push_cast;apply hK;clear hK K;refine VC.ret ?_;replace h := Option.some.inj h;subst h;exact en (by push_cast)
noncomputable def Kr (i_2 : UInt64) (i_3 : Bool) : Option ((UInt64) ⊕ (UInt64)) :=
  cond i_3 (
  some (Sum.inl (i_2 * 2))) (
  some (Sum.inr i_2))
noncomputable def Kw (a0 : UInt64) (a1 : UInt64) (i_2 : UInt64) : Option ((UInt64) ⊕ (UInt64)) :=
  po (
  cond (decide (i_2.toNat ≤ a0.toNat)) (
  some true) (
  some (decide (i_2.toNat ≤ a1.toNat)))) (fun x => Kr i_2 x)
noncomputable def Kt (i_5 : UInt64) : Option (UInt64) :=
  some i_5
noncomputable def Iy (a0 : UInt64) (a1 : UInt64) : Option (UInt64) :=
  po (
  lpU (fun x => Kw a0 a1 x) 1) (fun x => Kt x)
theorem Sp {a0 : UInt64} {a1 : UInt64} {r : UInt64} (h : Iy a0 a1 = some r) : Ctr prog 244 [.raw (.int .u64 (a0.toNat : Int)), .raw (.int .u64 (a1.toNat : Int))] [] (.raw (.int .u64 (r.toNat : Int))) [] := by
 unfold Iy at h;refine Ctr.ofW tabOk func244 rfl call244 0 _ ntmps244 [.tmp 4] rfl rfl rfl (fun B => ?_);refine vs [0,1] (fun K hK => ?_);push_cast;apply hK;clear hK K;refine vs [0,1,5] (fun K hK => ?_);push_cast;apply hK;clear hK K;refine vj h (fun x => ⟨[(5,.raw (.int .u64 (x.toNat : Int)))],[],21,17,0⟩) (fun v1 h hk1 => ?_) ?_
 ·refine VC.block ?_;refine VC.loopP h (fun x => ⟨[(0,.raw (.int .u64 (a0.toNat : Int))),(1,.raw (.int .u64 (a1.toNat : Int))),(5,.raw (.int .u64 (x.toNat : Int)))],[],13,17,0⟩) ?_ ?_
  ·exact sl (by push_cast)
  rintro i_2 b2 (h : Kw a0 a1 i_2 = some b2) hf2;(try push_cast);unfold Kw at h;refine VC.seq ?_;refine vj h (fun x => ⟨[(0,.raw (.int .u64 (a0.toNat : Int))),(1,.raw (.int .u64 (a1.toNat : Int))),(5,.raw (.int .u64 (i_2.toNat : Int))),(13,rb x)],[],21,17,0⟩) (fun v3 h hk3 => ?_) ?_
  ·rcases Bool.eq_false_or_eq_true (decide (i_2.toNat ≤ a0.toNat)) with hb4 | hb4
   ·replace h := cond_yes hb4 h;refine vlG [some 6,some 7,some 8,some 9,some 10,some 11,some 12,some 13] (fun K hK => ?_);push_cast [hb4];(repeat refine ao ?_);apply hK;clear hK K;refine ar h hk3 ?_;exact sl (by push_cast [hb4])
   ·replace h := cond_no hb4 h;refine vlG [some 6,some 7,some 8,some 9,some 10,some 11,some 12,some 13] (fun K hK => ?_);push_cast [hb4];(repeat refine ao ?_);apply hK;clear hK K;refine ar h hk3 ?_;exact sl (by push_cast [hb4])
  ·rintro i_3 (h : Kr i_2 i_3 = some b2);(try push_cast);unfold Kr at h;refine vc h (fun hb5 h => ?_) (fun hb5 h => ?_)
   ·refine VC.skip ?_;refine VC.block ?_;refine vl (fun K hK => ?_);push_cast;apply hK;clear hK K;refine bk h ?_;exact sl (by push_cast [hb5])
   ·refine VC.exit ?_;replace h := ol h hf2;refine ar h hk1 ?_;exact sl (by push_cast [hb5])
 ·rintro i_5 (h : Kt i_5 = some r);(try push_cast);unfold Kt at h;refine vs [4] (fun K hK => ?_);push_cast;apply hK;clear hK K;refine VC.ret ?_;replace h := Option.some.inj h;subst h;exact en (by push_cast)
noncomputable def Ox (a0 : T_bounds_span) (a1 : T_bounds_span) : Option (T_bounds_span) :=
  po (Iy a0.high a1.high) fun r1 =>
  some (T_bounds_span.mk (max64 a0.low a1.low) (r1 - 1))
theorem Wt {a0 : T_bounds_span} {a1 : T_bounds_span} {r : T_bounds_span} (h : Ox a0 a1 = some r) : Ctr prog 243 [.agg (enc_bounds_span a0), .agg (enc_bounds_span a1)] [] (.agg (enc_bounds_span r)) [] := by
 unfold Ox at h;refine Ctr.ofW tabOk func243 rfl call243 0 _ ntmps243 [.cell 4 311] rfl rfl rfl (fun B => ?_);refine vs [2,3,4] (fun K hK => ?_);push_cast;apply hK;clear hK K;obtain ⟨r1,hr1,h⟩ := po_some h;refine vsD [some 5,some 6,some 7,some 8,some 9,some 10,some 11,some 12,some 13,some 14,some 15,some 16,none] [4] (fun K hK => ?_);refine runD_cut 8 (fun K2 hK2 => ?_);push_cast;refine hK2 _ _ _ ?_;clear hK2 K2;simp only [List.drop_succ_cons,List.drop_zero];push_cast;refine cpD (Sp hr1) ?_;push_cast;refine ⟨rfl,hK _ ?_⟩;clear hK K;refine VC.ret ?_;replace h := Option.some.inj h;subst h;exact en (by push_cast)
noncomputable def Oz (a0 : T_bounds_span) (a1 : T_bounds_span) : Option (T_bounds_span) :=
  po (Iy a0.high a1.high) fun r1 =>
  some (T_bounds_span.mk 0 (r1 - 1))
theorem Ww {a0 : T_bounds_span} {a1 : T_bounds_span} {r : T_bounds_span} (h : Oz a0 a1 = some r) : Ctr prog 245 [.agg (enc_bounds_span a0), .agg (enc_bounds_span a1)] [] (.agg (enc_bounds_span r)) [] := by
 unfold Oz at h;refine Ctr.ofW tabOk func245 rfl call245 0 _ ntmps245 [.cell 4 311] rfl rfl rfl (fun B => ?_);refine vs [2,3,4] (fun K hK => ?_);push_cast;apply hK;clear hK K;obtain ⟨r1,hr1,h⟩ := po_some h;refine vs [4] (fun K hK => ?_);push_cast;refine cp (Sp hr1) ?_;push_cast;apply hK;clear hK K;refine VC.ret ?_;replace h := Option.some.inj h;subst h;exact en (by push_cast)
noncomputable def Ue : Option (Unit) :=
  some ()
theorem Ch {r : Unit} (h : Ue = some r) : Ctr prog 234 [] [] (.agg [.fn (.func 236) [] [], .fn (.func 237) [] [], .fn (.func 238) [] [], .fn (.func 239) [] [], .fn (.func 240) [] [], .fn (.func 241) [] [], .fn (.func 242) [] [], .fn (.func 243) [] [], .fn (.func 245) [] [], .fn (.func 246) [] [], .fn (.func 247) [] []]) [] := by
 unfold Ue at h;refine Ctr.ofW tabOk func234 rfl call234 0 _ ntmps234 [.cell 0 318] rfl rfl rfl (fun B => ?_);refine vs [0] (fun K hK => ?_);push_cast;apply hK;clear hK K;refine vs [0] (fun K hK => ?_);push_cast;apply hK;clear hK K;refine VC.ret ?_;replace h := Option.some.inj h;subst h;exact en (by push_cast)
noncomputable def Mt (a0 : Int) (a1 : C128) (a2 : C128) (i_1 : Bool) : Option (C128) :=
  cond i_1 (
  po (Da 1 0) fun r4 =>
  po (Ah r4) fun r5 =>
  some r5) (
  po (some ()) fun r7 =>
  cond (a0 == 0) (
  po (Ai a1) fun r9 =>
  po (Ai a2) fun r10 =>
  po (Pa r9 r10) fun r11 =>
  po (Ah r11) fun r12 =>
  some r12) (
  cond (a0 == 1) (
  po (Ai a1) fun r14 =>
  po (Ai a2) fun r15 =>
  po (Oy r14 r15) fun r16 =>
  po (Ah r16) fun r17 =>
  some r17) (
  cond (a0 == 2) (
  po (Ai a1) fun r19 =>
  po (Ai a2) fun r20 =>
  po (Mf r19 r20) fun r21 =>
  po (Ah r21) fun r22 =>
  some r22) (
  cond (a0 == 3) (
  po (Ai a1) fun r24 =>
  po (Ai a2) fun r25 =>
  po (Om r24 r25) fun r26 =>
  po (Ah r26) fun r27 =>
  some r27) (
  cond (a0 == 4) (
  po (Ai a1) fun r29 =>
  po (Ai a2) fun r30 =>
  po (Lz r29 r30) fun r31 =>
  po (Ah r31) fun r32 =>
  some r32) (
  cond (a0 == 5) (
  po (Ai a1) fun r34 =>
  po (Ai a2) fun r35 =>
  po (Lr r34 r35) fun r36 =>
  po (Ah r36) fun r37 =>
  some r37) (
  cond (a0 == 6) (
  po (Ai a1) fun r39 =>
  po (Ai a2) fun r40 =>
  po (Oo r39 r40) fun r41 =>
  po (Ah r41) fun r42 =>
  some r42) (
  cond (a0 == 7) (
  po (Ai a1) fun r44 =>
  po (Ai a2) fun r45 =>
  po (Ox r44 r45) fun r46 =>
  po (Ah r46) fun r47 =>
  some r47) (
  cond (a0 == 8) (
  po (Ai a1) fun r49 =>
  po (Ai a2) fun r50 =>
  po (Oz r49 r50) fun r51 =>
  po (Ah r51) fun r52 =>
  some r52) (
  cond (a0 == 9) (
  po (Ai a1) fun r54 =>
  po (Ai a2) fun r55 =>
  po (Kv r54 r55) fun r56 =>
  po (Ah r56) fun r57 =>
  some r57) (
  cond (a0 == 10) (
  po (Ai a1) fun r59 =>
  po (Ai a2) fun r60 =>
  po (Ku r59 r60) fun r61 =>
  po (Ah r61) fun r62 =>
  some r62) (
  none))))))))))))
noncomputable def Nd (a0 : Int) (a1 : C128) (a2 : C128) : Option (C128) :=
  po (
  cond (decide (a0 < 0)) (
  some true) (
  some (decide (a0 ≥ 11)))) (fun x => Mt a0 a1 a2 x)
theorem Yi {a0 : Int} {a1 : C128} {a2 : C128} {r : C128} (h : Nd a0 a1 a2 = some r) : Ctr prog 212 [ri a0, .raw (.complex .f64 a1.re a1.im), .raw (.complex .f64 a2.re a2.im)] [] (.raw (.complex .f64 r.re r.im)) [] := by
 unfold Nd at h;refine Ctr.ofW tabOk func212 rfl call212 0 _ ntmps212 [.tmp 6] rfl rfl rfl (fun B => ?_);refine vs [0,1,2] (fun K hK => ?_);push_cast;apply hK;clear hK K;refine VC.seq ?_;refine vj h (fun x => ⟨[(0,ri a0),(1,.raw (.complex .f64 a1.re a1.im)),(2,.raw (.complex .f64 a2.re a2.im)),(12,rb x)],[],7,24,0⟩) (fun v1 h hk1 => ?_) ?_
 ·rcases Bool.eq_false_or_eq_true (decide (a0 < 0)) with hb2 | hb2
  ·replace h := cond_yes hb2 h;refine vlG [some 7,some 8,some 9,some 10,some 11,some 12] (fun K hK => ?_);push_cast [hb2];(repeat refine ao ?_);apply hK;clear hK K;refine ar h hk1 ?_;exact sl (by push_cast [hb2])
  ·replace h := cond_no hb2 h;refine vlG [some 7,some 8,some 9,some 10,some 11,some 12] (fun K hK => ?_);push_cast [hb2];(repeat refine ao ?_);apply hK;clear hK K;refine ar h hk1 ?_;exact sl (by push_cast [hb2])
 ·rintro i_1 (h : Mt a0 a1 a2 i_1 = some r);(try push_cast);unfold Mt at h;refine vc h (fun hb3 h => ?_) (fun hb3 h => ?_)
  ·obtain ⟨r4,hr4,h⟩ := po_some h;obtain ⟨r5,hr5,h⟩ := po_some h;refine vs [6] (fun K hK => ?_);push_cast;refine cp (Jg hr4) ?_;push_cast;refine cp (Au hr5) ?_;push_cast;apply hK;clear hK K;refine VC.ret ?_;replace h := Option.some.inj h;subst h;exact en (by push_cast [hb3])
  ·refine VC.skip ?_;obtain ⟨r7,hr7,h⟩ := po_some h;rcases Bool.eq_false_or_eq_true (a0 == 0) with hb8 | hb8
   ·replace h := cond_yes hb8 h;have hb8e : a0 = 0 := by simpa using hb8
    have hb8n : a0.toNat = 0 := by omega
    obtain ⟨r9,hr9,h⟩ := po_some h;obtain ⟨r10,hr10,h⟩ := po_some h;obtain ⟨r11,hr11,h⟩ := po_some h;obtain ⟨r12,hr12,h⟩ := po_some h;refine vsD [some 15,some 16,some 17,some 18,some 19,some 20,some 21,some 22,some 23,some 6] [6] (fun K hK => ?_);push_cast [hb8n];(repeat refine ao ?_);refine cpD (Ch hr7) ?_;push_cast [hb8n];(repeat refine ao ?_);refine cpD (Ar hr9) ?_;push_cast [hb8n];(repeat refine ao ?_);refine cpD (Ar hr10) ?_;push_cast [hb8n];(repeat refine ao ?_);refine cpD (Wx hr11) ?_;push_cast [hb8n];(repeat refine ao ?_);refine cpD (Au hr12) ?_;push_cast [hb8n];(repeat refine ao ?_);refine ⟨rfl,hK _ ?_⟩;clear hK K;refine VC.ret ?_;replace h := Option.some.inj h;subst h;exact en (by push_cast [hb3])
   ·replace h := cond_no hb8 h;rcases Bool.eq_false_or_eq_true (a0 == 1) with hb13 | hb13
    ·replace h := cond_yes hb13 h;have hb13e : a0 = 1 := by simpa using hb13
     have hb13n : a0.toNat = 1 := by omega
     obtain ⟨r14,hr14,h⟩ := po_some h;obtain ⟨r15,hr15,h⟩ := po_some h;obtain ⟨r16,hr16,h⟩ := po_some h;obtain ⟨r17,hr17,h⟩ := po_some h;refine vsD [some 15,some 16,some 17,some 18,some 19,some 20,some 21,some 22,some 23,some 6] [6] (fun K hK => ?_);push_cast [hb13n];(repeat refine ao ?_);refine cpD (Ch hr7) ?_;push_cast [hb13n];(repeat refine ao ?_);refine cpD (Ar hr14) ?_;push_cast [hb13n];(repeat refine ao ?_);refine cpD (Ar hr15) ?_;push_cast [hb13n];(repeat refine ao ?_);refine cpD (Wq hr16) ?_;push_cast [hb13n];(repeat refine ao ?_);refine cpD (Au hr17) ?_;push_cast [hb13n];(repeat refine ao ?_);refine ⟨rfl,hK _ ?_⟩;clear hK K;refine VC.ret ?_;replace h := Option.some.inj h;subst h;exact en (by push_cast [hb3])
    ·replace h := cond_no hb13 h;rcases Bool.eq_false_or_eq_true (a0 == 2) with hb18 | hb18
     ·replace h := cond_yes hb18 h;have hb18e : a0 = 2 := by simpa using hb18
      have hb18n : a0.toNat = 2 := by omega
      obtain ⟨r19,hr19,h⟩ := po_some h;obtain ⟨r20,hr20,h⟩ := po_some h;obtain ⟨r21,hr21,h⟩ := po_some h;obtain ⟨r22,hr22,h⟩ := po_some h;refine vsD [some 15,some 16,some 17,some 18,some 19,some 20,some 21,some 22,some 23,some 6] [6] (fun K hK => ?_);push_cast [hb18n];(repeat refine ao ?_);refine cpD (Ch hr7) ?_;push_cast [hb18n];(repeat refine ao ?_);refine cpD (Ar hr19) ?_;push_cast [hb18n];(repeat refine ao ?_);refine cpD (Ar hr20) ?_;push_cast [hb18n];(repeat refine ao ?_);refine cpD (Wm hr21) ?_;push_cast [hb18n];(repeat refine ao ?_);refine cpD (Au hr22) ?_;push_cast [hb18n];(repeat refine ao ?_);refine ⟨rfl,hK _ ?_⟩;clear hK K;refine VC.ret ?_;replace h := Option.some.inj h;subst h;exact en (by push_cast [hb3])
     ·replace h := cond_no hb18 h;rcases Bool.eq_false_or_eq_true (a0 == 3) with hb23 | hb23
      ·replace h := cond_yes hb23 h;have hb23e : a0 = 3 := by simpa using hb23
       have hb23n : a0.toNat = 3 := by omega
       obtain ⟨r24,hr24,h⟩ := po_some h;obtain ⟨r25,hr25,h⟩ := po_some h;obtain ⟨r26,hr26,h⟩ := po_some h;obtain ⟨r27,hr27,h⟩ := po_some h;refine vsD [some 15,some 16,some 17,some 18,some 19,some 20,some 21,some 22,some 23,some 6] [6] (fun K hK => ?_);push_cast [hb23n];(repeat refine ao ?_);refine cpD (Ch hr7) ?_;push_cast [hb23n];(repeat refine ao ?_);refine cpD (Ar hr24) ?_;push_cast [hb23n];(repeat refine ao ?_);refine cpD (Ar hr25) ?_;push_cast [hb23n];(repeat refine ao ?_);refine cpD (Wl hr26) ?_;push_cast [hb23n];(repeat refine ao ?_);refine cpD (Au hr27) ?_;push_cast [hb23n];(repeat refine ao ?_);refine ⟨rfl,hK _ ?_⟩;clear hK K;refine VC.ret ?_;replace h := Option.some.inj h;subst h;exact en (by push_cast [hb3])
      ·replace h := cond_no hb23 h;rcases Bool.eq_false_or_eq_true (a0 == 4) with hb28 | hb28
       ·replace h := cond_yes hb28 h;have hb28e : a0 = 4 := by simpa using hb28
        have hb28n : a0.toNat = 4 := by omega
        obtain ⟨r29,hr29,h⟩ := po_some h;obtain ⟨r30,hr30,h⟩ := po_some h;obtain ⟨r31,hr31,h⟩ := po_some h;obtain ⟨r32,hr32,h⟩ := po_some h;refine vsD [some 15,some 16,some 17,some 18,some 19,some 20,some 21,some 22,some 23,some 6] [6] (fun K hK => ?_);push_cast [hb28n];(repeat refine ao ?_);refine cpD (Ch hr7) ?_;push_cast [hb28n];(repeat refine ao ?_);refine cpD (Ar hr29) ?_;push_cast [hb28n];(repeat refine ao ?_);refine cpD (Ar hr30) ?_;push_cast [hb28n];(repeat refine ao ?_);refine cpD (Wp hr31) ?_;push_cast [hb28n];(repeat refine ao ?_);refine cpD (Au hr32) ?_;push_cast [hb28n];(repeat refine ao ?_);refine ⟨rfl,hK _ ?_⟩;clear hK K;refine VC.ret ?_;replace h := Option.some.inj h;subst h;exact en (by push_cast [hb3])
       ·replace h := cond_no hb28 h;rcases Bool.eq_false_or_eq_true (a0 == 5) with hb33 | hb33
        ·replace h := cond_yes hb33 h;have hb33e : a0 = 5 := by simpa using hb33
         have hb33n : a0.toNat = 5 := by omega
         obtain ⟨r34,hr34,h⟩ := po_some h;obtain ⟨r35,hr35,h⟩ := po_some h;obtain ⟨r36,hr36,h⟩ := po_some h;obtain ⟨r37,hr37,h⟩ := po_some h;refine vsD [some 15,some 16,some 17,some 18,some 19,some 20,some 21,some 22,some 23,some 6] [6] (fun K hK => ?_);push_cast [hb33n];(repeat refine ao ?_);refine cpD (Ch hr7) ?_;push_cast [hb33n];(repeat refine ao ?_);refine cpD (Ar hr34) ?_;push_cast [hb33n];(repeat refine ao ?_);refine cpD (Ar hr35) ?_;push_cast [hb33n];(repeat refine ao ?_);refine cpD (Wu hr36) ?_;push_cast [hb33n];(repeat refine ao ?_);refine cpD (Au hr37) ?_;push_cast [hb33n];(repeat refine ao ?_);refine ⟨rfl,hK _ ?_⟩;clear hK K;refine VC.ret ?_;replace h := Option.some.inj h;subst h;exact en (by push_cast [hb3])
        ·replace h := cond_no hb33 h;rcases Bool.eq_false_or_eq_true (a0 == 6) with hb38 | hb38
         ·replace h := cond_yes hb38 h;have hb38e : a0 = 6 := by simpa using hb38
          have hb38n : a0.toNat = 6 := by omega
          obtain ⟨r39,hr39,h⟩ := po_some h;obtain ⟨r40,hr40,h⟩ := po_some h;obtain ⟨r41,hr41,h⟩ := po_some h;obtain ⟨r42,hr42,h⟩ := po_some h;refine vsD [some 15,some 16,some 17,some 18,some 19,some 20,some 21,some 22,some 23,some 6] [6] (fun K hK => ?_);push_cast [hb38n];(repeat refine ao ?_);refine cpD (Ch hr7) ?_;push_cast [hb38n];(repeat refine ao ?_);refine cpD (Ar hr39) ?_;push_cast [hb38n];(repeat refine ao ?_);refine cpD (Ar hr40) ?_;push_cast [hb38n];(repeat refine ao ?_);refine cpD (Wo hr41) ?_;push_cast [hb38n];(repeat refine ao ?_);refine cpD (Au hr42) ?_;push_cast [hb38n];(repeat refine ao ?_);refine ⟨rfl,hK _ ?_⟩;clear hK K;refine VC.ret ?_;replace h := Option.some.inj h;subst h;exact en (by push_cast [hb3])
         ·replace h := cond_no hb38 h;rcases Bool.eq_false_or_eq_true (a0 == 7) with hb43 | hb43
          ·replace h := cond_yes hb43 h;have hb43e : a0 = 7 := by simpa using hb43
           have hb43n : a0.toNat = 7 := by omega
           obtain ⟨r44,hr44,h⟩ := po_some h;obtain ⟨r45,hr45,h⟩ := po_some h;obtain ⟨r46,hr46,h⟩ := po_some h;obtain ⟨r47,hr47,h⟩ := po_some h;refine vsD [some 15,some 16,some 17,some 18,some 19,some 20,some 21,some 22,some 23,some 6] [6] (fun K hK => ?_);push_cast [hb43n];(repeat refine ao ?_);refine cpD (Ch hr7) ?_;push_cast [hb43n];(repeat refine ao ?_);refine cpD (Ar hr44) ?_;push_cast [hb43n];(repeat refine ao ?_);refine cpD (Ar hr45) ?_;push_cast [hb43n];(repeat refine ao ?_);refine cpD (Wt hr46) ?_;push_cast [hb43n];(repeat refine ao ?_);refine cpD (Au hr47) ?_;push_cast [hb43n];(repeat refine ao ?_);refine ⟨rfl,hK _ ?_⟩;clear hK K;refine VC.ret ?_;replace h := Option.some.inj h;subst h;exact en (by push_cast [hb3])
          ·replace h := cond_no hb43 h;rcases Bool.eq_false_or_eq_true (a0 == 8) with hb48 | hb48
           ·replace h := cond_yes hb48 h;have hb48e : a0 = 8 := by simpa using hb48
            have hb48n : a0.toNat = 8 := by omega
            obtain ⟨r49,hr49,h⟩ := po_some h;obtain ⟨r50,hr50,h⟩ := po_some h;obtain ⟨r51,hr51,h⟩ := po_some h;obtain ⟨r52,hr52,h⟩ := po_some h;refine vsD [some 15,some 16,some 17,some 18,some 19,some 20,some 21,some 22,some 23,some 6] [6] (fun K hK => ?_);push_cast [hb48n];(repeat refine ao ?_);refine cpD (Ch hr7) ?_;push_cast [hb48n];(repeat refine ao ?_);refine cpD (Ar hr49) ?_;push_cast [hb48n];(repeat refine ao ?_);refine cpD (Ar hr50) ?_;push_cast [hb48n];(repeat refine ao ?_);refine cpD (Ww hr51) ?_;push_cast [hb48n];(repeat refine ao ?_);refine cpD (Au hr52) ?_;push_cast [hb48n];(repeat refine ao ?_);refine ⟨rfl,hK _ ?_⟩;clear hK K;refine VC.ret ?_;replace h := Option.some.inj h;subst h;exact en (by push_cast [hb3])
           ·replace h := cond_no hb48 h;rcases Bool.eq_false_or_eq_true (a0 == 9) with hb53 | hb53
            ·replace h := cond_yes hb53 h;have hb53e : a0 = 9 := by simpa using hb53
             have hb53n : a0.toNat = 9 := by omega
             obtain ⟨r54,hr54,h⟩ := po_some h;obtain ⟨r55,hr55,h⟩ := po_some h;obtain ⟨r56,hr56,h⟩ := po_some h;obtain ⟨r57,hr57,h⟩ := po_some h;refine vsD [some 15,some 16,some 17,some 18,some 19,some 20,some 21,some 22,some 23,some 6] [6] (fun K hK => ?_);push_cast [hb53n];(repeat refine ao ?_);refine cpD (Ch hr7) ?_;push_cast [hb53n];(repeat refine ao ?_);refine cpD (Ar hr54) ?_;push_cast [hb53n];(repeat refine ao ?_);refine cpD (Ar hr55) ?_;push_cast [hb53n];(repeat refine ao ?_);refine cpD (Wa hr56) ?_;push_cast [hb53n];(repeat refine ao ?_);refine cpD (Au hr57) ?_;push_cast [hb53n];(repeat refine ao ?_);refine ⟨rfl,hK _ ?_⟩;clear hK K;refine VC.ret ?_;replace h := Option.some.inj h;subst h;exact en (by push_cast [hb3])
            ·replace h := cond_no hb53 h;rcases Bool.eq_false_or_eq_true (a0 == 10) with hb58 | hb58
             ·replace h := cond_yes hb58 h;have hb58e : a0 = 10 := by simpa using hb58
              have hb58n : a0.toNat = 10 := by omega
              obtain ⟨r59,hr59,h⟩ := po_some h;obtain ⟨r60,hr60,h⟩ := po_some h;obtain ⟨r61,hr61,h⟩ := po_some h;obtain ⟨r62,hr62,h⟩ := po_some h;refine vsD [some 15,some 16,some 17,some 18,some 19,some 20,some 21,some 22,some 23,some 6] [6] (fun K hK => ?_);push_cast [hb58n];(repeat refine ao ?_);refine cpD (Ch hr7) ?_;push_cast [hb58n];(repeat refine ao ?_);refine cpD (Ar hr59) ?_;push_cast [hb58n];(repeat refine ao ?_);refine cpD (Ar hr60) ?_;push_cast [hb58n];(repeat refine ao ?_);refine cpD (Vx hr61) ?_;push_cast [hb58n];(repeat refine ao ?_);refine cpD (Au hr62) ?_;push_cast [hb58n];(repeat refine ao ?_);refine ⟨rfl,hK _ ?_⟩;clear hK K;refine VC.ret ?_;replace h := Option.some.inj h;subst h;exact en (by push_cast [hb3])
             ·replace h := cond_no hb58 h;cases h
noncomputable def Lx (r1 : T_bounds_span) (i_3 : Bool) : Option (T_bounds_span × Bool) :=
  cond i_3 (
  some ((T_bounds_span.mk r1.low (r1.high - 1)), true)) (
  some (r1, true))
noncomputable def Lu (r1 : T_bounds_span) (r2 : T_bounds_span) (i_2 : Bool) : Option (T_bounds_span × Bool) :=
  cond i_2 (
  some ((T_bounds_span.mk (r1.low + 1) r1.high), true)) (
  po (
  cond ((r2.low.toNat : Int) == (r2.high.toNat : Int)) (
  some ((r1.high.toNat : Int) == (r2.low.toNat : Int))) (
  some false)) (fun x => Lx r1 x))
noncomputable def Mx (r1 : T_bounds_span) (r2 : T_bounds_span) (i_1 : Bool) : Option (T_bounds_span × Bool) :=
  cond i_1 (
  some (r1, false)) (
  po (
  cond ((r2.low.toNat : Int) == (r2.high.toNat : Int)) (
  some ((r1.low.toNat : Int) == (r2.low.toNat : Int))) (
  some false)) (fun x => Lu r1 r2 x))
noncomputable def Ll (s_4 : T_bounds_span) (i_6 : Bool) : Option (C128 × Bool) :=
  cond i_6 (
  po (Da 1 0) fun r23 =>
  po (Ah r23) fun r24 =>
  some (r24, false)) (
  po (Ah s_4) fun r25 =>
  some (r25, true))
noncomputable def Na (s_4 : T_bounds_span) (i_5 : Bool) : Option (C128 × Bool) :=
  po (
  cond i_5 (
  some (decide (s_4.low.toNat > s_4.high.toNat))) (
  some true)) (fun x => Ll s_4 x)
noncomputable def Nm (a0 : Int) (a1 : C128) (a2 : C128) : Option (C128 × Bool) :=
  po (Ai a1) fun r1 =>
  po (Ai a2) fun r2 =>
  po (
  cond (a0 == 1) (
  some ((T_bounds_span.mk (max64 r1.low r2.low) (min64 r1.high r2.high)), true)) (
  cond (a0 == 2) (
  po (
  cond ((r2.low.toNat : Int) == (r2.high.toNat : Int)) (
  cond ((r1.low.toNat : Int) == (r2.low.toNat : Int)) (
  some ((r1.high.toNat : Int) == (r2.low.toNat : Int))) (
  some false)) (
  some false)) (fun x => Mx r1 r2 x)) (
  cond (a0 == 3) (
  cond (decide ((r2.high.toNat : Int) > 0)) (
  pl ((r2.high - 1)) fun c18 =>
  some ((T_bounds_span.mk r1.low (min64 r1.high c18)), (decide ((r2.high.toNat : Int) > 0)))) (
  some (r1, (decide ((r2.high.toNat : Int) > 0))))) (
  cond (a0 == 4) (
  some ((T_bounds_span.mk (max64 r1.low r2.low) r1.high), true)) (
  some (r1, true)))))) (fun x => Na x.1 x.2)
theorem Yo {a0 : Int} {a1 : C128} {a2 : C128} {r : C128 × Bool} (h : Nm a0 a1 a2 = some r) : Ctr prog 215 [ri a0, .raw (.complex .f64 a1.re a1.im), .raw (.complex .f64 a2.re a2.im)] [] (.tup [.raw (.complex .f64 r.1.re r.1.im), rb r.2]) [] := by
 unfold Nm at h;refine Ctr.ofW tabOk func215 rfl call215 0 _ ntmps215 [.tmp 6,.tmp 7] rfl rfl rfl (fun B => ?_);refine vs [0,1,2] (fun K hK => ?_);push_cast;apply hK;clear hK K;obtain ⟨r1,hr1,h⟩ := po_some h;obtain ⟨r2,hr2,h⟩ := po_some h;refine vs [0,8,9] (fun K hK => ?_);push_cast;refine cp (Ar hr1) ?_;push_cast;refine cp (Ar hr2) ?_;push_cast;apply hK;clear hK K;refine vs [0,8,9,10] (fun K hK => ?_);push_cast;apply hK;clear hK K;refine vj h (fun x => ⟨[(8,.ref 6 0),(10,rb x.2)],[(6,.box 311 (enc_bounds_span x.1))],61,114,0⟩) (fun v3 h hk3 => ?_) ?_
 ·refine vs [8,9,10,16] (fun K hK => ?_);push_cast;apply hK;clear hK K;refine VC.block ?_;refine vs [8,9,10,16,17] (fun K hK => ?_);push_cast;apply hK;clear hK K;refine vc h (fun hb4 h => ?_) (fun hb4 h => ?_)
  ·refine vlD [some 19,some 20,some 21,some 22,some 23,some 24,some 25,some 26,some 27,some 28,some 29,none,some 30,none] (fun K hK => ?_);refine runD_cut 8 (fun K2 hK2 => ?_);push_cast;refine hK2 _ _ _ ?_;clear hK2 K2;simp only [List.drop_succ_cons,List.drop_zero];push_cast;refine ⟨rfl,hK _ ?_⟩;clear hK K;refine ar h hk3 ?_;exact sl (by push_cast [hb4])
  ·refine vs [8,9,10,16,31] (fun K hK => ?_);push_cast;apply hK;clear hK K;refine vc h (fun hb5 h => ?_) (fun hb5 h => ?_)
   ·refine vs [8,9,10,11] (fun K hK => ?_);push_cast;apply hK;clear hK K;refine VC.block ?_;refine vj h (fun x => ⟨[(8,.ref 6 0),(9,.ref 7 0),(10,rb true),(11,rb ((r2.low.toNat : Int) == (r2.high.toNat : Int))),(38,rb x)],[(6,.box 311 (enc_bounds_span r1)),(7,.box 311 (enc_bounds_span r2))],38,114,0⟩) (fun v6 h hk6 => ?_) ?_
    ·rcases Bool.eq_false_or_eq_true ((r2.low.toNat : Int) == (r2.high.toNat : Int)) with hb7 | hb7
     ·replace h := cond_yes hb7 h;rcases Bool.eq_false_or_eq_true ((r1.low.toNat : Int) == (r2.low.toNat : Int)) with hb8 | hb8
      ·replace h := cond_yes hb8 h;refine vlG [some 39,some 40,some 41,some 42,some 43,some 44,some 45,some 46,some 47,some 48,some 49,some 50,some 51,some 52,some 53,some 38] (fun K hK => ?_);refine runOps_cut 8 (fun K2 hK2 => ?_);push_cast [hb7,hb8];(repeat refine ao ?_);refine hK2 _ _ ?_;clear hK2 K2;simp only [List.drop_succ_cons,List.drop_zero];push_cast [hb7,hb8];(repeat refine ao ?_);apply hK;clear hK K;refine ar h hk6 ?_;exact sl (by push_cast [hb4,hb5,hb7,hb8])
      ·replace h := cond_no hb8 h;refine vlG [some 39,some 40,some 41,some 42,some 43,some 44,some 45,some 46,some 47,some 48,some 49,some 50,some 51,some 52,some 53,some 38] (fun K hK => ?_);refine runOps_cut 8 (fun K2 hK2 => ?_);push_cast [hb7,hb8];(repeat refine ao ?_);refine hK2 _ _ ?_;clear hK2 K2;simp only [List.drop_succ_cons,List.drop_zero];push_cast [hb7,hb8];(repeat refine ao ?_);apply hK;clear hK K;refine ar h hk6 ?_;exact sl (by push_cast [hb4,hb5,hb7,hb8])
     ·replace h := cond_no hb7 h;refine vlG [some 39,some 40,some 41,some 42,some 43,some 44,some 45,some 46,some 47,some 48,some 49,some 50,some 51,some 52,some 53,some 38] (fun K hK => ?_);refine runOps_cut 8 (fun K2 hK2 => ?_);push_cast [hb7];(repeat refine ao ?_);refine hK2 _ _ ?_;clear hK2 K2;simp only [List.drop_succ_cons,List.drop_zero];push_cast [hb7];(repeat refine ao ?_);apply hK;clear hK K;refine ar h hk6 ?_;exact sl (by push_cast [hb4,hb5,hb7])
    ·rintro i_1 (h : Mx r1 r2 i_1 = some v3);(try push_cast);unfold Mx at h;refine vc h (fun hb9 h => ?_) (fun hb9 h => ?_)
     ·refine vl (fun K hK => ?_);push_cast;apply hK;clear hK K;refine ar h hk3 ?_;exact sl (by push_cast [hb4,hb5,hb9])
     ·refine vj h (fun x => ⟨[(8,.ref 6 0),(9,.ref 7 0),(10,rb true),(11,rb ((r2.low.toNat : Int) == (r2.high.toNat : Int))),(54,rb x)],[(6,.box 311 (enc_bounds_span r1)),(7,.box 311 (enc_bounds_span r2))],47,114,0⟩) (fun v10 h hk10 => ?_) ?_
      ·rcases Bool.eq_false_or_eq_true ((r2.low.toNat : Int) == (r2.high.toNat : Int)) with hb11 | hb11
       ·replace h := cond_yes hb11 h;refine vlG [some 55,some 56,some 57,some 58,some 59,some 60,some 61,some 62,some 54] (fun K hK => ?_);push_cast [hb11];(repeat refine ao ?_);apply hK;clear hK K;refine ar h hk10 ?_;exact sl (by push_cast [hb4,hb5,hb9,hb11])
       ·replace h := cond_no hb11 h;refine vlG [some 55,some 56,some 57,some 58,some 59,some 60,some 61,some 62,some 54] (fun K hK => ?_);push_cast [hb11];(repeat refine ao ?_);apply hK;clear hK K;refine ar h hk10 ?_;exact sl (by push_cast [hb4,hb5,hb9,hb11])
      ·rintro i_2 (h : Lu r1 r2 i_2 = some v3);(try push_cast);unfold Lu at h;refine vc h (fun hb12 h => ?_) (fun hb12 h => ?_)
       ·refine vl (fun K hK => ?_);push_cast;apply hK;clear hK K;refine ar h hk3 ?_;exact sl (by push_cast [hb4,hb5,hb9,hb12])
       ·refine vj h (fun x => ⟨[(8,.ref 6 0),(10,rb true),(67,rb x)],[(6,.box 311 (enc_bounds_span r1))],56,114,0⟩) (fun v13 h hk13 => ?_) ?_
        ·rcases Bool.eq_false_or_eq_true ((r2.low.toNat : Int) == (r2.high.toNat : Int)) with hb14 | hb14
         ·replace h := cond_yes hb14 h;refine vlG [some 68,some 69,some 70,some 71,some 72,some 73,some 74,some 75,some 67] (fun K hK => ?_);push_cast [hb14];(repeat refine ao ?_);apply hK;clear hK K;refine ar h hk13 ?_;exact sl (by push_cast [hb4,hb5,hb9,hb12,hb14])
         ·replace h := cond_no hb14 h;refine vlG [some 68,some 69,some 70,some 71,some 72,some 73,some 74,some 75,some 67] (fun K hK => ?_);push_cast [hb14];(repeat refine ao ?_);apply hK;clear hK K;refine ar h hk13 ?_;exact sl (by push_cast [hb4,hb5,hb9,hb12,hb14])
        ·rintro i_3 (h : Lx r1 i_3 = some v3);(try push_cast);unfold Lx at h;refine vc h (fun hb15 h => ?_) (fun hb15 h => ?_)
         ·refine vl (fun K hK => ?_);push_cast;apply hK;clear hK K;refine ar h hk3 ?_;exact sl (by push_cast [hb4,hb5,hb9,hb12,hb15])
         ·refine VC.skip ?_;refine ar h hk3 ?_;exact sl (by push_cast [hb4,hb5,hb9,hb12,hb15])
   ·refine vs [8,9,10,16,80] (fun K hK => ?_);push_cast;apply hK;clear hK K;refine vc h (fun hb16 h => ?_) (fun hb16 h => ?_)
    ·refine vs [8,9,10] (fun K hK => ?_);push_cast;apply hK;clear hK K;refine vs [8,9,10,85] (fun K hK => ?_);push_cast;apply hK;clear hK K;refine vc h (fun hb17 h => ?_) (fun hb17 h => ?_)
     ·obtain ⟨c18,hc18,h⟩ := pl_some h;have hc18i : (((r2.high - 1)).toNat : Int) = (c18.toNat : Int) := by rw [hc18]
      push_cast at hc18i;refine vl (fun K hK => ?_);push_cast [hc18i];(repeat refine ao ?_);apply hK;clear hK K;refine ar h hk3 ?_;exact sl (by push_cast [hb4,hb5,hb16,hb17,hc18i])
     ·refine VC.skip ?_;refine ar h hk3 ?_;exact sl (by push_cast [hb4,hb5,hb16,hb17])
    ·refine vs [8,9,10,93] (fun K hK => ?_);push_cast;apply hK;clear hK K;refine vc h (fun hb19 h => ?_) (fun hb19 h => ?_)
     ·refine vl (fun K hK => ?_);push_cast;apply hK;clear hK K;refine ar h hk3 ?_;exact sl (by push_cast [hb4,hb5,hb16,hb19])
     ·refine VC.skip ?_;refine ar h hk3 ?_;exact sl (by push_cast [hb4,hb5,hb16,hb19])
 ·rintro ⟨s_4,i_5⟩ (h : Na s_4 i_5 = some r);(try push_cast);unfold Na at h;refine VC.seq ?_;refine vj h (fun x => ⟨[(8,.ref 6 0),(109,rb x)],[(6,.box 311 (enc_bounds_span s_4))],70,114,0⟩) (fun v20 h hk20 => ?_) ?_
  ·rcases Bool.eq_false_or_eq_true i_5 with hb21 | hb21
   ·replace h := cond_yes hb21 h;refine vlG [some 101,some 102,some 103,some 104,some 105,some 106,some 107,some 108,some 109] (fun K hK => ?_);push_cast [hb21];(repeat refine ao ?_);apply hK;clear hK K;refine ar h hk20 ?_;exact sl (by push_cast [hb21])
   ·replace h := cond_no hb21 h;refine vlG [some 101,some 102,some 103,some 104,some 105,some 106,some 107,some 108,some 109] (fun K hK => ?_);push_cast [hb21];(repeat refine ao ?_);apply hK;clear hK K;refine ar h hk20 ?_;exact sl (by push_cast [hb21])
  ·rintro i_6 (h : Ll s_4 i_6 = some r);(try push_cast);unfold Ll at h;refine vc h (fun hb22 h => ?_) (fun hb22 h => ?_)
   ·obtain ⟨r23,hr23,h⟩ := po_some h;obtain ⟨r24,hr24,h⟩ := po_some h;refine vs [6,7] (fun K hK => ?_);push_cast;refine cp (Jg hr23) ?_;push_cast;refine cp (Au hr24) ?_;push_cast;apply hK;clear hK K;refine VC.ret ?_;replace h := Option.some.inj h;subst h;exact en (by push_cast [hb22])
   ·refine VC.skip ?_;obtain ⟨r25,hr25,h⟩ := po_some h;refine vs [6,7] (fun K hK => ?_);push_cast;refine cp (Au hr25) ?_;push_cast;apply hK;clear hK K;refine VC.ret ?_;replace h := Option.some.inj h;subst h;exact en (by push_cast [hb22])
noncomputable def Jy (a0 : C128) (a1 : C128) : Option (C128) :=
  po (Ai a0) fun r1 =>
  po (Ai a1) fun r2 =>
  pl ((min64 r1.low r2.low)) fun c3 =>
  pl ((max64 r1.high r2.high)) fun c4 =>
  po (Ah (T_bounds_span.mk c3 c4)) fun r5 =>
  some r5
theorem Ya {a0 : C128} {a1 : C128} {r : C128} (h : Jy a0 a1 = some r) : Ctr prog 208 [.raw (.complex .f64 a0.re a0.im), .raw (.complex .f64 a1.re a1.im)] [] (.raw (.complex .f64 r.re r.im)) [] := by
 unfold Jy at h;refine Ctr.ofW tabOk func208 rfl call208 0 _ ntmps208 [.tmp 4] rfl rfl rfl (fun B => ?_);refine vs [0,1] (fun K hK => ?_);push_cast;apply hK;clear hK K;obtain ⟨r1,hr1,h⟩ := po_some h;obtain ⟨r2,hr2,h⟩ := po_some h;refine vs [5,6] (fun K hK => ?_);push_cast;refine cp (Ar hr1) ?_;push_cast;refine cp (Ar hr2) ?_;push_cast;apply hK;clear hK K;obtain ⟨c3,hc3,h⟩ := pl_some h;have hc3i : (((min64 r1.low r2.low)).toNat : Int) = (c3.toNat : Int) := by rw [hc3]
 push_cast at hc3i;obtain ⟨c4,hc4,h⟩ := pl_some h;have hc4i : (((max64 r1.high r2.high)).toNat : Int) = (c4.toNat : Int) := by rw [hc4]
 push_cast at hc4i;obtain ⟨r5,hr5,h⟩ := po_some h;refine vs [4] (fun K hK => ?_);refine runOps_cut 8 (fun K2 hK2 => ?_);push_cast [hc3i,hc4i];(repeat refine ao ?_);refine hK2 _ _ ?_;clear hK2 K2;simp only [List.drop_succ_cons,List.drop_zero];push_cast [hc3i,hc4i];(repeat refine ao ?_);refine cp (Au hr5) ?_;push_cast [hc3i,hc4i];(repeat refine ao ?_);apply hK;clear hK K;refine VC.ret ?_;replace h := Option.some.inj h;subst h;exact en (by push_cast [hc3i,hc4i])
noncomputable def Jz (a0 : C128) : Option (UInt32 × UInt32 × Bool) :=
  po (Fh a0) fun r1 =>
  cond (!r1) (
  some (0, 0, false)) (
  po (Ai a0) fun r3 =>
  some (r3.low.toUInt32, r3.high.toUInt32, true))
theorem Uv {a0 : C128} {r : UInt32 × UInt32 × Bool} (h : Jz a0 = some r) : Ctr prog 219 [.raw (.complex .f64 a0.re a0.im)] [] (.tup [ru r.1, ru r.2.1, rb r.2.2]) [] := by
 unfold Jz at h;refine Ctr.ofW tabOk func219 rfl call219 0 _ ntmps219 [.tmp 2,.tmp 3,.tmp 4] rfl rfl rfl (fun B => ?_);refine vs [0] (fun K hK => ?_);push_cast;apply hK;clear hK K;refine VC.seq ?_;obtain ⟨r1,hr1,h⟩ := po_some h;refine vs [0,8] (fun K hK => ?_);push_cast;refine cp (Pr hr1) ?_;push_cast;apply hK;clear hK K;refine vc h (fun hb2 h => ?_) (fun hb2 h => ?_)
 ·refine vs [2,3,4] (fun K hK => ?_);push_cast;apply hK;clear hK K;refine VC.ret ?_;replace h := Option.some.inj h;subst h;exact en (by push_cast [hb2])
 ·refine VC.skip ?_;obtain ⟨r3,hr3,h⟩ := po_some h;refine vs [5] (fun K hK => ?_);push_cast;refine cp (Ar hr3) ?_;push_cast;apply hK;clear hK K;refine vsD [some 11,some 12,some 13,some 14,some 15,some 16,some 2,some 3,some 4] [2,3,4] (fun K hK => ?_);push_cast;refine ⟨rfl,hK _ ?_⟩;clear hK K;refine VC.ret ?_;replace h := Option.some.inj h;subst h;exact en (by push_cast [hb2])
theorem sh_gS (a : A8 Bool) (r : List AV) {n : Nat} (hn : n < 8) : (.raw (.bool a.a0) :: .raw (.bool a.a1) :: .raw (.bool a.a2) :: .raw (.bool a.a3) :: .raw (.bool a.a4) :: .raw (.bool a.a5) :: .raw (.bool a.a6) :: .raw (.bool a.a7) :: r)[n]? = some (.raw (.bool (a.get n))) := by
  rcases A8.cases hn with rfl | rfl | rfl | rfl | rfl | rfl | rfl | rfl <;> rfl
theorem sh_gR (c0 c1 c2 c3 c4 c5 c6 c7 : AV) (b : A8 C128) (r : List AV) {n : Nat} (hn : n < 8) : (c0 :: c1 :: c2 :: c3 :: c4 :: c5 :: c6 :: c7 :: .raw (.complex .f64 b.a0.re b.a0.im) :: .raw (.complex .f64 b.a1.re b.a1.im) :: .raw (.complex .f64 b.a2.re b.a2.im) :: .raw (.complex .f64 b.a3.re b.a3.im) :: .raw (.complex .f64 b.a4.re b.a4.im) :: .raw (.complex .f64 b.a5.re b.a5.im) :: .raw (.complex .f64 b.a6.re b.a6.im) :: .raw (.complex .f64 b.a7.re b.a7.im) :: r)[8 + n]? = some (.raw (.complex .f64 (b.get n).re (b.get n).im)) := by
  rcases A8.cases hn with rfl | rfl | rfl | rfl | rfl | rfl | rfl | rfl <;> rfl
theorem sh_sS (a : A8 Bool) (r : List AV) (v : Bool) {n : Nat} (hn : n < 8) : (.raw (.bool a.a0) :: .raw (.bool a.a1) :: .raw (.bool a.a2) :: .raw (.bool a.a3) :: .raw (.bool a.a4) :: .raw (.bool a.a5) :: .raw (.bool a.a6) :: .raw (.bool a.a7) :: r).set n (.raw (.bool v)) = .raw (.bool (a.set n v).a0) :: .raw (.bool (a.set n v).a1) :: .raw (.bool (a.set n v).a2) :: .raw (.bool (a.set n v).a3) :: .raw (.bool (a.set n v).a4) :: .raw (.bool (a.set n v).a5) :: .raw (.bool (a.set n v).a6) :: .raw (.bool (a.set n v).a7) :: r := by
  rcases A8.cases hn with rfl | rfl | rfl | rfl | rfl | rfl | rfl | rfl <;> rfl
theorem sh_sR (c0 c1 c2 c3 c4 c5 c6 c7 : AV) (b : A8 C128) (r : List AV) (x y : Nat) {n : Nat} (hn : n < 8) : (c0 :: c1 :: c2 :: c3 :: c4 :: c5 :: c6 :: c7 :: .raw (.complex .f64 b.a0.re b.a0.im) :: .raw (.complex .f64 b.a1.re b.a1.im) :: .raw (.complex .f64 b.a2.re b.a2.im) :: .raw (.complex .f64 b.a3.re b.a3.im) :: .raw (.complex .f64 b.a4.re b.a4.im) :: .raw (.complex .f64 b.a5.re b.a5.im) :: .raw (.complex .f64 b.a6.re b.a6.im) :: .raw (.complex .f64 b.a7.re b.a7.im) :: r).set (8 + n) (.raw (.complex .f64 x y)) = c0 :: c1 :: c2 :: c3 :: c4 :: c5 :: c6 :: c7 :: .raw (.complex .f64 (b.set n ⟨x, y⟩).a0.re (b.set n ⟨x, y⟩).a0.im) :: .raw (.complex .f64 (b.set n ⟨x, y⟩).a1.re (b.set n ⟨x, y⟩).a1.im) :: .raw (.complex .f64 (b.set n ⟨x, y⟩).a2.re (b.set n ⟨x, y⟩).a2.im) :: .raw (.complex .f64 (b.set n ⟨x, y⟩).a3.re (b.set n ⟨x, y⟩).a3.im) :: .raw (.complex .f64 (b.set n ⟨x, y⟩).a4.re (b.set n ⟨x, y⟩).a4.im) :: .raw (.complex .f64 (b.set n ⟨x, y⟩).a5.re (b.set n ⟨x, y⟩).a5.im) :: .raw (.complex .f64 (b.set n ⟨x, y⟩).a6.re (b.set n ⟨x, y⟩).a6.im) :: .raw (.complex .f64 (b.set n ⟨x, y⟩).a7.re (b.set n ⟨x, y⟩).a7.im) :: r := by
  rcases A8.cases hn with rfl | rfl | rfl | rfl | rfl | rfl | rfl | rfl <;> rfl
def tabf (l : List (Nat × Nat)) (k : Nat) : Nat := (look l k).getD k
def tabi (l : List (Nat × Nat)) : List (Nat × Nat) := l.map fun p => (p.2, p.1)
def tabc (l : List (Nat × Nat)) : Bool := l.all fun p => tabf (tabi l) p.2 == p.1 && tabf l p.1 == p.2 && (look l p.2).isSome && (look (tabi l) p.1).isSome
theorem look_mem {α : Type} {l : List (Nat × α)} {k : Nat} {v : α} (h : look l k = some v) : (k, v) ∈ l := by
  induction l with
  | nil => cases h
  | cons p l ih =>
    obtain ⟨j, u⟩ := p
    simp only [look] at h
    split at h
    · rename_i e
      injection h with h
      rw [e, h]
      exact List.mem_cons_self
    · exact List.mem_cons_of_mem _ (ih h)
theorem Bij.tab {l : List (Nat × Nat)} (h : tabc l = true) : Bij (tabf l) (tabf (tabi l)) := by
  have key : ∀ p ∈ l, (tabf (tabi l) p.2 = p.1 ∧ tabf l p.1 = p.2) ∧ (look l p.2).isSome = true ∧ (look (tabi l) p.1).isSome = true := by
    intro p hp
    have := (List.all_eq_true.1 h) p hp
    simp only [Bool.and_eq_true, beq_iff_eq] at this
    exact ⟨⟨this.1.1.1, this.1.1.2⟩, this.1.2, this.2⟩
  constructor
  · intro k
    cases hl : look l k with
    | some v =>
      have e : tabf l k = v := by simp [tabf, hl]
      rw [e]
      exact (key _ (look_mem hl)).1.1
    | none =>
      have e : tabf l k = k := by simp [tabf, hl]
      rw [e]
      cases hi : look (tabi l) k with
      | none => simp [tabf, hi]
      | some u =>
        obtain ⟨q, hq, e2⟩ := List.mem_map.1 (look_mem hi)
        injection e2 with e3 e4
        have := (key q hq).2.1
        rw [e3, hl] at this
        cases this
  · intro k
    cases hi : look (tabi l) k with
    | some u =>
      have e : tabf (tabi l) k = u := by simp [tabf, hi]
      rw [e]
      obtain ⟨q, hq, e2⟩ := List.mem_map.1 (look_mem hi)
      injection e2 with e3 e4
      have := (key q hq).1.2
      rw [e4, e3] at this
      exact this
    | none =>
      have e : tabf (tabi l) k = k := by simp [tabf, hi]
      rw [e]
      cases hl : look l k with
      | none => simp [tabf, hl]
      | some v =>
        have := (key _ (look_mem hl)).2.2
        rw [hi] at this
        cases this
attribute [push_cast] tabf tabi
theorem maxI_un (a b : Int) : maxI a b = if b > a then b else a := rfl
theorem minI_un (a b : Int) : minI a b = if b < a then b else a := rfl
attribute [push_cast] maxI_un minI_un
attribute [push_cast] enc_Shape sh_gS sh_gR sh_sS sh_sR
noncomputable def Qe (i_3 : Int) (s_4 : T_Shape) : Option ((T_Shape × Int) ⊕ ((T_Shape) ⊕ (Bool))) :=
  some (Sum.inl (s_4, (IntKind.i64.wrap (i_3 + 1))))
noncomputable def Lh (a0 : T_Shape) (s_2 : T_Shape) (i_3 : Int) : Option ((T_Shape × Int) ⊕ ((T_Shape) ⊕ (Bool))) :=
  cond (decide (i_3 < 8)) (
  pm (
  pg (0 ≤ i_3 ∧ i_3 < 8) <|
  cond (!(a0.Set.get i_3.toNat)) (
  pl (s_2.R.set i_3.toNat (C128.mk 0 0)) fun y7 =>
  some (Sum.inl (T_Shape.mk s_2.Set y7))) (
  po (Fh (a0.R.get i_3.toNat)) fun r8 =>
  cond (!r8) (
  some (Sum.inr (Sum.inr (Sum.inr false)))) (
  some (Sum.inl s_2)))) (fun x => Qe i_3 x)) (
  some (Sum.inr (Sum.inl s_2)))
noncomputable def Nu (a0 : T_Shape) (s_7 : T_Shape) : Option (Bool) :=
  some ((ceq s_7.R.a0 a0.R.a0) && ((ceq s_7.R.a1 a0.R.a1) && ((ceq s_7.R.a2 a0.R.a2) && ((ceq s_7.R.a3 a0.R.a3) && ((ceq s_7.R.a4 a0.R.a4) && ((ceq s_7.R.a5 a0.R.a5) && ((ceq s_7.R.a6 a0.R.a6) && (ceq s_7.R.a7 a0.R.a7))))))))
noncomputable def Df (a0 : T_Shape) : Option (Bool) :=
  pm (
  lpU (fun x => Lh a0 x.1 x.2) (a0, 0)) (fun x => Nu a0 x)
theorem Ha {a0 : T_Shape} {r : Bool} (h : Df a0 = some r) : Ctr prog 206 [.agg (enc_Shape a0)] [] (rb r) [] := by
 unfold Df at h;refine Ctr.ofW tabOk func206 rfl call206 0 _ ntmps206 [.tmp 2] rfl rfl rfl (fun B => ?_);refine vs [1] (fun K hK => ?_);push_cast;apply hK;clear hK K;refine vs [1,3] (fun K hK => ?_);push_cast;apply hK;clear hK K;refine vm h (fun x => ⟨[(1,.ref 0 0),(3,.ref 3 0)],[(0,.box 217 (enc_Shape a0)),(3,.box 217 (enc_Shape x))],23,29,0⟩) (fun v1 h hk1 => ?_) ?_
 ·refine vs [1,3,6] (fun K hK => ?_);push_cast;apply hK;clear hK K;refine VC.block ?_;refine VC.loopP h (fun x => ⟨[(1,.ref 0 0),(3,.ref 3 0),(6,ri x.2)],[(0,.box 217 (enc_Shape a0)),(3,.box 217 (enc_Shape x.1))],22,29,0⟩) ?_ ?_
  ·exact sl (by push_cast)
  rintro ⟨s_2,i_3⟩ b2 (h : Lh a0 s_2 i_3 = some b2) hf2;(try push_cast);unfold Lh at h;refine vs [1,3,6,7] (fun K hK => ?_);push_cast;apply hK;clear hK K;refine VC.seq ?_;refine vc h (fun hb3 h => ?_) (fun hb3 h => ?_)
  ·refine VC.skip ?_;refine vm h (fun x => ⟨[(1,.ref 0 0),(3,.ref 3 0),(6,ri i_3)],[(0,.box 217 (enc_Shape a0)),(3,.box 217 (enc_Shape x))],36,29,0⟩) (fun v4 h hk4 => ?_) ?_
   ·refine VC.block ?_;refine vs [1,3,4,6] (fun K hK => ?_);push_cast;apply hK;clear hK K;obtain ⟨hg5,h⟩ := pg_some h;have hg5n : i_3.toNat < 8 := by omega
    refine vs [1,3,4,6,13] (fun K hK => ?_);push_cast [hg5,hg5n];(repeat refine ao ?_);apply hK;clear hK K;refine vc h (fun hb6 h => ?_) (fun hb6 h => ?_)
    ·obtain ⟨y7,hy7,h⟩ := pl_some h;refine vl (fun K hK => ?_);push_cast [hg5n];(repeat refine ao ?_);apply hK;clear hK K;refine am h hk4 ?_;exact sl (by push_cast [hb3,hb6,hy7])
    ·obtain ⟨r8,hr8,h⟩ := po_some h;refine vs [1,3,6,22] (fun K hK => ?_);push_cast [hg5n];(repeat refine ao ?_);refine cp (Pr hr8) ?_;push_cast [hg5n];(repeat refine ao ?_);apply hK;clear hK K;refine vc h (fun hb9 h => ?_) (fun hb9 h => ?_)
     ·refine vs [2] (fun K hK => ?_);push_cast;apply hK;clear hK K;refine VC.ret ?_;replace h := om h hk4;replace h := ol h hf2;replace h := om h hk1;replace h := Option.some.inj h;subst h;exact en (by push_cast [hb3,hb6,hb9])
     ·refine VC.skip ?_;refine am h hk4 ?_;exact sl (by push_cast [hb3,hb6,hb9])
   ·rintro s_4 (h : Qe i_3 s_4 = some b2);(try push_cast);unfold Qe at h;refine vl (fun K hK => ?_);push_cast;apply hK;clear hK K;refine bk h ?_;exact sl (by push_cast [hb3])
  ·refine VC.exit ?_;replace h := ol h hf2;refine am h hk1 ?_;exact sl (by push_cast [hb3])
 ·rintro s_7 (h : Nu a0 s_7 = some r);(try push_cast);unfold Nu at h;refine vs [2] (fun K hK => ?_);push_cast;apply hK;clear hK K;refine VC.ret ?_;replace h := Option.some.inj h;subst h;exact en (by push_cast)
noncomputable def Ez (a0 : UInt32) (a1 : UInt32) : Option (C128) :=
  pl ((min32 a0 a1).toUInt64) fun c1 =>
  pl ((max32 a0 a1).toUInt64) fun c2 =>
  po (Ah (T_bounds_span.mk c1 c2)) fun r3 =>
  some r3
theorem Og {a0 : UInt32} {a1 : UInt32} {r : C128} (h : Ez a0 a1 = some r) : Ctr prog 205 [ru a0, ru a1] [] (.raw (.complex .f64 r.re r.im)) [] := by
 unfold Ez at h;refine Ctr.ofW tabOk func205 rfl call205 0 _ ntmps205 [.tmp 4] rfl rfl rfl (fun B => ?_);refine vs [0,1] (fun K hK => ?_);push_cast;apply hK;clear hK K;obtain ⟨c1,hc1,h⟩ := pl_some h;have hc1i : (((min32 a0 a1).toUInt64).toNat : Int) = (c1.toNat : Int) := by rw [hc1]
 push_cast at hc1i;obtain ⟨c2,hc2,h⟩ := pl_some h;have hc2i : (((max32 a0 a1).toUInt64).toNat : Int) = (c2.toNat : Int) := by rw [hc2]
 push_cast at hc2i;obtain ⟨r3,hr3,h⟩ := po_some h;refine vs [4] (fun K hK => ?_);refine runOps_cut 8 (fun K2 hK2 => ?_);push_cast [hc1i,hc2i];(repeat refine ao ?_);refine hK2 _ _ ?_;clear hK2 K2;simp only [List.drop_succ_cons,List.drop_zero];push_cast [hc1i,hc2i];(repeat refine ao ?_);refine cp (Au hr3) ?_;push_cast [hc1i,hc2i];(repeat refine ao ?_);apply hK;clear hK K;refine VC.ret ?_;replace h := Option.some.inj h;subst h;exact en (by push_cast [hc1i,hc2i])
noncomputable def Km : Option (C128) :=
  po (Ez 0 4294967295) fun r1 =>
  some r1
theorem Sh {r : C128} (h : Km = some r) : Ctr prog 173 [] [] (.raw (.complex .f64 r.re r.im)) [] := by
 unfold Km at h;refine Ctr.ofW tabOk func173 rfl call173 0 _ ntmps173 [.tmp 0] rfl rfl rfl (fun B => ?_);refine vs [] (fun K hK => ?_);push_cast;apply hK;clear hK K;obtain ⟨r1,hr1,h⟩ := po_some h;refine vs [0] (fun K hK => ?_);push_cast;refine cp (Og hr1) ?_;push_cast;apply hK;clear hK K;refine VC.ret ?_;replace h := Option.some.inj h;subst h;exact en (by push_cast)
noncomputable def Oj (i_1 : Bool) : Option (Bool) :=
  some i_1
noncomputable def Kb (a0 : Int) : Option (Bool) :=
  po (
  cond (decide (a0 ≥ 0)) (
  some (decide (a0 < 8))) (
  some false)) (fun x => Oj x)
theorem Uk {a0 : Int} {r : Bool} (h : Kb a0 = some r) : Ctr prog 229 [ri a0] [] (rb r) [] := by
 unfold Kb at h;refine Ctr.ofW tabOk func229 rfl call229 0 _ ntmps229 [.tmp 2] rfl rfl rfl (fun B => ?_);refine vs [0] (fun K hK => ?_);push_cast;apply hK;clear hK K;refine vj h (fun x => ⟨[(2,rb x)],[],8,9,0⟩) (fun v1 h hk1 => ?_) ?_
 ·rcases Bool.eq_false_or_eq_true (decide (a0 ≥ 0)) with hb2 | hb2
  ·replace h := cond_yes hb2 h;refine vlG [some 3,some 4,some 5,some 6,some 7,some 8,some 2] (fun K hK => ?_);push_cast [hb2];(repeat refine ao ?_);apply hK;clear hK K;refine ar h hk1 ?_;exact sl (by push_cast [hb2])
  ·replace h := cond_no hb2 h;refine vlG [some 3,some 4,some 5,some 6,some 7,some 8,some 2] (fun K hK => ?_);push_cast [hb2];(repeat refine ao ?_);apply hK;clear hK K;refine ar h hk1 ?_;exact sl (by push_cast [hb2])
 ·rintro i_1 (h : Oj i_1 = some r);(try push_cast);unfold Oj at h;refine VC.ret ?_;replace h := Option.some.inj h;subst h;exact en (by push_cast)
noncomputable def Kz (a0 : T_Shape) (a1 : Int) (i_1 : C128) : Option (T_Shape) :=
  pg (0 ≤ a1 ∧ a1 < 8) <|
  pl (a0.Set.set a1.toNat true) fun y10 =>
  pl (a0.R.set a1.toNat i_1) fun y11 =>
  some (T_Shape.mk y10 y11)
noncomputable def Ey (a0 : T_Shape) (a1 : Int) (a2 : C128) : Option (T_Shape) :=
  pm (
  po (Df a0) fun r2 =>
  cond (!r2) (
  some (Sum.inr (T_Shape.mk (A8.mk false false false false false false false false) (A8.mk (C128.mk 0 0) (C128.mk 0 0) (C128.mk 0 0) (C128.mk 0 0) (C128.mk 0 0) (C128.mk 0 0) (C128.mk 0 0) (C128.mk 0 0))))) (
  po (Kb a1) fun r4 =>
  cond (!r4) (
  some (Sum.inr a0)) (
  po (Fh a2) fun r6 =>
  cond (!r6) (
  po (Km) fun r8 =>
  some (Sum.inl r8)) (
  some (Sum.inl a2))))) (fun x => Kz a0 a1 x)
theorem Ql {a0 : T_Shape} {a1 : Int} {a2 : C128} {r : T_Shape} (h : Ey a0 a1 a2 = some r) : Ctr prog 207 [.agg (enc_Shape a0), ri a1, .raw (.complex .f64 a2.re a2.im)] [] (.agg (enc_Shape r)) [] := by
 unfold Ey at h;refine Ctr.ofW tabOk func207 rfl call207 0 _ ntmps207 [.cell 6 217] rfl rfl rfl (fun B => ?_);refine vs [1,2,3,6] (fun K hK => ?_);push_cast;apply hK;clear hK K;refine vm h (fun x => ⟨[(1,ri a1),(2,.raw (.complex .f64 x.re x.im)),(3,.ref 0 0),(6,.ref 1 0)],[(0,.box 217 (enc_Shape a0)),(1,.box 217 (enc_Shape (T_Shape.mk (A8.mk false false false false false false false false) (A8.mk (C128.mk 0 0) (C128.mk 0 0) (C128.mk 0 0) (C128.mk 0 0) (C128.mk 0 0) (C128.mk 0 0) (C128.mk 0 0) (C128.mk 0 0)))))],16,30,0⟩) (fun v1 h hk1 => ?_) ?_
 ·refine VC.block ?_;obtain ⟨r2,hr2,h⟩ := po_some h;refine vs [1,2,3,6,7] (fun K hK => ?_);push_cast;refine cp (Ha hr2) ?_;push_cast;apply hK;clear hK K;refine vc h (fun hb3 h => ?_) (fun hb3 h => ?_)
  ·refine vs [6] (fun K hK => ?_);push_cast;apply hK;clear hK K;refine VC.ret ?_;replace h := om h hk1;replace h := Option.some.inj h;subst h;exact en (by push_cast [hb3,encA8])
  ·obtain ⟨r4,hr4,h⟩ := po_some h;refine vs [1,2,3,6,12] (fun K hK => ?_);push_cast;refine cp (Uk hr4) ?_;push_cast;apply hK;clear hK K;refine vc h (fun hb5 h => ?_) (fun hb5 h => ?_)
   ·refine vs [6] (fun K hK => ?_);push_cast;apply hK;clear hK K;refine VC.ret ?_;replace h := om h hk1;replace h := Option.some.inj h;subst h;exact en (by push_cast [hb3,hb5,encA8])
   ·obtain ⟨r6,hr6,h⟩ := po_some h;refine vs [1,2,3,6,17] (fun K hK => ?_);push_cast;refine cp (Pr hr6) ?_;push_cast;apply hK;clear hK K;refine vc h (fun hb7 h => ?_) (fun hb7 h => ?_)
    ·obtain ⟨r8,hr8,h⟩ := po_some h;refine vl (fun K hK => ?_);push_cast;refine cp (Sh hr8) ?_;push_cast;apply hK;clear hK K;refine am h hk1 ?_;exact sl (by push_cast [hb3,hb5,hb7])
    ·refine VC.skip ?_;refine am h hk1 ?_;exact sl (by push_cast [hb3,hb5,hb7])
 ·rintro i_1 (h : Kz a0 a1 i_1 = some r);(try push_cast);unfold Kz at h;obtain ⟨hg9,h⟩ := pg_some h;have hg9n : a1.toNat < 8 := by omega
  obtain ⟨y10,hy10,h⟩ := pl_some h;obtain ⟨y11,hy11,h⟩ := pl_some h;refine vs [3,6] (fun K hK => ?_);push_cast [hg9,hg9n];(repeat refine ao ?_);apply hK;clear hK K;refine vs [6] (fun K hK => ?_);push_cast;apply hK;clear hK K;refine VC.ret ?_;replace h := Option.some.inj h;subst h;exact en (by push_cast [hy10,hy11,encA8])
noncomputable def Mu (s_1 : T_Shape) (i_2 : Int) : Option ((T_Shape × Int) ⊕ (T_Shape)) :=
  cond (decide (i_2 < 5)) (
  pg (0 ≤ (IntKind.i64.wrap (i_2 + 1)) ∧ (IntKind.i64.wrap (i_2 + 1)) < 8) <|
  pl (s_1.Set.set ((IntKind.i64.wrap (i_2 + 1)).toNat) false) fun y7 =>
  pl (s_1.R.set ((IntKind.i64.wrap (i_2 + 1)).toNat) (C128.mk 0 0)) fun y8 =>
  some (Sum.inl ((T_Shape.mk y7 y8), (IntKind.i64.wrap (i_2 + 1))))) (
  some (Sum.inr s_1))
noncomputable def Mr (s_5 : T_Shape) : Option (T_Shape) :=
  po (Km) fun r9 =>
  po (Ey s_5 0 r9) fun r10 =>
  some r10
noncomputable def Ld (a0 : T_Shape) : Option (T_Shape) :=
  po (Df a0) fun r1 =>
  cond (!r1) (
  some (T_Shape.mk (A8.mk false false false false false false false false) (A8.mk (C128.mk 0 0) (C128.mk 0 0) (C128.mk 0 0) (C128.mk 0 0) (C128.mk 0 0) (C128.mk 0 0) (C128.mk 0 0) (C128.mk 0 0)))) (
  po (
  lpU (fun x => Mu x.1 x.2) (a0, 0)) (fun x => Mr x))
theorem Vg {a0 : T_Shape} {r : T_Shape} (h : Ld a0 = some r) : Ctr prog 220 [.agg (enc_Shape a0)] [] (.agg (enc_Shape r)) [] := by
 unfold Ld at h;refine Ctr.ofW tabOk func220 rfl call220 0 _ ntmps220 [.cell 2 217] rfl rfl rfl (fun B => ?_);refine vs [1,2] (fun K hK => ?_);push_cast;apply hK;clear hK K;refine VC.seq ?_;obtain ⟨r1,hr1,h⟩ := po_some h;refine vs [1,2,6] (fun K hK => ?_);push_cast;refine cp (Ha hr1) ?_;push_cast;apply hK;clear hK K;refine vc h (fun hb2 h => ?_) (fun hb2 h => ?_)
 ·refine vs [2] (fun K hK => ?_);push_cast;apply hK;clear hK K;refine VC.ret ?_;replace h := Option.some.inj h;subst h;exact en (by push_cast [hb2,encA8])
 ·refine VC.skip ?_;refine vj h (fun x => ⟨[(1,.ref 0 0),(2,.ref 1 0)],[(0,.box 217 (enc_Shape x)),(1,.box 217 (enc_Shape (T_Shape.mk (A8.mk false false false false false false false false) (A8.mk (C128.mk 0 0) (C128.mk 0 0) (C128.mk 0 0) (C128.mk 0 0) (C128.mk 0 0) (C128.mk 0 0) (C128.mk 0 0) (C128.mk 0 0)))))],22,23,0⟩) (fun v3 h hk3 => ?_) ?_
  ·refine vs [1,2,8] (fun K hK => ?_);push_cast;apply hK;clear hK K;refine VC.block ?_;refine VC.loopP h (fun x => ⟨[(1,.ref 0 0),(2,.ref 1 0),(8,ri x.2)],[(0,.box 217 (enc_Shape x.1)),(1,.box 217 (enc_Shape (T_Shape.mk (A8.mk false false false false false false false false) (A8.mk (C128.mk 0 0) (C128.mk 0 0) (C128.mk 0 0) (C128.mk 0 0) (C128.mk 0 0) (C128.mk 0 0) (C128.mk 0 0) (C128.mk 0 0)))))],21,23,0⟩) ?_ ?_
   ·exact sl (by push_cast [hb2])
   rintro ⟨s_1,i_2⟩ b4 (h : Mu s_1 i_2 = some b4) hf4;(try push_cast);unfold Mu at h;refine vs [1,2,8,9] (fun K hK => ?_);push_cast;apply hK;clear hK K;refine VC.seq ?_;refine vc h (fun hb5 h => ?_) (fun hb5 h => ?_)
   ·refine VC.skip ?_;refine VC.seq ?_;refine VC.block ?_;refine vs [1,2,3,8] (fun K hK => ?_);push_cast;apply hK;clear hK K;obtain ⟨hg6,h⟩ := pg_some h;have hg6n : (IntKind.i64.wrap (i_2 + 1)).toNat < 8 := by omega
    obtain ⟨y7,hy7,h⟩ := pl_some h;obtain ⟨y8,hy8,h⟩ := pl_some h;refine vl (fun K hK => ?_);push_cast [hg6,hg6n];(repeat refine ao ?_);apply hK;clear hK K;refine vl (fun K hK => ?_);push_cast;apply hK;clear hK K;refine bk h ?_;exact sl (by push_cast [hb2,hb5,hy7,hy8])
   ·refine VC.exit ?_;replace h := ol h hf4;refine ar h hk3 ?_;exact sl (by push_cast [hb2,hb5])
  ·rintro s_5 (h : Mr s_5 = some r);(try push_cast);unfold Mr at h;obtain ⟨r9,hr9,h⟩ := po_some h;obtain ⟨r10,hr10,h⟩ := po_some h;refine vsD [some 20,some 21,some 22,none] [2] (fun K hK => ?_);push_cast;refine cpD (Sh hr9) ?_;push_cast;refine cpD (Ql hr10) ?_;push_cast;refine ⟨rfl,hK _ ?_⟩;clear hK K;refine VC.ret ?_;replace h := Option.some.inj h;subst h;exact en (by push_cast [hb2,encA8])
noncomputable def Lj (a0 : T_Shape) (a1 : Int) (i_1 : Bool) : Option (C128 × Bool) :=
  cond i_1 (
  some ((C128.mk 0 0), false)) (
  pg (0 ≤ a1 ∧ a1 < 8) <|
  some ((a0.R.get a1.toNat), true))
noncomputable def Gz (a0 : T_Shape) (a1 : Int) : Option (C128 × Bool) :=
  po (
  po (Df a0) fun r2 =>
  cond r2 (
  po (Kb a1) fun r4 =>
  cond r4 (
  pg (0 ≤ a1 ∧ a1 < 8) <|
  some (!(a0.Set.get a1.toNat))) (
  some true)) (
  some true)) (fun x => Lj a0 a1 x)
theorem Wg {a0 : T_Shape} {a1 : Int} {r : C128 × Bool} (h : Gz a0 a1 = some r) : Ctr prog 232 [.agg (enc_Shape a0), ri a1] [] (.tup [.raw (.complex .f64 r.1.re r.1.im), rb r.2]) [] := by
 unfold Gz at h;refine Ctr.ofW tabOk func232 rfl call232 0 _ ntmps232 [.tmp 4,.tmp 5] rfl rfl rfl (fun B => ?_);refine vs [1,2] (fun K hK => ?_);push_cast;apply hK;clear hK K;refine VC.seq ?_;refine vj h (fun x => ⟨[(1,ri a1),(2,.ref 0 0),(20,rb x)],[(0,.box 217 (enc_Shape a0))],18,25,0⟩) (fun v1 h hk1 => ?_) ?_
 ·obtain ⟨r2,hr2,h⟩ := po_some h;rcases Bool.eq_false_or_eq_true r2 with hb3 | hb3
  ·replace h := cond_yes hb3 h;obtain ⟨r4,hr4,h⟩ := po_some h;rcases Bool.eq_false_or_eq_true r4 with hb5 | hb5
   ·replace h := cond_yes hb5 h;obtain ⟨hg6,h⟩ := pg_some h;have hg6n : a1.toNat < 8 := by omega
    refine vlG [some 6,some 7,some 8,some 9,some 10,some 11,some 12,some 13,some 14,some 15,some 16,some 17,some 18,some 19,some 20] (fun K hK => ?_);refine runOps_cut 8 (fun K2 hK2 => ?_);push_cast [hb3,hb5,hg6,hg6n];(repeat refine ao ?_);refine cp (Ha hr2) ?_;push_cast [hb3,hb5,hg6,hg6n];(repeat refine ao ?_);refine cp (Uk hr4) ?_;push_cast [hb3,hb5,hg6,hg6n];(repeat refine ao ?_);refine hK2 _ _ ?_;clear hK2 K2;simp only [List.drop_succ_cons,List.drop_zero];push_cast [hb3,hb5,hg6,hg6n];(repeat refine ao ?_);apply hK;clear hK K;refine ar h hk1 ?_;exact sl (by push_cast [hb3,hb5])
   ·replace h := cond_no hb5 h;refine vlG [some 6,some 7,some 8,some 9,some 10,some 11,some 12,some 13,some 14,some 15,some 16,some 17,some 18,some 19,some 20] (fun K hK => ?_);refine runOps_cut 8 (fun K2 hK2 => ?_);push_cast [hb3,hb5];(repeat refine ao ?_);refine cp (Ha hr2) ?_;push_cast [hb3,hb5];(repeat refine ao ?_);refine cp (Uk hr4) ?_;push_cast [hb3,hb5];(repeat refine ao ?_);refine hK2 _ _ ?_;clear hK2 K2;simp only [List.drop_succ_cons,List.drop_zero];push_cast [hb3,hb5];(repeat refine ao ?_);apply hK;clear hK K;refine ar h hk1 ?_;exact sl (by push_cast [hb3,hb5])
  ·replace h := cond_no hb3 h;refine vlG [some 6,some 7,some 8,some 9,some 10,some 11,some 12,some 13,some 14,some 15,some 16,some 17,some 18,some 19,some 20] (fun K hK => ?_);refine runOps_cut 8 (fun K2 hK2 => ?_);push_cast [hb3];(repeat refine ao ?_);refine cp (Ha hr2) ?_;push_cast [hb3];(repeat refine ao ?_);refine hK2 _ _ ?_;clear hK2 K2;simp only [List.drop_succ_cons,List.drop_zero];push_cast [hb3];(repeat refine ao ?_);apply hK;clear hK K;refine ar h hk1 ?_;exact sl (by push_cast [hb3])
 ·rintro i_1 (h : Lj a0 a1 i_1 = some r);(try push_cast);unfold Lj at h;refine vc h (fun hb7 h => ?_) (fun hb7 h => ?_)
  ·refine vs [4,5] (fun K hK => ?_);push_cast;apply hK;clear hK K;refine VC.ret ?_;replace h := Option.some.inj h;subst h;exact en (by push_cast [hb7])
  ·refine VC.skip ?_;obtain ⟨hg8,h⟩ := pg_some h;have hg8n : a1.toNat < 8 := by omega
   refine vs [4,5] (fun K hK => ?_);push_cast [hg8,hg8n];(repeat refine ao ?_);apply hK;clear hK K;refine VC.ret ?_;replace h := Option.some.inj h;subst h;exact en (by push_cast [hb7])
noncomputable def Hn (a0 : T_Shape) (a1 : T_Inst) (i_1 : Bool) : Option (C128 × Bool) :=
  cond i_1 (
  some ((C128.mk 0 0), false)) (
  cond a1.Reg (
  po (Gz a0 a1.Src) fun r7 =>
  some (r7.1, r7.2)) (
  po (Ez a1.Imm a1.Imm) fun r8 =>
  some (r8, true)))
noncomputable def Ji (a0 : T_Shape) (a1 : T_Inst) : Option (C128 × Bool) :=
  po (
  po (Df a0) fun r2 =>
  cond (!r2) (
  some (!r2)) (
  po (Gu a1) fun r4 =>
  some (!r4))) (fun x => Hn a0 a1 x)
theorem Yk {a0 : T_Shape} {a1 : T_Inst} {r : C128 × Bool} (h : Ji a0 a1 = some r) : Ctr prog 231 [.agg (enc_Shape a0), .agg (enc_Inst a1)] [] (.tup [.raw (.complex .f64 r.1.re r.1.im), rb r.2]) [] := by
 unfold Ji at h;refine Ctr.ofW tabOk func231 rfl call231 0 _ ntmps231 [.tmp 4,.tmp 5] rfl rfl rfl (fun B => ?_);refine vs [2,3] (fun K hK => ?_);push_cast;apply hK;clear hK K;refine VC.seq ?_;refine VC.block ?_;refine vj h (fun x => ⟨[(2,.ref 0 0),(3,.ref 1 0),(6,rb x)],[(0,.box 217 (enc_Shape a0)),(1,.box 37 (enc_Inst a1))],12,27,0⟩) (fun v1 h hk1 => ?_) ?_
 ·obtain ⟨r2,hr2,h⟩ := po_some h;refine vs [2,3,6] (fun K hK => ?_);push_cast;refine cp (Ha hr2) ?_;push_cast;apply hK;clear hK K;refine vc h (fun hb3 h => ?_) (fun hb3 h => ?_)
  ·refine VC.skip ?_;refine ar h hk1 ?_;exact sl (by push_cast [hb3])
  ·obtain ⟨r4,hr4,h⟩ := po_some h;refine vl (fun K hK => ?_);push_cast;refine cp (Un hr4) ?_;push_cast;apply hK;clear hK K;refine ar h hk1 ?_;exact sl (by push_cast [hb3])
 ·rintro i_1 (h : Hn a0 a1 i_1 = some r);(try push_cast);unfold Hn at h;refine vc h (fun hb5 h => ?_) (fun hb5 h => ?_)
  ·refine vs [4,5] (fun K hK => ?_);push_cast;apply hK;clear hK K;refine VC.ret ?_;replace h := Option.some.inj h;subst h;exact en (by push_cast [hb5])
  ·refine vs [2,3,13] (fun K hK => ?_);push_cast;apply hK;clear hK K;refine vc h (fun hb6 h => ?_) (fun hb6 h => ?_)
   ·obtain ⟨r7,hr7,h⟩ := po_some h;refine vs [4,5] (fun K hK => ?_);push_cast;refine cp (Wg hr7) ?_;push_cast;apply hK;clear hK K;refine VC.ret ?_;replace h := Option.some.inj h;subst h;exact en (by push_cast [hb5,hb6])
   ·refine VC.skip ?_;obtain ⟨r8,hr8,h⟩ := po_some h;refine vs [4,5] (fun K hK => ?_);push_cast;refine cp (Og hr8) ?_;push_cast;apply hK;clear hK K;refine VC.ret ?_;replace h := Option.some.inj h;subst h;exact en (by push_cast [hb5,hb6])
noncomputable def Gm (a0 : T_Shape) (a1 : T_Shape) (s_4 : T_Shape) (i_5 : Int) (i_6 : Bool) : Option (T_Shape) :=
  cond i_6 (
  pg (0 ≤ i_5 ∧ i_5 < 8) <|
  po (Jy (a0.R.get i_5.toNat) (a1.R.get i_5.toNat)) fun r15 =>
  po (Ey s_4 i_5 r15) fun r16 =>
  some r16) (
  some s_4)
noncomputable def Kj (i_5 : Int) (s_7 : T_Shape) : Option ((T_Shape × Int) ⊕ (T_Shape)) :=
  some (Sum.inl (s_7, (IntKind.i64.wrap (i_5 + 1))))
noncomputable def Hr (a0 : T_Shape) (a1 : T_Shape) (s_4 : T_Shape) (i_5 : Int) : Option ((T_Shape × Int) ⊕ (T_Shape)) :=
  cond (decide (i_5 < 8)) (
  po (
  po (
  pg (0 ≤ i_5 ∧ i_5 < 8) <|
  cond (a0.Set.get i_5.toNat) (
  some (a1.Set.get i_5.toNat)) (
  some false)) (fun x => Gm a0 a1 s_4 i_5 x)) (fun x => Kj i_5 x)) (
  some (Sum.inr s_4))
noncomputable def Nb (s_10 : T_Shape) : Option (T_Shape) :=
  some s_10
noncomputable def Hu (a0 : T_Shape) (a1 : T_Shape) (i_1 : Bool) : Option (T_Shape) :=
  cond i_1 (
  some (T_Shape.mk (A8.mk false false false false false false false false) (A8.mk (C128.mk 0 0) (C128.mk 0 0) (C128.mk 0 0) (C128.mk 0 0) (C128.mk 0 0) (C128.mk 0 0) (C128.mk 0 0) (C128.mk 0 0)))) (
  po (
  lpU (fun x => Hr a0 a1 x.1 x.2) ((T_Shape.mk (A8.mk false false false false false false false false) (A8.mk (C128.mk 0 0) (C128.mk 0 0) (C128.mk 0 0) (C128.mk 0 0) (C128.mk 0 0) (C128.mk 0 0) (C128.mk 0 0) (C128.mk 0 0))), 0)) (fun x => Nb x))
noncomputable def Jh (a0 : T_Shape) (a1 : T_Shape) : Option (T_Shape) :=
  po (
  po (Df a0) fun r2 =>
  cond r2 (
  po (Df a1) fun r4 =>
  some (!r4)) (
  some true)) (fun x => Hu a0 a1 x)
theorem Yh {a0 : T_Shape} {a1 : T_Shape} {r : T_Shape} (h : Jh a0 a1 = some r) : Ctr prog 174 [.agg (enc_Shape a0), .agg (enc_Shape a1)] [] (.agg (enc_Shape r)) [] := by
 unfold Jh at h;refine Ctr.ofW tabOk func174 rfl call174 0 _ ntmps174 [.cell 4 217] rfl rfl rfl (fun B => ?_);refine vs [2,3,4] (fun K hK => ?_);push_cast;apply hK;clear hK K;refine vs [2,3,4,5] (fun K hK => ?_);push_cast;apply hK;clear hK K;refine VC.seq ?_;refine vj h (fun x => ⟨[(2,.ref 0 0),(3,.ref 1 0),(4,.ref 2 0),(5,.ref 3 0),(14,rb x)],[(0,.box 217 (enc_Shape a0)),(1,.box 217 (enc_Shape a1)),(2,.box 217 (enc_Shape (T_Shape.mk (A8.mk false false false false false false false false) (A8.mk (C128.mk 0 0) (C128.mk 0 0) (C128.mk 0 0) (C128.mk 0 0) (C128.mk 0 0) (C128.mk 0 0) (C128.mk 0 0) (C128.mk 0 0))))),(3,.box 217 (enc_Shape (T_Shape.mk (A8.mk false false false false false false false false) (A8.mk (C128.mk 0 0) (C128.mk 0 0) (C128.mk 0 0) (C128.mk 0 0) (C128.mk 0 0) (C128.mk 0 0) (C128.mk 0 0) (C128.mk 0 0)))))],12,43,0⟩) (fun v1 h hk1 => ?_) ?_
 ·obtain ⟨r2,hr2,h⟩ := po_some h;rcases Bool.eq_false_or_eq_true r2 with hb3 | hb3
  ·replace h := cond_yes hb3 h;obtain ⟨r4,hr4,h⟩ := po_some h;refine vlG [some 7,some 8,some 9,some 10,some 11,some 12,some 13,some 14] (fun K hK => ?_);push_cast [hb3];(repeat refine ao ?_);refine cp (Ha hr2) ?_;push_cast [hb3];(repeat refine ao ?_);refine cp (Ha hr4) ?_;push_cast [hb3];(repeat refine ao ?_);apply hK;clear hK K;refine ar h hk1 ?_;exact sl (by push_cast [hb3])
  ·replace h := cond_no hb3 h;refine vlG [some 7,some 8,some 9,some 10,some 11,some 12,some 13,some 14] (fun K hK => ?_);push_cast [hb3];(repeat refine ao ?_);refine cp (Ha hr2) ?_;push_cast [hb3];(repeat refine ao ?_);apply hK;clear hK K;refine ar h hk1 ?_;exact sl (by push_cast [hb3])
 ·rintro i_1 (h : Hu a0 a1 i_1 = some r);(try push_cast);unfold Hu at h;refine vc h (fun hb5 h => ?_) (fun hb5 h => ?_)
  ·refine vs [4] (fun K hK => ?_);push_cast;apply hK;clear hK K;refine VC.ret ?_;replace h := Option.some.inj h;subst h;exact en (by push_cast [hb5,encA8])
  ·refine VC.skip ?_;refine vj h (fun x => ⟨[(4,.ref 2 0),(5,.ref 3 0)],[(2,.box 217 (enc_Shape (T_Shape.mk (A8.mk false false false false false false false false) (A8.mk (C128.mk 0 0) (C128.mk 0 0) (C128.mk 0 0) (C128.mk 0 0) (C128.mk 0 0) (C128.mk 0 0) (C128.mk 0 0) (C128.mk 0 0))))),(3,.box 217 (enc_Shape x))],42,43,0⟩) (fun v6 h hk6 => ?_) ?_
   ·refine vs [2,3,4,5,16] (fun K hK => ?_);push_cast;apply hK;clear hK K;refine VC.block ?_;refine VC.loopP h (fun x => ⟨[(2,.ref 0 0),(3,.ref 1 0),(4,.ref 2 0),(5,.ref 3 0),(16,ri x.2)],[(0,.box 217 (enc_Shape a0)),(1,.box 217 (enc_Shape a1)),(2,.box 217 (enc_Shape (T_Shape.mk (A8.mk false false false false false false false false) (A8.mk (C128.mk 0 0) (C128.mk 0 0) (C128.mk 0 0) (C128.mk 0 0) (C128.mk 0 0) (C128.mk 0 0) (C128.mk 0 0) (C128.mk 0 0))))),(3,.box 217 (enc_Shape x.1))],41,43,0⟩) ?_ ?_
    ·exact sl (by push_cast [hb5])
    rintro ⟨s_4,i_5⟩ b7 (h : Hr a0 a1 s_4 i_5 = some b7) hf7;(try push_cast);unfold Hr at h;refine vs [2,3,4,5,16,17] (fun K hK => ?_);push_cast;apply hK;clear hK K;refine VC.seq ?_;refine vc h (fun hb8 h => ?_) (fun hb8 h => ?_)
    ·refine VC.skip ?_;refine vj h (fun x => ⟨[(2,.ref 0 0),(3,.ref 1 0),(4,.ref 2 0),(5,.ref 3 0),(16,ri i_5)],[(0,.box 217 (enc_Shape a0)),(1,.box 217 (enc_Shape a1)),(2,.box 217 (enc_Shape (T_Shape.mk (A8.mk false false false false false false false false) (A8.mk (C128.mk 0 0) (C128.mk 0 0) (C128.mk 0 0) (C128.mk 0 0) (C128.mk 0 0) (C128.mk 0 0) (C128.mk 0 0) (C128.mk 0 0))))),(3,.box 217 (enc_Shape x))],67,43,0⟩) (fun v9 h hk9 => ?_) ?_
     ·refine VC.block ?_;refine vs [2,3,4,5,6,16] (fun K hK => ?_);push_cast;apply hK;clear hK K;refine vj h (fun x => ⟨[(2,.ref 0 0),(3,.ref 1 0),(4,.ref 2 0),(5,.ref 3 0),(6,ri i_5),(16,ri i_5),(28,rb x)],[(0,.box 217 (enc_Shape a0)),(1,.box 217 (enc_Shape a1)),(2,.box 217 (enc_Shape (T_Shape.mk (A8.mk false false false false false false false false) (A8.mk (C128.mk 0 0) (C128.mk 0 0) (C128.mk 0 0) (C128.mk 0 0) (C128.mk 0 0) (C128.mk 0 0) (C128.mk 0 0) (C128.mk 0 0))))),(3,.box 217 (enc_Shape s_4))],54,43,0⟩) (fun v10 h hk10 => ?_) ?_
      ·obtain ⟨hg11,h⟩ := pg_some h;have hg11n : i_5.toNat < 8 := by omega
       rcases Bool.eq_false_or_eq_true (a0.Set.get i_5.toNat) with hb12 | hb12
       ·replace h := cond_yes hb12 h;refine vlG [some 19,some 20,some 21,some 22,some 23,some 24,some 25,some 26,some 27,some 28] (fun K hK => ?_);push_cast [hg11,hg11n,hb12];(repeat refine ao ?_);apply hK;clear hK K;refine ar h hk10 ?_;exact sl (by push_cast [hb5,hb8,hb12])
       ·replace h := cond_no hb12 h;refine vlG [some 19,some 20,some 21,some 22,some 23,some 24,some 25,some 26,some 27,some 28] (fun K hK => ?_);push_cast [hg11,hg11n,hb12];(repeat refine ao ?_);apply hK;clear hK K;refine ar h hk10 ?_;exact sl (by push_cast [hb5,hb8,hb12])
      ·rintro i_6 (h : Gm a0 a1 s_4 i_5 i_6 = some v9);(try push_cast);unfold Gm at h;refine vc h (fun hb13 h => ?_) (fun hb13 h => ?_)
       ·obtain ⟨hg14,h⟩ := pg_some h;have hg14n : i_5.toNat < 8 := by omega
        obtain ⟨r15,hr15,h⟩ := po_some h;obtain ⟨r16,hr16,h⟩ := po_some h;refine vlD [some 29,some 30,some 31,some 32,some 33,some 34,some 35,some 36,some 37,some 38,some 39,some 40,none] (fun K hK => ?_);refine runD_cut 8 (fun K2 hK2 => ?_);push_cast [hg14,hg14n];(repeat refine ao ?_);refine hK2 _ _ _ ?_;clear hK2 K2;simp only [List.drop_succ_cons,List.drop_zero];push_cast [hg14,hg14n];(repeat refine ao ?_);refine cpD (Ya hr15) ?_;push_cast [hg14,hg14n];(repeat refine ao ?_);refine cpD (Ql hr16) ?_;push_cast [hg14,hg14n];(repeat refine ao ?_);refine ⟨rfl,hK _ ?_⟩;clear hK K;refine ar h hk9 ?_;exact sl (by push_cast [hb5,hb8,hb13])
       ·refine VC.skip ?_;refine ar h hk9 ?_;exact sl (by push_cast [hb5,hb8,hb13])
     ·rintro s_7 (h : Kj i_5 s_7 = some b7);(try push_cast);unfold Kj at h;refine vl (fun K hK => ?_);push_cast;apply hK;clear hK K;refine bk h ?_;exact sl (by push_cast [hb5,hb8])
    ·refine VC.exit ?_;replace h := ol h hf7;refine ar h hk6 ?_;exact sl (by push_cast [hb5,hb8])
   ·rintro s_10 (h : Nb s_10 = some r);(try push_cast);unfold Nb at h;refine vs [4] (fun K hK => ?_);push_cast;apply hK;clear hK K;refine VC.ret ?_;replace h := Option.some.inj h;subst h;exact en (by push_cast [hb5,encA8])
noncomputable def Li (a0 : Int) (s_2 : T_Shape) (i_3 : Int) : Option ((T_Shape × Int) ⊕ (T_Shape)) :=
  cond (decide (i_3 < a0)) (
  po (Km) fun r7 =>
  pg (0 ≤ (IntKind.i64.wrap (i_3 + 1)) ∧ (IntKind.i64.wrap (i_3 + 1)) < 8) <|
  pl (s_2.Set.set ((IntKind.i64.wrap (i_3 + 1)).toNat) true) fun y9 =>
  pl (s_2.R.set ((IntKind.i64.wrap (i_3 + 1)).toNat) r7) fun y10 =>
  some (Sum.inl ((T_Shape.mk y9 y10), (IntKind.i64.wrap (i_3 + 1))))) (
  some (Sum.inr s_2))
noncomputable def Nx (s_6 : T_Shape) : Option (T_Shape × Bool) :=
  some (s_6, true)
noncomputable def Iz (a0 : Int) (i_1 : Bool) : Option (T_Shape × Bool) :=
  cond i_1 (
  some ((T_Shape.mk (A8.mk false false false false false false false false) (A8.mk (C128.mk 0 0) (C128.mk 0 0) (C128.mk 0 0) (C128.mk 0 0) (C128.mk 0 0) (C128.mk 0 0) (C128.mk 0 0) (C128.mk 0 0))), false)) (
  po (
  lpU (fun x => Li a0 x.1 x.2) ((T_Shape.mk (A8.mk false false false false false false false false) (A8.mk (C128.mk 0 0) (C128.mk 0 0) (C128.mk 0 0) (C128.mk 0 0) (C128.mk 0 0) (C128.mk 0 0) (C128.mk 0 0) (C128.mk 0 0))), 0)) (fun x => Nx x))
noncomputable def Ko (a0 : Int) : Option (T_Shape × Bool) :=
  po (
  cond (decide (a0 < 0)) (
  some true) (
  some (decide (a0 > 4)))) (fun x => Iz a0 x)
theorem Yr {a0 : Int} {r : T_Shape × Bool} (h : Ko a0 = some r) : Ctr prog 128 [ri a0] [] (.tup [.agg (enc_Shape r.1), rb r.2]) [] := by
 unfold Ko at h;refine Ctr.ofW tabOk func128 rfl call128 0 _ ntmps128 [.cell 2 217,.tmp 3] rfl rfl rfl (fun B => ?_);refine vs [0,2] (fun K hK => ?_);push_cast;apply hK;clear hK K;refine vs [0,2,4] (fun K hK => ?_);push_cast;apply hK;clear hK K;refine VC.seq ?_;refine vj h (fun x => ⟨[(0,ri a0),(2,.ref 0 0),(4,.ref 2 0),(11,rb x)],[(0,.box 217 (enc_Shape (T_Shape.mk (A8.mk false false false false false false false false) (A8.mk (C128.mk 0 0) (C128.mk 0 0) (C128.mk 0 0) (C128.mk 0 0) (C128.mk 0 0) (C128.mk 0 0) (C128.mk 0 0) (C128.mk 0 0))))),(2,.box 217 (enc_Shape (T_Shape.mk (A8.mk false false false false false false false false) (A8.mk (C128.mk 0 0) (C128.mk 0 0) (C128.mk 0 0) (C128.mk 0 0) (C128.mk 0 0) (C128.mk 0 0) (C128.mk 0 0) (C128.mk 0 0)))))],9,28,0⟩) (fun v1 h hk1 => ?_) ?_
 ·rcases Bool.eq_false_or_eq_true (decide (a0 < 0)) with hb2 | hb2
  ·replace h := cond_yes hb2 h;refine vlG [some 6,some 7,some 8,some 9,some 10,some 11] (fun K hK => ?_);push_cast [hb2];(repeat refine ao ?_);apply hK;clear hK K;refine ar h hk1 ?_;exact sl (by push_cast [hb2])
  ·replace h := cond_no hb2 h;refine vlG [some 6,some 7,some 8,some 9,some 10,some 11] (fun K hK => ?_);push_cast [hb2];(repeat refine ao ?_);apply hK;clear hK K;refine ar h hk1 ?_;exact sl (by push_cast [hb2])
 ·rintro i_1 (h : Iz a0 i_1 = some r);(try push_cast);unfold Iz at h;refine vc h (fun hb3 h => ?_) (fun hb3 h => ?_)
  ·refine vs [2,3] (fun K hK => ?_);push_cast;apply hK;clear hK K;refine VC.ret ?_;replace h := Option.some.inj h;subst h;exact en (by push_cast [hb3,encA8])
  ·refine VC.skip ?_;refine vj h (fun x => ⟨[(2,.ref 0 0),(4,.ref 2 0)],[(0,.box 217 (enc_Shape (T_Shape.mk (A8.mk false false false false false false false false) (A8.mk (C128.mk 0 0) (C128.mk 0 0) (C128.mk 0 0) (C128.mk 0 0) (C128.mk 0 0) (C128.mk 0 0) (C128.mk 0 0) (C128.mk 0 0))))),(2,.box 217 (enc_Shape x))],28,28,0⟩) (fun v4 h hk4 => ?_) ?_
   ·refine vs [2,4,13,14] (fun K hK => ?_);push_cast;apply hK;clear hK K;refine VC.block ?_;refine VC.loopP h (fun x => ⟨[(2,.ref 0 0),(4,.ref 2 0),(13,ri a0),(14,ri x.2)],[(0,.box 217 (enc_Shape (T_Shape.mk (A8.mk false false false false false false false false) (A8.mk (C128.mk 0 0) (C128.mk 0 0) (C128.mk 0 0) (C128.mk 0 0) (C128.mk 0 0) (C128.mk 0 0) (C128.mk 0 0) (C128.mk 0 0))))),(2,.box 217 (enc_Shape x.1))],27,28,0⟩) ?_ ?_
    ·exact sl (by push_cast [hb3])
    rintro ⟨s_2,i_3⟩ b5 (h : Li a0 s_2 i_3 = some b5) hf5;(try push_cast);unfold Li at h;refine vs [2,4,13,14,15] (fun K hK => ?_);push_cast;apply hK;clear hK K;refine VC.seq ?_;refine vc h (fun hb6 h => ?_) (fun hb6 h => ?_)
    ·refine VC.skip ?_;refine VC.seq ?_;refine VC.block ?_;refine vs [2,4,5,13,14] (fun K hK => ?_);push_cast;apply hK;clear hK K;obtain ⟨r7,hr7,h⟩ := po_some h;obtain ⟨hg8,h⟩ := pg_some h;have hg8n : (IntKind.i64.wrap (i_3 + 1)).toNat < 8 := by omega
     obtain ⟨y9,hy9,h⟩ := pl_some h;obtain ⟨y10,hy10,h⟩ := pl_some h;refine vlD [some 17,some 18,some 19,some 20,some 21,some 22,some 23,none,some 24,some 25,none] (fun K hK => ?_);refine runD_cut 8 (fun K2 hK2 => ?_);push_cast [hg8,hg8n];(repeat refine ao ?_);refine cpD (Sh hr7) ?_;push_cast [hg8,hg8n];(repeat refine ao ?_);refine hK2 _ _ _ ?_;clear hK2 K2;simp only [List.drop_succ_cons,List.drop_zero];push_cast [hg8,hg8n];(repeat refine ao ?_);refine ⟨rfl,hK _ ?_⟩;clear hK K;refine vl (fun K hK => ?_);push_cast;apply hK;clear hK K;refine bk h ?_;exact sl (by push_cast [hb3,hb6,hy9,hy10])
    ·refine VC.exit ?_;replace h := ol h hf5;refine ar h hk4 ?_;exact sl (by push_cast [hb3,hb6])
   ·rintro s_6 (h : Nx s_6 = some r);(try push_cast);unfold Nx at h;refine vs [2,3] (fun K hK => ?_);push_cast;apply hK;clear hK K;refine VC.ret ?_;replace h := Option.some.inj h;subst h;exact en (by push_cast [hb3,encA8])
def Ok {α : Type} (x : Option α) (Q : α → Prop) : Prop := ∃ r, x = some r ∧ Q r
theorem Ok.mk {α : Type} {a : α} {Q : α → Prop} (h : Q a) : Ok (some a) Q := ⟨a, rfl, h⟩
theorem Ok.po {α β : Type} {x : Option α} {k : α → Option β} {P : α → Prop} {Q : β → Prop} (h : Ok x P) (hk : ∀ a, P a → Ok (k a) Q) : Ok (po x k) Q := by
  obtain ⟨a, rfl, ha⟩ := h
  exact hk a ha
theorem Ok.cond {α : Type} {c : Bool} {a b : Option α} {Q : α → Prop} (ha : c = true → Ok a Q) (hb : c = false → Ok b Q) : Ok (cond c a b) Q := by
  cases c
  · exact hb rfl
  · exact ha rfl
theorem Ok.pl {α β : Type} {a : α} {k : α → Option β} {Q : β → Prop} (h : Ok (k a) Q) : Ok (pl a k) Q := h
theorem Ok.pg {β : Type} {p : Prop} [Decidable p] {k : Option β} {Q : β → Prop} (hp : p) (h : Ok k Q) : Ok (pg p k) Q := by
  rw [pg_of hp]
  exact h
theorem Ok.pm {α β : Type} {x : Option (α ⊕ β)} {k : α → Option β} {P : α ⊕ β → Prop} {Q : β → Prop} (h : Ok x P) (hl : ∀ a, P (.inl a) → Ok (k a) Q) (hr : ∀ b, P (.inr b) → Q b) : Ok (pm x k) Q := by
  obtain ⟨a, rfl, ha⟩ := h
  cases a with
  | inl a => exact hl a ha
  | inr b => exact ⟨b, rfl, hr b ha⟩
theorem Ok.mono {α : Type} {x : Option α} {P Q : α → Prop} (h : Ok x P) (hq : ∀ a, P a → Q a) : Ok x Q := by
  obtain ⟨a, e, ha⟩ := h
  exact ⟨a, e, hq a ha⟩
theorem Ok.of {α : Type} {x : Option α} {a : α} {Q : α → Prop} (e : x = some a) (h : Q a) : Ok x Q := ⟨a, e, h⟩
theorem Ok.idx {α : Type} {l : List α} {i : Int} {n : Nat} (e : i = (n : Int)) (h : n < l.length) : Ok (idx l i) (fun a => l[n]? = some a ∧ a ∈ l) := by
  subst e
  exact ⟨l[n], by rw [idx_nat, List.getElem?_eq_getElem h], List.getElem?_eq_getElem h, List.getElem_mem h⟩
theorem Ok.at_ {α : Type} {l : List α} {n : Nat} (h : n < l.length) : Ok (l[n]?) (fun a => l[n]? = some a ∧ a ∈ l) := ⟨l[n], List.getElem?_eq_getElem h, List.getElem?_eq_getElem h, List.getElem_mem h⟩
theorem Ok.lp {σ ρ : Type} {step : σ → Option (σ ⊕ ρ)} {s0 : σ} {Q : ρ → Prop} (I : σ → Prop) (μ : σ → Nat) (h0 : I s0)
    (hs : ∀ s, I s → Ok (step s) fun r => match r with | .inl s' => I s' ∧ μ s' < μ s | .inr r => Q r) : Ok (lpU step s0) Q := by
  refine lp_inv I μ Q (fun s h => ?_) s0 h0
  obtain ⟨r, e, hr⟩ := hs s h
  cases r with
  | inl s' => exact .inl ⟨s', e, hr⟩
  | inr r => exact .inr ⟨r, e, hr⟩
def flN (m : Nat) (i : Int) : Nat := (m * 2 ^ i.toNat) / 2 ^ (-i).toNat
theorem cut_zero (neg : Bool) (n drop : Nat) : Ieee.Toward.zero.cut neg n drop = n / 2 ^ drop := by
  unfold Ieee.Toward.cut
  simp only [Bool.toNat_false, Nat.add_zero, Nat.one_shiftLeft]
  rcases Nat.le_total drop (n.log2 + 2) with h | h
  · rw [Nat.min_eq_left h]
  · rw [Nat.min_eq_right h]
    have h1 : n < 2 ^ (n.log2 + 2) := Nat.lt_of_lt_of_le (Nat.lt_log2_self) (Nat.pow_le_pow_right (by decide) (by omega))
    have h2 : n < 2 ^ drop := Nat.lt_of_lt_of_le h1 (Nat.pow_le_pow_right (by decide) h)
    rw [Nat.div_eq_of_lt h1, Nat.div_eq_of_lt h2]
theorem flN_shift {n : Nat} {i j : Int} (h : i ≤ j) : flN (n * 2 ^ (j - i).toNat) i = flN n j := by
  unfold flN
  by_cases hi : 0 ≤ i
  · have e1 : (-i).toNat = 0 := by omega
    have e2 : (-j).toNat = 0 := by omega
    have e3 : j.toNat = (j - i).toNat + i.toNat := by omega
    rw [e1, e2, e3, Nat.pow_add, Nat.mul_assoc]
  · have e1 : i.toNat = 0 := by omega
    by_cases hj : 0 ≤ j
    · have e2 : (-j).toNat = 0 := by omega
      have e3 : (j - i).toNat = j.toNat + (-i).toNat := by omega
      rw [e1, e2, e3, Nat.pow_add, ← Nat.mul_assoc, Nat.pow_zero, Nat.mul_one, Nat.div_one, Nat.mul_div_cancel _ (Nat.pow_pos (by decide))]
    · have e2 : j.toNat = 0 := by omega
      have e3 : (-i).toNat = (j - i).toNat + (-j).toNat := by omega
      rw [e1, e2, e3, Nat.pow_add, Nat.pow_zero, Nat.mul_one, Nat.mul_one, Nat.mul_comm (2 ^ (j - i).toNat), Nat.mul_div_mul_right _ _ (Nat.pow_pos (by decide))]
theorem flN_mono {m n : Nat} {i j : Int} (h : m * 2 ^ (i - min i j).toNat ≤ n * 2 ^ (j - min i j).toNat) : flN m i ≤ flN n j := by
  rw [← flN_shift (n := m) (i := min i j) (j := i) (by omega), ← flN_shift (n := n) (i := min i j) (j := j) (by omega)]
  unfold flN
  exact Nat.div_le_div_right (Nat.mul_le_mul_right _ h)
def NN (x : F64) (m : Nat) (i : Int) : Prop := ∃ s, FloatKind.f64.decode x = .number s m i ∧ (s = true → m = 0)
theorem read0 : FloatKind.f64.decode 0 = .number false 0 (-1074) := by decide
theorem readTop : FloatKind.f64.decode 4751297606873776128 = .number false 9007199252643840 (-21) := by decide
theorem signed_pos {s : Bool} {m k : Nat} (h : s = true → m = 0) : Ieee.signed s m k = ((m * 2 ^ k : Nat) : Int) := by
  unfold Ieee.signed
  cases s with
  | true => simp [h rfl]
  | false => simp [Nat.shiftLeft_eq]
theorem fge_nn {x : F64} (h : fge x 0 = true) : (∃ m i, NN x m i) ∨ FloatKind.f64.decode x = .infinity false := by
  unfold fge Ieee.Format.order at h
  change ((FloatKind.f64.decode x).order (FloatKind.f64.decode 0) == some .gt || (FloatKind.f64.decode x).order (FloatKind.f64.decode 0) == some .eq) = true at h
  rw [read0] at h
  cases hd : FloatKind.f64.decode x with
  | nan a b => rw [hd] at h; simp [Ieee.Datum.order] at h
  | infinity s =>
    rw [hd] at h
    cases s with
    | true => simp [Ieee.Datum.order] at h
    | false => exact .inr rfl
  | number s m i =>
    rw [hd] at h
    refine .inl ⟨m, i, s, hd, fun hs => ?_⟩
    subst hs
    refine Classical.byContradiction fun hm => ?_
    have hz : Ieee.signed false 0 ((-1074 : Int) - min i (-1074)).toNat = 0 := by simp [Ieee.signed]
    have hneg : Ieee.signed true m (i - min i (-1074)).toNat < 0 := by
      unfold Ieee.signed
      rw [if_pos rfl, Nat.shiftLeft_eq]
      have : 0 < m * 2 ^ (i - min i (-1074)).toNat := Nat.mul_pos (Nat.pos_of_ne_zero hm) (Nat.pow_pos (by decide))
      omega
    have hc : compare (Ieee.signed true m (i - min i (-1074)).toNat) (Ieee.signed false 0 ((-1074 : Int) - min i (-1074)).toNat) = .lt := by
      rw [hz]
      exact Int.compare_eq_lt.2 hneg
    simp only [Ieee.Datum.order] at h
    rw [hc] at h
    simp at h
theorem fle_nn {x y : F64} {m n : Nat} {i j : Int} (hx : NN x m i) (hy : NN y n j) (h : fle x y = true) : flN m i ≤ flN n j := by
  obtain ⟨s, ex, hs⟩ := hx
  obtain ⟨t, ey, ht⟩ := hy
  unfold fle Ieee.Format.order at h
  change ((FloatKind.f64.decode x).order (FloatKind.f64.decode y) == some .lt || (FloatKind.f64.decode x).order (FloatKind.f64.decode y) == some .eq) = true at h
  rw [ex, ey] at h
  simp only [Ieee.Datum.order] at h
  rw [signed_pos hs, signed_pos ht] at h
  refine flN_mono ?_
  refine Classical.byContradiction fun hn => ?_
  have hc : compare ((m * 2 ^ (i - min i j).toNat : Nat) : Int) ((n * 2 ^ (j - min i j).toNat : Nat) : Int) = .gt := Int.compare_eq_gt.2 (by omega)
  rw [hc] at h
  simp at h
def FW (x : F64) (n : Nat) : Prop := ∃ m i, NN x m i ∧ n = flN m i ∧ n ≤ 4294967295
theorem fw_of {x : F64} (h1 : fge x 0 = true) (h2 : fle x 4751297606873776128 = true) : ∃ n, FW x n := by
  have top : NN 4751297606873776128 9007199252643840 (-21) := ⟨false, readTop, fun h => by cases h⟩
  rcases fge_nn h1 with ⟨m, i, h⟩ | h
  · exact ⟨flN m i, m, i, h, rfl, by have := fle_nn h top h2; have e : flN 9007199252643840 (-21) = 4294967295 := by decide
                                     omega⟩
  · unfold fle Ieee.Format.order at h2
    change ((FloatKind.f64.decode x).order (FloatKind.f64.decode 4751297606873776128) == some .lt || (FloatKind.f64.decode x).order (FloatKind.f64.decode 4751297606873776128) == some .eq) = true at h2
    rw [h, readTop] at h2
    simp [Ieee.Datum.order] at h2
theorem f2u_fw {x : F64} {n : Nat} (h : FW x n) : ∃ u : UInt64, f2u x = some u ∧ u.toNat = n := by
  obtain ⟨m, i, ⟨s, e, hs⟩, rfl, hn⟩ := h
  have h1 : f2i x .u64 = some (flN m i : Int) := by
    have hi : (FloatKind.f64.decode x).toInt .zero = some (flN m i : Int) := by
      rw [e]
      unfold Ieee.Datum.toInt Ieee.Datum.integral
      simp only [cut_zero, Nat.shiftLeft_eq]
      rw [signed_pos (fun q => by rw [hs q]; simp)]
      simp [flN]
    unfold f2i
    rw [hi]
    simp only
    have e1 : IntKind.min .u64 = 0 := by decide
    have e2 : IntKind.max .u64 = 18446744073709551615 := by decide
    rw [e1, e2, if_pos (by omega)]
  refine ⟨UInt64.ofInt (flN m i : Int), by unfold f2u; rw [h1]; rfl, ?_⟩
  unfold UInt64.ofInt
  rw [UInt64.toNat_ofNat']
  omega
theorem word_ok (x : F64) : Ok (Jw x) fun b => b = true → ∃ n, FW x n := by
  unfold Jw Lp
  refine .po (P := fun b => b = true → ∃ n, FW x n) (.cond (fun h1 => .cond (fun h2 => ?_) fun _ => .mk fun h => by cases h) fun _ => .mk fun h => by cases h) fun a h => .mk h
  obtain ⟨n, hn⟩ := fw_of h1 h2
  obtain ⟨u, e, _⟩ := f2u_fw hn
  rw [e]
  exact .mk fun _ => ⟨n, hn⟩
theorem bmay_ok (c : C128) : Ok (Fh c) fun b => b = true → ∃ n m, FW c.re n ∧ FW c.im m ∧ n ≤ m := by
  unfold Fh My
  refine .po (P := fun b => b = true → ∃ n m, FW c.re n ∧ FW c.im m ∧ n ≤ m) ?_ fun a h => .mk h
  refine .po (word_ok c.re) fun a ha => .cond (fun h1 => ?_) fun _ => .mk fun h => by cases h
  refine .po (word_ok c.im) fun b hb => .cond (fun h2 => ?_) fun _ => .mk fun h => by cases h
  refine .mk fun h3 => ?_
  obtain ⟨n, m, i, hx, hn, hn2⟩ := ha h1
  obtain ⟨k, m', i', hy, hk, hk2⟩ := hb h2
  refine ⟨n, k, ⟨m, i, hx, hn, hn2⟩, ⟨m', i', hy, hk, hk2⟩, ?_⟩
  rw [hn, hk]
  exact fle_nn hx hy h3
structure SpanOk (s : T_bounds_span) : Prop where
  le : s.low.toNat ≤ s.high.toNat
  top : s.high.toNat ≤ 4294967295
theorem bof_ok (c : C128) : Ok (Ai c) SpanOk := by
  unfold Ai
  refine .po (bmay_ok c) fun b hb => .cond (fun _ => ?_) fun h => ?_
  · exact ⟨_, rfl, ⟨by decide, by decide⟩⟩
  · obtain ⟨n, m, hn, hm, hle⟩ := hb (by simpa using h)
    obtain ⟨u, e1, hu⟩ := f2u_fw hn
    obtain ⟨v, e2, hv⟩ := f2u_fw hm
    rw [e1, e2]
    refine .mk ⟨by show u.toNat ≤ v.toNat; omega, ?_⟩
    obtain ⟨_, _, _, _, h4⟩ := hm
    show v.toNat ≤ _
    omega
theorem told_ok (s : T_bounds_span) : Ok (Ah s) fun _ => True := ⟨_, rfl, trivial⟩
theorem fit_ok (a b : UInt64) : Ok (Da a b) fun _ => True := by
  unfold Da Mz
  refine .po (P := fun _ => True) (.cond (fun _ => .mk trivial) fun _ => .mk trivial) fun i _ => .cond (fun _ => ⟨_, rfl, trivial⟩) fun _ => .mk trivial
theorem Of_ok (a b : UInt32) : Ok (Ez a b) fun _ => True := ⟨_, rfl, trivial⟩
theorem Ends_ok (c : C128) : Ok (Jz c) fun _ => True := by
  unfold Jz
  exact .po (bmay_ok c) fun b _ => .cond (fun _ => .mk trivial) fun _ => .po (bof_ok c) fun s _ => .mk trivial
theorem bJoin_ok (a b : C128) : Ok (Jy a b) fun _ => True := by
  unfold Jy
  exact .po (bof_ok a) fun s _ => .po (bof_ok b) fun t _ => ⟨_, rfl, trivial⟩
theorem power_ok {a b : UInt64} (ha : a.toNat ≤ 4294967295) (hb : b.toNat ≤ 4294967295) : Ok (Iy a b) fun _ => True := by
  unfold Iy Kt
  refine .po (P := fun _ => True) (.lp (fun s : UInt64 => 0 < s.toNat ∧ s.toNat ≤ 8589934592) (fun s => 8589934592 - s.toNat) ⟨by decide, by decide⟩ fun s hs => ?_) fun a _ => .mk trivial
  unfold Kw Kr
  refine .po (P := fun c => c = true → s.toNat ≤ 4294967295) (.cond (fun h => .mk fun _ => ?_) fun _ => .mk fun h => ?_) fun c hc => .cond (fun h => .mk ?_) fun _ => .mk trivial
  · have := of_decide_eq_true h
    omega
  · have := of_decide_eq_true h
    omega
  · have h1 := hc h
    have e : (s * 2).toNat = s.toNat * 2 := by
      rw [UInt64.toNat_mul]
      show s.toNat * 2 % _ = _
      omega
    show (0 < (s * 2).toNat ∧ (s * 2).toNat ≤ 8589934592) ∧ 8589934592 - (s * 2).toNat < 8589934592 - s.toNat
    omega
theorem Alu_ok (op : Int) (a b : C128) : Ok (Nd op a b) fun _ => True := by
  unfold Nd
  refine .po (P := fun c => c = false → 0 ≤ op ∧ op < 11) (.cond (fun _ => .mk fun h => by cases h) fun h1 => .mk fun h2 => ?_) fun c hc => ?_
  · have h1 := of_decide_eq_false h1
    have h2 := of_decide_eq_false h2
    omega
  unfold Mt
  have last : ∀ {f : T_bounds_span → T_bounds_span → Option T_bounds_span}, (∀ s t, SpanOk s → SpanOk t → Ok (f s t) fun _ => True) → Ok (po (Ai a) fun x => po (Ai b) fun y => po (f x y) fun z => po (Ah z) fun r => some r) fun _ => True := fun hf =>
    .po (bof_ok a) fun s hs => .po (bof_ok b) fun t ht => .po (hf s t hs ht) fun z _ => ⟨_, rfl, trivial⟩
  refine .cond (fun _ => .po (fit_ok _ _) fun z _ => ⟨_, rfl, trivial⟩) fun h => ?_
  have hop := hc h
  refine .po (P := fun _ => True) (.mk trivial) fun _ _ => ?_
  refine .cond (fun _ => last fun s t hs ht => ?_) fun h0 => .cond (fun _ => last fun s t hs ht => ?_) fun h1 => .cond (fun _ => last fun s t hs ht => ?_) fun h2 => .cond (fun _ => last fun s t hs ht => ?_) fun h3 => .cond (fun _ => last fun s t hs ht => ?_) fun h4 => .cond (fun _ => last fun s t hs ht => ?_) fun h5 => .cond (fun _ => last fun s t hs ht => ?_) fun h6 => .cond (fun _ => last fun s t hs ht => ?_) fun h7 => .cond (fun _ => last fun s t hs ht => ?_) fun h8 => .cond (fun _ => last fun s t hs ht => ?_) fun h9 => .cond (fun _ => last fun s t hs ht => ?_) fun h10 => ?_
  · exact ⟨_, rfl, trivial⟩
  · exact .po (fit_ok _ _) fun z _ => .mk trivial
  · unfold Mf
    exact .cond (fun _ => .po (fit_ok _ _) fun z _ => .mk trivial) fun _ => .mk trivial
  · exact .po (fit_ok _ _) fun z _ => .mk trivial
  · unfold Lz
    refine .cond (fun _ => .mk trivial) fun h => .pg ?_ (.pg ?_ (.mk trivial))
    all_goals
      have h : ¬ ((t.low.toNat : Int) = 0) := by simpa using h
      have := ht.le
      omega
  · unfold Lr
    exact .cond (fun _ => .mk trivial) fun _ => .cond (fun _ => .mk trivial) fun _ => ⟨_, rfl, trivial⟩
  · exact ⟨_, rfl, trivial⟩
  · exact .po (power_ok hs.top ht.top) fun z _ => .mk trivial
  · exact .po (power_ok hs.top ht.top) fun z _ => .mk trivial
  · unfold Kv
    exact .cond (fun _ => .po (fit_ok _ _) fun z _ => .mk trivial) fun _ => .po (fit_ok _ _) fun z _ => .mk trivial
  · unfold Ku
    exact .cond (fun _ => .mk trivial) fun _ => .mk trivial
  · exfalso
    simp only [beq_eq_false_iff_ne, ne_eq] at h0 h1 h2 h3 h4 h5 h6 h7 h8 h9 h10
    omega
theorem Cut_ok (c : Int) (a b : C128) : Ok (Nm c a b) fun _ => True := by
  unfold Nm
  refine .po (bof_ok a) fun s hs => .po (bof_ok b) fun t ht => .po (P := fun _ => True) ?_ fun x _ => ?_
  · refine .cond (fun _ => .mk trivial) fun _ => .cond (fun _ => ?_) fun _ => .cond (fun _ => .cond (fun _ => ⟨_, rfl, trivial⟩) fun _ => .mk trivial) fun _ => .cond (fun _ => .mk trivial) fun _ => .mk trivial
    refine .po (P := fun _ => True) (.cond (fun _ => .cond (fun _ => .mk trivial) fun _ => .mk trivial) fun _ => .mk trivial) fun _ _ => ?_
    unfold Mx
    refine .cond (fun _ => .mk trivial) fun _ => .po (P := fun _ => True) (.cond (fun _ => .mk trivial) fun _ => .mk trivial) fun _ _ => ?_
    unfold Lu
    refine .cond (fun _ => .mk trivial) fun _ => .po (P := fun _ => True) (.cond (fun _ => .mk trivial) fun _ => .mk trivial) fun _ _ => ?_
    unfold Lx
    exact .cond (fun _ => .mk trivial) fun _ => .mk trivial
  · unfold Na Ll
    exact .po (P := fun _ => True) (.cond (fun _ => .mk trivial) fun _ => .mk trivial) fun _ _ => .cond (fun _ => .po (fit_ok _ _) fun z _ => .po (told_ok z) fun _ _ => .mk trivial) fun _ => .po (told_ok _) fun _ _ => .mk trivial
theorem w1 {k : Nat} (h : k < 1000000) : IntKind.i64.wrap ((k : Int) + 1) = ((k + 1 : Nat) : Int) := w64 (by omega)
theorem sMay_ok (s : T_Shape) : Ok (Df s) fun _ => True := by
  unfold Df
  refine .pm (P := fun _ => True) ?_ (fun _ _ => ⟨_, rfl, trivial⟩) fun _ _ => trivial
  refine .lp (fun x => ∃ k : Nat, x.2 = (k : Int) ∧ k ≤ 8) (fun x => (8 - x.2).toNat) ⟨0, rfl, by omega⟩ ?_
  rintro ⟨u, i⟩ ⟨k, hk, hk8⟩
  simp only at hk
  subst hk
  unfold Lh
  refine .cond (fun h => ?_) fun _ => .mk trivial
  have h := of_decide_eq_true h
  refine .pm (P := fun r => match r with | .inl _ => True | .inr r => match r with | .inl _ => False | .inr _ => True) (.pg (by omega) (.cond (fun _ => ⟨_, rfl, trivial⟩) fun _ => .po (bmay_ok _) fun b _ => .cond (fun _ => .mk trivial) fun _ => .mk trivial)) (fun a _ => ?_) ?_
  · refine ⟨_, rfl, ⟨k + 1, w1 (by omega), by omega⟩, ?_⟩
    simp only [w1 (show k < 1000000 by omega)]
    omega
  · rintro (b | b) hb
    · exact hb.elim
    · exact trivial
theorem sin_ok (n : Int) : Ok (Kb n) fun b => b = true → 0 ≤ n ∧ n < 8 := by
  unfold Kb Oj
  refine .po (P := fun b => b = true → 0 ≤ n ∧ n < 8) (.cond (fun h => .mk fun h2 => ?_) fun _ => .mk fun h => by cases h) fun b hb => .mk hb
  have h := of_decide_eq_true h
  have h2 := of_decide_eq_true h2
  omega
theorem all_ok : Ok Km fun _ => True := ⟨_, rfl, trivial⟩
theorem sGet_ok (s : T_Shape) (n : Int) : Ok (Gz s n) fun _ => True := by
  unfold Gz Lj
  refine .po (P := fun b => b = false → 0 ≤ n ∧ n < 8) ?_ fun b hb => .cond (fun _ => .mk trivial) fun h => .pg (hb h) (.mk trivial)
  refine .po (sMay_ok s) fun b _ => .cond (fun _ => .po (sin_ok n) fun c hc => .cond (fun h => .pg (hc h) (.mk fun _ => hc h)) fun _ => .mk fun h => by cases h) fun _ => .mk fun h => by cases h
theorem sPut_ok (s : T_Shape) (n : Int) (b : C128) : Ok (Ey s n b) fun _ => True := by
  unfold Ey Kz
  refine .pm (P := fun r => match r with | .inl _ => 0 ≤ n ∧ n < 8 | .inr _ => True) ?_ (fun a h => .pg h ⟨_, rfl, trivial⟩) fun _ _ => trivial
  refine .po (sMay_ok s) fun m _ => .cond (fun _ => .mk trivial) fun _ => .po (sin_ok n) fun c hc => .cond (fun _ => .mk trivial) fun h => ?_
  have hn := hc (by simpa using h)
  exact .po (bmay_ok b) fun d _ => .cond (fun _ => .po all_ok fun _ _ => .mk hn) fun _ => .mk hn
theorem sWord_ok (s : T_Shape) (i : T_Inst) : Ok (Ji s i) fun _ => True := by
  unfold Ji Hn
  refine .po (P := fun _ => True) (.po (sMay_ok s) fun b _ => .cond (fun _ => .mk trivial) fun _ => ?_) fun b _ => .cond (fun _ => .mk trivial) fun _ => .cond (fun _ => .po (sGet_ok s _) fun _ _ => .mk trivial) fun _ => .po (Of_ok _ _) fun _ _ => .mk trivial
  obtain ⟨c, e, _⟩ := instMay_tells i
  rw [e]
  exact .mk trivial
theorem sBack_ok (s : T_Shape) : Ok (Ld s) fun _ => True := by
  unfold Ld
  refine .po (sMay_ok s) fun b _ => .cond (fun _ => .mk trivial) fun _ => ?_
  refine .po (P := fun _ => True) (.lp (fun x => ∃ k : Nat, x.2 = (k : Int) ∧ k ≤ 5) (fun x => (5 - x.2).toNat) ⟨0, rfl, by omega⟩ ?_) fun t _ => ?_
  · rintro ⟨u, i⟩ ⟨k, hk, hk8⟩
    simp only at hk
    subst hk
    unfold Mu
    refine .cond (fun h => ?_) fun _ => .mk trivial
    have h := of_decide_eq_true h
    rw [w1 (show k < 1000000 by omega)]
    refine .pg (by omega) ⟨_, rfl, ⟨k + 1, rfl, by omega⟩, ?_⟩
    simp only
    omega
  · unfold Mr
    exact .po all_ok fun c _ => .po (sPut_ok t 0 c) fun _ _ => .mk trivial
theorem sJoin_ok (s t : T_Shape) : Ok (Jh s t) fun _ => True := by
  unfold Jh
  refine .po (P := fun _ => True) (.po (sMay_ok s) fun b _ => .cond (fun _ => .po (sMay_ok t) fun _ _ => .mk trivial) fun _ => .mk trivial) fun b _ => ?_
  unfold Hu
  refine .cond (fun _ => .mk trivial) fun _ => .po (P := fun _ => True) (.lp (fun x => ∃ k : Nat, x.2 = (k : Int) ∧ k ≤ 8) (fun x => (8 - x.2).toNat) ⟨0, rfl, by omega⟩ ?_) fun t _ => .mk trivial
  rintro ⟨u, i⟩ ⟨k, hk, hk8⟩
  simp only at hk
  subst hk
  unfold Hr
  refine .cond (fun h => ?_) fun _ => .mk trivial
  have h := of_decide_eq_true h
  refine .po (P := fun _ => True) (.po (P := fun _ => True) (.pg (by omega) (.cond (fun _ => .mk trivial) fun _ => .mk trivial)) fun c _ => ?_) fun x _ => ?_
  · unfold Gm
    exact .cond (fun _ => .pg (by omega) (.po (bJoin_ok _ _) fun d _ => .po (sPut_ok _ _ _) fun _ _ => .mk trivial)) fun _ => .mk trivial
  · unfold Kj
    rw [w1 (show k < 1000000 by omega)]
    refine .mk ⟨⟨k + 1, rfl, by omega⟩, ?_⟩
    simp only
    omega
theorem sNew_ok (a : Int) : Ok (Ko a) fun _ => True := by
  unfold Ko
  refine .po (P := fun c => c = false → 0 ≤ a ∧ a ≤ 4) (.cond (fun _ => .mk fun h => by cases h) fun h1 => .mk fun h2 => ?_) fun c hc => ?_
  · have h1 := of_decide_eq_false h1
    have h2 := of_decide_eq_false h2
    omega
  unfold Iz
  refine .cond (fun _ => .mk trivial) fun h => .po (P := fun _ => True) (.lp (fun x => ∃ k : Nat, x.2 = (k : Int) ∧ k ≤ 8) (fun x => (8 - x.2).toNat) ⟨0, rfl, by omega⟩ ?_) fun t _ => .mk trivial
  have ha := hc h
  rintro ⟨u, i⟩ ⟨k, hk, hk8⟩
  simp only at hk
  subst hk
  unfold Li
  refine .cond (fun h => ?_) fun _ => .mk trivial
  have h := of_decide_eq_true h
  refine .po all_ok fun c _ => ?_
  rw [w1 (show k < 1000000 by omega)]
  refine .pg (by omega) ⟨_, rfl, ⟨k + 1, rfl, by omega⟩, ?_⟩
  simp only
  omega
theorem IR.zero {I : World → (Nat → Prop) → Prop} {s : St} {a : Act} {W : World} (h : IR I s a W) (ht : (s.tm.all fun p => p.2.in3 (Hp.has [])) = true) : IR I ⟨s.tm, [], 0, s.nt, 0⟩ a W := by
  obtain ⟨own, x, h1, h2, hC, h3⟩ := h
  have hS : SubH [] ([] : Hp) := fun id o h => h
  have hno : ∀ id g, ¬ (x.only (Hp.has [])).dom id g := fun id g h => by
    have := h.2
    simp [Hp.has, look] at this
  exact ⟨own, x.only (Hp.has []), h1, h2, ⟨hC.h.sub hS (Hp.has []) fun id o h => by simp [look] at h, fun t u hu => ((hC.t t u hu).in3_ (look_all ht hu)).mono (Mo.sub hS), hC.n, hC.d, Tr.refl _ _ _, Mo.refl _ _ _, fun id g h => absurd h (hno id g), Nat.le_refl _, fun id g h => absurd h (hno id g)⟩, h3⟩
theorem YV.zero {P : Program} {c : Code} {Q : Exit → St → (World → (Nat → Prop) → Prop) → Prop} {s : St} {I : World → (Nat → Prop) → Prop} (ht : (s.tm.all fun p => p.2.in3 (Hp.has [])) = true) (h : YV P c Q ⟨s.tm, [], 0, s.nt, 0⟩ I) : YV P c Q s I := fun a W hI => h a W (hI.zero ht)
attribute [push_cast] runPre argOk gdOk
theorem itC_len {P : Program} {gf : Nat} {sz i off : Nat} {pre : List AV} {t : Bool} {els : List (List AV)} {rest : List AV} {us : List (List AV)} (h : els.length < 9223372036854775808 → ItC P gf [.dat sz [pre ++ .sl t els :: rest] 0 0] us) : ItC P gf [.dat sz [pre ++ .sl t els :: rest] 0 0] us := by
  intro W0 x0 lb hH hsz hrel
  refine h ?_ W0 x0 lb hH hsz hrel
  have hv := hrel 0 _ rfl
  generalize lb.getD 0 undef = v at hv
  cases hv with
  | dat h => cases h
  | datp els' i off sz a vals hok hsz hcell hd =>
    have := hd (pre ++ .sl t els :: rest) pre.length (.sl t els) rfl (by simp)
    generalize vals pre.length = q at this
    cases this with
    | sl _ _ A c sz vals hc hm ht hsz hA hcell hd => 
      unfold maxLen at hm
      omega
def backL {α : Type} (l : List α) : List Int := ((List.range l.length).reverse).map fun (i : Nat) => (i : Int)
def encBk (u : Int) : List AV := [ri u, .dead]
theorem backL_len {α : Type} (l : List α) : (backL l).length = l.length := by simp [backL]
theorem backL_at {α : Type} {l : List α} {n : Nat} (h : n < l.length) : (backL l)[l.length - (n + 1)]? = some (n : Int) := by
  unfold backL
  rw [List.getElem?_map, List.getElem?_reverse (by simp; omega)]
  simp only [List.length_range]
  rw [show l.length - 1 - (l.length - (n + 1)) = n by omega, List.getElem?_range h]
  rfl
theorem Pf (a : List T_Fn) : Ctr prog 131 [.sl false (a.map enc_Fn)] [] (.fn (.func 183) [] [.dat 1 [[.sl false (a.map enc_Fn)]] 0 0]) [] := by
  refine Ctr.ofW tabOk func131 rfl call131 0 _ ntmps131 [.tmp 2] rfl rfl rfl (fun B => ?_)
  refine vs [1] (fun K hK => ?_)
  push_cast
  refine hK _ ?_
  clear hK K
  refine VC.sub (Sub.freezeP (k := 1) rfl rfl rfl) ?_
  refine VC.sub (s' := ⟨[(1, .dat 1 [[.sl false (a.map enc_Fn)]] 0 0)], [], 2, 4, 0⟩) (so (by push_cast)) ?_
  refine vs [2] (fun K hK => ?_)
  push_cast
  refine hK _ ?_
  clear hK K
  refine VC.ret ?_
  exact en (by push_cast)
def bkS (l : Nat) (a : List T_Fn) (n : Nat) : St := ⟨[(0, .fn (.yield l) [] []), (1, .dat 1 [[.sl false (a.map enc_Fn)]] 0 0), (3, ri ((n : Int) - 1))], [], 0, 19, 0⟩
theorem it_slices_Backward_api_Fn_api_Fn (a : List T_Fn) : ItC prog 183 [.dat 1 [[.sl false (a.map enc_Fn)]] 0 0] ((backL a).map encBk) := by
  refine itC_len (pre := []) (rest := []) (i := 0) (off := 0) fun hlen => ?_
  simp only [List.length_map] at hlen
  have hul : ((backL a).map encBk).length = a.length := by rw [List.length_map, backL_len]
  refine ItC.of func183 rfl 19 ntmps183 rfl rfl rfl (fun l J Jx hJ hJx hJb hY => ?_)
  rw [hul]
  have hgx : GrowI (fun W (_ : Nat → Prop) => Jx W) := fun A A' own h hg => hJx A A' h hg
  refine YV.seq ?_
  refine YV.seg (hJ 0) (fun B => ?_)
  refine vl (fun K hK => ?_)
  have hw : IntKind.i64.wrap ((a.length : Int) - 1) = (a.length : Int) - 1 := wrap_i64 (by omega) (by omega)
  push_cast [hw]
  refine hK _ ?_
  clear hK K
  refine ⟨bkS l a a.length, so (by push_cast [bkS]), rfl, ?_⟩
  refine YV.block ?_
  refine YV.loop (bkS l a) (fun n => J (a.length - n)) (fun n => n ≤ a.length) (fun n => n) a.length (Nat.le_refl _) rfl (by rw [Nat.sub_self]) ?_
  intro n hn
  refine YV.seq ?_
  refine YV.seq ?_
  refine YV.seg (hJ _) (fun B => ?_)
  refine vl (fun K hK => ?_)
  push_cast [bkS]
  refine hK _ ?_
  clear hK K
  refine ⟨⟨(8, rb (decide ((n : Int) - 1 ≥ 0))) :: (bkS l a n).tm, [], 0, 19, 0⟩, so (by push_cast [bkS]), rfl, ?_⟩
  refine YV.cond rfl rfl (fun hc => ?_) (fun hc => ?_)
  case refine_2 =>
    refine YV.exit ?_
    have h0 : n = 0 := by
      have := of_decide_eq_false hc
      omega
    subst h0
    exact ⟨.inl rfl, .inl rfl⟩
  case refine_1 =>
    refine YV.skip ?_
    obtain ⟨m, rfl⟩ : ∃ m, n = m + 1 := by
      have := of_decide_eq_true hc
      exact ⟨n - 1, by omega⟩
    have hm : m < a.length := by omega
    have hmI : (m : Int) < (a.length : Int) := by omega
    have e1 : (((m + 1 : Nat) : Int) - 1) = (m : Int) := by omega
    obtain ⟨b, hb⟩ : ∃ b, a[m]? = some b := ⟨_, List.getElem?_eq_getElem hm⟩
    have hb2 : (a.map enc_Fn)[m]? = some (enc_Fn b) := by rw [List.getElem?_map, hb]; rfl
    have hu : ((backL a).map encBk)[a.length - (m + 1)]? = some (encBk (m : Int)) := by rw [List.getElem?_map, backL_at hm]; rfl
    show YV prog _ _ _ (J (a.length - (m + 1)))
    refine YV.seq ?_
    refine YV.block ?_
    refine YV.seq ?_
    simp only [bkS, e1]
    refine YV.yieldAt 6 (evOperF_ok tabOkF) rfl hJ hJx hJb hY hu rfl rfl (by exact rfl) rfl (fun K hK => ?_)
    push_cast [encBk, hb, hm, hmI]
    intro c
    refine hK _ _ ?_
    clear hK K
    refine ⟨⟨[(18, rb (!c)), (0, .fn (.yield l) [] []), (1, .dat 1 [[.sl false (a.map enc_Fn)]] 0 0), (3, ri (m : Int))], [], 6, 19, 6⟩, so (by push_cast), rfl, ?_⟩
    refine YV.zero rfl ?_
    refine YV.cond rfl rfl (fun h => ?_) (fun h => ?_)
    · have hcf : c = false := by simpa using h
      subst hcf
      exact YV.ret ⟨.inr rfl, .inr rfl⟩
    · have hct : c = true := by simpa using h
      subst hct
      refine YV.skip ?_
      have e2 : a.length - (m + 1) + 1 = a.length - m := by omega
      show YV prog _ _ _ (J (a.length - (m + 1) + 1))
      rw [e2]
      refine YV.seg (hJ _) (fun B => ?_)
      refine vl (fun K hK => ?_)
      have hw : IntKind.i64.wrap ((m : Int) - 1) = (m : Int) - 1 := wrap_i64 (by omega) (by omega)
      push_cast [hw]
      refine hK _ ?_
      clear hK K
      exact ⟨bkS l a m, so (by push_cast [bkS]), rfl, m, by omega, by show m < m + 1; omega, rfl, rfl⟩
noncomputable def Ns (a0 : T_Inst) : Option (Bool) :=
  po (Gu a0) fun r1 =>
  some (!r1)
theorem Xl {a0 : T_Inst} {r : Bool} (h : Ns a0 = some r) : Ctr prog 221 [.agg (enc_Inst a0)] [] (rb r) [] := by
 unfold Ns at h;refine Ctr.ofW tabOk func221 rfl call221 0 _ ntmps221 [.tmp 2] rfl rfl rfl (fun B => ?_);refine vs [1] (fun K hK => ?_);push_cast;apply hK;clear hK K;obtain ⟨r1,hr1,h⟩ := po_some h;refine vs [2] (fun K hK => ?_);push_cast;refine cp (Un hr1) ?_;push_cast;apply hK;clear hK K;refine VC.ret ?_;replace h := Option.some.inj h;subst h;exact en (by push_cast)
noncomputable def Ab (a0 : (List T_Inst)) (i_1 : Int) : Option ((Int) ⊕ ((Unit) ⊕ (Int))) :=
  cond (decide (i_1 < (a0.length : Int))) (
  po (idx a0 i_1) fun x4 =>
  po (Ns x4) fun r5 =>
  cond r5 (
  some (Sum.inr (Sum.inr i_1))) (
  some (Sum.inl (IntKind.i64.wrap (i_1 + 1))))) (
  some (Sum.inr (Sum.inl ())))
noncomputable def Aq : Option (Int) :=
  some (-1)
noncomputable def Am (a0 : (List T_Inst)) : Option (Int) :=
  pm (
  lpU (fun x => Ab a0 x) 0) (fun x => Aq)
theorem Iw {a0 : (List T_Inst)} {r : Int} (h : Am a0 = some r) : Ctr prog 192 [.sl false (a0.map enc_Inst), .fn (.func 221) [] []] [] (ri r) [] := by
 unfold Am at h;refine Ctr.ofW tabOk func192 rfl call192 0 _ ntmps192 [.tmp 4] rfl rfl rfl (fun B => ?_);refine vs [0,1] (fun K hK => ?_);push_cast;apply hK;clear hK K;refine vm h (fun x => ⟨[],[],16,19,0⟩) (fun v1 h hk1 => ?_) ?_
 ·refine vs [0,1,7,8] (fun K hK => ?_);push_cast;apply hK;clear hK K;refine VC.block ?_;refine VC.loopP h (fun x => ⟨[(0,.sl false (a0.map enc_Inst)),(1,.fn (.func 221) [] []),(7,ri (a0.length : Int)),(8,ri x)],[],15,19,0⟩) ?_ ?_
  ·exact sl (by push_cast)
  rintro i_1 b2 (h : Ab a0 i_1 = some b2) hf2;(try push_cast);unfold Ab at h;refine vs [0,1,7,8,9] (fun K hK => ?_);push_cast;apply hK;clear hK K;refine VC.seq ?_;refine vc h (fun hb3 h => ?_) (fun hb3 h => ?_)
  ·refine VC.skip ?_;refine VC.seq ?_;refine VC.block ?_;refine vs [0,1,5,7,8] (fun K hK => ?_);push_cast;apply hK;clear hK K;obtain ⟨x4,hx4,h⟩ := po_some h;replace hx4 := idx_some4 hx4;obtain ⟨r5,hr5,h⟩ := po_some h;refine vs [0,1,5,7,8,16] (fun K hK => ?_);push_cast [hx4];(repeat refine ao ?_);refine cp (Xl hr5) ?_;push_cast [hx4];(repeat refine ao ?_);apply hK;clear hK K;refine vc h (fun hb6 h => ?_) (fun hb6 h => ?_)
   ·refine vs [4] (fun K hK => ?_);push_cast;apply hK;clear hK K;refine VC.ret ?_;replace h := ol h hf2;replace h := om h hk1;replace h := Option.some.inj h;subst h;exact en (by push_cast [hb3,hb6])
   ·refine VC.skip ?_;refine vl (fun K hK => ?_);push_cast;apply hK;clear hK K;refine bk h ?_;exact sl (by push_cast [hb3,hb6])
  ·refine VC.exit ?_;replace h := ol h hf2;refine am h hk1 ?_;exact sl (by push_cast [hb3])
 ·rintro ⟨⟩ (h : Aq = some r);(try push_cast);unfold Aq at h;refine vs [4] (fun K hK => ?_);push_cast;apply hK;clear hK K;refine VC.ret ?_;replace h := Option.some.inj h;subst h;exact en (by push_cast)
noncomputable def Ak (a0 : (List T_Inst)) : Option (Bool) :=
  po (Am a0) fun r1 =>
  some (decide (r1 ≥ 0))
theorem Hy {a0 : (List T_Inst)} {r : Bool} (h : Ak a0 = some r) : Ctr prog 147 [.sl false (a0.map enc_Inst), .fn (.func 221) [] []] [] (rb r) [] := by
 unfold Ak at h;refine Ctr.ofW tabOk func147 rfl call147 0 _ ntmps147 [.tmp 4] rfl rfl rfl (fun B => ?_);refine vs [0,1] (fun K hK => ?_);push_cast;apply hK;clear hK K;obtain ⟨r1,hr1,h⟩ := po_some h;refine vs [4] (fun K hK => ?_);push_cast;refine cp (Iw hr1) ?_;push_cast;apply hK;clear hK K;refine VC.ret ?_;replace h := Option.some.inj h;subst h;exact en (by push_cast)
noncomputable def Kg (i_1 : Bool) : Option (Bool) :=
  some i_1
noncomputable def Jn (a0 : (List T_Inst)) : Option (Bool) :=
  po (
  cond (decide ((a0.length : Int) > 0)) (
  cond (decide ((a0.length : Int) ≤ 64)) (
  po (Ak a0) fun r4 =>
  some (!r4)) (
  some false)) (
  some false)) (fun x => Kg x)
theorem Yn {a0 : (List T_Inst)} {r : Bool} (h : Jn a0 = some r) : Ctr prog 184 [.sl false (a0.map enc_Inst)] [] (rb r) [] := by
 unfold Jn at h;refine Ctr.ofW tabOk func184 rfl call184 0 _ ntmps184 [.tmp 2] rfl rfl rfl (fun B => ?_);refine vs [0] (fun K hK => ?_);push_cast;apply hK;clear hK K;refine vj h (fun x => ⟨[(2,rb x)],[],15,16,0⟩) (fun v1 h hk1 => ?_) ?_
 ·rcases Bool.eq_false_or_eq_true (decide ((a0.length : Int) > 0)) with hb2 | hb2
  ·replace h := cond_yes hb2 h;rcases Bool.eq_false_or_eq_true (decide ((a0.length : Int) ≤ 64)) with hb3 | hb3
   ·replace h := cond_yes hb3 h;obtain ⟨r4,hr4,h⟩ := po_some h;refine vlG [some 3,some 4,some 5,some 6,some 7,some 8,some 9,some 10,some 11,some 12,some 13,some 14,some 15,some 2] (fun K hK => ?_);refine runOps_cut 8 (fun K2 hK2 => ?_);push_cast [hb2,hb3];(repeat refine ao ?_);refine hK2 _ _ ?_;clear hK2 K2;simp only [List.drop_succ_cons,List.drop_zero];push_cast [hb2,hb3];(repeat refine ao ?_);refine cp (Hy hr4) ?_;push_cast [hb2,hb3];(repeat refine ao ?_);apply hK;clear hK K;refine ar h hk1 ?_;exact sl (by push_cast [hb2,hb3])
   ·replace h := cond_no hb3 h;refine vlG [some 3,some 4,some 5,some 6,some 7,some 8,some 9,some 10,some 11,some 12,some 13,some 14,some 15,some 2] (fun K hK => ?_);refine runOps_cut 8 (fun K2 hK2 => ?_);push_cast [hb2,hb3];(repeat refine ao ?_);refine hK2 _ _ ?_;clear hK2 K2;simp only [List.drop_succ_cons,List.drop_zero];push_cast [hb2,hb3];(repeat refine ao ?_);apply hK;clear hK K;refine ar h hk1 ?_;exact sl (by push_cast [hb2,hb3])
  ·replace h := cond_no hb2 h;refine vlG [some 3,some 4,some 5,some 6,some 7,some 8,some 9,some 10,some 11,some 12,some 13,some 14,some 15,some 2] (fun K hK => ?_);refine runOps_cut 8 (fun K2 hK2 => ?_);push_cast [hb2];(repeat refine ao ?_);refine hK2 _ _ ?_;clear hK2 K2;simp only [List.drop_succ_cons,List.drop_zero];push_cast [hb2];(repeat refine ao ?_);apply hK;clear hK K;refine ar h hk1 ?_;exact sl (by push_cast [hb2])
 ·rintro i_1 (h : Kg i_1 = some r);(try push_cast);unfold Kg at h;refine VC.ret ?_;replace h := Option.some.inj h;subst h;exact en (by push_cast)
noncomputable def Lw (a1 : Int) (x1 : T_Inst) (i_2 : Bool) : Option ((List Int)) :=
  cond i_2 (
  some ([(IntKind.i64.wrap (a1 + 1)), (IntKind.i64.wrap ((IntKind.i64.wrap (a1 + x1.Off)) + 1))])) (
  some ([(IntKind.i64.wrap (a1 + 1))]))
noncomputable def Lt (a1 : Int) (x1 : T_Inst) (i_1 : Bool) : Option ((List Int)) :=
  cond i_1 (
  some ([(IntKind.i64.wrap ((IntKind.i64.wrap (a1 + x1.Off)) + 1))])) (
  po (
  cond (x1.Op == 1) (
  some (decide (x1.Off > 0))) (
  some false)) (fun x => Lw a1 x1 x))
noncomputable def Ka (a0 : (List T_Inst)) (a1 : Int) : Option ((List Int)) :=
  po (idx a0 a1) fun x1 =>
  cond (x1.Op == 7) (
  some []) (
  po (
  cond (x1.Op == 1) (
  some (x1.Fn == 0)) (
  some false)) (fun x => Lt a1 x1 x))
theorem Xx {a0 : (List T_Inst)} {a1 : Int} {r : (List Int)} (h : Ka a0 a1 = some r) : Ctr prog 185 [.sl false (a0.map enc_Inst), ri a1] [] (.row 0 0 1 0 r.length) [(0, .row 3 1 0 (r.map encI64))] := by
 unfold Ka at h;refine Ctr.ofW tabOk func185 rfl call185 0 _ ntmps185 [.tmp 4] rfl rfl rfl (fun B => ?_);refine vs [0,1] (fun K hK => ?_);push_cast;apply hK;clear hK K;obtain ⟨x1,hx1,h⟩ := po_some h;replace hx1 := idx_some4 hx1;refine vs [1,5] (fun K hK => ?_);push_cast [hx1];(repeat refine ao ?_);apply hK;clear hK K;refine VC.seq ?_;refine VC.block ?_;refine vs [1,5,10] (fun K hK => ?_);push_cast;apply hK;clear hK K;refine vc h (fun hb2 h => ?_) (fun hb2 h => ?_)
 ·refine vs [4] (fun K hK => ?_);push_cast;apply hK;clear hK K;refine VC.ret ?_;replace h := Option.some.inj h;subst h;refine endS (so (s' := ⟨[(4,.sl true [])],[],12,49,0⟩) (by push_cast [hb2])) ?_;refine endS (Sub.adoptT (k := 4) (e := 3) (sz := 1) rfl) ?_;refine endS (Sub.renT (k := 4) (i' := 0) rfl rfl (Nat.le_of_ble_eq_true rfl) (Nat.le_of_ble_eq_true rfl) rfl) ?_;exact en (by push_cast [hb2])
 ·refine vj h (fun x => ⟨[(1,ri a1),(5,.ref 5 0),(14,rb x)],[(5,.box 37 (enc_Inst x1))],20,49,0⟩) (fun v3 h hk3 => ?_) ?_
  ·rcases Bool.eq_false_or_eq_true (x1.Op == 1) with hb4 | hb4
   ·replace h := cond_yes hb4 h;refine vlG [some 15,some 16,some 17,some 18,some 19,some 20,some 21,some 22,some 14] (fun K hK => ?_);push_cast [hb4];(repeat refine ao ?_);apply hK;clear hK K;refine ar h hk3 ?_;exact sl (by push_cast [hb2,hb4])
   ·replace h := cond_no hb4 h;refine vlG [some 15,some 16,some 17,some 18,some 19,some 20,some 21,some 22,some 14] (fun K hK => ?_);push_cast [hb4];(repeat refine ao ?_);apply hK;clear hK K;refine ar h hk3 ?_;exact sl (by push_cast [hb2,hb4])
  ·rintro i_1 (h : Lt a1 x1 i_1 = some r);(try push_cast);unfold Lt at h;refine vc h (fun hb5 h => ?_) (fun hb5 h => ?_)
   ·refine vs [4] (fun K hK => ?_);push_cast;apply hK;clear hK K;refine VC.sub (s' := ⟨[(4,.row 25 0 1 0 1)],[(25,.row 3 1 0 (([(IntKind.i64.wrap ((IntKind.i64.wrap (a1 + x1.Off)) + 1))]).map encI64))],27,49,0⟩) (so (by push_cast [hb2,hb5])) ?_;refine VC.ret ?_;replace h := Option.some.inj h;subst h;refine endS (so (s' := ⟨[(4,.row 25 0 1 0 1)],[(25,.row 3 1 0 (([(IntKind.i64.wrap ((IntKind.i64.wrap (a1 + x1.Off)) + 1))]).map encI64))],27,49,0⟩) (by push_cast [hb2,hb5])) ?_;refine endS (Sub.renT (k := 4) (i' := 0) rfl rfl (Nat.le_of_ble_eq_true rfl) (Nat.le_of_ble_eq_true rfl) rfl) ?_;exact en (by push_cast [hb2,hb5])
   ·refine vj h (fun x => ⟨[(1,ri a1),(5,.ref 5 0),(29,rb x)],[(5,.box 37 (enc_Inst x1))],29,49,0⟩) (fun v6 h hk6 => ?_) ?_
    ·rcases Bool.eq_false_or_eq_true (x1.Op == 1) with hb7 | hb7
     ·replace h := cond_yes hb7 h;refine vlG [some 30,some 31,some 32,some 33,some 34,some 35,some 36,some 37,some 29] (fun K hK => ?_);push_cast [hb7];(repeat refine ao ?_);apply hK;clear hK K;refine ar h hk6 ?_;exact sl (by push_cast [hb2,hb5,hb7])
     ·replace h := cond_no hb7 h;refine vlG [some 30,some 31,some 32,some 33,some 34,some 35,some 36,some 37,some 29] (fun K hK => ?_);push_cast [hb7];(repeat refine ao ?_);apply hK;clear hK K;refine ar h hk6 ?_;exact sl (by push_cast [hb2,hb5,hb7])
    ·rintro i_2 (h : Lw a1 x1 i_2 = some r);(try push_cast);unfold Lw at h;refine vc h (fun hb8 h => ?_) (fun hb8 h => ?_)
     ·refine vs [4] (fun K hK => ?_);push_cast;apply hK;clear hK K;refine VC.sub (s' := ⟨[(4,.row 36 0 1 0 2)],[(36,.row 3 1 0 (([(IntKind.i64.wrap (a1 + 1)),(IntKind.i64.wrap ((IntKind.i64.wrap (a1 + x1.Off)) + 1))]).map encI64))],38,49,0⟩) (so (by push_cast [hb2,hb5,hb8])) ?_;refine VC.ret ?_;replace h := Option.some.inj h;subst h;refine endS (so (s' := ⟨[(4,.row 36 0 1 0 2)],[(36,.row 3 1 0 (([(IntKind.i64.wrap (a1 + 1)),(IntKind.i64.wrap ((IntKind.i64.wrap (a1 + x1.Off)) + 1))]).map encI64))],38,49,0⟩) (by push_cast [hb2,hb5,hb8])) ?_;refine endS (Sub.renT (k := 4) (i' := 0) rfl rfl (Nat.le_of_ble_eq_true rfl) (Nat.le_of_ble_eq_true rfl) rfl) ?_;exact en (by push_cast [hb2,hb5,hb8])
     ·refine VC.skip ?_;refine vs [4] (fun K hK => ?_);push_cast;apply hK;clear hK K;refine VC.sub (s' := ⟨[(4,.row 31 0 1 0 1)],[(31,.row 3 1 0 (([(IntKind.i64.wrap (a1 + 1))]).map encI64))],33,49,0⟩) (so (by push_cast [hb2,hb5,hb8])) ?_;refine VC.ret ?_;replace h := Option.some.inj h;subst h;refine endS (so (s' := ⟨[(4,.row 31 0 1 0 1)],[(31,.row 3 1 0 (([(IntKind.i64.wrap (a1 + 1))]).map encI64))],33,49,0⟩) (by push_cast [hb2,hb5,hb8])) ?_;refine endS (Sub.renT (k := 4) (i' := 0) rfl rfl (Nat.le_of_ble_eq_true rfl) (Nat.le_of_ble_eq_true rfl) rfl) ?_;exact en (by push_cast [hb2,hb5,hb8])
noncomputable def Jo (i_61 : Int) (i_62 : Int) (l_63 : (List Int)) : Option ((Int × (List Int) × Int) ⊕ (Int)) :=
  some (Sum.inl (i_62, l_63, (IntKind.i64.wrap (i_61 + 1))))
noncomputable def Gk (a0 : (List T_Inst)) (w_27 : (AN 65)) (r5 : (List Int)) (i_59 : Int) (l_60 : (List Int)) (i_61 : Int) : Option ((Int × (List Int) × Int) ⊕ (Int)) :=
  cond (decide (i_61 < (r5.length : Int))) (
  po (
  po (idx l_60 i_61) fun x9 =>
  cond (decide (x9 < (a0.length : Int))) (
  pg (0 ≤ x9 ∧ x9 < 65) <|
  some ((maxI i_59 (w_27.get x9.toNat)), l_60)) (
  some (i_59, l_60))) (fun x => Jo i_61 x.1 x.2)) (
  some (Sum.inr i_59))
noncomputable def Io (x17 : Int) (i_68 : Bool) : Option (Int) :=
  cond i_68 (
  some (IntKind.i64.wrap (1 + x17))) (
  some 1)
noncomputable def Im (a1 : (List Int)) (x13 : T_Inst) (i_67 : Bool) : Option (Int) :=
  cond i_67 (
  po (a1[x13.Imm.toNat]?) fun x17 =>
  po (
  cond (decide (x17 ≥ 0)) (
  some (decide (x17 ≤ 1000000))) (
  some false)) (fun x => Io x17 x)) (
  some 1)
noncomputable def Ij (w_27 : (AN 65)) (i_28 : Int) (i_39 : Int) (i_52 : Int) : Option (((AN 65) × Int) ⊕ (Int)) :=
  pg (0 ≤ i_28 ∧ i_28 < 65) <|
  pl (w_27.set i_28.toNat (minI (IntKind.i64.wrap (i_52 + i_39)) 1000000)) fun y22 =>
  cond (decide ((IntKind.i64.wrap (i_28 - 1)) ≥ 0)) (
  some (Sum.inl (y22, (IntKind.i64.wrap (i_28 - 1))))) (
  some (Sum.inr (y22.get 0)))
noncomputable def Gi (a0 : (List T_Inst)) (a1 : (List Int)) (w_27 : (AN 65)) (i_28 : Int) (i_39 : Int) : Option (((AN 65) × Int) ⊕ (Int)) :=
  po (
  po (idx a0 i_28) fun x13 =>
  po (
  cond (x13.Op == 6) (
  some (decide (x13.Imm.toNat < a1.length))) (
  some false)) (fun x => Im a1 x13 x)) (fun x => Ij w_27 i_28 i_39 x)
noncomputable def Cp (a0 : (List T_Inst)) (a1 : (List Int)) (w_27 : (AN 65)) (i_28 : Int) : Option (((AN 65) × Int) ⊕ (Int)) :=
  po (
  po (Ka a0 i_28) fun r5 =>
  lpU (fun x => Gk a0 w_27 r5 x.1 x.2.1 x.2.2) (0, r5, 0)) (fun x => Gi a0 a1 w_27 i_28 x)
noncomputable def Ee (a0 : (List T_Inst)) (a1 : (List Int)) : Option (Int) :=
  po (Jn a0) fun r1 =>
  cond (!r1) (
  some 0) (
  lpU (fun x => Cp a0 a1 x.1 x.2) ((AN.zero 65), (IntKind.i64.wrap ((a0.length : Int) - 1))))
theorem Ws {a0 : (List T_Inst)} {a1 : (List Int)} {r : Int} (h : Ee a0 a1 = some r) : Ctr prog 132 [.sl false (a0.map enc_Inst), .sl false (a1.map encI64)] [] (ri r) [] := by
 unfold Ee at h;refine Ctr.ofN tabOk func132 rfl call132 0 _ ntmps132 [.tmp 4] rfl rfl rfl (fun B hB => ?_);refine vs [0,1] (fun K hK => ?_);push_cast;apply hK;clear hK K;refine VC.jumpsP hB (l := 0) (step := (fun x => Cp a0 a1 x.1 x.2)) rfl (fun x => ⟨[(0,.sl false (a0.map enc_Inst)),(1,.sl false (a1.map encI64)),(5,.ref 4 0),(6,ri x.2)],[(4,.box 267 (encAN x.1))],78,78,0⟩) ?_;refine VC.seq ?_;obtain ⟨r1,hr1,h⟩ := po_some h;refine vs [0,1,15] (fun K hK => ?_);push_cast;refine cp (Yn hr1) ?_;push_cast;apply hK;clear hK K;refine vc h (fun hb2 h => ?_) (fun hb2 h => ?_)
 ·refine vs [4] (fun K hK => ?_);push_cast;apply hK;clear hK K;refine VC.ret ?_;replace h := Option.some.inj h;subst h;exact en (by push_cast [hb2])
 ·refine VC.skip ?_;refine vs [0,1,5] (fun K hK => ?_);push_cast;apply hK;clear hK K;refine VC.sub (s' := ⟨[(0,.sl false (a0.map enc_Inst)),(1,.sl false (a1.map encI64)),(5,.ref 4 0)],[(4,.box 267 (encAN (AN.zero 65)))],5,78,0⟩) (so (h4 := by first | exact rfl | simp [St.wf,AV.in3,AV.in2,AV.in1,AV.in0,AObj.inD,encAN_in,ri,ru,rb,enc_Inst]) (by push_cast [hb2,encAN,AN.zero,AN.un])) ?_;refine vs [0,1,5,6] (fun K hK => ?_);push_cast;apply hK;clear hK K;refine VC.labelP h (fun x => ⟨[(0,.sl false (a0.map enc_Inst)),(1,.sl false (a1.map encI64)),(5,.ref 4 0),(6,ri x.2)],[(4,.box 267 (encAN x.1))],78,78,0⟩) ?_ ?_
  ·exact sl (h4 := by first | exact rfl | simp [St.wf,AV.in3,AV.in2,AV.in1,AV.in0,AObj.inD,encAN_in,ri,ru,rb,enc_Inst]) (by push_cast [hb2])
  rintro ⟨w_27,i_28⟩ b3 (h : Cp a0 a1 w_27 i_28 = some b3) hf3;(try push_cast);unfold Cp at h;refine vs [0,1,5,6,7] (fun K hK => ?_);push_cast;apply hK;clear hK K;refine vj h (fun x => ⟨[(0,.sl false (a0.map enc_Inst)),(1,.sl false (a1.map encI64)),(5,.ref 4 0),(6,ri i_28),(7,ri x)],[(4,.box 267 (encAN w_27))],101,78,0⟩) (fun v4 h hk4 => ?_) ?_
  ·obtain ⟨r5,hr5,h⟩ := po_some h;refine vs [0,1,5,6,7,21,22,23] (fun K hK => ?_);push_cast;refine ch (H := []) (Ctr.loH (Ctr.ren (Bij.swp 0 81 Bij.id) (Xx hr5) (by push_cast) (by push_cast))) (by push_cast) ?_;push_cast;apply hK;clear hK K;refine VC.sub (s' := ⟨[(0,.sl false (a0.map enc_Inst)),(1,.sl false (a1.map encI64)),(5,.ref 4 0),(6,ri i_28),(7,ri 0),(21,.row 81 0 1 0 r5.length),(22,ri (r5.length : Int)),(23,ri 0)],[(4,.box 267 (encAN w_27)),(81,.row 3 1 0 (r5.map encI64))],84,78,0⟩) (so (h4 := by first | exact rfl | simp [St.wf,AV.in3,AV.in2,AV.in1,AV.in0,AObj.inD,encAN_in,ri,ru,rb,enc_Inst]) (by push_cast [hb2])) ?_;refine VC.block ?_;refine VC.loopP h (fun x => ⟨[(0,.sl false (a0.map enc_Inst)),(1,.sl false (a1.map encI64)),(5,.ref 4 0),(6,ri i_28),(7,ri x.1),(21,.row 81 0 1 0 x.2.1.length),(22,ri (r5.length : Int)),(23,ri x.2.2)],[(4,.box 267 (encAN w_27)),(81,.row 3 1 0 (x.2.1.map encI64))],100,78,0⟩) ?_ ?_
   ·exact sl (h4 := by first | exact rfl | simp [St.wf,AV.in3,AV.in2,AV.in1,AV.in0,AObj.inD,encAN_in,ri,ru,rb,enc_Inst]) (by push_cast [hb2])
   rintro ⟨i_59,l_60,i_61⟩ b6 (h : Gk a0 w_27 r5 i_59 l_60 i_61 = some b6) hf6;(try push_cast);unfold Gk at h;refine vs [0,1,5,6,7,21,22,23,24] (fun K hK => ?_);push_cast;apply hK;clear hK K;refine VC.seq ?_;refine vc h (fun hb7 h => ?_) (fun hb7 h => ?_)
   ·refine VC.skip ?_;refine vj h (fun x => ⟨[(0,.sl false (a0.map enc_Inst)),(1,.sl false (a1.map encI64)),(5,.ref 4 0),(6,ri i_28),(7,ri x.1),(21,.row 81 0 1 0 x.2.length),(22,ri (r5.length : Int)),(23,ri i_61)],[(4,.box 267 (encAN w_27)),(81,.row 3 1 0 (x.2.map encI64))],114,78,0⟩) (fun v8 h hk8 => ?_) ?_
    ·refine VC.block ?_;obtain ⟨x9,hx9,h⟩ := po_some h;replace hx9 := idx_some4 hx9;refine vs [0,1,5,6,7,9,21,22,23] (fun K hK => ?_);push_cast [hx9];(repeat refine ao ?_);apply hK;clear hK K;refine vs [0,1,5,6,7,9,21,22,23,30] (fun K hK => ?_);push_cast;apply hK;clear hK K;refine vc h (fun hb10 h => ?_) (fun hb10 h => ?_)
     ·obtain ⟨hg11,h⟩ := pg_some h;have hg11n : x9.toNat < 65 := by omega
      refine vl (fun K hK => ?_);push_cast [hg11,hg11n];(repeat refine ao ?_);apply hK;clear hK K;refine ar h hk8 ?_;exact sl (h4 := by first | exact rfl | simp [St.wf,AV.in3,AV.in2,AV.in1,AV.in0,AObj.inD,encAN_in,ri,ru,rb,enc_Inst]) (by push_cast [hb2,hb7,hb10])
     ·refine VC.skip ?_;refine ar h hk8 ?_;exact sl (h4 := by first | exact rfl | simp [St.wf,AV.in3,AV.in2,AV.in1,AV.in0,AObj.inD,encAN_in,ri,ru,rb,enc_Inst]) (by push_cast [hb2,hb7,hb10])
    ·rintro ⟨i_62,l_63⟩ (h : Jo i_61 i_62 l_63 = some b6);(try push_cast);unfold Jo at h;refine vl (fun K hK => ?_);push_cast;apply hK;clear hK K;refine bk h ?_;exact sl (h4 := by first | exact rfl | simp [St.wf,AV.in3,AV.in2,AV.in1,AV.in0,AObj.inD,encAN_in,ri,ru,rb,enc_Inst]) (by push_cast [hb2,hb7])
   ·refine VC.exit ?_;replace h := ol h hf6;refine ar h hk4 ?_;exact sl (h4 := by first | exact rfl | simp [St.wf,AV.in3,AV.in2,AV.in1,AV.in0,AObj.inD,encAN_in,ri,ru,rb,enc_Inst]) (by push_cast [hb2,hb7])
  ·rintro i_39 (h : Gi a0 a1 w_27 i_28 i_39 = some b3);(try push_cast);unfold Gi at h;refine vs [0,1,5,6,7,10] (fun K hK => ?_);push_cast;apply hK;clear hK K;refine vj h (fun x => ⟨[(0,.sl false (a0.map enc_Inst)),(1,.sl false (a1.map encI64)),(5,.ref 4 0),(6,ri i_28),(7,ri i_39),(10,ri x)],[(4,.box 267 (encAN w_27))],135,78,0⟩) (fun v12 h hk12 => ?_) ?_
   ·obtain ⟨x13,hx13,h⟩ := po_some h;replace hx13 := idx_some4 hx13;refine vs [0,1,5,6,7,10,11] (fun K hK => ?_);push_cast [hx13];(repeat refine ao ?_);apply hK;clear hK K;refine vj h (fun x => ⟨[(0,.sl false (a0.map enc_Inst)),(1,.sl false (a1.map encI64)),(5,.ref 4 0),(6,ri i_28),(7,ri i_39),(10,ri 1),(11,.ref 106 0),(51,rb x)],[(4,.box 267 (encAN w_27)),(106,.box 37 (enc_Inst x13))],119,78,0⟩) (fun v14 h hk14 => ?_) ?_
    ·rcases Bool.eq_false_or_eq_true (x13.Op == 6) with hb15 | hb15
     ·replace h := cond_yes hb15 h;refine vlG [some 41,some 42,some 43,some 44,some 45,some 46,some 47,some 48,some 49,some 50,some 51] (fun K hK => ?_);refine runOps_cut 8 (fun K2 hK2 => ?_);push_cast [hb15];(repeat refine ao ?_);refine hK2 _ _ ?_;clear hK2 K2;simp only [List.drop_succ_cons,List.drop_zero];push_cast [hb15];(repeat refine ao ?_);apply hK;clear hK K;refine ar h hk14 ?_;exact sl (h4 := by first | exact rfl | simp [St.wf,AV.in3,AV.in2,AV.in1,AV.in0,AObj.inD,encAN_in,ri,ru,rb,enc_Inst]) (by push_cast [hb2,hb15])
     ·replace h := cond_no hb15 h;refine vlG [some 41,some 42,some 43,some 44,some 45,some 46,some 47,some 48,some 49,some 50,some 51] (fun K hK => ?_);refine runOps_cut 8 (fun K2 hK2 => ?_);push_cast [hb15];(repeat refine ao ?_);refine hK2 _ _ ?_;clear hK2 K2;simp only [List.drop_succ_cons,List.drop_zero];push_cast [hb15];(repeat refine ao ?_);apply hK;clear hK K;refine ar h hk14 ?_;exact sl (h4 := by first | exact rfl | simp [St.wf,AV.in3,AV.in2,AV.in1,AV.in0,AObj.inD,encAN_in,ri,ru,rb,enc_Inst]) (by push_cast [hb2,hb15])
    ·rintro i_67 (h : Im a1 x13 i_67 = some v12);(try push_cast);unfold Im at h;refine vc h (fun hb16 h => ?_) (fun hb16 h => ?_)
     ·obtain ⟨x17,hx17,h⟩ := po_some h;replace hx17 := gL hx17;refine vs [0,1,5,6,7,10,12] (fun K hK => ?_);push_cast [hx17];(repeat refine ao ?_);apply hK;clear hK K;refine vj h (fun x => ⟨[(0,.sl false (a0.map enc_Inst)),(1,.sl false (a1.map encI64)),(5,.ref 4 0),(6,ri i_28),(7,ri i_39),(10,ri 1),(12,ri x17),(62,rb x)],[(4,.box 267 (encAN w_27))],131,78,0⟩) (fun v18 h hk18 => ?_) ?_
      ·rcases Bool.eq_false_or_eq_true (decide (x17 ≥ 0)) with hb19 | hb19
       ·replace h := cond_yes hb19 h;refine vlG [some 57,some 58,some 59,some 60,some 61,some 62] (fun K hK => ?_);push_cast [hb19];(repeat refine ao ?_);apply hK;clear hK K;refine ar h hk18 ?_;exact sl (h4 := by first | exact rfl | simp [St.wf,AV.in3,AV.in2,AV.in1,AV.in0,AObj.inD,encAN_in,ri,ru,rb,enc_Inst]) (by push_cast [hb2,hb16,hb19])
       ·replace h := cond_no hb19 h;refine vlG [some 57,some 58,some 59,some 60,some 61,some 62] (fun K hK => ?_);push_cast [hb19];(repeat refine ao ?_);apply hK;clear hK K;refine ar h hk18 ?_;exact sl (h4 := by first | exact rfl | simp [St.wf,AV.in3,AV.in2,AV.in1,AV.in0,AObj.inD,encAN_in,ri,ru,rb,enc_Inst]) (by push_cast [hb2,hb16,hb19])
      ·rintro i_68 (h : Io x17 i_68 = some v12);(try push_cast);unfold Io at h;refine vc h (fun hb20 h => ?_) (fun hb20 h => ?_)
       ·refine vl (fun K hK => ?_);push_cast;apply hK;clear hK K;refine ar h hk12 ?_;exact sl (h4 := by first | exact rfl | simp [St.wf,AV.in3,AV.in2,AV.in1,AV.in0,AObj.inD,encAN_in,ri,ru,rb,enc_Inst]) (by push_cast [hb2,hb16,hb20])
       ·refine VC.skip ?_;refine ar h hk12 ?_;exact sl (h4 := by first | exact rfl | simp [St.wf,AV.in3,AV.in2,AV.in1,AV.in0,AObj.inD,encAN_in,ri,ru,rb,enc_Inst]) (by push_cast [hb2,hb16,hb20])
     ·refine VC.skip ?_;refine ar h hk12 ?_;exact sl (h4 := by first | exact rfl | simp [St.wf,AV.in3,AV.in2,AV.in1,AV.in0,AObj.inD,encAN_in,ri,ru,rb,enc_Inst]) (by push_cast [hb2,hb16])
   ·rintro i_52 (h : Ij w_27 i_28 i_39 i_52 = some b3);(try push_cast);unfold Ij at h;obtain ⟨hg21,h⟩ := pg_some h;have hg21n : i_28.toNat < 65 := by omega
    obtain ⟨y22,hy22,h⟩ := pl_some h;refine vs [0,1,5,6] (fun K hK => ?_);push_cast [hg21,hg21n];(repeat refine ao ?_);apply hK;clear hK K;refine VC.seq ?_;refine vs [0,1,5,6] (fun K hK => ?_);push_cast;apply hK;clear hK K;refine vs [0,1,5,6,75] (fun K hK => ?_);push_cast;apply hK;clear hK K;refine vc h (fun hb23 h => ?_) (fun hb23 h => ?_)
    ·refine VC.goto ?_;refine ⟨rfl,bk h ?_⟩;exact sl (h4 := by first | exact rfl | simp [St.wf,AV.in3,AV.in2,AV.in1,AV.in0,AObj.inD,encAN_in,ri,ru,rb,enc_Inst]) (by push_cast [hb2,hy22,hb23])
    ·refine VC.skip ?_;refine vs [4] (fun K hK => ?_);push_cast;apply hK;clear hK K;refine VC.ret ?_;replace h := ol h hf3;replace h := Option.some.inj h;subst h;exact en (by push_cast [hb2,hy22,hb23])
noncomputable def Cz (a0 : T_Prog) (l_4 : (List Int)) (u6 : Int) : Option (((List Int)) ⊕ (Unit)) :=
  po (idx a0.Fns u6) fun x8 =>
  po (Ee x8.Code l_4) fun r9 =>
  po (idx l_4 u6) fun x10 =>
  pl (l_4.set u6.toNat r9) fun y11 =>
  some (Sum.inl y11)
noncomputable def Ke (l_4 : (List Int)) : Option ((List Int)) :=
  some l_4
noncomputable def He (l_3 : (List Int)) : Option (Int) :=
  po (l_3[0]?) fun x12 =>
  some x12
noncomputable def Fj (a0 : T_Prog) : Option (Int) :=
  po (Fl a0) fun r1 =>
  cond (!r1) (
  some 0) (
  pg (0 ≤ (a0.Fns.length : Int) ∧ 8 * (a0.Fns.length : Int) ≤ 140737488355328) <|
  pl (List.replicate a0.Fns.length 0) fun y4 =>
  po (
  pq (itU (fun x u => Cz a0 x u) (backL a0.Fns) y4) (fun x => Ke x) (fun _ => none)) (fun x => He x))
theorem Xa {a0 : T_Prog} {r : Int} (h : Fj a0 = some r) : Ctr prog 92 [.agg (enc_Prog a0)] [] (ri r) [] := by
 unfold Fj at h;refine Ctr.ofN tabOk func92 rfl call92 0 _ ntmps92 [.tmp 2] rfl rfl rfl (fun B hB => ?_);refine vs [1] (fun K hK => ?_);push_cast;apply hK;clear hK K;refine VC.seq ?_;obtain ⟨r1,hr1,h⟩ := po_some h;refine vs [1,7] (fun K hK => ?_);push_cast;refine cp (Ui hr1) ?_;push_cast;apply hK;clear hK K;refine vc h (fun hb2 h => ?_) (fun hb2 h => ?_)
 ·refine vs [2] (fun K hK => ?_);push_cast;apply hK;clear hK K;refine VC.ret ?_;replace h := Option.some.inj h;subst h;exact en (by push_cast [hb2])
 ·refine VC.skip ?_;obtain ⟨hg3,h⟩ := pg_some h;obtain ⟨y4,hy4,h⟩ := pl_some h;refine vs [1,3] (fun K hK => ?_);push_cast [hg3];(repeat refine ao ?_);apply hK;clear hK K;refine VC.sub (s' := ⟨[(1,.ref 0 0),(3,.ref 9 0)],[(0,.box 56 [.sl false (a0.Fns.map enc_Fn)]),(8,.row 3 1 0 (y4.map encI64)),(9,.box 84 [.row 8 0 1 0 y4.length])],11,31,0⟩) (so (by push_cast [hb2,hy4])) ?_;refine vj h (fun x => ⟨[(3,.ref 9 0)],[(8,.row 3 1 0 (x.map encI64)),(9,.box 84 [.row 8 0 1 0 x.length])],26,31,0⟩) (fun v5 h hk5 => ?_) ?_
  ·refine vs [1,3,14] (fun K hK => ?_);push_cast;refine cp (Pf a0.Fns) ?_;push_cast;apply hK;clear hK K;refine VC.block ?_;obtain ⟨b7,hi7,hd7,hx7⟩ := pq_some h;refine VC.sub (s' := ⟨[(1,.ref 0 0),(3,.ref 9 0),(14,.fn (.func 183) [] [.dat 1 [[.sl false (a0.Fns.map enc_Fn)]] 0 0])],(fun x => [(0,.box 56 [.sl false (a0.Fns.map enc_Fn)]),(8,.row 3 1 0 (x.map encI64)),(9,.box 84 [.row 8 0 1 0 x.length])]) y4,26,31,0⟩) ?_ ?_
   ·(try push_cast);exact sl (by push_cast [hb2])
   ·refine VC.rangeP (enc := fun u6 => [ri u6,.dead]) hB hi7 rfl call183 rfl rfl (fun _ => rfl) (it_slices_Backward_api_Fn_api_Fn a0.Fns) (fun x => [(0,.box 56 [.sl false (a0.Fns.map enc_Fn)]),(8,.row 3 1 0 (x.map encI64)),(9,.box 84 [.row 8 0 1 0 x.length])]) (fun (_ : Unit) => []) rfl ?_ ?_ ?_
    ·rintro l_4 u6 c (h : Cz a0 l_4 u6 = some c) B2;(try push_cast);unfold Cz at h;refine vl (fun K hK => ?_);push_cast;apply hK;clear hK K;refine ⟨[(1,.ref 0 0),(3,.ref 9 0),(4,ri u6),(14,.fn (.func 183) [] [.dat 1 [[.sl false (a0.Fns.map enc_Fn)]] 0 0]),(15,ri u6)],so (by push_cast),fun B3 => ?_⟩;(try push_cast);refine VC.block ?_;obtain ⟨x8,hx8,h⟩ := po_some h;replace hx8 := idx_some4 hx8;obtain ⟨r9,hr9,h⟩ := po_some h;obtain ⟨x10,hx10,h⟩ := po_some h;replace hx10 := idx_some4 hx10;obtain ⟨y11,hy11,h⟩ := pl_some h;have hy11l : y11.length = l_4.length := by rw [hy11,List.length_set]
     refine vlD [some 17,some 18,some 19,some 20,some 21,some 22,some 23,some 24,some 25,some 26,some 27,none] (fun K hK => ?_);refine runD_cut 8 (fun K2 hK2 => ?_);push_cast [hx8,hx10];(repeat refine ao ?_);refine hK2 _ _ _ ?_;clear hK2 K2;simp only [List.drop_succ_cons,List.drop_zero];push_cast [hx8,hx10];(repeat refine ao ?_);refine chD (H := [(8,.row 3 1 0 (l_4.map encI64))]) (H' := _) (Ctr.borrow (Ws hr9) (by push_cast [hx8,hx10]) rfl) (by push_cast [hx8,hx10]) ?_;push_cast [hx8,hx10];(repeat refine ao ?_);refine ⟨rfl,hK _ ?_⟩;clear hK K;refine ⟨_,(Option.some.inj h).symm,?_⟩;exact sl (by push_cast [hb2,hy11,hy11l])
    ·rintro l_4 hb;replace h : Ke l_4 = some v5 := hd7 _ hb;unfold Ke at h;refine ar h hk5 ?_;exact sl (by push_cast [hb2])
    ·intro y hb;cases hx7 _ hb
  ·rintro l_3 (h : He l_3 = some r);(try push_cast);unfold He at h;obtain ⟨x12,hx12,h⟩ := po_some h;replace hx12 := gL hx12;refine vs [2] (fun K hK => ?_);push_cast [hx12];(repeat refine ao ?_);apply hK;clear hK K;refine VC.ret ?_;replace h := Option.some.inj h;subst h;exact en (by push_cast [hb2])
noncomputable def Cc (a0 : T_verify_work) (a1 : Int) (a2 : T_Shape) : Option (T_verify_work) :=
  cond (decide (a1 ≥ (a0.in_.length : Int))) (
  some (T_verify_work.mk a0.p a0.fn a0.l a0.in_ a0.is a0.at_ false)) (
  po (idx a0.is a1) fun x2 =>
  cond x2 (
  po (idx a0.in_ a1) fun x4 =>
  po (Jh x4 a2) fun r5 =>
  pl (a0.in_.set a1.toNat r5) fun y6 =>
  some (T_verify_work.mk a0.p a0.fn a0.l y6 a0.is a0.at_ a0.safe)) (
  po (idx a0.in_ a1) fun x7 =>
  pl (a0.in_.set a1.toNat a2) fun y8 =>
  pl (a0.is.set a1.toNat true) fun y9 =>
  some (T_verify_work.mk a0.p a0.fn a0.l y8 y9 a0.at_ a0.safe)))
theorem Me {a0 : T_verify_work} {a1 : Int} {a2 : T_Shape} {r : T_verify_work} (h : Cc a0 a1 a2 = some r) : Ctr prog 129 [.ref 0 0, ri a1, .agg (enc_Shape a2)] [(0, .box 212 [.sl false (a0.p.Fns.map enc_Fn), ri a0.fn, .sl false (a0.l.map enc_Schema), .row 1 0 16 0 a0.in_.length, .row 2 0 1 0 a0.is.length, ri a0.at_, rb a0.safe]), (1, .row 217 16 0 (a0.in_.map enc_Shape)), (2, .row 4 1 0 (a0.is.map encBool))] (.tup []) [(0, .box 212 [.sl false (r.p.Fns.map enc_Fn), ri r.fn, .sl false (r.l.map enc_Schema), .row 1 0 16 0 r.in_.length, .row 2 0 1 0 r.is.length, ri r.at_, rb r.safe]), (1, .row 217 16 0 (r.in_.map enc_Shape)), (2, .row 4 1 0 (r.is.map encBool))] := by
 unfold Cc at h;refine Ctr.ofW tabOk func129 rfl call129 3 _ ntmps129 [] rfl rfl rfl (fun B => ?_);refine vs [0,1,5] (fun K hK => ?_);push_cast;apply hK;clear hK K;refine VC.block ?_;refine vs [0,1,5,19] (fun K hK => ?_);push_cast;apply hK;clear hK K;refine vc h (fun hb1 h => ?_) (fun hb1 h => ?_)
 ·refine vl (fun K hK => ?_);push_cast;apply hK;clear hK K;replace h := Option.some.inj h;subst h;exact eN (by push_cast [hb1])
 ·obtain ⟨x2,hx2,h⟩ := po_some h;replace hx2 := idx_some4 hx2;refine vs [0,1,5,30] (fun K hK => ?_);push_cast [hx2];(repeat refine ao ?_);apply hK;clear hK K;refine vc h (fun hb3 h => ?_) (fun hb3 h => ?_)
  ·obtain ⟨x4,hx4,h⟩ := po_some h;replace hx4 := idx_some4 hx4;obtain ⟨r5,hr5,h⟩ := po_some h;obtain ⟨y6,hy6,h⟩ := pl_some h;have hy6l : y6.length = a0.in_.length := by rw [hy6,List.length_set]
   refine vlD [some 38,some 39,some 40,some 41,some 42,some 43,some 44,some 45,some 46,some 47,some 48,some 49,some 50,some 51,some 52,none] (fun K hK => ?_);refine runD_cut 8 (fun K2 hK2 => ?_);push_cast [hx4];(repeat refine ao ?_);refine hK2 _ _ _ ?_;clear hK2 K2;simp only [List.drop_succ_cons,List.drop_zero];push_cast [hx4];(repeat refine ao ?_);refine cpD (Yh hr5) ?_;push_cast [hx4];(repeat refine ao ?_);refine ⟨rfl,hK _ ?_⟩;clear hK K;replace h := Option.some.inj h;subst h;exact eN (by push_cast [hb1,hb3,hy6,hy6l])
  ·obtain ⟨x7,hx7,h⟩ := po_some h;replace hx7 := idx_some4 hx7;obtain ⟨y8,hy8,h⟩ := pl_some h;have hy8l : y8.length = a0.in_.length := by rw [hy8,List.length_set]
   obtain ⟨y9,hy9,h⟩ := pl_some h;have hy9l : y9.length = a0.is.length := by rw [hy9,List.length_set]
   refine vlD [some 6,some 7,some 8,some 9,some 10,some 11,some 12,some 13,some 14,some 15,some 16,some 17,none,some 18,none] (fun K hK => ?_);refine runD_cut 8 (fun K2 hK2 => ?_);push_cast [hx7,hx2];(repeat refine ao ?_);refine hK2 _ _ _ ?_;clear hK2 K2;simp only [List.drop_succ_cons,List.drop_zero];push_cast [hx7,hx2];(repeat refine ao ?_);refine ⟨rfl,hK _ ?_⟩;clear hK K;replace h := Option.some.inj h;subst h;exact eN (by push_cast [hb1,hb3,hy8,hy8l,hy9,hy9l])
noncomputable def Ih (a0 : T_Schema) : Option (Bool) :=
  po (Bw a0) fun r1 =>
  some (!r1)
theorem Wf {a0 : T_Schema} {r : Bool} (h : Ih a0 = some r) : Ctr prog 127 [.agg (enc_Schema a0)] [] (rb r) [] := by
 unfold Ih at h;refine Ctr.ofW tabOk func127 rfl call127 0 _ ntmps127 [.tmp 2] rfl rfl rfl (fun B => ?_);refine vs [1] (fun K hK => ?_);push_cast;apply hK;clear hK K;obtain ⟨r1,hr1,h⟩ := po_some h;refine vs [2] (fun K hK => ?_);push_cast;refine cp (Fi hr1) ?_;push_cast;apply hK;clear hK K;refine VC.ret ?_;replace h := Option.some.inj h;subst h;exact en (by push_cast)
noncomputable def Ax (a0 : T_verify_work) : Option (T_Shape × T_verify_work) :=
  po (idx a0.in_ a0.at_) fun x1 =>
  some (x1, a0)
theorem Cj {a0 : T_verify_work} {r : T_Shape × T_verify_work} (h : Ax a0 = some r) : Ctr prog 213 [.ref 0 0] [(0, .box 212 [.sl false (a0.p.Fns.map enc_Fn), ri a0.fn, .sl false (a0.l.map enc_Schema), .row 1 0 16 0 a0.in_.length, .row 2 0 1 0 a0.is.length, ri a0.at_, rb a0.safe]), (1, .row 217 16 0 (a0.in_.map enc_Shape)), (2, .row 4 1 0 (a0.is.map encBool))] (.agg (enc_Shape r.1)) [(0, .box 212 [.sl false (r.2.p.Fns.map enc_Fn), ri r.2.fn, .sl false (r.2.l.map enc_Schema), .row 1 0 16 0 r.2.in_.length, .row 2 0 1 0 r.2.is.length, ri r.2.at_, rb r.2.safe]), (1, .row 217 16 0 (r.2.in_.map enc_Shape)), (2, .row 4 1 0 (r.2.is.map encBool))] := by
 unfold Ax at h;refine Ctr.ofW tabOk func213 rfl call213 3 _ ntmps213 [.cell 2 217] rfl rfl rfl (fun B => ?_);refine vs [0,2] (fun K hK => ?_);push_cast;apply hK;clear hK K;obtain ⟨x1,hx1,h⟩ := po_some h;replace hx1 := idx_some4 hx1;refine vsD [some 3,some 4,some 5,some 6,some 7,some 8,some 9,some 10,some 11,some 12,none] [2] (fun K hK => ?_);refine runD_cut 8 (fun K2 hK2 => ?_);push_cast [hx1];(repeat refine ao ?_);refine hK2 _ _ _ ?_;clear hK2 K2;simp only [List.drop_succ_cons,List.drop_zero];push_cast [hx1];(repeat refine ao ?_);refine ⟨rfl,hK _ ?_⟩;clear hK K;refine VC.ret ?_;replace h := Option.some.inj h;subst h;exact en (by push_cast [encA8])
noncomputable def Fg (r3 : C128 × Bool) (s_1 : T_verify_work) : Option (C128 × T_verify_work) :=
  some (r3.1, s_1)
noncomputable def Bb (a0 : T_verify_work) (a1 : Int) : Option (C128 × T_verify_work) :=
  po (Ax a0) fun r1 =>
  pg (r1.2 = a0) <|
  po (Gz r1.1 a1) fun r3 =>
  po (
  cond a0.safe (
  some (T_verify_work.mk a0.p a0.fn a0.l a0.in_ a0.is a0.at_ r3.2)) (
  some (T_verify_work.mk a0.p a0.fn a0.l a0.in_ a0.is a0.at_ false))) (fun x => Fg r3 x)
theorem Dm {a0 : T_verify_work} {a1 : Int} {r : C128 × T_verify_work} (h : Bb a0 a1 = some r) : Ctr prog 210 [.ref 0 0, ri a1] [(0, .box 212 [.sl false (a0.p.Fns.map enc_Fn), ri a0.fn, .sl false (a0.l.map enc_Schema), .row 1 0 16 0 a0.in_.length, .row 2 0 1 0 a0.is.length, ri a0.at_, rb a0.safe]), (1, .row 217 16 0 (a0.in_.map enc_Shape)), (2, .row 4 1 0 (a0.is.map encBool))] (.raw (.complex .f64 r.1.re r.1.im)) [(0, .box 212 [.sl false (r.2.p.Fns.map enc_Fn), ri r.2.fn, .sl false (r.2.l.map enc_Schema), .row 1 0 16 0 r.2.in_.length, .row 2 0 1 0 r.2.is.length, ri r.2.at_, rb r.2.safe]), (1, .row 217 16 0 (r.2.in_.map enc_Shape)), (2, .row 4 1 0 (r.2.is.map encBool))] := by
 unfold Bb at h;refine Ctr.ofW tabOk func210 rfl call210 3 _ ntmps210 [.tmp 4] rfl rfl rfl (fun B => ?_);refine vs [0,1] (fun K hK => ?_);push_cast;apply hK;clear hK K;obtain ⟨r1,hr1,h⟩ := po_some h;obtain ⟨hg2,h⟩ := pg_some h;have qr1 := Cj hr1;rw [hg2] at qr1;obtain ⟨r3,hr3,h⟩ := po_some h;refine vs [0,5,6] (fun K hK => ?_);push_cast;refine chR (H := [(0,.box 212 [.sl false (a0.p.Fns.map enc_Fn),ri a0.fn,.sl false (a0.l.map enc_Schema),.row 1 0 16 0 a0.in_.length,.row 2 0 1 0 a0.is.length,ri a0.at_,rb a0.safe]),(1,.row 217 16 0 (a0.in_.map enc_Shape)),(2,.row 4 1 0 (a0.is.map encBool))]) (Ctr.loH (Ctr.ren Bij.id (qr1) (by push_cast) (by push_cast))) (by push_cast) (by push_cast) ?_;push_cast;refine cp (Wg hr3) ?_;push_cast;apply hK;clear hK K;refine VC.sub (s' := ⟨[(0,.ref 0 0),(5,.raw (.complex .f64 r3.1.re r3.1.im)),(6,rb r3.2)],[(0,.box 212 [.sl false (a0.p.Fns.map enc_Fn),ri a0.fn,.sl false (a0.l.map enc_Schema),.row 1 0 16 0 a0.in_.length,.row 2 0 1 0 a0.is.length,ri a0.at_,rb a0.safe]),(1,.row 217 16 0 (a0.in_.map enc_Shape)),(2,.row 4 1 0 (a0.is.map encBool))],13,25,3⟩) (so (by push_cast)) ?_;refine vj h (fun x => ⟨[(5,.raw (.complex .f64 r3.1.re r3.1.im))],[(0,.box 212 [.sl false (x.p.Fns.map enc_Fn),ri x.fn,.sl false (x.l.map enc_Schema),.row 1 0 16 0 x.in_.length,.row 2 0 1 0 x.is.length,ri x.at_,rb x.safe]),(1,.row 217 16 0 (x.in_.map enc_Shape)),(2,.row 4 1 0 (x.is.map encBool))],24,25,3⟩) (fun v4 h hk4 => ?_) ?_
 ·rcases Bool.eq_false_or_eq_true a0.safe with hb5 | hb5
  ·replace h := cond_yes hb5 h;refine vlG [some 14,some 15,some 16,some 17,some 18,some 19,some 20,some 21,some 22,some 23,none] (fun K hK => ?_);refine runOps_cut 8 (fun K2 hK2 => ?_);push_cast [hb5];(repeat refine ao ?_);refine hK2 _ _ ?_;clear hK2 K2;simp only [List.drop_succ_cons,List.drop_zero];push_cast [hb5];(repeat refine ao ?_);apply hK;clear hK K;refine ar h hk4 ?_;exact sl (by push_cast [hb5])
  ·replace h := cond_no hb5 h;refine vlG [some 14,some 15,some 16,some 17,some 18,some 19,some 20,some 21,some 22,some 23,none] (fun K hK => ?_);refine runOps_cut 8 (fun K2 hK2 => ?_);push_cast [hb5];(repeat refine ao ?_);refine hK2 _ _ ?_;clear hK2 K2;simp only [List.drop_succ_cons,List.drop_zero];push_cast [hb5];(repeat refine ao ?_);apply hK;clear hK K;refine ar h hk4 ?_;exact sl (by push_cast [hb5])
 ·rintro s_1 (h : Fg r3 s_1 = some r);(try push_cast);unfold Fg at h;refine vs [4] (fun K hK => ?_);push_cast;apply hK;clear hK K;refine VC.ret ?_;replace h := Option.some.inj h;subst h;exact en (by push_cast)
noncomputable def Bp (a0 : T_verify_work) (a1 : T_Shape) : Option (T_verify_work) :=
  cond a0.safe (
  po (Cc a0 (IntKind.i64.wrap (a0.at_ + 1)) a1) fun r2 =>
  some r2) (
  some a0)
theorem Kk {a0 : T_verify_work} {a1 : T_Shape} {r : T_verify_work} (h : Bp a0 a1 = some r) : Ctr prog 217 [.ref 0 0, .agg (enc_Shape a1)] [(0, .box 212 [.sl false (a0.p.Fns.map enc_Fn), ri a0.fn, .sl false (a0.l.map enc_Schema), .row 1 0 16 0 a0.in_.length, .row 2 0 1 0 a0.is.length, ri a0.at_, rb a0.safe]), (1, .row 217 16 0 (a0.in_.map enc_Shape)), (2, .row 4 1 0 (a0.is.map encBool))] (.tup []) [(0, .box 212 [.sl false (r.p.Fns.map enc_Fn), ri r.fn, .sl false (r.l.map enc_Schema), .row 1 0 16 0 r.in_.length, .row 2 0 1 0 r.is.length, ri r.at_, rb r.safe]), (1, .row 217 16 0 (r.in_.map enc_Shape)), (2, .row 4 1 0 (r.is.map encBool))] := by
 unfold Bp at h;refine Ctr.ofW tabOk func217 rfl call217 3 _ ntmps217 [] rfl rfl rfl (fun B => ?_);refine vs [0,3] (fun K hK => ?_);push_cast;apply hK;clear hK K;refine vs [0,3,7] (fun K hK => ?_);push_cast;apply hK;clear hK K;refine vc h (fun hb1 h => ?_) (fun hb1 h => ?_)
 ·obtain ⟨r2,hr2,h⟩ := po_some h;refine vlD [some 8,some 9,some 10,some 11,some 12,some 13,some 14,some 15] (fun K hK => ?_);push_cast;refine chD (H := [(0,.box 212 [.sl false (a0.p.Fns.map enc_Fn),ri a0.fn,.sl false (a0.l.map enc_Schema),.row 1 0 16 0 a0.in_.length,.row 2 0 1 0 a0.is.length,ri a0.at_,rb a0.safe]),(1,.row 217 16 0 (a0.in_.map enc_Shape)),(2,.row 4 1 0 (a0.is.map encBool))]) (Ctr.loH (Ctr.ren Bij.id (Me hr2) (by push_cast) (by push_cast))) (by push_cast) ?_;push_cast;refine ⟨rfl,hK _ ?_⟩;clear hK K;replace h := Option.some.inj h;subst h;exact eN (by push_cast [hb1])
 ·refine VC.skip ?_;replace h := Option.some.inj h;subst h;exact eN (by push_cast [hb1])
end Go.Proofs.YtcffmheeofjifaaGreat
