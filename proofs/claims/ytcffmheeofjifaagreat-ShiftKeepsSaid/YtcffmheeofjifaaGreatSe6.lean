/- Packed texts: Qverifyworkput, Qverifyworkword, Qverifyworkalu, Qverifyworkhanded, Qverifyworkcall, Qverifyworkwithin, Qverifyworkctx, Qverifyworkexit, Qverifyworkhelp, Qverifyworkjump1, Qverifyworkjump, Qverifyworkload, Qverifyworkstore, Qverifykinds, QslicesIndexFuncapiSchemaapiSchemaverifyShapes1, QslicesContainsFuncapiSchemaapiSchemaverifyShapes1, QverifyShapes, Qverifyinside, QverifyVerify, Sk6, Sk7, Qdrydockref01Words, QschemaStep, QshiftFits, Qshiftmay, Qshiftput, QshiftImage, QshiftOne, Qdrydocklaw18awake, Vl, Vq18, Vqa18, Qdrydockref03Few, Qdrydocklaw18few. -/
import Derived.Test.YtcffmheeofjifaaGreatSe5
import Derived.Lib.Hide
set_option linter.unusedVariables false
set_option linter.unusedSimpArgs false
set_option maxHeartbeats 4000000
set_option maxRecDepth 100000
namespace Go.Proofs.YtcffmheeofjifaaGreat
open Go Go.RowKit Go.Proofs.Tryz
noncomputable def Cg (a0 : T_verify_work) (a1 : Int) (a2 : C128) : Option (T_verify_work) :=
  po (Ax a0) fun r1 =>
  pg (r1.2 = a0) <|
  po (Ey r1.1 a1 a2) fun r3 =>
  po (Bp a0 r3) fun r4 =>
  some r4
theorem Oa {a0 : T_verify_work} {a1 : Int} {a2 : C128} {r : T_verify_work} (h : Cg a0 a1 a2 = some r) : Ctr prog 211 [.ref 0 0, ri a1, .raw (.complex .f64 a2.re a2.im)] [(0, .box 212 [.sl false (a0.p.Fns.map enc_Fn), ri a0.fn, .sl false (a0.l.map enc_Schema), .row 1 0 16 0 a0.in_.length, .row 2 0 1 0 a0.is.length, ri a0.at_, rb a0.safe]), (1, .row 217 16 0 (a0.in_.map enc_Shape)), (2, .row 4 1 0 (a0.is.map encBool))] (.tup []) [(0, .box 212 [.sl false (r.p.Fns.map enc_Fn), ri r.fn, .sl false (r.l.map enc_Schema), .row 1 0 16 0 r.in_.length, .row 2 0 1 0 r.is.length, ri r.at_, rb r.safe]), (1, .row 217 16 0 (r.in_.map enc_Shape)), (2, .row 4 1 0 (r.is.map encBool))] := by
 unfold Cg at h;refine Ctr.ofW tabOk func211 rfl call211 3 _ ntmps211 [] rfl rfl rfl (fun B => ?_);obtain ⟨r1,hr1,h⟩ := po_some h;obtain ⟨hg2,h⟩ := pg_some h;have qr1 := Cj hr1;rw [hg2] at qr1;obtain ⟨r3,hr3,h⟩ := po_some h;obtain ⟨r4,hr4,h⟩ := po_some h;refine vl (fun K hK => ?_);push_cast;refine chR (H := [(0,.box 212 [.sl false (a0.p.Fns.map enc_Fn),ri a0.fn,.sl false (a0.l.map enc_Schema),.row 1 0 16 0 a0.in_.length,.row 2 0 1 0 a0.is.length,ri a0.at_,rb a0.safe]),(1,.row 217 16 0 (a0.in_.map enc_Shape)),(2,.row 4 1 0 (a0.is.map encBool))]) (Ctr.loH (Ctr.ren Bij.id (qr1) (by push_cast) (by push_cast))) (by push_cast) (by push_cast) ?_;push_cast;refine cp (Ql hr3) ?_;push_cast;refine ch (H := [(0,.box 212 [.sl false (a0.p.Fns.map enc_Fn),ri a0.fn,.sl false (a0.l.map enc_Schema),.row 1 0 16 0 a0.in_.length,.row 2 0 1 0 a0.is.length,ri a0.at_,rb a0.safe]),(1,.row 217 16 0 (a0.in_.map enc_Shape)),(2,.row 4 1 0 (a0.is.map encBool))]) (Ctr.loH (Ctr.ren Bij.id (Kk hr4) (by push_cast) (by push_cast))) (by push_cast) ?_;push_cast;apply hK;clear hK K;replace h := Option.some.inj h;subst h;exact eN (by push_cast)
noncomputable def Hw (r3 : C128 × Bool) (s_1 : T_verify_work) : Option (C128 × T_verify_work) :=
  some (r3.1, s_1)
noncomputable def Bi (a0 : T_verify_work) (a1 : T_Inst) : Option (C128 × T_verify_work) :=
  po (Ax a0) fun r1 =>
  pg (r1.2 = a0) <|
  po (Ji r1.1 a1) fun r3 =>
  po (
  cond a0.safe (
  some (T_verify_work.mk a0.p a0.fn a0.l a0.in_ a0.is a0.at_ r3.2)) (
  some (T_verify_work.mk a0.p a0.fn a0.l a0.in_ a0.is a0.at_ false))) (fun x => Hw r3 x)
theorem Hh {a0 : T_verify_work} {a1 : T_Inst} {r : C128 × T_verify_work} (h : Bi a0 a1 = some r) : Ctr prog 209 [.ref 0 0, .agg (enc_Inst a1)] [(0, .box 212 [.sl false (a0.p.Fns.map enc_Fn), ri a0.fn, .sl false (a0.l.map enc_Schema), .row 1 0 16 0 a0.in_.length, .row 2 0 1 0 a0.is.length, ri a0.at_, rb a0.safe]), (1, .row 217 16 0 (a0.in_.map enc_Shape)), (2, .row 4 1 0 (a0.is.map encBool))] (.raw (.complex .f64 r.1.re r.1.im)) [(0, .box 212 [.sl false (r.2.p.Fns.map enc_Fn), ri r.2.fn, .sl false (r.2.l.map enc_Schema), .row 1 0 16 0 r.2.in_.length, .row 2 0 1 0 r.2.is.length, ri r.2.at_, rb r.2.safe]), (1, .row 217 16 0 (r.2.in_.map enc_Shape)), (2, .row 4 1 0 (r.2.is.map encBool))] := by
 unfold Bi at h;refine Ctr.ofW tabOk func209 rfl call209 3 _ ntmps209 [.tmp 4] rfl rfl rfl (fun B => ?_);refine vs [0,3] (fun K hK => ?_);push_cast;apply hK;clear hK K;obtain ⟨r1,hr1,h⟩ := po_some h;obtain ⟨hg2,h⟩ := pg_some h;have qr1 := Cj hr1;rw [hg2] at qr1;obtain ⟨r3,hr3,h⟩ := po_some h;refine vsD [some 8,some 9,some 10,some 11,some 7,some 12,some 13,some 5,some 6] [0,5,6] (fun K hK => ?_);push_cast;refine chRD (H := [(0,.box 212 [.sl false (a0.p.Fns.map enc_Fn),ri a0.fn,.sl false (a0.l.map enc_Schema),.row 1 0 16 0 a0.in_.length,.row 2 0 1 0 a0.is.length,ri a0.at_,rb a0.safe]),(1,.row 217 16 0 (a0.in_.map enc_Shape)),(2,.row 4 1 0 (a0.is.map encBool))]) (Ctr.loH (Ctr.ren Bij.id (qr1) (by push_cast) (by push_cast))) (by push_cast) (by push_cast) ?_;push_cast;refine cpD (Yk hr3) ?_;push_cast;refine ⟨rfl,hK _ ?_⟩;clear hK K;refine VC.sub (s' := ⟨[(0,.ref 0 0),(5,.raw (.complex .f64 r3.1.re r3.1.im)),(6,rb r3.2)],[(0,.box 212 [.sl false (a0.p.Fns.map enc_Fn),ri a0.fn,.sl false (a0.l.map enc_Schema),.row 1 0 16 0 a0.in_.length,.row 2 0 1 0 a0.is.length,ri a0.at_,rb a0.safe]),(1,.row 217 16 0 (a0.in_.map enc_Shape)),(2,.row 4 1 0 (a0.is.map encBool))],14,25,3⟩) (so (by push_cast)) ?_;refine vj h (fun x => ⟨[(5,.raw (.complex .f64 r3.1.re r3.1.im))],[(0,.box 212 [.sl false (x.p.Fns.map enc_Fn),ri x.fn,.sl false (x.l.map enc_Schema),.row 1 0 16 0 x.in_.length,.row 2 0 1 0 x.is.length,ri x.at_,rb x.safe]),(1,.row 217 16 0 (x.in_.map enc_Shape)),(2,.row 4 1 0 (x.is.map encBool))],25,25,3⟩) (fun v4 h hk4 => ?_) ?_
 ·rcases Bool.eq_false_or_eq_true a0.safe with hb5 | hb5
  ·replace h := cond_yes hb5 h;refine vlG [some 14,some 15,some 16,some 17,some 18,some 19,some 20,some 21,some 22,some 23,none] (fun K hK => ?_);refine runOps_cut 8 (fun K2 hK2 => ?_);push_cast [hb5];(repeat refine ao ?_);refine hK2 _ _ ?_;clear hK2 K2;simp only [List.drop_succ_cons,List.drop_zero];push_cast [hb5];(repeat refine ao ?_);apply hK;clear hK K;refine ar h hk4 ?_;exact sl (by push_cast [hb5])
  ·replace h := cond_no hb5 h;refine vlG [some 14,some 15,some 16,some 17,some 18,some 19,some 20,some 21,some 22,some 23,none] (fun K hK => ?_);refine runOps_cut 8 (fun K2 hK2 => ?_);push_cast [hb5];(repeat refine ao ?_);refine hK2 _ _ ?_;clear hK2 K2;simp only [List.drop_succ_cons,List.drop_zero];push_cast [hb5];(repeat refine ao ?_);apply hK;clear hK K;refine ar h hk4 ?_;exact sl (by push_cast [hb5])
 ·rintro s_1 (h : Hw r3 s_1 = some r);(try push_cast);unfold Hw at h;refine vs [4] (fun K hK => ?_);push_cast;apply hK;clear hK K;refine VC.ret ?_;replace h := Option.some.inj h;subst h;exact en (by push_cast)
noncomputable def Ip (a1 : T_Inst) (r2 : C128 × T_verify_work) (s_1 : T_verify_work) (i_2 : C128) : Option (T_verify_work) :=
  po (Nd a1.Fn i_2 r2.1) fun r6 =>
  po (Cg s_1 a1.Dst r6) fun r7 =>
  some r7
noncomputable def Fo (a0 : T_verify_work) (a1 : T_Inst) : Option (T_verify_work) :=
  po (Ez 0 4294967295) fun r1 =>
  po (Bi a0 a1) fun r2 =>
  po (
  cond (a1.Fn != 0) (
  po (Bb r2.2 a1.Dst) fun r5 =>
  some (r5.2, r5.1)) (
  some (r2.2, r1))) (fun x => Ip a1 r2 x.1 x.2)
theorem Wc {a0 : T_verify_work} {a1 : T_Inst} {r : T_verify_work} (h : Fo a0 a1 = some r) : Ctr prog 175 [.ref 0 0, .agg (enc_Inst a1)] [(0, .box 212 [.sl false (a0.p.Fns.map enc_Fn), ri a0.fn, .sl false (a0.l.map enc_Schema), .row 1 0 16 0 a0.in_.length, .row 2 0 1 0 a0.is.length, ri a0.at_, rb a0.safe]), (1, .row 217 16 0 (a0.in_.map enc_Shape)), (2, .row 4 1 0 (a0.is.map encBool))] (.tup []) [(0, .box 212 [.sl false (r.p.Fns.map enc_Fn), ri r.fn, .sl false (r.l.map enc_Schema), .row 1 0 16 0 r.in_.length, .row 2 0 1 0 r.is.length, ri r.at_, rb r.safe]), (1, .row 217 16 0 (r.in_.map enc_Shape)), (2, .row 4 1 0 (r.is.map encBool))] := by
 unfold Fo at h;refine Ctr.ofW tabOk func175 rfl call175 3 _ ntmps175 [] rfl rfl rfl (fun B => ?_);refine vs [0,3] (fun K hK => ?_);push_cast;apply hK;clear hK K;obtain ⟨r1,hr1,h⟩ := po_some h;obtain ⟨r2,hr2,h⟩ := po_some h;refine vsD [some 6,some 7,some 8,some 9,some 4,some 5] [0,3,4,5] (fun K hK => ?_);push_cast;refine cpD (Og hr1) ?_;push_cast;refine chD (H := [(0,.box 212 [.sl false (a0.p.Fns.map enc_Fn),ri a0.fn,.sl false (a0.l.map enc_Schema),.row 1 0 16 0 a0.in_.length,.row 2 0 1 0 a0.is.length,ri a0.at_,rb a0.safe]),(1,.row 217 16 0 (a0.in_.map enc_Shape)),(2,.row 4 1 0 (a0.is.map encBool))]) (Ctr.loH (Ctr.ren Bij.id (Hh hr2) (by push_cast) (by push_cast))) (by push_cast) ?_;push_cast;refine ⟨rfl,hK _ ?_⟩;clear hK K;refine VC.sub (s' := ⟨[(0,.ref 0 0),(3,.ref 3 0),(4,.raw (.complex .f64 r1.re r1.im)),(5,.raw (.complex .f64 r2.1.re r2.1.im))],[(0,.box 212 [.sl false (r2.2.p.Fns.map enc_Fn),ri r2.2.fn,.sl false (r2.2.l.map enc_Schema),.row 1 0 16 0 r2.2.in_.length,.row 2 0 1 0 r2.2.is.length,ri r2.2.at_,rb r2.2.safe]),(1,.row 217 16 0 (r2.2.in_.map enc_Shape)),(2,.row 4 1 0 (r2.2.is.map encBool)),(3,.box 37 (enc_Inst a1))],10,26,3⟩) (so (by push_cast)) ?_;refine vj h (fun x => ⟨[(0,.ref 0 0),(3,.ref 3 0),(4,.raw (.complex .f64 x.2.re x.2.im)),(5,.raw (.complex .f64 r2.1.re r2.1.im))],[(0,.box 212 [.sl false (x.1.p.Fns.map enc_Fn),ri x.1.fn,.sl false (x.1.l.map enc_Schema),.row 1 0 16 0 x.1.in_.length,.row 2 0 1 0 x.1.is.length,ri x.1.at_,rb x.1.safe]),(1,.row 217 16 0 (x.1.in_.map enc_Shape)),(2,.row 4 1 0 (x.1.is.map encBool)),(3,.box 37 (enc_Inst a1))],18,26,3⟩) (fun v3 h hk3 => ?_) ?_
 ·refine vs [0,3,4,5,12] (fun K hK => ?_);push_cast;apply hK;clear hK K;refine vc h (fun hb4 h => ?_) (fun hb4 h => ?_)
  ·obtain ⟨r5,hr5,h⟩ := po_some h;refine vl (fun K hK => ?_);push_cast;refine ch (H := [(0,.box 212 [.sl false (r2.2.p.Fns.map enc_Fn),ri r2.2.fn,.sl false (r2.2.l.map enc_Schema),.row 1 0 16 0 r2.2.in_.length,.row 2 0 1 0 r2.2.is.length,ri r2.2.at_,rb r2.2.safe]),(1,.row 217 16 0 (r2.2.in_.map enc_Shape)),(2,.row 4 1 0 (r2.2.is.map encBool))]) (Ctr.loH (Ctr.ren Bij.id (Dm hr5) (by push_cast) (by push_cast))) (by push_cast) ?_;push_cast;apply hK;clear hK K;refine ar h hk3 ?_;exact sl (by push_cast [hb4])
  ·refine VC.skip ?_;refine ar h hk3 ?_;exact sl (by push_cast [hb4])
 ·rintro ⟨s_1,i_2⟩ (h : Ip a1 r2 s_1 i_2 = some r);(try push_cast);unfold Ip at h;obtain ⟨r6,hr6,h⟩ := po_some h;obtain ⟨r7,hr7,h⟩ := po_some h;refine vlD [some 17,some 18,some 19,some 20,some 21,some 22,some 23,some 24,some 25] (fun K hK => ?_);push_cast;refine cpD (Yi hr6) ?_;push_cast;refine chD (H := [(0,.box 212 [.sl false (s_1.p.Fns.map enc_Fn),ri s_1.fn,.sl false (s_1.l.map enc_Schema),.row 1 0 16 0 s_1.in_.length,.row 2 0 1 0 s_1.is.length,ri s_1.at_,rb s_1.safe]),(1,.row 217 16 0 (s_1.in_.map enc_Shape)),(2,.row 4 1 0 (s_1.is.map encBool))]) (Ctr.loH (Ctr.ren Bij.id (Oa hr7) (by push_cast) (by push_cast))) (by push_cast) ?_;push_cast;refine ⟨rfl,hK _ ?_⟩;clear hK K;replace h := Option.some.inj h;subst h;exact eN (by push_cast)
noncomputable def Dl (a1 : Int) (s_1 : T_verify_work) (i_2 : Int) : Option ((T_verify_work × Int) ⊕ (T_verify_work)) :=
  cond (decide (i_2 < a1)) (
  po (Bb s_1 (IntKind.i64.wrap (i_2 + 1))) fun r3 =>
  some (Sum.inl (r3.2, (IntKind.i64.wrap (i_2 + 1))))) (
  some (Sum.inr s_1))
noncomputable def Cm (a0 : T_verify_work) (a1 : Int) : Option (T_verify_work) :=
  lpU (fun x => Dl a1 x.1 x.2) (a0, 0)
theorem Pv {a0 : T_verify_work} {a1 : Int} {r : T_verify_work} (h : Cm a0 a1 = some r) : Ctr prog 218 [.ref 0 0, ri a1] [(0, .box 212 [.sl false (a0.p.Fns.map enc_Fn), ri a0.fn, .sl false (a0.l.map enc_Schema), .row 1 0 16 0 a0.in_.length, .row 2 0 1 0 a0.is.length, ri a0.at_, rb a0.safe]), (1, .row 217 16 0 (a0.in_.map enc_Shape)), (2, .row 4 1 0 (a0.is.map encBool))] (.tup []) [(0, .box 212 [.sl false (r.p.Fns.map enc_Fn), ri r.fn, .sl false (r.l.map enc_Schema), .row 1 0 16 0 r.in_.length, .row 2 0 1 0 r.is.length, ri r.at_, rb r.safe]), (1, .row 217 16 0 (r.in_.map enc_Shape)), (2, .row 4 1 0 (r.is.map encBool))] := by
 unfold Cm at h;refine Ctr.ofW tabOk func218 rfl call218 3 _ ntmps218 [] rfl rfl rfl (fun B => ?_);refine vs [0,5,6] (fun K hK => ?_);push_cast;apply hK;clear hK K;refine VC.block ?_;refine VC.loopP h (fun x => ⟨[(0,.ref 0 0),(5,ri a1),(6,ri x.2)],[(0,.box 212 [.sl false (x.1.p.Fns.map enc_Fn),ri x.1.fn,.sl false (x.1.l.map enc_Schema),.row 1 0 16 0 x.1.in_.length,.row 2 0 1 0 x.1.is.length,ri x.1.at_,rb x.1.safe]),(1,.row 217 16 0 (x.1.in_.map enc_Shape)),(2,.row 4 1 0 (x.1.is.map encBool))],14,14,3⟩) ?_ ?_
 ·exact sl (by push_cast)
 rintro ⟨s_1,i_2⟩ b1 (h : Dl a1 s_1 i_2 = some b1) hf1;(try push_cast);unfold Dl at h;refine vs [0,5,6,7] (fun K hK => ?_);push_cast;apply hK;clear hK K;refine VC.seq ?_;refine vc h (fun hb2 h => ?_) (fun hb2 h => ?_)
 ·refine VC.skip ?_;refine VC.seq ?_;refine VC.block ?_;refine vs [0,4,5,6] (fun K hK => ?_);push_cast;apply hK;clear hK K;obtain ⟨r3,hr3,h⟩ := po_some h;refine vl (fun K hK => ?_);push_cast;refine ch (H := [(0,.box 212 [.sl false (s_1.p.Fns.map enc_Fn),ri s_1.fn,.sl false (s_1.l.map enc_Schema),.row 1 0 16 0 s_1.in_.length,.row 2 0 1 0 s_1.is.length,ri s_1.at_,rb s_1.safe]),(1,.row 217 16 0 (s_1.in_.map enc_Shape)),(2,.row 4 1 0 (s_1.is.map encBool))]) (Ctr.loH (Ctr.ren Bij.id (Dm hr3) (by push_cast) (by push_cast))) (by push_cast) ?_;push_cast;apply hK;clear hK K;refine vl (fun K hK => ?_);push_cast;apply hK;clear hK K;refine bk h ?_;exact sl (by push_cast [hb2])
 ·refine VC.exit ?_;replace h := ol h hf1;replace h := Option.some.inj h;subst h;exact eN (by push_cast [hb2])
noncomputable def Hl (a1 : T_Inst) (s_1 : T_verify_work) : Option (T_verify_work) :=
  cond (!s_1.safe) (
  some s_1) (
  po (s_1.p.Fns[a1.Imm.toNat]?) fun x4 =>
  po (Cm s_1 x4.Args) fun r5 =>
  po (Ax r5) fun r6 =>
  pg (r6.2 = r5) <|
  po (Ld r6.1) fun r8 =>
  po (Bp r5 r8) fun r9 =>
  some r9)
noncomputable def Eu (a0 : T_verify_work) (a1 : T_Inst) : Option (T_verify_work) :=
  po (
  cond (decide ((IntKind.u64.wrap (a1.Imm.toNat : Int)) < (IntKind.u64.wrap (a0.p.Fns.length : Int)))) (
  some (T_verify_work.mk a0.p a0.fn a0.l a0.in_ a0.is a0.at_ (decide ((a1.Imm.toNat : Int) > a0.fn)))) (
  some (T_verify_work.mk a0.p a0.fn a0.l a0.in_ a0.is a0.at_ false))) (fun x => Hl a1 x)
theorem Vu {a0 : T_verify_work} {a1 : T_Inst} {r : T_verify_work} (h : Eu a0 a1 = some r) : Ctr prog 181 [.ref 0 0, .agg (enc_Inst a1)] [(0, .box 212 [.sl false (a0.p.Fns.map enc_Fn), ri a0.fn, .sl false (a0.l.map enc_Schema), .row 1 0 16 0 a0.in_.length, .row 2 0 1 0 a0.is.length, ri a0.at_, rb a0.safe]), (1, .row 217 16 0 (a0.in_.map enc_Shape)), (2, .row 4 1 0 (a0.is.map encBool))] (.tup []) [(0, .box 212 [.sl false (r.p.Fns.map enc_Fn), ri r.fn, .sl false (r.l.map enc_Schema), .row 1 0 16 0 r.in_.length, .row 2 0 1 0 r.is.length, ri r.at_, rb r.safe]), (1, .row 217 16 0 (r.in_.map enc_Shape)), (2, .row 4 1 0 (r.is.map encBool))] := by
 unfold Eu at h;refine Ctr.ofW tabOk func181 rfl call181 3 _ ntmps181 [] rfl rfl rfl (fun B => ?_);refine vs [0,3] (fun K hK => ?_);push_cast;apply hK;clear hK K;refine VC.seq ?_;refine vj h (fun x => ⟨[(0,.ref 0 0),(3,.ref 3 0)],[(0,.box 212 [.sl false (x.p.Fns.map enc_Fn),ri x.fn,.sl false (x.l.map enc_Schema),.row 1 0 16 0 x.in_.length,.row 2 0 1 0 x.is.length,ri x.at_,rb x.safe]),(1,.row 217 16 0 (x.in_.map enc_Shape)),(2,.row 4 1 0 (x.is.map encBool)),(3,.box 37 (enc_Inst a1))],29,50,3⟩) (fun v1 h hk1 => ?_) ?_
 ·rcases Bool.eq_false_or_eq_true (decide ((IntKind.u64.wrap (a1.Imm.toNat : Int)) < (IntKind.u64.wrap (a0.p.Fns.length : Int)))) with hb2 | hb2
  ·replace h := cond_yes hb2 h;refine vlD [some 4,some 5,some 6,some 7,some 8,some 9,some 10,some 11,some 12,some 13,some 14,some 15,some 16,some 17,some 18,some 19,some 20,some 21,some 22,some 23,some 24,some 25,some 26,some 27,none] (fun K hK => ?_);refine runD_cut 8 (fun K2 hK2 => ?_);push_cast [hb2];(repeat refine ao ?_);refine hK2 _ _ _ ?_;clear hK2 K2;simp only [List.drop_succ_cons,List.drop_zero];refine runD_cut 8 (fun K2 hK2 => ?_);push_cast [hb2];(repeat refine ao ?_);refine hK2 _ _ _ ?_;clear hK2 K2;simp only [List.drop_succ_cons,List.drop_zero];push_cast [hb2];(repeat refine ao ?_);refine ⟨rfl,hK _ ?_⟩;clear hK K;refine ar h hk1 ?_;exact sl (by push_cast [hb2])
  ·replace h := cond_no hb2 h;refine vlD [some 4,some 5,some 6,some 7,some 8,some 9,some 10,some 11,some 12,some 13,some 14,some 15,some 16,some 17,some 18,some 19,some 20,some 21,some 22,some 23,some 24,some 25,some 26,some 27,none] (fun K hK => ?_);refine runD_cut 8 (fun K2 hK2 => ?_);push_cast [hb2];(repeat refine ao ?_);refine hK2 _ _ _ ?_;clear hK2 K2;simp only [List.drop_succ_cons,List.drop_zero];refine runD_cut 8 (fun K2 hK2 => ?_);push_cast [hb2];(repeat refine ao ?_);refine hK2 _ _ _ ?_;clear hK2 K2;simp only [List.drop_succ_cons,List.drop_zero];push_cast [hb2];(repeat refine ao ?_);refine ⟨rfl,hK _ ?_⟩;clear hK K;refine ar h hk1 ?_;exact sl (by push_cast [hb2])
 ·rintro s_1 (h : Hl a1 s_1 = some r);(try push_cast);unfold Hl at h;refine vs [0,3,32] (fun K hK => ?_);push_cast;apply hK;clear hK K;refine vc h (fun hb3 h => ?_) (fun hb3 h => ?_)
  ·refine VC.ret ?_;replace h := Option.some.inj h;subst h;exact en (by push_cast [hb3])
  ·refine VC.skip ?_;obtain ⟨x4,hx4,h⟩ := po_some h;replace hx4 := gL hx4;obtain ⟨r5,hr5,h⟩ := po_some h;refine vsD [some 33,some 34,some 35,some 36,some 37,some 38,some 39,some 40,some 41,some 42,some 43,some 44] [0] (fun K hK => ?_);refine runD_cut 8 (fun K2 hK2 => ?_);push_cast [hx4];(repeat refine ao ?_);refine hK2 _ _ _ ?_;clear hK2 K2;simp only [List.drop_succ_cons,List.drop_zero];push_cast [hx4];(repeat refine ao ?_);refine chD (H := [(0,.box 212 [.sl false (s_1.p.Fns.map enc_Fn),ri s_1.fn,.sl false (s_1.l.map enc_Schema),.row 1 0 16 0 s_1.in_.length,.row 2 0 1 0 s_1.is.length,ri s_1.at_,rb s_1.safe]),(1,.row 217 16 0 (s_1.in_.map enc_Shape)),(2,.row 4 1 0 (s_1.is.map encBool))]) (Ctr.loH (Ctr.ren Bij.id (Pv hr5) (by push_cast [hx4]) (by push_cast [hx4]))) (by push_cast [hx4]) ?_;push_cast [hx4];(repeat refine ao ?_);refine ⟨rfl,hK _ ?_⟩;clear hK K;refine VC.sub (s' := ⟨[(0,.ref 0 0)],[(0,.box 212 [.sl false (r5.p.Fns.map enc_Fn),ri r5.fn,.sl false (r5.l.map enc_Schema),.row 1 0 16 0 r5.in_.length,.row 2 0 1 0 r5.is.length,ri r5.at_,rb r5.safe]),(1,.row 217 16 0 (r5.in_.map enc_Shape)),(2,.row 4 1 0 (r5.is.map encBool))],46,50,3⟩) (so (by push_cast [hb3])) ?_;obtain ⟨r6,hr6,h⟩ := po_some h;obtain ⟨hg7,h⟩ := pg_some h;have qr6 := Cj hr6;rw [hg7] at qr6;obtain ⟨r8,hr8,h⟩ := po_some h;obtain ⟨r9,hr9,h⟩ := po_some h;refine vl (fun K hK => ?_);push_cast;refine chR (H := [(0,.box 212 [.sl false (r5.p.Fns.map enc_Fn),ri r5.fn,.sl false (r5.l.map enc_Schema),.row 1 0 16 0 r5.in_.length,.row 2 0 1 0 r5.is.length,ri r5.at_,rb r5.safe]),(1,.row 217 16 0 (r5.in_.map enc_Shape)),(2,.row 4 1 0 (r5.is.map encBool))]) (Ctr.loH (Ctr.ren Bij.id (qr6) (by push_cast) (by push_cast))) (by push_cast) (by push_cast) ?_;push_cast;refine cp (Vg hr8) ?_;push_cast;refine ch (H := [(0,.box 212 [.sl false (r5.p.Fns.map enc_Fn),ri r5.fn,.sl false (r5.l.map enc_Schema),.row 1 0 16 0 r5.in_.length,.row 2 0 1 0 r5.is.length,ri r5.at_,rb r5.safe]),(1,.row 217 16 0 (r5.in_.map enc_Shape)),(2,.row 4 1 0 (r5.is.map encBool))]) (Ctr.loH (Ctr.ren Bij.id (Kk hr9) (by push_cast) (by push_cast))) (by push_cast) ?_;push_cast;apply hK;clear hK K;replace h := Option.some.inj h;subst h;exact eN (by push_cast [hb3])
noncomputable def Bn (a0 : T_verify_work) (a1 : C128) (a2 : Int) : Option (T_verify_work) :=
  po (Jz a1) fun r1 =>
  cond a0.safe (
  cond r1.2.2 (
  some (T_verify_work.mk a0.p a0.fn a0.l a0.in_ a0.is a0.at_ (decide ((IntKind.u64.wrap (r1.2.1.toNat : Int)) < (IntKind.u64.wrap a2))))) (
  some (T_verify_work.mk a0.p a0.fn a0.l a0.in_ a0.is a0.at_ false))) (
  some (T_verify_work.mk a0.p a0.fn a0.l a0.in_ a0.is a0.at_ false))
theorem Il {a0 : T_verify_work} {a1 : C128} {a2 : Int} {r : T_verify_work} (h : Bn a0 a1 a2 = some r) : Ctr prog 216 [.ref 0 0, .raw (.complex .f64 a1.re a1.im), ri a2] [(0, .box 212 [.sl false (a0.p.Fns.map enc_Fn), ri a0.fn, .sl false (a0.l.map enc_Schema), .row 1 0 16 0 a0.in_.length, .row 2 0 1 0 a0.is.length, ri a0.at_, rb a0.safe]), (1, .row 217 16 0 (a0.in_.map enc_Shape)), (2, .row 4 1 0 (a0.is.map encBool))] (.tup []) [(0, .box 212 [.sl false (r.p.Fns.map enc_Fn), ri r.fn, .sl false (r.l.map enc_Schema), .row 1 0 16 0 r.in_.length, .row 2 0 1 0 r.is.length, ri r.at_, rb r.safe]), (1, .row 217 16 0 (r.in_.map enc_Shape)), (2, .row 4 1 0 (r.is.map encBool))] := by
 unfold Bn at h;refine Ctr.ofW tabOk func216 rfl call216 3 _ ntmps216 [] rfl rfl rfl (fun B => ?_);obtain ⟨r1,hr1,h⟩ := po_some h;refine vs [0,2,7,8] (fun K hK => ?_);push_cast;refine cp (Uv hr1) ?_;push_cast;apply hK;clear hK K;rcases Bool.eq_false_or_eq_true a0.safe with hb2 | hb2
 ·replace h := cond_yes hb2 h;rcases Bool.eq_false_or_eq_true r1.2.2 with hb3 | hb3
  ·replace h := cond_yes hb3 h;refine vlG [some 15,some 16,some 17,some 18,some 19,some 20,some 21,some 22,some 23,some 24,some 25,some 26,some 27,some 28,some 29,some 30,some 31,none] (fun K hK => ?_);refine runOps_cut 8 (fun K2 hK2 => ?_);push_cast [hb2,hb3];(repeat refine ao ?_);refine hK2 _ _ ?_;clear hK2 K2;simp only [List.drop_succ_cons,List.drop_zero];push_cast [hb2,hb3];(repeat refine ao ?_);apply hK;clear hK K;replace h := Option.some.inj h;subst h;exact eN (by push_cast [hb2,hb3])
  ·replace h := cond_no hb3 h;refine vlG [some 15,some 16,some 17,some 18,some 19,some 20,some 21,some 22,some 23,some 24,some 25,some 26,some 27,some 28,some 29,some 30,some 31,none] (fun K hK => ?_);refine runOps_cut 8 (fun K2 hK2 => ?_);push_cast [hb2,hb3];(repeat refine ao ?_);refine hK2 _ _ ?_;clear hK2 K2;simp only [List.drop_succ_cons,List.drop_zero];push_cast [hb2,hb3];(repeat refine ao ?_);apply hK;clear hK K;replace h := Option.some.inj h;subst h;exact eN (by push_cast [hb2,hb3])
 ·replace h := cond_no hb2 h;refine vlG [some 15,some 16,some 17,some 18,some 19,some 20,some 21,some 22,some 23,some 24,some 25,some 26,some 27,some 28,some 29,some 30,some 31,none] (fun K hK => ?_);refine runOps_cut 8 (fun K2 hK2 => ?_);push_cast [hb2];(repeat refine ao ?_);refine hK2 _ _ ?_;clear hK2 K2;simp only [List.drop_succ_cons,List.drop_zero];push_cast [hb2];(repeat refine ao ?_);apply hK;clear hK K;replace h := Option.some.inj h;subst h;exact eN (by push_cast [hb2])
noncomputable def Dn (a0 : T_verify_work) (a1 : T_Inst) : Option (T_verify_work) :=
  po (Bi a0 a1) fun r1 =>
  po (Bn r1.2 r1.1 4) fun r2 =>
  po (Ez 0 4294967295) fun r3 =>
  po (Cg r2 a1.Dst r3) fun r4 =>
  some r4
theorem Wd {a0 : T_verify_work} {a1 : T_Inst} {r : T_verify_work} (h : Dn a0 a1 = some r) : Ctr prog 177 [.ref 0 0, .agg (enc_Inst a1)] [(0, .box 212 [.sl false (a0.p.Fns.map enc_Fn), ri a0.fn, .sl false (a0.l.map enc_Schema), .row 1 0 16 0 a0.in_.length, .row 2 0 1 0 a0.is.length, ri a0.at_, rb a0.safe]), (1, .row 217 16 0 (a0.in_.map enc_Shape)), (2, .row 4 1 0 (a0.is.map encBool))] (.tup []) [(0, .box 212 [.sl false (r.p.Fns.map enc_Fn), ri r.fn, .sl false (r.l.map enc_Schema), .row 1 0 16 0 r.in_.length, .row 2 0 1 0 r.is.length, ri r.at_, rb r.safe]), (1, .row 217 16 0 (r.in_.map enc_Shape)), (2, .row 4 1 0 (r.is.map encBool))] := by
 unfold Dn at h;refine Ctr.ofW tabOk func177 rfl call177 3 _ ntmps177 [] rfl rfl rfl (fun B => ?_);refine vs [0,3] (fun K hK => ?_);push_cast;apply hK;clear hK K;obtain ⟨r1,hr1,h⟩ := po_some h;obtain ⟨r2,hr2,h⟩ := po_some h;refine vs [0,3] (fun K hK => ?_);push_cast;refine ch (H := [(0,.box 212 [.sl false (a0.p.Fns.map enc_Fn),ri a0.fn,.sl false (a0.l.map enc_Schema),.row 1 0 16 0 a0.in_.length,.row 2 0 1 0 a0.is.length,ri a0.at_,rb a0.safe]),(1,.row 217 16 0 (a0.in_.map enc_Shape)),(2,.row 4 1 0 (a0.is.map encBool))]) (Ctr.loH (Ctr.ren Bij.id (Hh hr1) (by push_cast) (by push_cast))) (by push_cast) ?_;push_cast;refine ch (H := [(0,.box 212 [.sl false (r1.2.p.Fns.map enc_Fn),ri r1.2.fn,.sl false (r1.2.l.map enc_Schema),.row 1 0 16 0 r1.2.in_.length,.row 2 0 1 0 r1.2.is.length,ri r1.2.at_,rb r1.2.safe]),(1,.row 217 16 0 (r1.2.in_.map enc_Shape)),(2,.row 4 1 0 (r1.2.is.map encBool))]) (Ctr.loH (Ctr.ren Bij.id (Il hr2) (by push_cast) (by push_cast))) (by push_cast) ?_;push_cast;apply hK;clear hK K;refine VC.sub (s' := ⟨[(0,.ref 0 0),(3,.ref 3 0)],[(0,.box 212 [.sl false (r2.p.Fns.map enc_Fn),ri r2.fn,.sl false (r2.l.map enc_Schema),.row 1 0 16 0 r2.in_.length,.row 2 0 1 0 r2.is.length,ri r2.at_,rb r2.safe]),(1,.row 217 16 0 (r2.in_.map enc_Shape)),(2,.row 4 1 0 (r2.is.map encBool)),(3,.box 37 (enc_Inst a1))],9,14,3⟩) (so (by push_cast)) ?_;obtain ⟨r3,hr3,h⟩ := po_some h;obtain ⟨r4,hr4,h⟩ := po_some h;refine vlD [some 9,some 10,some 11,some 12,some 13] (fun K hK => ?_);push_cast;refine cpD (Og hr3) ?_;push_cast;refine chD (H := [(0,.box 212 [.sl false (r2.p.Fns.map enc_Fn),ri r2.fn,.sl false (r2.l.map enc_Schema),.row 1 0 16 0 r2.in_.length,.row 2 0 1 0 r2.is.length,ri r2.at_,rb r2.safe]),(1,.row 217 16 0 (r2.in_.map enc_Shape)),(2,.row 4 1 0 (r2.is.map encBool))]) (Ctr.loH (Ctr.ren Bij.id (Oa hr4) (by push_cast) (by push_cast))) (by push_cast) ?_;push_cast;refine ⟨rfl,hK _ ?_⟩;clear hK K;replace h := Option.some.inj h;subst h;exact eN (by push_cast)
noncomputable def Cy (a0 : T_verify_work) (a1 : T_Inst) : Option (T_verify_work) :=
  po (Bb a0 0) fun r1 =>
  some r1.2
theorem Vq {a0 : T_verify_work} {a1 : T_Inst} {r : T_verify_work} (h : Cy a0 a1 = some r) : Ctr prog 182 [.ref 0 0, .agg (enc_Inst a1)] [(0, .box 212 [.sl false (a0.p.Fns.map enc_Fn), ri a0.fn, .sl false (a0.l.map enc_Schema), .row 1 0 16 0 a0.in_.length, .row 2 0 1 0 a0.is.length, ri a0.at_, rb a0.safe]), (1, .row 217 16 0 (a0.in_.map enc_Shape)), (2, .row 4 1 0 (a0.is.map encBool))] (.tup []) [(0, .box 212 [.sl false (r.p.Fns.map enc_Fn), ri r.fn, .sl false (r.l.map enc_Schema), .row 1 0 16 0 r.in_.length, .row 2 0 1 0 r.is.length, ri r.at_, rb r.safe]), (1, .row 217 16 0 (r.in_.map enc_Shape)), (2, .row 4 1 0 (r.is.map encBool))] := by
 unfold Cy at h;refine Ctr.ofW tabOk func182 rfl call182 3 _ ntmps182 [] rfl rfl rfl (fun B => ?_);refine vs [0] (fun K hK => ?_);push_cast;apply hK;clear hK K;obtain ⟨r1,hr1,h⟩ := po_some h;refine vl (fun K hK => ?_);push_cast;refine ch (H := [(0,.box 212 [.sl false (a0.p.Fns.map enc_Fn),ri a0.fn,.sl false (a0.l.map enc_Schema),.row 1 0 16 0 a0.in_.length,.row 2 0 1 0 a0.is.length,ri a0.at_,rb a0.safe]),(1,.row 217 16 0 (a0.in_.map enc_Shape)),(2,.row 4 1 0 (a0.is.map encBool))]) (Ctr.loH (Ctr.ren Bij.id (Dm hr1) (by push_cast) (by push_cast))) (by push_cast) ?_;push_cast;apply hK;clear hK K;replace h := Option.some.inj h;subst h;exact eN (by push_cast)
noncomputable def Gy (r10 : UInt32 × UInt32 × Bool) (s_8 : T_verify_work) (i_9 : Bool) : Option ((T_verify_work) ⊕ (T_verify_work)) :=
  cond i_9 (
  po (Bb s_8 3) fun r20 =>
  pg (r20.2 = s_8) <|
  po (s_8.l[r10.1.toNat]?) fun x22 =>
  po (Bn s_8 r20.1 x22.Words) fun r23 =>
  some (Sum.inl r23)) (
  some (Sum.inl s_8))
noncomputable def Gs (a1 : T_Inst) (r10 : UInt32 × UInt32 × Bool) (s_7 : T_verify_work) : Option ((T_verify_work) ⊕ (T_verify_work)) :=
  cond (!s_7.safe) (
  some (Sum.inr s_7)) (
  po (
  cond ((a1.Imm.toNat : Int) == 0) (
  some (s_7, true)) (
  some (s_7, ((a1.Imm.toNat : Int) == 1)))) (fun x => Gy r10 x.1 x.2))
noncomputable def Ht (a1 : T_Inst) (s_1 : T_verify_work) (i_2 : Bool) : Option ((T_verify_work) ⊕ (T_verify_work)) :=
  cond i_2 (
  po (Bb s_1 1) fun r8 =>
  pg (r8.2 = s_1) <|
  po (Jz r8.1) fun r10 =>
  po (
  cond ((r10.1.toNat : Int) == (r10.2.1.toNat : Int)) (
  cond (decide ((IntKind.u64.wrap (r10.1.toNat : Int)) < (IntKind.u64.wrap (s_1.l.length : Int)))) (
  po (s_1.l[r10.1.toNat]?) fun x14 =>
  po (Mi (a1.Imm.toNat : Int) x14) fun r15 =>
  some (T_verify_work.mk s_1.p s_1.fn s_1.l s_1.in_ s_1.is s_1.at_ r15)) (
  some (T_verify_work.mk s_1.p s_1.fn s_1.l s_1.in_ s_1.is s_1.at_ false))) (
  some (T_verify_work.mk s_1.p s_1.fn s_1.l s_1.in_ s_1.is s_1.at_ false))) (fun x => Gs a1 r10 x)) (
  some (Sum.inl s_1))
noncomputable def Ho (s_6 : T_verify_work) : Option (T_verify_work) :=
  po (Ax s_6) fun r24 =>
  pg (r24.2 = s_6) <|
  po (Ld r24.1) fun r26 =>
  po (Bp s_6 r26) fun r27 =>
  some r27
noncomputable def Ek (a0 : T_verify_work) (a1 : T_Inst) : Option (T_verify_work) :=
  po (Hz (a1.Imm.toNat : Int)) fun r1 =>
  cond (!(decide (r1 ≥ 0))) (
  some (T_verify_work.mk a0.p a0.fn a0.l a0.in_ a0.is a0.at_ (decide (r1 ≥ 0)))) (
  po (Cm (T_verify_work.mk a0.p a0.fn a0.l a0.in_ a0.is a0.at_ (decide (r1 ≥ 0))) r1) fun r3 =>
  pm (
  po (
  cond r3.safe (
  some (r3, ((a1.Imm.toNat : Int) != 4))) (
  some (r3, false))) (fun x => Ht a1 x.1 x.2)) (fun x => Ho x))
theorem Vt {a0 : T_verify_work} {a1 : T_Inst} {r : T_verify_work} (h : Ek a0 a1 = some r) : Ctr prog 180 [.ref 0 0, .agg (enc_Inst a1)] [(0, .box 212 [.sl false (a0.p.Fns.map enc_Fn), ri a0.fn, .sl false (a0.l.map enc_Schema), .row 1 0 16 0 a0.in_.length, .row 2 0 1 0 a0.is.length, ri a0.at_, rb a0.safe]), (1, .row 217 16 0 (a0.in_.map enc_Shape)), (2, .row 4 1 0 (a0.is.map encBool))] (.tup []) [(0, .box 212 [.sl false (r.p.Fns.map enc_Fn), ri r.fn, .sl false (r.l.map enc_Schema), .row 1 0 16 0 r.in_.length, .row 2 0 1 0 r.is.length, ri r.at_, rb r.safe]), (1, .row 217 16 0 (r.in_.map enc_Shape)), (2, .row 4 1 0 (r.is.map encBool))] := by
 unfold Ek at h;refine Ctr.ofW tabOk func180 rfl call180 3 _ ntmps180 [] rfl rfl rfl (fun B => ?_);refine vs [0,3] (fun K hK => ?_);push_cast;apply hK;clear hK K;refine vs [0,4] (fun K hK => ?_);push_cast;apply hK;clear hK K;obtain ⟨r1,hr1,h⟩ := po_some h;refine vs [0,4,5] (fun K hK => ?_);push_cast;refine cp (Rf hr1) ?_;push_cast;apply hK;clear hK K;refine VC.seq ?_;refine vs [0,4,5] (fun K hK => ?_);push_cast;apply hK;clear hK K;refine vs [0,4,5,23] (fun K hK => ?_);push_cast;apply hK;clear hK K;refine vc h (fun hb2 h => ?_) (fun hb2 h => ?_)
 ·refine VC.ret ?_;replace h := Option.some.inj h;subst h;exact en (by push_cast [hb2])
 ·refine VC.skip ?_;obtain ⟨r3,hr3,h⟩ := po_some h;refine vs [0,4] (fun K hK => ?_);push_cast;refine ch (H := [(0,.box 212 [.sl false (a0.p.Fns.map enc_Fn),ri a0.fn,.sl false (a0.l.map enc_Schema),.row 1 0 16 0 a0.in_.length,.row 2 0 1 0 a0.is.length,ri a0.at_,rb (decide (r1 ≥ 0))]),(1,.row 217 16 0 (a0.in_.map enc_Shape)),(2,.row 4 1 0 (a0.is.map encBool))]) (Ctr.loH (Ctr.ren Bij.id (Pv hr3) (by push_cast) (by push_cast))) (by push_cast) ?_;push_cast;apply hK;clear hK K;refine VC.sub (s' := ⟨[(0,.ref 0 0),(4,ri (a1.Imm.toNat : Int))],[(0,.box 212 [.sl false (r3.p.Fns.map enc_Fn),ri r3.fn,.sl false (r3.l.map enc_Schema),.row 1 0 16 0 r3.in_.length,.row 2 0 1 0 r3.is.length,ri r3.at_,rb r3.safe]),(1,.row 217 16 0 (r3.in_.map enc_Shape)),(2,.row 4 1 0 (r3.is.map encBool))],25,98,3⟩) (so (by push_cast [hb2])) ?_;refine vm h (fun x => ⟨[(0,.ref 0 0)],[(0,.box 212 [.sl false (x.p.Fns.map enc_Fn),ri x.fn,.sl false (x.l.map enc_Schema),.row 1 0 16 0 x.in_.length,.row 2 0 1 0 x.is.length,ri x.at_,rb x.safe]),(1,.row 217 16 0 (x.in_.map enc_Shape)),(2,.row 4 1 0 (x.is.map encBool))],95,98,3⟩) (fun v4 h hk4 => ?_) ?_
  ·refine vj h (fun x => ⟨[(0,.ref 0 0),(4,ri (a1.Imm.toNat : Int)),(34,rb x.2)],[(0,.box 212 [.sl false (x.1.p.Fns.map enc_Fn),ri x.1.fn,.sl false (x.1.l.map enc_Schema),.row 1 0 16 0 x.1.in_.length,.row 2 0 1 0 x.1.is.length,ri x.1.at_,rb x.1.safe]),(1,.row 217 16 0 (x.1.in_.map enc_Shape)),(2,.row 4 1 0 (x.1.is.map encBool))],33,98,3⟩) (fun v5 h hk5 => ?_) ?_
   ·rcases Bool.eq_false_or_eq_true r3.safe with hb6 | hb6
    ·replace h := cond_yes hb6 h;refine vlG [some 27,some 28,some 29,some 30,some 31,some 32,some 33,some 34] (fun K hK => ?_);push_cast [hb6];(repeat refine ao ?_);apply hK;clear hK K;refine ar h hk5 ?_;exact sl (by push_cast [hb2,hb6])
    ·replace h := cond_no hb6 h;refine vlG [some 27,some 28,some 29,some 30,some 31,some 32,some 33,some 34] (fun K hK => ?_);push_cast [hb6];(repeat refine ao ?_);apply hK;clear hK K;refine ar h hk5 ?_;exact sl (by push_cast [hb2,hb6])
   ·rintro ⟨s_1,i_2⟩ (h : Ht a1 s_1 i_2 = some v4);(try push_cast);unfold Ht at h;refine vc h (fun hb7 h => ?_) (fun hb7 h => ?_)
    ·obtain ⟨r8,hr8,h⟩ := po_some h;obtain ⟨hg9,h⟩ := pg_some h;have qr8 := Dm hr8;rw [hg9] at qr8;obtain ⟨r10,hr10,h⟩ := po_some h;refine vs [0,4,6,7] (fun K hK => ?_);push_cast;refine chR (H := [(0,.box 212 [.sl false (s_1.p.Fns.map enc_Fn),ri s_1.fn,.sl false (s_1.l.map enc_Schema),.row 1 0 16 0 s_1.in_.length,.row 2 0 1 0 s_1.is.length,ri s_1.at_,rb s_1.safe]),(1,.row 217 16 0 (s_1.in_.map enc_Shape)),(2,.row 4 1 0 (s_1.is.map encBool))]) (Ctr.loH (Ctr.ren Bij.id (qr8) (by push_cast) (by push_cast))) (by push_cast) (by push_cast) ?_;push_cast;refine cp (Uv hr10) ?_;push_cast;apply hK;clear hK K;refine VC.sub (s' := ⟨[(0,.ref 0 0),(4,ri (a1.Imm.toNat : Int)),(6,ru r10.1),(7,ru r10.2.1)],[(0,.box 212 [.sl false (s_1.p.Fns.map enc_Fn),ri s_1.fn,.sl false (s_1.l.map enc_Schema),.row 1 0 16 0 s_1.in_.length,.row 2 0 1 0 s_1.is.length,ri s_1.at_,rb s_1.safe]),(1,.row 217 16 0 (s_1.in_.map enc_Shape)),(2,.row 4 1 0 (s_1.is.map encBool))],43,98,3⟩) (so (by push_cast [hb2,hb7])) ?_;refine VC.seq ?_;refine vj h (fun x => ⟨[(0,.ref 0 0),(4,ri (a1.Imm.toNat : Int)),(6,ru r10.1)],[(0,.box 212 [.sl false (x.p.Fns.map enc_Fn),ri x.fn,.sl false (x.l.map enc_Schema),.row 1 0 16 0 x.in_.length,.row 2 0 1 0 x.is.length,ri x.at_,rb x.safe]),(1,.row 217 16 0 (x.in_.map enc_Shape)),(2,.row 4 1 0 (x.is.map encBool))],72,98,3⟩) (fun v11 h hk11 => ?_) ?_
     ·rcases Bool.eq_false_or_eq_true ((r10.1.toNat : Int) == (r10.2.1.toNat : Int)) with hb12 | hb12
      ·replace h := cond_yes hb12 h;rcases Bool.eq_false_or_eq_true (decide ((IntKind.u64.wrap (r10.1.toNat : Int)) < (IntKind.u64.wrap (s_1.l.length : Int)))) with hb13 | hb13
       ·replace h := cond_yes hb13 h;obtain ⟨x14,hx14,h⟩ := po_some h;replace hx14 := gL hx14;obtain ⟨r15,hr15,h⟩ := po_some h;refine vlG [some 42,some 43,some 44,some 45,some 46,some 47,some 48,some 49,some 50,some 51,some 52,some 53,some 54,some 55,some 56,some 57,some 58,some 59,some 60,some 61,some 62,some 63,some 64,some 65,some 66,some 67,some 68,some 69,none] (fun K hK => ?_);refine runOps_cut 8 (fun K2 hK2 => ?_);push_cast [hb12,hb13,hx14];(repeat refine ao ?_);refine hK2 _ _ ?_;clear hK2 K2;simp only [List.drop_succ_cons,List.drop_zero];refine runOps_cut 8 (fun K2 hK2 => ?_);push_cast [hb12,hb13,hx14];(repeat refine ao ?_);refine hK2 _ _ ?_;clear hK2 K2;simp only [List.drop_succ_cons,List.drop_zero];refine runOps_cut 8 (fun K2 hK2 => ?_);push_cast [hb12,hb13,hx14];(repeat refine ao ?_);refine hK2 _ _ ?_;clear hK2 K2;simp only [List.drop_succ_cons,List.drop_zero];push_cast [hb12,hb13,hx14];(repeat refine ao ?_);refine cp (Yf hr15) ?_;push_cast [hb12,hb13,hx14];(repeat refine ao ?_);apply hK;clear hK K;refine ar h hk11 ?_;exact sl (by push_cast [hb2,hb7,hb12,hb13])
       ·replace h := cond_no hb13 h;refine vlG [some 42,some 43,some 44,some 45,some 46,some 47,some 48,some 49,some 50,some 51,some 52,some 53,some 54,some 55,some 56,some 57,some 58,some 59,some 60,some 61,some 62,some 63,some 64,some 65,some 66,some 67,some 68,some 69,none] (fun K hK => ?_);refine runOps_cut 8 (fun K2 hK2 => ?_);push_cast [hb12,hb13];(repeat refine ao ?_);refine hK2 _ _ ?_;clear hK2 K2;simp only [List.drop_succ_cons,List.drop_zero];refine runOps_cut 8 (fun K2 hK2 => ?_);push_cast [hb12,hb13];(repeat refine ao ?_);refine hK2 _ _ ?_;clear hK2 K2;simp only [List.drop_succ_cons,List.drop_zero];refine runOps_cut 8 (fun K2 hK2 => ?_);push_cast [hb12,hb13];(repeat refine ao ?_);refine hK2 _ _ ?_;clear hK2 K2;simp only [List.drop_succ_cons,List.drop_zero];push_cast [hb12,hb13];(repeat refine ao ?_);apply hK;clear hK K;refine ar h hk11 ?_;exact sl (by push_cast [hb2,hb7,hb12,hb13])
      ·replace h := cond_no hb12 h;refine vlG [some 42,some 43,some 44,some 45,some 46,some 47,some 48,some 49,some 50,some 51,some 52,some 53,some 54,some 55,some 56,some 57,some 58,some 59,some 60,some 61,some 62,some 63,some 64,some 65,some 66,some 67,some 68,some 69,none] (fun K hK => ?_);refine runOps_cut 8 (fun K2 hK2 => ?_);push_cast [hb12];(repeat refine ao ?_);refine hK2 _ _ ?_;clear hK2 K2;simp only [List.drop_succ_cons,List.drop_zero];refine runOps_cut 8 (fun K2 hK2 => ?_);push_cast [hb12];(repeat refine ao ?_);refine hK2 _ _ ?_;clear hK2 K2;simp only [List.drop_succ_cons,List.drop_zero];refine runOps_cut 8 (fun K2 hK2 => ?_);push_cast [hb12];(repeat refine ao ?_);refine hK2 _ _ ?_;clear hK2 K2;simp only [List.drop_succ_cons,List.drop_zero];push_cast [hb12];(repeat refine ao ?_);apply hK;clear hK K;refine ar h hk11 ?_;exact sl (by push_cast [hb2,hb7,hb12])
     ·rintro s_7 (h : Gs a1 r10 s_7 = some v4);(try push_cast);unfold Gs at h;refine vs [0,4,6,74] (fun K hK => ?_);push_cast;apply hK;clear hK K;refine vc h (fun hb16 h => ?_) (fun hb16 h => ?_)
      ·refine VC.ret ?_;replace h := om h hk4;replace h := Option.some.inj h;subst h;exact en (by push_cast [hb2,hb7,hb16])
      ·refine VC.skip ?_;refine vj h (fun x => ⟨[(0,.ref 0 0),(6,ru r10.1),(80,rb x.2)],[(0,.box 212 [.sl false (x.1.p.Fns.map enc_Fn),ri x.1.fn,.sl false (x.1.l.map enc_Schema),.row 1 0 16 0 x.1.in_.length,.row 2 0 1 0 x.1.is.length,ri x.1.at_,rb x.1.safe]),(1,.row 217 16 0 (x.1.in_.map enc_Shape)),(2,.row 4 1 0 (x.1.is.map encBool))],83,98,3⟩) (fun v17 h hk17 => ?_) ?_
       ·rcases Bool.eq_false_or_eq_true ((a1.Imm.toNat : Int) == 0) with hb18 | hb18
        ·replace h := cond_yes hb18 h;refine vlG [some 75,some 76,some 77,some 78,some 79,some 80] (fun K hK => ?_);push_cast [hb18];(repeat refine ao ?_);apply hK;clear hK K;refine ar h hk17 ?_;exact sl (by push_cast [hb2,hb7,hb16,hb18])
        ·replace h := cond_no hb18 h;refine vlG [some 75,some 76,some 77,some 78,some 79,some 80] (fun K hK => ?_);push_cast [hb18];(repeat refine ao ?_);apply hK;clear hK K;refine ar h hk17 ?_;exact sl (by push_cast [hb2,hb7,hb16,hb18])
       ·rintro ⟨s_8,i_9⟩ (h : Gy r10 s_8 i_9 = some v4);(try push_cast);unfold Gy at h;refine vc h (fun hb19 h => ?_) (fun hb19 h => ?_)
        ·obtain ⟨r20,hr20,h⟩ := po_some h;obtain ⟨hg21,h⟩ := pg_some h;have qr20 := Dm hr20;rw [hg21] at qr20;obtain ⟨x22,hx22,h⟩ := po_some h;replace hx22 := gL hx22;obtain ⟨r23,hr23,h⟩ := po_some h;refine vlD [some 81,some 82,some 83,some 84,some 85,some 86,some 87,some 88,some 89,some 90,some 91,some 92] (fun K hK => ?_);refine runD_cut 8 (fun K2 hK2 => ?_);push_cast [hx22];(repeat refine ao ?_);refine chRD (H := [(0,.box 212 [.sl false (s_8.p.Fns.map enc_Fn),ri s_8.fn,.sl false (s_8.l.map enc_Schema),.row 1 0 16 0 s_8.in_.length,.row 2 0 1 0 s_8.is.length,ri s_8.at_,rb s_8.safe]),(1,.row 217 16 0 (s_8.in_.map enc_Shape)),(2,.row 4 1 0 (s_8.is.map encBool))]) (Ctr.loH (Ctr.ren Bij.id (qr20) (by push_cast [hx22]) (by push_cast [hx22]))) (by push_cast [hx22]) (by push_cast [hx22]) ?_;push_cast [hx22];(repeat refine ao ?_);refine hK2 _ _ _ ?_;clear hK2 K2;simp only [List.drop_succ_cons,List.drop_zero];push_cast [hx22];(repeat refine ao ?_);refine chD (H := [(0,.box 212 [.sl false (s_8.p.Fns.map enc_Fn),ri s_8.fn,.sl false (s_8.l.map enc_Schema),.row 1 0 16 0 s_8.in_.length,.row 2 0 1 0 s_8.is.length,ri s_8.at_,rb s_8.safe]),(1,.row 217 16 0 (s_8.in_.map enc_Shape)),(2,.row 4 1 0 (s_8.is.map encBool))]) (Ctr.loH (Ctr.ren Bij.id (Il hr23) (by push_cast [hx22]) (by push_cast [hx22]))) (by push_cast [hx22]) ?_;push_cast [hx22];(repeat refine ao ?_);refine ⟨rfl,hK _ ?_⟩;clear hK K;refine am h hk4 ?_;exact sl (by push_cast [hb2,hb7,hb16,hb19])
        ·refine VC.skip ?_;refine am h hk4 ?_;exact sl (by push_cast [hb2,hb7,hb16,hb19])
    ·refine VC.skip ?_;refine am h hk4 ?_;exact sl (by push_cast [hb2,hb7])
  ·rintro s_6 (h : Ho s_6 = some r);(try push_cast);unfold Ho at h;obtain ⟨r24,hr24,h⟩ := po_some h;obtain ⟨hg25,h⟩ := pg_some h;have qr24 := Cj hr24;rw [hg25] at qr24;obtain ⟨r26,hr26,h⟩ := po_some h;obtain ⟨r27,hr27,h⟩ := po_some h;refine vl (fun K hK => ?_);push_cast;refine chR (H := [(0,.box 212 [.sl false (s_6.p.Fns.map enc_Fn),ri s_6.fn,.sl false (s_6.l.map enc_Schema),.row 1 0 16 0 s_6.in_.length,.row 2 0 1 0 s_6.is.length,ri s_6.at_,rb s_6.safe]),(1,.row 217 16 0 (s_6.in_.map enc_Shape)),(2,.row 4 1 0 (s_6.is.map encBool))]) (Ctr.loH (Ctr.ren Bij.id (qr24) (by push_cast) (by push_cast))) (by push_cast) (by push_cast) ?_;push_cast;refine cp (Vg hr26) ?_;push_cast;refine ch (H := [(0,.box 212 [.sl false (s_6.p.Fns.map enc_Fn),ri s_6.fn,.sl false (s_6.l.map enc_Schema),.row 1 0 16 0 s_6.in_.length,.row 2 0 1 0 s_6.is.length,ri s_6.at_,rb s_6.safe]),(1,.row 217 16 0 (s_6.in_.map enc_Shape)),(2,.row 4 1 0 (s_6.is.map encBool))]) (Ctr.loH (Ctr.ren Bij.id (Kk hr27) (by push_cast) (by push_cast))) (by push_cast) ?_;push_cast;apply hK;clear hK K;replace h := Option.some.inj h;subst h;exact eN (by push_cast [hb2])
noncomputable def Gh (a1 : Int) (a2 : C128) (a3 : C128) (a5 : T_Shape) (a6 : T_Inst) (r1 : C128 × Bool) (s_1 : T_verify_work) (i_2 : Bool) : Option (C128 × C128 × T_verify_work × T_Shape × T_Inst) :=
  cond i_2 (
  po (Ey a5 a6.Dst r1.1) fun r5 =>
  po (Cc s_1 a1 r5) fun r6 =>
  some (a2, a3, r6, a5, a6)) (
  some (a2, a3, s_1, a5, a6))
noncomputable def Bd (a0 : Int) (a1 : Int) (a2 : C128) (a3 : C128) (a4_p : T_verify_work) (a5 : T_Shape) (a6 : T_Inst) : Option (C128 × C128 × T_verify_work × T_Shape × T_Inst) :=
  po (Nm a0 a2 a3) fun r1 =>
  po (
  cond r1.2 (
  some (a4_p, a4_p.safe)) (
  some (a4_p, false))) (fun x => Gh a1 a2 a3 a5 a6 r1 x.1 x.2)
theorem Dj {a0 : Int} {a1 : Int} {a2 : C128} {a3 : C128} {a4_p : T_verify_work} {a5 : T_Shape} {a6 : T_Inst} {r : C128 × C128 × T_verify_work × T_Shape × T_Inst} (h : Bd a0 a1 a2 a3 a4_p a5 a6 = some r) : Ctr prog 214 [ri a0, ri a1, .ref 0 0, .ref 1 0, .ref 2 0, .ref 6 0, .ref 7 0] [(0, .box 214 (encC128 a2)), (1, .box 214 (encC128 a3)), (2, .box 210 [.ref 3 0]), (3, .box 212 [.sl false (a4_p.p.Fns.map enc_Fn), ri a4_p.fn, .sl false (a4_p.l.map enc_Schema), .row 4 0 16 0 a4_p.in_.length, .row 5 0 1 0 a4_p.is.length, ri a4_p.at_, rb a4_p.safe]), (4, .row 217 16 0 (a4_p.in_.map enc_Shape)), (5, .row 4 1 0 (a4_p.is.map encBool)), (6, .box 217 (enc_Shape a5)), (7, .box 37 (enc_Inst a6))] (.tup []) [(0, .box 214 (encC128 r.1)), (1, .box 214 (encC128 r.2.1)), (2, .box 210 [.ref 3 0]), (3, .box 212 [.sl false (r.2.2.1.p.Fns.map enc_Fn), ri r.2.2.1.fn, .sl false (r.2.2.1.l.map enc_Schema), .row 4 0 16 0 r.2.2.1.in_.length, .row 5 0 1 0 r.2.2.1.is.length, ri r.2.2.1.at_, rb r.2.2.1.safe]), (4, .row 217 16 0 (r.2.2.1.in_.map enc_Shape)), (5, .row 4 1 0 (r.2.2.1.is.map encBool)), (6, .box 217 (enc_Shape r.2.2.2.1)), (7, .box 37 (enc_Inst r.2.2.2.2))] := by
 unfold Bd at h;refine Ctr.ofW tabOk func214 rfl call214 8 _ ntmps214 [] rfl rfl rfl (fun B => ?_);obtain ⟨r1,hr1,h⟩ := po_some h;refine vs [1,4,5,6,9,10] (fun K hK => ?_);push_cast;refine cp (Yo hr1) ?_;push_cast;apply hK;clear hK K;refine vj h (fun x => ⟨[(1,ri a1),(4,.ref 2 0),(5,.ref 6 0),(6,.ref 7 0),(9,.raw (.complex .f64 r1.1.re r1.1.im)),(24,rb x.2)],[(0,.box 214 [.raw (.complex .f64 a2.re a2.im)]),(1,.box 214 [.raw (.complex .f64 a3.re a3.im)]),(2,.box 210 [.ref 3 0]),(3,.box 212 [.sl false (x.1.p.Fns.map enc_Fn),ri x.1.fn,.sl false (x.1.l.map enc_Schema),.row 4 0 16 0 x.1.in_.length,.row 5 0 1 0 x.1.is.length,ri x.1.at_,rb x.1.safe]),(4,.row 217 16 0 (x.1.in_.map enc_Shape)),(5,.row 4 1 0 (x.1.is.map encBool)),(6,.box 217 (enc_Shape a5)),(7,.box 37 (enc_Inst a6))],24,33,8⟩) (fun v2 h hk2 => ?_) ?_
 ·rcases Bool.eq_false_or_eq_true r1.2 with hb3 | hb3
  ·replace h := cond_yes hb3 h;refine vlG [some 18,some 19,some 20,some 21,some 22,some 23,some 24] (fun K hK => ?_);push_cast [hb3];(repeat refine ao ?_);apply hK;clear hK K;refine ar h hk2 ?_;exact sl (by push_cast [hb3])
  ·replace h := cond_no hb3 h;refine vlG [some 18,some 19,some 20,some 21,some 22,some 23,some 24] (fun K hK => ?_);push_cast [hb3];(repeat refine ao ?_);apply hK;clear hK K;refine ar h hk2 ?_;exact sl (by push_cast [hb3])
 ·rintro ⟨s_1,i_2⟩ (h : Gh a1 a2 a3 a5 a6 r1 s_1 i_2 = some r);(try push_cast);unfold Gh at h;refine vc h (fun hb4 h => ?_) (fun hb4 h => ?_)
  ·obtain ⟨r5,hr5,h⟩ := po_some h;obtain ⟨r6,hr6,h⟩ := po_some h;refine vlD [some 25,some 26,some 27,some 28,some 29,some 30,some 31,some 32] (fun K hK => ?_);push_cast;refine cpD (Ql hr5) ?_;push_cast;refine chD (H := [(3,.box 212 [.sl false (s_1.p.Fns.map enc_Fn),ri s_1.fn,.sl false (s_1.l.map enc_Schema),.row 4 0 16 0 s_1.in_.length,.row 5 0 1 0 s_1.is.length,ri s_1.at_,rb s_1.safe]),(4,.row 217 16 0 (s_1.in_.map enc_Shape)),(5,.row 4 1 0 (s_1.is.map encBool))]) (Ctr.loH (Ctr.ren (Bij.swp 2 5 (Bij.swp 1 4 (Bij.swp 0 3 Bij.id))) (Me hr6) (by push_cast) (by push_cast))) (by push_cast) ?_;push_cast;refine ⟨rfl,hK _ ?_⟩;clear hK K;replace h := Option.some.inj h;subst h;exact eN (by push_cast [hb4])
  ·refine VC.skip ?_;replace h := Option.some.inj h;subst h;exact eN (by push_cast [hb4])
noncomputable def Ef (a0 : T_verify_work) (a1 : T_Inst) : Option (T_verify_work) :=
  cond (a1.Fn == 0) (
  po (Ax a0) fun r2 =>
  pg (r2.2 = a0) <|
  po (Cc a0 (IntKind.i64.wrap ((IntKind.i64.wrap (a0.at_ + a1.Off)) + 1)) r2.1) fun r4 =>
  some r4) (
  po (Ax a0) fun r5 =>
  pg (r5.2 = a0) <|
  po (Bb a0 a1.Dst) fun r7 =>
  po (Bi r7.2 a1) fun r8 =>
  po (Bd a1.Fn (IntKind.i64.wrap ((IntKind.i64.wrap (r8.2.at_ + a1.Off)) + 1)) r7.1 r8.1 r8.2 r5.1 a1) fun r9 =>
  cond (r9.2.2.2.2.Fn == 1) (
  po (Bd 2 (IntKind.i64.wrap (r9.2.2.1.at_ + 1)) r9.1 r9.2.1 r9.2.2.1 r9.2.2.2.1 r9.2.2.2.2) fun r11 =>
  some r11.2.2.1) (
  cond (r9.2.2.2.2.Fn == 2) (
  po (Bd 1 (IntKind.i64.wrap (r9.2.2.1.at_ + 1)) r9.1 r9.2.1 r9.2.2.1 r9.2.2.2.1 r9.2.2.2.2) fun r13 =>
  some r13.2.2.1) (
  cond (r9.2.2.2.2.Fn == 3) (
  po (Bd 4 (IntKind.i64.wrap (r9.2.2.1.at_ + 1)) r9.1 r9.2.1 r9.2.2.1 r9.2.2.2.1 r9.2.2.2.2) fun r15 =>
  some r15.2.2.1) (
  cond (r9.2.2.2.2.Fn == 4) (
  po (Bd 3 (IntKind.i64.wrap (r9.2.2.1.at_ + 1)) r9.1 r9.2.1 r9.2.2.1 r9.2.2.2.1 r9.2.2.2.2) fun r17 =>
  some r17.2.2.1) (
  po (Bd 0 (IntKind.i64.wrap (r9.2.2.1.at_ + 1)) r9.1 r9.2.1 r9.2.2.1 r9.2.2.2.1 r9.2.2.2.2) fun r18 =>
  some r18.2.2.1)))))
theorem Vr {a0 : T_verify_work} {a1 : T_Inst} {r : T_verify_work} (h : Ef a0 a1 = some r) : Ctr prog 176 [.ref 0 0, .agg (enc_Inst a1)] [(0, .box 212 [.sl false (a0.p.Fns.map enc_Fn), ri a0.fn, .sl false (a0.l.map enc_Schema), .row 1 0 16 0 a0.in_.length, .row 2 0 1 0 a0.is.length, ri a0.at_, rb a0.safe]), (1, .row 217 16 0 (a0.in_.map enc_Shape)), (2, .row 4 1 0 (a0.is.map encBool))] (.tup []) [(0, .box 212 [.sl false (r.p.Fns.map enc_Fn), ri r.fn, .sl false (r.l.map enc_Schema), .row 1 0 16 0 r.in_.length, .row 2 0 1 0 r.is.length, ri r.at_, rb r.safe]), (1, .row 217 16 0 (r.in_.map enc_Shape)), (2, .row 4 1 0 (r.is.map encBool))] := by
 unfold Ef at h;refine Ctr.ofW tabOk func176 rfl call176 3 _ ntmps176 [] rfl rfl rfl (fun B => ?_);refine vs [2,3] (fun K hK => ?_);push_cast;apply hK;clear hK K;refine VC.seq ?_;refine vs [2,3,10] (fun K hK => ?_);push_cast;apply hK;clear hK K;refine vc h (fun hb1 h => ?_) (fun hb1 h => ?_)
 ·obtain ⟨r2,hr2,h⟩ := po_some h;obtain ⟨hg3,h⟩ := pg_some h;have qr2 := Cj hr2;rw [hg3] at qr2;obtain ⟨r4,hr4,h⟩ := po_some h;refine vsD [some 11,some 12,some 13,some 14,some 15,some 16,some 17,some 18,some 19,some 20,some 21,some 22] [] (fun K hK => ?_);refine runD_cut 8 (fun K2 hK2 => ?_);push_cast;refine hK2 _ _ _ ?_;clear hK2 K2;simp only [List.drop_succ_cons,List.drop_zero];push_cast;refine chRD (H := [(0,.box 212 [.sl false (a0.p.Fns.map enc_Fn),ri a0.fn,.sl false (a0.l.map enc_Schema),.row 1 0 16 0 a0.in_.length,.row 2 0 1 0 a0.is.length,ri a0.at_,rb a0.safe]),(1,.row 217 16 0 (a0.in_.map enc_Shape)),(2,.row 4 1 0 (a0.is.map encBool))]) (Ctr.loH (Ctr.ren Bij.id (qr2) (by push_cast) (by push_cast))) (by push_cast) (by push_cast) ?_;push_cast;refine chD (H := [(0,.box 212 [.sl false (a0.p.Fns.map enc_Fn),ri a0.fn,.sl false (a0.l.map enc_Schema),.row 1 0 16 0 a0.in_.length,.row 2 0 1 0 a0.is.length,ri a0.at_,rb a0.safe]),(1,.row 217 16 0 (a0.in_.map enc_Shape)),(2,.row 4 1 0 (a0.is.map encBool))]) (Ctr.loH (Ctr.ren Bij.id (Me hr4) (by push_cast) (by push_cast))) (by push_cast) ?_;push_cast;refine ⟨rfl,hK _ ?_⟩;clear hK K;refine VC.sub (s' := ⟨[],[(0,.box 212 [.sl false (r4.p.Fns.map enc_Fn),ri r4.fn,.sl false (r4.l.map enc_Schema),.row 1 0 16 0 r4.in_.length,.row 2 0 1 0 r4.is.length,ri r4.at_,rb r4.safe]),(1,.row 217 16 0 (r4.in_.map enc_Shape)),(2,.row 4 1 0 (r4.is.map encBool))],20,57,3⟩) (so (by push_cast [hb1])) ?_;refine VC.ret ?_;replace h := Option.some.inj h;subst h;exact en (by push_cast [hb1])
 ·refine VC.skip ?_;obtain ⟨r5,hr5,h⟩ := po_some h;obtain ⟨hg6,h⟩ := pg_some h;have qr5 := Cj hr5;rw [hg6] at qr5;obtain ⟨r7,hr7,h⟩ := po_some h;obtain ⟨r8,hr8,h⟩ := po_some h;refine vsD [some 23,some 24,some 25,some 26,some 27,some 28,some 29,some 30,some 31,some 4,some 5,some 6,none,none,none] [2,3,4,5,6] (fun K hK => ?_);refine runD_cut 8 (fun K2 hK2 => ?_);push_cast;refine chRD (H := [(0,.box 212 [.sl false (a0.p.Fns.map enc_Fn),ri a0.fn,.sl false (a0.l.map enc_Schema),.row 1 0 16 0 a0.in_.length,.row 2 0 1 0 a0.is.length,ri a0.at_,rb a0.safe]),(1,.row 217 16 0 (a0.in_.map enc_Shape)),(2,.row 4 1 0 (a0.is.map encBool))]) (Ctr.loH (Ctr.ren Bij.id (qr5) (by push_cast) (by push_cast))) (by push_cast) (by push_cast) ?_;push_cast;refine chD (H := [(0,.box 212 [.sl false (a0.p.Fns.map enc_Fn),ri a0.fn,.sl false (a0.l.map enc_Schema),.row 1 0 16 0 a0.in_.length,.row 2 0 1 0 a0.is.length,ri a0.at_,rb a0.safe]),(1,.row 217 16 0 (a0.in_.map enc_Shape)),(2,.row 4 1 0 (a0.is.map encBool))]) (Ctr.loH (Ctr.ren Bij.id (Dm hr7) (by push_cast) (by push_cast))) (by push_cast) ?_;push_cast;refine hK2 _ _ _ ?_;clear hK2 K2;simp only [List.drop_succ_cons,List.drop_zero];push_cast;refine chD (H := [(0,.box 212 [.sl false (r7.2.p.Fns.map enc_Fn),ri r7.2.fn,.sl false (r7.2.l.map enc_Schema),.row 1 0 16 0 r7.2.in_.length,.row 2 0 1 0 r7.2.is.length,ri r7.2.at_,rb r7.2.safe]),(1,.row 217 16 0 (r7.2.in_.map enc_Shape)),(2,.row 4 1 0 (r7.2.is.map encBool))]) (Ctr.loH (Ctr.ren Bij.id (Hh hr8) (by push_cast) (by push_cast))) (by push_cast) ?_;push_cast;refine ⟨rfl,hK _ ?_⟩;clear hK K;refine VC.sub (s' := ⟨[(2,.ref 3 0),(3,.ref 4 0),(4,.ref 17 0),(5,.ref 18 0),(6,.ref 19 0)],[(0,.box 212 [.sl false (r8.2.p.Fns.map enc_Fn),ri r8.2.fn,.sl false (r8.2.l.map enc_Schema),.row 1 0 16 0 r8.2.in_.length,.row 2 0 1 0 r8.2.is.length,ri r8.2.at_,rb r8.2.safe]),(1,.row 217 16 0 (r8.2.in_.map enc_Shape)),(2,.row 4 1 0 (r8.2.is.map encBool)),(3,.box 210 [.ref 0 0]),(4,.box 37 (enc_Inst a1)),(17,.box 217 (enc_Shape r5.1)),(18,.box 214 [.raw (.complex .f64 r7.1.re r7.1.im)]),(19,.box 214 [.raw (.complex .f64 r8.1.re r8.1.im)])],23,57,3⟩) (so (by push_cast [hb1])) ?_;refine vs [2,3,7] (fun K hK => ?_);push_cast;apply hK;clear hK K;obtain ⟨r9,hr9,h⟩ := po_some h;refine vsD [some 33,some 34,some 35,some 36,some 37,some 38,some 39,some 40,some 41,some 42,some 43,some 44] [2,3,7] (fun K hK => ?_);refine runD_cut 8 (fun K2 hK2 => ?_);push_cast;refine hK2 _ _ _ ?_;clear hK2 K2;simp only [List.drop_succ_cons,List.drop_zero];push_cast;refine chD (H := [(18,.box 214 [.raw (.complex .f64 r7.1.re r7.1.im)]),(19,.box 214 [.raw (.complex .f64 r8.1.re r8.1.im)]),(3,.box 210 [.ref 0 0]),(0,.box 212 [.sl false (r8.2.p.Fns.map enc_Fn),ri r8.2.fn,.sl false (r8.2.l.map enc_Schema),.row 1 0 16 0 r8.2.in_.length,.row 2 0 1 0 r8.2.is.length,ri r8.2.at_,rb r8.2.safe]),(1,.row 217 16 0 (r8.2.in_.map enc_Shape)),(2,.row 4 1 0 (r8.2.is.map encBool)),(17,.box 217 (enc_Shape r5.1)),(4,.box 37 (enc_Inst a1))]) (Ctr.loH (Ctr.ren (Bij.tab (l := [(0,18),(1,19),(2,3),(3,0),(4,1),(5,2),(6,17),(7,4),(17,7),(18,5),(19,6)]) rfl) (Dj hr9) (by push_cast) (by push_cast))) (by push_cast) ?_;push_cast;refine ⟨rfl,hK _ ?_⟩;clear hK K;refine VC.sub (s' := ⟨[(2,.ref 3 0),(3,.ref 4 0),(7,.fn (.func 214) [] [.ref 18 0,.ref 19 0,.ref 3 0,.ref 17 0,.ref 4 0])],[(0,.box 212 [.sl false (r9.2.2.1.p.Fns.map enc_Fn),ri r9.2.2.1.fn,.sl false (r9.2.2.1.l.map enc_Schema),.row 1 0 16 0 r9.2.2.1.in_.length,.row 2 0 1 0 r9.2.2.1.is.length,ri r9.2.2.1.at_,rb r9.2.2.1.safe]),(1,.row 217 16 0 (r9.2.2.1.in_.map enc_Shape)),(2,.row 4 1 0 (r9.2.2.1.is.map encBool)),(3,.box 210 [.ref 0 0]),(4,.box 37 (enc_Inst r9.2.2.2.2)),(17,.box 217 (enc_Shape r9.2.2.2.1)),(18,.box 214 [.raw (.complex .f64 r9.1.re r9.1.im)]),(19,.box 214 [.raw (.complex .f64 r9.2.1.re r9.2.1.im)])],37,57,3⟩) (so (by push_cast [hb1])) ?_;rcases Bool.eq_false_or_eq_true (r9.2.2.2.2.Fn == 1) with hb10 | hb10
  ·replace h := cond_yes hb10 h;obtain ⟨r11,hr11,h⟩ := po_some h;refine vlD [some 45,some 46,none,none,none,none,some 47,some 48,some 49,some 50,some 51,some 52,some 53,some 54,some 55,some 56] (fun K hK => ?_);refine runD_cut 8 (fun K2 hK2 => ?_);push_cast [hb10];(repeat refine ao ?_);refine hK2 _ _ _ ?_;clear hK2 K2;simp only [List.drop_succ_cons,List.drop_zero];push_cast [hb10];(repeat refine ao ?_);refine chD (H := [(18,.box 214 [.raw (.complex .f64 r9.1.re r9.1.im)]),(19,.box 214 [.raw (.complex .f64 r9.2.1.re r9.2.1.im)]),(3,.box 210 [.ref 0 0]),(0,.box 212 [.sl false (r9.2.2.1.p.Fns.map enc_Fn),ri r9.2.2.1.fn,.sl false (r9.2.2.1.l.map enc_Schema),.row 1 0 16 0 r9.2.2.1.in_.length,.row 2 0 1 0 r9.2.2.1.is.length,ri r9.2.2.1.at_,rb r9.2.2.1.safe]),(1,.row 217 16 0 (r9.2.2.1.in_.map enc_Shape)),(2,.row 4 1 0 (r9.2.2.1.is.map encBool)),(17,.box 217 (enc_Shape r9.2.2.2.1)),(4,.box 37 (enc_Inst r9.2.2.2.2))]) (Ctr.loH (Ctr.ren (Bij.tab (l := [(0,18),(1,19),(2,3),(3,0),(4,1),(5,2),(6,17),(7,4),(17,7),(18,5),(19,6)]) rfl) (Dj hr11) (by push_cast [hb10]) (by push_cast [hb10]))) (by push_cast [hb10]) ?_;push_cast [hb10];(repeat refine ao ?_);refine ⟨rfl,hK _ ?_⟩;clear hK K;replace h := Option.some.inj h;subst h;exact eN (by push_cast [hb1,hb10])
  ·replace h := cond_no hb10 h;rcases Bool.eq_false_or_eq_true (r9.2.2.2.2.Fn == 2) with hb12 | hb12
   ·replace h := cond_yes hb12 h;obtain ⟨r13,hr13,h⟩ := po_some h;refine vlD [some 45,some 46,none,none,none,none,some 47,some 48,some 49,some 50,some 51,some 52,some 53,some 54,some 55,some 56] (fun K hK => ?_);refine runD_cut 8 (fun K2 hK2 => ?_);push_cast [hb10,hb12];(repeat refine ao ?_);refine hK2 _ _ _ ?_;clear hK2 K2;simp only [List.drop_succ_cons,List.drop_zero];push_cast [hb10,hb12];(repeat refine ao ?_);refine chD (H := [(18,.box 214 [.raw (.complex .f64 r9.1.re r9.1.im)]),(19,.box 214 [.raw (.complex .f64 r9.2.1.re r9.2.1.im)]),(3,.box 210 [.ref 0 0]),(0,.box 212 [.sl false (r9.2.2.1.p.Fns.map enc_Fn),ri r9.2.2.1.fn,.sl false (r9.2.2.1.l.map enc_Schema),.row 1 0 16 0 r9.2.2.1.in_.length,.row 2 0 1 0 r9.2.2.1.is.length,ri r9.2.2.1.at_,rb r9.2.2.1.safe]),(1,.row 217 16 0 (r9.2.2.1.in_.map enc_Shape)),(2,.row 4 1 0 (r9.2.2.1.is.map encBool)),(17,.box 217 (enc_Shape r9.2.2.2.1)),(4,.box 37 (enc_Inst r9.2.2.2.2))]) (Ctr.loH (Ctr.ren (Bij.tab (l := [(0,18),(1,19),(2,3),(3,0),(4,1),(5,2),(6,17),(7,4),(17,7),(18,5),(19,6)]) rfl) (Dj hr13) (by push_cast [hb10,hb12]) (by push_cast [hb10,hb12]))) (by push_cast [hb10,hb12]) ?_;push_cast [hb10,hb12];(repeat refine ao ?_);refine ⟨rfl,hK _ ?_⟩;clear hK K;replace h := Option.some.inj h;subst h;exact eN (by push_cast [hb1,hb10,hb12])
   ·replace h := cond_no hb12 h;rcases Bool.eq_false_or_eq_true (r9.2.2.2.2.Fn == 3) with hb14 | hb14
    ·replace h := cond_yes hb14 h;obtain ⟨r15,hr15,h⟩ := po_some h;refine vlD [some 45,some 46,none,none,none,none,some 47,some 48,some 49,some 50,some 51,some 52,some 53,some 54,some 55,some 56] (fun K hK => ?_);refine runD_cut 8 (fun K2 hK2 => ?_);push_cast [hb10,hb12,hb14];(repeat refine ao ?_);refine hK2 _ _ _ ?_;clear hK2 K2;simp only [List.drop_succ_cons,List.drop_zero];push_cast [hb10,hb12,hb14];(repeat refine ao ?_);refine chD (H := [(18,.box 214 [.raw (.complex .f64 r9.1.re r9.1.im)]),(19,.box 214 [.raw (.complex .f64 r9.2.1.re r9.2.1.im)]),(3,.box 210 [.ref 0 0]),(0,.box 212 [.sl false (r9.2.2.1.p.Fns.map enc_Fn),ri r9.2.2.1.fn,.sl false (r9.2.2.1.l.map enc_Schema),.row 1 0 16 0 r9.2.2.1.in_.length,.row 2 0 1 0 r9.2.2.1.is.length,ri r9.2.2.1.at_,rb r9.2.2.1.safe]),(1,.row 217 16 0 (r9.2.2.1.in_.map enc_Shape)),(2,.row 4 1 0 (r9.2.2.1.is.map encBool)),(17,.box 217 (enc_Shape r9.2.2.2.1)),(4,.box 37 (enc_Inst r9.2.2.2.2))]) (Ctr.loH (Ctr.ren (Bij.tab (l := [(0,18),(1,19),(2,3),(3,0),(4,1),(5,2),(6,17),(7,4),(17,7),(18,5),(19,6)]) rfl) (Dj hr15) (by push_cast [hb10,hb12,hb14]) (by push_cast [hb10,hb12,hb14]))) (by push_cast [hb10,hb12,hb14]) ?_;push_cast [hb10,hb12,hb14];(repeat refine ao ?_);refine ⟨rfl,hK _ ?_⟩;clear hK K;replace h := Option.some.inj h;subst h;exact eN (by push_cast [hb1,hb10,hb12,hb14])
    ·replace h := cond_no hb14 h;rcases Bool.eq_false_or_eq_true (r9.2.2.2.2.Fn == 4) with hb16 | hb16
     ·replace h := cond_yes hb16 h;obtain ⟨r17,hr17,h⟩ := po_some h;refine vlD [some 45,some 46,none,none,none,none,some 47,some 48,some 49,some 50,some 51,some 52,some 53,some 54,some 55,some 56] (fun K hK => ?_);refine runD_cut 8 (fun K2 hK2 => ?_);push_cast [hb10,hb12,hb14,hb16];(repeat refine ao ?_);refine hK2 _ _ _ ?_;clear hK2 K2;simp only [List.drop_succ_cons,List.drop_zero];push_cast [hb10,hb12,hb14,hb16];(repeat refine ao ?_);refine chD (H := [(18,.box 214 [.raw (.complex .f64 r9.1.re r9.1.im)]),(19,.box 214 [.raw (.complex .f64 r9.2.1.re r9.2.1.im)]),(3,.box 210 [.ref 0 0]),(0,.box 212 [.sl false (r9.2.2.1.p.Fns.map enc_Fn),ri r9.2.2.1.fn,.sl false (r9.2.2.1.l.map enc_Schema),.row 1 0 16 0 r9.2.2.1.in_.length,.row 2 0 1 0 r9.2.2.1.is.length,ri r9.2.2.1.at_,rb r9.2.2.1.safe]),(1,.row 217 16 0 (r9.2.2.1.in_.map enc_Shape)),(2,.row 4 1 0 (r9.2.2.1.is.map encBool)),(17,.box 217 (enc_Shape r9.2.2.2.1)),(4,.box 37 (enc_Inst r9.2.2.2.2))]) (Ctr.loH (Ctr.ren (Bij.tab (l := [(0,18),(1,19),(2,3),(3,0),(4,1),(5,2),(6,17),(7,4),(17,7),(18,5),(19,6)]) rfl) (Dj hr17) (by push_cast [hb10,hb12,hb14,hb16]) (by push_cast [hb10,hb12,hb14,hb16]))) (by push_cast [hb10,hb12,hb14,hb16]) ?_;push_cast [hb10,hb12,hb14,hb16];(repeat refine ao ?_);refine ⟨rfl,hK _ ?_⟩;clear hK K;replace h := Option.some.inj h;subst h;exact eN (by push_cast [hb1,hb10,hb12,hb14,hb16])
     ·replace h := cond_no hb16 h;obtain ⟨r18,hr18,h⟩ := po_some h;refine vlD [some 45,some 46,none,none,none,none,some 47,some 48,some 49,some 50,some 51,some 52,some 53,some 54,some 55,some 56] (fun K hK => ?_);refine runD_cut 8 (fun K2 hK2 => ?_);push_cast [hb10,hb12,hb14,hb16];(repeat refine ao ?_);refine hK2 _ _ _ ?_;clear hK2 K2;simp only [List.drop_succ_cons,List.drop_zero];push_cast [hb10,hb12,hb14,hb16];(repeat refine ao ?_);refine chD (H := [(18,.box 214 [.raw (.complex .f64 r9.1.re r9.1.im)]),(19,.box 214 [.raw (.complex .f64 r9.2.1.re r9.2.1.im)]),(3,.box 210 [.ref 0 0]),(0,.box 212 [.sl false (r9.2.2.1.p.Fns.map enc_Fn),ri r9.2.2.1.fn,.sl false (r9.2.2.1.l.map enc_Schema),.row 1 0 16 0 r9.2.2.1.in_.length,.row 2 0 1 0 r9.2.2.1.is.length,ri r9.2.2.1.at_,rb r9.2.2.1.safe]),(1,.row 217 16 0 (r9.2.2.1.in_.map enc_Shape)),(2,.row 4 1 0 (r9.2.2.1.is.map encBool)),(17,.box 217 (enc_Shape r9.2.2.2.1)),(4,.box 37 (enc_Inst r9.2.2.2.2))]) (Ctr.loH (Ctr.ren (Bij.tab (l := [(0,18),(1,19),(2,3),(3,0),(4,1),(5,2),(6,17),(7,4),(17,7),(18,5),(19,6)]) rfl) (Dj hr18) (by push_cast [hb10,hb12,hb14,hb16]) (by push_cast [hb10,hb12,hb14,hb16]))) (by push_cast [hb10,hb12,hb14,hb16]) ?_;push_cast [hb10,hb12,hb14,hb16];(repeat refine ao ?_);refine ⟨rfl,hK _ ?_⟩;clear hK K;replace h := Option.some.inj h;subst h;exact eN (by push_cast [hb1,hb10,hb12,hb14,hb16])
noncomputable def Eo (a0 : T_verify_work) (a1 : T_Inst) : Option (T_verify_work) :=
  po (Bi a0 a1) fun r1 =>
  po (Bn r1.2 r1.1 16) fun r2 =>
  po (Ez 0 4294967295) fun r3 =>
  po (Cg r2 a1.Dst r3) fun r4 =>
  some r4
theorem Vo {a0 : T_verify_work} {a1 : T_Inst} {r : T_verify_work} (h : Eo a0 a1 = some r) : Ctr prog 178 [.ref 0 0, .agg (enc_Inst a1)] [(0, .box 212 [.sl false (a0.p.Fns.map enc_Fn), ri a0.fn, .sl false (a0.l.map enc_Schema), .row 1 0 16 0 a0.in_.length, .row 2 0 1 0 a0.is.length, ri a0.at_, rb a0.safe]), (1, .row 217 16 0 (a0.in_.map enc_Shape)), (2, .row 4 1 0 (a0.is.map encBool))] (.tup []) [(0, .box 212 [.sl false (r.p.Fns.map enc_Fn), ri r.fn, .sl false (r.l.map enc_Schema), .row 1 0 16 0 r.in_.length, .row 2 0 1 0 r.is.length, ri r.at_, rb r.safe]), (1, .row 217 16 0 (r.in_.map enc_Shape)), (2, .row 4 1 0 (r.is.map encBool))] := by
 unfold Eo at h;refine Ctr.ofW tabOk func178 rfl call178 3 _ ntmps178 [] rfl rfl rfl (fun B => ?_);refine vs [0,3] (fun K hK => ?_);push_cast;apply hK;clear hK K;obtain ⟨r1,hr1,h⟩ := po_some h;obtain ⟨r2,hr2,h⟩ := po_some h;refine vs [0,3] (fun K hK => ?_);push_cast;refine ch (H := [(0,.box 212 [.sl false (a0.p.Fns.map enc_Fn),ri a0.fn,.sl false (a0.l.map enc_Schema),.row 1 0 16 0 a0.in_.length,.row 2 0 1 0 a0.is.length,ri a0.at_,rb a0.safe]),(1,.row 217 16 0 (a0.in_.map enc_Shape)),(2,.row 4 1 0 (a0.is.map encBool))]) (Ctr.loH (Ctr.ren Bij.id (Hh hr1) (by push_cast) (by push_cast))) (by push_cast) ?_;push_cast;refine ch (H := [(0,.box 212 [.sl false (r1.2.p.Fns.map enc_Fn),ri r1.2.fn,.sl false (r1.2.l.map enc_Schema),.row 1 0 16 0 r1.2.in_.length,.row 2 0 1 0 r1.2.is.length,ri r1.2.at_,rb r1.2.safe]),(1,.row 217 16 0 (r1.2.in_.map enc_Shape)),(2,.row 4 1 0 (r1.2.is.map encBool))]) (Ctr.loH (Ctr.ren Bij.id (Il hr2) (by push_cast) (by push_cast))) (by push_cast) ?_;push_cast;apply hK;clear hK K;refine VC.sub (s' := ⟨[(0,.ref 0 0),(3,.ref 3 0)],[(0,.box 212 [.sl false (r2.p.Fns.map enc_Fn),ri r2.fn,.sl false (r2.l.map enc_Schema),.row 1 0 16 0 r2.in_.length,.row 2 0 1 0 r2.is.length,ri r2.at_,rb r2.safe]),(1,.row 217 16 0 (r2.in_.map enc_Shape)),(2,.row 4 1 0 (r2.is.map encBool)),(3,.box 37 (enc_Inst a1))],9,14,3⟩) (so (by push_cast)) ?_;obtain ⟨r3,hr3,h⟩ := po_some h;obtain ⟨r4,hr4,h⟩ := po_some h;refine vlD [some 9,some 10,some 11,some 12,some 13] (fun K hK => ?_);push_cast;refine cpD (Og hr3) ?_;push_cast;refine chD (H := [(0,.box 212 [.sl false (r2.p.Fns.map enc_Fn),ri r2.fn,.sl false (r2.l.map enc_Schema),.row 1 0 16 0 r2.in_.length,.row 2 0 1 0 r2.is.length,ri r2.at_,rb r2.safe]),(1,.row 217 16 0 (r2.in_.map enc_Shape)),(2,.row 4 1 0 (r2.is.map encBool))]) (Ctr.loH (Ctr.ren Bij.id (Oa hr4) (by push_cast) (by push_cast))) (by push_cast) ?_;push_cast;refine ⟨rfl,hK _ ?_⟩;clear hK K;replace h := Option.some.inj h;subst h;exact eN (by push_cast)
noncomputable def Dy (a0 : T_verify_work) (a1 : T_Inst) : Option (T_verify_work) :=
  po (Bb a0 a1.Dst) fun r1 =>
  po (Bi r1.2 a1) fun r2 =>
  po (Bn r2.2 r2.1 16) fun r3 =>
  po (Ax r3) fun r4 =>
  pg (r4.2 = r3) <|
  po (Bp r3 r4.1) fun r6 =>
  some r6
theorem Vd {a0 : T_verify_work} {a1 : T_Inst} {r : T_verify_work} (h : Dy a0 a1 = some r) : Ctr prog 179 [.ref 0 0, .agg (enc_Inst a1)] [(0, .box 212 [.sl false (a0.p.Fns.map enc_Fn), ri a0.fn, .sl false (a0.l.map enc_Schema), .row 1 0 16 0 a0.in_.length, .row 2 0 1 0 a0.is.length, ri a0.at_, rb a0.safe]), (1, .row 217 16 0 (a0.in_.map enc_Shape)), (2, .row 4 1 0 (a0.is.map encBool))] (.tup []) [(0, .box 212 [.sl false (r.p.Fns.map enc_Fn), ri r.fn, .sl false (r.l.map enc_Schema), .row 1 0 16 0 r.in_.length, .row 2 0 1 0 r.is.length, ri r.at_, rb r.safe]), (1, .row 217 16 0 (r.in_.map enc_Shape)), (2, .row 4 1 0 (r.is.map encBool))] := by
 unfold Dy at h;refine Ctr.ofW tabOk func179 rfl call179 3 _ ntmps179 [] rfl rfl rfl (fun B => ?_);refine vs [0,3] (fun K hK => ?_);push_cast;apply hK;clear hK K;obtain ⟨r1,hr1,h⟩ := po_some h;refine vs [0,3] (fun K hK => ?_);push_cast;refine ch (H := [(0,.box 212 [.sl false (a0.p.Fns.map enc_Fn),ri a0.fn,.sl false (a0.l.map enc_Schema),.row 1 0 16 0 a0.in_.length,.row 2 0 1 0 a0.is.length,ri a0.at_,rb a0.safe]),(1,.row 217 16 0 (a0.in_.map enc_Shape)),(2,.row 4 1 0 (a0.is.map encBool))]) (Ctr.loH (Ctr.ren Bij.id (Dm hr1) (by push_cast) (by push_cast))) (by push_cast) ?_;push_cast;apply hK;clear hK K;refine VC.sub (s' := ⟨[(0,.ref 0 0),(3,.ref 3 0)],[(0,.box 212 [.sl false (r1.2.p.Fns.map enc_Fn),ri r1.2.fn,.sl false (r1.2.l.map enc_Schema),.row 1 0 16 0 r1.2.in_.length,.row 2 0 1 0 r1.2.is.length,ri r1.2.at_,rb r1.2.safe]),(1,.row 217 16 0 (r1.2.in_.map enc_Shape)),(2,.row 4 1 0 (r1.2.is.map encBool)),(3,.box 37 (enc_Inst a1))],8,17,3⟩) (so (by push_cast)) ?_;obtain ⟨r2,hr2,h⟩ := po_some h;obtain ⟨r3,hr3,h⟩ := po_some h;refine vs [0] (fun K hK => ?_);push_cast;refine ch (H := [(0,.box 212 [.sl false (r1.2.p.Fns.map enc_Fn),ri r1.2.fn,.sl false (r1.2.l.map enc_Schema),.row 1 0 16 0 r1.2.in_.length,.row 2 0 1 0 r1.2.is.length,ri r1.2.at_,rb r1.2.safe]),(1,.row 217 16 0 (r1.2.in_.map enc_Shape)),(2,.row 4 1 0 (r1.2.is.map encBool))]) (Ctr.loH (Ctr.ren Bij.id (Hh hr2) (by push_cast) (by push_cast))) (by push_cast) ?_;push_cast;refine ch (H := [(0,.box 212 [.sl false (r2.2.p.Fns.map enc_Fn),ri r2.2.fn,.sl false (r2.2.l.map enc_Schema),.row 1 0 16 0 r2.2.in_.length,.row 2 0 1 0 r2.2.is.length,ri r2.2.at_,rb r2.2.safe]),(1,.row 217 16 0 (r2.2.in_.map enc_Shape)),(2,.row 4 1 0 (r2.2.is.map encBool))]) (Ctr.loH (Ctr.ren Bij.id (Il hr3) (by push_cast) (by push_cast))) (by push_cast) ?_;push_cast;apply hK;clear hK K;refine VC.sub (s' := ⟨[(0,.ref 0 0)],[(0,.box 212 [.sl false (r3.p.Fns.map enc_Fn),ri r3.fn,.sl false (r3.l.map enc_Schema),.row 1 0 16 0 r3.in_.length,.row 2 0 1 0 r3.is.length,ri r3.at_,rb r3.safe]),(1,.row 217 16 0 (r3.in_.map enc_Shape)),(2,.row 4 1 0 (r3.is.map encBool))],13,17,3⟩) (so (by push_cast)) ?_;obtain ⟨r4,hr4,h⟩ := po_some h;obtain ⟨hg5,h⟩ := pg_some h;have qr4 := Cj hr4;rw [hg5] at qr4;obtain ⟨r6,hr6,h⟩ := po_some h;refine vl (fun K hK => ?_);push_cast;refine chR (H := [(0,.box 212 [.sl false (r3.p.Fns.map enc_Fn),ri r3.fn,.sl false (r3.l.map enc_Schema),.row 1 0 16 0 r3.in_.length,.row 2 0 1 0 r3.is.length,ri r3.at_,rb r3.safe]),(1,.row 217 16 0 (r3.in_.map enc_Shape)),(2,.row 4 1 0 (r3.is.map encBool))]) (Ctr.loH (Ctr.ren Bij.id (qr4) (by push_cast) (by push_cast))) (by push_cast) (by push_cast) ?_;push_cast;refine ch (H := [(0,.box 212 [.sl false (r3.p.Fns.map enc_Fn),ri r3.fn,.sl false (r3.l.map enc_Schema),.row 1 0 16 0 r3.in_.length,.row 2 0 1 0 r3.is.length,ri r3.at_,rb r3.safe]),(1,.row 217 16 0 (r3.in_.map enc_Shape)),(2,.row 4 1 0 (r3.is.map encBool))]) (Ctr.loH (Ctr.ren Bij.id (Kk hr6) (by push_cast) (by push_cast))) (by push_cast) ?_;push_cast;apply hK;clear hK K;replace h := Option.some.inj h;subst h;exact eN (by push_cast)
noncomputable def Sv : Option (Unit) :=
  some ()
theorem Xi {r : Unit} (h : Sv = some r) : Ctr prog 130 [] [] (.mp 1) [(1, .mp [(.int .i64 0, .fn (.func 175) [] []), (.int .i64 1, .fn (.func 176) [] []), (.int .i64 2, .fn (.func 177) [] []), (.int .i64 3, .fn (.func 178) [] []), (.int .i64 4, .fn (.func 179) [] []), (.int .i64 5, .fn (.func 180) [] []), (.int .i64 6, .fn (.func 181) [] []), (.int .i64 7, .fn (.func 182) [] [])] 8)] := by
 unfold Sv at h;refine Ctr.ofW tabOk func130 rfl call130 0 _ ntmps130 [.tmp 0] rfl rfl rfl (fun B => ?_);refine vs [] (fun K hK => ?_);push_cast;apply hK;clear hK K;refine vs [0] (fun K hK => ?_);refine runOps_cut 8 (fun K2 hK2 => ?_);push_cast;refine hK2 _ _ ?_;clear hK2 K2;simp only [List.drop_succ_cons,List.drop_zero];push_cast;apply hK;clear hK K;refine VC.ret ?_;replace h := Option.some.inj h;subst h;exact en (by push_cast)
noncomputable def Ad (a0 : (List T_Schema)) (i_1 : Int) : Option ((Int) ⊕ ((Unit) ⊕ (Int))) :=
  cond (decide (i_1 < (a0.length : Int))) (
  po (idx a0 i_1) fun x4 =>
  po (Ih x4) fun r5 =>
  cond r5 (
  some (Sum.inr (Sum.inr i_1))) (
  some (Sum.inl (IntKind.i64.wrap (i_1 + 1))))) (
  some (Sum.inr (Sum.inl ())))
noncomputable def Aw : Option (Int) :=
  some (-1)
noncomputable def Ag (a0 : (List T_Schema)) : Option (Int) :=
  pm (
  lpU (fun x => Ad a0 x) 0) (fun x => Aw)
theorem Gq {a0 : (List T_Schema)} {r : Int} (h : Ag a0 = some r) : Ctr prog 172 [.sl false (a0.map enc_Schema), .fn (.func 127) [] []] [] (ri r) [] := by
 unfold Ag at h;refine Ctr.ofW tabOk func172 rfl call172 0 _ ntmps172 [.tmp 4] rfl rfl rfl (fun B => ?_);refine vs [0,1] (fun K hK => ?_);push_cast;apply hK;clear hK K;refine vm h (fun x => ⟨[],[],16,19,0⟩) (fun v1 h hk1 => ?_) ?_
 ·refine vs [0,1,7,8] (fun K hK => ?_);push_cast;apply hK;clear hK K;refine VC.block ?_;refine VC.loopP h (fun x => ⟨[(0,.sl false (a0.map enc_Schema)),(1,.fn (.func 127) [] []),(7,ri (a0.length : Int)),(8,ri x)],[],15,19,0⟩) ?_ ?_
  ·exact sl (by push_cast)
  rintro i_1 b2 (h : Ad a0 i_1 = some b2) hf2;(try push_cast);unfold Ad at h;refine vs [0,1,7,8,9] (fun K hK => ?_);push_cast;apply hK;clear hK K;refine VC.seq ?_;refine vc h (fun hb3 h => ?_) (fun hb3 h => ?_)
  ·refine VC.skip ?_;refine VC.seq ?_;refine VC.block ?_;refine vs [0,1,5,7,8] (fun K hK => ?_);push_cast;apply hK;clear hK K;obtain ⟨x4,hx4,h⟩ := po_some h;replace hx4 := idx_some4 hx4;obtain ⟨r5,hr5,h⟩ := po_some h;refine vs [0,1,5,7,8,16] (fun K hK => ?_);push_cast [hx4];(repeat refine ao ?_);refine cp (Wf hr5) ?_;push_cast [hx4];(repeat refine ao ?_);apply hK;clear hK K;refine vc h (fun hb6 h => ?_) (fun hb6 h => ?_)
   ·refine vs [4] (fun K hK => ?_);push_cast;apply hK;clear hK K;refine VC.ret ?_;replace h := ol h hf2;replace h := om h hk1;replace h := Option.some.inj h;subst h;exact en (by push_cast [hb3,hb6])
   ·refine VC.skip ?_;refine vl (fun K hK => ?_);push_cast;apply hK;clear hK K;refine bk h ?_;exact sl (by push_cast [hb3,hb6])
  ·refine VC.exit ?_;replace h := ol h hf2;refine am h hk1 ?_;exact sl (by push_cast [hb3])
 ·rintro ⟨⟩ (h : Aw = some r);(try push_cast);unfold Aw at h;refine vs [4] (fun K hK => ?_);push_cast;apply hK;clear hK K;refine VC.ret ?_;replace h := Option.some.inj h;subst h;exact en (by push_cast)
noncomputable def Aa (a0 : (List T_Schema)) : Option (Bool) :=
  po (Ag a0) fun r1 =>
  some (decide (r1 ≥ 0))
theorem Fp {a0 : (List T_Schema)} {r : Bool} (h : Aa a0 = some r) : Ctr prog 126 [.sl false (a0.map enc_Schema), .fn (.func 127) [] []] [] (rb r) [] := by
 unfold Aa at h;refine Ctr.ofW tabOk func126 rfl call126 0 _ ntmps126 [.tmp 4] rfl rfl rfl (fun B => ?_);refine vs [0,1] (fun K hK => ?_);push_cast;apply hK;clear hK K;obtain ⟨r1,hr1,h⟩ := po_some h;refine vs [4] (fun K hK => ?_);push_cast;refine cp (Gq hr1) ?_;push_cast;apply hK;clear hK K;refine VC.ret ?_;replace h := Option.some.inj h;subst h;exact en (by push_cast)
noncomputable def Gj (i_5 : Int) (s_11 : T_verify_work) : Option ((T_verify_work × Int) ⊕ ((T_verify_work) ⊕ ((List T_Shape) × (List Bool) × Int))) :=
  cond (!s_11.safe) (
  some (Sum.inr (Sum.inr ([], [], 8)))) (
  some (Sum.inl (s_11, (IntKind.i64.wrap (i_5 + 1)))))
noncomputable def Dt (x10 : T_Fn) (s_4 : T_verify_work) (i_5 : Int) : Option ((T_verify_work × Int) ⊕ ((T_verify_work) ⊕ ((List T_Shape) × (List Bool) × Int))) :=
  cond (decide (i_5 < (x10.Code.length : Int))) (
  po (idx x10.Code i_5) fun x22 =>
  po (
  po (idx s_4.is i_5) fun x24 =>
  cond x24 (
  cond (x22.Op == 0) (
  po (Fo (T_verify_work.mk s_4.p s_4.fn s_4.l s_4.in_ s_4.is i_5 s_4.safe) x22) fun r27 =>
  some r27) (
  cond (x22.Op == 1) (
  po (Ef (T_verify_work.mk s_4.p s_4.fn s_4.l s_4.in_ s_4.is i_5 s_4.safe) x22) fun r29 =>
  some r29) (
  cond (x22.Op == 2) (
  po (Dn (T_verify_work.mk s_4.p s_4.fn s_4.l s_4.in_ s_4.is i_5 s_4.safe) x22) fun r31 =>
  some r31) (
  cond (x22.Op == 3) (
  po (Eo (T_verify_work.mk s_4.p s_4.fn s_4.l s_4.in_ s_4.is i_5 s_4.safe) x22) fun r33 =>
  some r33) (
  cond (x22.Op == 4) (
  po (Dy (T_verify_work.mk s_4.p s_4.fn s_4.l s_4.in_ s_4.is i_5 s_4.safe) x22) fun r35 =>
  some r35) (
  cond (x22.Op == 5) (
  po (Ek (T_verify_work.mk s_4.p s_4.fn s_4.l s_4.in_ s_4.is i_5 s_4.safe) x22) fun r37 =>
  some r37) (
  cond (x22.Op == 6) (
  po (Eu (T_verify_work.mk s_4.p s_4.fn s_4.l s_4.in_ s_4.is i_5 s_4.safe) x22) fun r39 =>
  some r39) (
  cond (x22.Op == 7) (
  po (Cy (T_verify_work.mk s_4.p s_4.fn s_4.l s_4.in_ s_4.is i_5 s_4.safe) x22) fun r41 =>
  some r41) (
  none))))))))) (
  some (T_verify_work.mk s_4.p s_4.fn s_4.l s_4.in_ s_4.is i_5 s_4.safe))) (fun x => Gj i_5 x)) (
  some (Sum.inr (Sum.inl s_4)))
noncomputable def Jp (s_10 : T_verify_work) : Option ((List T_Shape) × (List Bool) × Int) :=
  some (s_10.in_, s_10.is, 0)
noncomputable def Eh (a0 : T_Prog) (a1 : Int) (a2 : (List T_Schema)) (i_2 : Bool) : Option ((List T_Shape) × (List Bool) × Int) :=
  cond i_2 (
  some ([], [], 3)) (
  po (idx a0.Fns a1) fun x10 =>
  pg (0 ≤ (x10.Code.length : Int) ∧ 136 * (x10.Code.length : Int) ≤ 140737488355328) <|
  pl (List.replicate x10.Code.length (T_Shape.mk (A8.mk false false false false false false false false) (A8.mk (C128.mk 0 0) (C128.mk 0 0) (C128.mk 0 0) (C128.mk 0 0) (C128.mk 0 0) (C128.mk 0 0) (C128.mk 0 0) (C128.mk 0 0)))) fun y12 =>
  pg (0 ≤ (x10.Code.length : Int) ∧ 1 * (x10.Code.length : Int) ≤ 140737488355328) <|
  pl (List.replicate x10.Code.length false) fun y14 =>
  po (Ko x10.Args) fun r15 =>
  po (Cc (T_verify_work.mk a0 a1 a2 y12 y14 0 true) 0 r15.1) fun r16 =>
  po (some ()) fun r18 =>
  pm (
  lpU (fun x => Dt x10 x.1 x.2) (r16, 0)) (fun x => Jp x))
noncomputable def Em (a0 : T_Prog) (a1 : Int) (a2 : (List T_Schema)) (i_1 : Bool) : Option ((List T_Shape) × (List Bool) × Int) :=
  cond i_1 (
  some ([], [], 1)) (
  po (
  cond (decide (a1 < 0)) (
  some (decide (a1 < 0))) (
  some (decide (a1 ≥ (a0.Fns.length : Int))))) (fun x => Eh a0 a1 a2 x))
noncomputable def Fe (a0 : T_Prog) (a1 : Int) (a2 : (List T_Schema)) : Option ((List T_Shape) × (List Bool) × Int) :=
  po (
  po (Fl a0) fun r2 =>
  cond (!r2) (
  some (!r2)) (
  cond (decide ((a2.length : Int) > 4)) (
  some (decide ((a2.length : Int) > 4))) (
  po (Aa a2) fun r5 =>
  some r5))) (fun x => Em a0 a1 a2 x)
theorem Xg {a0 : T_Prog} {a1 : Int} {a2 : (List T_Schema)} {r : (List T_Shape) × (List Bool) × Int} (h : Fe a0 a1 a2 = some r) : Ctr prog 90 [.agg (enc_Prog a0), ri a1, .sl false (a2.map enc_Schema)] [] (.tup [.sl false (r.1.map enc_Shape), .sl false (r.2.1.map encBool), ri r.2.2]) [] := by
 unfold Fe at h;refine Ctr.ofW tabOk func90 rfl call90 0 _ ntmps90 [.tmp 6,.tmp 7,.tmp 8] rfl rfl rfl (fun B => ?_);refine vs [1,2,3] (fun K hK => ?_);push_cast;apply hK;clear hK K;refine VC.seq ?_;refine VC.block ?_;refine vj h (fun x => ⟨[(1,ri a1),(2,.sl false (a2.map enc_Schema)),(3,.ref 0 0),(16,rb x)],[(0,.box 56 [.sl false (a0.Fns.map enc_Fn)])],15,103,0⟩) (fun v1 h hk1 => ?_) ?_
 ·obtain ⟨r2,hr2,h⟩ := po_some h;refine vs [1,2,3,16] (fun K hK => ?_);push_cast;refine cp (Ui hr2) ?_;push_cast;apply hK;clear hK K;refine vc h (fun hb3 h => ?_) (fun hb3 h => ?_)
  ·refine VC.skip ?_;refine ar h hk1 ?_;exact sl (by push_cast [hb3])
  ·refine vs [1,2,3,16] (fun K hK => ?_);push_cast;apply hK;clear hK K;refine vc h (fun hb4 h => ?_) (fun hb4 h => ?_)
   ·refine VC.skip ?_;refine ar h hk1 ?_;exact sl (by push_cast [hb3,hb4])
   ·obtain ⟨r5,hr5,h⟩ := po_some h;refine vl (fun K hK => ?_);push_cast;refine cp (Fp hr5) ?_;push_cast;apply hK;clear hK K;refine ar h hk1 ?_;exact sl (by push_cast [hb3,hb4])
 ·rintro i_1 (h : Em a0 a1 a2 i_1 = some r);(try push_cast);unfold Em at h;refine vc h (fun hb6 h => ?_) (fun hb6 h => ?_)
  ·refine vs [6,7,8] (fun K hK => ?_);push_cast;apply hK;clear hK K;refine VC.ret ?_;replace h := Option.some.inj h;subst h;exact en (by push_cast [hb6])
  ·refine vj h (fun x => ⟨[(1,ri a1),(2,.sl false (a2.map enc_Schema)),(3,.ref 0 0),(25,rb x)],[(0,.box 56 [.sl false (a0.Fns.map enc_Fn)])],24,103,0⟩) (fun v7 h hk7 => ?_) ?_
   ·refine vs [1,2,3,25] (fun K hK => ?_);push_cast;apply hK;clear hK K;refine vc h (fun hb8 h => ?_) (fun hb8 h => ?_)
    ·refine VC.skip ?_;refine ar h hk7 ?_;exact sl (by push_cast [hb6,hb8])
    ·refine vl (fun K hK => ?_);push_cast;apply hK;clear hK K;refine ar h hk7 ?_;exact sl (by push_cast [hb6,hb8])
   ·rintro i_2 (h : Eh a0 a1 a2 i_2 = some r);(try push_cast);unfold Eh at h;refine vc h (fun hb9 h => ?_) (fun hb9 h => ?_)
    ·refine vs [6,7,8] (fun K hK => ?_);push_cast;apply hK;clear hK K;refine VC.ret ?_;replace h := Option.some.inj h;subst h;exact en (by push_cast [hb6,hb9])
    ·refine VC.skip ?_;obtain ⟨x10,hx10,h⟩ := po_some h;replace hx10 := idx_some4 hx10;refine vs [1,2,3,9] (fun K hK => ?_);push_cast [hx10];(repeat refine ao ?_);apply hK;clear hK K;obtain ⟨hg11,h⟩ := pg_some h;obtain ⟨y12,hy12,h⟩ := pl_some h;obtain ⟨hg13,h⟩ := pg_some h;obtain ⟨y14,hy14,h⟩ := pl_some h;refine vsD [some 39,some 40,some 41,some 42,some 43,some 44,some 45,some 46,some 47,some 48,some 49,some 10] [1,3,9,10] (fun K hK => ?_);refine runD_cut 8 (fun K2 hK2 => ?_);push_cast [hg11,hg13];(repeat refine ao ?_);refine hK2 _ _ _ ?_;clear hK2 K2;simp only [List.drop_succ_cons,List.drop_zero];push_cast [hg11,hg13];(repeat refine ao ?_);refine ⟨rfl,hK _ ?_⟩;clear hK K;refine VC.sub (s' := ⟨[(1,ri a1),(3,.ref 0 0),(9,.sl false (x10.Code.map enc_Inst)),(10,.ref 41 0)],[(0,.box 56 [.sl false (a0.Fns.map enc_Fn)]),(36,.row 217 16 0 (y12.map enc_Shape)),(39,.row 4 1 0 (y14.map encBool)),(41,.box 212 [.sl false (a0.Fns.map enc_Fn),ri a1,.sl false (a2.map enc_Schema),.row 36 0 16 0 y12.length,.row 39 0 1 0 y14.length,ri 0,rb true])],43,103,0⟩) (so (by push_cast [hb6,hb9,hy12,hy14])) ?_;obtain ⟨r15,hr15,h⟩ := po_some h;refine vs [9,10,11] (fun K hK => ?_);refine runOps_cut 8 (fun K2 hK2 => ?_);push_cast [hx10];(repeat refine ao ?_);refine cp (Yr hr15) ?_;push_cast [hx10];(repeat refine ao ?_);refine hK2 _ _ ?_;clear hK2 K2;simp only [List.drop_succ_cons,List.drop_zero];push_cast [hx10];(repeat refine ao ?_);apply hK;clear hK K;obtain ⟨r16,hr16,h⟩ := po_some h;refine vs [9,10] (fun K hK => ?_);push_cast;refine ch (H := [(41,.box 212 [.sl false (a0.Fns.map enc_Fn),ri a1,.sl false (a2.map enc_Schema),.row 36 0 16 0 y12.length,.row 39 0 1 0 y14.length,ri 0,rb true]),(36,.row 217 16 0 (y12.map enc_Shape)),(39,.row 4 1 0 (y14.map encBool))]) (Ctr.loH (Ctr.ren (Bij.swp 2 39 (Bij.swp 1 36 (Bij.swp 0 41 Bij.id))) (Me hr16) (by push_cast) (by push_cast))) (by push_cast) ?_;push_cast;apply hK;clear hK K;refine VC.sub (s' := ⟨[(9,.sl false (x10.Code.map enc_Inst)),(10,.ref 41 0)],[(36,.row 217 16 0 (r16.in_.map enc_Shape)),(39,.row 4 1 0 (r16.is.map encBool)),(41,.box 212 [.sl false (r16.p.Fns.map enc_Fn),ri r16.fn,.sl false (r16.l.map enc_Schema),.row 36 0 16 0 r16.in_.length,.row 39 0 1 0 r16.is.length,ri r16.at_,rb r16.safe])],59,103,0⟩) (so (by push_cast [hb6,hb9])) ?_;obtain ⟨r18,hr18,h⟩ := po_some h;refine vs [9,10,13] (fun K hK => ?_);push_cast;refine ch (H := []) (Ctr.ren (Bij.swp 1 59 Bij.id) (Xi hr18) (by push_cast) (by push_cast)) (by push_cast) ?_;push_cast;apply hK;clear hK K;refine VC.sub (s' := ⟨[(9,.sl false (x10.Code.map enc_Inst)),(10,.ref 41 0),(13,.mp 59)],[(36,.row 217 16 0 (r16.in_.map enc_Shape)),(39,.row 4 1 0 (r16.is.map encBool)),(41,.box 212 [.sl false (r16.p.Fns.map enc_Fn),ri r16.fn,.sl false (r16.l.map enc_Schema),.row 36 0 16 0 r16.in_.length,.row 39 0 1 0 r16.is.length,ri r16.at_,rb r16.safe]),(59,.mp [(.int .i64 0,.fn (.func 175) [] []),(.int .i64 1,.fn (.func 176) [] []),(.int .i64 2,.fn (.func 177) [] []),(.int .i64 3,.fn (.func 178) [] []),(.int .i64 4,.fn (.func 179) [] []),(.int .i64 5,.fn (.func 180) [] []),(.int .i64 6,.fn (.func 181) [] []),(.int .i64 7,.fn (.func 182) [] [])] 8)],61,103,0⟩) (so (by push_cast [hb6,hb9])) ?_;refine vm h (fun x => ⟨[(10,.ref 41 0)],[(36,.row 217 16 0 (x.in_.map enc_Shape)),(39,.row 4 1 0 (x.is.map encBool)),(41,.box 212 [.sl false (x.p.Fns.map enc_Fn),ri x.fn,.sl false (x.l.map enc_Schema),.row 36 0 16 0 x.in_.length,.row 39 0 1 0 x.is.length,ri x.at_,rb x.safe])],98,103,0⟩) (fun v19 h hk19 => ?_) ?_
     ·refine vs [10,13,64,65,66] (fun K hK => ?_);push_cast;apply hK;clear hK K;refine VC.block ?_;refine VC.loopP h (fun x => ⟨[(10,.ref 41 0),(13,.mp 59),(64,.sl false (x10.Code.map enc_Inst)),(65,ri (x10.Code.length : Int)),(66,ri x.2)],[(36,.row 217 16 0 (x.1.in_.map enc_Shape)),(39,.row 4 1 0 (x.1.is.map encBool)),(41,.box 212 [.sl false (x.1.p.Fns.map enc_Fn),ri x.1.fn,.sl false (x.1.l.map enc_Schema),.row 36 0 16 0 x.1.in_.length,.row 39 0 1 0 x.1.is.length,ri x.1.at_,rb x.1.safe]),(59,.mp [(.int .i64 0,.fn (.func 175) [] []),(.int .i64 1,.fn (.func 176) [] []),(.int .i64 2,.fn (.func 177) [] []),(.int .i64 3,.fn (.func 178) [] []),(.int .i64 4,.fn (.func 179) [] []),(.int .i64 5,.fn (.func 180) [] []),(.int .i64 6,.fn (.func 181) [] []),(.int .i64 7,.fn (.func 182) [] [])] 8)],97,103,0⟩) ?_ ?_
      ·exact sl (by push_cast [hb6,hb9])
      rintro ⟨s_4,i_5⟩ b20 (h : Dt x10 s_4 i_5 = some b20) hf20;(try push_cast);unfold Dt at h;refine vs [10,13,64,65,66,67] (fun K hK => ?_);push_cast;apply hK;clear hK K;refine VC.seq ?_;refine vc h (fun hb21 h => ?_) (fun hb21 h => ?_)
      ·refine VC.skip ?_;refine VC.seq ?_;refine VC.block ?_;obtain ⟨x22,hx22,h⟩ := po_some h;replace hx22 := idx_some4 hx22;refine vs [10,13,14,15,64,65,66] (fun K hK => ?_);push_cast [hx22];(repeat refine ao ?_);apply hK;clear hK K;refine vj h (fun x => ⟨[(10,.ref 41 0),(13,.mp 59),(64,.sl false (x10.Code.map enc_Inst)),(65,ri (x10.Code.length : Int)),(66,ri i_5)],[(36,.row 217 16 0 (x.in_.map enc_Shape)),(39,.row 4 1 0 (x.is.map encBool)),(41,.box 212 [.sl false (x.p.Fns.map enc_Fn),ri x.fn,.sl false (x.l.map enc_Schema),.row 36 0 16 0 x.in_.length,.row 39 0 1 0 x.is.length,ri x.at_,rb x.safe]),(59,.mp [(.int .i64 0,.fn (.func 175) [] []),(.int .i64 1,.fn (.func 176) [] []),(.int .i64 2,.fn (.func 177) [] []),(.int .i64 3,.fn (.func 178) [] []),(.int .i64 4,.fn (.func 179) [] []),(.int .i64 5,.fn (.func 180) [] []),(.int .i64 6,.fn (.func 181) [] []),(.int .i64 7,.fn (.func 182) [] [])] 8)],123,103,0⟩) (fun v23 h hk23 => ?_) ?_
       ·refine vs [10,13,14,15,64,65,66] (fun K hK => ?_);push_cast;apply hK;clear hK K;obtain ⟨x24,hx24,h⟩ := po_some h;replace hx24 := idx_some4 hx24;refine vs [10,13,15,64,65,66,81] (fun K hK => ?_);push_cast [hx24];(repeat refine ao ?_);apply hK;clear hK K;refine vc h (fun hb25 h => ?_) (fun hb25 h => ?_)
        ·rcases Bool.eq_false_or_eq_true (x22.Op == 0) with hb26 | hb26
         ·replace h := cond_yes hb26 h;obtain ⟨r27,hr27,h⟩ := po_some h;refine vl (fun K hK => ?_);push_cast [hb26];(repeat refine ao ?_);refine ch (H := [(41,.box 212 [.sl false (s_4.p.Fns.map enc_Fn),ri s_4.fn,.sl false (s_4.l.map enc_Schema),.row 36 0 16 0 s_4.in_.length,.row 39 0 1 0 s_4.is.length,ri i_5,rb s_4.safe]),(36,.row 217 16 0 (s_4.in_.map enc_Shape)),(39,.row 4 1 0 (s_4.is.map encBool))]) (Ctr.loH (Ctr.ren (Bij.swp 2 39 (Bij.swp 1 36 (Bij.swp 0 41 Bij.id))) (Wc hr27) (by push_cast [hb26]) (by push_cast [hb26]))) (by push_cast [hb26]) ?_;push_cast [hb26];(repeat refine ao ?_);apply hK;clear hK K;refine ar h hk23 ?_;exact sl (by push_cast [hb6,hb9,hb21,hb25,hb26])
         ·replace h := cond_no hb26 h;rcases Bool.eq_false_or_eq_true (x22.Op == 1) with hb28 | hb28
          ·replace h := cond_yes hb28 h;obtain ⟨r29,hr29,h⟩ := po_some h;refine vl (fun K hK => ?_);push_cast [hb26,hb28];(repeat refine ao ?_);refine ch (H := [(41,.box 212 [.sl false (s_4.p.Fns.map enc_Fn),ri s_4.fn,.sl false (s_4.l.map enc_Schema),.row 36 0 16 0 s_4.in_.length,.row 39 0 1 0 s_4.is.length,ri i_5,rb s_4.safe]),(36,.row 217 16 0 (s_4.in_.map enc_Shape)),(39,.row 4 1 0 (s_4.is.map encBool))]) (Ctr.loH (Ctr.ren (Bij.swp 2 39 (Bij.swp 1 36 (Bij.swp 0 41 Bij.id))) (Vr hr29) (by push_cast [hb26,hb28]) (by push_cast [hb26,hb28]))) (by push_cast [hb26,hb28]) ?_;push_cast [hb26,hb28];(repeat refine ao ?_);apply hK;clear hK K;refine ar h hk23 ?_;exact sl (by push_cast [hb6,hb9,hb21,hb25,hb26,hb28])
          ·replace h := cond_no hb28 h;rcases Bool.eq_false_or_eq_true (x22.Op == 2) with hb30 | hb30
           ·replace h := cond_yes hb30 h;obtain ⟨r31,hr31,h⟩ := po_some h;refine vl (fun K hK => ?_);push_cast [hb26,hb28,hb30];(repeat refine ao ?_);refine ch (H := [(41,.box 212 [.sl false (s_4.p.Fns.map enc_Fn),ri s_4.fn,.sl false (s_4.l.map enc_Schema),.row 36 0 16 0 s_4.in_.length,.row 39 0 1 0 s_4.is.length,ri i_5,rb s_4.safe]),(36,.row 217 16 0 (s_4.in_.map enc_Shape)),(39,.row 4 1 0 (s_4.is.map encBool))]) (Ctr.loH (Ctr.ren (Bij.swp 2 39 (Bij.swp 1 36 (Bij.swp 0 41 Bij.id))) (Wd hr31) (by push_cast [hb26,hb28,hb30]) (by push_cast [hb26,hb28,hb30]))) (by push_cast [hb26,hb28,hb30]) ?_;push_cast [hb26,hb28,hb30];(repeat refine ao ?_);apply hK;clear hK K;refine ar h hk23 ?_;exact sl (by push_cast [hb6,hb9,hb21,hb25,hb26,hb28,hb30])
           ·replace h := cond_no hb30 h;rcases Bool.eq_false_or_eq_true (x22.Op == 3) with hb32 | hb32
            ·replace h := cond_yes hb32 h;obtain ⟨r33,hr33,h⟩ := po_some h;refine vl (fun K hK => ?_);push_cast [hb26,hb28,hb30,hb32];(repeat refine ao ?_);refine ch (H := [(41,.box 212 [.sl false (s_4.p.Fns.map enc_Fn),ri s_4.fn,.sl false (s_4.l.map enc_Schema),.row 36 0 16 0 s_4.in_.length,.row 39 0 1 0 s_4.is.length,ri i_5,rb s_4.safe]),(36,.row 217 16 0 (s_4.in_.map enc_Shape)),(39,.row 4 1 0 (s_4.is.map encBool))]) (Ctr.loH (Ctr.ren (Bij.swp 2 39 (Bij.swp 1 36 (Bij.swp 0 41 Bij.id))) (Vo hr33) (by push_cast [hb26,hb28,hb30,hb32]) (by push_cast [hb26,hb28,hb30,hb32]))) (by push_cast [hb26,hb28,hb30,hb32]) ?_;push_cast [hb26,hb28,hb30,hb32];(repeat refine ao ?_);apply hK;clear hK K;refine ar h hk23 ?_;exact sl (by push_cast [hb6,hb9,hb21,hb25,hb26,hb28,hb30,hb32])
            ·replace h := cond_no hb32 h;rcases Bool.eq_false_or_eq_true (x22.Op == 4) with hb34 | hb34
             ·replace h := cond_yes hb34 h;obtain ⟨r35,hr35,h⟩ := po_some h;refine vl (fun K hK => ?_);push_cast [hb26,hb28,hb30,hb32,hb34];(repeat refine ao ?_);refine ch (H := [(41,.box 212 [.sl false (s_4.p.Fns.map enc_Fn),ri s_4.fn,.sl false (s_4.l.map enc_Schema),.row 36 0 16 0 s_4.in_.length,.row 39 0 1 0 s_4.is.length,ri i_5,rb s_4.safe]),(36,.row 217 16 0 (s_4.in_.map enc_Shape)),(39,.row 4 1 0 (s_4.is.map encBool))]) (Ctr.loH (Ctr.ren (Bij.swp 2 39 (Bij.swp 1 36 (Bij.swp 0 41 Bij.id))) (Vd hr35) (by push_cast [hb26,hb28,hb30,hb32,hb34]) (by push_cast [hb26,hb28,hb30,hb32,hb34]))) (by push_cast [hb26,hb28,hb30,hb32,hb34]) ?_;push_cast [hb26,hb28,hb30,hb32,hb34];(repeat refine ao ?_);apply hK;clear hK K;refine ar h hk23 ?_;exact sl (by push_cast [hb6,hb9,hb21,hb25,hb26,hb28,hb30,hb32,hb34])
             ·replace h := cond_no hb34 h;rcases Bool.eq_false_or_eq_true (x22.Op == 5) with hb36 | hb36
              ·replace h := cond_yes hb36 h;obtain ⟨r37,hr37,h⟩ := po_some h;refine vl (fun K hK => ?_);push_cast [hb26,hb28,hb30,hb32,hb34,hb36];(repeat refine ao ?_);refine ch (H := [(41,.box 212 [.sl false (s_4.p.Fns.map enc_Fn),ri s_4.fn,.sl false (s_4.l.map enc_Schema),.row 36 0 16 0 s_4.in_.length,.row 39 0 1 0 s_4.is.length,ri i_5,rb s_4.safe]),(36,.row 217 16 0 (s_4.in_.map enc_Shape)),(39,.row 4 1 0 (s_4.is.map encBool))]) (Ctr.loH (Ctr.ren (Bij.swp 2 39 (Bij.swp 1 36 (Bij.swp 0 41 Bij.id))) (Vt hr37) (by push_cast [hb26,hb28,hb30,hb32,hb34,hb36]) (by push_cast [hb26,hb28,hb30,hb32,hb34,hb36]))) (by push_cast [hb26,hb28,hb30,hb32,hb34,hb36]) ?_;push_cast [hb26,hb28,hb30,hb32,hb34,hb36];(repeat refine ao ?_);apply hK;clear hK K;refine ar h hk23 ?_;exact sl (by push_cast [hb6,hb9,hb21,hb25,hb26,hb28,hb30,hb32,hb34,hb36])
              ·replace h := cond_no hb36 h;rcases Bool.eq_false_or_eq_true (x22.Op == 6) with hb38 | hb38
               ·replace h := cond_yes hb38 h;obtain ⟨r39,hr39,h⟩ := po_some h;refine vl (fun K hK => ?_);push_cast [hb26,hb28,hb30,hb32,hb34,hb36,hb38];(repeat refine ao ?_);refine ch (H := [(41,.box 212 [.sl false (s_4.p.Fns.map enc_Fn),ri s_4.fn,.sl false (s_4.l.map enc_Schema),.row 36 0 16 0 s_4.in_.length,.row 39 0 1 0 s_4.is.length,ri i_5,rb s_4.safe]),(36,.row 217 16 0 (s_4.in_.map enc_Shape)),(39,.row 4 1 0 (s_4.is.map encBool))]) (Ctr.loH (Ctr.ren (Bij.swp 2 39 (Bij.swp 1 36 (Bij.swp 0 41 Bij.id))) (Vu hr39) (by push_cast [hb26,hb28,hb30,hb32,hb34,hb36,hb38]) (by push_cast [hb26,hb28,hb30,hb32,hb34,hb36,hb38]))) (by push_cast [hb26,hb28,hb30,hb32,hb34,hb36,hb38]) ?_;push_cast [hb26,hb28,hb30,hb32,hb34,hb36,hb38];(repeat refine ao ?_);apply hK;clear hK K;refine ar h hk23 ?_;exact sl (by push_cast [hb6,hb9,hb21,hb25,hb26,hb28,hb30,hb32,hb34,hb36,hb38])
               ·replace h := cond_no hb38 h;rcases Bool.eq_false_or_eq_true (x22.Op == 7) with hb40 | hb40
                ·replace h := cond_yes hb40 h;obtain ⟨r41,hr41,h⟩ := po_some h;refine vl (fun K hK => ?_);push_cast [hb26,hb28,hb30,hb32,hb34,hb36,hb38,hb40];(repeat refine ao ?_);refine ch (H := [(41,.box 212 [.sl false (s_4.p.Fns.map enc_Fn),ri s_4.fn,.sl false (s_4.l.map enc_Schema),.row 36 0 16 0 s_4.in_.length,.row 39 0 1 0 s_4.is.length,ri i_5,rb s_4.safe]),(36,.row 217 16 0 (s_4.in_.map enc_Shape)),(39,.row 4 1 0 (s_4.is.map encBool))]) (Ctr.loH (Ctr.ren (Bij.swp 2 39 (Bij.swp 1 36 (Bij.swp 0 41 Bij.id))) (Vq hr41) (by push_cast [hb26,hb28,hb30,hb32,hb34,hb36,hb38,hb40]) (by push_cast [hb26,hb28,hb30,hb32,hb34,hb36,hb38,hb40]))) (by push_cast [hb26,hb28,hb30,hb32,hb34,hb36,hb38,hb40]) ?_;push_cast [hb26,hb28,hb30,hb32,hb34,hb36,hb38,hb40];(repeat refine ao ?_);apply hK;clear hK K;refine ar h hk23 ?_;exact sl (by push_cast [hb6,hb9,hb21,hb25,hb26,hb28,hb30,hb32,hb34,hb36,hb38,hb40])
                ·replace h := cond_no hb40 h;cases h
        ·refine VC.skip ?_;refine ar h hk23 ?_;exact sl (by push_cast [hb6,hb9,hb21,hb25])
       ·rintro s_11 (h : Gj i_5 s_11 = some b20);(try push_cast);unfold Gj at h;refine vs [10,13,64,65,66,93] (fun K hK => ?_);push_cast;apply hK;clear hK K;refine vc h (fun hb42 h => ?_) (fun hb42 h => ?_)
        ·refine vs [6,7,8] (fun K hK => ?_);push_cast;apply hK;clear hK K;refine VC.ret ?_;replace h := ol h hf20;replace h := om h hk19;replace h := Option.some.inj h;subst h;exact en (by push_cast [hb6,hb9,hb21,hb42])
        ·refine VC.skip ?_;refine vl (fun K hK => ?_);push_cast;apply hK;clear hK K;refine bk h ?_;exact sl (by push_cast [hb6,hb9,hb21,hb42])
      ·refine VC.exit ?_;replace h := ol h hf20;refine am h hk19 ?_;exact sl (by push_cast [hb6,hb9,hb21])
     ·rintro s_10 (h : Jp s_10 = some r);(try push_cast);unfold Jp at h;refine vsD [some 95,some 96,some 97,some 98,some 99,some 100,some 101,some 102,some 6,some 7,some 8] [6,7,8] (fun K hK => ?_);refine runD_cut 8 (fun K2 hK2 => ?_);push_cast;refine hK2 _ _ _ ?_;clear hK2 K2;simp only [List.drop_succ_cons,List.drop_zero];push_cast;refine ⟨rfl,hK _ ?_⟩;clear hK K;refine VC.ret ?_;replace h := Option.some.inj h;subst h;refine endS (Sub.freezeT prog (k := 6) rfl rfl (by push_cast [hb6,hb9] <;> omega) (by decide)) ?_;refine endS (Sub.freezeT prog (k := 7) rfl rfl (by push_cast [hb6,hb9] <;> omega) (by decide)) ?_;exact en (by push_cast [hb6,hb9])
noncomputable def Kc (i_2 : Int) (i_6 : Bool) : Option ((Int) ⊕ ((Unit) ⊕ (Bool))) :=
  cond i_6 (
  some (Sum.inr (Sum.inr false))) (
  some (Sum.inl (IntKind.i64.wrap (i_2 + 1))))
noncomputable def Hb (a0 : T_Prog) (x1 : T_Fn) (i_2 : Int) : Option ((Int) ⊕ ((Unit) ⊕ (Bool))) :=
  cond (decide (i_2 < (x1.Code.length : Int))) (
  po (idx x1.Code i_2) fun x5 =>
  po (
  cond (x5.Op == 1) (
  cond (decide ((IntKind.i64.wrap ((IntKind.i64.wrap (i_2 + x5.Off)) + 1)) ≥ (x1.Code.length : Int))) (
  some true) (
  cond (x5.Op == 6) (
  some (decide ((IntKind.u64.wrap (x5.Imm.toNat : Int)) ≥ (IntKind.u64.wrap (a0.Fns.length : Int))))) (
  some false))) (
  cond (x5.Op == 6) (
  some (decide ((IntKind.u64.wrap (x5.Imm.toNat : Int)) ≥ (IntKind.u64.wrap (a0.Fns.length : Int))))) (
  some false))) (fun x => Kc i_2 x)) (
  some (Sum.inr (Sum.inl ())))
noncomputable def Ki : Option (Bool) :=
  some true
noncomputable def Fb (a0 : T_Prog) (a1 : Int) : Option (Bool) :=
  po (idx a0.Fns a1) fun x1 =>
  pm (
  lpU (fun x => Hb a0 x1 x) 0) (fun x => Ki)
theorem Xh {a0 : T_Prog} {a1 : Int} {r : Bool} (h : Fb a0 a1 = some r) : Ctr prog 91 [.agg (enc_Prog a0), ri a1] [] (rb r) [] := by
 unfold Fb at h;refine Ctr.ofW tabOk func91 rfl call91 0 _ ntmps91 [.tmp 4] rfl rfl rfl (fun B => ?_);refine vs [1,2] (fun K hK => ?_);push_cast;apply hK;clear hK K;obtain ⟨x1,hx1,h⟩ := po_some h;replace hx1 := idx_some4 hx1;refine vs [2,5] (fun K hK => ?_);push_cast [hx1];(repeat refine ao ?_);apply hK;clear hK K;refine vm h (fun x => ⟨[],[],50,50,0⟩) (fun v2 h hk2 => ?_) ?_
 ·refine vs [2,5,14,15,16] (fun K hK => ?_);push_cast;apply hK;clear hK K;refine VC.block ?_;refine VC.loopP h (fun x => ⟨[(2,.ref 0 0),(5,.sl false (x1.Code.map enc_Inst)),(14,.sl false (x1.Code.map enc_Inst)),(15,ri (x1.Code.length : Int)),(16,ri x)],[(0,.box 56 [.sl false (a0.Fns.map enc_Fn)])],49,50,0⟩) ?_ ?_
  ·exact sl (by push_cast)
  rintro i_2 b3 (h : Hb a0 x1 i_2 = some b3) hf3;(try push_cast);unfold Hb at h;refine vs [2,5,14,15,16,17] (fun K hK => ?_);push_cast;apply hK;clear hK K;refine VC.seq ?_;refine vc h (fun hb4 h => ?_) (fun hb4 h => ?_)
  ·refine VC.skip ?_;refine VC.seq ?_;refine VC.block ?_;obtain ⟨x5,hx5,h⟩ := po_some h;replace hx5 := idx_some4 hx5;refine vs [2,5,6,7,14,15,16] (fun K hK => ?_);push_cast [hx5];(repeat refine ao ?_);apply hK;clear hK K;refine vj h (fun x => ⟨[(2,.ref 0 0),(5,.sl false (x1.Code.map enc_Inst)),(14,.sl false (x1.Code.map enc_Inst)),(15,ri (x1.Code.length : Int)),(16,ri i_2),(48,rb x)],[(0,.box 56 [.sl false (a0.Fns.map enc_Fn)])],84,50,0⟩) (fun v6 h hk6 => ?_) ?_
   ·rcases Bool.eq_false_or_eq_true (x5.Op == 1) with hb7 | hb7
    ·replace h := cond_yes hb7 h;rcases Bool.eq_false_or_eq_true (decide ((IntKind.i64.wrap ((IntKind.i64.wrap (i_2 + x5.Off)) + 1)) ≥ (x1.Code.length : Int))) with hb8 | hb8
     ·replace h := cond_yes hb8 h;refine vlG [some 21,some 22,some 23,some 24,some 25,some 26,some 27,some 28,some 29,some 30,some 31,some 32,some 33,some 34,some 35,some 36,some 37,some 38,some 39,some 40,some 41,some 42,some 43,some 44,some 45,some 46,some 47,some 48] (fun K hK => ?_);refine runOps_cut 8 (fun K2 hK2 => ?_);push_cast [hb7,hb8];(repeat refine ao ?_);refine hK2 _ _ ?_;clear hK2 K2;simp only [List.drop_succ_cons,List.drop_zero];refine runOps_cut 8 (fun K2 hK2 => ?_);push_cast [hb7,hb8];(repeat refine ao ?_);refine hK2 _ _ ?_;clear hK2 K2;simp only [List.drop_succ_cons,List.drop_zero];refine runOps_cut 8 (fun K2 hK2 => ?_);push_cast [hb7,hb8];(repeat refine ao ?_);refine hK2 _ _ ?_;clear hK2 K2;simp only [List.drop_succ_cons,List.drop_zero];push_cast [hb7,hb8];(repeat refine ao ?_);apply hK;clear hK K;refine ar h hk6 ?_;exact sl (by push_cast [hb4,hb7,hb8])
     ·replace h := cond_no hb8 h;rcases Bool.eq_false_or_eq_true (x5.Op == 6) with hb9 | hb9
      ·replace h := cond_yes hb9 h;refine vlG [some 21,some 22,some 23,some 24,some 25,some 26,some 27,some 28,some 29,some 30,some 31,some 32,some 33,some 34,some 35,some 36,some 37,some 38,some 39,some 40,some 41,some 42,some 43,some 44,some 45,some 46,some 47,some 48] (fun K hK => ?_);refine runOps_cut 8 (fun K2 hK2 => ?_);push_cast [hb7,hb8,hb9];(repeat refine ao ?_);refine hK2 _ _ ?_;clear hK2 K2;simp only [List.drop_succ_cons,List.drop_zero];refine runOps_cut 8 (fun K2 hK2 => ?_);push_cast [hb7,hb8,hb9];(repeat refine ao ?_);refine hK2 _ _ ?_;clear hK2 K2;simp only [List.drop_succ_cons,List.drop_zero];refine runOps_cut 8 (fun K2 hK2 => ?_);push_cast [hb7,hb8,hb9];(repeat refine ao ?_);refine hK2 _ _ ?_;clear hK2 K2;simp only [List.drop_succ_cons,List.drop_zero];push_cast [hb7,hb8,hb9];(repeat refine ao ?_);apply hK;clear hK K;refine ar h hk6 ?_;exact sl (by push_cast [hb4,hb7,hb8,hb9])
      ·replace h := cond_no hb9 h;refine vlG [some 21,some 22,some 23,some 24,some 25,some 26,some 27,some 28,some 29,some 30,some 31,some 32,some 33,some 34,some 35,some 36,some 37,some 38,some 39,some 40,some 41,some 42,some 43,some 44,some 45,some 46,some 47,some 48] (fun K hK => ?_);refine runOps_cut 8 (fun K2 hK2 => ?_);push_cast [hb7,hb8,hb9];(repeat refine ao ?_);refine hK2 _ _ ?_;clear hK2 K2;simp only [List.drop_succ_cons,List.drop_zero];refine runOps_cut 8 (fun K2 hK2 => ?_);push_cast [hb7,hb8,hb9];(repeat refine ao ?_);refine hK2 _ _ ?_;clear hK2 K2;simp only [List.drop_succ_cons,List.drop_zero];refine runOps_cut 8 (fun K2 hK2 => ?_);push_cast [hb7,hb8,hb9];(repeat refine ao ?_);refine hK2 _ _ ?_;clear hK2 K2;simp only [List.drop_succ_cons,List.drop_zero];push_cast [hb7,hb8,hb9];(repeat refine ao ?_);apply hK;clear hK K;refine ar h hk6 ?_;exact sl (by push_cast [hb4,hb7,hb8,hb9])
    ·replace h := cond_no hb7 h;rcases Bool.eq_false_or_eq_true (x5.Op == 6) with hb10 | hb10
     ·replace h := cond_yes hb10 h;refine vlG [some 21,some 22,some 23,some 24,some 25,some 26,some 27,some 28,some 29,some 30,some 31,some 32,some 33,some 34,some 35,some 36,some 37,some 38,some 39,some 40,some 41,some 42,some 43,some 44,some 45,some 46,some 47,some 48] (fun K hK => ?_);refine runOps_cut 8 (fun K2 hK2 => ?_);push_cast [hb7,hb10];(repeat refine ao ?_);refine hK2 _ _ ?_;clear hK2 K2;simp only [List.drop_succ_cons,List.drop_zero];refine runOps_cut 8 (fun K2 hK2 => ?_);push_cast [hb7,hb10];(repeat refine ao ?_);refine hK2 _ _ ?_;clear hK2 K2;simp only [List.drop_succ_cons,List.drop_zero];refine runOps_cut 8 (fun K2 hK2 => ?_);push_cast [hb7,hb10];(repeat refine ao ?_);refine hK2 _ _ ?_;clear hK2 K2;simp only [List.drop_succ_cons,List.drop_zero];push_cast [hb7,hb10];(repeat refine ao ?_);apply hK;clear hK K;refine ar h hk6 ?_;exact sl (by push_cast [hb4,hb7,hb10])
     ·replace h := cond_no hb10 h;refine vlG [some 21,some 22,some 23,some 24,some 25,some 26,some 27,some 28,some 29,some 30,some 31,some 32,some 33,some 34,some 35,some 36,some 37,some 38,some 39,some 40,some 41,some 42,some 43,some 44,some 45,some 46,some 47,some 48] (fun K hK => ?_);refine runOps_cut 8 (fun K2 hK2 => ?_);push_cast [hb7,hb10];(repeat refine ao ?_);refine hK2 _ _ ?_;clear hK2 K2;simp only [List.drop_succ_cons,List.drop_zero];refine runOps_cut 8 (fun K2 hK2 => ?_);push_cast [hb7,hb10];(repeat refine ao ?_);refine hK2 _ _ ?_;clear hK2 K2;simp only [List.drop_succ_cons,List.drop_zero];refine runOps_cut 8 (fun K2 hK2 => ?_);push_cast [hb7,hb10];(repeat refine ao ?_);refine hK2 _ _ ?_;clear hK2 K2;simp only [List.drop_succ_cons,List.drop_zero];push_cast [hb7,hb10];(repeat refine ao ?_);apply hK;clear hK K;refine ar h hk6 ?_;exact sl (by push_cast [hb4,hb7,hb10])
   ·rintro i_6 (h : Kc i_2 i_6 = some b3);(try push_cast);unfold Kc at h;refine vc h (fun hb11 h => ?_) (fun hb11 h => ?_)
    ·refine vs [4] (fun K hK => ?_);push_cast;apply hK;clear hK K;refine VC.ret ?_;replace h := ol h hf3;replace h := om h hk2;replace h := Option.some.inj h;subst h;exact en (by push_cast [hb4,hb11])
    ·refine VC.skip ?_;refine vl (fun K hK => ?_);push_cast;apply hK;clear hK K;refine bk h ?_;exact sl (by push_cast [hb4,hb11])
  ·refine VC.exit ?_;replace h := ol h hf3;refine am h hk2 ?_;exact sl (by push_cast [hb4])
 ·rintro ⟨⟩ (h : Ki = some r);(try push_cast);unfold Ki at h;refine vs [4] (fun K hK => ?_);push_cast;apply hK;clear hK K;refine VC.ret ?_;replace h := Option.some.inj h;subst h;exact en (by push_cast)
noncomputable def Eg (a0 : T_Prog) (a1 : (List T_Schema)) (i_1 : Int) : Option ((Int) ⊕ ((Unit) ⊕ (Int × Int))) :=
  cond (decide (i_1 < (maxI 1 (a0.Fns.length : Int)))) (
  po (Fe a0 i_1 a1) fun r4 =>
  cond (r4.2.2 != 0) (
  some (Sum.inr (Sum.inr (0, r4.2.2)))) (
  po (Fb a0 i_1) fun r6 =>
  cond (!r6) (
  some (Sum.inr (Sum.inr (0, 8)))) (
  some (Sum.inl (IntKind.i64.wrap (i_1 + 1)))))) (
  some (Sum.inr (Sum.inl ())))
noncomputable def Ep (a0 : T_Prog) : Option (Int × Int) :=
  po (Fj a0) fun r8 =>
  cond (decide (r8 > 2000)) (
  some (0, 2)) (
  some (r8, 0))
noncomputable def Ci (a0 : T_Prog) (a1 : (List T_Schema)) : Option (Int × Int) :=
  pm (
  lpU (fun x => Eg a0 a1 x) 0) (fun x => Ep a0)
theorem Sc {a0 : T_Prog} {a1 : (List T_Schema)} {r : Int × Int} (h : Ci a0 a1 = some r) : Ctr prog 59 [.agg (enc_Prog a0), .sl false (a1.map enc_Schema)] [] (.tup [ri r.1, ri r.2]) [] := by
 unfold Ci at h;refine Ctr.ofW tabOk func59 rfl call59 0 _ ntmps59 [.tmp 4,.tmp 5] rfl rfl rfl (fun B => ?_);refine vs [1,2] (fun K hK => ?_);push_cast;apply hK;clear hK K;refine vm h (fun x => ⟨[(2,.ref 0 0)],[(0,.box 56 [.sl false (a0.Fns.map enc_Fn)])],31,39,0⟩) (fun v1 h hk1 => ?_) ?_
 ·refine vs [1,2,14,15] (fun K hK => ?_);push_cast;apply hK;clear hK K;refine VC.block ?_;refine VC.loopP h (fun x => ⟨[(1,.sl false (a1.map enc_Schema)),(2,.ref 0 0),(14,ri (maxI 1 (a0.Fns.length : Int))),(15,ri x)],[(0,.box 56 [.sl false (a0.Fns.map enc_Fn)])],30,39,0⟩) ?_ ?_
  ·exact sl (by push_cast)
  rintro i_1 b2 (h : Eg a0 a1 i_1 = some b2) hf2;(try push_cast);unfold Eg at h;refine vs [1,2,14,15,16] (fun K hK => ?_);push_cast;apply hK;clear hK K;refine VC.seq ?_;refine vc h (fun hb3 h => ?_) (fun hb3 h => ?_)
  ·refine VC.skip ?_;refine VC.seq ?_;refine VC.block ?_;refine vs [1,2,6,14,15] (fun K hK => ?_);push_cast;apply hK;clear hK K;refine VC.seq ?_;obtain ⟨r4,hr4,h⟩ := po_some h;refine vs [1,2,6,9,14,15] (fun K hK => ?_);refine runOps_cut 8 (fun K2 hK2 => ?_);push_cast;refine cp (Xg hr4) ?_;push_cast;refine hK2 _ _ ?_;clear hK2 K2;simp only [List.drop_succ_cons,List.drop_zero];push_cast;apply hK;clear hK K;refine vs [1,2,6,9,14,15,27] (fun K hK => ?_);push_cast;apply hK;clear hK K;refine vc h (fun hb5 h => ?_) (fun hb5 h => ?_)
   ·refine vs [4,5] (fun K hK => ?_);push_cast;apply hK;clear hK K;refine VC.ret ?_;replace h := ol h hf2;replace h := om h hk1;replace h := Option.some.inj h;subst h;exact en (by push_cast [hb3,hb5])
   ·refine VC.skip ?_;obtain ⟨r6,hr6,h⟩ := po_some h;refine vs [1,2,14,15,32] (fun K hK => ?_);push_cast;refine cp (Xh hr6) ?_;push_cast;apply hK;clear hK K;refine vc h (fun hb7 h => ?_) (fun hb7 h => ?_)
    ·refine vs [4,5] (fun K hK => ?_);push_cast;apply hK;clear hK K;refine VC.ret ?_;replace h := ol h hf2;replace h := om h hk1;replace h := Option.some.inj h;subst h;exact en (by push_cast [hb3,hb5,hb7])
    ·refine VC.skip ?_;refine vl (fun K hK => ?_);push_cast;apply hK;clear hK K;refine bk h ?_;exact sl (by push_cast [hb3,hb5,hb7])
  ·refine VC.exit ?_;replace h := ol h hf2;refine am h hk1 ?_;exact sl (by push_cast [hb3])
 ·rintro ⟨⟩ (h : Ep a0 = some r);(try push_cast);unfold Ep at h;obtain ⟨r8,hr8,h⟩ := po_some h;refine vs [10] (fun K hK => ?_);push_cast;refine cp (Xa hr8) ?_;push_cast;apply hK;clear hK K;refine VC.seq ?_;refine vs [10,37] (fun K hK => ?_);push_cast;apply hK;clear hK K;refine vc h (fun hb9 h => ?_) (fun hb9 h => ?_)
  ·refine vs [4,5] (fun K hK => ?_);push_cast;apply hK;clear hK K;refine VC.ret ?_;replace h := Option.some.inj h;subst h;exact en (by push_cast [hb9])
  ·refine VC.skip ?_;refine vs [4,5] (fun K hK => ?_);push_cast;apply hK;clear hK K;refine VC.ret ?_;replace h := Option.some.inj h;subst h;exact en (by push_cast [hb9])
abbrev Wk := T_verify_work
def sfB (w : Wk) (b : Bool) : Wk := ⟨w.p, w.fn, w.l, w.in_, w.is, w.at_, b⟩
theorem sfB_same {w : Wk} {b : Bool} (h : w.safe = b) : sfB w b = w := by subst h; rfl
theorem sfB_sfB (w : Wk) (b c : Bool) : sfB (sfB w b) c = sfB w c := rfl
structure WI (p : T_Prog) (l : List T_Schema) (n k : Nat) (w : Wk) : Prop where
  p : w.p = p
  l : w.l = l
  in_ : w.in_.length = n
  is : w.is.length = n
  at_ : w.at_ = (k : Int)
theorem WI.sf {p : T_Prog} {l : List T_Schema} {n k : Nat} {w : Wk} (h : WI p l n k w) (b : Bool) : WI p l n k (sfB w b) := ⟨h.p, h.l, h.in_, h.is, h.at_⟩
section
variable {p : T_Prog} {l : List T_Schema} {n k : Nat} {w : Wk}
theorem here_ok (h : WI p l n k w) (hk : k < n) : ∃ s, idx w.in_ w.at_ = some s ∧ Ax w = some (s, w) := by
  obtain ⟨s, e, _⟩ := Ok.idx (l := w.in_) h.at_ (by rw [h.in_]; exact hk)
  exact ⟨s, e, by unfold Ax; rw [e]; rfl⟩
theorem to_ok (h : WI p l n k w) {a : Int} (ha : 0 ≤ a) (s : T_Shape) : Ok (Cc w a s) (WI p l n k) := by
  unfold Cc
  refine .cond (fun _ => .mk ⟨h.p, h.l, h.in_, h.is, h.at_⟩) fun hlt => ?_
  have hlt := of_decide_eq_false hlt
  rw [h.in_] at hlt
  have e : a = ((a.toNat : Nat) : Int) := by omega
  refine .po (Ok.idx (l := w.is) e (by rw [h.is]; omega)) fun b _ => .cond (fun _ => ?_) fun _ => ?_
  · exact .po (Ok.idx (l := w.in_) e (by rw [h.in_]; omega)) fun x _ => .po (sJoin_ok x s) fun y _ => .pl (.mk ⟨h.p, h.l, by simpa using h.in_, h.is, h.at_⟩)
  · exact .po (Ok.idx (l := w.in_) e (by rw [h.in_]; omega)) fun x _ => .pl (.pl (.mk ⟨h.p, h.l, by simpa using h.in_, by simpa using h.is, h.at_⟩))
theorem then_ok (h : WI p l n k w) (hk : k < n) (hn : n ≤ 64) (s : T_Shape) : Ok (Bp w s) (WI p l n k) := by
  unfold Bp
  refine .cond (fun _ => .po (to_ok h ?_ s) fun _ hw => .mk hw) fun _ => .mk h
  rw [h.at_, w1 (by omega)]
  omega
noncomputable def gB (w : Wk) (r : Int) : C128 × Bool := ((idx w.in_ w.at_).bind fun s => Gz s r).getD (⟨0, 0⟩, false)
theorem gB_sf (w : Wk) (b : Bool) (r : Int) : gB (sfB w b) r = gB w r := rfl
theorem get_ok (h : WI p l n k w) (hk : k < n) (r : Int) : Bb w r = some ((gB w r).1, sfB w (w.safe && (gB w r).2)) := by
  obtain ⟨s, e, eh⟩ := here_ok h hk
  obtain ⟨⟨c, b⟩, eg, _⟩ := sGet_ok s r
  have hg : gB w r = (c, b) := by
    unfold gB
    rw [e]
    simp only [Option.bind_some, eg, Option.getD_some]
  unfold Bb
  rw [eh, po_of, pg_of rfl]
  simp only [eg, po_of, hg, Fg]
  cases w.safe <;> rfl
theorem word_okw (h : WI p l n k w) (hk : k < n) (i : T_Inst) : Ok (Bi w i) fun r => WI p l n k r.2 := by
  obtain ⟨s, e, eh⟩ := here_ok h hk
  unfold Bi
  rw [eh, po_of, pg_of rfl]
  refine .po (sWord_ok s i) fun c _ => .po (P := WI p l n k) (.cond (fun _ => .mk (h.sf _)) fun _ => .mk (h.sf _)) fun w' hw => .mk hw
theorem within_ok (h : WI p l n k w) (c : C128) (m : Int) : Ok (Bn w c m) (WI p l n k) := by
  unfold Bn
  exact .po (Ends_ok c) fun _ _ => .cond (fun _ => .cond (fun _ => .mk (h.sf _)) fun _ => .mk (h.sf _)) fun _ => .mk (h.sf _)
theorem put_okw (h : WI p l n k w) (hk : k < n) (hn : n ≤ 64) (r : Int) (b : C128) : Ok (Cg w r b) (WI p l n k) := by
  obtain ⟨s, e, eh⟩ := here_ok h hk
  unfold Cg
  rw [eh, po_of, pg_of rfl]
  exact .po (sPut_ok s r b) fun x _ => .po (then_ok h hk hn x) fun _ hw => .mk hw
theorem aluW_ok (h : WI p l n k w) (hk : k < n) (hn : n ≤ 64) (i : T_Inst) : Ok (Fo w i) (WI p l n k) := by
  unfold Fo Ip
  refine .po (Of_ok _ _) fun c _ => .po (word_okw h hk i) fun r hr => .po (P := fun x : Wk × C128 => WI p l n k x.1) (.cond (fun _ => ?_) fun _ => .mk hr) fun x hx => ?_
  · rw [get_ok hr hk]
    exact .mk (hr.sf _)
  · exact .po (Alu_ok _ _ _) fun y _ => .po (put_okw hx hk hn _ _) fun _ hw => .mk hw
theorem jump1_ok (h : WI p l n k w) {a : Int} (ha : 0 ≤ a) (c : Int) (x y : C128) (s : T_Shape) (i : T_Inst) : Ok (Bd c a x y w s i) fun r => WI p l n k r.2.2.1 ∧ r.2.2.2.2 = i := by
  unfold Bd Gh
  refine .po (Cut_ok _ _ _) fun b _ => .po (P := fun q : Wk × Bool => WI p l n k q.1) (.cond (fun _ => .mk h) fun _ => .mk h) fun q hq => .cond (fun _ => ?_) fun _ => .mk ⟨hq, rfl⟩
  exact .po (sPut_ok _ _ _) fun z _ => .po (to_ok hq ha z) fun w' hw => .mk ⟨hw, rfl⟩
theorem jumpW_ok (h : WI p l n k w) (hk : k < n) (hn : n ≤ 64) {i : T_Inst} (hi : InstOk i) : Ok (Ef w i) (WI p l n k) := by
  have hoff : ∀ w' : Wk, WI p l n k w' → 0 ≤ IntKind.i64.wrap (IntKind.i64.wrap (w'.at_ + i.Off) + 1) := fun w' hw => by
    have := hi.off
    rw [hw.at_, wrap_i64 (n := (k : Int) + i.Off) (by omega) (by omega), wrap_i64 (by omega) (by omega)]
    omega
  have hnx : ∀ w' : Wk, WI p l n k w' → 0 ≤ IntKind.i64.wrap (w'.at_ + 1) := fun w' hw => by
    rw [hw.at_, w1 (by omega)]
    omega
  obtain ⟨s, e, eh⟩ := here_ok h hk
  unfold Ef
  refine .cond (fun _ => ?_) fun _ => ?_
  · rw [eh, po_of, pg_of rfl]
    exact .po (to_ok h (hoff w h) s) fun _ hw => .mk hw
  · rw [eh, po_of, pg_of rfl, get_ok h hk, po_of]
    refine .po (word_okw (h.sf _) hk i) fun r hr => .po (jump1_ok hr (hoff _ hr) _ _ _ _ _) fun q hq => ?_
    have fin : ∀ c, Ok (po (Bd c (IntKind.i64.wrap (q.2.2.1.at_ + 1)) q.1 q.2.1 q.2.2.1 q.2.2.2.1 q.2.2.2.2) fun r => some r.2.2.1) (WI p l n k) := fun c =>
      .po (jump1_ok hq.1 (hnx _ hq.1) _ _ _ _ _) fun z hz => .mk hz.1
    exact .cond (fun _ => fin _) fun _ => .cond (fun _ => fin _) fun _ => .cond (fun _ => fin _) fun _ => .cond (fun _ => fin _) fun _ => fin _
theorem ctxW_ok (h : WI p l n k w) (hk : k < n) (hn : n ≤ 64) (i : T_Inst) : Ok (Dn w i) (WI p l n k) := by
  unfold Dn
  exact .po (word_okw h hk i) fun r hr => .po (within_ok hr _ _) fun v hv => .po (Of_ok _ _) fun c _ => .po (put_okw hv hk hn _ _) fun _ hw => .mk hw
theorem loadW_ok (h : WI p l n k w) (hk : k < n) (hn : n ≤ 64) (i : T_Inst) : Ok (Eo w i) (WI p l n k) := by
  unfold Eo
  exact .po (word_okw h hk i) fun r hr => .po (within_ok hr _ _) fun v hv => .po (Of_ok _ _) fun c _ => .po (put_okw hv hk hn _ _) fun _ hw => .mk hw
theorem storeW_ok (h : WI p l n k w) (hk : k < n) (hn : n ≤ 64) (i : T_Inst) : Ok (Dy w i) (WI p l n k) := by
  unfold Dy
  rw [get_ok h hk, po_of]
  refine .po (word_okw (h.sf _) hk i) fun r hr => .po (within_ok hr _ _) fun v hv => ?_
  obtain ⟨s, e, eh⟩ := here_ok hv hk
  rw [eh, po_of, pg_of rfl]
  exact .po (then_ok hv hk hn _) fun _ hw => .mk hw
noncomputable def gAll (w : Wk) (m : Nat) : Bool := (List.range m).all fun j => (gB w ((j + 1 : Nat) : Int)).2
theorem gAll_at {w : Wk} {m j : Nat} (h : gAll w m = true) (hj : j < m) : (gB w ((j + 1 : Nat) : Int)).2 = true := (List.all_eq_true.1 h) j (List.mem_range.2 hj)
theorem handed_ok (h : WI p l n k w) (hk : k < n) {m : Nat} (hm : m ≤ 100) : Cm w (m : Int) = some (sfB w (w.safe && gAll w m)) := by
  unfold Cm
  have key : Ok (lpU (fun x => Dl (m : Int) x.1 x.2) (w, 0)) fun r => r = sfB w (w.safe && gAll w m) := by
    refine .lp (fun x => ∃ j : Nat, x.2 = (j : Int) ∧ j ≤ m ∧ x.1 = sfB w (w.safe && gAll w j)) (fun x => ((m : Int) - x.2).toNat) ⟨0, rfl, Nat.zero_le _, by simp [gAll, sfB]⟩ ?_
    rintro ⟨u, i⟩ ⟨j, hj, hjm, hu⟩
    simp only at hj hu
    subst hj
    subst hu
    unfold Dl
    refine .cond (fun hlt => ?_) fun hlt => ?_
    · have hlt := of_decide_eq_true hlt
      rw [w1 (show j < 1000000 by omega), get_ok (h.sf _) hk, po_of]
      refine .mk ⟨⟨j + 1, rfl, by omega, ?_⟩, by simp only; omega⟩
      show sfB (sfB w _) _ = _
      rw [sfB_sfB, gB_sf]
      congr 1
      simp only [sfB, gAll, List.range_succ, List.all_append, List.all_cons, List.all_nil, Bool.and_true, Bool.and_assoc]
    · have hlt := of_decide_eq_false hlt
      have : j = m := by omega
      subst this
      exact .mk rfl
  obtain ⟨r, e, rfl⟩ := key
  exact e
theorem hFits_ok (n : Int) (s : T_Schema) : Ok (Mi n s) fun _ => True := by
  have hm : Ok (Bw s) fun _ => True := by
    unfold Bw
    have hin : ∀ a b c, Ok (Db a b c) fun _ => True := fun a b c => by
      unfold Db Iv
      exact .po (P := fun _ => True) (.cond (fun _ => .mk trivial) fun _ => .mk trivial) fun _ _ => .mk trivial
    refine .po (P := fun _ => True) (.cond (fun _ => .mk trivial) fun _ => .mk trivial) fun m _ => ?_
    unfold Fk Hk
    exact .po (P := fun _ => True) (.po (hin _ _ _) fun _ _ => .cond (fun _ => .po (hin _ _ _) fun _ _ => .cond (fun _ => .po (hin _ _ _) fun _ _ => .cond (fun _ => .po (hin _ _ _) fun _ _ => .mk trivial) fun _ => .mk trivial) fun _ => .mk trivial) fun _ => .mk trivial) fun _ _ => .mk trivial
  unfold Mi
  refine .cond (fun _ => ?_) fun _ => .po (P := fun _ => True) (.cond (fun _ => .mk trivial) fun _ => .cond (fun _ => .mk trivial) fun _ => .cond (fun _ => .mk trivial) fun _ => .mk trivial) fun _ _ => ?_
  · exact .po (P := fun _ => True) (.po hm fun _ _ => .cond (fun _ => .mk trivial) fun _ => .mk trivial) fun _ _ => ⟨_, rfl, trivial⟩
  · unfold Md
    exact .cond (fun _ => .po (P := fun _ => True) (.po hm fun _ _ => .cond (fun _ => .mk trivial) fun _ => .mk trivial) fun _ _ => ⟨_, rfl, trivial⟩) fun _ => .mk trivial
theorem u64n {n : Nat} (h : n < 1000000000000) : IntKind.u64.wrap (n : Int) = (n : Int) := by
  rw [IntKind.wrap_u64]
  omega
theorem helpW_ok (h : WI p l n k w) (hk : k < n) (hn : n ≤ 64) (hl : l.length ≤ 100) (i : T_Inst) : Ok (Ek w i) (WI p l n k) := by
  unfold Ek
  rw [args_is, po_of]
  refine .cond (fun _ => .mk (h.sf _)) fun h0 => ?_
  have h0 : 0 ≤ argsN (i.Imm.toNat : Int) := by simpa using h0
  obtain ⟨m, hm⟩ : ∃ m : Nat, argsN (i.Imm.toNat : Int) = (m : Int) := ⟨_, (Int.toNat_of_nonneg h0).symm⟩
  have hcase : m ≤ 4 ∧ ((i.Imm.toNat : Int) ≠ 4 → 2 ≤ m) ∧ ((i.Imm.toNat : Int) = 0 ∨ (i.Imm.toNat : Int) = 1 → 3 ≤ m) := by
    unfold argsN at hm
    repeat' split at hm
    all_goals omega
  rw [hm]
  have hd : decide ((m : Int) ≥ 0) = true := by simp
  rw [hd]
  change Ok (po (Cm (sfB w true) (m : Int)) _) _
  rw [handed_ok (h.sf true) hk (by omega), po_of]
  have hW : WI p l n k (sfB (sfB w true) ((sfB w true).safe && gAll (sfB w true) m)) := (h.sf _).sf _
  generalize hw3 : sfB (sfB w true) ((sfB w true).safe && gAll (sfB w true) m) = w3 at hW
  have hall : w3.safe = true → ∀ j, j < m → (gB w3 ((j + 1 : Nat) : Int)).2 = true := by
    intro hs j hj
    rw [← hw3] at hs ⊢
    simp only [sfB, Bool.true_and] at hs
    have := gAll_at hs hj
    exact this
  refine .pm (P := fun r => match r with | .inl w' => WI p l n k w' | .inr w' => WI p l n k w') ?_ (fun w' hw' => ?_) fun _ hw' => hw'
  · refine .po (P := fun x : Wk × Bool => x.1 = w3 ∧ (x.2 = true → w3.safe = true ∧ (i.Imm.toNat : Int) ≠ 4)) (.cond (fun hs => .mk ⟨rfl, fun q => ⟨hs, by simpa using q⟩⟩) fun _ => .mk ⟨rfl, fun h => by cases h⟩) ?_
    rintro ⟨x, b⟩ ⟨hx, hb⟩
    simp only at hx hb
    subst hx
    unfold Ht
    refine .cond (fun hbt => ?_) fun _ => .mk hW
    obtain ⟨hs, h4⟩ := hb hbt
    have g1 := hall hs 0 (by have := hcase.2.1 h4; omega)
    have e1 : Bb x 1 = some ((gB x 1).1, x) := by
      rw [get_ok hW hk]
      have : (gB x 1).2 = true := g1
      rw [this, hs]
      congr 2
      exact sfB_same hs
    rw [e1, po_of, pg_of rfl]
    refine .po (Ends_ok _) fun e _ => ?_
    refine .po (P := fun y : Wk => ∃ c, y = sfB x c ∧ (c = true → e.1.toNat < l.length)) ?_ ?_
    · refine .cond (fun _ => .cond (fun hlt => ?_) fun _ => .mk ⟨false, rfl, fun h => by cases h⟩) fun _ => .mk ⟨false, rfl, fun h => by cases h⟩
      have hlt := of_decide_eq_true hlt
      rw [hW.l, w64v, u64n (by omega)] at hlt
      rw [hW.l]
      refine .po (Ok.at_ (l := l) (n := e.1.toNat) (by omega)) fun sc _ => .po (hFits_ok _ sc) fun c _ => .mk ⟨c, by unfold sfB; rw [hW.l], fun _ => by omega⟩
    · rintro y ⟨c, rfl, hc⟩
      unfold Gs
      have hY : WI p l n k (sfB x c) := hW.sf c
      refine .cond (fun _ => .mk hY) fun hsafe => ?_
      have hct : c = true := by simpa [sfB] using hsafe
      subst hct
      have hlt := hc rfl
      refine .po (P := fun z : Wk × Bool => z.1 = sfB x true ∧ (z.2 = true → (i.Imm.toNat : Int) = 0 ∨ (i.Imm.toNat : Int) = 1)) (.cond (fun q => .mk ⟨rfl, fun _ => .inl (by simpa using q)⟩) fun _ => .mk ⟨rfl, fun q => .inr (by simpa using q)⟩) ?_
      rintro ⟨z, b2⟩ ⟨hz, hb2⟩
      simp only at hz hb2
      subst hz
      unfold Gy
      refine .cond (fun hbt2 => ?_) fun _ => .mk hY
      have g3 : (gB x 3).2 = true := hall hs 2 (by have := hcase.2.2 (hb2 hbt2); omega)
      have e3 : Bb (sfB x true) 3 = some ((gB x 3).1, sfB x true) := by
        rw [get_ok hY hk, gB_sf, g3]
        rfl
      rw [e3, po_of, pg_of rfl]
      have hl2 : (sfB x true).l = l := hW.l
      rw [hl2]
      exact .po (Ok.at_ (l := l) hlt) fun sc _ => .po (within_ok hY _ _) fun v hv => .mk hv
  · unfold Ho
    obtain ⟨s, e, eh⟩ := here_ok hw' hk
    rw [eh, po_of, pg_of rfl]
    exact .po (sBack_ok s) fun x _ => .po (then_ok hw' hk hn x) fun _ hv => .mk hv
theorem callW_ok (h : WI p l n k w) (hk : k < n) (hn : n ≤ 64) (hp : ProgOk p) (i : T_Inst) : Ok (Eu w i) (WI p l n k) := by
  unfold Eu
  refine .po (P := fun y : Wk => WI p l n k y ∧ (y.safe = true → i.Imm.toNat < p.Fns.length)) (.cond (fun hlt => .mk ⟨h.sf _, fun _ => ?_⟩) fun _ => .mk ⟨h.sf _, fun q => by cases q⟩) ?_
  · have hlt := of_decide_eq_true hlt
    have := hp.len
    rw [h.p, w64v, u64n (by omega)] at hlt
    omega
  · rintro y ⟨hy, hs⟩
    unfold Hl
    refine .cond (fun _ => .mk hy) fun q => ?_
    have hlt := hs (by simpa using q)
    rw [hy.p]
    refine .po (Ok.at_ (l := p.Fns) hlt) fun f hf => ?_
    have ha := (hp.fns f hf.2).args
    have e : f.Args = ((f.Args.toNat : Nat) : Int) := by omega
    rw [e, handed_ok hy hk (by omega), po_of]
    obtain ⟨s, _, eh⟩ := here_ok (hy.sf (y.safe && gAll y f.Args.toNat)) hk
    rw [eh, po_of, pg_of rfl]
    exact .po (sBack_ok s) fun x _ => .po (then_ok (hy.sf _) hk hn x) fun _ hv => .mk hv
theorem exitW_ok (h : WI p l n k w) (hk : k < n) (i : T_Inst) : Ok (Cy w i) (WI p l n k) := by
  unfold Cy
  rw [get_ok h hk]
  exact .mk (h.sf _)
end
theorem contains_ok {α : Type} {l : List α} {step : Int → Option (Int ⊕ (Unit ⊕ Int))} {q : α → Bool} (hl : l.length ≤ 1048576)
    (hs : ∀ (n : Nat) (a : α), l[n]? = some a → step (n : Int) = some (if q a = true then .inr (.inr (n : Int)) else .inl ((n + 1 : Nat) : Int)))
    (he : step (l.length : Int) = some (.inr (.inl ()))) : Ok (lpU step 0) fun _ => True := by
  obtain ⟨r, hr, _⟩ := index_any hl hs he
  exact ⟨r, hr, trivial⟩
theorem scMay_ok (s : T_Schema) : Ok (Bw s) fun _ => True := by
  unfold Bw
  have hin : ∀ a b c, Ok (Db a b c) fun _ => True := fun a b c => by
    unfold Db Iv
    exact .po (P := fun _ => True) (.cond (fun _ => .mk trivial) fun _ => .mk trivial) fun _ _ => .mk trivial
  refine .po (P := fun _ => True) (.cond (fun _ => .mk trivial) fun _ => .mk trivial) fun m _ => ?_
  unfold Fk Hk
  exact .po (P := fun _ => True) (.po (hin _ _ _) fun _ _ => .cond (fun _ => .po (hin _ _ _) fun _ _ => .cond (fun _ => .po (hin _ _ _) fun _ _ => .cond (fun _ => .po (hin _ _ _) fun _ _ => .mk trivial) fun _ => .mk trivial) fun _ => .mk trivial) fun _ => .mk trivial) fun _ _ => .mk trivial
theorem schemas_ok (l : List T_Schema) (hl : l.length ≤ 1048576) : Ok (Aa l) fun _ => True := by
  unfold Aa
  refine .po (P := fun _ => True) ?_ fun _ _ => .mk trivial
  unfold Ag
  refine .pm (P := fun _ => True) (contains_ok (l := l) (q := fun s => (Ih s).getD false) hl ?_ ?_) (fun _ _ => ⟨_, rfl, trivial⟩) fun _ _ => trivial
  · intro n a ha
    have hlt := get_lt ha
    obtain ⟨b, hb, _⟩ := scMay_ok a
    have hd : decide ((n : Int) < (l.length : Int)) = true := by simp; omega
    simp only [Ad, hd, cond_true, idx_nat, ha, po_of, Ih, hb, Option.getD_some, w64 (show n < 9223372036854775807 by omega)]
    cases b <;> rfl
  · have hd : decide ((l.length : Int) < (l.length : Int)) = false := by simp
    simp only [Ad, hd, cond_false]
theorem shapes_ok (p : T_Prog) {fn : Int} (l : List T_Schema) (hfn : 0 ≤ fn) (hl : l.length ≤ 100) : Ok (Fe p fn l) fun r => r.2.2 = 0 → ProgOk p ∧ fn < (p.Fns.length : Int) := by
  obtain ⟨b, hb, hbp⟩ := progMay_tells p
  unfold Fe
  rw [hb, po_of]
  refine .po (P := fun c => c = false → b = true) (.cond (fun h => .mk fun q => by rw [h] at q; cases q) fun h => .cond (fun h2 => .mk fun _ => by simpa using h) fun _ => .po (schemas_ok l (by omega)) fun _ _ => .mk fun _ => by simpa using h) fun c hc => ?_
  unfold Em
  refine .cond (fun _ => .mk fun q => absurd (show (1 : Int) = 0 from q) (by decide)) fun hcf => ?_
  have hp := hbp (hc hcf)
  refine .po (P := fun c => c = false → fn < (p.Fns.length : Int)) (.cond (fun h => .mk fun q => by rw [h] at q; cases q) fun _ => .mk fun q => by have := of_decide_eq_false q; omega) fun d hd => ?_
  unfold Eh
  refine .cond (fun _ => .mk fun q => absurd (show (3 : Int) = 0 from q) (by decide)) fun hdf => ?_
  have hlt := hd hdf
  have hfn2 : fn = ((fn.toNat : Nat) : Int) := by omega
  refine .po (Ok.idx (l := p.Fns) hfn2 (by omega)) fun f hf => ?_
  have hF := hp.fns f hf.2
  have hlen := hF.len
  refine .pg (by omega) (.pl (.pg (by omega) (.pl (.po (sNew_ok _) fun s _ => ?_))))
  have hW0 : WI p l f.Code.length 0 (T_verify_work.mk p fn l (List.replicate f.Code.length (T_Shape.mk (A8.mk false false false false false false false false) (A8.mk (C128.mk 0 0) (C128.mk 0 0) (C128.mk 0 0) (C128.mk 0 0) (C128.mk 0 0) (C128.mk 0 0) (C128.mk 0 0) (C128.mk 0 0)))) (List.replicate f.Code.length false) 0 true) :=
    ⟨rfl, rfl, List.length_replicate, List.length_replicate, rfl⟩
  refine .po (to_ok hW0 (Int.le_refl 0) s.1) fun w0 hw0 => .po (P := fun _ => True) (.mk trivial) fun _ _ => ?_
  refine .pm (P := fun _ => True) ?_ (fun _ _ => .mk fun _ => ⟨hp, hlt⟩) fun _ _ _ => ⟨hp, hlt⟩
  refine .lp (fun x : Wk × Int => ∃ k : Nat, x.2 = (k : Int) ∧ k ≤ f.Code.length ∧ ∃ k', WI p l f.Code.length k' x.1) (fun x => ((f.Code.length : Int) - x.2).toNat) ⟨0, rfl, Nat.zero_le _, 0, hw0⟩ ?_
  rintro ⟨w, i⟩ ⟨k, hi, hk, k', hw⟩
  simp only at hi hw
  subst hi
  unfold Dt
  refine .cond (fun hlt2 => ?_) fun _ => .mk trivial
  have hlt2 := of_decide_eq_true hlt2
  have hkn : k < f.Code.length := by omega
  refine .po (Ok.idx (l := f.Code) rfl hkn) fun c hcd => ?_
  have hI := hF.code c hcd.2
  have hW : WI p l f.Code.length k (T_verify_work.mk w.p w.fn w.l w.in_ w.is (k : Int) w.safe) := ⟨hw.p, hw.l, hw.in_, hw.is, rfl⟩
  refine .po (P := WI p l f.Code.length k) ?_ fun w' hw' => ?_
  · refine .po (Ok.idx (l := w.is) rfl (by rw [hw.is]; exact hkn)) fun b _ => .cond (fun _ => ?_) fun _ => .mk hW
    refine .cond (fun _ => .po (aluW_ok hW hkn (by omega) c) fun _ h => .mk h) fun h0 => .cond (fun _ => .po (jumpW_ok hW hkn (by omega) hI) fun _ h => .mk h) fun h1 => .cond (fun _ => .po (ctxW_ok hW hkn (by omega) c) fun _ h => .mk h) fun h2 => .cond (fun _ => .po (loadW_ok hW hkn (by omega) c) fun _ h => .mk h) fun h3 => .cond (fun _ => .po (storeW_ok hW hkn (by omega) c) fun _ h => .mk h) fun h4 => .cond (fun _ => .po (helpW_ok hW hkn (by omega) hl c) fun _ h => .mk h) fun h5 => .cond (fun _ => .po (callW_ok hW hkn (by omega) hp c) fun _ h => .mk h) fun h6 => .cond (fun _ => .po (exitW_ok hW hkn c) fun _ h => .mk h) fun h7 => ?_
    exfalso
    have := hI.op
    simp only [beq_eq_false_iff_ne, ne_eq] at h0 h1 h2 h3 h4 h5 h6 h7
    omega
  · unfold Gj
    refine .cond (fun _ => .mk trivial) fun _ => .mk ⟨⟨k + 1, w1 (by omega), by omega, k, hw'⟩, ?_⟩
    simp only [w1 (show k < 1000000 by omega)]
    omega
theorem inside_ok {p : T_Prog} (hp : ProgOk p) {fn : Int} (h0 : 0 ≤ fn) (hlt : fn < (p.Fns.length : Int)) : Ok (Fb p fn) fun _ => True := by
  unfold Fb
  have hfn2 : fn = ((fn.toNat : Nat) : Int) := by omega
  refine .po (Ok.idx (l := p.Fns) hfn2 (by omega)) fun f hf => ?_
  have hF := hp.fns f hf.2
  have hlen := hF.len
  refine .pm (P := fun _ => True) ?_ (fun _ _ => ⟨_, rfl, trivial⟩) fun _ _ => trivial
  refine .lp (fun x => ∃ k : Nat, x = (k : Int) ∧ k ≤ f.Code.length) (fun x => ((f.Code.length : Int) - x).toNat) ⟨0, rfl, Nat.zero_le _⟩ ?_
  rintro i ⟨k, rfl, hk⟩
  unfold Hb
  refine .cond (fun hlt2 => ?_) fun _ => .mk trivial
  have hlt2 := of_decide_eq_true hlt2
  refine .po (Ok.idx (l := f.Code) rfl (by omega)) fun c hcd => .po (P := fun _ => True) (.cond (fun _ => .cond (fun _ => .mk trivial) fun _ => .cond (fun _ => .mk trivial) fun _ => .mk trivial) fun _ => .cond (fun _ => .mk trivial) fun _ => .mk trivial) fun b _ => ?_
  unfold Kc
  refine .cond (fun _ => .mk trivial) fun _ => .mk ⟨⟨k + 1, w1 (by omega), by omega⟩, ?_⟩
  simp only [w1 (show k < 1000000 by omega)]
  omega
theorem cmay_ok {l : List T_Inst} : Ok (Jn l) fun b => b = true → 0 < l.length ∧ l.length ≤ 64 ∧ ∀ i ∈ l, InstOk i := by
  unfold Jn Kg
  refine .po (P := fun b => b = true → 0 < l.length ∧ l.length ≤ 64 ∧ ∀ i ∈ l, InstOk i) (.cond (fun h1 => .cond (fun h2 => ?_) fun _ => .mk fun h => by cases h) fun _ => .mk fun h => by cases h) fun b hb => .mk hb
  have h1 := of_decide_eq_true h1
  have h2 := of_decide_eq_true h2
  unfold Ak Am
  obtain ⟨r, hr, hq⟩ := index_any (l := l) (q := fun i => !((Gu i).getD false)) (step := fun x => Ab l x) (by omega)
    (fun n i hi => by
      obtain ⟨b, hb, _⟩ := instMay_tells i
      have hlt := get_lt hi
      have hd : decide ((n : Int) < (l.length : Int)) = true := by simp; omega
      simp only [Ab, hd, cond_true, idx_nat, hi, po_of, Ns, hb, Option.getD_some, w64 (show n < 9223372036854775807 by omega)]
      cases b <;> rfl)
    (by
      have hd : decide ((l.length : Int) < (l.length : Int)) = false := by simp
      simp only [Ab, hd, cond_false])
  rw [hr]
  rcases hq with ⟨rfl, hall⟩ | ⟨n, rfl⟩
  · simp only [pm_inl, Aq, po_of]
    refine .mk fun _ => ⟨by omega, by omega, fun i hi => ?_⟩
    obtain ⟨b, hb, hok⟩ := instMay_tells i
    have := hall i hi
    rw [hb] at this
    exact hok (by simpa using this)
  · simp only [pm_inr, po_of]
    have hd : decide ((n : Int) ≥ 0) = true := decide_eq_true (by omega)
    rw [hd]
    exact .mk fun h => by cases h
theorem next_ok {l : List T_Inst} (hl : l.length ≤ 64) (hI : ∀ i ∈ l, InstOk i) {k : Nat} (hk : k < l.length) : Ok (Ka l (k : Int)) fun r => r.length ≤ 2 ∧ ∀ x ∈ r, 0 ≤ x := by
  unfold Ka
  refine .po (Ok.idx (l := l) rfl hk) fun i hi => ?_
  have ho := (hI i hi.2).off
  have e1 : IntKind.i64.wrap ((k : Int) + 1) = (k : Int) + 1 := wrap_i64 (by omega) (by omega)
  have e2 : IntKind.i64.wrap (IntKind.i64.wrap ((k : Int) + i.Off) + 1) = (k : Int) + i.Off + 1 := by
    rw [wrap_i64 (n := (k : Int) + i.Off) (by omega) (by omega), wrap_i64 (by omega) (by omega)]
  refine .cond (fun _ => .mk ⟨by decide, fun x h => by cases h⟩) fun _ => .po (P := fun _ => True) (.cond (fun _ => .mk trivial) fun _ => .mk trivial) fun b _ => ?_
  unfold Lt
  rw [e2]
  refine .cond (fun _ => .mk ⟨by simp, fun x h => ?_⟩) fun _ => .po (P := fun _ => True) (.cond (fun _ => .mk trivial) fun _ => .mk trivial) fun b _ => ?_
  · simp only [List.mem_singleton] at h
    omega
  unfold Lw
  rw [e1, e2]
  refine .cond (fun _ => .mk ⟨by simp, fun x h => ?_⟩) fun _ => .mk ⟨by simp, fun x h => ?_⟩
  · simp only [List.mem_cons, List.not_mem_nil, or_false] at h
    omega
  · simp only [List.mem_singleton] at h
    omega
theorem longest_ok (l : List T_Inst) (cs : List Int) : Ok (Ee l cs) fun _ => True := by
  unfold Ee
  refine .po cmay_ok fun b hb => .cond (fun _ => .mk trivial) fun h => ?_
  obtain ⟨h0, h64, hI⟩ := hb (by simpa using h)
  have e0 : IntKind.i64.wrap ((l.length : Int) - 1) = ((l.length - 1 : Nat) : Int) := by
    rw [wrap_i64 (by omega) (by omega)]
    omega
  rw [e0]
  refine .lp (fun x => ∃ k : Nat, x.2 = (k : Int) ∧ k < l.length) (fun x => x.2.toNat) ⟨_, rfl, by omega⟩ ?_
  rintro ⟨w, i⟩ ⟨k, hi, hk⟩
  simp only at hi
  subst hi
  unfold Cp
  refine .po (P := fun _ : Int => True) (.po (next_ok h64 hI hk) fun r hr => ?_) fun m _ => ?_
  · refine .lp (fun x => x.2.1 = r ∧ ∃ j : Nat, x.2.2 = (j : Int) ∧ j ≤ r.length) (fun x => ((r.length : Int) - x.2.2).toNat) ⟨rfl, 0, rfl, Nat.zero_le _⟩ ?_
    rintro ⟨y, q, j⟩ ⟨hq, n, hn, hnr⟩
    simp only at hq hn
    subst hq
    subst hn
    unfold Gk
    refine .cond (fun hlt => ?_) fun _ => .mk trivial
    have hlt : (n : Int) < (q.length : Int) := of_decide_eq_true hlt
    have hr2 := hr.1
    refine .po (P := fun x : Int × List Int => x.2 = q) (.po (Ok.idx (l := q) rfl (by omega)) fun x hx => .cond (fun hc => .pg ?_ (.mk rfl)) fun _ => .mk rfl) fun x hx => ?_
    · have hc := of_decide_eq_true hc
      have := hr.2 x hx.2
      omega
    · unfold Jo
      refine .mk ⟨⟨hx, n + 1, w1 (by omega), by omega⟩, ?_⟩
      simp only [w1 (show n < 1000000 by omega)]
      omega
  · unfold Gi
    refine .po (P := fun _ : Int => True) (.po (Ok.idx (l := l) rfl hk) fun c hc => .po (P := fun b => b = true → c.Imm.toNat < cs.length) (.cond (fun _ => .mk fun h => of_decide_eq_true h) fun _ => .mk fun h => by cases h) fun b hb => ?_) fun y _ => ?_
    · unfold Im
      refine .cond (fun h => .po (Ok.at_ (l := cs) (hb h)) fun z _ => .po (P := fun _ => True) (.cond (fun _ => .mk trivial) fun _ => .mk trivial) fun b _ => ?_) fun _ => .mk trivial
      unfold Io
      exact .cond (fun _ => .mk trivial) fun _ => .mk trivial
    · unfold Ij
      refine .pg (by omega) (.pl ?_)
      have e1 : IntKind.i64.wrap ((k : Int) - 1) = (k : Int) - 1 := wrap_i64 (by omega) (by omega)
      rw [e1]
      refine .cond (fun hc => .mk ⟨⟨k - 1, ?_, by omega⟩, ?_⟩) fun _ => .mk trivial
      · have hc := of_decide_eq_true hc
        simp only
        omega
      · have hc := of_decide_eq_true hc
        simp only
        omega
theorem it_ok {α σ ρ : Type} {step : σ → α → Option (σ ⊕ ρ)} (I : σ → Prop) : ∀ (l : List α), (∀ s a, a ∈ l → I s → Ok (step s a) fun r => match r with | .inl s' => I s' | .inr _ => False) → ∀ s, I s → Ok (itU step l s) fun r => match r with | .inl s' => I s' | .inr _ => False
  | [], _, s, h => ⟨_, rfl, h⟩
  | a :: l, hs, s, h => by
    obtain ⟨r, e, hr⟩ := hs s a List.mem_cons_self h
    unfold itU
    rw [e]
    cases r with
    | inl s' => exact it_ok I l (fun s b hb => hs s b (List.mem_cons_of_mem _ hb)) s' hr
    | inr x => exact hr.elim
theorem budget_ok (p : T_Prog) : Ok (Fj p) fun _ => True := by
  obtain ⟨b, hb, hbp⟩ := progMay_tells p
  unfold Fj
  rw [hb, po_of]
  refine .cond (fun _ => .mk trivial) fun h => ?_
  have hp := hbp (by simpa using h)
  have hlen := hp.len
  refine .pg (by omega) (.pl (.po (P := fun l : List Int => l.length = p.Fns.length) ?_ fun l hl => ?_))
  · obtain ⟨r, e, hr⟩ := it_ok (step := fun x u => Cz p x u) (fun l : List Int => l.length = p.Fns.length) (backL p.Fns) (fun s a ha hs => by
      simp only [backL, List.mem_map, List.mem_reverse, List.mem_range] at ha
      obtain ⟨k, hk, rfl⟩ := ha
      unfold Cz
      exact .po (Ok.idx (l := p.Fns) rfl hk) fun f _ => .po (longest_ok _ _) fun x _ => .po (Ok.idx (l := s) rfl (by rw [hs]; exact hk)) fun y _ => .pl (.mk (by simpa using hs))) (List.replicate p.Fns.length 0) List.length_replicate
    rw [e]
    cases r with
    | inl l => exact .mk hr
    | inr x => exact hr.elim
  · unfold He
    exact .po (Ok.at_ (l := l) (by omega)) fun _ _ => .mk trivial
theorem verify_ok (p : T_Prog) (l : List T_Schema) (hl : l.length ≤ 100) (hf : p.Fns.length ≤ 1000) : Ok (Ci p l) fun _ => True := by
  unfold Ci
  refine .pm (P := fun _ => True) ?_ (fun _ _ => ?_) fun _ _ => trivial
  · refine .lp (fun x => ∃ k : Nat, x = (k : Int) ∧ k ≤ 1000) (fun x => (1000 - x).toNat) ⟨0, rfl, by omega⟩ ?_
    rintro i ⟨k, rfl, hk⟩
    unfold Eg
    refine .cond (fun hlt => .po (shapes_ok p l (Int.natCast_nonneg k) hl) fun r hr => .cond (fun _ => .mk trivial) fun h => ?_) fun _ => .mk trivial
    obtain ⟨hp, hlt2⟩ := hr (by simpa using h)
    refine .po (inside_ok hp (Int.natCast_nonneg k) hlt2) fun b _ => .cond (fun _ => .mk trivial) fun _ => .mk ⟨⟨k + 1, w1 (by omega), by omega⟩, ?_⟩
    simp only [w1 (show k < 1000000 by omega)]
    omega
  · unfold Ep
    exact .po (budget_ok p) fun n _ => .cond (fun _ => .mk trivial) fun _ => .mk trivial
noncomputable def Cl (a0 : (List UInt32)) (a1 : (List UInt32)) (i_1 : Int) : Option ((Int) ⊕ ((Unit) ⊕ (Bool))) :=
  cond (decide (i_1 < (a0.length : Int))) (
  po (idx a0 i_1) fun x5 =>
  po (idx a1 i_1) fun x6 =>
  cond ((x5.toNat : Int) != (x6.toNat : Int)) (
  some (Sum.inr (Sum.inr false))) (
  some (Sum.inl (IntKind.i64.wrap (i_1 + 1))))) (
  some (Sum.inr (Sum.inl ())))
noncomputable def Gf : Option (Bool) :=
  some true
noncomputable def Bo (a0 : (List UInt32)) (a1 : (List UInt32)) : Option (Bool) :=
  cond ((a0.length : Int) != (a1.length : Int)) (
  some false) (
  pm (
  lpU (fun x => Cl a0 a1 x) 0) (fun x => Gf))
theorem Di {a0 : (List UInt32)} {a1 : (List UInt32)} {r : Bool} (h : Bo a0 a1 = some r) : Ctr prog 25 [.sl false (a0.map encU32), .sl false (a1.map encU32)] [] (rb r) [] := by
 unfold Bo at h;refine Ctr.ofW tabOk func25 rfl call25 0 _ ntmps25 [.tmp 4] rfl rfl rfl (fun B => ?_);refine vs [0,1] (fun K hK => ?_);push_cast;apply hK;clear hK K;refine VC.seq ?_;refine vs [0,1,10] (fun K hK => ?_);push_cast;apply hK;clear hK K;refine vc h (fun hb1 h => ?_) (fun hb1 h => ?_)
 ·refine vs [4] (fun K hK => ?_);push_cast;apply hK;clear hK K;refine VC.ret ?_;replace h := Option.some.inj h;subst h;exact en (by push_cast [hb1])
 ·refine VC.skip ?_;refine vm h (fun x => ⟨[],[],27,26,0⟩) (fun v2 h hk2 => ?_) ?_
  ·refine vs [0,1,5] (fun K hK => ?_);push_cast;apply hK;clear hK K;refine VC.block ?_;refine VC.loopP h (fun x => ⟨[(0,.sl false (a0.map encU32)),(1,.sl false (a1.map encU32)),(5,ri x)],[],23,26,0⟩) ?_ ?_
   ·exact sl (by push_cast [hb1])
   rintro i_1 b3 (h : Cl a0 a1 i_1 = some b3) hf3;(try push_cast);unfold Cl at h;refine VC.seq ?_;refine vs [0,1,5,14] (fun K hK => ?_);push_cast;apply hK;clear hK K;refine vc h (fun hb4 h => ?_) (fun hb4 h => ?_)
   ·refine VC.skip ?_;refine VC.seq ?_;refine VC.block ?_;obtain ⟨x5,hx5,h⟩ := po_some h;replace hx5 := idx_some4 hx5;obtain ⟨x6,hx6,h⟩ := po_some h;replace hx6 := idx_some4 hx6;refine vsD [some 17,some 18,some 19,some 20,some 21,some 22,some 23,some 24,some 25] [0,1,5,25] (fun K hK => ?_);push_cast [hx5,hx6];(repeat refine ao ?_);refine ⟨rfl,hK _ ?_⟩;clear hK K;refine vc h (fun hb7 h => ?_) (fun hb7 h => ?_)
    ·refine vs [4] (fun K hK => ?_);push_cast;apply hK;clear hK K;refine VC.ret ?_;replace h := ol h hf3;replace h := om h hk2;replace h := Option.some.inj h;subst h;exact en (by push_cast [hb1,hb4,hb7])
    ·refine VC.skip ?_;refine vl (fun K hK => ?_);push_cast;apply hK;clear hK K;refine bk h ?_;exact sl (by push_cast [hb1,hb4,hb7])
   ·refine VC.exit ?_;replace h := ol h hf3;refine am h hk2 ?_;exact sl (by push_cast [hb1,hb4])
  ·rintro ⟨⟩ (h : Gf = some r);(try push_cast);unfold Gf at h;refine vs [4] (fun K hK => ?_);push_cast;apply hK;clear hK K;refine VC.ret ?_;replace h := Option.some.inj h;subst h;exact en (by push_cast [hb1])
noncomputable def Ln (i_2 : Bool) : Option (Int) :=
  cond i_2 (
  some 1) (
  some 2)
noncomputable def Lk (a0 : T_Schema) (a1 : T_Schema) (i_1 : Bool) : Option (Int) :=
  cond i_1 (
  some 2) (
  cond ((a0.Kind == a1.Kind) && ((a0.Cap == a1.Cap) && ((a0.Words == a1.Words) && (a0.Ver == a1.Ver)))) (
  some 0) (
  po (
  cond (a0.Kind == a1.Kind) (
  some (a1.Ver == (IntKind.i64.wrap (a0.Ver + 1)))) (
  some false)) (fun x => Ln x)))
noncomputable def Jv (a0 : T_Schema) (a1 : T_Schema) : Option (Int) :=
  po (
  po (Bw a0) fun r2 =>
  cond (!r2) (
  some (!r2)) (
  po (Bw a1) fun r4 =>
  some (!r4))) (fun x => Lk a0 a1 x)
theorem Ut {a0 : T_Schema} {a1 : T_Schema} {r : Int} (h : Jv a0 a1 = some r) : Ctr prog 58 [.agg (enc_Schema a0), .agg (enc_Schema a1)] [] (ri r) [] := by
 unfold Jv at h;refine Ctr.ofW tabOk func58 rfl call58 0 _ ntmps58 [.tmp 4] rfl rfl rfl (fun B => ?_);refine vs [2,3] (fun K hK => ?_);push_cast;apply hK;clear hK K;refine VC.seq ?_;refine VC.block ?_;refine vj h (fun x => ⟨[(2,.ref 0 0),(3,.ref 1 0),(5,rb x)],[(0,.box 50 (enc_Schema a0)),(1,.box 50 (enc_Schema a1))],11,30,0⟩) (fun v1 h hk1 => ?_) ?_
 ·obtain ⟨r2,hr2,h⟩ := po_some h;refine vs [2,3,5] (fun K hK => ?_);push_cast;refine cp (Fi hr2) ?_;push_cast;apply hK;clear hK K;refine vc h (fun hb3 h => ?_) (fun hb3 h => ?_)
  ·refine VC.skip ?_;refine ar h hk1 ?_;exact sl (by push_cast [hb3])
  ·obtain ⟨r4,hr4,h⟩ := po_some h;refine vl (fun K hK => ?_);push_cast;refine cp (Fi hr4) ?_;push_cast;apply hK;clear hK K;refine ar h hk1 ?_;exact sl (by push_cast [hb3])
 ·rintro i_1 (h : Lk a0 a1 i_1 = some r);(try push_cast);unfold Lk at h;refine vc h (fun hb5 h => ?_) (fun hb5 h => ?_)
  ·refine vs [4] (fun K hK => ?_);push_cast;apply hK;clear hK K;refine VC.ret ?_;replace h := Option.some.inj h;subst h;exact en (by push_cast [hb5])
  ·refine vs [2,3,12] (fun K hK => ?_);push_cast;apply hK;clear hK K;refine vc h (fun hb6 h => ?_) (fun hb6 h => ?_)
   ·refine vs [4] (fun K hK => ?_);push_cast;apply hK;clear hK K;refine VC.ret ?_;replace h := Option.some.inj h;subst h;exact en (by push_cast [hb5,hb6])
   ·refine vj h (fun x => ⟨[(16,rb x)],[],29,30,0⟩) (fun v7 h hk7 => ?_) ?_
    ·rcases Bool.eq_false_or_eq_true (a0.Kind == a1.Kind) with hb8 | hb8
     ·replace h := cond_yes hb8 h;refine vlG [some 17,some 18,some 19,some 20,some 21,some 22,some 23,some 24,some 25,some 26,some 27,some 28,some 29,some 16] (fun K hK => ?_);refine runOps_cut 8 (fun K2 hK2 => ?_);push_cast [hb8];(repeat refine ao ?_);refine hK2 _ _ ?_;clear hK2 K2;simp only [List.drop_succ_cons,List.drop_zero];push_cast [hb8];(repeat refine ao ?_);apply hK;clear hK K;refine ar h hk7 ?_;exact sl (by push_cast [hb5,hb6,hb8])
     ·replace h := cond_no hb8 h;refine vlG [some 17,some 18,some 19,some 20,some 21,some 22,some 23,some 24,some 25,some 26,some 27,some 28,some 29,some 16] (fun K hK => ?_);refine runOps_cut 8 (fun K2 hK2 => ?_);push_cast [hb8];(repeat refine ao ?_);refine hK2 _ _ ?_;clear hK2 K2;simp only [List.drop_succ_cons,List.drop_zero];push_cast [hb8];(repeat refine ao ?_);apply hK;clear hK K;refine ar h hk7 ?_;exact sl (by push_cast [hb5,hb6,hb8])
    ·rintro i_2 (h : Ln i_2 = some r);(try push_cast);unfold Ln at h;refine vc h (fun hb9 h => ?_) (fun hb9 h => ?_)
     ·refine vs [4] (fun K hK => ?_);push_cast;apply hK;clear hK K;refine VC.ret ?_;replace h := Option.some.inj h;subst h;exact en (by push_cast [hb5,hb6,hb9])
     ·refine VC.skip ?_;refine vs [4] (fun K hK => ?_);push_cast;apply hK;clear hK K;refine VC.ret ?_;replace h := Option.some.inj h;subst h;exact en (by push_cast [hb5,hb6,hb9])
noncomputable def Dr (a2 : T_Prog) (i_1 : Bool) : Option (Int) :=
  cond i_1 (
  some 9) (
  po (Ci a2 []) fun r6 =>
  some r6.2)
noncomputable def Ff (a0 : T_Schema) (a1 : T_Schema) (a2 : T_Prog) : Option (Int) :=
  po (
  cond (a0.Kind == 3) (
  some true) (
  po (Jv a0 a1) fun r3 =>
  cond (r3 != 1) (
  some true) (
  some (decide (a1.Cap < a0.Cap))))) (fun x => Dr a2 x)
theorem Vm {a0 : T_Schema} {a1 : T_Schema} {a2 : T_Prog} {r : Int} (h : Ff a0 a1 a2 = some r) : Ctr prog 23 [.agg (enc_Schema a0), .agg (enc_Schema a1), .agg (enc_Prog a2)] [] (ri r) [] := by
 unfold Ff at h;refine Ctr.ofW tabOk func23 rfl call23 0 _ ntmps23 [.tmp 6] rfl rfl rfl (fun B => ?_);refine vs [3,4,5] (fun K hK => ?_);push_cast;apply hK;clear hK K;refine VC.seq ?_;refine vj h (fun x => ⟨[(5,.ref 2 0),(24,rb x)],[(2,.box 56 [.sl false (a2.Fns.map enc_Fn)])],20,31,0⟩) (fun v1 h hk1 => ?_) ?_
 ·rcases Bool.eq_false_or_eq_true (a0.Kind == 3) with hb2 | hb2
  ·replace h := cond_yes hb2 h;refine vlG [some 9,some 10,some 11,some 12,some 13,some 14,some 15,some 16,some 17,some 18,some 19,some 20,some 21,some 22,some 23,some 24] (fun K hK => ?_);refine runOps_cut 8 (fun K2 hK2 => ?_);push_cast [hb2];(repeat refine ao ?_);refine hK2 _ _ ?_;clear hK2 K2;simp only [List.drop_succ_cons,List.drop_zero];push_cast [hb2];(repeat refine ao ?_);apply hK;clear hK K;refine ar h hk1 ?_;exact sl (by push_cast [hb2])
  ·replace h := cond_no hb2 h;obtain ⟨r3,hr3,h⟩ := po_some h;rcases Bool.eq_false_or_eq_true (r3 != 1) with hb4 | hb4
   ·replace h := cond_yes hb4 h;refine vlG [some 9,some 10,some 11,some 12,some 13,some 14,some 15,some 16,some 17,some 18,some 19,some 20,some 21,some 22,some 23,some 24] (fun K hK => ?_);refine runOps_cut 8 (fun K2 hK2 => ?_);push_cast [hb2,hb4];(repeat refine ao ?_);refine cp (Ut hr3) ?_;push_cast [hb2,hb4];(repeat refine ao ?_);refine hK2 _ _ ?_;clear hK2 K2;simp only [List.drop_succ_cons,List.drop_zero];push_cast [hb2,hb4];(repeat refine ao ?_);apply hK;clear hK K;refine ar h hk1 ?_;exact sl (by push_cast [hb2,hb4])
   ·replace h := cond_no hb4 h;refine vlG [some 9,some 10,some 11,some 12,some 13,some 14,some 15,some 16,some 17,some 18,some 19,some 20,some 21,some 22,some 23,some 24] (fun K hK => ?_);refine runOps_cut 8 (fun K2 hK2 => ?_);push_cast [hb2,hb4];(repeat refine ao ?_);refine cp (Ut hr3) ?_;push_cast [hb2,hb4];(repeat refine ao ?_);refine hK2 _ _ ?_;clear hK2 K2;simp only [List.drop_succ_cons,List.drop_zero];push_cast [hb2,hb4];(repeat refine ao ?_);apply hK;clear hK K;refine ar h hk1 ?_;exact sl (by push_cast [hb2,hb4])
 ·rintro i_1 (h : Dr a2 i_1 = some r);(try push_cast);unfold Dr at h;refine vc h (fun hb5 h => ?_) (fun hb5 h => ?_)
  ·refine vs [6] (fun K hK => ?_);push_cast;apply hK;clear hK K;refine VC.ret ?_;replace h := Option.some.inj h;subst h;exact en (by push_cast [hb5])
  ·refine VC.skip ?_;obtain ⟨r6,hr6,h⟩ := po_some h;refine vs [8] (fun K hK => ?_);push_cast;refine cp (Sc hr6) ?_;push_cast;apply hK;clear hK K;refine vs [6] (fun K hK => ?_);push_cast;apply hK;clear hK K;refine VC.ret ?_;replace h := Option.some.inj h;subst h;exact en (by push_cast [hb5])
noncomputable def Iu (a0 : T_Table) (a1 : T_Schema) (a2 : T_Prog) : Option (Int) :=
  po (Kl a0) fun r1 =>
  cond (!r1) (
  some 1) (
  po (Ff a0.S a1 a2) fun r3 =>
  some r3)
theorem Yt {a0 : T_Table} {a1 : T_Schema} {a2 : T_Prog} {r : Int} (h : Iu a0 a1 a2 = some r) : Ctr prog 53 [.agg (enc_Table a0), .agg (enc_Schema a1), .agg (enc_Prog a2)] [] (ri r) [] := by
 unfold Iu at h;refine Ctr.ofW tabOk func53 rfl call53 0 _ ntmps53 [.tmp 6] rfl rfl rfl (fun B => ?_);refine vs [3,4,5] (fun K hK => ?_);push_cast;apply hK;clear hK K;refine VC.seq ?_;obtain ⟨r1,hr1,h⟩ := po_some h;refine vs [3,4,5,9] (fun K hK => ?_);push_cast;refine cp (Oh a0 hr1) ?_;push_cast;apply hK;clear hK K;refine vc h (fun hb2 h => ?_) (fun hb2 h => ?_)
 ·refine vs [6] (fun K hK => ?_);push_cast;apply hK;clear hK K;refine VC.ret ?_;replace h := Option.some.inj h;subst h;exact en (by push_cast [hb2])
 ·refine VC.skip ?_;obtain ⟨r3,hr3,h⟩ := po_some h;refine vs [6] (fun K hK => ?_);push_cast;refine cp (Vm hr3) ?_;push_cast;apply hK;clear hK K;refine VC.ret ?_;replace h := Option.some.inj h;subst h;exact en (by push_cast [hb2])
noncomputable def Kh (i_6 : Int) (r11 : T_Ran) (l_16 : (List UInt32)) (i_17 : Bool) : Option (((List UInt32) × Int) ⊕ (((List UInt32)) ⊕ ((List UInt32) × Int))) :=
  cond i_17 (
  some (Sum.inr (Sum.inr ([], 10)))) (
  po (idx l_16 i_6) fun x15 =>
  pl (l_16.set i_6.toNat r11.Ret) fun y16 =>
  some (Sum.inl (y16, (IntKind.i64.wrap (i_6 + 1)))))
noncomputable def Jc (a1 : T_Prog) (a2 : UInt32) (a3 : (List UInt32)) (i_6 : Int) (l_7 : (List UInt32)) (i_8 : UInt32) : Option (((List UInt32) × Int) ⊕ (((List UInt32)) ⊕ ((List UInt32) × Int))) :=
  po (a3[0]?) fun x9 =>
  pl ((UInt32.ofInt i_6)) fun c10 =>
  po (Fd a1 (T_Env.mk (A4.mk a2 c10 i_8 x9) [] 0) 2000) fun r11 =>
  po (
  cond (r11.Err != 0) (
  some (l_7, true)) (
  some (l_7, ((r11.Ret.toNat : Int) == 4294967295)))) (fun x => Kh i_6 r11 x.1 x.2)
noncomputable def Jd (a0 : T_Schema) (a1 : T_Prog) (a2 : UInt32) (a3 : (List UInt32)) (l_5 : (List UInt32)) (i_6 : Int) : Option (((List UInt32) × Int) ⊕ (((List UInt32)) ⊕ ((List UInt32) × Int))) :=
  cond (decide (i_6 < a0.Words)) (
  po (
  cond (decide (i_6 < (a3.length : Int))) (
  po (idx a3 i_6) fun x8 =>
  some (l_5, x8)) (
  some (l_5, 0))) (fun x => Jc a1 a2 a3 i_6 x.1 x.2)) (
  some (Sum.inr (Sum.inl l_5)))
noncomputable def Nr (l_15 : (List UInt32)) : Option ((List UInt32) × Int) :=
  some (l_15, 0)
noncomputable def Dc (a0 : T_Schema) (a1 : T_Prog) (a2 : UInt32) (a3 : (List UInt32)) : Option ((List UInt32) × Int) :=
  pg (0 ≤ a0.Words ∧ 4 * a0.Words ≤ 140737488355328) <|
  pl (List.replicate a0.Words.toNat 0) fun y2 =>
  pm (
  lpU (fun x => Jd a0 a1 a2 a3 x.1 x.2) (y2, 0)) (fun x => Nr x)
theorem Wh {a0 : T_Schema} {a1 : T_Prog} {a2 : UInt32} {a3 : (List UInt32)} {r : (List UInt32) × Int} (h : Dc a0 a1 a2 a3 = some r) : Ctr prog 55 [.agg (enc_Schema a0), .agg (enc_Prog a1), ru a2, .sl false (a3.map encU32)] [] (.tup [.row 0 0 1 0 r.1.length, ri r.2]) [(0, .row 25 1 0 (r.1.map encU32))] := by
 unfold Dc at h;refine Ctr.ofW tabOk func55 rfl call55 0 _ ntmps55 [.tmp 8,.tmp 9] rfl rfl rfl (fun B => ?_);refine vs [2,3,4,5] (fun K hK => ?_);push_cast;apply hK;clear hK K;obtain ⟨hg1,h⟩ := pg_some h;obtain ⟨y2,hy2,h⟩ := pl_some h;refine vs [2,3,4,5,10] (fun K hK => ?_);push_cast [hg1];(repeat refine ao ?_);apply hK;clear hK K;refine VC.sub (s' := ⟨[(2,ru a2),(3,.sl false (a3.map encU32)),(4,.ref 0 0),(5,.ref 1 0),(10,.row 6 0 1 0 y2.length)],[(0,.box 50 (enc_Schema a0)),(1,.box 56 [.sl false (a1.Fns.map enc_Fn)]),(6,.row 25 1 0 (y2.map encU32))],8,56,0⟩) (so (by push_cast [hy2])) ?_;refine vm h (fun x => ⟨[(10,.row 6 0 1 0 x.length)],[(6,.row 25 1 0 (x.map encU32))],54,56,0⟩) (fun v3 h hk3 => ?_) ?_
 ·refine vs [2,3,5,10,18,19] (fun K hK => ?_);push_cast;apply hK;clear hK K;refine VC.block ?_;refine VC.loopP h (fun x => ⟨[(2,ru a2),(3,.sl false (a3.map encU32)),(5,.ref 1 0),(10,.row 6 0 1 0 x.1.length),(18,ri a0.Words),(19,ri x.2)],[(1,.box 56 [.sl false (a1.Fns.map enc_Fn)]),(6,.row 25 1 0 (x.1.map encU32))],53,56,0⟩) ?_ ?_
  ·exact sl (by push_cast)
  rintro ⟨l_5,i_6⟩ b4 (h : Jd a0 a1 a2 a3 l_5 i_6 = some b4) hf4;(try push_cast);unfold Jd at h;refine vs [2,3,5,10,18,19,20] (fun K hK => ?_);push_cast;apply hK;clear hK K;refine VC.seq ?_;refine vc h (fun hb5 h => ?_) (fun hb5 h => ?_)
  ·refine VC.skip ?_;refine VC.seq ?_;refine VC.block ?_;refine vs [2,3,5,10,11,18,19] (fun K hK => ?_);push_cast;apply hK;clear hK K;refine vs [2,3,5,10,11,12,18,19] (fun K hK => ?_);push_cast;apply hK;clear hK K;refine vj h (fun x => ⟨[(2,ru a2),(3,.sl false (a3.map encU32)),(5,.ref 1 0),(10,.row 6 0 1 0 x.1.length),(11,ri i_6),(12,ru x.2),(18,ri a0.Words),(19,ri i_6)],[(1,.box 56 [.sl false (a1.Fns.map enc_Fn)]),(6,.row 25 1 0 (x.1.map encU32))],66,56,0⟩) (fun v6 h hk6 => ?_) ?_
   ·refine vs [2,3,5,10,11,12,18,19,25] (fun K hK => ?_);push_cast;apply hK;clear hK K;refine vc h (fun hb7 h => ?_) (fun hb7 h => ?_)
    ·obtain ⟨x8,hx8,h⟩ := po_some h;replace hx8 := idx_some4 hx8;refine vl (fun K hK => ?_);push_cast [hx8];(repeat refine ao ?_);apply hK;clear hK K;refine ar h hk6 ?_;exact sl (by push_cast [hb5,hb7])
    ·refine VC.skip ?_;refine ar h hk6 ?_;exact sl (by push_cast [hb5,hb7])
   ·rintro ⟨l_7,i_8⟩ (h : Jc a1 a2 a3 i_6 l_7 i_8 = some b4);(try push_cast);unfold Jc at h;obtain ⟨x9,hx9,h⟩ := po_some h;replace hx9 := gL hx9;obtain ⟨c10,hc10,h⟩ := pl_some h;have hc10i : (((UInt32.ofInt i_6)).toNat : Int) = (c10.toNat : Int) := by rw [hc10]
    push_cast at hc10i;obtain ⟨r11,hr11,h⟩ := po_some h;refine vsD [some 30,some 31,some 32,some 33,some 34,some 35,some 36,some 37,some 38,some 39,some 40,some 13,none] [2,3,5,10,11,13,18,19] (fun K hK => ?_);refine runD_cut 8 (fun K2 hK2 => ?_);push_cast [hx9,hc10i];(repeat refine ao ?_);refine hK2 _ _ _ ?_;clear hK2 K2;simp only [List.drop_succ_cons,List.drop_zero];push_cast [hx9,hc10i];(repeat refine ao ?_);refine cpD (Ym hr11) ?_;push_cast [hx9,hc10i];(repeat refine ao ?_);refine ⟨rfl,hK _ ?_⟩;clear hK K;refine VC.seq ?_;refine vj h (fun x => ⟨[(2,ru a2),(3,.sl false (a3.map encU32)),(5,.ref 1 0),(10,.row 6 0 1 0 x.1.length),(11,ri i_6),(13,.ref 77 0),(18,ri a0.Words),(19,ri i_6),(48,rb x.2)],[(1,.box 56 [.sl false (a1.Fns.map enc_Fn)]),(6,.row 25 1 0 (x.1.map encU32)),(77,.box 162 (enc_Ran r11))],87,56,0⟩) (fun v12 h hk12 => ?_) ?_
    ·rcases Bool.eq_false_or_eq_true (r11.Err != 0) with hb13 | hb13
     ·replace h := cond_yes hb13 h;refine vlG [some 41,some 42,some 43,some 44,some 45,some 46,some 47,some 48] (fun K hK => ?_);push_cast [hb13];(repeat refine ao ?_);apply hK;clear hK K;refine ar h hk12 ?_;exact sl (by push_cast [hb5,hc10i,hb13])
     ·replace h := cond_no hb13 h;refine vlG [some 41,some 42,some 43,some 44,some 45,some 46,some 47,some 48] (fun K hK => ?_);push_cast [hb13];(repeat refine ao ?_);apply hK;clear hK K;refine ar h hk12 ?_;exact sl (by push_cast [hb5,hc10i,hb13])
    ·rintro ⟨l_16,i_17⟩ (h : Kh i_6 r11 l_16 i_17 = some b4);(try push_cast);unfold Kh at h;refine vc h (fun hb14 h => ?_) (fun hb14 h => ?_)
     ·refine vs [8,9] (fun K hK => ?_);push_cast;apply hK;clear hK K;refine VC.ret ?_;replace h := ol h hf4;replace h := om h hk3;replace h := Option.some.inj h;subst h;refine endS (so (s' := ⟨[(8,.sl true []),(9,ri 10)],[],89,56,0⟩) (by push_cast [hb5,hc10i,hb14])) ?_;refine endS (Sub.adoptT (k := 8) (e := 25) (sz := 1) rfl) ?_;refine endS (Sub.renT (k := 8) (i' := 0) rfl rfl (Nat.le_of_ble_eq_true rfl) (Nat.le_of_ble_eq_true rfl) rfl) ?_;exact en (by push_cast [hb5,hc10i,hb14])
     ·refine VC.skip ?_;obtain ⟨x15,hx15,h⟩ := po_some h;replace hx15 := idx_some4 hx15;obtain ⟨y16,hy16,h⟩ := pl_some h;have hy16l : y16.length = l_16.length := by rw [hy16,List.length_set]
      refine vl (fun K hK => ?_);push_cast [hx15];(repeat refine ao ?_);apply hK;clear hK K;refine vl (fun K hK => ?_);push_cast;apply hK;clear hK K;refine bk h ?_;exact sl (by push_cast [hb5,hc10i,hb14,hy16,hy16l])
  ·refine VC.exit ?_;replace h := ol h hf4;refine am h hk3 ?_;exact sl (by push_cast [hb5])
 ·rintro l_15 (h : Nr l_15 = some r);(try push_cast);unfold Nr at h;refine vs [8,9] (fun K hK => ?_);push_cast;apply hK;clear hK K;refine VC.ret ?_;replace h := Option.some.inj h;subst h;refine endS (so (s' := ⟨[(8,.row 6 0 1 0 l_15.length),(9,ri 0)],[(6,.row 25 1 0 (l_15.map encU32))],57,56,0⟩) (by push_cast)) ?_;refine endS (Sub.renT (k := 8) (i' := 0) rfl rfl (Nat.le_of_ble_eq_true rfl) (Nat.le_of_ble_eq_true rfl) rfl) ?_;exact en (by push_cast)
noncomputable def Ec (a0 : T_Table) (a1 : T_Schema) (a2 : T_Prog) (s_1 : T_Table) (i_2 : Int) : Option ((T_Table × Int) ⊕ ((T_Table) ⊕ (T_Table × Int))) :=
  cond (decide (i_2 < (a0.E.length : Int))) (
  po (idx a0.E i_2) fun x9 =>
  po (Dc a1 a2 x9.Key x9.V) fun r10 =>
  cond (r10.2 != 0) (
  some (Sum.inr (Sum.inr ((T_Table.mk (T_Schema.mk 0 0 0 0) [] 0), r10.2)))) (
  pg ((s_1.E.length + 1) * 32 ≤ 140737488355328) <|
  pl (s_1.E ++ ([(T_Entry.mk x9.Key r10.1)])) fun y13 =>
  some (Sum.inl ((T_Table.mk s_1.S y13 s_1.Next), (IntKind.i64.wrap (i_2 + 1)))))) (
  some (Sum.inr (Sum.inl s_1)))
noncomputable def Jf (y5 : (List T_Entry)) (s_5 : T_Table) : Option (T_Table × Int) :=
  pg ((s_5.E.length + y5.length) * 32 ≤ 140737488355328) <|
  pl (s_5.E ++ y5) fun y15 =>
  some ((T_Table.mk s_5.S y15 s_5.Next), 0)
noncomputable def De (a0 : T_Table) (a1 : T_Schema) (a2 : T_Prog) : Option (T_Table × Int) :=
  po (Iu a0 a1 a2) fun r1 =>
  cond (r1 != 0) (
  some ((T_Table.mk (T_Schema.mk 0 0 0 0) [] 0), r1)) (
  po (Mm a1) fun r3 =>
  pg (0 ≤ (minI (a0.E.length : Int) (r3.1.E.length : Int)) ∧ (minI (a0.E.length : Int) (r3.1.E.length : Int)) ≤ (r3.1.E.length : Int) ∧ (r3.1.E.length : Int) ≤ (r3.1.E.length : Int)) <|
  pl ((r3.1.E.drop ((minI (a0.E.length : Int) (r3.1.E.length : Int)).toNat))) fun y5 =>
  pm (
  lpU (fun x => Ec a0 a1 a2 x.1 x.2) ((T_Table.mk r3.1.S [] r3.1.Next), 0)) (fun x => Jf y5 x))
theorem Uu {a0 : T_Table} {a1 : T_Schema} {a2 : T_Prog} {r : T_Table × Int} (h : De a0 a1 a2 = some r) : Ctr prog 21 [.agg (enc_Table a0), .agg (enc_Schema a1), .agg (enc_Prog a2)] [] (.tup [.agg [ri r.1.S.Kind, ri r.1.S.Cap, ri r.1.S.Words, ri r.1.S.Ver, .row 0 0 2 0 r.1.E.length, ru r.1.Next], ri r.2]) [(0, .row 66 2 0 (r.1.E.map enc_Entry))] := by
 unfold De at h;refine Ctr.ofW tabOk func21 rfl call21 0 _ ntmps21 [.cell 6 53,.tmp 7] rfl rfl rfl (fun B => ?_);refine vs [3,4,5,6] (fun K hK => ?_);push_cast;apply hK;clear hK K;refine VC.seq ?_;obtain ⟨r1,hr1,h⟩ := po_some h;refine vs [3,4,5,6,8] (fun K hK => ?_);push_cast;refine cp (Yt hr1) ?_;push_cast;apply hK;clear hK K;refine vs [3,4,5,6,8,21] (fun K hK => ?_);push_cast;apply hK;clear hK K;refine vc h (fun hb2 h => ?_) (fun hb2 h => ?_)
 ·refine vs [6,7] (fun K hK => ?_);push_cast;apply hK;clear hK K;refine VC.ret ?_;replace h := Option.some.inj h;subst h;refine endS (so (s' := ⟨[(6,.ref 3 0),(7,ri r1)],[(3,.box 53 [ri 0,ri 0,ri 0,ri 0,.sl true [],.raw (.int .u32 0)])],16,77,0⟩) (by push_cast [hb2])) ?_;refine endS (Sub.adopt (b := 3) (j := 4) (e := 66) (sz := 2) rfl rfl) ?_;refine endS (Sub.renB (b := 3) (j := 4) (i' := 0) rfl rfl rfl (Nat.le_of_ble_eq_true rfl) (Nat.le_of_ble_eq_true rfl) rfl) ?_;exact en (by push_cast [hb2])
 ·refine VC.skip ?_;obtain ⟨r3,hr3,h⟩ := po_some h;refine vs [3,4,5,6,9] (fun K hK => ?_);push_cast;refine cp (Yq a1 hr3) ?_;push_cast;apply hK;clear hK K;obtain ⟨hg4,h⟩ := pg_some h;obtain ⟨y5,hy5,h⟩ := pl_some h;refine vs [3,4,5,6,9,11] (fun K hK => ?_);refine runOps_cut 8 (fun K2 hK2 => ?_);push_cast [hg4];(repeat refine ao ?_);refine hK2 _ _ ?_;clear hK2 K2;simp only [List.drop_succ_cons,List.drop_zero];push_cast [hg4];(repeat refine ao ?_);apply hK;clear hK K;refine VC.sub (s' := ⟨[(3,.ref 0 0),(4,.ref 1 0),(5,.ref 2 0),(6,.ref 3 0),(9,.ref 17 0),(11,.sl false (y5.map enc_Entry))],[(0,.box 53 (enc_Table a0)),(1,.box 50 (enc_Schema a1)),(2,.box 56 [.sl false (a2.Fns.map enc_Fn)]),(3,.box 53 [ri 0,ri 0,ri 0,ri 0,.sl true [],.raw (.int .u32 0)]),(17,.box 53 (enc_Table r3.1))],31,77,0⟩) (so (by push_cast [hb2,hy5])) ?_;refine vs [3,4,5,6,9,11] (fun K hK => ?_);push_cast;apply hK;clear hK K;refine vm h (fun x => ⟨[(6,.ref 3 0),(9,.ref 17 0),(11,.sl false (y5.map enc_Entry))],[(3,.box 53 [ri 0,ri 0,ri 0,ri 0,.sl true [],.raw (.int .u32 0)]),(17,.box 53 [ri x.S.Kind,ri x.S.Cap,ri x.S.Words,ri x.S.Ver,.row 63 0 2 0 x.E.length,ru x.Next]),(63,.row 66 2 0 (x.E.map enc_Entry))],69,77,0⟩) (fun v6 h hk6 => ?_) ?_
  ·refine vs [4,5,6,9,11,41,42,43] (fun K hK => ?_);push_cast;apply hK;clear hK K;refine VC.block ?_;refine VC.loopP h (fun x => ⟨[(4,.ref 1 0),(5,.ref 2 0),(6,.ref 3 0),(9,.ref 17 0),(11,.sl false (y5.map enc_Entry)),(41,.sl false (a0.E.map enc_Entry)),(42,ri (a0.E.length : Int)),(43,ri x.2)],[(1,.box 50 (enc_Schema a1)),(2,.box 56 [.sl false (a2.Fns.map enc_Fn)]),(3,.box 53 [ri 0,ri 0,ri 0,ri 0,.sl true [],.raw (.int .u32 0)]),(17,.box 53 [ri x.1.S.Kind,ri x.1.S.Cap,ri x.1.S.Words,ri x.1.S.Ver,.row 63 0 2 0 x.1.E.length,ru x.1.Next]),(63,.row 66 2 0 (x.1.E.map enc_Entry))],68,77,0⟩) ?_ ?_
   ·refine Sub.trans (so (s' := ⟨[(4,.ref 1 0),(5,.ref 2 0),(6,.ref 3 0),(9,.ref 17 0),(11,.sl false (y5.map enc_Entry)),(41,.sl false (a0.E.map enc_Entry)),(42,ri (a0.E.length : Int)),(43,ri 0)],[(1,.box 50 (enc_Schema a1)),(2,.box 56 [.sl false (a2.Fns.map enc_Fn)]),(3,.box 53 [ri 0,ri 0,ri 0,ri 0,.sl true [],.raw (.int .u32 0)]),(17,.box 53 [ri r3.1.S.Kind,ri r3.1.S.Cap,ri r3.1.S.Words,ri r3.1.S.Ver,.sl true [],ru r3.1.Next])],37,77,0⟩) (by push_cast [hb2])) ?_;refine Sub.trans (Sub.adopt (b := 17) (j := 4) (e := 66) (sz := 2) rfl rfl) ?_;refine Sub.trans (Sub.renB (b := 17) (j := 4) (i' := 63) rfl rfl rfl (Nat.le_of_ble_eq_true rfl) (Nat.le_of_ble_eq_true rfl) rfl) ?_;exact so (by push_cast [hb2])
   rintro ⟨s_1,i_2⟩ b7 (h : Ec a0 a1 a2 s_1 i_2 = some b7) hf7;(try push_cast);unfold Ec at h;refine vs [4,5,6,9,11,41,42,43,44] (fun K hK => ?_);push_cast;apply hK;clear hK K;refine VC.seq ?_;refine vc h (fun hb8 h => ?_) (fun hb8 h => ?_)
   ·refine VC.skip ?_;refine VC.seq ?_;refine VC.block ?_;obtain ⟨x9,hx9,h⟩ := po_some h;replace hx9 := idx_some4 hx9;refine vs [4,5,6,9,11,13,41,42,43] (fun K hK => ?_);push_cast [hx9];(repeat refine ao ?_);apply hK;clear hK K;obtain ⟨r10,hr10,h⟩ := po_some h;refine vs [4,5,6,9,11,13,14,15,41,42,43] (fun K hK => ?_);refine runOps_cut 8 (fun K2 hK2 => ?_);push_cast;refine ch (H := []) (Ctr.loH (Ctr.ren (Bij.swp 0 79 Bij.id) (Wh hr10) (by push_cast) (by push_cast))) (by push_cast) ?_;push_cast;refine hK2 _ _ ?_;clear hK2 K2;simp only [List.drop_succ_cons,List.drop_zero];push_cast;apply hK;clear hK K;refine VC.sub (s' := ⟨[(4,.ref 1 0),(5,.ref 2 0),(6,.ref 3 0),(9,.ref 17 0),(11,.sl false (y5.map enc_Entry)),(13,.ref 71 0),(14,.row 79 0 1 0 r10.1.length),(15,ri r10.2),(41,.sl false (a0.E.map enc_Entry)),(42,ri (a0.E.length : Int)),(43,ri i_2)],[(1,.box 50 (enc_Schema a1)),(2,.box 56 [.sl false (a2.Fns.map enc_Fn)]),(3,.box 53 [ri 0,ri 0,ri 0,ri 0,.sl true [],.raw (.int .u32 0)]),(17,.box 53 [ri s_1.S.Kind,ri s_1.S.Cap,ri s_1.S.Words,ri s_1.S.Ver,.row 63 0 2 0 s_1.E.length,ru s_1.Next]),(63,.row 66 2 0 (s_1.E.map enc_Entry)),(71,.box 66 (enc_Entry x9)),(79,.row 25 1 0 (r10.1.map encU32))],85,77,0⟩) (so (by push_cast [hb2,hb8])) ?_;refine VC.seq ?_;refine vs [4,5,6,9,11,13,14,15,41,42,43,58] (fun K hK => ?_);push_cast;apply hK;clear hK K;refine vc h (fun hb11 h => ?_) (fun hb11 h => ?_)
    ·refine vs [6,7] (fun K hK => ?_);push_cast;apply hK;clear hK K;refine VC.ret ?_;replace h := ol h hf7;replace h := om h hk6;replace h := Option.some.inj h;subst h;refine endS (so (s' := ⟨[(6,.ref 3 0),(7,ri r10.2)],[(3,.box 53 [ri 0,ri 0,ri 0,ri 0,.sl true [],.raw (.int .u32 0)])],91,77,0⟩) (by push_cast [hb2,hb8,hb11])) ?_;refine endS (Sub.adopt (b := 3) (j := 4) (e := 66) (sz := 2) rfl rfl) ?_;refine endS (Sub.renB (b := 3) (j := 4) (i' := 0) rfl rfl rfl (Nat.le_of_ble_eq_true rfl) (Nat.le_of_ble_eq_true rfl) rfl) ?_;exact en (by push_cast [hb2,hb8,hb11])
    ·refine VC.skip ?_;obtain ⟨hg12,h⟩ := pg_some h;obtain ⟨y13,hy13,h⟩ := pl_some h;refine vl (fun K hK => ?_);push_cast [hg12];(repeat refine ao ?_);apply hK;clear hK K;refine vl (fun K hK => ?_);push_cast;apply hK;clear hK K;refine bk h ?_;refine Sub.trans (so (s' := ⟨[(4,.ref 1 0),(5,.ref 2 0),(6,.ref 3 0),(9,.ref 17 0),(11,.sl false (y5.map enc_Entry)),(41,.sl false (a0.E.map enc_Entry)),(42,ri (a0.E.length : Int)),(43,ri (IntKind.i64.wrap (i_2 + 1)))],[(1,.box 50 (enc_Schema a1)),(2,.box 56 [.sl false (a2.Fns.map enc_Fn)]),(3,.box 53 [ri 0,ri 0,ri 0,ri 0,.sl true [],.raw (.int .u32 0)]),(17,.box 53 [ri s_1.S.Kind,ri s_1.S.Cap,ri s_1.S.Words,ri s_1.S.Ver,.row 63 1 2 0 y13.length,ru s_1.Next]),(63,.row 66 2 1 (y13.map enc_Entry))],99,77,0⟩) (by push_cast [hb2,hb8,hb11,hy13])) ?_;refine Sub.trans (Sub.renB (b := 17) (j := 4) (i' := 63) rfl rfl rfl (Nat.le_of_ble_eq_true rfl) (Nat.le_of_ble_eq_true rfl) rfl) ?_;exact so (by push_cast [hb2,hb8,hb11,hy13])
   ·refine VC.exit ?_;replace h := ol h hf7;refine am h hk6 ?_;exact so (by push_cast [hb2,hb8])
  ·rintro s_5 (h : Jf y5 s_5 = some r);(try push_cast);unfold Jf at h;obtain ⟨hg14,h⟩ := pg_some h;obtain ⟨y15,hy15,h⟩ := pl_some h;refine vs [6,9] (fun K hK => ?_);push_cast [hg14];(repeat refine ao ?_);apply hK;clear hK K;refine VC.sub (s' := ⟨[(6,.ref 3 0),(9,.ref 17 0)],[(3,.box 53 [ri 0,ri 0,ri 0,ri 0,.sl true [],.raw (.int .u32 0)]),(17,.box 53 [ri s_5.S.Kind,ri s_5.S.Cap,ri s_5.S.Words,ri s_5.S.Ver,.row 63 1 2 0 y15.length,ru s_5.Next]),(63,.row 66 2 1 (y15.map enc_Entry))],75,77,0⟩) (so (by push_cast [hb2,hy15])) ?_;refine vs [6,7] (fun K hK => ?_);push_cast;apply hK;clear hK K;refine VC.ret ?_;replace h := Option.some.inj h;subst h;refine endS (so (s' := ⟨[(6,.ref 3 0),(7,ri 0)],[(3,.box 53 [ri s_5.S.Kind,ri s_5.S.Cap,ri s_5.S.Words,ri s_5.S.Ver,.row 63 1 2 0 y15.length,ru s_5.Next]),(63,.row 66 2 1 (y15.map enc_Entry))],78,77,0⟩) (by push_cast [hb2])) ?_;refine endS (Sub.renB (b := 3) (j := 4) (i' := 0) rfl rfl rfl (Nat.le_of_ble_eq_true rfl) (Nat.le_of_ble_eq_true rfl) rfl) ?_;exact en (by push_cast [hb2])
noncomputable def Jb (a0 : T_Schema) (a1 : T_Prog) (a2 : UInt32) (a3 : (List UInt32)) (i_1 : Bool) : Option ((List UInt32) × Int) :=
  cond i_1 (
  some ([], 1)) (
  po (Ci a1 []) fun r5 =>
  cond (r5.2 != 0) (
  some ([], r5.2)) (
  po (Dc a0 a1 a2 a3) fun r7 =>
  some (r7.1, r7.2)))
noncomputable def Ir (a0 : T_Schema) (a1 : T_Prog) (a2 : UInt32) (a3 : (List UInt32)) : Option ((List UInt32) × Int) :=
  po (
  po (Bw a0) fun r2 =>
  cond r2 (
  some ((a3.length : Int) == 0)) (
  some true)) (fun x => Jb a0 a1 a2 a3 x)
theorem Wi {a0 : T_Schema} {a1 : T_Prog} {a2 : UInt32} {a3 : (List UInt32)} {r : (List UInt32) × Int} (h : Ir a0 a1 a2 a3 = some r) : Ctr prog 24 [.agg (enc_Schema a0), .agg (enc_Prog a1), ru a2, .sl false (a3.map encU32)] [] (.tup [.row 0 0 1 0 r.1.length, ri r.2]) [(0, .row 25 1 0 (r.1.map encU32))] := by
 unfold Ir at h;refine Ctr.ofW tabOk func24 rfl call24 0 _ ntmps24 [.tmp 8,.tmp 9] rfl rfl rfl (fun B => ?_);refine vs [2,3,4,5] (fun K hK => ?_);push_cast;apply hK;clear hK K;refine VC.seq ?_;refine vj h (fun x => ⟨[(2,ru a2),(3,.sl false (a3.map encU32)),(4,.ref 0 0),(5,.ref 1 0),(19,rb x)],[(0,.box 50 (enc_Schema a0)),(1,.box 56 [.sl false (a1.Fns.map enc_Fn)])],12,35,0⟩) (fun v1 h hk1 => ?_) ?_
 ·obtain ⟨r2,hr2,h⟩ := po_some h;rcases Bool.eq_false_or_eq_true r2 with hb3 | hb3
  ·replace h := cond_yes hb3 h;refine vlG [some 12,some 13,some 14,some 15,some 16,some 17,some 18,some 19] (fun K hK => ?_);push_cast [hb3];(repeat refine ao ?_);refine cp (Fi hr2) ?_;push_cast [hb3];(repeat refine ao ?_);apply hK;clear hK K;refine ar h hk1 ?_;exact sl (by push_cast [hb3])
  ·replace h := cond_no hb3 h;refine vlG [some 12,some 13,some 14,some 15,some 16,some 17,some 18,some 19] (fun K hK => ?_);push_cast [hb3];(repeat refine ao ?_);refine cp (Fi hr2) ?_;push_cast [hb3];(repeat refine ao ?_);apply hK;clear hK K;refine ar h hk1 ?_;exact sl (by push_cast [hb3])
 ·rintro i_1 (h : Jb a0 a1 a2 a3 i_1 = some r);(try push_cast);unfold Jb at h;refine vc h (fun hb4 h => ?_) (fun hb4 h => ?_)
  ·refine vs [8,9] (fun K hK => ?_);push_cast;apply hK;clear hK K;refine VC.ret ?_;replace h := Option.some.inj h;subst h;refine endS (so (s' := ⟨[(8,.sl true []),(9,ri 1)],[],14,35,0⟩) (by push_cast [hb4])) ?_;refine endS (Sub.adoptT (k := 8) (e := 25) (sz := 1) rfl) ?_;refine endS (Sub.renT (k := 8) (i' := 0) rfl rfl (Nat.le_of_ble_eq_true rfl) (Nat.le_of_ble_eq_true rfl) rfl) ?_;exact en (by push_cast [hb4])
  ·refine VC.skip ?_;refine VC.seq ?_;obtain ⟨r5,hr5,h⟩ := po_some h;refine vs [2,3,4,5,11] (fun K hK => ?_);push_cast;refine cp (Sc hr5) ?_;push_cast;apply hK;clear hK K;refine vs [2,3,4,5,11,26] (fun K hK => ?_);push_cast;apply hK;clear hK K;refine vc h (fun hb6 h => ?_) (fun hb6 h => ?_)
   ·refine vs [8,9] (fun K hK => ?_);push_cast;apply hK;clear hK K;refine VC.ret ?_;replace h := Option.some.inj h;subst h;refine endS (so (s' := ⟨[(8,.sl true []),(9,ri r5.2)],[],24,35,0⟩) (by push_cast [hb4,hb6])) ?_;refine endS (Sub.adoptT (k := 8) (e := 25) (sz := 1) rfl) ?_;refine endS (Sub.renT (k := 8) (i' := 0) rfl rfl (Nat.le_of_ble_eq_true rfl) (Nat.le_of_ble_eq_true rfl) rfl) ?_;exact en (by push_cast [hb4,hb6])
   ·refine VC.skip ?_;obtain ⟨r7,hr7,h⟩ := po_some h;refine vs [8,9] (fun K hK => ?_);push_cast;refine ch (H := []) (Ctr.loH (Ctr.ren (Bij.swp 0 25 Bij.id) (Wh hr7) (by push_cast) (by push_cast))) (by push_cast) ?_;push_cast;apply hK;clear hK K;refine VC.sub (s' := ⟨[(8,.row 25 0 1 0 r7.1.length),(9,ri r7.2)],[(25,.row 25 1 0 (r7.1.map encU32))],30,35,0⟩) (so (by push_cast [hb4,hb6])) ?_;refine VC.ret ?_;replace h := Option.some.inj h;subst h;refine endS (so (s' := ⟨[(8,.row 25 0 1 0 r7.1.length),(9,ri r7.2)],[(25,.row 25 1 0 (r7.1.map encU32))],30,35,0⟩) (by push_cast [hb4,hb6])) ?_;refine endS (Sub.renT (k := 8) (i' := 0) rfl rfl (Nat.le_of_ble_eq_true rfl) (Nat.le_of_ble_eq_true rfl) rfl) ?_;exact en (by push_cast [hb4,hb6])
noncomputable def Ga (i_1 : Bool) : Option (Bool) :=
  some i_1
noncomputable def Dg : Option (Bool) :=
  po (Ir (T_Schema.mk 1 1 3 0) (T_Prog.mk ([(T_Fn.mk 0 ([(T_Inst.mk 2 0 0 0 false 0 2), (T_Inst.mk 7 0 0 0 false 0 0)]))])) 7 ([4, 5])) fun r1 =>
  po (De (T_Table.mk (T_Schema.mk 1 1 1 0) ([(T_Entry.mk 9 ([6]))]) 0) (T_Schema.mk 1 2 2 1) (T_Prog.mk ([(T_Fn.mk 0 ([(T_Inst.mk 2 0 0 0 false 0 2), (T_Inst.mk 7 0 0 0 false 0 0)]))]))) fun r2 =>
  po (
  cond (r1.2 == 0) (
  po (Bo r1.1 ([4, 5, 0])) fun r5 =>
  cond r5 (
  cond (r2.2 == 0) (
  cond ((r2.1.E.length : Int) == 1) (
  po (r2.1.E[0]?) fun x9 =>
  po (Bo x9.V ([6, 0])) fun r10 =>
  some r10) (
  some false)) (
  some false)) (
  some false)) (
  some false)) (fun x => Ga x)
theorem Uo {r : Bool} (h : Dg = some r) : Ctr prog 19 [] [] (rb r) [] := by
 unfold Dg at h;refine Ctr.ofW tabOk func19 rfl call19 0 _ ntmps19 [.tmp 0] rfl rfl rfl (fun B => ?_);refine vs [] (fun K hK => ?_);push_cast;apply hK;clear hK K;refine vs [1] (fun K hK => ?_);push_cast;apply hK;clear hK K;refine VC.sub (s' := ⟨[(1,.ref 7 0)],[(5,.row 71 2 0 (([(T_Fn.mk 0 ([(T_Inst.mk 2 0 0 0 false 0 2),(T_Inst.mk 7 0 0 0 false 0 0)]))]).map enc_Fn)),(7,.box 56 [.row 5 0 2 0 1])],9,56,0⟩) (so (by push_cast)) ?_;refine VC.sub (Sub.freeze prog (b := 7) (j := 0) rfl rfl rfl (by push_cast <;> omega) (by decide)) ?_;refine VC.sub (s' := ⟨[(1,.ref 7 0)],[(7,.box 56 [.sl false (([(T_Fn.mk 0 ([(T_Inst.mk 2 0 0 0 false 0 2),(T_Inst.mk 7 0 0 0 false 0 0)]))]).map enc_Fn)])],9,56,0⟩) (so (by push_cast)) ?_;obtain ⟨r1,hr1,h⟩ := po_some h;refine vs [1,2,3] (fun K hK => ?_);push_cast;refine ch (H := [(11,.row 25 1 0 (([4,5]).map encU32))]) (Ctr.consume (args0 := [.agg [ri 1,ri 1,ri 3,ri 0],.agg [.sl false (([(T_Fn.mk 0 ([(T_Inst.mk 2 0 0 0 false 0 2),(T_Inst.mk 7 0 0 0 false 0 0)]))]).map enc_Fn)],.raw (.int .u32 7),.sl false (([4,5]).map encU32)]) (Ctr.ren (Bij.swp 0 12 Bij.id) (Wi hr1) (by push_cast) (by push_cast)) (by push_cast) rfl) (by push_cast) ?_;push_cast;apply hK;clear hK K;refine VC.sub (s' := ⟨[(1,.ref 7 0),(2,.row 12 0 1 0 r1.1.length),(3,ri r1.2)],[(7,.box 56 [.sl false (([(T_Fn.mk 0 ([(T_Inst.mk 2 0 0 0 false 0 2),(T_Inst.mk 7 0 0 0 false 0 0)]))]).map enc_Fn)]),(12,.row 25 1 0 (r1.1.map encU32))],18,56,0⟩) (so (by push_cast)) ?_;obtain ⟨r2,hr2,h⟩ := po_some h;refine vs [2,3,4,5] (fun K hK => ?_);refine runOps_cut 8 (fun K2 hK2 => ?_);push_cast;refine ch (H := [(21,.row 66 2 0 (([(T_Entry.mk 9 ([6]))]).map enc_Entry))]) (Ctr.consume (args0 := [.agg [ri 1,ri 1,ri 1,ri 0,.sl false (([(T_Entry.mk 9 ([6]))]).map enc_Entry),.raw (.int .u32 0)],.agg [ri 1,ri 2,ri 2,ri 1],.agg [.sl false (([(T_Fn.mk 0 ([(T_Inst.mk 2 0 0 0 false 0 2),(T_Inst.mk 7 0 0 0 false 0 0)]))]).map enc_Fn)]]) (Ctr.ren (Bij.swp 0 25 Bij.id) (Uu hr2) (by push_cast) (by push_cast)) (by push_cast) rfl) (by push_cast) ?_;push_cast;refine hK2 _ _ ?_;clear hK2 K2;simp only [List.drop_succ_cons,List.drop_zero];push_cast;apply hK;clear hK K;refine VC.sub (s' := ⟨[(2,.row 12 0 1 0 r1.1.length),(3,ri r1.2),(4,.ref 29 0),(5,ri r2.2)],[(12,.row 25 1 0 (r1.1.map encU32)),(25,.row 66 2 0 (r2.1.E.map enc_Entry)),(29,.box 53 [ri r2.1.S.Kind,ri r2.1.S.Cap,ri r2.1.S.Words,ri r2.1.S.Ver,.row 25 0 2 0 r2.1.E.length,ru r2.1.Next])],32,56,0⟩) (so (by push_cast)) ?_;refine vj h (fun x => ⟨[(0,rb x)],[],59,56,0⟩) (fun v3 h hk3 => ?_) ?_
 ·rcases Bool.eq_false_or_eq_true (r1.2 == 0) with hb4 | hb4
  ·replace h := cond_yes hb4 h;obtain ⟨r5,hr5,h⟩ := po_some h;rcases Bool.eq_false_or_eq_true r5 with hb6 | hb6
   ·replace h := cond_yes hb6 h;rcases Bool.eq_false_or_eq_true (r2.2 == 0) with hb7 | hb7
    ·replace h := cond_yes hb7 h;rcases Bool.eq_false_or_eq_true ((r2.1.E.length : Int) == 1) with hb8 | hb8
     ·replace h := cond_yes hb8 h;obtain ⟨x9,hx9,h⟩ := po_some h;replace hx9 := gL hx9;obtain ⟨r10,hr10,h⟩ := po_some h;refine vlG [some 30,some 31,some 32,some 33,some 34,some 35,some 36,some 37,some 38,some 39,some 40,some 41,some 42,some 43,some 44,some 45,some 46,some 47,some 48,some 49,some 50,some 51,some 52,some 53,some 54,some 55,some 0] (fun K hK => ?_);refine runOps_cut 8 (fun K2 hK2 => ?_);push_cast [hb4,hb6,hb7,hb8,hx9];(repeat refine ao ?_);refine ch (H := [(12,.row 25 1 0 (r1.1.map encU32)),(36,.row 25 1 0 (([4,5,0]).map encU32))]) (H' := _) (Ctr.borrow (Di hr5) (by push_cast [hb4,hb6,hb7,hb8,hx9]) rfl) (by push_cast [hb4,hb6,hb7,hb8,hx9]) ?_;push_cast [hb4,hb6,hb7,hb8,hx9];(repeat refine ao ?_);refine hK2 _ _ ?_;clear hK2 K2;simp only [List.drop_succ_cons,List.drop_zero];refine runOps_cut 8 (fun K2 hK2 => ?_);push_cast [hb4,hb6,hb7,hb8,hx9];(repeat refine ao ?_);refine hK2 _ _ ?_;clear hK2 K2;simp only [List.drop_succ_cons,List.drop_zero];refine runOps_cut 8 (fun K2 hK2 => ?_);push_cast [hb4,hb6,hb7,hb8,hx9];(repeat refine ao ?_);refine hK2 _ _ ?_;clear hK2 K2;simp only [List.drop_succ_cons,List.drop_zero];push_cast [hb4,hb6,hb7,hb8,hx9];(repeat refine ao ?_);refine ch (H := [(55,.row 25 1 0 (([6,0]).map encU32))]) (H' := _) (Ctr.borrow (Di hr10) (by push_cast [hb4,hb6,hb7,hb8,hx9]) rfl) (by push_cast [hb4,hb6,hb7,hb8,hx9]) ?_;push_cast [hb4,hb6,hb7,hb8,hx9];(repeat refine ao ?_);apply hK;clear hK K;refine ar h hk3 ?_;exact sl (by push_cast [hb4,hb6,hb7,hb8])
     ·replace h := cond_no hb8 h;refine vlG [some 30,some 31,some 32,some 33,some 34,some 35,some 36,some 37,some 38,some 39,some 40,some 41,some 42,some 43,some 44,some 45,some 46,some 47,some 48,some 49,some 50,some 51,some 52,some 53,some 54,some 55,some 0] (fun K hK => ?_);refine runOps_cut 8 (fun K2 hK2 => ?_);push_cast [hb4,hb6,hb7,hb8];(repeat refine ao ?_);refine ch (H := [(12,.row 25 1 0 (r1.1.map encU32)),(36,.row 25 1 0 (([4,5,0]).map encU32))]) (H' := _) (Ctr.borrow (Di hr5) (by push_cast [hb4,hb6,hb7,hb8]) rfl) (by push_cast [hb4,hb6,hb7,hb8]) ?_;push_cast [hb4,hb6,hb7,hb8];(repeat refine ao ?_);refine hK2 _ _ ?_;clear hK2 K2;simp only [List.drop_succ_cons,List.drop_zero];refine runOps_cut 8 (fun K2 hK2 => ?_);push_cast [hb4,hb6,hb7,hb8];(repeat refine ao ?_);refine hK2 _ _ ?_;clear hK2 K2;simp only [List.drop_succ_cons,List.drop_zero];refine runOps_cut 8 (fun K2 hK2 => ?_);push_cast [hb4,hb6,hb7,hb8];(repeat refine ao ?_);refine hK2 _ _ ?_;clear hK2 K2;simp only [List.drop_succ_cons,List.drop_zero];push_cast [hb4,hb6,hb7,hb8];(repeat refine ao ?_);apply hK;clear hK K;refine ar h hk3 ?_;exact sl (by push_cast [hb4,hb6,hb7,hb8])
    ·replace h := cond_no hb7 h;refine vlG [some 30,some 31,some 32,some 33,some 34,some 35,some 36,some 37,some 38,some 39,some 40,some 41,some 42,some 43,some 44,some 45,some 46,some 47,some 48,some 49,some 50,some 51,some 52,some 53,some 54,some 55,some 0] (fun K hK => ?_);refine runOps_cut 8 (fun K2 hK2 => ?_);push_cast [hb4,hb6,hb7];(repeat refine ao ?_);refine ch (H := [(12,.row 25 1 0 (r1.1.map encU32)),(36,.row 25 1 0 (([4,5,0]).map encU32))]) (H' := _) (Ctr.borrow (Di hr5) (by push_cast [hb4,hb6,hb7]) rfl) (by push_cast [hb4,hb6,hb7]) ?_;push_cast [hb4,hb6,hb7];(repeat refine ao ?_);refine hK2 _ _ ?_;clear hK2 K2;simp only [List.drop_succ_cons,List.drop_zero];refine runOps_cut 8 (fun K2 hK2 => ?_);push_cast [hb4,hb6,hb7];(repeat refine ao ?_);refine hK2 _ _ ?_;clear hK2 K2;simp only [List.drop_succ_cons,List.drop_zero];refine runOps_cut 8 (fun K2 hK2 => ?_);push_cast [hb4,hb6,hb7];(repeat refine ao ?_);refine hK2 _ _ ?_;clear hK2 K2;simp only [List.drop_succ_cons,List.drop_zero];push_cast [hb4,hb6,hb7];(repeat refine ao ?_);apply hK;clear hK K;refine ar h hk3 ?_;exact sl (by push_cast [hb4,hb6,hb7])
   ·replace h := cond_no hb6 h;refine vlG [some 30,some 31,some 32,some 33,some 34,some 35,some 36,some 37,some 38,some 39,some 40,some 41,some 42,some 43,some 44,some 45,some 46,some 47,some 48,some 49,some 50,some 51,some 52,some 53,some 54,some 55,some 0] (fun K hK => ?_);refine runOps_cut 8 (fun K2 hK2 => ?_);push_cast [hb4,hb6];(repeat refine ao ?_);refine ch (H := [(12,.row 25 1 0 (r1.1.map encU32)),(36,.row 25 1 0 (([4,5,0]).map encU32))]) (H' := _) (Ctr.borrow (Di hr5) (by push_cast [hb4,hb6]) rfl) (by push_cast [hb4,hb6]) ?_;push_cast [hb4,hb6];(repeat refine ao ?_);refine hK2 _ _ ?_;clear hK2 K2;simp only [List.drop_succ_cons,List.drop_zero];refine runOps_cut 8 (fun K2 hK2 => ?_);push_cast [hb4,hb6];(repeat refine ao ?_);refine hK2 _ _ ?_;clear hK2 K2;simp only [List.drop_succ_cons,List.drop_zero];refine runOps_cut 8 (fun K2 hK2 => ?_);push_cast [hb4,hb6];(repeat refine ao ?_);refine hK2 _ _ ?_;clear hK2 K2;simp only [List.drop_succ_cons,List.drop_zero];push_cast [hb4,hb6];(repeat refine ao ?_);apply hK;clear hK K;refine ar h hk3 ?_;exact sl (by push_cast [hb4,hb6])
  ·replace h := cond_no hb4 h;refine vlG [some 30,some 31,some 32,some 33,some 34,some 35,some 36,some 37,some 38,some 39,some 40,some 41,some 42,some 43,some 44,some 45,some 46,some 47,some 48,some 49,some 50,some 51,some 52,some 53,some 54,some 55,some 0] (fun K hK => ?_);refine runOps_cut 8 (fun K2 hK2 => ?_);push_cast [hb4];(repeat refine ao ?_);refine hK2 _ _ ?_;clear hK2 K2;simp only [List.drop_succ_cons,List.drop_zero];refine runOps_cut 8 (fun K2 hK2 => ?_);push_cast [hb4];(repeat refine ao ?_);refine hK2 _ _ ?_;clear hK2 K2;simp only [List.drop_succ_cons,List.drop_zero];refine runOps_cut 8 (fun K2 hK2 => ?_);push_cast [hb4];(repeat refine ao ?_);refine hK2 _ _ ?_;clear hK2 K2;simp only [List.drop_succ_cons,List.drop_zero];push_cast [hb4];(repeat refine ao ?_);apply hK;clear hK K;refine ar h hk3 ?_;exact sl (by push_cast [hb4])
 ·rintro i_1 (h : Ga i_1 = some r);(try push_cast);unfold Ga at h;refine VC.ret ?_;replace h := Option.some.inj h;subst h;exact en (by push_cast)
def itF {σ ρ : Type} (step : σ → Option (σ ⊕ ρ)) (s : σ) : Option ρ := iterU step 5000 s
def Le {α : Type} (x y : Option α) : Prop := ∀ r, x = some r → y = some r
section
variable {α β γ σ ρ : Type}
theorem Le.refl (x : Option α) : Le x x := fun _ h => h
theorem Le.po {x x' : Option α} {k k' : α → Option β} (hx : Le x x') (hk : ∀ a, Le (k a) (k' a)) : Le (po x k) (po x' k') := by
  intro r h
  obtain ⟨a, h1, h2⟩ := po_some h
  rw [hx a h1]
  exact hk a r h2
theorem Le.pl {x : α} {k k' : α → Option β} (hk : ∀ a, Le (k a) (k' a)) : Le (pl x k) (pl x k') := hk x
theorem Le.pg {c : Prop} [Decidable c] {k k' : Option β} (hk : Le k k') : Le (pg c k) (pg c k') := by
  intro r h
  obtain ⟨h1, h2⟩ := pg_some h
  rw [pg_of h1]
  exact hk r h2
theorem Le.cond {c : Bool} {a a' b b' : Option α} (ha : Le a a') (hb : Le b b') : Le (cond c a b) (cond c a' b') := by
  cases c
  · exact hb
  · exact ha
theorem Le.pm {x x' : Option (α ⊕ β)} {k k' : α → Option β} (hx : Le x x') (hk : ∀ a, Le (k a) (k' a)) : Le (pm x k) (pm x' k') := by
  intro r h
  cases hq : x with
  | none => rw [hq] at h; cases h
  | some v =>
    rw [hx v hq]
    rw [hq] at h
    cases v with
    | inl a => exact hk a r h
    | inr b => exact h
theorem Le.pq {x x' : Option (α ⊕ β)} {k k' : α → Option γ} {kr kr' : β → Option γ} (hx : Le x x') (hk : ∀ a, Le (k a) (k' a)) (hr : ∀ a, Le (kr a) (kr' a)) : Le (pq x k kr) (pq x' k' kr') := by
  intro r h
  cases hq : x with
  | none => rw [hq] at h; cases h
  | some v =>
    rw [hx v hq]
    rw [hq] at h
    cases v with
    | inl a => exact hk a r h
    | inr b => exact hr b r h
theorem Le.iter {st st' : σ → Option (σ ⊕ ρ)} (h : ∀ s, Le (st s) (st' s)) : ∀ (n : Nat) (s : σ) (r : ρ), iterU st n s = some r → iterU st' n s = some r
  | 0, s, r, hr => by cases hr
  | n + 1, s, r, hr => by
    simp only [iterU] at hr ⊢
    split at hr
    · cases hr
    · rename_i s' hs
      rw [h s _ hs]
      exact Le.iter h n s' r hr
    · rename_i b hs
      rw [h s _ hs]
      exact hr
theorem Le.lp {st st' : σ → Option (σ ⊕ ρ)} {s : σ} (h : ∀ s, Le (st s) (st' s)) : Le (itF st s) (lpU st' s) := fun r hr => lpU_some.2 ⟨5000, Le.iter h _ s r hr⟩
theorem Le.itU {st st' : σ → α → Option (σ ⊕ ρ)} {l : List α} {s : σ} (h : ∀ s u, Le (st s u) (st' s u)) : Le (itU st l s) (itU st' l s) := by
  intro r hr
  induction l generalizing s with
  | nil => exact hr
  | cons u l ih =>
    simp only [Go.Proofs.YtcffmheeofjifaaGreat.itU] at hr ⊢
    split at hr
    · cases hr
    · rename_i s' hs
      rw [h s u _ hs]
      exact ih hr
    · rename_i b hs
      rw [h s u _ hs]
      exact hr
end
noncomputable def Bv (a0 : (List T_Inst)) : Option (Int) :=
  pm (
  itF (fun x => Ae a0 x) 0) (fun x => Al)
theorem Ie (a0 : (List T_Inst)) : Le (Bv a0) (Ao a0) := by
  unfold Bv Ao
  repeat' with_reducible first | (intro _) | apply Le.pm | apply Le.lp | exact Le.refl _
noncomputable def Bm (a0 : (List T_Inst)) : Option (Bool) :=
  po (Bv a0) fun r1 =>
  some (decide (r1 ≥ 0))
theorem Hc (a0 : (List T_Inst)) : Le (Bm a0) (Af a0) := by
  unfold Bm Af
  repeat' with_reducible first | (intro _) | apply Ie | apply Le.po | exact Le.refl _
noncomputable def Sk (a0 : T_Fn) : Option (Bool) :=
  po (
  cond (decide (a0.Args ≥ 0)) (
  cond (decide (a0.Args ≤ 4)) (
  cond (decide ((a0.Code.length : Int) > 0)) (
  cond (decide ((a0.Code.length : Int) ≤ 64)) (
  po (Bm a0.Code) fun r6 =>
  some (!r6)) (
  some false)) (
  some false)) (
  some false)) (
  some false)) (fun x => Kx x)
theorem Xk (a0 : T_Fn) : Le (Sk a0) (Iq a0) := by
  unfold Sk Iq
  repeat' with_reducible first | (intro _) | apply Hc | apply Le.po | apply Le.cond | exact Le.refl _
noncomputable def Ru (a0 : T_Fn) : Option (Bool) :=
  po (Sk a0) fun r1 =>
  some (!r1)
theorem Xd (a0 : T_Fn) : Le (Ru a0) (Lb a0) := by
  unfold Ru Lb
  repeat' with_reducible first | (intro _) | apply Xk | apply Le.po | exact Le.refl _
noncomputable def Bz (a0 : (List T_Fn)) (i_1 : Int) : Option ((Int) ⊕ ((Unit) ⊕ (Int))) :=
  cond (decide (i_1 < (a0.length : Int))) (
  po (idx a0 i_1) fun x4 =>
  po (Ru x4) fun r5 =>
  cond r5 (
  some (Sum.inr (Sum.inr i_1))) (
  some (Sum.inl (IntKind.i64.wrap (i_1 + 1))))) (
  some (Sum.inr (Sum.inl ())))
theorem Ix (a0 : (List T_Fn)) (i_1 : Int) : Le (Bz a0 i_1) (Ac a0 i_1) := by
  unfold Bz Ac
  repeat' with_reducible first | (intro _) | apply Xd | apply Le.po | apply Le.cond | exact Le.refl _
noncomputable def Ce (a0 : (List T_Fn)) : Option (Int) :=
  pm (
  itF (fun x => Bz a0 x) 0) (fun x => Ap)
theorem Ju (a0 : (List T_Fn)) : Le (Ce a0) (Av a0) := by
  unfold Ce Av
  repeat' with_reducible first | (intro _) | apply Ix | apply Le.pm | apply Le.lp | exact Le.refl _
noncomputable def Bx (a0 : (List T_Fn)) : Option (Bool) :=
  po (Ce a0) fun r1 =>
  some (decide (r1 ≥ 0))
theorem Ja (a0 : (List T_Fn)) : Le (Bx a0) (Aj a0) := by
  unfold Bx Aj
  repeat' with_reducible first | (intro _) | apply Ju | apply Le.po | exact Le.refl _
noncomputable def Rc (a0 : T_Prog) (i_1 : Bool) : Option (Bool) :=
  cond i_1 (
  some false) (
  po (Bx a0.Fns) fun r6 =>
  some (!r6))
theorem Wv (a0 : T_Prog) (i_1 : Bool) : Le (Rc a0 i_1) (Fv a0 i_1) := by
  unfold Rc Fv
  repeat' with_reducible first | (intro _) | apply Ja | apply Le.po | apply Le.cond | exact Le.refl _
noncomputable def Pq (a0 : T_Prog) : Option (Bool) :=
  po (
  cond ((a0.Fns.length : Int) == 0) (
  some true) (
  cond (decide ((a0.Fns.length : Int) > 8)) (
  some true) (
  po (a0.Fns[0]?) fun x4 =>
  some (x4.Args != 0)))) (fun x => Rc a0 x)
theorem Rd (a0 : T_Prog) : Le (Pq a0) (Fl a0) := by
  unfold Pq Fl
  repeat' with_reducible first | (intro _) | apply Wv | apply Le.po | apply Le.cond | exact Le.refl _
noncomputable def Bg (a0 : (List T_Schema)) : Option (Int) :=
  pm (
  itF (fun x => Ad a0 x) 0) (fun x => Aw)
theorem Fq (a0 : (List T_Schema)) : Le (Bg a0) (Ag a0) := by
  unfold Bg Ag
  repeat' with_reducible first | (intro _) | apply Le.pm | apply Le.lp | exact Le.refl _
noncomputable def Bf (a0 : (List T_Schema)) : Option (Bool) :=
  po (Bg a0) fun r1 =>
  some (decide (r1 ≥ 0))
theorem Ex (a0 : (List T_Schema)) : Le (Bf a0) (Aa a0) := by
  unfold Bf Aa
  repeat' with_reducible first | (intro _) | apply Fq | apply Le.po | exact Le.refl _
noncomputable def Qi (a0 : Int) (i_1 : Bool) : Option (T_Shape × Bool) :=
  cond i_1 (
  some ((T_Shape.mk (A8.mk false false false false false false false false) (A8.mk (C128.mk 0 0) (C128.mk 0 0) (C128.mk 0 0) (C128.mk 0 0) (C128.mk 0 0) (C128.mk 0 0) (C128.mk 0 0) (C128.mk 0 0))), false)) (
  po (
  itF (fun x => Li a0 x.1 x.2) ((T_Shape.mk (A8.mk false false false false false false false false) (A8.mk (C128.mk 0 0) (C128.mk 0 0) (C128.mk 0 0) (C128.mk 0 0) (C128.mk 0 0) (C128.mk 0 0) (C128.mk 0 0) (C128.mk 0 0))), 0)) (fun x => Nx x))
theorem Wb (a0 : Int) (i_1 : Bool) : Le (Qi a0 i_1) (Iz a0 i_1) := by
  unfold Qi Iz
  repeat' with_reducible first | (intro _) | apply Le.po | apply Le.cond | apply Le.lp | exact Le.refl _
noncomputable def Sg (a0 : Int) : Option (T_Shape × Bool) :=
  po (
  cond (decide (a0 < 0)) (
  some true) (
  some (decide (a0 > 4)))) (fun x => Qi a0 x)
theorem Xp (a0 : Int) : Le (Sg a0) (Ko a0) := by
  unfold Sg Ko
  repeat' with_reducible first | (intro _) | apply Wb | apply Le.po | apply Le.cond | exact Le.refl _
noncomputable def Kp (a0 : T_Shape) : Option (Bool) :=
  pm (
  itF (fun x => Lh a0 x.1 x.2) (a0, 0)) (fun x => Nu a0 x)
theorem Nw (a0 : T_Shape) : Le (Kp a0) (Df a0) := by
  unfold Kp Df
  repeat' with_reducible first | (intro _) | apply Le.pm | apply Le.lp | exact Le.refl _
noncomputable def Qn (a0 : T_Shape) (a1 : Int) (a2 : C128) : Option (T_Shape) :=
  pm (
  po (Kp a0) fun r2 =>
  cond (!r2) (
  some (Sum.inr (T_Shape.mk (A8.mk false false false false false false false false) (A8.mk (C128.mk 0 0) (C128.mk 0 0) (C128.mk 0 0) (C128.mk 0 0) (C128.mk 0 0) (C128.mk 0 0) (C128.mk 0 0) (C128.mk 0 0))))) (
  po (Kb a1) fun r4 =>
  cond (!r4) (
  some (Sum.inr a0)) (
  po (Fh a2) fun r6 =>
  cond (!r6) (
  po (Km) fun r8 =>
  some (Sum.inl r8)) (
  some (Sum.inl a2))))) (fun x => Kz a0 a1 x)
theorem Uc (a0 : T_Shape) (a1 : Int) (a2 : C128) : Le (Qn a0 a1 a2) (Ey a0 a1 a2) := by
  unfold Qn Ey
  repeat' with_reducible first | (intro _) | apply Nw | apply Le.po | apply Le.cond | apply Le.pm | exact Le.refl _
noncomputable def Ot (a0 : T_Shape) (a1 : T_Shape) (s_4 : T_Shape) (i_5 : Int) (i_6 : Bool) : Option (T_Shape) :=
  cond i_6 (
  pg (0 ≤ i_5 ∧ i_5 < 8) <|
  po (Jy (a0.R.get i_5.toNat) (a1.R.get i_5.toNat)) fun r15 =>
  po (Qn s_4 i_5 r15) fun r16 =>
  some r16) (
  some s_4)
theorem Ux (a0 : T_Shape) (a1 : T_Shape) (s_4 : T_Shape) (i_5 : Int) (i_6 : Bool) : Le (Ot a0 a1 s_4 i_5 i_6) (Gm a0 a1 s_4 i_5 i_6) := by
  unfold Ot Gm
  repeat' with_reducible first | (intro _) | apply Uc | apply Le.po | apply Le.cond | apply Le.pg | exact Le.refl _
noncomputable def Pw (a0 : T_Shape) (a1 : T_Shape) (s_4 : T_Shape) (i_5 : Int) : Option ((T_Shape × Int) ⊕ (T_Shape)) :=
  cond (decide (i_5 < 8)) (
  po (
  po (
  pg (0 ≤ i_5 ∧ i_5 < 8) <|
  cond (a0.Set.get i_5.toNat) (
  some (a1.Set.get i_5.toNat)) (
  some false)) (fun x => Ot a0 a1 s_4 i_5 x)) (fun x => Kj i_5 x)) (
  some (Sum.inr s_4))
theorem Vp (a0 : T_Shape) (a1 : T_Shape) (s_4 : T_Shape) (i_5 : Int) : Le (Pw a0 a1 s_4 i_5) (Hr a0 a1 s_4 i_5) := by
  unfold Pw Hr
  repeat' with_reducible first | (intro _) | apply Ux | apply Le.po | apply Le.cond | apply Le.pg | exact Le.refl _
noncomputable def Pk (a0 : T_Shape) (a1 : T_Shape) (i_1 : Bool) : Option (T_Shape) :=
  cond i_1 (
  some (T_Shape.mk (A8.mk false false false false false false false false) (A8.mk (C128.mk 0 0) (C128.mk 0 0) (C128.mk 0 0) (C128.mk 0 0) (C128.mk 0 0) (C128.mk 0 0) (C128.mk 0 0) (C128.mk 0 0)))) (
  po (
  itF (fun x => Pw a0 a1 x.1 x.2) ((T_Shape.mk (A8.mk false false false false false false false false) (A8.mk (C128.mk 0 0) (C128.mk 0 0) (C128.mk 0 0) (C128.mk 0 0) (C128.mk 0 0) (C128.mk 0 0) (C128.mk 0 0) (C128.mk 0 0))), 0)) (fun x => Nb x))
theorem Vh (a0 : T_Shape) (a1 : T_Shape) (i_1 : Bool) : Le (Pk a0 a1 i_1) (Hu a0 a1 i_1) := by
  unfold Pk Hu
  repeat' with_reducible first | (intro _) | apply Vp | apply Le.po | apply Le.cond | apply Le.lp | exact Le.refl _
noncomputable def Rw (a0 : T_Shape) (a1 : T_Shape) : Option (T_Shape) :=
  po (
  po (Kp a0) fun r2 =>
  cond r2 (
  po (Kp a1) fun r4 =>
  some (!r4)) (
  some true)) (fun x => Pk a0 a1 x)
theorem Xf (a0 : T_Shape) (a1 : T_Shape) : Le (Rw a0 a1) (Jh a0 a1) := by
  unfold Rw Jh
  repeat' with_reducible first | (intro _) | apply Nw | apply Vh | apply Le.po | apply Le.cond | exact Le.refl _
noncomputable def Ls (a0 : T_verify_work) (a1 : Int) (a2 : T_Shape) : Option (T_verify_work) :=
  cond (decide (a1 ≥ (a0.in_.length : Int))) (
  some (T_verify_work.mk a0.p a0.fn a0.l a0.in_ a0.is a0.at_ false)) (
  po (idx a0.is a1) fun x2 =>
  cond x2 (
  po (idx a0.in_ a1) fun x4 =>
  po (Rw x4 a2) fun r5 =>
  pl (a0.in_.set a1.toNat r5) fun y6 =>
  some (T_verify_work.mk a0.p a0.fn a0.l y6 a0.is a0.at_ a0.safe)) (
  po (idx a0.in_ a1) fun x7 =>
  pl (a0.in_.set a1.toNat a2) fun y8 =>
  pl (a0.is.set a1.toNat true) fun y9 =>
  some (T_verify_work.mk a0.p a0.fn a0.l y8 y9 a0.at_ a0.safe)))
theorem Qb (a0 : T_verify_work) (a1 : Int) (a2 : T_Shape) : Le (Ls a0 a1 a2) (Cc a0 a1 a2) := by
  unfold Ls Cc
  repeat' with_reducible first | (intro _) | apply Xf | apply Le.po | apply Le.cond | apply Le.pl | exact Le.refl _
def Rr (a0 : T_verify_work) (a1 : T_Inst) : Option (T_verify_work) := none
theorem Um (a0 : T_verify_work) (a1 : T_Inst) : Le (Rr a0 a1) (Fo a0 a1) := fun _ h => by cases h
def Qq (a0 : T_verify_work) (a1 : T_Inst) : Option (T_verify_work) := none
theorem Sz (a0 : T_verify_work) (a1 : T_Inst) : Le (Qq a0 a1) (Ef a0 a1) := fun _ h => by cases h
noncomputable def Qo (a0 : T_Shape) (a1 : Int) : Option (C128 × Bool) :=
  po (
  po (Kp a0) fun r2 =>
  cond r2 (
  po (Kb a1) fun r4 =>
  cond r4 (
  pg (0 ≤ a1 ∧ a1 < 8) <|
  some (!(a0.Set.get a1.toNat))) (
  some true)) (
  some true)) (fun x => Lj a0 a1 x)
theorem Sy (a0 : T_Shape) (a1 : Int) : Le (Qo a0 a1) (Gz a0 a1) := by
  unfold Qo Gz
  repeat' with_reducible first | (intro _) | apply Nw | apply Le.po | apply Le.cond | apply Le.pg | exact Le.refl _
noncomputable def Pj (a0 : T_Shape) (a1 : T_Inst) (i_1 : Bool) : Option (C128 × Bool) :=
  cond i_1 (
  some ((C128.mk 0 0), false)) (
  cond a1.Reg (
  po (Qo a0 a1.Src) fun r7 =>
  some (r7.1, r7.2)) (
  po (Ez a1.Imm a1.Imm) fun r8 =>
  some (r8, true)))
theorem Vs (a0 : T_Shape) (a1 : T_Inst) (i_1 : Bool) : Le (Pj a0 a1 i_1) (Hn a0 a1 i_1) := by
  unfold Pj Hn
  repeat' with_reducible first | (intro _) | apply Sy | apply Le.po | apply Le.cond | exact Le.refl _
noncomputable def Ry (a0 : T_Shape) (a1 : T_Inst) : Option (C128 × Bool) :=
  po (
  po (Kp a0) fun r2 =>
  cond (!r2) (
  some (!r2)) (
  po (Gu a1) fun r4 =>
  some (!r4))) (fun x => Pj a0 a1 x)
theorem Xe (a0 : T_Shape) (a1 : T_Inst) : Le (Ry a0 a1) (Ji a0 a1) := by
  unfold Ry Ji
  repeat' with_reducible first | (intro _) | apply Nw | apply Vs | apply Le.po | apply Le.cond | exact Le.refl _
noncomputable def Ni (a0 : T_verify_work) (a1 : T_Inst) : Option (C128 × T_verify_work) :=
  po (Ax a0) fun r1 =>
  pg (r1.2 = a0) <|
  po (Ry r1.1 a1) fun r3 =>
  po (
  cond a0.safe (
  some (T_verify_work.mk a0.p a0.fn a0.l a0.in_ a0.is a0.at_ r3.2)) (
  some (T_verify_work.mk a0.p a0.fn a0.l a0.in_ a0.is a0.at_ false))) (fun x => Hw r3 x)
theorem Ug (a0 : T_verify_work) (a1 : T_Inst) : Le (Ni a0 a1) (Bi a0 a1) := by
  unfold Ni Bi
  repeat' with_reducible first | (intro _) | apply Xe | apply Le.po | apply Le.cond | apply Le.pg | exact Le.refl _
noncomputable def Nq (a0 : T_verify_work) (a1 : T_Shape) : Option (T_verify_work) :=
  cond a0.safe (
  po (Ls a0 (IntKind.i64.wrap (a0.at_ + 1)) a1) fun r2 =>
  some r2) (
  some a0)
theorem Sr (a0 : T_verify_work) (a1 : T_Shape) : Le (Nq a0 a1) (Bp a0 a1) := by
  unfold Nq Bp
  repeat' with_reducible first | (intro _) | apply Qb | apply Le.po | apply Le.cond | exact Le.refl _
noncomputable def Ny (a0 : T_verify_work) (a1 : Int) (a2 : C128) : Option (T_verify_work) :=
  po (Ax a0) fun r1 =>
  pg (r1.2 = a0) <|
  po (Qn r1.1 a1 a2) fun r3 =>
  po (Nq a0 r3) fun r4 =>
  some r4
theorem Ul (a0 : T_verify_work) (a1 : Int) (a2 : C128) : Le (Ny a0 a1 a2) (Cg a0 a1 a2) := by
  unfold Ny Cg
  repeat' with_reducible first | (intro _) | apply Uc | apply Sr | apply Le.po | apply Le.pg | exact Le.refl _
noncomputable def Oc (a0 : T_verify_work) (a1 : T_Inst) : Option (T_verify_work) :=
  po (Ni a0 a1) fun r1 =>
  po (Bn r1.2 r1.1 4) fun r2 =>
  po (Ez 0 4294967295) fun r3 =>
  po (Ny r2 a1.Dst r3) fun r4 =>
  some r4
theorem Up (a0 : T_verify_work) (a1 : T_Inst) : Le (Oc a0 a1) (Dn a0 a1) := by
  unfold Oc Dn
  repeat' with_reducible first | (intro _) | apply Ug | apply Ul | apply Le.po | exact Le.refl _
def Qy (a0 : T_verify_work) (a1 : T_Inst) : Option (T_verify_work) := none
theorem Sx (a0 : T_verify_work) (a1 : T_Inst) : Le (Qy a0 a1) (Eo a0 a1) := fun _ h => by cases h
def Qc (a0 : T_verify_work) (a1 : T_Inst) : Option (T_verify_work) := none
theorem Sl (a0 : T_verify_work) (a1 : T_Inst) : Le (Qc a0 a1) (Dy a0 a1) := fun _ h => by cases h
def Qt (a0 : T_verify_work) (a1 : T_Inst) : Option (T_verify_work) := none
theorem Ub (a0 : T_verify_work) (a1 : T_Inst) : Le (Qt a0 a1) (Ek a0 a1) := fun _ h => by cases h
def Qu (a0 : T_verify_work) (a1 : T_Inst) : Option (T_verify_work) := none
theorem Ua (a0 : T_verify_work) (a1 : T_Inst) : Le (Qu a0 a1) (Eu a0 a1) := fun _ h => by cases h
noncomputable def Ob (a0 : T_verify_work) (a1 : Int) : Option (C128 × T_verify_work) :=
  po (Ax a0) fun r1 =>
  pg (r1.2 = a0) <|
  po (Qo r1.1 a1) fun r3 =>
  po (
  cond a0.safe (
  some (T_verify_work.mk a0.p a0.fn a0.l a0.in_ a0.is a0.at_ r3.2)) (
  some (T_verify_work.mk a0.p a0.fn a0.l a0.in_ a0.is a0.at_ false))) (fun x => Fg r3 x)
theorem Uj (a0 : T_verify_work) (a1 : Int) : Le (Ob a0 a1) (Bb a0 a1) := by
  unfold Ob Bb
  repeat' with_reducible first | (intro _) | apply Sy | apply Le.po | apply Le.cond | apply Le.pg | exact Le.refl _
noncomputable def Nh (a0 : T_verify_work) (a1 : T_Inst) : Option (T_verify_work) :=
  po (Ob a0 0) fun r1 =>
  some r1.2
theorem So (a0 : T_verify_work) (a1 : T_Inst) : Le (Nh a0 a1) (Cy a0 a1) := by
  unfold Nh Cy
  repeat' with_reducible first | (intro _) | apply Uj | apply Le.po | exact Le.refl _
noncomputable def Mp (x10 : T_Fn) (s_4 : T_verify_work) (i_5 : Int) : Option ((T_verify_work × Int) ⊕ ((T_verify_work) ⊕ ((List T_Shape) × (List Bool) × Int))) :=
  cond (decide (i_5 < (x10.Code.length : Int))) (
  po (idx x10.Code i_5) fun x22 =>
  po (
  po (idx s_4.is i_5) fun x24 =>
  cond x24 (
  cond (x22.Op == 0) (
  po (Rr (T_verify_work.mk s_4.p s_4.fn s_4.l s_4.in_ s_4.is i_5 s_4.safe) x22) fun r27 =>
  some r27) (
  cond (x22.Op == 1) (
  po (Qq (T_verify_work.mk s_4.p s_4.fn s_4.l s_4.in_ s_4.is i_5 s_4.safe) x22) fun r29 =>
  some r29) (
  cond (x22.Op == 2) (
  po (Oc (T_verify_work.mk s_4.p s_4.fn s_4.l s_4.in_ s_4.is i_5 s_4.safe) x22) fun r31 =>
  some r31) (
  cond (x22.Op == 3) (
  po (Qy (T_verify_work.mk s_4.p s_4.fn s_4.l s_4.in_ s_4.is i_5 s_4.safe) x22) fun r33 =>
  some r33) (
  cond (x22.Op == 4) (
  po (Qc (T_verify_work.mk s_4.p s_4.fn s_4.l s_4.in_ s_4.is i_5 s_4.safe) x22) fun r35 =>
  some r35) (
  cond (x22.Op == 5) (
  po (Qt (T_verify_work.mk s_4.p s_4.fn s_4.l s_4.in_ s_4.is i_5 s_4.safe) x22) fun r37 =>
  some r37) (
  cond (x22.Op == 6) (
  po (Qu (T_verify_work.mk s_4.p s_4.fn s_4.l s_4.in_ s_4.is i_5 s_4.safe) x22) fun r39 =>
  some r39) (
  cond (x22.Op == 7) (
  po (Nh (T_verify_work.mk s_4.p s_4.fn s_4.l s_4.in_ s_4.is i_5 s_4.safe) x22) fun r41 =>
  some r41) (
  none))))))))) (
  some (T_verify_work.mk s_4.p s_4.fn s_4.l s_4.in_ s_4.is i_5 s_4.safe))) (fun x => Gj i_5 x)) (
  some (Sum.inr (Sum.inl s_4)))
theorem Sd (x10 : T_Fn) (s_4 : T_verify_work) (i_5 : Int) : Le (Mp x10 s_4 i_5) (Dt x10 s_4 i_5) := by
  unfold Mp Dt
  repeat' with_reducible first | (intro _) | apply Um | apply Sz | apply Up | apply Sx | apply Sl | apply Ub | apply Ua | apply So | apply Le.po | apply Le.cond | exact Le.refl _
noncomputable def Nl (a0 : T_Prog) (a1 : Int) (a2 : (List T_Schema)) (i_2 : Bool) : Option ((List T_Shape) × (List Bool) × Int) :=
  cond i_2 (
  some ([], [], 3)) (
  po (idx a0.Fns a1) fun x10 =>
  pg (0 ≤ (x10.Code.length : Int) ∧ 136 * (x10.Code.length : Int) ≤ 140737488355328) <|
  pl (List.replicate x10.Code.length (T_Shape.mk (A8.mk false false false false false false false false) (A8.mk (C128.mk 0 0) (C128.mk 0 0) (C128.mk 0 0) (C128.mk 0 0) (C128.mk 0 0) (C128.mk 0 0) (C128.mk 0 0) (C128.mk 0 0)))) fun y12 =>
  pg (0 ≤ (x10.Code.length : Int) ∧ 1 * (x10.Code.length : Int) ≤ 140737488355328) <|
  pl (List.replicate x10.Code.length false) fun y14 =>
  po (Sg x10.Args) fun r15 =>
  po (Ls (T_verify_work.mk a0 a1 a2 y12 y14 0 true) 0 r15.1) fun r16 =>
  po (some ()) fun r18 =>
  pm (
  itF (fun x => Mp x10 x.1 x.2) (r16, 0)) (fun x => Jp x))
theorem Ud (a0 : T_Prog) (a1 : Int) (a2 : (List T_Schema)) (i_2 : Bool) : Le (Nl a0 a1 a2 i_2) (Eh a0 a1 a2 i_2) := by
  unfold Nl Eh
  repeat' with_reducible first | (intro _) | apply Xp | apply Qb | apply Sd | apply Le.po | apply Le.cond | apply Le.pl | apply Le.pg | apply Le.pm | apply Le.lp | exact Le.refl _
noncomputable def Nf (a0 : T_Prog) (a1 : Int) (a2 : (List T_Schema)) (i_1 : Bool) : Option ((List T_Shape) × (List Bool) × Int) :=
  cond i_1 (
  some ([], [], 1)) (
  po (
  cond (decide (a1 < 0)) (
  some (decide (a1 < 0))) (
  some (decide (a1 ≥ (a0.Fns.length : Int))))) (fun x => Nl a0 a1 a2 x))
theorem Sq (a0 : T_Prog) (a1 : Int) (a2 : (List T_Schema)) (i_1 : Bool) : Le (Nf a0 a1 a2 i_1) (Em a0 a1 a2 i_1) := by
  unfold Nf Em
  repeat' with_reducible first | (intro _) | apply Ud | apply Le.po | apply Le.cond | exact Le.refl _
noncomputable def Pi (a0 : T_Prog) (a1 : Int) (a2 : (List T_Schema)) : Option ((List T_Shape) × (List Bool) × Int) :=
  po (
  po (Pq a0) fun r2 =>
  cond (!r2) (
  some (!r2)) (
  cond (decide ((a2.length : Int) > 4)) (
  some (decide ((a2.length : Int) > 4))) (
  po (Bf a2) fun r5 =>
  some r5))) (fun x => Nf a0 a1 a2 x)
theorem Vk (a0 : T_Prog) (a1 : Int) (a2 : (List T_Schema)) : Le (Pi a0 a1 a2) (Fe a0 a1 a2) := by
  unfold Pi Fe
  repeat' with_reducible first | (intro _) | apply Rd | apply Ex | apply Sq | apply Le.po | apply Le.cond | exact Le.refl _
noncomputable def Pn (a0 : T_Prog) (a1 : Int) : Option (Bool) :=
  po (idx a0.Fns a1) fun x1 =>
  pm (
  itF (fun x => Hb a0 x1 x) 0) (fun x => Ki)
theorem Vj (a0 : T_Prog) (a1 : Int) : Le (Pn a0 a1) (Fb a0 a1) := by
  unfold Pn Fb
  repeat' with_reducible first | (intro _) | apply Le.po | apply Le.pm | apply Le.lp | exact Le.refl _
noncomputable def Ng (a0 : T_Prog) (a1 : (List T_Schema)) (i_1 : Int) : Option ((Int) ⊕ ((Unit) ⊕ (Int × Int))) :=
  cond (decide (i_1 < (maxI 1 (a0.Fns.length : Int)))) (
  po (Pi a0 i_1 a1) fun r4 =>
  cond (r4.2.2 != 0) (
  some (Sum.inr (Sum.inr (0, r4.2.2)))) (
  po (Pn a0 i_1) fun r6 =>
  cond (!r6) (
  some (Sum.inr (Sum.inr (0, 8)))) (
  some (Sum.inl (IntKind.i64.wrap (i_1 + 1)))))) (
  some (Sum.inr (Sum.inl ())))
theorem Uf (a0 : T_Prog) (a1 : (List T_Schema)) (i_1 : Int) : Le (Ng a0 a1 i_1) (Eg a0 a1 i_1) := by
  unfold Ng Eg
  repeat' with_reducible first | (intro _) | apply Vk | apply Vj | apply Le.po | apply Le.cond | exact Le.refl _
noncomputable def Bt (a0 : (List T_Inst)) : Option (Int) :=
  pm (
  itF (fun x => Ab a0 x) 0) (fun x => Aq)
theorem Ia (a0 : (List T_Inst)) : Le (Bt a0) (Am a0) := by
  unfold Bt Am
  repeat' with_reducible first | (intro _) | apply Le.pm | apply Le.lp | exact Le.refl _
noncomputable def Bj (a0 : (List T_Inst)) : Option (Bool) :=
  po (Bt a0) fun r1 =>
  some (decide (r1 ≥ 0))
theorem Gw (a0 : (List T_Inst)) : Le (Bj a0) (Ak a0) := by
  unfold Bj Ak
  repeat' with_reducible first | (intro _) | apply Ia | apply Le.po | exact Le.refl _
noncomputable def Rv (a0 : (List T_Inst)) : Option (Bool) :=
  po (
  cond (decide ((a0.length : Int) > 0)) (
  cond (decide ((a0.length : Int) ≤ 64)) (
  po (Bj a0) fun r4 =>
  some (!r4)) (
  some false)) (
  some false)) (fun x => Kg x)
theorem Xb (a0 : (List T_Inst)) : Le (Rv a0) (Jn a0) := by
  unfold Rv Jn
  repeat' with_reducible first | (intro _) | apply Gw | apply Le.po | apply Le.cond | exact Le.refl _
noncomputable def Mn (a0 : (List T_Inst)) (a1 : (List Int)) (w_27 : (AN 65)) (i_28 : Int) : Option (((AN 65) × Int) ⊕ (Int)) :=
  po (
  po (Ka a0 i_28) fun r5 =>
  itF (fun x => Gk a0 w_27 r5 x.1 x.2.1 x.2.2) (0, r5, 0)) (fun x => Gi a0 a1 w_27 i_28 x)
theorem Sj (a0 : (List T_Inst)) (a1 : (List Int)) (w_27 : (AN 65)) (i_28 : Int) : Le (Mn a0 a1 w_27 i_28) (Cp a0 a1 w_27 i_28) := by
  unfold Mn Cp
  repeat' with_reducible first | (intro _) | apply Le.po | apply Le.lp | exact Le.refl _
noncomputable def On (a0 : (List T_Inst)) (a1 : (List Int)) : Option (Int) :=
  po (Rv a0) fun r1 =>
  cond (!r1) (
  some 0) (
  itF (fun x => Mn a0 a1 x.1 x.2) ((AN.zero 65), (IntKind.i64.wrap ((a0.length : Int) - 1))))
theorem Ve (a0 : (List T_Inst)) (a1 : (List Int)) : Le (On a0 a1) (Ee a0 a1) := by
  unfold On Ee
  repeat' with_reducible first | (intro _) | apply Xb | apply Sj | apply Le.po | apply Le.cond | apply Le.lp | exact Le.refl _
noncomputable def Nn (a0 : T_Prog) (l_4 : (List Int)) (u6 : Int) : Option (((List Int)) ⊕ (Unit)) :=
  po (idx a0.Fns u6) fun x8 =>
  po (On x8.Code l_4) fun r9 =>
  po (idx l_4 u6) fun x10 =>
  pl (l_4.set u6.toNat r9) fun y11 =>
  some (Sum.inl y11)
theorem Sw (a0 : T_Prog) (l_4 : (List Int)) (u6 : Int) : Le (Nn a0 l_4 u6) (Cz a0 l_4 u6) := by
  unfold Nn Cz
  repeat' with_reducible first | (intro _) | apply Ve | apply Le.po | apply Le.pl | exact Le.refl _
noncomputable def Px (a0 : T_Prog) : Option (Int) :=
  po (Pq a0) fun r1 =>
  cond (!r1) (
  some 0) (
  pg (0 ≤ (a0.Fns.length : Int) ∧ 8 * (a0.Fns.length : Int) ≤ 140737488355328) <|
  pl (List.replicate a0.Fns.length 0) fun y4 =>
  po (
  pq (itU (fun x u => Nn a0 x u) (backL a0.Fns) y4) (fun x => Ke x) (fun _ => none)) (fun x => He x))
theorem Vi (a0 : T_Prog) : Le (Px a0) (Fj a0) := by
  unfold Px Fj
  repeat' with_reducible first | (intro _) | apply Rd | apply Sw | apply Le.po | apply Le.cond | apply Le.pl | apply Le.pg | apply Le.pq | apply Le.itU | exact Le.refl _
noncomputable def Nj (a0 : T_Prog) : Option (Int × Int) :=
  po (Px a0) fun r8 =>
  cond (decide (r8 > 2000)) (
  some (0, 2)) (
  some (r8, 0))
theorem Uh (a0 : T_Prog) : Le (Nj a0) (Ep a0) := by
  unfold Nj Ep
  repeat' with_reducible first | (intro _) | apply Vi | apply Le.po | apply Le.cond | exact Le.refl _
noncomputable def Ms (a0 : T_Prog) (a1 : (List T_Schema)) : Option (Int × Int) :=
  pm (
  itF (fun x => Ng a0 a1 x) 0) (fun x => Nj a0)
theorem Qv (a0 : T_Prog) (a1 : (List T_Schema)) : Le (Ms a0 a1) (Ci a0 a1) := by
  unfold Ms Ci
  repeat' with_reducible first | (intro _) | apply Uf | apply Uh | apply Le.pm | apply Le.lp | exact Le.refl _
noncomputable def Oq (r1 : (List T_Table)) (s_18 : T_Env) (i_19 : Int) : Option ((T_Env × Int) ⊕ (T_Env)) :=
  cond (decide (i_19 < (r1.length : Int))) (
  po (
  po (idx s_18.T i_19) fun x6 =>
  po (Bl x6.E) fun r7 =>
  po (
  itF (fun x => Jl r7 x.1 x.2.1 x.2.2) (s_18, (T_Table.mk x6.S r7 x6.Next), 0)) (fun x => Ly i_19 x.1 x.2)) (fun x => Lv i_19 x)) (
  some (Sum.inr s_18))
theorem Vb (r1 : (List T_Table)) (s_18 : T_Env) (i_19 : Int) : Le (Oq r1 s_18 i_19) (Gl r1 s_18 i_19) := by
  unfold Oq Gl
  repeat' with_reducible first | (intro _) | apply Le.po | apply Le.cond | apply Le.lp | exact Le.refl _
def Qw (a0 : T_interp_frame) (a0_r : T_interp_run) (a1 : T_Inst) : Option (T_interp_frame × T_interp_run) := none
theorem Su (a0 : T_interp_frame) (a0_r : T_interp_run) (a1 : T_Inst) : Le (Qw a0 a0_r a1) (Er a0 a0_r a1) := fun _ h => by cases h
def Py (a0 : T_interp_frame) (a0_r : T_interp_run) (a1 : T_Inst) : Option (T_interp_frame × T_interp_run) := none
theorem Sn (a0 : T_interp_frame) (a0_r : T_interp_run) (a1 : T_Inst) : Le (Py a0 a0_r a1) (Dx a0 a0_r a1) := fun _ h => by cases h
def Qd (a0 : T_interp_frame) (a0_r : T_interp_run) (a1 : T_Inst) : Option (T_interp_frame × T_interp_run) := none
theorem Sm (a0 : T_interp_frame) (a0_r : T_interp_run) (a1 : T_Inst) : Le (Qd a0 a0_r a1) (Dv a0 a0_r a1) := fun _ h => by cases h
def Qa (pf : T_interp_run → Int → (List UInt32) → Option (UInt32 × T_interp_run)) (a0 : T_interp_frame) (a0_r : T_interp_run) (a1 : T_Inst) : Option (T_interp_frame × T_interp_run) := none
theorem Se (pf pf2 : T_interp_run → Int → (List UInt32) → Option (UInt32 × T_interp_run)) (hpf : ∀ x0 x1 x2, Le (pf x0 x1 x2) (pf2 x0 x1 x2)) (a0 : T_interp_frame) (a0_r : T_interp_run) (a1 : T_Inst) : Le (Qa pf a0 a0_r a1) (Dw pf2 a0 a0_r a1) := fun _ h => by cases h
noncomputable def Jr (pf : T_interp_run → Int → (List UInt32) → Option (UInt32 × T_interp_run)) (x6 : T_Fn) (s_10 : T_interp_run) (s_11 : T_interp_frame) (i_12 : Bool) : Option ((T_interp_run × T_interp_frame) ⊕ (T_interp_run × T_interp_frame)) :=
  cond i_12 (
  cond (s_10.used == s_10.fuel) (
  po (Bc s_10 2) fun r13 =>
  some (Sum.inl (r13, s_11))) (
  cond (decide (s_11.at_ ≥ (x6.Code.length : Int))) (
  po (Bc (T_interp_run.mk s_10.p s_10.e s_10.fuel (IntKind.i64.wrap (s_10.used + 1)) s_10.err) 10) fun r15 =>
  some (Sum.inl (r15, s_11))) (
  po (idx x6.Code s_11.at_) fun x16 =>
  cond (x16.Op == 0) (
  po (Qw s_11 (T_interp_run.mk s_10.p s_10.e s_10.fuel (IntKind.i64.wrap (s_10.used + 1)) s_10.err) x16) fun r18 =>
  some (Sum.inl (r18.2, (T_interp_frame.mk r18.1.fn (IntKind.i64.wrap (r18.1.at_ + 1)) r18.1.regs r18.1.set r18.1.stack r18.1.over)))) (
  cond (x16.Op == 1) (
  po (Py s_11 (T_interp_run.mk s_10.p s_10.e s_10.fuel (IntKind.i64.wrap (s_10.used + 1)) s_10.err) x16) fun r20 =>
  some (Sum.inl (r20.2, (T_interp_frame.mk r20.1.fn (IntKind.i64.wrap (r20.1.at_ + 1)) r20.1.regs r20.1.set r20.1.stack r20.1.over)))) (
  cond (x16.Op == 2) (
  po (Bh s_11 (T_interp_run.mk s_10.p s_10.e s_10.fuel (IntKind.i64.wrap (s_10.used + 1)) s_10.err) x16) fun r22 =>
  some (Sum.inl (r22.2, (T_interp_frame.mk r22.1.fn (IntKind.i64.wrap (r22.1.at_ + 1)) r22.1.regs r22.1.set r22.1.stack r22.1.over)))) (
  cond (x16.Op == 3) (
  po (Bh s_11 (T_interp_run.mk s_10.p s_10.e s_10.fuel (IntKind.i64.wrap (s_10.used + 1)) s_10.err) x16) fun r24 =>
  some (Sum.inl (r24.2, (T_interp_frame.mk r24.1.fn (IntKind.i64.wrap (r24.1.at_ + 1)) r24.1.regs r24.1.set r24.1.stack r24.1.over)))) (
  cond (x16.Op == 4) (
  po (Bh s_11 (T_interp_run.mk s_10.p s_10.e s_10.fuel (IntKind.i64.wrap (s_10.used + 1)) s_10.err) x16) fun r26 =>
  some (Sum.inl (r26.2, (T_interp_frame.mk r26.1.fn (IntKind.i64.wrap (r26.1.at_ + 1)) r26.1.regs r26.1.set r26.1.stack r26.1.over)))) (
  cond (x16.Op == 5) (
  po (Qd s_11 (T_interp_run.mk s_10.p s_10.e s_10.fuel (IntKind.i64.wrap (s_10.used + 1)) s_10.err) x16) fun r28 =>
  some (Sum.inl (r28.2, (T_interp_frame.mk r28.1.fn (IntKind.i64.wrap (r28.1.at_ + 1)) r28.1.regs r28.1.set r28.1.stack r28.1.over)))) (
  cond (x16.Op == 6) (
  po (Qa pf s_11 (T_interp_run.mk s_10.p s_10.e s_10.fuel (IntKind.i64.wrap (s_10.used + 1)) s_10.err) x16) fun r30 =>
  some (Sum.inl (r30.2, (T_interp_frame.mk r30.1.fn (IntKind.i64.wrap (r30.1.at_ + 1)) r30.1.regs r30.1.set r30.1.stack r30.1.over)))) (
  cond (x16.Op == 7) (
  po (Dz s_11 (T_interp_run.mk s_10.p s_10.e s_10.fuel (IntKind.i64.wrap (s_10.used + 1)) s_10.err) x16) fun r32 =>
  some (Sum.inl (r32.2, (T_interp_frame.mk r32.1.fn (IntKind.i64.wrap (r32.1.at_ + 1)) r32.1.regs r32.1.set r32.1.stack r32.1.over)))) (
  none))))))))))) (
  some (Sum.inr (s_10, s_11)))
theorem Re (pf pf2 : T_interp_run → Int → (List UInt32) → Option (UInt32 × T_interp_run)) (hpf : ∀ x0 x1 x2, Le (pf x0 x1 x2) (pf2 x0 x1 x2)) (x6 : T_Fn) (s_10 : T_interp_run) (s_11 : T_interp_frame) (i_12 : Bool) : Le (Jr pf x6 s_10 s_11 i_12) (Ba pf2 x6 s_10 s_11 i_12) := by
  unfold Jr Ba
  repeat' with_reducible first | (intro _) | apply Su | apply Sn | apply Sm | apply Se _ _ hpf | apply hpf | apply Le.po | apply Le.cond | exact Le.refl _
noncomputable def Jq (pf : T_interp_run → Int → (List UInt32) → Option (UInt32 × T_interp_run)) (x6 : T_Fn) (s_10 : T_interp_run) (s_11 : T_interp_frame) : Option ((T_interp_run × T_interp_frame) ⊕ (T_interp_run × T_interp_frame)) :=
  po (
  cond (s_10.err == 0) (
  some (!s_11.over)) (
  some false)) (fun x => Jr pf x6 s_10 s_11 x)
theorem Rj (pf pf2 : T_interp_run → Int → (List UInt32) → Option (UInt32 × T_interp_run)) (hpf : ∀ x0 x1 x2, Le (pf x0 x1 x2) (pf2 x0 x1 x2)) (x6 : T_Fn) (s_10 : T_interp_run) (s_11 : T_interp_frame) : Le (Jq pf x6 s_10 s_11) (Az pf2 x6 s_10 s_11) := by
  unfold Jq Az
  repeat' with_reducible first | (intro _) | apply Re _ _ hpf | apply hpf | apply Le.po | apply Le.cond | exact Le.refl _
noncomputable def Jt (pf : T_interp_run → Int → (List UInt32) → Option (UInt32 × T_interp_run)) (a1 : Int) (s_7 : T_interp_run) (s_8 : T_interp_frame) : Option (UInt32 × T_interp_run) :=
  po (idx s_7.p.Fns a1) fun x6 =>
  po (
  itF (fun x => Jq pf x6 x.1 x.2) (s_7, s_8)) (fun x => Gg x.1 x.2)
theorem Rg (pf pf2 : T_interp_run → Int → (List UInt32) → Option (UInt32 × T_interp_run)) (hpf : ∀ x0 x1 x2, Le (pf x0 x1 x2) (pf2 x0 x1 x2)) (a1 : Int) (s_7 : T_interp_run) (s_8 : T_interp_frame) : Le (Jt pf a1 s_7 s_8) (Ck pf2 a1 s_7 s_8) := by
  unfold Jt Ck
  repeat' with_reducible first | (intro _) | apply Rj _ _ hpf | apply hpf | apply Le.po | apply Le.lp | exact Le.refl _
noncomputable def Lq (pf : T_interp_run → Int → (List UInt32) → Option (UInt32 × T_interp_run)) (a0 : T_interp_run) (a1 : Int) (a2 : (List UInt32)) : Option (UInt32 × T_interp_run) :=
  po (
  itF (fun x => Bk a2 x.1 x.2.1 x.2.2) (a0, (T_interp_frame.mk a1 0 (A8.mk 0 0 0 0 0 0 0 0) (A8.mk false false false false false false false false) (A16.mk 0 0 0 0 0 0 0 0 0 0 0 0 0 0 0 0) false), 0)) (fun x => Jt pf a1 x.1 x.2)
theorem Sb (pf pf2 : T_interp_run → Int → (List UInt32) → Option (UInt32 × T_interp_run)) (hpf : ∀ x0 x1 x2, Le (pf x0 x1 x2) (pf2 x0 x1 x2)) (a0 : T_interp_run) (a1 : Int) (a2 : (List UInt32)) : Le (Lq pf a0 a1 a2) (Cb pf2 a0 a1 a2) := by
  unfold Lq Cb
  repeat' with_reducible first | (intro _) | apply Rg _ _ hpf | apply hpf | apply Le.po | apply Le.lp | exact Le.refl _
noncomputable def Np : Nat → T_interp_run → Int → (List UInt32) → Option (UInt32 × T_interp_run)
  | 0 => fun _ _ _ => none
  | d + 1 => Lq (Np d)
theorem Pd : ∀ (d : Nat) a0 a1 a2, Le (Np d a0 a1 a2) (Bs d a0 a1 a2)
  | 0, _, _, _ => Le.refl _
  | d + 1, a0, a1, a2 => Sb _ _ (Pd d) _ _ _
noncomputable def Oe (a0 : T_Prog) (a1 : Int) (a3 : Int) (a4 : (List UInt32)) (s_58 : T_Env) (i_59 : Bool) : Option (T_Ran) :=
  cond i_59 (
  some (T_Ran.mk 0 s_58 0 3)) (
  po (Np 9 (T_interp_run.mk a0 s_58 a3 0 0) a1 a4) fun r26 =>
  po (
  cond (r26.2.err != 0) (
  some 0) (
  some r26.1)) (fun x => Ks r26 x))
theorem Uq (a0 : T_Prog) (a1 : Int) (a3 : Int) (a4 : (List UInt32)) (s_58 : T_Env) (i_59 : Bool) : Le (Oe a0 a1 a3 a4 s_58 i_59) (Dq a0 a1 a3 a4 s_58 i_59) := by
  unfold Oe Dq
  repeat' with_reducible first | (intro _) | apply Pd | apply Le.po | apply Le.cond | exact Le.refl _
noncomputable def Od (a0 : T_Prog) (a1 : Int) (a3 : Int) (a4 : (List UInt32)) (s_56 : T_Env) (i_57 : Bool) : Option (T_Ran) :=
  cond i_57 (
  some (T_Ran.mk 0 s_56 0 1)) (
  po (
  cond (decide (a1 < 0)) (
  some (s_56, (decide (a1 < 0)))) (
  cond (decide (a1 ≥ (a0.Fns.length : Int))) (
  some (s_56, (decide (a1 ≥ (a0.Fns.length : Int))))) (
  po (idx a0.Fns a1) fun x24 =>
  some (s_56, ((a4.length : Int) != x24.Args))))) (fun x => Oe a0 a1 a3 a4 x.1 x.2))
theorem Us (a0 : T_Prog) (a1 : Int) (a3 : Int) (a4 : (List UInt32)) (s_56 : T_Env) (i_57 : Bool) : Le (Od a0 a1 a3 a4 s_56 i_57) (Dp a0 a1 a3 a4 s_56 i_57) := by
  unfold Od Dp
  repeat' with_reducible first | (intro _) | apply Uq | apply Le.po | apply Le.cond | exact Le.refl _
noncomputable def Ow (a0 : T_Prog) (a1 : Int) (a3 : Int) (a4 : (List UInt32)) (s_47 : T_Env) : Option (T_Ran) :=
  po (
  po (Pq a0) fun r17 =>
  cond (!r17) (
  some (s_47, (!r17))) (
  cond (decide (a3 < 0)) (
  some (s_47, (decide (a3 < 0)))) (
  some (s_47, (decide (a3 > 100000)))))) (fun x => Od a0 a1 a3 a4 x.1 x.2)
theorem Uw (a0 : T_Prog) (a1 : Int) (a3 : Int) (a4 : (List UInt32)) (s_47 : T_Env) : Le (Ow a0 a1 a3 a4 s_47) (Ed a0 a1 a3 a4 s_47) := by
  unfold Ow Ed
  repeat' with_reducible first | (intro _) | apply Rd | apply Us | apply Le.po | apply Le.cond | exact Le.refl _
noncomputable def Ro (a0 : T_Prog) (a1 : Int) (a2 : T_Env) (a3 : Int) (a4 : (List UInt32)) : Option (T_Ran) :=
  po (Be a2.T) fun r1 =>
  po (
  itF (fun x => Oq r1 x.1 x.2) ((T_Env.mk a2.Ctx r1 a2.Seed), 0)) (fun x => Ow a0 a1 a3 a4 x)
theorem Wn (a0 : T_Prog) (a1 : Int) (a2 : T_Env) (a3 : Int) (a4 : (List UInt32)) : Le (Ro a0 a1 a2 a3 a4) (Dd a0 a1 a2 a3 a4) := by
  unfold Ro Dd
  repeat' with_reducible first | (intro _) | apply Vb | apply Uw | apply Le.po | apply Le.lp | exact Le.refl _
noncomputable def Rx (a0 : T_Prog) (a1 : T_Env) (a2 : Int) : Option (T_Ran) :=
  po (Ro a0 0 a1 a2 []) fun r1 =>
  some r1
theorem Wz (a0 : T_Prog) (a1 : T_Env) (a2 : Int) : Le (Rx a0 a1 a2) (Fd a0 a1 a2) := by
  unfold Rx Fd
  repeat' with_reducible first | (intro _) | apply Wn | apply Le.po | exact Le.refl _
noncomputable def Qj (a1 : T_Prog) (a2 : UInt32) (a3 : (List UInt32)) (i_6 : Int) (l_7 : (List UInt32)) (i_8 : UInt32) : Option (((List UInt32) × Int) ⊕ (((List UInt32)) ⊕ ((List UInt32) × Int))) :=
  po (a3[0]?) fun x9 =>
  pl ((UInt32.ofInt i_6)) fun c10 =>
  po (Rx a1 (T_Env.mk (A4.mk a2 c10 i_8 x9) [] 0) 2000) fun r11 =>
  po (
  cond (r11.Err != 0) (
  some (l_7, true)) (
  some (l_7, ((r11.Ret.toNat : Int) == 4294967295)))) (fun x => Kh i_6 r11 x.1 x.2)
theorem We (a1 : T_Prog) (a2 : UInt32) (a3 : (List UInt32)) (i_6 : Int) (l_7 : (List UInt32)) (i_8 : UInt32) : Le (Qj a1 a2 a3 i_6 l_7 i_8) (Jc a1 a2 a3 i_6 l_7 i_8) := by
  unfold Qj Jc
  repeat' with_reducible first | (intro _) | apply Wz | apply Le.po | apply Le.cond | apply Le.pl | exact Le.refl _
noncomputable def Qg (a0 : T_Schema) (a1 : T_Prog) (a2 : UInt32) (a3 : (List UInt32)) (l_5 : (List UInt32)) (i_6 : Int) : Option (((List UInt32) × Int) ⊕ (((List UInt32)) ⊕ ((List UInt32) × Int))) :=
  cond (decide (i_6 < a0.Words)) (
  po (
  cond (decide (i_6 < (a3.length : Int))) (
  po (idx a3 i_6) fun x8 =>
  some (l_5, x8)) (
  some (l_5, 0))) (fun x => Qj a1 a2 a3 i_6 x.1 x.2)) (
  some (Sum.inr (Sum.inl l_5)))
theorem Vy (a0 : T_Schema) (a1 : T_Prog) (a2 : UInt32) (a3 : (List UInt32)) (l_5 : (List UInt32)) (i_6 : Int) : Le (Qg a0 a1 a2 a3 l_5 i_6) (Jd a0 a1 a2 a3 l_5 i_6) := by
  unfold Qg Jd
  repeat' with_reducible first | (intro _) | apply We | apply Le.po | apply Le.cond | exact Le.refl _
noncomputable def Qp (a0 : T_Schema) (a1 : T_Prog) (a2 : UInt32) (a3 : (List UInt32)) : Option ((List UInt32) × Int) :=
  pg (0 ≤ a0.Words ∧ 4 * a0.Words ≤ 140737488355328) <|
  pl (List.replicate a0.Words.toNat 0) fun y2 =>
  pm (
  itF (fun x => Qg a0 a1 a2 a3 x.1 x.2) (y2, 0)) (fun x => Nr x)
theorem Ss (a0 : T_Schema) (a1 : T_Prog) (a2 : UInt32) (a3 : (List UInt32)) : Le (Qp a0 a1 a2 a3) (Dc a0 a1 a2 a3) := by
  unfold Qp Dc
  repeat' with_reducible first | (intro _) | apply Vy | apply Le.pl | apply Le.pg | apply Le.pm | apply Le.lp | exact Le.refl _
noncomputable def Qf (a0 : T_Schema) (a1 : T_Prog) (a2 : UInt32) (a3 : (List UInt32)) (i_1 : Bool) : Option ((List UInt32) × Int) :=
  cond i_1 (
  some ([], 1)) (
  po (Ms a1 []) fun r5 =>
  cond (r5.2 != 0) (
  some ([], r5.2)) (
  po (Qp a0 a1 a2 a3) fun r7 =>
  some (r7.1, r7.2)))
theorem Vz (a0 : T_Schema) (a1 : T_Prog) (a2 : UInt32) (a3 : (List UInt32)) (i_1 : Bool) : Le (Qf a0 a1 a2 a3 i_1) (Jb a0 a1 a2 a3 i_1) := by
  unfold Qf Jb
  repeat' with_reducible first | (intro _) | apply Qv | apply Ss | apply Le.po | apply Le.cond | exact Le.refl _
noncomputable def Si (a0 : T_Schema) (a1 : T_Prog) (a2 : UInt32) (a3 : (List UInt32)) : Option ((List UInt32) × Int) :=
  po (
  po (Bw a0) fun r2 =>
  cond r2 (
  some ((a3.length : Int) == 0)) (
  some true)) (fun x => Qf a0 a1 a2 a3 x)
theorem Xo (a0 : T_Schema) (a1 : T_Prog) (a2 : UInt32) (a3 : (List UInt32)) : Le (Si a0 a1 a2 a3) (Ir a0 a1 a2 a3) := by
  unfold Si Ir
  repeat' with_reducible first | (intro _) | apply Vz | apply Le.po | apply Le.cond | exact Le.refl _
noncomputable def Pg (a2 : T_Prog) (i_1 : Bool) : Option (Int) :=
  cond i_1 (
  some 9) (
  po (Ms a2 []) fun r6 =>
  some r6.2)
theorem Vn (a2 : T_Prog) (i_1 : Bool) : Le (Pg a2 i_1) (Dr a2 i_1) := by
  unfold Pg Dr
  repeat' with_reducible first | (intro _) | apply Qv | apply Le.po | apply Le.cond | exact Le.refl _
noncomputable def Rt (a0 : T_Schema) (a1 : T_Schema) (a2 : T_Prog) : Option (Int) :=
  po (
  cond (a0.Kind == 3) (
  some true) (
  po (Jv a0 a1) fun r3 =>
  cond (r3 != 1) (
  some true) (
  some (decide (a1.Cap < a0.Cap))))) (fun x => Pg a2 x)
theorem Xc (a0 : T_Schema) (a1 : T_Schema) (a2 : T_Prog) : Le (Rt a0 a1 a2) (Ff a0 a1 a2) := by
  unfold Rt Ff
  repeat' with_reducible first | (intro _) | apply Vn | apply Le.po | apply Le.cond | exact Le.refl _
noncomputable def Sf (a0 : T_Table) (a1 : T_Schema) (a2 : T_Prog) : Option (Int) :=
  po (Kl a0) fun r1 =>
  cond (!r1) (
  some 1) (
  po (Rt a0.S a1 a2) fun r3 =>
  some r3)
theorem Xj (a0 : T_Table) (a1 : T_Schema) (a2 : T_Prog) : Le (Sf a0 a1 a2) (Iu a0 a1 a2) := by
  unfold Sf Iu
  repeat' with_reducible first | (intro _) | apply Xc | apply Le.po | apply Le.cond | exact Le.refl _
noncomputable def Ou (a0 : T_Table) (a1 : T_Schema) (a2 : T_Prog) (s_1 : T_Table) (i_2 : Int) : Option ((T_Table × Int) ⊕ ((T_Table) ⊕ (T_Table × Int))) :=
  cond (decide (i_2 < (a0.E.length : Int))) (
  po (idx a0.E i_2) fun x9 =>
  po (Qp a1 a2 x9.Key x9.V) fun r10 =>
  cond (r10.2 != 0) (
  some (Sum.inr (Sum.inr ((T_Table.mk (T_Schema.mk 0 0 0 0) [] 0), r10.2)))) (
  pg ((s_1.E.length + 1) * 32 ≤ 140737488355328) <|
  pl (s_1.E ++ ([(T_Entry.mk x9.Key r10.1)])) fun y13 =>
  some (Sum.inl ((T_Table.mk s_1.S y13 s_1.Next), (IntKind.i64.wrap (i_2 + 1)))))) (
  some (Sum.inr (Sum.inl s_1)))
theorem Va (a0 : T_Table) (a1 : T_Schema) (a2 : T_Prog) (s_1 : T_Table) (i_2 : Int) : Le (Ou a0 a1 a2 s_1 i_2) (Ec a0 a1 a2 s_1 i_2) := by
  unfold Ou Ec
  repeat' with_reducible first | (intro _) | apply Ss | apply Le.po | apply Le.cond | apply Le.pl | apply Le.pg | exact Le.refl _
noncomputable def Rm (a0 : T_Table) (a1 : T_Schema) (a2 : T_Prog) : Option (T_Table × Int) :=
  po (Sf a0 a1 a2) fun r1 =>
  cond (r1 != 0) (
  some ((T_Table.mk (T_Schema.mk 0 0 0 0) [] 0), r1)) (
  po (Mm a1) fun r3 =>
  pg (0 ≤ (minI (a0.E.length : Int) (r3.1.E.length : Int)) ∧ (minI (a0.E.length : Int) (r3.1.E.length : Int)) ≤ (r3.1.E.length : Int) ∧ (r3.1.E.length : Int) ≤ (r3.1.E.length : Int)) <|
  pl ((r3.1.E.drop ((minI (a0.E.length : Int) (r3.1.E.length : Int)).toNat))) fun y5 =>
  pm (
  itF (fun x => Ou a0 a1 a2 x.1 x.2) ((T_Table.mk r3.1.S [] r3.1.Next), 0)) (fun x => Jf y5 x))
theorem Wy (a0 : T_Table) (a1 : T_Schema) (a2 : T_Prog) : Le (Rm a0 a1 a2) (De a0 a1 a2) := by
  unfold Rm De
  repeat' with_reducible first | (intro _) | apply Xj | apply Va | apply Le.po | apply Le.cond | apply Le.pl | apply Le.pg | apply Le.pm | apply Le.lp | exact Le.refl _
noncomputable def Ik (a0 : (List UInt32)) (a1 : (List UInt32)) : Option (Bool) :=
  cond ((a0.length : Int) != (a1.length : Int)) (
  some false) (
  pm (
  itF (fun x => Cl a0 a1 x) 0) (fun x => Gf))
theorem Rz (a0 : (List UInt32)) (a1 : (List UInt32)) : Le (Ik a0 a1) (Bo a0 a1) := by
  unfold Ik Bo
  repeat' with_reducible first | (intro _) | apply Le.cond | apply Le.pm | apply Le.lp | exact Le.refl _
noncomputable def Ps : Option (Bool) :=
  po (Si (T_Schema.mk 1 1 3 0) (T_Prog.mk ([(T_Fn.mk 0 ([(T_Inst.mk 2 0 0 0 false 0 2), (T_Inst.mk 7 0 0 0 false 0 0)]))])) 7 ([4, 5])) fun r1 =>
  po (Rm (T_Table.mk (T_Schema.mk 1 1 1 0) ([(T_Entry.mk 9 ([6]))]) 0) (T_Schema.mk 1 2 2 1) (T_Prog.mk ([(T_Fn.mk 0 ([(T_Inst.mk 2 0 0 0 false 0 2), (T_Inst.mk 7 0 0 0 false 0 0)]))]))) fun r2 =>
  po (
  cond (r1.2 == 0) (
  po (Ik r1.1 ([4, 5, 0])) fun r5 =>
  cond r5 (
  cond (r2.2 == 0) (
  cond ((r2.1.E.length : Int) == 1) (
  po (r2.1.E[0]?) fun x9 =>
  po (Ik x9.V ([6, 0])) fun r10 =>
  some r10) (
  some false)) (
  some false)) (
  some false)) (
  some false)) (fun x => Ga x)
theorem Sa : Le (Ps) (Dg) := by
  unfold Ps Dg
  repeat' with_reducible first | (intro _) | apply Xo | apply Wy | apply Rz | apply Le.po | apply Le.cond | exact Le.refl _
theorem awake18 : Dg = some true := Sa _ (by kernel_rfl)
noncomputable def Hs (a0 : T_Prog) (i_2 : Bool) (i_3 : Int) (i_4 : Bool) : Option ((Bool × Int) ⊕ (Bool)) :=
  cond i_4 (
  po (idx a0.Fns i_3) fun x6 =>
  some (Sum.inl ((decide ((x6.Code.length : Int) ≤ 80)), (IntKind.i64.wrap (i_3 + 1))))) (
  some (Sum.inr i_2))
noncomputable def En (a0 : T_Prog) (i_2 : Bool) (i_3 : Int) : Option ((Bool × Int) ⊕ (Bool)) :=
  po (
  cond (decide (i_3 < (a0.Fns.length : Int))) (
  some i_2) (
  some false)) (fun x => Hs a0 i_2 i_3 x)
noncomputable def Hx (i_7 : Bool) : Option (Bool) :=
  some i_7
noncomputable def Hi (a0 : T_Prog) : Option (Bool) :=
  po (
  lpU (fun x => En a0 x.1 x.2) ((decide ((a0.Fns.length : Int) ≤ 12)), 0)) (fun x => Hx x)
theorem Nk {a0 : T_Prog} {r : Bool} (h : Hi a0 = some r) : Ctr prog 52 [.agg (enc_Prog a0)] [] (rb r) [] := by
 unfold Hi at h;refine Ctr.ofW tabOk func52 rfl call52 0 _ ntmps52 [.tmp 2] rfl rfl rfl (fun B => ?_);refine vs [1] (fun K hK => ?_);push_cast;apply hK;clear hK K;refine vs [1,3] (fun K hK => ?_);push_cast;apply hK;clear hK K;refine vj h (fun x => ⟨[(3,rb x)],[],36,28,0⟩) (fun v1 h hk1 => ?_) ?_
 ·refine vs [1,3,4] (fun K hK => ?_);push_cast;apply hK;clear hK K;refine VC.block ?_;refine VC.loopP h (fun x => ⟨[(1,.ref 0 0),(3,rb x.1),(4,ri x.2)],[(0,.box 56 [.sl false (a0.Fns.map enc_Fn)])],28,28,0⟩) ?_ ?_
  ·exact sl (by push_cast)
  rintro ⟨i_2,i_3⟩ b2 (h : En a0 i_2 i_3 = some b2) hf2;(try push_cast);unfold En at h;refine VC.seq ?_;refine vj h (fun x => ⟨[(1,.ref 0 0),(3,rb i_2),(4,ri i_3),(16,rb x)],[(0,.box 56 [.sl false (a0.Fns.map enc_Fn)])],36,28,0⟩) (fun v3 h hk3 => ?_) ?_
  ·rcases Bool.eq_false_or_eq_true (decide (i_3 < (a0.Fns.length : Int))) with hb4 | hb4
   ·replace h := cond_yes hb4 h;refine vlG [some 9,some 10,some 11,some 12,some 13,some 14,some 15,some 16] (fun K hK => ?_);push_cast [hb4];(repeat refine ao ?_);apply hK;clear hK K;refine ar h hk3 ?_;exact sl (by push_cast [hb4])
   ·replace h := cond_no hb4 h;refine vlG [some 9,some 10,some 11,some 12,some 13,some 14,some 15,some 16] (fun K hK => ?_);push_cast [hb4];(repeat refine ao ?_);apply hK;clear hK K;refine ar h hk3 ?_;exact sl (by push_cast [hb4])
  ·rintro i_4 (h : Hs a0 i_2 i_3 i_4 = some b2);(try push_cast);unfold Hs at h;refine vc h (fun hb5 h => ?_) (fun hb5 h => ?_)
   ·refine VC.skip ?_;refine VC.seq ?_;refine VC.block ?_;obtain ⟨x6,hx6,h⟩ := po_some h;replace hx6 := idx_some4 hx6;refine vl (fun K hK => ?_);push_cast [hx6];(repeat refine ao ?_);apply hK;clear hK K;refine vl (fun K hK => ?_);push_cast;apply hK;clear hK K;refine bk h ?_;exact sl (by push_cast [hb5])
   ·refine VC.exit ?_;replace h := ol h hf2;refine ar h hk1 ?_;exact sl (by push_cast [hb5])
 ·rintro i_7 (h : Hx i_7 = some r);(try push_cast);unfold Hx at h;refine vs [2] (fun K hK => ?_);push_cast;apply hK;clear hK K;refine VC.ret ?_;replace h := Option.some.inj h;subst h;exact en (by push_cast)
noncomputable def La (i_1 : Bool) : Option (Bool) :=
  some i_1
noncomputable def Hg (a0 : T_Prog) (a1 : (List T_Table)) (a2 : (List UInt32)) : Option (Bool) :=
  po (
  po (Hi a0) fun r2 =>
  cond r2 (
  po (Hd a1) fun r4 =>
  cond r4 (
  some (decide ((a2.length : Int) ≤ 40))) (
  some false)) (
  some false)) (fun x => La x)
theorem Vw {a0 : T_Prog} {a1 : (List T_Table)} {a2 : (List UInt32)} {r : Bool} (h : Hg a0 a1 a2 = some r) : Ctr prog 20 [.agg (enc_Prog a0), .sl false (a1.map enc_Table), .sl false (a2.map encU32)] [] (rb r) [] := by
 unfold Hg at h;refine Ctr.ofW tabOk func20 rfl call20 0 _ ntmps20 [.tmp 6] rfl rfl rfl (fun B => ?_);refine vs [1,2,3] (fun K hK => ?_);push_cast;apply hK;clear hK K;refine vj h (fun x => ⟨[(6,rb x)],[],14,18,0⟩) (fun v1 h hk1 => ?_) ?_
 ·obtain ⟨r2,hr2,h⟩ := po_some h;rcases Bool.eq_false_or_eq_true r2 with hb3 | hb3
  ·replace h := cond_yes hb3 h;obtain ⟨r4,hr4,h⟩ := po_some h;rcases Bool.eq_false_or_eq_true r4 with hb5 | hb5
   ·replace h := cond_yes hb5 h;refine vlG [some 7,some 8,some 9,some 10,some 11,some 12,some 13,some 14,some 15,some 16,some 17,some 6] (fun K hK => ?_);refine runOps_cut 8 (fun K2 hK2 => ?_);push_cast [hb3,hb5];(repeat refine ao ?_);refine cp (Nk hr2) ?_;push_cast [hb3,hb5];(repeat refine ao ?_);refine cp (Qs hr4) ?_;push_cast [hb3,hb5];(repeat refine ao ?_);refine hK2 _ _ ?_;clear hK2 K2;simp only [List.drop_succ_cons,List.drop_zero];push_cast [hb3,hb5];(repeat refine ao ?_);apply hK;clear hK K;refine ar h hk1 ?_;exact sl (by push_cast [hb3,hb5])
   ·replace h := cond_no hb5 h;refine vlG [some 7,some 8,some 9,some 10,some 11,some 12,some 13,some 14,some 15,some 16,some 17,some 6] (fun K hK => ?_);refine runOps_cut 8 (fun K2 hK2 => ?_);push_cast [hb3,hb5];(repeat refine ao ?_);refine cp (Nk hr2) ?_;push_cast [hb3,hb5];(repeat refine ao ?_);refine cp (Qs hr4) ?_;push_cast [hb3,hb5];(repeat refine ao ?_);refine hK2 _ _ ?_;clear hK2 K2;simp only [List.drop_succ_cons,List.drop_zero];push_cast [hb3,hb5];(repeat refine ao ?_);apply hK;clear hK K;refine ar h hk1 ?_;exact sl (by push_cast [hb3,hb5])
  ·replace h := cond_no hb3 h;refine vlG [some 7,some 8,some 9,some 10,some 11,some 12,some 13,some 14,some 15,some 16,some 17,some 6] (fun K hK => ?_);refine runOps_cut 8 (fun K2 hK2 => ?_);push_cast [hb3];(repeat refine ao ?_);refine cp (Nk hr2) ?_;push_cast [hb3];(repeat refine ao ?_);refine hK2 _ _ ?_;clear hK2 K2;simp only [List.drop_succ_cons,List.drop_zero];push_cast [hb3];(repeat refine ao ?_);apply hK;clear hK K;refine ar h hk1 ?_;exact sl (by push_cast [hb3])
 ·rintro i_1 (h : La i_1 = some r);(try push_cast);unfold La at h;refine VC.ret ?_;replace h := Option.some.inj h;subst h;exact en (by push_cast)
end Go.Proofs.YtcffmheeofjifaaGreat
