/- Packed texts: QinterpCall, QinterpRun, Sk4, Qboundsspantold, Qboundsfit, Qboundsword, QboundsMay, Qboundsof, Qboundsrules1, Qboundsrules10, Qboundsrules11, Qboundsrules2, Qboundsrules3, Qboundsrules4, Qboundsrules5, Qboundsrules6, Qboundsrules7, Qboundspower, Qboundsrules8, Qboundsrules9, Qboundsrules, QboundsAlu, QboundsCut, QboundsJoin, QboundsEnds, Gp, QshapeMay, QboundsOf, Qshapeall, Qshapein, QshapePut, QshapeBack, QshapeGet, QshapeWord, QshapeJoin, QshapeNew, Sk5, Uarenaend, It, Qcoursemay1, QslicesIndexFuncapiInstapiInstcoursemay1, QslicesContainsFuncapiInstapiInstcoursemay1, Qcoursemay, Qcoursenext, QcourseLongest, QcourseBudget, Qverifyworkto, QverifyShapes1, Qverifyworkhere, Qverifyworkget, Qverifyworkthen, Qverifyworkput, Qverifyworkword, Qverifyworkalu, Qverifyworkhanded, Qverifyworkcall, Qverifyworkwithin, Qverifyworkctx, Qverifyworkexit, Qverifyworkhelp, Qverifyworkjump1. -/
import Derived.Test.YtcffmheeofjifaaGreatSg4
set_option linter.unusedVariables false
set_option linter.unusedSimpArgs false
set_option maxHeartbeats 4000000
set_option maxRecDepth 100000
namespace Go.Proofs.YtcffmheeofjifaaGreat
open Go Go.RowKit Go.Proofs.Tryz
noncomputable def Mu (r7 : (List Bd)) (s_48 : Bf) (s_49 : Ap) (i_50 : Int) : Option ((Bf × Ap × Int) ⊕ (Bf × Ap)):=
  cond (decide (i_50 < (r7.length : Int))) (
  po (idx s_49.E i_50) fun x11=>
  po (Cw x11.V) fun r12=>
  pl (s_49.E.set i_50.toNat (Bd.mk x11.Key r12)) fun y13=>
  some (Sum.inl (s_48,(Ap.mk s_49.S y13 s_49.Next),(IntKind.i64.wrap (i_50 + 1))))) (
  some (Sum.inr (s_48,s_49)))
noncomputable def Pn (i_19 : Int) (s_54 : Bf) (s_55 : Ap) : Option (Bf):=
  po (idx s_54.T i_19) fun x14=>
  pl (s_54.T.set i_19.toNat s_55) fun y15=>
  some (Bf.mk s_54.Ctx y15 s_54.Seed)
noncomputable def Pv (i_19 : Int) (s_28 : Bf) : Option ((Bf × Int) ⊕ (Bf)):=
  some (Sum.inl (s_28,(IntKind.i64.wrap (i_19 + 1))))
noncomputable def Js (r1 : (List Ap)) (s_18 : Bf) (i_19 : Int) : Option ((Bf × Int) ⊕ (Bf)):=
  cond (decide (i_19 < (r1.length : Int))) (
  po (
  po (idx s_18.T i_19) fun x6=>
  po (Cn x6.E) fun r7=>
  po (
  lpU (fun x=>Mu r7 x.1 x.2.1 x.2.2) (s_18,(Ap.mk x6.S r7 x6.Next),0)) (fun x=>Pn i_19 x.1 x.2)) (fun x=>Pv i_19 x)) (
  some (Sum.inr s_18))
noncomputable def Oh (r26 : UInt32 × Ae) (i_60 : UInt32) : Option (Jk):=
  some (Jk.mk i_60 r26.2.e r26.2.used r26.2.err)
noncomputable def Hd (a0 : Aq) (a1 : Int) (a3 : Int) (a4 : (List UInt32)) (s_58 : Bf) (i_59 : Bool) : Option (Jk):=
  cond i_59 (
  some (Jk.mk 0 s_58 0 3)) (
  po (Dw 9 (Ae.mk a0 s_58 a3 0 0) a1 a4) fun r26=>
  po (
  cond (r26.2.err != 0) (
  some 0) (
  some r26.1)) (fun x=>Oh r26 x))
noncomputable def Gz (a0 : Aq) (a1 : Int) (a3 : Int) (a4 : (List UInt32)) (s_56 : Bf) (i_57 : Bool) : Option (Jk):=
  cond i_57 (
  some (Jk.mk 0 s_56 0 1)) (
  po (
  cond (decide (a1 < 0)) (
  some (s_56,(decide (a1 < 0)))) (
  cond (decide (a1 ≥ (a0.Fns.length : Int))) (
  some (s_56,(decide (a1 ≥ (a0.Fns.length : Int))))) (
  po (idx a0.Fns a1) fun x24=>
  some (s_56,((a4.length : Int) != x24.Args))))) (fun x=>Hd a0 a1 a3 a4 x.1 x.2))
noncomputable def Hs (a0 : Aq) (a1 : Int) (a3 : Int) (a4 : (List UInt32)) (s_47 : Bf) : Option (Jk):=
  po (
  po (Iv a0) fun r17=>
  cond (!r17) (
  some (s_47,(!r17))) (
  cond (decide (a3 < 0)) (
  some (s_47,(decide (a3 < 0)))) (
  some (s_47,(decide (a3 > 100000)))))) (fun x=>Gz a0 a1 a3 a4 x.1 x.2)
noncomputable def Gi (a0 : Aq) (a1 : Int) (a2 : Bf) (a3 : Int) (a4 : (List UInt32)) : Option (Jk):=
  po (Df a2.T) fun r1=>
  po (
  lpU (fun x=>Js r1 x.1 x.2) ((Bf.mk a2.Ctx r1 a2.Seed),0)) (fun x=>Hs a0 a1 a3 a4 x)
theorem Fq0 {a0 : Aq} {a1 : Int} {a2 : Bf} {a3 : Int} {a4 : (List UInt32)} {r : Jk} (h : Gi a0 a1 a2 a3 a4 = some r) : Ctr prog 125 [.agg (Ez a0),ri a1,.agg (Uh a2),ri a3,.sl false (a4.map Ax)] [] (.agg (Xc r)) []:=by
 unfold Gi at h;refine Ctr.ofW Ba func125 rfl call125 0 _ ntmps125 [.cell 10 162] rfl rfl rfl (fun B=>?_);refine vs [1,3,4,5,7,10] fun _ k=>?_;push_cast;apply k;clear k;obtain ⟨r1,hr1,h⟩:=Aa h;refine vs [1,3,4,5,7,10] fun _ k=>?_;push_cast;refine ch (H:=[]) (Ctr.loH (Ctr.ren (Bij.swp 0 5 Bij.id) (Lo hr1) (by push_cast) (by push_cast))) (by push_cast) ?_;push_cast;apply k;clear k;refine VC.sub (s':=⟨[(1,ri a1),(3,ri a3),(4,.sl false (a4.map Ax)),(5,.ref 0 0),(7,.ref 1 0),(10,.ref 2 0)],[(0,.box 56 [.sl false (a0.Fns.map Al)]),(1,.box 29 [ru a2.Ctx.a0,ru a2.Ctx.a1,ru a2.Ctx.a2,ru a2.Ctx.a3,.row 5 0 6 0 r1.length,ru a2.Seed]),(2,.box 162 [.raw (.int .u32 0),.raw (.int .u32 0),.raw (.int .u32 0),.raw (.int .u32 0),.raw (.int .u32 0),.sl true [],.raw (.int .u32 0),ri 0,ri 0]),(5,.row 53 6 0 (r1.map Bb))],8,114,0⟩) (so (by push_cast)) ?_;refine vj h (fun x=>⟨[(1,ri a1),(3,ri a3),(4,.sl false (a4.map Ax)),(5,.ref 0 0),(7,.ref 1 0),(10,.ref 2 0)],[(0,.box 56 [.sl false (a0.Fns.map Al)]),(1,.box 29 [ru x.Ctx.a0,ru x.Ctx.a1,ru x.Ctx.a2,ru x.Ctx.a3,.row 5 0 6 0 x.T.length,ru x.Seed]),(2,.box 162 [.raw (.int .u32 0),.raw (.int .u32 0),.raw (.int .u32 0),.raw (.int .u32 0),.raw (.int .u32 0),.sl true [],.raw (.int .u32 0),ri 0,ri 0]),(5,.row 53 6 0 (x.T.map Bb))],56,114,0⟩) (fun v2 h hk2=>?_) ?_
 ·refine vs [1,3,4,5,7,10,21,22,23] fun _ k=>?_;push_cast;apply k;clear k;refine VC.block ?_;refine VC.loopP h (fun x=>⟨[(1,ri a1),(3,ri a3),(4,.sl false (a4.map Ax)),(5,.ref 0 0),(7,.ref 1 0),(10,.ref 2 0),(21,.row 5 0 6 0 x.1.T.length),(22,ri (r1.length : Int)),(23,ri x.2)],[(0,.box 56 [.sl false (a0.Fns.map Al)]),(1,.box 29 [ru x.1.Ctx.a0,ru x.1.Ctx.a1,ru x.1.Ctx.a2,ru x.1.Ctx.a3,.row 5 0 6 0 x.1.T.length,ru x.1.Seed]),(2,.box 162 [.raw (.int .u32 0),.raw (.int .u32 0),.raw (.int .u32 0),.raw (.int .u32 0),.raw (.int .u32 0),.sl true [],.raw (.int .u32 0),ri 0,ri 0]),(5,.row 53 6 0 (x.1.T.map Bb))],55,114,0⟩) ?_ ?_
  ·exact so (by push_cast)
  rintro ⟨s_18,i_19⟩ b3 (h : Js r1 s_18 i_19 = some b3) hf3;(try push_cast);unfold Js at h;refine vs [1,3,4,5,7,10,21,22,23,24] fun _ k=>?_;push_cast;apply k;clear k;refine VC.seq ?_;refine vc h (fun hb4 h=>?_) (fun hb4 h=>?_)
  ·refine VC.skip ?_;refine vj h (fun x=>⟨[(1,ri a1),(3,ri a3),(4,.sl false (a4.map Ax)),(5,.ref 0 0),(7,.ref 1 0),(10,.ref 2 0),(21,.row 5 0 6 0 x.T.length),(22,ri (r1.length : Int)),(23,ri i_19)],[(0,.box 56 [.sl false (a0.Fns.map Al)]),(1,.box 29 [ru x.Ctx.a0,ru x.Ctx.a1,ru x.Ctx.a2,ru x.Ctx.a3,.row 5 0 6 0 x.T.length,ru x.Seed]),(2,.box 162 [.raw (.int .u32 0),.raw (.int .u32 0),.raw (.int .u32 0),.raw (.int .u32 0),.raw (.int .u32 0),.sl true [],.raw (.int .u32 0),ri 0,ri 0]),(5,.row 53 6 0 (x.T.map Bb))],96,114,0⟩) (fun v5 h hk5=>?_) ?_
   ·refine VC.block ?_;obtain ⟨x6,hx6,h⟩:=Aa h;replace hx6:=Bh hx6;refine vs [1,3,4,5,7,10,11,12,21,22,23] fun _ k=>?_;push_cast [hx6];(repeat refine ao ?_);apply k;clear k;obtain ⟨r7,hr7,h⟩:=Aa h;refine vs [1,3,4,5,7,10,11,12,21,22,23] fun _ k=>?_;push_cast;refine ch (H:=[]) (Ctr.loH (Ctr.ren (Bij.swp 0 64 Bij.id) (Hc hr7) (by push_cast) (by push_cast))) (by push_cast) ?_;push_cast;apply k;clear k;refine VC.sub (s':=⟨[(1,ri a1),(3,ri a3),(4,.sl false (a4.map Ax)),(5,.ref 0 0),(7,.ref 1 0),(10,.ref 2 0),(11,ri i_19),(12,.ref 59 0),(21,.row 5 0 6 0 s_18.T.length),(22,ri (r1.length : Int)),(23,ri i_19)],[(0,.box 56 [.sl false (a0.Fns.map Al)]),(1,.box 29 [ru s_18.Ctx.a0,ru s_18.Ctx.a1,ru s_18.Ctx.a2,ru s_18.Ctx.a3,.row 5 0 6 0 s_18.T.length,ru s_18.Seed]),(2,.box 162 [.raw (.int .u32 0),.raw (.int .u32 0),.raw (.int .u32 0),.raw (.int .u32 0),.raw (.int .u32 0),.sl true [],.raw (.int .u32 0),ri 0,ri 0]),(5,.row 53 6 0 (s_18.T.map Bb)),(59,.box 53 [ri x6.S.Kind,ri x6.S.Cap,ri x6.S.Words,ri x6.S.Ver,.row 64 0 2 0 r7.length,ru x6.Next]),(64,.row 66 2 0 (r7.map Av))],67,114,0⟩) (so (by push_cast [hb4])) ?_;refine vj h (fun x=>⟨[(1,ri a1),(3,ri a3),(4,.sl false (a4.map Ax)),(5,.ref 0 0),(7,.ref 1 0),(10,.ref 2 0),(11,ri i_19),(12,.ref 59 0),(21,.row 5 0 6 0 x.1.T.length),(22,ri (r1.length : Int)),(23,ri i_19)],[(0,.box 56 [.sl false (a0.Fns.map Al)]),(1,.box 29 [ru x.1.Ctx.a0,ru x.1.Ctx.a1,ru x.1.Ctx.a2,ru x.1.Ctx.a3,.row 5 0 6 0 x.1.T.length,ru x.1.Seed]),(2,.box 162 [.raw (.int .u32 0),.raw (.int .u32 0),.raw (.int .u32 0),.raw (.int .u32 0),.raw (.int .u32 0),.sl true [],.raw (.int .u32 0),ri 0,ri 0]),(5,.row 53 6 0 (x.1.T.map Bb)),(59,.box 53 [ri x.2.S.Kind,ri x.2.S.Cap,ri x.2.S.Words,ri x.2.S.Ver,.row 64 0 2 0 x.2.E.length,ru x.2.Next]),(64,.row 66 2 0 (x.2.E.map Av))],90,114,0⟩) (fun v8 h hk8=>?_) ?_
    ·refine vs [1,3,4,5,7,10,11,12,21,22,23,34,35] fun _ k=>?_;push_cast;apply k;clear k;refine VC.block ?_;refine VC.loopP h (fun x=>⟨[(1,ri a1),(3,ri a3),(4,.sl false (a4.map Ax)),(5,.ref 0 0),(7,.ref 1 0),(10,.ref 2 0),(11,ri i_19),(12,.ref 59 0),(21,.row 5 0 6 0 x.1.T.length),(22,ri (r1.length : Int)),(23,ri i_19),(34,ri (r7.length : Int)),(35,ri x.2.2)],[(0,.box 56 [.sl false (a0.Fns.map Al)]),(1,.box 29 [ru x.1.Ctx.a0,ru x.1.Ctx.a1,ru x.1.Ctx.a2,ru x.1.Ctx.a3,.row 5 0 6 0 x.1.T.length,ru x.1.Seed]),(2,.box 162 [.raw (.int .u32 0),.raw (.int .u32 0),.raw (.int .u32 0),.raw (.int .u32 0),.raw (.int .u32 0),.sl true [],.raw (.int .u32 0),ri 0,ri 0]),(5,.row 53 6 0 (x.1.T.map Bb)),(59,.box 53 [ri x.2.1.S.Kind,ri x.2.1.S.Cap,ri x.2.1.S.Words,ri x.2.1.S.Ver,.row 64 0 2 0 x.2.1.E.length,ru x.2.1.Next]),(64,.row 66 2 0 (x.2.1.E.map Av))],89,114,0⟩) ?_ ?_
     ·exact so (by push_cast [hb4])
     rintro ⟨s_48,s_49,i_50⟩ b9 (h : Mu r7 s_48 s_49 i_50 = some b9) hf9;(try push_cast);unfold Mu at h;refine vs [1,3,4,5,7,10,11,12,21,22,23,34,35,36] fun _ k=>?_;push_cast;apply k;clear k;refine VC.seq ?_;refine vc h (fun hb10 h=>?_) (fun hb10 h=>?_)
     ·refine VC.skip ?_;refine VC.seq ?_;refine VC.block ?_;refine vs [1,3,4,5,7,10,11,12,13,21,22,23,34,35] fun _ k=>?_;push_cast;apply k;clear k;obtain ⟨x11,hx11,h⟩:=Aa h;replace hx11:=Bh hx11;obtain ⟨r12,hr12,h⟩:=Aa h;obtain ⟨y13,hy13,h⟩:=Bo h;have hy13l : y13.length = s_49.E.length:=by rw [hy13,List.length_set]
      refine vlD [some 38,some 39,some 40,some 41,some 42,some 43,some 44,some 45,some 46,some 47,some 48,some 49,none] fun _ k=>?_;refine Ch 8 fun _ l=>?_;push_cast [hx11];(repeat refine ao ?_);apply l;clear l;simp only [List.drop_succ_cons,List.drop_zero];push_cast [hx11];(repeat refine ao ?_);refine chD (H:=[]) (Ctr.loH (Ctr.ren (Bij.swp 0 101 Bij.id) (Gq hr12) (by push_cast [hx11]) (by push_cast [hx11]))) (by push_cast [hx11]) ?_;push_cast [hx11];(repeat refine ao ?_);refine ⟨rfl,k _ ?_⟩;clear k;refine vl fun _ k=>?_;push_cast;apply k;clear k;refine bk h ?_;exact so (by push_cast [hb4,hb10,hy13,hy13l])
     ·refine VC.exit ?_;replace h:=ol h hf9;refine ar h hk8 ?_;exact so (by push_cast [hb4,hb10])
    ·rintro ⟨s_54,s_55⟩ (h : Pn i_19 s_54 s_55 = some v5);(try push_cast);unfold Pn at h;obtain ⟨x14,hx14,h⟩:=Aa h;replace hx14:=Bh hx14;obtain ⟨y15,hy15,h⟩:=Bo h;have hy15l : y15.length = s_54.T.length:=by rw [hy15,List.length_set]
     refine vl fun _ k=>?_;push_cast [hx14];(repeat refine ao ?_);apply k;clear k;refine ar h hk5 ?_;exact so (by push_cast [hb4,hy15,hy15l])
   ·rintro s_28 (h : Pv i_19 s_28 = some b3);(try push_cast);unfold Pv at h;refine vl fun _ k=>?_;push_cast;apply k;clear k;refine bk h ?_;exact so (by push_cast [hb4])
  ·refine VC.exit ?_;replace h:=ol h hf3;refine ar h hk2 ?_;exact so (by push_cast [hb4])
 ·rintro s_47 (h : Hs a0 a1 a3 a4 s_47 = some r);(try push_cast);unfold Hs at h;refine VC.seq ?_;refine VC.block ?_;refine vj h (fun x=>⟨[(1,ri a1),(3,ri a3),(4,.sl false (a4.map Ax)),(5,.ref 0 0),(7,.ref 1 0),(10,.ref 2 0),(57,rb x.2)],[(0,.box 56 [.sl false (a0.Fns.map Al)]),(1,.box 29 [ru x.1.Ctx.a0,ru x.1.Ctx.a1,ru x.1.Ctx.a2,ru x.1.Ctx.a3,.row 5 0 6 0 x.1.T.length,ru x.1.Seed]),(2,.box 162 [.raw (.int .u32 0),.raw (.int .u32 0),.raw (.int .u32 0),.raw (.int .u32 0),.raw (.int .u32 0),.sl true [],.raw (.int .u32 0),ri 0,ri 0]),(5,.row 53 6 0 (x.1.T.map Bb))],66,114,0⟩) (fun v16 h hk16=>?_) ?_
  ·obtain ⟨r17,hr17,h⟩:=Aa h;refine vs [1,3,4,5,7,10,57] fun _ k=>?_;push_cast;refine cp (Ag0 hr17) ?_;push_cast;apply k;clear k;refine vc h (fun hb18 h=>?_) (fun hb18 h=>?_)
   ·refine VC.skip ?_;refine ar h hk16 ?_;exact so (by push_cast [hb18])
   ·refine vs [1,3,4,5,7,10,57] fun _ k=>?_;push_cast;apply k;clear k;refine vc h (fun hb19 h=>?_) (fun hb19 h=>?_)
    ·refine VC.skip ?_;refine ar h hk16 ?_;exact so (by push_cast [hb18,hb19])
    ·refine vl fun _ k=>?_;push_cast;apply k;clear k;refine ar h hk16 ?_;exact so (by push_cast [hb18,hb19])
  ·rintro ⟨s_56,i_57⟩ (h : Gz a0 a1 a3 a4 s_56 i_57 = some r);(try push_cast);unfold Gz at h;refine vc h (fun hb20 h=>?_) (fun hb20 h=>?_)
   ·refine vs [10] fun _ k=>?_;push_cast;apply k;clear k;refine VC.ret ?_;replace h:=Option.some.inj h;subst h;refine Cg (Sub.freeze prog (b:=2) (j:=5) rfl rfl rfl (by push_cast [hb20] <;> omega) (by decide)) ?_;exact en (by push_cast [hb20])
   ·refine vj h (fun x=>⟨[(1,ri a1),(3,ri a3),(4,.sl false (a4.map Ax)),(5,.ref 0 0),(7,.ref 1 0),(10,.ref 2 0),(67,rb x.2)],[(0,.box 56 [.sl false (a0.Fns.map Al)]),(1,.box 29 [ru x.1.Ctx.a0,ru x.1.Ctx.a1,ru x.1.Ctx.a2,ru x.1.Ctx.a3,.row 5 0 6 0 x.1.T.length,ru x.1.Seed]),(2,.box 162 [.raw (.int .u32 0),.raw (.int .u32 0),.raw (.int .u32 0),.raw (.int .u32 0),.raw (.int .u32 0),.sl true [],.raw (.int .u32 0),ri 0,ri 0]),(5,.row 53 6 0 (x.1.T.map Bb))],85,114,0⟩) (fun v21 h hk21=>?_) ?_
    ·refine vs [1,3,4,5,7,10,67] fun _ k=>?_;push_cast;apply k;clear k;refine vc h (fun hb22 h=>?_) (fun hb22 h=>?_)
     ·refine VC.skip ?_;refine ar h hk21 ?_;exact so (by push_cast [hb20,hb22])
     ·refine vs [1,3,4,5,7,10,67] fun _ k=>?_;push_cast;apply k;clear k;refine vc h (fun hb23 h=>?_) (fun hb23 h=>?_)
      ·refine VC.skip ?_;refine ar h hk21 ?_;exact so (by push_cast [hb20,hb22,hb23])
      ·obtain ⟨x24,hx24,h⟩:=Aa h;replace hx24:=Bh hx24;refine vl fun _ k=>?_;push_cast [hx24];(repeat refine ao ?_);apply k;clear k;refine ar h hk21 ?_;exact so (by push_cast [hb20,hb22,hb23])
    ·rintro ⟨s_58,i_59⟩ (h : Hd a0 a1 a3 a4 s_58 i_59 = some r);(try push_cast);unfold Hd at h;refine vc h (fun hb25 h=>?_) (fun hb25 h=>?_)
     ·refine vs [10] fun _ k=>?_;push_cast;apply k;clear k;refine VC.ret ?_;replace h:=Option.some.inj h;subst h;refine Cg (Sub.freeze prog (b:=2) (j:=5) rfl rfl rfl (by push_cast [hb20,hb25] <;> omega) (by decide)) ?_;exact en (by push_cast [hb20,hb25])
     ·refine VC.skip ?_;refine vs [1,4,10,14] fun _ k=>?_;push_cast;apply k;clear k;refine VC.sub (Sub.freeze prog (b:=89) (j:=5) rfl rfl rfl (by push_cast [hb20,hb25] <;> omega) (by decide)) ?_;refine VC.sub (s':=⟨[(1,ri a1),(4,.sl false (a4.map Ax)),(10,.ref 2 0),(14,.ref 89 0)],[(2,.box 162 [.raw (.int .u32 0),.raw (.int .u32 0),.raw (.int .u32 0),.raw (.int .u32 0),.raw (.int .u32 0),.sl true [],.raw (.int .u32 0),ri 0,ri 0]),(89,.box 259 (Ah (Ae.mk a0 s_58 a3 0 0)))],91,114,0⟩) (so (by push_cast [hb20,hb25])) ?_;obtain ⟨r26,hr26,h⟩:=Aa h;refine vs [10,14,15] fun _ k=>?_;push_cast;refine ch (H:=[(89,.box 259 (Ah (Ae.mk a0 s_58 a3 0 0)))]) (Ctr.loH (Ctr.ren (Bij.swp 0 89 Bij.id) (Wh 9 (Ae.mk a0 s_58 a3 0 0) a1 a4 hr26) (by push_cast) (by push_cast))) (by push_cast) ?_;push_cast;apply k;clear k;refine VC.sub (s':=⟨[(10,.ref 2 0),(14,.ref 89 0),(15,ru r26.1)],[(2,.box 162 [.raw (.int .u32 0),.raw (.int .u32 0),.raw (.int .u32 0),.raw (.int .u32 0),.raw (.int .u32 0),.sl true [],.raw (.int .u32 0),ri 0,ri 0]),(89,.box 259 (Ah r26.2))],96,114,0⟩) (so (by push_cast [hb20,hb25])) ?_;refine vj h (fun x=>⟨[(10,.ref 2 0),(14,.ref 89 0),(15,ru x)],[(2,.box 162 [.raw (.int .u32 0),.raw (.int .u32 0),.raw (.int .u32 0),.raw (.int .u32 0),.raw (.int .u32 0),.sl true [],.raw (.int .u32 0),ri 0,ri 0]),(89,.box 259 (Ah r26.2))],102,114,0⟩) (fun v27 h hk27=>?_) ?_
      ·refine vs [10,14,15,99] fun _ k=>?_;push_cast;apply k;clear k;refine vc h (fun hb28 h=>?_) (fun hb28 h=>?_)
       ·refine vl fun _ k=>?_;push_cast;apply k;clear k;refine ar h hk27 ?_;exact so (by push_cast [hb20,hb25,hb28])
       ·refine VC.skip ?_;refine ar h hk27 ?_;exact so (by push_cast [hb20,hb25,hb28])
      ·rintro i_60 (h : Oh r26 i_60 = some r);(try push_cast);unfold Oh at h;refine vsD [some 100,some 101,some 102,some 103,some 104,some 105,some 106,some 107,some 108,some 109,some 110,some 111,some 112,some 113,none] [10] fun _ k=>?_;refine Ch 8 fun _ l=>?_;push_cast;apply l;clear l;simp only [List.drop_succ_cons,List.drop_zero];push_cast;refine ⟨rfl,k _ ?_⟩;clear k;refine VC.ret ?_;replace h:=Option.some.inj h;subst h;exact en (by push_cast [hb20,hb25])
noncomputable def Ja (a0 : Aq) (a1 : Bf) (a2 : Int) : Option (Jk):=
  po (Gi a0 0 a1 a2 []) fun r1=>
  some r1
theorem Gt0 {a0 : Aq} {a1 : Bf} {a2 : Int} {r : Jk} (h : Ja a0 a1 a2 = some r) : Ctr prog 88 [.agg (Ez a0),.agg (Uh a1),ri a2] [] (.agg (Xc r)) []:=by
 unfold Ja at h;refine Ctr.ofW Ba func88 rfl call88 0 _ ntmps88 [.cell 6 162] rfl rfl rfl (fun B=>?_);refine vs [2,3,4,6] fun _ k=>?_;push_cast;apply k;clear k;obtain ⟨r1,hr1,h⟩:=Aa h;refine vs [6] fun _ k=>?_;push_cast;refine cp (Fq0 hr1) ?_;push_cast;apply k;clear k;refine VC.ret ?_;replace h:=Option.some.inj h;subst h;exact en (by push_cast)
theorem callI_own {p : Aq} {fn : Int} {e : Bf} {fu : Int} {a : List UInt32} (hF : Fits e.T) : Gi p fn e fu a = Hs p fn fu a e:=by
  have h:=own_is hF
  unfold Pb at h
  unfold Gi
  obtain ⟨r1,h1,h2⟩:=Aa h
  obtain ⟨v,h3,h4⟩:=Aa h2
  have h5 : v = e:=Option.some.inj h4
  subst h5
  rw [h1]
  have e9 : Mu = Qt:=rfl
  have e3 : Js = Rb:=rfl
  simp only [po_of,e3,h3]
def ranOf (v : UInt32) (r : Rn) : Jk:=⟨if r.err = 0 then v else 0,r.e,r.used,r.err⟩
theorem callI {p : Aq} {b : Bool} (hb : Iv p = some b) {fn : Int} {e : Bf} {fu : Int} {a : List UInt32} (hF : Fits e.T) :
    Gi p fn e fu a = if b = true ∧ 0 ≤ fu ∧ fu ≤ 100000 then
      (match idx p.Fns fn with
        | none=>some ⟨0,e,0,3⟩
        | some f=>if (a.length : Int) = f.Args then po (Dw 9 ⟨p,e,fu,0,0⟩ fn a) (fun q=>some (ranOf q.1 q.2)) else some ⟨0,e,0,3⟩)
      else some ⟨0,e,0,1⟩:=by
  rw [callI_own hF]
  unfold Hs
  rw [hb]
  have bad : Gz p fn fu a e true = some ⟨0,e,0,1⟩:=rfl
  cases b with
  | false=>
    rw [if_neg (fun q=>by cases q.1)]
    exact bad
  | true=>
    simp only [po_of,Bool.not_true,cond_false]
    by_cases h1 : fu < 0
    · rw [if_neg (fun q=>by omega),decide_eq_true h1]
      exact bad
    · rw [decide_eq_false h1]
      by_cases h2 : fu > 100000
      · rw [if_neg (fun q=>by omega),decide_eq_true h2]
        exact bad
      · rw [if_pos ⟨trivial,by omega,by omega⟩,decide_eq_false h2]
        simp only [cond_false,po_of,Gz]
        have none_ : Hd p fn fu a e true = some ⟨0,e,0,3⟩:=rfl
        by_cases h3 : fn < 0
        · have : idx p.Fns fn = none:=by unfold idx; rw [if_neg (by omega)]
          rw [this,decide_eq_true h3]
          exact none_
        · rw [decide_eq_false h3]
          by_cases h4 : fn ≥ (p.Fns.length : Int)
          · have : idx p.Fns fn = none:=by unfold idx; rw [if_pos (by omega),List.getElem?_eq_none (by omega)]
            rw [this,decide_eq_true h4]
            exact none_
          · rw [decide_eq_false h4]
            obtain ⟨f,hf⟩ : ∃ f,idx p.Fns fn = some f:=⟨_,idx_of (by omega) (List.getElem?_eq_getElem (show fn.toNat < p.Fns.length by omega))⟩
            rw [hf]
            simp only [cond_false,po_of]
            by_cases h5 : (a.length : Int) = f.Args
            · have d : ((a.length : Int) != f.Args) = false:=by simpa using h5
              rw [d,if_pos h5]
              simp only [Hd,cond_false]
              congr 1
              funext q
              by_cases h6 : q.2.err = 0
              · have d6 : (q.2.err != 0) = false:=by simpa using h6
                rw [d6]
                unfold ranOf
                rw [if_pos h6]
                rfl
              · have d6 : (q.2.err != 0) = true:=by simpa using h6
                rw [d6]
                unfold ranOf
                rw [if_neg h6]
                rfl
            · have d : ((a.length : Int) != f.Args) = true:=by simpa using h5
              rw [d,if_neg h5]
              exact none_
theorem runI {p : Aq} {b : Bool} (hb : Iv p = some b) (hbp : b = true → ProgOk p) {e : Bf} {fu : Int} (hF : Fits e.T) :
    Ja p e fu = if b = true ∧ 0 ≤ fu ∧ fu ≤ 100000 then po (Dw 9 ⟨p,e,fu,0,0⟩ 0 []) (fun q=>some (ranOf q.1 q.2)) else some ⟨0,e,0,1⟩:=by
  have e1 : Ja p e fu = Gi p 0 e fu []:=by
    unfold Ja
    cases Gi p 0 e fu [] <;> rfl
  rw [e1,callI hb hF]
  by_cases h : b = true ∧ 0 ≤ fu ∧ fu ≤ 100000
  · rw [if_pos h,if_pos h]
    have hp:=hbp h.1
    obtain ⟨f,hf⟩ : ∃ f,p.Fns[0]? = some f:=⟨_,List.getElem?_eq_getElem hp.len.1⟩
    have hi : idx p.Fns 0 = some f:=idx_of (Int.le_refl 0) hf
    rw [hi]
    simp only
    rw [if_pos (show (([] : List UInt32).length : Int) = f.Args by rw [hp.main f hf]; rfl)]
  · rw [if_neg h,if_neg h]
theorem preI {p : Aq} (hp : ProgOk p) {e : Bf} (hF : Fits e.T) {fu : Int} (hf : 0 ≤ fu ∧ fu ≤ 100000) {fn : Int} (hfn : 0 ≤ fn ∧ fn < (p.Fns.length : Int)) {a : List UInt32} (ha : a.length ≤ 7) : FnPre p ⟨p,e,fu,0,0⟩ fn a:=
  ⟨rfl,⟨Int.le_refl _,hf.1⟩,by show fu ≤ 1000000; omega,hF,rfl,hfn,ha⟩
theorem lenI {p : Aq} (hp : ProgOk p) : (p.Fns.length : Int) - 0 ≤ ((9 : Nat) : Int):=by have:=hp.len; omega
theorem keeps_run {p : Aq} {e : Bf} {fu : Int} (hF : Fits e.T) : ∃ x,Ja p e fu = some x ∧ EKeep e x.E:=by
  obtain ⟨c,hc1,hc2⟩:=progMay_tells p
  rw [runI hc1 hc2 hF]
  by_cases h : c = true ∧ 0 ≤ fu ∧ fu ≤ 100000
  · rw [if_pos h]
    have hp:=hc2 h.1
    obtain ⟨v,r,q1,q2⟩:=frame_tells hp 9 (lenI hp) _ _ (preI hp hF h.2 (fn:=0) ⟨Int.le_refl _,by have:=hp.len; omega⟩ (a:=[]) (by decide))
    rw [q1]
    exact ⟨_,rfl,q2.e⟩
  · rw [if_neg h]
    exact ⟨_,rfl,.refl hF⟩
noncomputable def Bt (a0 : Aj) : Option (C128):=
  some (C128.mk (i2f (a0.low.toNat : Int)) (i2f (a0.high.toNat : Int)))
theorem Co {a0 : Aj} {r : C128} (h : Bt a0 = some r) : Ctr prog 227 [.agg (Bc a0)] [] (.raw (.complex .f64 r.re r.im)) []:=by
 unfold Bt at h;refine Ctr.ofW Ba func227 rfl call227 0 _ ntmps227 [.tmp 2] rfl rfl rfl (fun B=>?_);refine vs [1] fun _ k=>?_;push_cast;apply k;clear k;refine vs [2] fun _ k=>?_;push_cast;apply k;clear k;refine VC.ret ?_;replace h:=Option.some.inj h;subst h;exact en (by push_cast)
noncomputable def Ra (a0 : UInt64) (a1 : UInt64) (i_1 : Bool) : Option (Aj):=
  cond i_1 (
  pl ((4294967295 : UInt64)) fun c4=>
  some (Aj.mk 0 c4)) (
  some (Aj.mk a0 a1))
noncomputable def Ga (a0 : UInt64) (a1 : UInt64) : Option (Aj):=
  po (
  cond (decide ((a1.toNat : Int) > 4294967295)) (
  some true) (
  some (decide (a0.toNat > a1.toNat)))) (fun x=>Ra a0 a1 x)
theorem Mw {a0 : UInt64} {a1 : UInt64} {r : Aj} (h : Ga a0 a1 = some r) : Ctr prog 233 [.raw (.int .u64 (a0.toNat : Int)),.raw (.int .u64 (a1.toNat : Int))] [] (.agg (Bc r)) []:=by
 unfold Ga at h;refine Ctr.ofW Ba func233 rfl call233 0 _ ntmps233 [.cell 4 311] rfl rfl rfl (fun B=>?_);refine vs [0,1,4] fun _ k=>?_;push_cast;apply k;clear k;refine VC.seq ?_;refine vj h (fun x=>⟨[(0,.raw (.int .u64 (a0.toNat : Int))),(1,.raw (.int .u64 (a1.toNat : Int))),(4,.ref 0 0),(11,rb x)],[(0,.box 311 (Bc (Aj.mk 0 0)))],8,16,0⟩) (fun v1 h hk1=>?_) ?_
 ·rcases bt (decide ((a1.toNat : Int) > 4294967295)) with hb2 | hb2
  ·replace h:=Ao hb2 h;refine vlG [some 5,some 6,some 7,some 8,some 9,some 10,some 11] fun _ k=>?_;push_cast [hb2];(repeat refine ao ?_);apply k;clear k;refine ar h hk1 ?_;exact sl (by push_cast [hb2])
  ·replace h:=Au hb2 h;refine vlG [some 5,some 6,some 7,some 8,some 9,some 10,some 11] fun _ k=>?_;push_cast [hb2];(repeat refine ao ?_);apply k;clear k;refine ar h hk1 ?_;exact sl (by push_cast [hb2])
 ·rintro i_1 (h : Ra a0 a1 i_1 = some r);(try push_cast);unfold Ra at h;refine vc h (fun hb3 h=>?_) (fun hb3 h=>?_)
  ·obtain ⟨c4,hc4,h⟩:=Bo h;have hc4i : (c4.toNat : Int) = 4294967295:=by rw [hc4];rfl
   refine vs [4] fun _ k=>?_;push_cast [hc4i];(repeat refine ao ?_);apply k;clear k;refine VC.ret ?_;replace h:=Option.some.inj h;subst h;exact en (by push_cast [hb3,hc4i])
  ·refine VC.skip ?_;refine vs [4] fun _ k=>?_;push_cast;apply k;clear k;refine VC.ret ?_;replace h:=Option.some.inj h;subst h;exact en (by push_cast [hb3])
noncomputable def Qb (i_1 : Bool) : Option (Bool):=
  some i_1
noncomputable def Nk (a0 : F64) : Option (Bool):=
  po (
  cond (fge a0 0) (
  cond (fle a0 4751297606873776128) (
  po (f2u a0) fun x4=>
  some (feq a0 (i2f (x4.toNat : Int)))) (
  some false)) (
  some false)) (fun x=>Qb x)
theorem Qf {a0 : F64} {r : Bool} (h : Nk a0 = some r) : Ctr prog 235 [.raw (.float .f64 a0)] [] (rb r) []:=by
 unfold Nk at h;refine Ctr.ofW Ba func235 rfl call235 0 _ ntmps235 [.tmp 2] rfl rfl rfl (fun B=>?_);refine vs [0] fun _ k=>?_;push_cast;apply k;clear k;refine vj h (fun x=>⟨[(2,rb x)],[],15,16,0⟩) (fun v1 h hk1=>?_) ?_
 ·rcases bt (fge a0 0) with hb2 | hb2
  ·replace h:=Ao hb2 h;rcases bt (fle a0 4751297606873776128) with hb3 | hb3
   ·replace h:=Ao hb3 h;obtain ⟨x4,hx4,h⟩:=Aa h;replace hx4:=f2u_some hx4;refine vlG [some 3,some 4,some 5,some 6,some 7,some 8,some 9,some 10,some 11,some 12,some 13,some 14,some 15,some 2] fun _ k=>?_;refine Ag 8 fun _ l=>?_;push_cast [hb2,hb3,hx4];(repeat refine ao ?_);apply l;clear l;simp only [List.drop_succ_cons,List.drop_zero];push_cast [hb2,hb3,hx4];(repeat refine ao ?_);apply k;clear k;refine ar h hk1 ?_;exact sl (by push_cast [hb2,hb3])
   ·replace h:=Au hb3 h;refine vlG [some 3,some 4,some 5,some 6,some 7,some 8,some 9,some 10,some 11,some 12,some 13,some 14,some 15,some 2] fun _ k=>?_;refine Ag 8 fun _ l=>?_;push_cast [hb2,hb3];(repeat refine ao ?_);apply l;clear l;simp only [List.drop_succ_cons,List.drop_zero];push_cast [hb2,hb3];(repeat refine ao ?_);apply k;clear k;refine ar h hk1 ?_;exact sl (by push_cast [hb2,hb3])
  ·replace h:=Au hb2 h;refine vlG [some 3,some 4,some 5,some 6,some 7,some 8,some 9,some 10,some 11,some 12,some 13,some 14,some 15,some 2] fun _ k=>?_;refine Ag 8 fun _ l=>?_;push_cast [hb2];(repeat refine ao ?_);apply l;clear l;simp only [List.drop_succ_cons,List.drop_zero];push_cast [hb2];(repeat refine ao ?_);apply k;clear k;refine ar h hk1 ?_;exact sl (by push_cast [hb2])
 ·rintro i_1 (h : Qb i_1 = some r);(try push_cast);unfold Qb at h;refine VC.ret ?_;replace h:=Option.some.inj h;subst h;exact en (by push_cast)
noncomputable def Qz (i_1 : Bool) : Option (Bool):=
  some i_1
noncomputable def Iy (a0 : C128) : Option (Bool):=
  po (
  po (Nk a0.re) fun r2=>
  cond r2 (
  po (Nk a0.im) fun r4=>
  cond r4 (
  some (fle a0.re a0.im)) (
  some false)) (
  some false)) (fun x=>Qz x)
theorem Uz {a0 : C128} {r : Bool} (h : Iy a0 = some r) : Ctr prog 228 [.raw (.complex .f64 a0.re a0.im)] [] (rb r) []:=by
 unfold Iy at h;refine Ctr.ofW Ba func228 rfl call228 0 _ ntmps228 [.tmp 2] rfl rfl rfl (fun B=>?_);refine vs [0] fun _ k=>?_;push_cast;apply k;clear k;refine vj h (fun x=>⟨[(2,rb x)],[],17,18,0⟩) (fun v1 h hk1=>?_) ?_
 ·obtain ⟨r2,hr2,h⟩:=Aa h;rcases bt r2 with hb3 | hb3
  ·replace h:=Ao hb3 h;obtain ⟨r4,hr4,h⟩:=Aa h;rcases bt r4 with hb5 | hb5
   ·replace h:=Ao hb5 h;refine vlG [some 3,some 4,some 5,some 6,some 7,some 8,some 9,some 10,some 11,some 12,some 13,some 14,some 15,some 16,some 17,some 2] fun _ k=>?_;refine Ag 8 fun _ l=>?_;push_cast [hb3,hb5];(repeat refine ao ?_);refine cp (Qf hr2) ?_;push_cast [hb3,hb5];(repeat refine ao ?_);refine cp (Qf hr4) ?_;push_cast [hb3,hb5];(repeat refine ao ?_);apply l;clear l;simp only [List.drop_succ_cons,List.drop_zero];push_cast [hb3,hb5];(repeat refine ao ?_);apply k;clear k;refine ar h hk1 ?_;exact sl (by push_cast [hb3,hb5])
   ·replace h:=Au hb5 h;refine vlG [some 3,some 4,some 5,some 6,some 7,some 8,some 9,some 10,some 11,some 12,some 13,some 14,some 15,some 16,some 17,some 2] fun _ k=>?_;refine Ag 8 fun _ l=>?_;push_cast [hb3,hb5];(repeat refine ao ?_);refine cp (Qf hr2) ?_;push_cast [hb3,hb5];(repeat refine ao ?_);refine cp (Qf hr4) ?_;push_cast [hb3,hb5];(repeat refine ao ?_);apply l;clear l;simp only [List.drop_succ_cons,List.drop_zero];push_cast [hb3,hb5];(repeat refine ao ?_);apply k;clear k;refine ar h hk1 ?_;exact sl (by push_cast [hb3,hb5])
  ·replace h:=Au hb3 h;refine vlG [some 3,some 4,some 5,some 6,some 7,some 8,some 9,some 10,some 11,some 12,some 13,some 14,some 15,some 16,some 17,some 2] fun _ k=>?_;refine Ag 8 fun _ l=>?_;push_cast [hb3];(repeat refine ao ?_);refine cp (Qf hr2) ?_;push_cast [hb3];(repeat refine ao ?_);apply l;clear l;simp only [List.drop_succ_cons,List.drop_zero];push_cast [hb3];(repeat refine ao ?_);apply k;clear k;refine ar h hk1 ?_;exact sl (by push_cast [hb3])
 ·rintro i_1 (h : Qz i_1 = some r);(try push_cast);unfold Qz at h;refine VC.ret ?_;replace h:=Option.some.inj h;subst h;exact en (by push_cast)
noncomputable def Bu (a0 : C128) : Option (Aj):=
  po (Iy a0) fun r1=>
  cond (!r1) (
  pl ((4294967295 : UInt64)) fun c3=>
  some (Aj.mk 0 c3)) (
  po (f2u a0.re) fun x4=>
  po (f2u a0.im) fun x5=>
  some (Aj.mk x4 x5))
theorem Cm {a0 : C128} {r : Aj} (h : Bu a0 = some r) : Ctr prog 230 [.raw (.complex .f64 a0.re a0.im)] [] (.agg (Bc r)) []:=by
 unfold Bu at h;refine Ctr.ofW Ba func230 rfl call230 0 _ ntmps230 [.cell 2 311] rfl rfl rfl (fun B=>?_);refine vs [0,2] fun _ k=>?_;push_cast;apply k;clear k;refine VC.seq ?_;obtain ⟨r1,hr1,h⟩:=Aa h;refine vs [0,2,5] fun _ k=>?_;push_cast;refine cp (Uz hr1) ?_;push_cast;apply k;clear k;refine vc h (fun hb2 h=>?_) (fun hb2 h=>?_)
 ·obtain ⟨c3,hc3,h⟩:=Bo h;have hc3i : (c3.toNat : Int) = 4294967295:=by rw [hc3];rfl
  refine vs [2] fun _ k=>?_;push_cast [hc3i];(repeat refine ao ?_);apply k;clear k;refine VC.ret ?_;replace h:=Option.some.inj h;subst h;exact en (by push_cast [hb2,hc3i])
 ·refine VC.skip ?_;obtain ⟨x4,hx4,h⟩:=Aa h;replace hx4:=f2u_some hx4;obtain ⟨x5,hx5,h⟩:=Aa h;replace hx5:=f2u_some hx5;refine vs [2] fun _ k=>?_;push_cast [hx4,hx5];(repeat refine ao ?_);apply k;clear k;refine VC.ret ?_;replace h:=Option.some.inj h;subst h;exact en (by push_cast [hb2])
noncomputable def Sr (a0 : Aj) (a1 : Aj) : Option (Aj):=
  some a1
theorem Dn0 {a0 : Aj} {a1 : Aj} {r : Aj} (h : Sr a0 a1 = some r) : Ctr prog 236 [.agg (Bc a0),.agg (Bc a1)] [] (.agg (Bc r)) []:=by
 unfold Sr at h;refine Ctr.ofW Ba func236 rfl call236 0 _ ntmps236 [.cell 4 311] rfl rfl rfl (fun B=>?_);refine vs [3,4] fun _ k=>?_;push_cast;apply k;clear k;refine vs [4] fun _ k=>?_;push_cast;apply k;clear k;refine VC.ret ?_;replace h:=Option.some.inj h;subst h;exact en (by push_cast)
noncomputable def Ot (a0 : Aj) (a1 : Aj) : Option (Aj):=
  cond ((a1.low.toNat : Int) != (a1.high.toNat : Int)) (
  po (Ga 1 0) fun r2=>
  some r2) (
  pl ((shl64 a0.low (Int.tmod (a1.low.toNat : Int) 32))) fun c3=>
  pl ((shl64 a0.high (Int.tmod (a1.low.toNat : Int) 32))) fun c4=>
  po (Ga c3 c4) fun r5=>
  some r5)
theorem Ct0 {a0 : Aj} {a1 : Aj} {r : Aj} (h : Ot a0 a1 = some r) : Ctr prog 246 [.agg (Bc a0),.agg (Bc a1)] [] (.agg (Bc r)) []:=by
 unfold Ot at h;refine Ctr.ofW Ba func246 rfl call246 0 _ ntmps246 [.cell 4 311] rfl rfl rfl (fun B=>?_);refine vs [2,3,4] fun _ k=>?_;push_cast;apply k;clear k;refine VC.seq ?_;refine vs [2,3,4,10] fun _ k=>?_;push_cast;apply k;clear k;refine vc h (fun hb1 h=>?_) (fun hb1 h=>?_)
 ·obtain ⟨r2,hr2,h⟩:=Aa h;refine vs [4] fun _ k=>?_;push_cast;refine cp (Mw hr2) ?_;push_cast;apply k;clear k;refine VC.ret ?_;replace h:=Option.some.inj h;subst h;exact en (by push_cast [hb1])
 ·refine VC.skip ?_;refine vs [2,4,5] fun _ k=>?_;push_cast;apply k;clear k;obtain ⟨c3,hc3,h⟩:=Bo h;have hc3i : (((shl64 a0.low (Int.tmod (a1.low.toNat : Int) 32))).toNat : Int) = (c3.toNat : Int):=by rw [hc3]
  push_cast at hc3i;obtain ⟨c4,hc4,h⟩:=Bo h;have hc4i : (((shl64 a0.high (Int.tmod (a1.low.toNat : Int) 32))).toNat : Int) = (c4.toNat : Int):=by rw [hc4]
  push_cast at hc4i;obtain ⟨r5,hr5,h⟩:=Aa h;refine vs [4] fun _ k=>?_;push_cast [hc3i,hc4i];(repeat refine ao ?_);refine cp (Mw hr5) ?_;push_cast [hc3i,hc4i];(repeat refine ao ?_);apply k;clear k;refine VC.ret ?_;replace h:=Option.some.inj h;subst h;exact en (by push_cast [hb1,hc3i,hc4i])
noncomputable def On (a0 : Aj) (a1 : Aj) : Option (Aj):=
  cond ((a1.low.toNat : Int) != (a1.high.toNat : Int)) (
  some (Aj.mk 0 a0.high)) (
  some (Aj.mk (shr64 a0.low (Int.tmod (a1.low.toNat : Int) 32)) (shr64 a0.high (Int.tmod (a1.low.toNat : Int) 32))))
theorem Cn0 {a0 : Aj} {a1 : Aj} {r : Aj} (h : On a0 a1 = some r) : Ctr prog 247 [.agg (Bc a0),.agg (Bc a1)] [] (.agg (Bc r)) []:=by
 unfold On at h;refine Ctr.ofW Ba func247 rfl call247 0 _ ntmps247 [.cell 4 311] rfl rfl rfl (fun B=>?_);refine vs [2,3,4] fun _ k=>?_;push_cast;apply k;clear k;refine VC.seq ?_;refine vs [2,3,4,10] fun _ k=>?_;push_cast;apply k;clear k;refine vc h (fun hb1 h=>?_) (fun hb1 h=>?_)
 ·refine vs [4] fun _ k=>?_;push_cast;apply k;clear k;refine VC.ret ?_;replace h:=Option.some.inj h;subst h;exact en (by push_cast [hb1])
 ·refine VC.skip ?_;refine vs [2,4,5] fun _ k=>?_;push_cast;apply k;clear k;refine vs [4] fun _ k=>?_;push_cast;apply k;clear k;refine VC.ret ?_;replace h:=Option.some.inj h;subst h;exact en (by push_cast [hb1])
noncomputable def Ub (a0 : Aj) (a1 : Aj) : Option (Aj):=
  pl ((a0.low + a1.low)) fun c1=>
  pl ((a0.high + a1.high)) fun c2=>
  po (Ga c1 c2) fun r3=>
  some r3
theorem Dm0 {a0 : Aj} {a1 : Aj} {r : Aj} (h : Ub a0 a1 = some r) : Ctr prog 237 [.agg (Bc a0),.agg (Bc a1)] [] (.agg (Bc r)) []:=by
 unfold Ub at h;refine Ctr.ofW Ba func237 rfl call237 0 _ ntmps237 [.cell 4 311] rfl rfl rfl (fun B=>?_);refine vs [2,3,4] fun _ k=>?_;push_cast;apply k;clear k;obtain ⟨c1,hc1,h⟩:=Bo h;have hc1i : (((a0.low + a1.low)).toNat : Int) = (c1.toNat : Int):=by rw [hc1]
 push_cast at hc1i;obtain ⟨c2,hc2,h⟩:=Bo h;have hc2i : (((a0.high + a1.high)).toNat : Int) = (c2.toNat : Int):=by rw [hc2]
 push_cast at hc2i;obtain ⟨r3,hr3,h⟩:=Aa h;refine vs [4] fun _ k=>?_;refine Ag 8 fun _ l=>?_;push_cast [hc1i,hc2i];(repeat refine ao ?_);apply l;clear l;simp only [List.drop_succ_cons,List.drop_zero];push_cast [hc1i,hc2i];(repeat refine ao ?_);refine cp (Mw hr3) ?_;push_cast [hc1i,hc2i];(repeat refine ao ?_);apply k;clear k;refine VC.ret ?_;replace h:=Option.some.inj h;subst h;exact en (by push_cast [hc1i,hc2i])
noncomputable def Ps (a0 : Aj) (a1 : Aj) : Option (Aj):=
  cond (decide (a0.low.toNat < a1.high.toNat)) (
  po (Ga 1 0) fun r2=>
  some r2) (
  some (Aj.mk (a0.low - a1.high) (a0.high - a1.low)))
theorem Df0 {a0 : Aj} {a1 : Aj} {r : Aj} (h : Ps a0 a1 = some r) : Ctr prog 238 [.agg (Bc a0),.agg (Bc a1)] [] (.agg (Bc r)) []:=by
 unfold Ps at h;refine Ctr.ofW Ba func238 rfl call238 0 _ ntmps238 [.cell 4 311] rfl rfl rfl (fun B=>?_);refine vs [2,3,4] fun _ k=>?_;push_cast;apply k;clear k;refine VC.seq ?_;refine vs [2,3,4,9] fun _ k=>?_;push_cast;apply k;clear k;refine vc h (fun hb1 h=>?_) (fun hb1 h=>?_)
 ·obtain ⟨r2,hr2,h⟩:=Aa h;refine vs [4] fun _ k=>?_;push_cast;refine cp (Mw hr2) ?_;push_cast;apply k;clear k;refine VC.ret ?_;replace h:=Option.some.inj h;subst h;exact en (by push_cast [hb1])
 ·refine VC.skip ?_;refine vs [4] fun _ k=>?_;refine Ag 8 fun _ l=>?_;push_cast;apply l;clear l;simp only [List.drop_succ_cons,List.drop_zero];push_cast;apply k;clear k;refine VC.ret ?_;replace h:=Option.some.inj h;subst h;exact en (by push_cast [hb1])
noncomputable def Sw (a0 : Aj) (a1 : Aj) : Option (Aj):=
  pl ((a0.low * a1.low)) fun c1=>
  pl ((a0.high * a1.high)) fun c2=>
  po (Ga c1 c2) fun r3=>
  some r3
theorem De0 {a0 : Aj} {a1 : Aj} {r : Aj} (h : Sw a0 a1 = some r) : Ctr prog 239 [.agg (Bc a0),.agg (Bc a1)] [] (.agg (Bc r)) []:=by
 unfold Sw at h;refine Ctr.ofW Ba func239 rfl call239 0 _ ntmps239 [.cell 4 311] rfl rfl rfl (fun B=>?_);refine vs [2,3,4] fun _ k=>?_;push_cast;apply k;clear k;obtain ⟨c1,hc1,h⟩:=Bo h;have hc1i : (((a0.low * a1.low)).toNat : Int) = (c1.toNat : Int):=by rw [hc1]
 push_cast at hc1i;obtain ⟨c2,hc2,h⟩:=Bo h;have hc2i : (((a0.high * a1.high)).toNat : Int) = (c2.toNat : Int):=by rw [hc2]
 push_cast at hc2i;obtain ⟨r3,hr3,h⟩:=Aa h;refine vs [4] fun _ k=>?_;refine Ag 8 fun _ l=>?_;push_cast [hc1i,hc2i];(repeat refine ao ?_);apply l;clear l;simp only [List.drop_succ_cons,List.drop_zero];push_cast [hc1i,hc2i];(repeat refine ao ?_);refine cp (Mw hr3) ?_;push_cast [hc1i,hc2i];(repeat refine ao ?_);apply k;clear k;refine VC.ret ?_;replace h:=Option.some.inj h;subst h;exact en (by push_cast [hc1i,hc2i])
noncomputable def Qc (a0 : Aj) (a1 : Aj) : Option (Aj):=
  cond ((a1.low.toNat : Int) == 0) (
  some (Aj.mk 0 a0.high)) (
  pg ((a1.high.toNat : Int) ≠ 0) <|
  pg ((a1.low.toNat : Int) ≠ 0) <|
  some (Aj.mk (a0.low / a1.high) (a0.high / a1.low)))
theorem Da0 {a0 : Aj} {a1 : Aj} {r : Aj} (h : Qc a0 a1 = some r) : Ctr prog 240 [.agg (Bc a0),.agg (Bc a1)] [] (.agg (Bc r)) []:=by
 unfold Qc at h;refine Ctr.ofW Ba func240 rfl call240 0 _ ntmps240 [.cell 4 311] rfl rfl rfl (fun B=>?_);refine vs [2,3,4] fun _ k=>?_;push_cast;apply k;clear k;refine VC.seq ?_;refine vs [2,3,4,7] fun _ k=>?_;push_cast;apply k;clear k;refine vc h (fun hb1 h=>?_) (fun hb1 h=>?_)
 ·refine vs [4] fun _ k=>?_;push_cast;apply k;clear k;refine VC.ret ?_;replace h:=Option.some.inj h;subst h;exact en (by push_cast [hb1])
 ·refine VC.skip ?_;obtain ⟨hg2,h⟩:=Bs h;obtain ⟨hg3,h⟩:=Bs h;refine vsD [some 11,some 12,some 13,some 14,some 15,some 16,some 17,some 18,some 19,some 20,some 21,none] [4] fun _ k=>?_;refine Ch 8 fun _ l=>?_;push_cast [hg2,hg3];(repeat refine ao ?_);apply l;clear l;simp only [List.drop_succ_cons,List.drop_zero];push_cast [hg2,hg3];(repeat refine ao ?_);refine ⟨rfl,k _ ?_⟩;clear k;refine VC.ret ?_;replace h:=Option.some.inj h;subst h;exact en (by push_cast [hb1])
noncomputable def Qa (a0 : Aj) (a1 : Aj) : Option (Aj):=
  cond (decide (a0.high.toNat < a1.low.toNat)) (
  some a0) (
  cond ((a1.low.toNat : Int) == 0) (
  some (Aj.mk 0 a0.high)) (
  pl ((a1.high - 1)) fun c3=>
  some (Aj.mk 0 (min64 a0.high c3))))
theorem Dc0 {a0 : Aj} {a1 : Aj} {r : Aj} (h : Qa a0 a1 = some r) : Ctr prog 241 [.agg (Bc a0),.agg (Bc a1)] [] (.agg (Bc r)) []:=by
 unfold Qa at h;refine Ctr.ofW Ba func241 rfl call241 0 _ ntmps241 [.cell 4 311] rfl rfl rfl (fun B=>?_);refine vs [2,3,4] fun _ k=>?_;push_cast;apply k;clear k;refine VC.seq ?_;refine VC.block ?_;refine vs [2,3,4,5] fun _ k=>?_;push_cast;apply k;clear k;refine vc h (fun hb1 h=>?_) (fun hb1 h=>?_)
 ·refine vs [4] fun _ k=>?_;push_cast;apply k;clear k;refine VC.ret ?_;replace h:=Option.some.inj h;subst h;exact en (by push_cast [hb1])
 ·refine vs [2,3,4,12] fun _ k=>?_;push_cast;apply k;clear k;refine vc h (fun hb2 h=>?_) (fun hb2 h=>?_)
  ·refine vs [4] fun _ k=>?_;push_cast;apply k;clear k;refine VC.ret ?_;replace h:=Option.some.inj h;subst h;exact en (by push_cast [hb1,hb2])
  ·refine VC.skip ?_;obtain ⟨c3,hc3,h⟩:=Bo h;have hc3i : (((a1.high - 1)).toNat : Int) = (c3.toNat : Int):=by rw [hc3]
   push_cast at hc3i;refine vs [4] fun _ k=>?_;push_cast [hc3i];(repeat refine ao ?_);apply k;clear k;refine VC.ret ?_;replace h:=Option.some.inj h;subst h;exact en (by push_cast [hb1,hb2,hc3i])
noncomputable def Sq (a0 : Aj) (a1 : Aj) : Option (Aj):=
  some (Aj.mk 0 (min64 a0.high a1.high))
theorem Dd0 {a0 : Aj} {a1 : Aj} {r : Aj} (h : Sq a0 a1 = some r) : Ctr prog 242 [.agg (Bc a0),.agg (Bc a1)] [] (.agg (Bc r)) []:=by
 unfold Sq at h;refine Ctr.ofW Ba func242 rfl call242 0 _ ntmps242 [.cell 4 311] rfl rfl rfl (fun B=>?_);refine vs [2,3,4] fun _ k=>?_;push_cast;apply k;clear k;refine vs [4] fun _ k=>?_;push_cast;apply k;clear k;refine VC.ret ?_;replace h:=Option.some.inj h;subst h;exact en (by push_cast)
noncomputable def Oj (i_2 : UInt64) (i_3 : Bool) : Option ((UInt64) ⊕ (UInt64)):=
  cond i_3 (
  some (Sum.inl (i_2 * 2))) (
  some (Sum.inr i_2))
noncomputable def Om (a0 : UInt64) (a1 : UInt64) (i_2 : UInt64) : Option ((UInt64) ⊕ (UInt64)):=
  po (
  cond (decide (i_2.toNat ≤ a0.toNat)) (
  some true) (
  some (decide (i_2.toNat ≤ a1.toNat)))) (fun x=>Oj i_2 x)
noncomputable def Oo (i_5 : UInt64) : Option (UInt64):=
  some i_5
noncomputable def Mf (a0 : UInt64) (a1 : UInt64) : Option (UInt64):=
  po (
  lpU (fun x=>Om a0 a1 x) 1) (fun x=>Oo x)
theorem Ye {a0 : UInt64} {a1 : UInt64} {r : UInt64} (h : Mf a0 a1 = some r) : Ctr prog 244 [.raw (.int .u64 (a0.toNat : Int)),.raw (.int .u64 (a1.toNat : Int))] [] (.raw (.int .u64 (r.toNat : Int))) []:=by
 unfold Mf at h;refine Ctr.ofW Ba func244 rfl call244 0 _ ntmps244 [.tmp 4] rfl rfl rfl (fun B=>?_);refine vs [0,1] fun _ k=>?_;push_cast;apply k;clear k;refine vs [0,1,5] fun _ k=>?_;push_cast;apply k;clear k;refine vj h (fun x=>⟨[(5,.raw (.int .u64 (x.toNat : Int)))],[],21,17,0⟩) (fun v1 h hk1=>?_) ?_
 ·refine VC.block ?_;refine VC.loopP h (fun x=>⟨[(0,.raw (.int .u64 (a0.toNat : Int))),(1,.raw (.int .u64 (a1.toNat : Int))),(5,.raw (.int .u64 (x.toNat : Int)))],[],13,17,0⟩) ?_ ?_
  ·exact sl (by push_cast)
  rintro i_2 b2 (h : Om a0 a1 i_2 = some b2) hf2;(try push_cast);unfold Om at h;refine VC.seq ?_;refine vj h (fun x=>⟨[(0,.raw (.int .u64 (a0.toNat : Int))),(1,.raw (.int .u64 (a1.toNat : Int))),(5,.raw (.int .u64 (i_2.toNat : Int))),(13,rb x)],[],21,17,0⟩) (fun v3 h hk3=>?_) ?_
  ·rcases bt (decide (i_2.toNat ≤ a0.toNat)) with hb4 | hb4
   ·replace h:=Ao hb4 h;refine vlG [some 6,some 7,some 8,some 9,some 10,some 11,some 12,some 13] fun _ k=>?_;push_cast [hb4];(repeat refine ao ?_);apply k;clear k;refine ar h hk3 ?_;exact sl (by push_cast [hb4])
   ·replace h:=Au hb4 h;refine vlG [some 6,some 7,some 8,some 9,some 10,some 11,some 12,some 13] fun _ k=>?_;push_cast [hb4];(repeat refine ao ?_);apply k;clear k;refine ar h hk3 ?_;exact sl (by push_cast [hb4])
  ·rintro i_3 (h : Oj i_2 i_3 = some b2);(try push_cast);unfold Oj at h;refine vc h (fun hb5 h=>?_) (fun hb5 h=>?_)
   ·refine VC.skip ?_;refine VC.block ?_;refine vl fun _ k=>?_;push_cast;apply k;clear k;refine bk h ?_;exact sl (by push_cast [hb5])
   ·refine VC.exit ?_;replace h:=ol h hf2;refine ar h hk1 ?_;exact sl (by push_cast [hb5])
 ·rintro i_5 (h : Oo i_5 = some r);(try push_cast);unfold Oo at h;refine vs [4] fun _ k=>?_;push_cast;apply k;clear k;refine VC.ret ?_;replace h:=Option.some.inj h;subst h;exact en (by push_cast)
noncomputable def Ud (a0 : Aj) (a1 : Aj) : Option (Aj):=
  po (Mf a0.high a1.high) fun r1=>
  some (Aj.mk (max64 a0.low a1.low) (r1 - 1))
theorem Dj0 {a0 : Aj} {a1 : Aj} {r : Aj} (h : Ud a0 a1 = some r) : Ctr prog 243 [.agg (Bc a0),.agg (Bc a1)] [] (.agg (Bc r)) []:=by
 unfold Ud at h;refine Ctr.ofW Ba func243 rfl call243 0 _ ntmps243 [.cell 4 311] rfl rfl rfl (fun B=>?_);refine vs [2,3,4] fun _ k=>?_;push_cast;apply k;clear k;obtain ⟨r1,hr1,h⟩:=Aa h;refine vsD [some 5,some 6,some 7,some 8,some 9,some 10,some 11,some 12,some 13,some 14,some 15,some 16,none] [4] fun _ k=>?_;refine Ch 8 fun _ l=>?_;push_cast;apply l;clear l;simp only [List.drop_succ_cons,List.drop_zero];push_cast;refine cpD (Ye hr1) ?_;push_cast;refine ⟨rfl,k _ ?_⟩;clear k;refine VC.ret ?_;replace h:=Option.some.inj h;subst h;exact en (by push_cast)
noncomputable def Sx (a0 : Aj) (a1 : Aj) : Option (Aj):=
  po (Mf a0.high a1.high) fun r1=>
  some (Aj.mk 0 (r1 - 1))
theorem Db0 {a0 : Aj} {a1 : Aj} {r : Aj} (h : Sx a0 a1 = some r) : Ctr prog 245 [.agg (Bc a0),.agg (Bc a1)] [] (.agg (Bc r)) []:=by
 unfold Sx at h;refine Ctr.ofW Ba func245 rfl call245 0 _ ntmps245 [.cell 4 311] rfl rfl rfl (fun B=>?_);refine vs [2,3,4] fun _ k=>?_;push_cast;apply k;clear k;obtain ⟨r1,hr1,h⟩:=Aa h;refine vs [4] fun _ k=>?_;push_cast;refine cp (Ye hr1) ?_;push_cast;apply k;clear k;refine VC.ret ?_;replace h:=Option.some.inj h;subst h;exact en (by push_cast)
noncomputable def Yt : Option (Unit):=
  some ()
theorem Ex {r : Unit} (h : Yt = some r) : Ctr prog 234 [] [] (.agg [.fn (.func 236) [] [],.fn (.func 237) [] [],.fn (.func 238) [] [],.fn (.func 239) [] [],.fn (.func 240) [] [],.fn (.func 241) [] [],.fn (.func 242) [] [],.fn (.func 243) [] [],.fn (.func 245) [] [],.fn (.func 246) [] [],.fn (.func 247) [] []]) []:=by
 unfold Yt at h;refine Ctr.ofW Ba func234 rfl call234 0 _ ntmps234 [.cell 0 318] rfl rfl rfl (fun B=>?_);refine vs [0] fun _ k=>?_;push_cast;apply k;clear k;refine vs [0] fun _ k=>?_;push_cast;apply k;clear k;refine VC.ret ?_;replace h:=Option.some.inj h;subst h;exact en (by push_cast)
noncomputable def Qp (a0 : Int) (a1 : C128) (a2 : C128) (i_1 : Bool) : Option (C128):=
  cond i_1 (
  po (Ga 1 0) fun r4=>
  po (Bt r4) fun r5=>
  some r5) (
  po (some ()) fun r7=>
  cond (a0 == 0) (
  po (Bu a1) fun r9=>
  po (Bu a2) fun r10=>
  po (Sr r9 r10) fun r11=>
  po (Bt r11) fun r12=>
  some r12) (
  cond (a0 == 1) (
  po (Bu a1) fun r14=>
  po (Bu a2) fun r15=>
  po (Ub r14 r15) fun r16=>
  po (Bt r16) fun r17=>
  some r17) (
  cond (a0 == 2) (
  po (Bu a1) fun r19=>
  po (Bu a2) fun r20=>
  po (Ps r19 r20) fun r21=>
  po (Bt r21) fun r22=>
  some r22) (
  cond (a0 == 3) (
  po (Bu a1) fun r24=>
  po (Bu a2) fun r25=>
  po (Sw r24 r25) fun r26=>
  po (Bt r26) fun r27=>
  some r27) (
  cond (a0 == 4) (
  po (Bu a1) fun r29=>
  po (Bu a2) fun r30=>
  po (Qc r29 r30) fun r31=>
  po (Bt r31) fun r32=>
  some r32) (
  cond (a0 == 5) (
  po (Bu a1) fun r34=>
  po (Bu a2) fun r35=>
  po (Qa r34 r35) fun r36=>
  po (Bt r36) fun r37=>
  some r37) (
  cond (a0 == 6) (
  po (Bu a1) fun r39=>
  po (Bu a2) fun r40=>
  po (Sq r39 r40) fun r41=>
  po (Bt r41) fun r42=>
  some r42) (
  cond (a0 == 7) (
  po (Bu a1) fun r44=>
  po (Bu a2) fun r45=>
  po (Ud r44 r45) fun r46=>
  po (Bt r46) fun r47=>
  some r47) (
  cond (a0 == 8) (
  po (Bu a1) fun r49=>
  po (Bu a2) fun r50=>
  po (Sx r49 r50) fun r51=>
  po (Bt r51) fun r52=>
  some r52) (
  cond (a0 == 9) (
  po (Bu a1) fun r54=>
  po (Bu a2) fun r55=>
  po (Ot r54 r55) fun r56=>
  po (Bt r56) fun r57=>
  some r57) (
  cond (a0 == 10) (
  po (Bu a1) fun r59=>
  po (Bu a2) fun r60=>
  po (On r59 r60) fun r61=>
  po (Bt r61) fun r62=>
  some r62) (
  none))))))))))))
noncomputable def Rm (a0 : Int) (a1 : C128) (a2 : C128) : Option (C128):=
  po (
  cond (decide (a0 < 0)) (
  some true) (
  some (decide (a0 ≥ 11)))) (fun x=>Qp a0 a1 a2 x)
theorem Gr0 {a0 : Int} {a1 : C128} {a2 : C128} {r : C128} (h : Rm a0 a1 a2 = some r) : Ctr prog 212 [ri a0,.raw (.complex .f64 a1.re a1.im),.raw (.complex .f64 a2.re a2.im)] [] (.raw (.complex .f64 r.re r.im)) []:=by
 unfold Rm at h;refine Ctr.ofW Ba func212 rfl call212 0 _ ntmps212 [.tmp 6] rfl rfl rfl (fun B=>?_);refine vs [0,1,2] fun _ k=>?_;push_cast;apply k;clear k;refine VC.seq ?_;refine vj h (fun x=>⟨[(0,ri a0),(1,.raw (.complex .f64 a1.re a1.im)),(2,.raw (.complex .f64 a2.re a2.im)),(12,rb x)],[],7,24,0⟩) (fun v1 h hk1=>?_) ?_
 ·rcases bt (decide (a0 < 0)) with hb2 | hb2
  ·replace h:=Ao hb2 h;refine vlG [some 7,some 8,some 9,some 10,some 11,some 12] fun _ k=>?_;push_cast [hb2];(repeat refine ao ?_);apply k;clear k;refine ar h hk1 ?_;exact sl (by push_cast [hb2])
  ·replace h:=Au hb2 h;refine vlG [some 7,some 8,some 9,some 10,some 11,some 12] fun _ k=>?_;push_cast [hb2];(repeat refine ao ?_);apply k;clear k;refine ar h hk1 ?_;exact sl (by push_cast [hb2])
 ·rintro i_1 (h : Qp a0 a1 a2 i_1 = some r);(try push_cast);unfold Qp at h;refine vc h (fun hb3 h=>?_) (fun hb3 h=>?_)
  ·obtain ⟨r4,hr4,h⟩:=Aa h;obtain ⟨r5,hr5,h⟩:=Aa h;refine vs [6] fun _ k=>?_;push_cast;refine cp (Mw hr4) ?_;push_cast;refine cp (Co hr5) ?_;push_cast;apply k;clear k;refine VC.ret ?_;replace h:=Option.some.inj h;subst h;exact en (by push_cast [hb3])
  ·refine VC.skip ?_;obtain ⟨r7,hr7,h⟩:=Aa h;rcases bt (a0 == 0) with hb8 | hb8
   ·replace h:=Ao hb8 h;have hb8e : a0 = 0:=by simpa using hb8
    have hb8n : a0.toNat = 0:=by omega
    obtain ⟨r9,hr9,h⟩:=Aa h;obtain ⟨r10,hr10,h⟩:=Aa h;obtain ⟨r11,hr11,h⟩:=Aa h;obtain ⟨r12,hr12,h⟩:=Aa h;refine vsD [some 15,some 16,some 17,some 18,some 19,some 20,some 21,some 22,some 23,some 6] [6] fun _ k=>?_;push_cast [hb8n];(repeat refine ao ?_);refine cpD (Ex hr7) ?_;push_cast [hb8n];(repeat refine ao ?_);refine cpD (Cm hr9) ?_;push_cast [hb8n];(repeat refine ao ?_);refine cpD (Cm hr10) ?_;push_cast [hb8n];(repeat refine ao ?_);refine cpD (Dn0 hr11) ?_;push_cast [hb8n];(repeat refine ao ?_);refine cpD (Co hr12) ?_;push_cast [hb8n];(repeat refine ao ?_);refine ⟨rfl,k _ ?_⟩;clear k;refine VC.ret ?_;replace h:=Option.some.inj h;subst h;exact en (by push_cast [hb3])
   ·replace h:=Au hb8 h;rcases bt (a0 == 1) with hb13 | hb13
    ·replace h:=Ao hb13 h;have hb13e : a0 = 1:=by simpa using hb13
     have hb13n : a0.toNat = 1:=by omega
     obtain ⟨r14,hr14,h⟩:=Aa h;obtain ⟨r15,hr15,h⟩:=Aa h;obtain ⟨r16,hr16,h⟩:=Aa h;obtain ⟨r17,hr17,h⟩:=Aa h;refine vsD [some 15,some 16,some 17,some 18,some 19,some 20,some 21,some 22,some 23,some 6] [6] fun _ k=>?_;push_cast [hb13n];(repeat refine ao ?_);refine cpD (Ex hr7) ?_;push_cast [hb13n];(repeat refine ao ?_);refine cpD (Cm hr14) ?_;push_cast [hb13n];(repeat refine ao ?_);refine cpD (Cm hr15) ?_;push_cast [hb13n];(repeat refine ao ?_);refine cpD (Dm0 hr16) ?_;push_cast [hb13n];(repeat refine ao ?_);refine cpD (Co hr17) ?_;push_cast [hb13n];(repeat refine ao ?_);refine ⟨rfl,k _ ?_⟩;clear k;refine VC.ret ?_;replace h:=Option.some.inj h;subst h;exact en (by push_cast [hb3])
    ·replace h:=Au hb13 h;rcases bt (a0 == 2) with hb18 | hb18
     ·replace h:=Ao hb18 h;have hb18e : a0 = 2:=by simpa using hb18
      have hb18n : a0.toNat = 2:=by omega
      obtain ⟨r19,hr19,h⟩:=Aa h;obtain ⟨r20,hr20,h⟩:=Aa h;obtain ⟨r21,hr21,h⟩:=Aa h;obtain ⟨r22,hr22,h⟩:=Aa h;refine vsD [some 15,some 16,some 17,some 18,some 19,some 20,some 21,some 22,some 23,some 6] [6] fun _ k=>?_;push_cast [hb18n];(repeat refine ao ?_);refine cpD (Ex hr7) ?_;push_cast [hb18n];(repeat refine ao ?_);refine cpD (Cm hr19) ?_;push_cast [hb18n];(repeat refine ao ?_);refine cpD (Cm hr20) ?_;push_cast [hb18n];(repeat refine ao ?_);refine cpD (Df0 hr21) ?_;push_cast [hb18n];(repeat refine ao ?_);refine cpD (Co hr22) ?_;push_cast [hb18n];(repeat refine ao ?_);refine ⟨rfl,k _ ?_⟩;clear k;refine VC.ret ?_;replace h:=Option.some.inj h;subst h;exact en (by push_cast [hb3])
     ·replace h:=Au hb18 h;rcases bt (a0 == 3) with hb23 | hb23
      ·replace h:=Ao hb23 h;have hb23e : a0 = 3:=by simpa using hb23
       have hb23n : a0.toNat = 3:=by omega
       obtain ⟨r24,hr24,h⟩:=Aa h;obtain ⟨r25,hr25,h⟩:=Aa h;obtain ⟨r26,hr26,h⟩:=Aa h;obtain ⟨r27,hr27,h⟩:=Aa h;refine vsD [some 15,some 16,some 17,some 18,some 19,some 20,some 21,some 22,some 23,some 6] [6] fun _ k=>?_;push_cast [hb23n];(repeat refine ao ?_);refine cpD (Ex hr7) ?_;push_cast [hb23n];(repeat refine ao ?_);refine cpD (Cm hr24) ?_;push_cast [hb23n];(repeat refine ao ?_);refine cpD (Cm hr25) ?_;push_cast [hb23n];(repeat refine ao ?_);refine cpD (De0 hr26) ?_;push_cast [hb23n];(repeat refine ao ?_);refine cpD (Co hr27) ?_;push_cast [hb23n];(repeat refine ao ?_);refine ⟨rfl,k _ ?_⟩;clear k;refine VC.ret ?_;replace h:=Option.some.inj h;subst h;exact en (by push_cast [hb3])
      ·replace h:=Au hb23 h;rcases bt (a0 == 4) with hb28 | hb28
       ·replace h:=Ao hb28 h;have hb28e : a0 = 4:=by simpa using hb28
        have hb28n : a0.toNat = 4:=by omega
        obtain ⟨r29,hr29,h⟩:=Aa h;obtain ⟨r30,hr30,h⟩:=Aa h;obtain ⟨r31,hr31,h⟩:=Aa h;obtain ⟨r32,hr32,h⟩:=Aa h;refine vsD [some 15,some 16,some 17,some 18,some 19,some 20,some 21,some 22,some 23,some 6] [6] fun _ k=>?_;push_cast [hb28n];(repeat refine ao ?_);refine cpD (Ex hr7) ?_;push_cast [hb28n];(repeat refine ao ?_);refine cpD (Cm hr29) ?_;push_cast [hb28n];(repeat refine ao ?_);refine cpD (Cm hr30) ?_;push_cast [hb28n];(repeat refine ao ?_);refine cpD (Da0 hr31) ?_;push_cast [hb28n];(repeat refine ao ?_);refine cpD (Co hr32) ?_;push_cast [hb28n];(repeat refine ao ?_);refine ⟨rfl,k _ ?_⟩;clear k;refine VC.ret ?_;replace h:=Option.some.inj h;subst h;exact en (by push_cast [hb3])
       ·replace h:=Au hb28 h;rcases bt (a0 == 5) with hb33 | hb33
        ·replace h:=Ao hb33 h;have hb33e : a0 = 5:=by simpa using hb33
         have hb33n : a0.toNat = 5:=by omega
         obtain ⟨r34,hr34,h⟩:=Aa h;obtain ⟨r35,hr35,h⟩:=Aa h;obtain ⟨r36,hr36,h⟩:=Aa h;obtain ⟨r37,hr37,h⟩:=Aa h;refine vsD [some 15,some 16,some 17,some 18,some 19,some 20,some 21,some 22,some 23,some 6] [6] fun _ k=>?_;push_cast [hb33n];(repeat refine ao ?_);refine cpD (Ex hr7) ?_;push_cast [hb33n];(repeat refine ao ?_);refine cpD (Cm hr34) ?_;push_cast [hb33n];(repeat refine ao ?_);refine cpD (Cm hr35) ?_;push_cast [hb33n];(repeat refine ao ?_);refine cpD (Dc0 hr36) ?_;push_cast [hb33n];(repeat refine ao ?_);refine cpD (Co hr37) ?_;push_cast [hb33n];(repeat refine ao ?_);refine ⟨rfl,k _ ?_⟩;clear k;refine VC.ret ?_;replace h:=Option.some.inj h;subst h;exact en (by push_cast [hb3])
        ·replace h:=Au hb33 h;rcases bt (a0 == 6) with hb38 | hb38
         ·replace h:=Ao hb38 h;have hb38e : a0 = 6:=by simpa using hb38
          have hb38n : a0.toNat = 6:=by omega
          obtain ⟨r39,hr39,h⟩:=Aa h;obtain ⟨r40,hr40,h⟩:=Aa h;obtain ⟨r41,hr41,h⟩:=Aa h;obtain ⟨r42,hr42,h⟩:=Aa h;refine vsD [some 15,some 16,some 17,some 18,some 19,some 20,some 21,some 22,some 23,some 6] [6] fun _ k=>?_;push_cast [hb38n];(repeat refine ao ?_);refine cpD (Ex hr7) ?_;push_cast [hb38n];(repeat refine ao ?_);refine cpD (Cm hr39) ?_;push_cast [hb38n];(repeat refine ao ?_);refine cpD (Cm hr40) ?_;push_cast [hb38n];(repeat refine ao ?_);refine cpD (Dd0 hr41) ?_;push_cast [hb38n];(repeat refine ao ?_);refine cpD (Co hr42) ?_;push_cast [hb38n];(repeat refine ao ?_);refine ⟨rfl,k _ ?_⟩;clear k;refine VC.ret ?_;replace h:=Option.some.inj h;subst h;exact en (by push_cast [hb3])
         ·replace h:=Au hb38 h;rcases bt (a0 == 7) with hb43 | hb43
          ·replace h:=Ao hb43 h;have hb43e : a0 = 7:=by simpa using hb43
           have hb43n : a0.toNat = 7:=by omega
           obtain ⟨r44,hr44,h⟩:=Aa h;obtain ⟨r45,hr45,h⟩:=Aa h;obtain ⟨r46,hr46,h⟩:=Aa h;obtain ⟨r47,hr47,h⟩:=Aa h;refine vsD [some 15,some 16,some 17,some 18,some 19,some 20,some 21,some 22,some 23,some 6] [6] fun _ k=>?_;push_cast [hb43n];(repeat refine ao ?_);refine cpD (Ex hr7) ?_;push_cast [hb43n];(repeat refine ao ?_);refine cpD (Cm hr44) ?_;push_cast [hb43n];(repeat refine ao ?_);refine cpD (Cm hr45) ?_;push_cast [hb43n];(repeat refine ao ?_);refine cpD (Dj0 hr46) ?_;push_cast [hb43n];(repeat refine ao ?_);refine cpD (Co hr47) ?_;push_cast [hb43n];(repeat refine ao ?_);refine ⟨rfl,k _ ?_⟩;clear k;refine VC.ret ?_;replace h:=Option.some.inj h;subst h;exact en (by push_cast [hb3])
          ·replace h:=Au hb43 h;rcases bt (a0 == 8) with hb48 | hb48
           ·replace h:=Ao hb48 h;have hb48e : a0 = 8:=by simpa using hb48
            have hb48n : a0.toNat = 8:=by omega
            obtain ⟨r49,hr49,h⟩:=Aa h;obtain ⟨r50,hr50,h⟩:=Aa h;obtain ⟨r51,hr51,h⟩:=Aa h;obtain ⟨r52,hr52,h⟩:=Aa h;refine vsD [some 15,some 16,some 17,some 18,some 19,some 20,some 21,some 22,some 23,some 6] [6] fun _ k=>?_;push_cast [hb48n];(repeat refine ao ?_);refine cpD (Ex hr7) ?_;push_cast [hb48n];(repeat refine ao ?_);refine cpD (Cm hr49) ?_;push_cast [hb48n];(repeat refine ao ?_);refine cpD (Cm hr50) ?_;push_cast [hb48n];(repeat refine ao ?_);refine cpD (Db0 hr51) ?_;push_cast [hb48n];(repeat refine ao ?_);refine cpD (Co hr52) ?_;push_cast [hb48n];(repeat refine ao ?_);refine ⟨rfl,k _ ?_⟩;clear k;refine VC.ret ?_;replace h:=Option.some.inj h;subst h;exact en (by push_cast [hb3])
           ·replace h:=Au hb48 h;rcases bt (a0 == 9) with hb53 | hb53
            ·replace h:=Ao hb53 h;have hb53e : a0 = 9:=by simpa using hb53
             have hb53n : a0.toNat = 9:=by omega
             obtain ⟨r54,hr54,h⟩:=Aa h;obtain ⟨r55,hr55,h⟩:=Aa h;obtain ⟨r56,hr56,h⟩:=Aa h;obtain ⟨r57,hr57,h⟩:=Aa h;refine vsD [some 15,some 16,some 17,some 18,some 19,some 20,some 21,some 22,some 23,some 6] [6] fun _ k=>?_;push_cast [hb53n];(repeat refine ao ?_);refine cpD (Ex hr7) ?_;push_cast [hb53n];(repeat refine ao ?_);refine cpD (Cm hr54) ?_;push_cast [hb53n];(repeat refine ao ?_);refine cpD (Cm hr55) ?_;push_cast [hb53n];(repeat refine ao ?_);refine cpD (Ct0 hr56) ?_;push_cast [hb53n];(repeat refine ao ?_);refine cpD (Co hr57) ?_;push_cast [hb53n];(repeat refine ao ?_);refine ⟨rfl,k _ ?_⟩;clear k;refine VC.ret ?_;replace h:=Option.some.inj h;subst h;exact en (by push_cast [hb3])
            ·replace h:=Au hb53 h;rcases bt (a0 == 10) with hb58 | hb58
             ·replace h:=Ao hb58 h;have hb58e : a0 = 10:=by simpa using hb58
              have hb58n : a0.toNat = 10:=by omega
              obtain ⟨r59,hr59,h⟩:=Aa h;obtain ⟨r60,hr60,h⟩:=Aa h;obtain ⟨r61,hr61,h⟩:=Aa h;obtain ⟨r62,hr62,h⟩:=Aa h;refine vsD [some 15,some 16,some 17,some 18,some 19,some 20,some 21,some 22,some 23,some 6] [6] fun _ k=>?_;push_cast [hb58n];(repeat refine ao ?_);refine cpD (Ex hr7) ?_;push_cast [hb58n];(repeat refine ao ?_);refine cpD (Cm hr59) ?_;push_cast [hb58n];(repeat refine ao ?_);refine cpD (Cm hr60) ?_;push_cast [hb58n];(repeat refine ao ?_);refine cpD (Cn0 hr61) ?_;push_cast [hb58n];(repeat refine ao ?_);refine cpD (Co hr62) ?_;push_cast [hb58n];(repeat refine ao ?_);refine ⟨rfl,k _ ?_⟩;clear k;refine VC.ret ?_;replace h:=Option.some.inj h;subst h;exact en (by push_cast [hb3])
             ·replace h:=Au hb58 h;cases h
noncomputable def Pq (r1 : Aj) (i_3 : Bool) : Option (Aj × Bool):=
  cond i_3 (
  some ((Aj.mk r1.low (r1.high - 1)),true)) (
  some (r1,true))
noncomputable def Pt (r1 : Aj) (r2 : Aj) (i_2 : Bool) : Option (Aj × Bool):=
  cond i_2 (
  some ((Aj.mk (r1.low + 1) r1.high),true)) (
  po (
  cond ((r2.low.toNat : Int) == (r2.high.toNat : Int)) (
  some ((r1.high.toNat : Int) == (r2.low.toNat : Int))) (
  some false)) (fun x=>Pq r1 x))
noncomputable def Qs (r1 : Aj) (r2 : Aj) (i_1 : Bool) : Option (Aj × Bool):=
  cond i_1 (
  some (r1,false)) (
  po (
  cond ((r2.low.toNat : Int) == (r2.high.toNat : Int)) (
  some ((r1.low.toNat : Int) == (r2.low.toNat : Int))) (
  some false)) (fun x=>Pt r1 r2 x))
noncomputable def Pu (s_4 : Aj) (i_6 : Bool) : Option (C128 × Bool):=
  cond i_6 (
  po (Ga 1 0) fun r23=>
  po (Bt r23) fun r24=>
  some (r24,false)) (
  po (Bt s_4) fun r25=>
  some (r25,true))
noncomputable def Qw (s_4 : Aj) (i_5 : Bool) : Option (C128 × Bool):=
  po (
  cond i_5 (
  some (decide (s_4.low.toNat > s_4.high.toNat))) (
  some true)) (fun x=>Pu s_4 x)
noncomputable def Ri (a0 : Int) (a1 : C128) (a2 : C128) : Option (C128 × Bool):=
  po (Bu a1) fun r1=>
  po (Bu a2) fun r2=>
  po (
  cond (a0 == 1) (
  some ((Aj.mk (max64 r1.low r2.low) (min64 r1.high r2.high)),true)) (
  cond (a0 == 2) (
  po (
  cond ((r2.low.toNat : Int) == (r2.high.toNat : Int)) (
  cond ((r1.low.toNat : Int) == (r2.low.toNat : Int)) (
  some ((r1.high.toNat : Int) == (r2.low.toNat : Int))) (
  some false)) (
  some false)) (fun x=>Qs r1 r2 x)) (
  cond (a0 == 3) (
  cond (decide ((r2.high.toNat : Int) > 0)) (
  pl ((r2.high - 1)) fun c18=>
  some ((Aj.mk r1.low (min64 r1.high c18)),(decide ((r2.high.toNat : Int) > 0)))) (
  some (r1,(decide ((r2.high.toNat : Int) > 0))))) (
  cond (a0 == 4) (
  some ((Aj.mk (max64 r1.low r2.low) r1.high),true)) (
  some (r1,true)))))) (fun x=>Qw x.1 x.2)
theorem Fw0 {a0 : Int} {a1 : C128} {a2 : C128} {r : C128 × Bool} (h : Ri a0 a1 a2 = some r) : Ctr prog 215 [ri a0,.raw (.complex .f64 a1.re a1.im),.raw (.complex .f64 a2.re a2.im)] [] (.tup [.raw (.complex .f64 r.1.re r.1.im),rb r.2]) []:=by
 unfold Ri at h;refine Ctr.ofW Ba func215 rfl call215 0 _ ntmps215 [.tmp 6,.tmp 7] rfl rfl rfl (fun B=>?_);refine vs [0,1,2] fun _ k=>?_;push_cast;apply k;clear k;obtain ⟨r1,hr1,h⟩:=Aa h;obtain ⟨r2,hr2,h⟩:=Aa h;refine vs [0,8,9] fun _ k=>?_;push_cast;refine cp (Cm hr1) ?_;push_cast;refine cp (Cm hr2) ?_;push_cast;apply k;clear k;refine vs [0,8,9,10] fun _ k=>?_;push_cast;apply k;clear k;refine vj h (fun x=>⟨[(8,.ref 6 0),(10,rb x.2)],[(6,.box 311 (Bc x.1))],61,114,0⟩) (fun v3 h hk3=>?_) ?_
 ·refine vs [8,9,10,16] fun _ k=>?_;push_cast;apply k;clear k;refine VC.block ?_;refine vs [8,9,10,16,17] fun _ k=>?_;push_cast;apply k;clear k;refine vc h (fun hb4 h=>?_) (fun hb4 h=>?_)
  ·refine vlD [some 19,some 20,some 21,some 22,some 23,some 24,some 25,some 26,some 27,some 28,some 29,none,some 30,none] fun _ k=>?_;refine Ch 8 fun _ l=>?_;push_cast;apply l;clear l;simp only [List.drop_succ_cons,List.drop_zero];push_cast;refine ⟨rfl,k _ ?_⟩;clear k;refine ar h hk3 ?_;exact sl (by push_cast [hb4])
  ·refine vs [8,9,10,16,31] fun _ k=>?_;push_cast;apply k;clear k;refine vc h (fun hb5 h=>?_) (fun hb5 h=>?_)
   ·refine vs [8,9,10,11] fun _ k=>?_;push_cast;apply k;clear k;refine VC.block ?_;refine vj h (fun x=>⟨[(8,.ref 6 0),(9,.ref 7 0),(10,rb true),(11,rb ((r2.low.toNat : Int) == (r2.high.toNat : Int))),(38,rb x)],[(6,.box 311 (Bc r1)),(7,.box 311 (Bc r2))],38,114,0⟩) (fun v6 h hk6=>?_) ?_
    ·rcases bt ((r2.low.toNat : Int) == (r2.high.toNat : Int)) with hb7 | hb7
     ·replace h:=Ao hb7 h;rcases bt ((r1.low.toNat : Int) == (r2.low.toNat : Int)) with hb8 | hb8
      ·replace h:=Ao hb8 h;refine vlG [some 39,some 40,some 41,some 42,some 43,some 44,some 45,some 46,some 47,some 48,some 49,some 50,some 51,some 52,some 53,some 38] fun _ k=>?_;refine Ag 8 fun _ l=>?_;push_cast [hb7,hb8];(repeat refine ao ?_);apply l;clear l;simp only [List.drop_succ_cons,List.drop_zero];push_cast [hb7,hb8];(repeat refine ao ?_);apply k;clear k;refine ar h hk6 ?_;exact sl (by push_cast [hb4,hb5,hb7,hb8])
      ·replace h:=Au hb8 h;refine vlG [some 39,some 40,some 41,some 42,some 43,some 44,some 45,some 46,some 47,some 48,some 49,some 50,some 51,some 52,some 53,some 38] fun _ k=>?_;refine Ag 8 fun _ l=>?_;push_cast [hb7,hb8];(repeat refine ao ?_);apply l;clear l;simp only [List.drop_succ_cons,List.drop_zero];push_cast [hb7,hb8];(repeat refine ao ?_);apply k;clear k;refine ar h hk6 ?_;exact sl (by push_cast [hb4,hb5,hb7,hb8])
     ·replace h:=Au hb7 h;refine vlG [some 39,some 40,some 41,some 42,some 43,some 44,some 45,some 46,some 47,some 48,some 49,some 50,some 51,some 52,some 53,some 38] fun _ k=>?_;refine Ag 8 fun _ l=>?_;push_cast [hb7];(repeat refine ao ?_);apply l;clear l;simp only [List.drop_succ_cons,List.drop_zero];push_cast [hb7];(repeat refine ao ?_);apply k;clear k;refine ar h hk6 ?_;exact sl (by push_cast [hb4,hb5,hb7])
    ·rintro i_1 (h : Qs r1 r2 i_1 = some v3);(try push_cast);unfold Qs at h;refine vc h (fun hb9 h=>?_) (fun hb9 h=>?_)
     ·refine vl fun _ k=>?_;push_cast;apply k;clear k;refine ar h hk3 ?_;exact sl (by push_cast [hb4,hb5,hb9])
     ·refine vj h (fun x=>⟨[(8,.ref 6 0),(9,.ref 7 0),(10,rb true),(11,rb ((r2.low.toNat : Int) == (r2.high.toNat : Int))),(54,rb x)],[(6,.box 311 (Bc r1)),(7,.box 311 (Bc r2))],47,114,0⟩) (fun v10 h hk10=>?_) ?_
      ·rcases bt ((r2.low.toNat : Int) == (r2.high.toNat : Int)) with hb11 | hb11
       ·replace h:=Ao hb11 h;refine vlG [some 55,some 56,some 57,some 58,some 59,some 60,some 61,some 62,some 54] fun _ k=>?_;push_cast [hb11];(repeat refine ao ?_);apply k;clear k;refine ar h hk10 ?_;exact sl (by push_cast [hb4,hb5,hb9,hb11])
       ·replace h:=Au hb11 h;refine vlG [some 55,some 56,some 57,some 58,some 59,some 60,some 61,some 62,some 54] fun _ k=>?_;push_cast [hb11];(repeat refine ao ?_);apply k;clear k;refine ar h hk10 ?_;exact sl (by push_cast [hb4,hb5,hb9,hb11])
      ·rintro i_2 (h : Pt r1 r2 i_2 = some v3);(try push_cast);unfold Pt at h;refine vc h (fun hb12 h=>?_) (fun hb12 h=>?_)
       ·refine vl fun _ k=>?_;push_cast;apply k;clear k;refine ar h hk3 ?_;exact sl (by push_cast [hb4,hb5,hb9,hb12])
       ·refine vj h (fun x=>⟨[(8,.ref 6 0),(10,rb true),(67,rb x)],[(6,.box 311 (Bc r1))],56,114,0⟩) (fun v13 h hk13=>?_) ?_
        ·rcases bt ((r2.low.toNat : Int) == (r2.high.toNat : Int)) with hb14 | hb14
         ·replace h:=Ao hb14 h;refine vlG [some 68,some 69,some 70,some 71,some 72,some 73,some 74,some 75,some 67] fun _ k=>?_;push_cast [hb14];(repeat refine ao ?_);apply k;clear k;refine ar h hk13 ?_;exact sl (by push_cast [hb4,hb5,hb9,hb12,hb14])
         ·replace h:=Au hb14 h;refine vlG [some 68,some 69,some 70,some 71,some 72,some 73,some 74,some 75,some 67] fun _ k=>?_;push_cast [hb14];(repeat refine ao ?_);apply k;clear k;refine ar h hk13 ?_;exact sl (by push_cast [hb4,hb5,hb9,hb12,hb14])
        ·rintro i_3 (h : Pq r1 i_3 = some v3);(try push_cast);unfold Pq at h;refine vc h (fun hb15 h=>?_) (fun hb15 h=>?_)
         ·refine vl fun _ k=>?_;push_cast;apply k;clear k;refine ar h hk3 ?_;exact sl (by push_cast [hb4,hb5,hb9,hb12,hb15])
         ·refine VC.skip ?_;refine ar h hk3 ?_;exact sl (by push_cast [hb4,hb5,hb9,hb12,hb15])
   ·refine vs [8,9,10,16,80] fun _ k=>?_;push_cast;apply k;clear k;refine vc h (fun hb16 h=>?_) (fun hb16 h=>?_)
    ·refine vs [8,9,10] fun _ k=>?_;push_cast;apply k;clear k;refine vs [8,9,10,85] fun _ k=>?_;push_cast;apply k;clear k;refine vc h (fun hb17 h=>?_) (fun hb17 h=>?_)
     ·obtain ⟨c18,hc18,h⟩:=Bo h;have hc18i : (((r2.high - 1)).toNat : Int) = (c18.toNat : Int):=by rw [hc18]
      push_cast at hc18i;refine vl fun _ k=>?_;push_cast [hc18i];(repeat refine ao ?_);apply k;clear k;refine ar h hk3 ?_;exact sl (by push_cast [hb4,hb5,hb16,hb17,hc18i])
     ·refine VC.skip ?_;refine ar h hk3 ?_;exact sl (by push_cast [hb4,hb5,hb16,hb17])
    ·refine vs [8,9,10,93] fun _ k=>?_;push_cast;apply k;clear k;refine vc h (fun hb19 h=>?_) (fun hb19 h=>?_)
     ·refine vl fun _ k=>?_;push_cast;apply k;clear k;refine ar h hk3 ?_;exact sl (by push_cast [hb4,hb5,hb16,hb19])
     ·refine VC.skip ?_;refine ar h hk3 ?_;exact sl (by push_cast [hb4,hb5,hb16,hb19])
 ·rintro ⟨s_4,i_5⟩ (h : Qw s_4 i_5 = some r);(try push_cast);unfold Qw at h;refine VC.seq ?_;refine vj h (fun x=>⟨[(8,.ref 6 0),(109,rb x)],[(6,.box 311 (Bc s_4))],70,114,0⟩) (fun v20 h hk20=>?_) ?_
  ·rcases bt i_5 with hb21 | hb21
   ·replace h:=Ao hb21 h;refine vlG [some 101,some 102,some 103,some 104,some 105,some 106,some 107,some 108,some 109] fun _ k=>?_;push_cast [hb21];(repeat refine ao ?_);apply k;clear k;refine ar h hk20 ?_;exact sl (by push_cast [hb21])
   ·replace h:=Au hb21 h;refine vlG [some 101,some 102,some 103,some 104,some 105,some 106,some 107,some 108,some 109] fun _ k=>?_;push_cast [hb21];(repeat refine ao ?_);apply k;clear k;refine ar h hk20 ?_;exact sl (by push_cast [hb21])
  ·rintro i_6 (h : Pu s_4 i_6 = some r);(try push_cast);unfold Pu at h;refine vc h (fun hb22 h=>?_) (fun hb22 h=>?_)
   ·obtain ⟨r23,hr23,h⟩:=Aa h;obtain ⟨r24,hr24,h⟩:=Aa h;refine vs [6,7] fun _ k=>?_;push_cast;refine cp (Mw hr23) ?_;push_cast;refine cp (Co hr24) ?_;push_cast;apply k;clear k;refine VC.ret ?_;replace h:=Option.some.inj h;subst h;exact en (by push_cast [hb22])
   ·refine VC.skip ?_;obtain ⟨r25,hr25,h⟩:=Aa h;refine vs [6,7] fun _ k=>?_;push_cast;refine cp (Co hr25) ?_;push_cast;apply k;clear k;refine VC.ret ?_;replace h:=Option.some.inj h;subst h;exact en (by push_cast [hb22])
noncomputable def Ni (a0 : C128) (a1 : C128) : Option (C128):=
  po (Bu a0) fun r1=>
  po (Bu a1) fun r2=>
  pl ((min64 r1.low r2.low)) fun c3=>
  pl ((max64 r1.high r2.high)) fun c4=>
  po (Bt (Aj.mk c3 c4)) fun r5=>
  some r5
theorem Ez0 {a0 : C128} {a1 : C128} {r : C128} (h : Ni a0 a1 = some r) : Ctr prog 208 [.raw (.complex .f64 a0.re a0.im),.raw (.complex .f64 a1.re a1.im)] [] (.raw (.complex .f64 r.re r.im)) []:=by
 unfold Ni at h;refine Ctr.ofW Ba func208 rfl call208 0 _ ntmps208 [.tmp 4] rfl rfl rfl (fun B=>?_);refine vs [0,1] fun _ k=>?_;push_cast;apply k;clear k;obtain ⟨r1,hr1,h⟩:=Aa h;obtain ⟨r2,hr2,h⟩:=Aa h;refine vs [5,6] fun _ k=>?_;push_cast;refine cp (Cm hr1) ?_;push_cast;refine cp (Cm hr2) ?_;push_cast;apply k;clear k;obtain ⟨c3,hc3,h⟩:=Bo h;have hc3i : (((min64 r1.low r2.low)).toNat : Int) = (c3.toNat : Int):=by rw [hc3]
 push_cast at hc3i;obtain ⟨c4,hc4,h⟩:=Bo h;have hc4i : (((max64 r1.high r2.high)).toNat : Int) = (c4.toNat : Int):=by rw [hc4]
 push_cast at hc4i;obtain ⟨r5,hr5,h⟩:=Aa h;refine vs [4] fun _ k=>?_;refine Ag 8 fun _ l=>?_;push_cast [hc3i,hc4i];(repeat refine ao ?_);apply l;clear l;simp only [List.drop_succ_cons,List.drop_zero];push_cast [hc3i,hc4i];(repeat refine ao ?_);refine cp (Co hr5) ?_;push_cast [hc3i,hc4i];(repeat refine ao ?_);apply k;clear k;refine VC.ret ?_;replace h:=Option.some.inj h;subst h;exact en (by push_cast [hc3i,hc4i])
noncomputable def Nm (a0 : C128) : Option (UInt32 × UInt32 × Bool):=
  po (Iy a0) fun r1=>
  cond (!r1) (
  some (0,0,false)) (
  po (Bu a0) fun r3=>
  some (r3.low.toUInt32,r3.high.toUInt32,true))
theorem Aw0 {a0 : C128} {r : UInt32 × UInt32 × Bool} (h : Nm a0 = some r) : Ctr prog 219 [.raw (.complex .f64 a0.re a0.im)] [] (.tup [ru r.1,ru r.2.1,rb r.2.2]) []:=by
 unfold Nm at h;refine Ctr.ofW Ba func219 rfl call219 0 _ ntmps219 [.tmp 2,.tmp 3,.tmp 4] rfl rfl rfl (fun B=>?_);refine vs [0] fun _ k=>?_;push_cast;apply k;clear k;refine VC.seq ?_;obtain ⟨r1,hr1,h⟩:=Aa h;refine vs [0,8] fun _ k=>?_;push_cast;refine cp (Uz hr1) ?_;push_cast;apply k;clear k;refine vc h (fun hb2 h=>?_) (fun hb2 h=>?_)
 ·refine vs [2,3,4] fun _ k=>?_;push_cast;apply k;clear k;refine VC.ret ?_;replace h:=Option.some.inj h;subst h;exact en (by push_cast [hb2])
 ·refine VC.skip ?_;obtain ⟨r3,hr3,h⟩:=Aa h;refine vs [5] fun _ k=>?_;push_cast;refine cp (Cm hr3) ?_;push_cast;apply k;clear k;refine vsD [some 11,some 12,some 13,some 14,some 15,some 16,some 2,some 3,some 4] [2,3,4] fun _ k=>?_;push_cast;refine ⟨rfl,k _ ?_⟩;clear k;refine VC.ret ?_;replace h:=Option.some.inj h;subst h;exact en (by push_cast [hb2])
theorem sh_gS (a : A8 Bool) (r : List AV) {n : Nat} (hn : n < 8) : (.raw (.bool a.a0) :: .raw (.bool a.a1) :: .raw (.bool a.a2) :: .raw (.bool a.a3) :: .raw (.bool a.a4) :: .raw (.bool a.a5) :: .raw (.bool a.a6) :: .raw (.bool a.a7) :: r)[n]? = some (.raw (.bool (a.get n))):=by
  rcases A8.cases hn with rfl | rfl | rfl | rfl | rfl | rfl | rfl | rfl <;> rfl
theorem sh_gR (c0 c1 c2 c3 c4 c5 c6 c7 : AV) (b : A8 C128) (r : List AV) {n : Nat} (hn : n < 8) : (c0 :: c1 :: c2 :: c3 :: c4 :: c5 :: c6 :: c7 :: .raw (.complex .f64 b.a0.re b.a0.im) :: .raw (.complex .f64 b.a1.re b.a1.im) :: .raw (.complex .f64 b.a2.re b.a2.im) :: .raw (.complex .f64 b.a3.re b.a3.im) :: .raw (.complex .f64 b.a4.re b.a4.im) :: .raw (.complex .f64 b.a5.re b.a5.im) :: .raw (.complex .f64 b.a6.re b.a6.im) :: .raw (.complex .f64 b.a7.re b.a7.im) :: r)[8 + n]? = some (.raw (.complex .f64 (b.get n).re (b.get n).im)):=by
  rcases A8.cases hn with rfl | rfl | rfl | rfl | rfl | rfl | rfl | rfl <;> rfl
theorem sh_sS (a : A8 Bool) (r : List AV) (v : Bool) {n : Nat} (hn : n < 8) : (.raw (.bool a.a0) :: .raw (.bool a.a1) :: .raw (.bool a.a2) :: .raw (.bool a.a3) :: .raw (.bool a.a4) :: .raw (.bool a.a5) :: .raw (.bool a.a6) :: .raw (.bool a.a7) :: r).set n (.raw (.bool v)) = .raw (.bool (a.set n v).a0) :: .raw (.bool (a.set n v).a1) :: .raw (.bool (a.set n v).a2) :: .raw (.bool (a.set n v).a3) :: .raw (.bool (a.set n v).a4) :: .raw (.bool (a.set n v).a5) :: .raw (.bool (a.set n v).a6) :: .raw (.bool (a.set n v).a7) :: r:=by
  rcases A8.cases hn with rfl | rfl | rfl | rfl | rfl | rfl | rfl | rfl <;> rfl
theorem sh_sR (c0 c1 c2 c3 c4 c5 c6 c7 : AV) (b : A8 C128) (r : List AV) (x y : Nat) {n : Nat} (hn : n < 8) : (c0 :: c1 :: c2 :: c3 :: c4 :: c5 :: c6 :: c7 :: .raw (.complex .f64 b.a0.re b.a0.im) :: .raw (.complex .f64 b.a1.re b.a1.im) :: .raw (.complex .f64 b.a2.re b.a2.im) :: .raw (.complex .f64 b.a3.re b.a3.im) :: .raw (.complex .f64 b.a4.re b.a4.im) :: .raw (.complex .f64 b.a5.re b.a5.im) :: .raw (.complex .f64 b.a6.re b.a6.im) :: .raw (.complex .f64 b.a7.re b.a7.im) :: r).set (8 + n) (.raw (.complex .f64 x y)) = c0 :: c1 :: c2 :: c3 :: c4 :: c5 :: c6 :: c7 :: .raw (.complex .f64 (b.set n ⟨x,y⟩).a0.re (b.set n ⟨x,y⟩).a0.im) :: .raw (.complex .f64 (b.set n ⟨x,y⟩).a1.re (b.set n ⟨x,y⟩).a1.im) :: .raw (.complex .f64 (b.set n ⟨x,y⟩).a2.re (b.set n ⟨x,y⟩).a2.im) :: .raw (.complex .f64 (b.set n ⟨x,y⟩).a3.re (b.set n ⟨x,y⟩).a3.im) :: .raw (.complex .f64 (b.set n ⟨x,y⟩).a4.re (b.set n ⟨x,y⟩).a4.im) :: .raw (.complex .f64 (b.set n ⟨x,y⟩).a5.re (b.set n ⟨x,y⟩).a5.im) :: .raw (.complex .f64 (b.set n ⟨x,y⟩).a6.re (b.set n ⟨x,y⟩).a6.im) :: .raw (.complex .f64 (b.set n ⟨x,y⟩).a7.re (b.set n ⟨x,y⟩).a7.im) :: r:=by
  rcases A8.cases hn with rfl | rfl | rfl | rfl | rfl | rfl | rfl | rfl <;> rfl
def tabf (l : List (Nat × Nat)) (k : Nat) : Nat:=(look l k).getD k
def tabi (l : List (Nat × Nat)) : List (Nat × Nat):=l.map fun p=>(p.2,p.1)
def tabc (l : List (Nat × Nat)) : Bool:=l.all fun p=>tabf (tabi l) p.2 == p.1 && tabf l p.1 == p.2 && (look l p.2).isSome && (look (tabi l) p.1).isSome
theorem look_mem {α : Type} {l : List (Nat × α)} {k : Nat} {v : α} (h : look l k = some v) : (k,v) ∈ l:=by
  induction l with
  | nil=>cases h
  | cons p l ih=>
    obtain ⟨j,u⟩:=p
    simp only [look] at h
    split at h
    · rename_i e
      injection h with h
      rw [e,h]
      exact List.mem_cons_self
    · exact List.mem_cons_of_mem _ (ih h)
theorem Bij.tab {l : List (Nat × Nat)} (h : tabc l = true) : Bij (tabf l) (tabf (tabi l)):=by
  have key : ∀ p ∈ l,(tabf (tabi l) p.2 = p.1 ∧ tabf l p.1 = p.2) ∧ (look l p.2).isSome = true ∧ (look (tabi l) p.1).isSome = true:=by
    intro p hp
    have:=(List.all_eq_true.1 h) p hp
    simp only [Bool.and_eq_true,beq_iff_eq] at this
    exact ⟨⟨this.1.1.1,this.1.1.2⟩,this.1.2,this.2⟩
  constructor
  · intro k
    cases hl : look l k with
    | some v=>
      have e : tabf l k = v:=by simp [tabf,hl]
      rw [e]
      exact (key _ (look_mem hl)).1.1
    | none=>
      have e : tabf l k = k:=by simp [tabf,hl]
      rw [e]
      cases hi : look (tabi l) k with
      | none=>simp [tabf,hi]
      | some u=>
        obtain ⟨q,hq,e2⟩:=List.mem_map.1 (look_mem hi)
        injection e2 with e3 e4
        have:=(key q hq).2.1
        rw [e3,hl] at this
        cases this
  · intro k
    cases hi : look (tabi l) k with
    | some u=>
      have e : tabf (tabi l) k = u:=by simp [tabf,hi]
      rw [e]
      obtain ⟨q,hq,e2⟩:=List.mem_map.1 (look_mem hi)
      injection e2 with e3 e4
      have:=(key q hq).1.2
      rw [e4,e3] at this
      exact this
    | none=>
      have e : tabf (tabi l) k = k:=by simp [tabf,hi]
      rw [e]
      cases hl : look l k with
      | none=>simp [tabf,hl]
      | some v=>
        have:=(key _ (look_mem hl)).2.2
        rw [hi] at this
        cases this
attribute [push_cast] tabf tabi
theorem maxI_un (a b : Int) : maxI a b = if b > a then b else a:=rfl
theorem minI_un (a b : Int) : minI a b = if b < a then b else a:=rfl
attribute [push_cast] maxI_un minI_un
attribute [push_cast] Af sh_gS sh_gR sh_sS sh_sR
noncomputable def Vp (i_3 : Int) (s_4 : Ak) : Option ((Ak × Int) ⊕ ((Ak) ⊕ (Bool))):=
  some (Sum.inl (s_4,(IntKind.i64.wrap (i_3 + 1))))
noncomputable def Ow (a0 : Ak) (s_2 : Ak) (i_3 : Int) : Option ((Ak × Int) ⊕ ((Ak) ⊕ (Bool))):=
  cond (decide (i_3 < 8)) (
  pm (
  pg (0 ≤ i_3 ∧ i_3 < 8) <|
  cond (!(a0.Set.get i_3.toNat)) (
  pl (s_2.R.set i_3.toNat (C128.mk 0 0)) fun y7=>
  some (Sum.inl (Ak.mk s_2.Set y7))) (
  po (Iy (a0.R.get i_3.toNat)) fun r8=>
  cond (!r8) (
  some (Sum.inr (Sum.inr (Sum.inr false)))) (
  some (Sum.inl s_2)))) (fun x=>Vp i_3 x)) (
  some (Sum.inr (Sum.inl s_2)))
noncomputable def Ry (a0 : Ak) (s_7 : Ak) : Option (Bool):=
  some ((ceq s_7.R.a0 a0.R.a0) && ((ceq s_7.R.a1 a0.R.a1) && ((ceq s_7.R.a2 a0.R.a2) && ((ceq s_7.R.a3 a0.R.a3) && ((ceq s_7.R.a4 a0.R.a4) && ((ceq s_7.R.a5 a0.R.a5) && ((ceq s_7.R.a6 a0.R.a6) && (ceq s_7.R.a7 a0.R.a7))))))))
noncomputable def Gl (a0 : Ak) : Option (Bool):=
  pm (
  lpU (fun x=>Ow a0 x.1 x.2) (a0,0)) (fun x=>Ry a0 x)
theorem Ju {a0 : Ak} {r : Bool} (h : Gl a0 = some r) : Ctr prog 206 [.agg (Af a0)] [] (rb r) []:=by
 unfold Gl at h;refine Ctr.ofW Ba func206 rfl call206 0 _ ntmps206 [.tmp 2] rfl rfl rfl (fun B=>?_);refine vs [1] fun _ k=>?_;push_cast;apply k;clear k;refine vs [1,3] fun _ k=>?_;push_cast;apply k;clear k;refine vm h (fun x=>⟨[(1,.ref 0 0),(3,.ref 3 0)],[(0,.box 217 (Af a0)),(3,.box 217 (Af x))],23,29,0⟩) (fun v1 h hk1=>?_) ?_
 ·refine vs [1,3,6] fun _ k=>?_;push_cast;apply k;clear k;refine VC.block ?_;refine VC.loopP h (fun x=>⟨[(1,.ref 0 0),(3,.ref 3 0),(6,ri x.2)],[(0,.box 217 (Af a0)),(3,.box 217 (Af x.1))],22,29,0⟩) ?_ ?_
  ·exact sl (by push_cast)
  rintro ⟨s_2,i_3⟩ b2 (h : Ow a0 s_2 i_3 = some b2) hf2;(try push_cast);unfold Ow at h;refine vs [1,3,6,7] fun _ k=>?_;push_cast;apply k;clear k;refine VC.seq ?_;refine vc h (fun hb3 h=>?_) (fun hb3 h=>?_)
  ·refine VC.skip ?_;refine vm h (fun x=>⟨[(1,.ref 0 0),(3,.ref 3 0),(6,ri i_3)],[(0,.box 217 (Af a0)),(3,.box 217 (Af x))],36,29,0⟩) (fun v4 h hk4=>?_) ?_
   ·refine VC.block ?_;refine vs [1,3,4,6] fun _ k=>?_;push_cast;apply k;clear k;obtain ⟨hg5,h⟩:=Bs h;have hg5n : i_3.toNat < 8:=by omega
    refine vs [1,3,4,6,13] fun _ k=>?_;push_cast [hg5,hg5n];(repeat refine ao ?_);apply k;clear k;refine vc h (fun hb6 h=>?_) (fun hb6 h=>?_)
    ·obtain ⟨y7,hy7,h⟩:=Bo h;refine vl fun _ k=>?_;push_cast [hg5n];(repeat refine ao ?_);apply k;clear k;refine am h hk4 ?_;exact sl (by push_cast [hb3,hb6,hy7])
    ·obtain ⟨r8,hr8,h⟩:=Aa h;refine vs [1,3,6,22] fun _ k=>?_;push_cast [hg5n];(repeat refine ao ?_);refine cp (Uz hr8) ?_;push_cast [hg5n];(repeat refine ao ?_);apply k;clear k;refine vc h (fun hb9 h=>?_) (fun hb9 h=>?_)
     ·refine vs [2] fun _ k=>?_;push_cast;apply k;clear k;refine VC.ret ?_;replace h:=om h hk4;replace h:=ol h hf2;replace h:=om h hk1;replace h:=Option.some.inj h;subst h;exact en (by push_cast [hb3,hb6,hb9])
     ·refine VC.skip ?_;refine am h hk4 ?_;exact sl (by push_cast [hb3,hb6,hb9])
   ·rintro s_4 (h : Vp i_3 s_4 = some b2);(try push_cast);unfold Vp at h;refine vl fun _ k=>?_;push_cast;apply k;clear k;refine bk h ?_;exact sl (by push_cast [hb3])
  ·refine VC.exit ?_;replace h:=ol h hf2;refine am h hk1 ?_;exact sl (by push_cast [hb3])
 ·rintro s_7 (h : Ry a0 s_7 = some r);(try push_cast);unfold Ry at h;refine vs [2] fun _ k=>?_;push_cast;apply k;clear k;refine VC.ret ?_;replace h:=Option.some.inj h;subst h;exact en (by push_cast)
noncomputable def Io (a0 : UInt32) (a1 : UInt32) : Option (C128):=
  pl ((min32 a0 a1).toUInt64) fun c1=>
  pl ((max32 a0 a1).toUInt64) fun c2=>
  po (Bt (Aj.mk c1 c2)) fun r3=>
  some r3
theorem Sm {a0 : UInt32} {a1 : UInt32} {r : C128} (h : Io a0 a1 = some r) : Ctr prog 205 [ru a0,ru a1] [] (.raw (.complex .f64 r.re r.im)) []:=by
 unfold Io at h;refine Ctr.ofW Ba func205 rfl call205 0 _ ntmps205 [.tmp 4] rfl rfl rfl (fun B=>?_);refine vs [0,1] fun _ k=>?_;push_cast;apply k;clear k;obtain ⟨c1,hc1,h⟩:=Bo h;have hc1i : (((min32 a0 a1).toUInt64).toNat : Int) = (c1.toNat : Int):=by rw [hc1]
 push_cast at hc1i;obtain ⟨c2,hc2,h⟩:=Bo h;have hc2i : (((max32 a0 a1).toUInt64).toNat : Int) = (c2.toNat : Int):=by rw [hc2]
 push_cast at hc2i;obtain ⟨r3,hr3,h⟩:=Aa h;refine vs [4] fun _ k=>?_;refine Ag 8 fun _ l=>?_;push_cast [hc1i,hc2i];(repeat refine ao ?_);apply l;clear l;simp only [List.drop_succ_cons,List.drop_zero];push_cast [hc1i,hc2i];(repeat refine ao ?_);refine cp (Co hr3) ?_;push_cast [hc1i,hc2i];(repeat refine ao ?_);apply k;clear k;refine VC.ret ?_;replace h:=Option.some.inj h;subst h;exact en (by push_cast [hc1i,hc2i])
noncomputable def Nz : Option (C128):=
  po (Io 0 4294967295) fun r1=>
  some r1
theorem Ya {r : C128} (h : Nz = some r) : Ctr prog 173 [] [] (.raw (.complex .f64 r.re r.im)) []:=by
 unfold Nz at h;refine Ctr.ofW Ba func173 rfl call173 0 _ ntmps173 [.tmp 0] rfl rfl rfl (fun B=>?_);refine vs [] fun _ k=>?_;push_cast;apply k;clear k;obtain ⟨r1,hr1,h⟩:=Aa h;refine vs [0] fun _ k=>?_;push_cast;refine cp (Sm hr1) ?_;push_cast;apply k;clear k;refine VC.ret ?_;replace h:=Option.some.inj h;subst h;exact en (by push_cast)
noncomputable def Sp (i_1 : Bool) : Option (Bool):=
  some i_1
noncomputable def Nv (a0 : Int) : Option (Bool):=
  po (
  cond (decide (a0 ≥ 0)) (
  some (decide (a0 < 8))) (
  some false)) (fun x=>Sp x)
theorem Zm {a0 : Int} {r : Bool} (h : Nv a0 = some r) : Ctr prog 229 [ri a0] [] (rb r) []:=by
 unfold Nv at h;refine Ctr.ofW Ba func229 rfl call229 0 _ ntmps229 [.tmp 2] rfl rfl rfl (fun B=>?_);refine vs [0] fun _ k=>?_;push_cast;apply k;clear k;refine vj h (fun x=>⟨[(2,rb x)],[],8,9,0⟩) (fun v1 h hk1=>?_) ?_
 ·rcases bt (decide (a0 ≥ 0)) with hb2 | hb2
  ·replace h:=Ao hb2 h;refine vlG [some 3,some 4,some 5,some 6,some 7,some 8,some 2] fun _ k=>?_;push_cast [hb2];(repeat refine ao ?_);apply k;clear k;refine ar h hk1 ?_;exact sl (by push_cast [hb2])
  ·replace h:=Au hb2 h;refine vlG [some 3,some 4,some 5,some 6,some 7,some 8,some 2] fun _ k=>?_;push_cast [hb2];(repeat refine ao ?_);apply k;clear k;refine ar h hk1 ?_;exact sl (by push_cast [hb2])
 ·rintro i_1 (h : Sp i_1 = some r);(try push_cast);unfold Sp at h;refine VC.ret ?_;replace h:=Option.some.inj h;subst h;exact en (by push_cast)
noncomputable def Pf (a0 : Ak) (a1 : Int) (i_1 : C128) : Option (Ak):=
  pg (0 ≤ a1 ∧ a1 < 8) <|
  pl (a0.Set.set a1.toNat true) fun y10=>
  pl (a0.R.set a1.toNat i_1) fun y11=>
  some (Ak.mk y10 y11)
noncomputable def Ip (a0 : Ak) (a1 : Int) (a2 : C128) : Option (Ak):=
  pm (
  po (Gl a0) fun r2=>
  cond (!r2) (
  some (Sum.inr (Ak.mk (A8.mk false false false false false false false false) (A8.mk (C128.mk 0 0) (C128.mk 0 0) (C128.mk 0 0) (C128.mk 0 0) (C128.mk 0 0) (C128.mk 0 0) (C128.mk 0 0) (C128.mk 0 0))))) (
  po (Nv a1) fun r4=>
  cond (!r4) (
  some (Sum.inr a0)) (
  po (Iy a2) fun r6=>
  cond (!r6) (
  po (Nz) fun r8=>
  some (Sum.inl r8)) (
  some (Sum.inl a2))))) (fun x=>Pf a0 a1 x)
theorem Vz {a0 : Ak} {a1 : Int} {a2 : C128} {r : Ak} (h : Ip a0 a1 a2 = some r) : Ctr prog 207 [.agg (Af a0),ri a1,.raw (.complex .f64 a2.re a2.im)] [] (.agg (Af r)) []:=by
 unfold Ip at h;refine Ctr.ofW Ba func207 rfl call207 0 _ ntmps207 [.cell 6 217] rfl rfl rfl (fun B=>?_);refine vs [1,2,3,6] fun _ k=>?_;push_cast;apply k;clear k;refine vm h (fun x=>⟨[(1,ri a1),(2,.raw (.complex .f64 x.re x.im)),(3,.ref 0 0),(6,.ref 1 0)],[(0,.box 217 (Af a0)),(1,.box 217 (Af (Ak.mk (A8.mk false false false false false false false false) (A8.mk (C128.mk 0 0) (C128.mk 0 0) (C128.mk 0 0) (C128.mk 0 0) (C128.mk 0 0) (C128.mk 0 0) (C128.mk 0 0) (C128.mk 0 0)))))],16,30,0⟩) (fun v1 h hk1=>?_) ?_
 ·refine VC.block ?_;obtain ⟨r2,hr2,h⟩:=Aa h;refine vs [1,2,3,6,7] fun _ k=>?_;push_cast;refine cp (Ju hr2) ?_;push_cast;apply k;clear k;refine vc h (fun hb3 h=>?_) (fun hb3 h=>?_)
  ·refine vs [6] fun _ k=>?_;push_cast;apply k;clear k;refine VC.ret ?_;replace h:=om h hk1;replace h:=Option.some.inj h;subst h;exact en (by push_cast [hb3,Oi])
  ·obtain ⟨r4,hr4,h⟩:=Aa h;refine vs [1,2,3,6,12] fun _ k=>?_;push_cast;refine cp (Zm hr4) ?_;push_cast;apply k;clear k;refine vc h (fun hb5 h=>?_) (fun hb5 h=>?_)
   ·refine vs [6] fun _ k=>?_;push_cast;apply k;clear k;refine VC.ret ?_;replace h:=om h hk1;replace h:=Option.some.inj h;subst h;exact en (by push_cast [hb3,hb5,Oi])
   ·obtain ⟨r6,hr6,h⟩:=Aa h;refine vs [1,2,3,6,17] fun _ k=>?_;push_cast;refine cp (Uz hr6) ?_;push_cast;apply k;clear k;refine vc h (fun hb7 h=>?_) (fun hb7 h=>?_)
    ·obtain ⟨r8,hr8,h⟩:=Aa h;refine vl fun _ k=>?_;push_cast;refine cp (Ya hr8) ?_;push_cast;apply k;clear k;refine am h hk1 ?_;exact sl (by push_cast [hb3,hb5,hb7])
    ·refine VC.skip ?_;refine am h hk1 ?_;exact sl (by push_cast [hb3,hb5,hb7])
 ·rintro i_1 (h : Pf a0 a1 i_1 = some r);(try push_cast);unfold Pf at h;obtain ⟨hg9,h⟩:=Bs h;have hg9n : a1.toNat < 8:=by omega
  obtain ⟨y10,hy10,h⟩:=Bo h;obtain ⟨y11,hy11,h⟩:=Bo h;refine vs [3,6] fun _ k=>?_;push_cast [hg9,hg9n];(repeat refine ao ?_);apply k;clear k;refine vs [6] fun _ k=>?_;push_cast;apply k;clear k;refine VC.ret ?_;replace h:=Option.some.inj h;subst h;exact en (by push_cast [hy10,hy11,Oi])
noncomputable def Qr (s_1 : Ak) (i_2 : Int) : Option ((Ak × Int) ⊕ (Ak)):=
  cond (decide (i_2 < 5)) (
  pg (0 ≤ (IntKind.i64.wrap (i_2 + 1)) ∧ (IntKind.i64.wrap (i_2 + 1)) < 8) <|
  pl (s_1.Set.set ((IntKind.i64.wrap (i_2 + 1)).toNat) false) fun y7=>
  pl (s_1.R.set ((IntKind.i64.wrap (i_2 + 1)).toNat) (C128.mk 0 0)) fun y8=>
  some (Sum.inl ((Ak.mk y7 y8),(IntKind.i64.wrap (i_2 + 1))))) (
  some (Sum.inr s_1))
noncomputable def Qy (s_5 : Ak) : Option (Ak):=
  po (Nz) fun r9=>
  po (Ip s_5 0 r9) fun r10=>
  some r10
noncomputable def Ov (a0 : Ak) : Option (Ak):=
  po (Gl a0) fun r1=>
  cond (!r1) (
  some (Ak.mk (A8.mk false false false false false false false false) (A8.mk (C128.mk 0 0) (C128.mk 0 0) (C128.mk 0 0) (C128.mk 0 0) (C128.mk 0 0) (C128.mk 0 0) (C128.mk 0 0) (C128.mk 0 0)))) (
  po (
  lpU (fun x=>Qr x.1 x.2) (a0,0)) (fun x=>Qy x))
theorem Cc0 {a0 : Ak} {r : Ak} (h : Ov a0 = some r) : Ctr prog 220 [.agg (Af a0)] [] (.agg (Af r)) []:=by
 unfold Ov at h;refine Ctr.ofW Ba func220 rfl call220 0 _ ntmps220 [.cell 2 217] rfl rfl rfl (fun B=>?_);refine vs [1,2] fun _ k=>?_;push_cast;apply k;clear k;refine VC.seq ?_;obtain ⟨r1,hr1,h⟩:=Aa h;refine vs [1,2,6] fun _ k=>?_;push_cast;refine cp (Ju hr1) ?_;push_cast;apply k;clear k;refine vc h (fun hb2 h=>?_) (fun hb2 h=>?_)
 ·refine vs [2] fun _ k=>?_;push_cast;apply k;clear k;refine VC.ret ?_;replace h:=Option.some.inj h;subst h;exact en (by push_cast [hb2,Oi])
 ·refine VC.skip ?_;refine vj h (fun x=>⟨[(1,.ref 0 0),(2,.ref 1 0)],[(0,.box 217 (Af x)),(1,.box 217 (Af (Ak.mk (A8.mk false false false false false false false false) (A8.mk (C128.mk 0 0) (C128.mk 0 0) (C128.mk 0 0) (C128.mk 0 0) (C128.mk 0 0) (C128.mk 0 0) (C128.mk 0 0) (C128.mk 0 0)))))],22,23,0⟩) (fun v3 h hk3=>?_) ?_
  ·refine vs [1,2,8] fun _ k=>?_;push_cast;apply k;clear k;refine VC.block ?_;refine VC.loopP h (fun x=>⟨[(1,.ref 0 0),(2,.ref 1 0),(8,ri x.2)],[(0,.box 217 (Af x.1)),(1,.box 217 (Af (Ak.mk (A8.mk false false false false false false false false) (A8.mk (C128.mk 0 0) (C128.mk 0 0) (C128.mk 0 0) (C128.mk 0 0) (C128.mk 0 0) (C128.mk 0 0) (C128.mk 0 0) (C128.mk 0 0)))))],21,23,0⟩) ?_ ?_
   ·exact sl (by push_cast [hb2])
   rintro ⟨s_1,i_2⟩ b4 (h : Qr s_1 i_2 = some b4) hf4;(try push_cast);unfold Qr at h;refine vs [1,2,8,9] fun _ k=>?_;push_cast;apply k;clear k;refine VC.seq ?_;refine vc h (fun hb5 h=>?_) (fun hb5 h=>?_)
   ·refine VC.skip ?_;refine VC.seq ?_;refine VC.block ?_;refine vs [1,2,3,8] fun _ k=>?_;push_cast;apply k;clear k;obtain ⟨hg6,h⟩:=Bs h;have hg6n : (IntKind.i64.wrap (i_2 + 1)).toNat < 8:=by omega
    obtain ⟨y7,hy7,h⟩:=Bo h;obtain ⟨y8,hy8,h⟩:=Bo h;refine vl fun _ k=>?_;push_cast [hg6,hg6n];(repeat refine ao ?_);apply k;clear k;refine vl fun _ k=>?_;push_cast;apply k;clear k;refine bk h ?_;exact sl (by push_cast [hb2,hb5,hy7,hy8])
   ·refine VC.exit ?_;replace h:=ol h hf4;refine ar h hk3 ?_;exact sl (by push_cast [hb2,hb5])
  ·rintro s_5 (h : Qy s_5 = some r);(try push_cast);unfold Qy at h;obtain ⟨r9,hr9,h⟩:=Aa h;obtain ⟨r10,hr10,h⟩:=Aa h;refine vsD [some 20,some 21,some 22,none] [2] fun _ k=>?_;push_cast;refine cpD (Ya hr9) ?_;push_cast;refine cpD (Vz hr10) ?_;push_cast;refine ⟨rfl,k _ ?_⟩;clear k;refine VC.ret ?_;replace h:=Option.some.inj h;subst h;exact en (by push_cast [hb2,Oi])
noncomputable def Ou (a0 : Ak) (a1 : Int) (i_1 : Bool) : Option (C128 × Bool):=
  cond i_1 (
  some ((C128.mk 0 0),false)) (
  pg (0 ≤ a1 ∧ a1 < 8) <|
  some ((a0.R.get a1.toNat),true))
noncomputable def Jv (a0 : Ak) (a1 : Int) : Option (C128 × Bool):=
  po (
  po (Gl a0) fun r2=>
  cond r2 (
  po (Nv a1) fun r4=>
  cond r4 (
  pg (0 ≤ a1 ∧ a1 < 8) <|
  some (!(a0.Set.get a1.toNat))) (
  some true)) (
  some true)) (fun x=>Ou a0 a1 x)
theorem Cx0 {a0 : Ak} {a1 : Int} {r : C128 × Bool} (h : Jv a0 a1 = some r) : Ctr prog 232 [.agg (Af a0),ri a1] [] (.tup [.raw (.complex .f64 r.1.re r.1.im),rb r.2]) []:=by
 unfold Jv at h;refine Ctr.ofW Ba func232 rfl call232 0 _ ntmps232 [.tmp 4,.tmp 5] rfl rfl rfl (fun B=>?_);refine vs [1,2] fun _ k=>?_;push_cast;apply k;clear k;refine VC.seq ?_;refine vj h (fun x=>⟨[(1,ri a1),(2,.ref 0 0),(20,rb x)],[(0,.box 217 (Af a0))],18,25,0⟩) (fun v1 h hk1=>?_) ?_
 ·obtain ⟨r2,hr2,h⟩:=Aa h;rcases bt r2 with hb3 | hb3
  ·replace h:=Ao hb3 h;obtain ⟨r4,hr4,h⟩:=Aa h;rcases bt r4 with hb5 | hb5
   ·replace h:=Ao hb5 h;obtain ⟨hg6,h⟩:=Bs h;have hg6n : a1.toNat < 8:=by omega
    refine vlG [some 6,some 7,some 8,some 9,some 10,some 11,some 12,some 13,some 14,some 15,some 16,some 17,some 18,some 19,some 20] fun _ k=>?_;refine Ag 8 fun _ l=>?_;push_cast [hb3,hb5,hg6,hg6n];(repeat refine ao ?_);refine cp (Ju hr2) ?_;push_cast [hb3,hb5,hg6,hg6n];(repeat refine ao ?_);refine cp (Zm hr4) ?_;push_cast [hb3,hb5,hg6,hg6n];(repeat refine ao ?_);apply l;clear l;simp only [List.drop_succ_cons,List.drop_zero];push_cast [hb3,hb5,hg6,hg6n];(repeat refine ao ?_);apply k;clear k;refine ar h hk1 ?_;exact sl (by push_cast [hb3,hb5])
   ·replace h:=Au hb5 h;refine vlG [some 6,some 7,some 8,some 9,some 10,some 11,some 12,some 13,some 14,some 15,some 16,some 17,some 18,some 19,some 20] fun _ k=>?_;refine Ag 8 fun _ l=>?_;push_cast [hb3,hb5];(repeat refine ao ?_);refine cp (Ju hr2) ?_;push_cast [hb3,hb5];(repeat refine ao ?_);refine cp (Zm hr4) ?_;push_cast [hb3,hb5];(repeat refine ao ?_);apply l;clear l;simp only [List.drop_succ_cons,List.drop_zero];push_cast [hb3,hb5];(repeat refine ao ?_);apply k;clear k;refine ar h hk1 ?_;exact sl (by push_cast [hb3,hb5])
  ·replace h:=Au hb3 h;refine vlG [some 6,some 7,some 8,some 9,some 10,some 11,some 12,some 13,some 14,some 15,some 16,some 17,some 18,some 19,some 20] fun _ k=>?_;refine Ag 8 fun _ l=>?_;push_cast [hb3];(repeat refine ao ?_);refine cp (Ju hr2) ?_;push_cast [hb3];(repeat refine ao ?_);apply l;clear l;simp only [List.drop_succ_cons,List.drop_zero];push_cast [hb3];(repeat refine ao ?_);apply k;clear k;refine ar h hk1 ?_;exact sl (by push_cast [hb3])
 ·rintro i_1 (h : Ou a0 a1 i_1 = some r);(try push_cast);unfold Ou at h;refine vc h (fun hb7 h=>?_) (fun hb7 h=>?_)
  ·refine vs [4,5] fun _ k=>?_;push_cast;apply k;clear k;refine VC.ret ?_;replace h:=Option.some.inj h;subst h;exact en (by push_cast [hb7])
  ·refine VC.skip ?_;obtain ⟨hg8,h⟩:=Bs h;have hg8n : a1.toNat < 8:=by omega
   refine vs [4,5] fun _ k=>?_;push_cast [hg8,hg8n];(repeat refine ao ?_);apply k;clear k;refine VC.ret ?_;replace h:=Option.some.inj h;subst h;exact en (by push_cast [hb7])
noncomputable def Lc (a0 : Ak) (a1 : Am) (i_1 : Bool) : Option (C128 × Bool):=
  cond i_1 (
  some ((C128.mk 0 0),false)) (
  cond a1.Reg (
  po (Jv a0 a1.Src) fun r7=>
  some (r7.1,r7.2)) (
  po (Io a1.Imm a1.Imm) fun r8=>
  some (r8,true)))
noncomputable def Mv (a0 : Ak) (a1 : Am) : Option (C128 × Bool):=
  po (
  po (Gl a0) fun r2=>
  cond (!r2) (
  some (!r2)) (
  po (Jy a1) fun r4=>
  some (!r4))) (fun x=>Lc a0 a1 x)
theorem Gx0 {a0 : Ak} {a1 : Am} {r : C128 × Bool} (h : Mv a0 a1 = some r) : Ctr prog 231 [.agg (Af a0),.agg (Aw a1)] [] (.tup [.raw (.complex .f64 r.1.re r.1.im),rb r.2]) []:=by
 unfold Mv at h;refine Ctr.ofW Ba func231 rfl call231 0 _ ntmps231 [.tmp 4,.tmp 5] rfl rfl rfl (fun B=>?_);refine vs [2,3] fun _ k=>?_;push_cast;apply k;clear k;refine VC.seq ?_;refine VC.block ?_;refine vj h (fun x=>⟨[(2,.ref 0 0),(3,.ref 1 0),(6,rb x)],[(0,.box 217 (Af a0)),(1,.box 37 (Aw a1))],12,27,0⟩) (fun v1 h hk1=>?_) ?_
 ·obtain ⟨r2,hr2,h⟩:=Aa h;refine vs [2,3,6] fun _ k=>?_;push_cast;refine cp (Ju hr2) ?_;push_cast;apply k;clear k;refine vc h (fun hb3 h=>?_) (fun hb3 h=>?_)
  ·refine VC.skip ?_;refine ar h hk1 ?_;exact sl (by push_cast [hb3])
  ·obtain ⟨r4,hr4,h⟩:=Aa h;refine vl fun _ k=>?_;push_cast;refine cp (Zs hr4) ?_;push_cast;apply k;clear k;refine ar h hk1 ?_;exact sl (by push_cast [hb3])
 ·rintro i_1 (h : Lc a0 a1 i_1 = some r);(try push_cast);unfold Lc at h;refine vc h (fun hb5 h=>?_) (fun hb5 h=>?_)
  ·refine vs [4,5] fun _ k=>?_;push_cast;apply k;clear k;refine VC.ret ?_;replace h:=Option.some.inj h;subst h;exact en (by push_cast [hb5])
  ·refine vs [2,3,13] fun _ k=>?_;push_cast;apply k;clear k;refine vc h (fun hb6 h=>?_) (fun hb6 h=>?_)
   ·obtain ⟨r7,hr7,h⟩:=Aa h;refine vs [4,5] fun _ k=>?_;push_cast;refine cp (Cx0 hr7) ?_;push_cast;apply k;clear k;refine VC.ret ?_;replace h:=Option.some.inj h;subst h;exact en (by push_cast [hb5,hb6])
   ·refine VC.skip ?_;obtain ⟨r8,hr8,h⟩:=Aa h;refine vs [4,5] fun _ k=>?_;push_cast;refine cp (Sm hr8) ?_;push_cast;apply k;clear k;refine VC.ret ?_;replace h:=Option.some.inj h;subst h;exact en (by push_cast [hb5,hb6])
noncomputable def Jr (a0 : Ak) (a1 : Ak) (s_4 : Ak) (i_5 : Int) (i_6 : Bool) : Option (Ak):=
  cond i_6 (
  pg (0 ≤ i_5 ∧ i_5 < 8) <|
  po (Ni (a0.R.get i_5.toNat) (a1.R.get i_5.toNat)) fun r15=>
  po (Ip s_4 i_5 r15) fun r16=>
  some r16) (
  some s_4)
noncomputable def Nr (i_5 : Int) (s_7 : Ak) : Option ((Ak × Int) ⊕ (Ak)):=
  some (Sum.inl (s_7,(IntKind.i64.wrap (i_5 + 1))))
noncomputable def Ku (a0 : Ak) (a1 : Ak) (s_4 : Ak) (i_5 : Int) : Option ((Ak × Int) ⊕ (Ak)):=
  cond (decide (i_5 < 8)) (
  po (
  po (
  pg (0 ≤ i_5 ∧ i_5 < 8) <|
  cond (a0.Set.get i_5.toNat) (
  some (a1.Set.get i_5.toNat)) (
  some false)) (fun x=>Jr a0 a1 s_4 i_5 x)) (fun x=>Nr i_5 x)) (
  some (Sum.inr s_4))
noncomputable def Qv (s_10 : Ak) : Option (Ak):=
  some s_10
noncomputable def Kq (a0 : Ak) (a1 : Ak) (i_1 : Bool) : Option (Ak):=
  cond i_1 (
  some (Ak.mk (A8.mk false false false false false false false false) (A8.mk (C128.mk 0 0) (C128.mk 0 0) (C128.mk 0 0) (C128.mk 0 0) (C128.mk 0 0) (C128.mk 0 0) (C128.mk 0 0) (C128.mk 0 0)))) (
  po (
  lpU (fun x=>Ku a0 a1 x.1 x.2) ((Ak.mk (A8.mk false false false false false false false false) (A8.mk (C128.mk 0 0) (C128.mk 0 0) (C128.mk 0 0) (C128.mk 0 0) (C128.mk 0 0) (C128.mk 0 0) (C128.mk 0 0) (C128.mk 0 0))),0)) (fun x=>Qv x))
noncomputable def Mt (a0 : Ak) (a1 : Ak) : Option (Ak):=
  po (
  po (Gl a0) fun r2=>
  cond r2 (
  po (Gl a1) fun r4=>
  some (!r4)) (
  some true)) (fun x=>Kq a0 a1 x)
theorem Fx0 {a0 : Ak} {a1 : Ak} {r : Ak} (h : Mt a0 a1 = some r) : Ctr prog 174 [.agg (Af a0),.agg (Af a1)] [] (.agg (Af r)) []:=by
 unfold Mt at h;refine Ctr.ofW Ba func174 rfl call174 0 _ ntmps174 [.cell 4 217] rfl rfl rfl (fun B=>?_);refine vs [2,3,4] fun _ k=>?_;push_cast;apply k;clear k;refine vs [2,3,4,5] fun _ k=>?_;push_cast;apply k;clear k;refine VC.seq ?_;refine vj h (fun x=>⟨[(2,.ref 0 0),(3,.ref 1 0),(4,.ref 2 0),(5,.ref 3 0),(14,rb x)],[(0,.box 217 (Af a0)),(1,.box 217 (Af a1)),(2,.box 217 (Af (Ak.mk (A8.mk false false false false false false false false) (A8.mk (C128.mk 0 0) (C128.mk 0 0) (C128.mk 0 0) (C128.mk 0 0) (C128.mk 0 0) (C128.mk 0 0) (C128.mk 0 0) (C128.mk 0 0))))),(3,.box 217 (Af (Ak.mk (A8.mk false false false false false false false false) (A8.mk (C128.mk 0 0) (C128.mk 0 0) (C128.mk 0 0) (C128.mk 0 0) (C128.mk 0 0) (C128.mk 0 0) (C128.mk 0 0) (C128.mk 0 0)))))],12,43,0⟩) (fun v1 h hk1=>?_) ?_
 ·obtain ⟨r2,hr2,h⟩:=Aa h;rcases bt r2 with hb3 | hb3
  ·replace h:=Ao hb3 h;obtain ⟨r4,hr4,h⟩:=Aa h;refine vlG [some 7,some 8,some 9,some 10,some 11,some 12,some 13,some 14] fun _ k=>?_;push_cast [hb3];(repeat refine ao ?_);refine cp (Ju hr2) ?_;push_cast [hb3];(repeat refine ao ?_);refine cp (Ju hr4) ?_;push_cast [hb3];(repeat refine ao ?_);apply k;clear k;refine ar h hk1 ?_;exact sl (by push_cast [hb3])
  ·replace h:=Au hb3 h;refine vlG [some 7,some 8,some 9,some 10,some 11,some 12,some 13,some 14] fun _ k=>?_;push_cast [hb3];(repeat refine ao ?_);refine cp (Ju hr2) ?_;push_cast [hb3];(repeat refine ao ?_);apply k;clear k;refine ar h hk1 ?_;exact sl (by push_cast [hb3])
 ·rintro i_1 (h : Kq a0 a1 i_1 = some r);(try push_cast);unfold Kq at h;refine vc h (fun hb5 h=>?_) (fun hb5 h=>?_)
  ·refine vs [4] fun _ k=>?_;push_cast;apply k;clear k;refine VC.ret ?_;replace h:=Option.some.inj h;subst h;exact en (by push_cast [hb5,Oi])
  ·refine VC.skip ?_;refine vj h (fun x=>⟨[(4,.ref 2 0),(5,.ref 3 0)],[(2,.box 217 (Af (Ak.mk (A8.mk false false false false false false false false) (A8.mk (C128.mk 0 0) (C128.mk 0 0) (C128.mk 0 0) (C128.mk 0 0) (C128.mk 0 0) (C128.mk 0 0) (C128.mk 0 0) (C128.mk 0 0))))),(3,.box 217 (Af x))],42,43,0⟩) (fun v6 h hk6=>?_) ?_
   ·refine vs [2,3,4,5,16] fun _ k=>?_;push_cast;apply k;clear k;refine VC.block ?_;refine VC.loopP h (fun x=>⟨[(2,.ref 0 0),(3,.ref 1 0),(4,.ref 2 0),(5,.ref 3 0),(16,ri x.2)],[(0,.box 217 (Af a0)),(1,.box 217 (Af a1)),(2,.box 217 (Af (Ak.mk (A8.mk false false false false false false false false) (A8.mk (C128.mk 0 0) (C128.mk 0 0) (C128.mk 0 0) (C128.mk 0 0) (C128.mk 0 0) (C128.mk 0 0) (C128.mk 0 0) (C128.mk 0 0))))),(3,.box 217 (Af x.1))],41,43,0⟩) ?_ ?_
    ·exact sl (by push_cast [hb5])
    rintro ⟨s_4,i_5⟩ b7 (h : Ku a0 a1 s_4 i_5 = some b7) hf7;(try push_cast);unfold Ku at h;refine vs [2,3,4,5,16,17] fun _ k=>?_;push_cast;apply k;clear k;refine VC.seq ?_;refine vc h (fun hb8 h=>?_) (fun hb8 h=>?_)
    ·refine VC.skip ?_;refine vj h (fun x=>⟨[(2,.ref 0 0),(3,.ref 1 0),(4,.ref 2 0),(5,.ref 3 0),(16,ri i_5)],[(0,.box 217 (Af a0)),(1,.box 217 (Af a1)),(2,.box 217 (Af (Ak.mk (A8.mk false false false false false false false false) (A8.mk (C128.mk 0 0) (C128.mk 0 0) (C128.mk 0 0) (C128.mk 0 0) (C128.mk 0 0) (C128.mk 0 0) (C128.mk 0 0) (C128.mk 0 0))))),(3,.box 217 (Af x))],67,43,0⟩) (fun v9 h hk9=>?_) ?_
     ·refine VC.block ?_;refine vs [2,3,4,5,6,16] fun _ k=>?_;push_cast;apply k;clear k;refine vj h (fun x=>⟨[(2,.ref 0 0),(3,.ref 1 0),(4,.ref 2 0),(5,.ref 3 0),(6,ri i_5),(16,ri i_5),(28,rb x)],[(0,.box 217 (Af a0)),(1,.box 217 (Af a1)),(2,.box 217 (Af (Ak.mk (A8.mk false false false false false false false false) (A8.mk (C128.mk 0 0) (C128.mk 0 0) (C128.mk 0 0) (C128.mk 0 0) (C128.mk 0 0) (C128.mk 0 0) (C128.mk 0 0) (C128.mk 0 0))))),(3,.box 217 (Af s_4))],54,43,0⟩) (fun v10 h hk10=>?_) ?_
      ·obtain ⟨hg11,h⟩:=Bs h;have hg11n : i_5.toNat < 8:=by omega
       rcases bt (a0.Set.get i_5.toNat) with hb12 | hb12
       ·replace h:=Ao hb12 h;refine vlG [some 19,some 20,some 21,some 22,some 23,some 24,some 25,some 26,some 27,some 28] fun _ k=>?_;push_cast [hg11,hg11n,hb12];(repeat refine ao ?_);apply k;clear k;refine ar h hk10 ?_;exact sl (by push_cast [hb5,hb8,hb12])
       ·replace h:=Au hb12 h;refine vlG [some 19,some 20,some 21,some 22,some 23,some 24,some 25,some 26,some 27,some 28] fun _ k=>?_;push_cast [hg11,hg11n,hb12];(repeat refine ao ?_);apply k;clear k;refine ar h hk10 ?_;exact sl (by push_cast [hb5,hb8,hb12])
      ·rintro i_6 (h : Jr a0 a1 s_4 i_5 i_6 = some v9);(try push_cast);unfold Jr at h;refine vc h (fun hb13 h=>?_) (fun hb13 h=>?_)
       ·obtain ⟨hg14,h⟩:=Bs h;have hg14n : i_5.toNat < 8:=by omega
        obtain ⟨r15,hr15,h⟩:=Aa h;obtain ⟨r16,hr16,h⟩:=Aa h;refine vlD [some 29,some 30,some 31,some 32,some 33,some 34,some 35,some 36,some 37,some 38,some 39,some 40,none] fun _ k=>?_;refine Ch 8 fun _ l=>?_;push_cast [hg14,hg14n];(repeat refine ao ?_);apply l;clear l;simp only [List.drop_succ_cons,List.drop_zero];push_cast [hg14,hg14n];(repeat refine ao ?_);refine cpD (Ez0 hr15) ?_;push_cast [hg14,hg14n];(repeat refine ao ?_);refine cpD (Vz hr16) ?_;push_cast [hg14,hg14n];(repeat refine ao ?_);refine ⟨rfl,k _ ?_⟩;clear k;refine ar h hk9 ?_;exact sl (by push_cast [hb5,hb8,hb13])
       ·refine VC.skip ?_;refine ar h hk9 ?_;exact sl (by push_cast [hb5,hb8,hb13])
     ·rintro s_7 (h : Nr i_5 s_7 = some b7);(try push_cast);unfold Nr at h;refine vl fun _ k=>?_;push_cast;apply k;clear k;refine bk h ?_;exact sl (by push_cast [hb5,hb8])
    ·refine VC.exit ?_;replace h:=ol h hf7;refine ar h hk6 ?_;exact sl (by push_cast [hb5,hb8])
   ·rintro s_10 (h : Qv s_10 = some r);(try push_cast);unfold Qv at h;refine vs [4] fun _ k=>?_;push_cast;apply k;clear k;refine VC.ret ?_;replace h:=Option.some.inj h;subst h;exact en (by push_cast [hb5,Oi])
noncomputable def Pd (a0 : Int) (s_2 : Ak) (i_3 : Int) : Option ((Ak × Int) ⊕ (Ak)):=
  cond (decide (i_3 < a0)) (
  po (Nz) fun r7=>
  pg (0 ≤ (IntKind.i64.wrap (i_3 + 1)) ∧ (IntKind.i64.wrap (i_3 + 1)) < 8) <|
  pl (s_2.Set.set ((IntKind.i64.wrap (i_3 + 1)).toNat) true) fun y9=>
  pl (s_2.R.set ((IntKind.i64.wrap (i_3 + 1)).toNat) r7) fun y10=>
  some (Sum.inl ((Ak.mk y9 y10),(IntKind.i64.wrap (i_3 + 1))))) (
  some (Sum.inr s_2))
noncomputable def Sd (s_6 : Ak) : Option (Ak × Bool):=
  some (s_6,true)
noncomputable def Ly (a0 : Int) (i_1 : Bool) : Option (Ak × Bool):=
  cond i_1 (
  some ((Ak.mk (A8.mk false false false false false false false false) (A8.mk (C128.mk 0 0) (C128.mk 0 0) (C128.mk 0 0) (C128.mk 0 0) (C128.mk 0 0) (C128.mk 0 0) (C128.mk 0 0) (C128.mk 0 0))),false)) (
  po (
  lpU (fun x=>Pd a0 x.1 x.2) ((Ak.mk (A8.mk false false false false false false false false) (A8.mk (C128.mk 0 0) (C128.mk 0 0) (C128.mk 0 0) (C128.mk 0 0) (C128.mk 0 0) (C128.mk 0 0) (C128.mk 0 0) (C128.mk 0 0))),0)) (fun x=>Sd x))
noncomputable def Oa (a0 : Int) : Option (Ak × Bool):=
  po (
  cond (decide (a0 < 0)) (
  some true) (
  some (decide (a0 > 4)))) (fun x=>Ly a0 x)
theorem Hv0 {a0 : Int} {r : Ak × Bool} (h : Oa a0 = some r) : Ctr prog 128 [ri a0] [] (.tup [.agg (Af r.1),rb r.2]) []:=by
 unfold Oa at h;refine Ctr.ofW Ba func128 rfl call128 0 _ ntmps128 [.cell 2 217,.tmp 3] rfl rfl rfl (fun B=>?_);refine vs [0,2] fun _ k=>?_;push_cast;apply k;clear k;refine vs [0,2,4] fun _ k=>?_;push_cast;apply k;clear k;refine VC.seq ?_;refine vj h (fun x=>⟨[(0,ri a0),(2,.ref 0 0),(4,.ref 2 0),(11,rb x)],[(0,.box 217 (Af (Ak.mk (A8.mk false false false false false false false false) (A8.mk (C128.mk 0 0) (C128.mk 0 0) (C128.mk 0 0) (C128.mk 0 0) (C128.mk 0 0) (C128.mk 0 0) (C128.mk 0 0) (C128.mk 0 0))))),(2,.box 217 (Af (Ak.mk (A8.mk false false false false false false false false) (A8.mk (C128.mk 0 0) (C128.mk 0 0) (C128.mk 0 0) (C128.mk 0 0) (C128.mk 0 0) (C128.mk 0 0) (C128.mk 0 0) (C128.mk 0 0)))))],9,28,0⟩) (fun v1 h hk1=>?_) ?_
 ·rcases bt (decide (a0 < 0)) with hb2 | hb2
  ·replace h:=Ao hb2 h;refine vlG [some 6,some 7,some 8,some 9,some 10,some 11] fun _ k=>?_;push_cast [hb2];(repeat refine ao ?_);apply k;clear k;refine ar h hk1 ?_;exact sl (by push_cast [hb2])
  ·replace h:=Au hb2 h;refine vlG [some 6,some 7,some 8,some 9,some 10,some 11] fun _ k=>?_;push_cast [hb2];(repeat refine ao ?_);apply k;clear k;refine ar h hk1 ?_;exact sl (by push_cast [hb2])
 ·rintro i_1 (h : Ly a0 i_1 = some r);(try push_cast);unfold Ly at h;refine vc h (fun hb3 h=>?_) (fun hb3 h=>?_)
  ·refine vs [2,3] fun _ k=>?_;push_cast;apply k;clear k;refine VC.ret ?_;replace h:=Option.some.inj h;subst h;exact en (by push_cast [hb3,Oi])
  ·refine VC.skip ?_;refine vj h (fun x=>⟨[(2,.ref 0 0),(4,.ref 2 0)],[(0,.box 217 (Af (Ak.mk (A8.mk false false false false false false false false) (A8.mk (C128.mk 0 0) (C128.mk 0 0) (C128.mk 0 0) (C128.mk 0 0) (C128.mk 0 0) (C128.mk 0 0) (C128.mk 0 0) (C128.mk 0 0))))),(2,.box 217 (Af x))],28,28,0⟩) (fun v4 h hk4=>?_) ?_
   ·refine vs [2,4,13,14] fun _ k=>?_;push_cast;apply k;clear k;refine VC.block ?_;refine VC.loopP h (fun x=>⟨[(2,.ref 0 0),(4,.ref 2 0),(13,ri a0),(14,ri x.2)],[(0,.box 217 (Af (Ak.mk (A8.mk false false false false false false false false) (A8.mk (C128.mk 0 0) (C128.mk 0 0) (C128.mk 0 0) (C128.mk 0 0) (C128.mk 0 0) (C128.mk 0 0) (C128.mk 0 0) (C128.mk 0 0))))),(2,.box 217 (Af x.1))],27,28,0⟩) ?_ ?_
    ·exact sl (by push_cast [hb3])
    rintro ⟨s_2,i_3⟩ b5 (h : Pd a0 s_2 i_3 = some b5) hf5;(try push_cast);unfold Pd at h;refine vs [2,4,13,14,15] fun _ k=>?_;push_cast;apply k;clear k;refine VC.seq ?_;refine vc h (fun hb6 h=>?_) (fun hb6 h=>?_)
    ·refine VC.skip ?_;refine VC.seq ?_;refine VC.block ?_;refine vs [2,4,5,13,14] fun _ k=>?_;push_cast;apply k;clear k;obtain ⟨r7,hr7,h⟩:=Aa h;obtain ⟨hg8,h⟩:=Bs h;have hg8n : (IntKind.i64.wrap (i_3 + 1)).toNat < 8:=by omega
     obtain ⟨y9,hy9,h⟩:=Bo h;obtain ⟨y10,hy10,h⟩:=Bo h;refine vlD [some 17,some 18,some 19,some 20,some 21,some 22,some 23,none,some 24,some 25,none] fun _ k=>?_;refine Ch 8 fun _ l=>?_;push_cast [hg8,hg8n];(repeat refine ao ?_);refine cpD (Ya hr7) ?_;push_cast [hg8,hg8n];(repeat refine ao ?_);apply l;clear l;simp only [List.drop_succ_cons,List.drop_zero];push_cast [hg8,hg8n];(repeat refine ao ?_);refine ⟨rfl,k _ ?_⟩;clear k;refine vl fun _ k=>?_;push_cast;apply k;clear k;refine bk h ?_;exact sl (by push_cast [hb3,hb6,hy9,hy10])
    ·refine VC.exit ?_;replace h:=ol h hf5;refine ar h hk4 ?_;exact sl (by push_cast [hb3,hb6])
   ·rintro s_6 (h : Sd s_6 = some r);(try push_cast);unfold Sd at h;refine vs [2,3] fun _ k=>?_;push_cast;apply k;clear k;refine VC.ret ?_;replace h:=Option.some.inj h;subst h;exact en (by push_cast [hb3,Oi])
def Ok {α : Type} (x : Option α) (Q : α → Prop) : Prop:=∃ r,x = some r ∧ Q r
theorem Ok.mk {α : Type} {a : α} {Q : α → Prop} (h : Q a) : Ok (some a) Q:=⟨a,rfl,h⟩
theorem Ok.po {α β : Type} {x : Option α} {k : α → Option β} {P : α → Prop} {Q : β → Prop} (h : Ok x P) (hk : ∀ a,P a → Ok (k a) Q) : Ok (po x k) Q:=by
  obtain ⟨a,rfl,ha⟩:=h
  exact hk a ha
theorem Ok.cond {α : Type} {c : Bool} {a b : Option α} {Q : α → Prop} (ha : c = true → Ok a Q) (hb : c = false → Ok b Q) : Ok (cond c a b) Q:=by
  cases c
  · exact hb rfl
  · exact ha rfl
theorem Ok.pl {α β : Type} {a : α} {k : α → Option β} {Q : β → Prop} (h : Ok (k a) Q) : Ok (pl a k) Q:=h
theorem Ok.pg {β : Type} {p : Prop} [Decidable p] {k : Option β} {Q : β → Prop} (hp : p) (h : Ok k Q) : Ok (pg p k) Q:=by
  rw [Ep hp]
  exact h
theorem Ok.pm {α β : Type} {x : Option (α ⊕ β)} {k : α → Option β} {P : α ⊕ β → Prop} {Q : β → Prop} (h : Ok x P) (hl : ∀ a,P (.inl a) → Ok (k a) Q) (hr : ∀ b,P (.inr b) → Q b) : Ok (pm x k) Q:=by
  obtain ⟨a,rfl,ha⟩:=h
  cases a with
  | inl a=>exact hl a ha
  | inr b=>exact ⟨b,rfl,hr b ha⟩
theorem Ok.mono {α : Type} {x : Option α} {P Q : α → Prop} (h : Ok x P) (hq : ∀ a,P a → Q a) : Ok x Q:=by
  obtain ⟨a,e,ha⟩:=h
  exact ⟨a,e,hq a ha⟩
theorem Ok.of {α : Type} {x : Option α} {a : α} {Q : α → Prop} (e : x = some a) (h : Q a) : Ok x Q:=⟨a,e,h⟩
theorem Ok.idx {α : Type} {l : List α} {i : Int} {n : Nat} (e : i = (n : Int)) (h : n < l.length) : Ok (idx l i) (fun a=>l[n]? = some a ∧ a ∈ l):=by
  subst e
  exact ⟨l[n],by rw [idx_nat,List.getElem?_eq_getElem h],List.getElem?_eq_getElem h,List.getElem_mem h⟩
theorem Ok.at_ {α : Type} {l : List α} {n : Nat} (h : n < l.length) : Ok (l[n]?) (fun a=>l[n]? = some a ∧ a ∈ l):=⟨l[n],List.getElem?_eq_getElem h,List.getElem?_eq_getElem h,List.getElem_mem h⟩
theorem Ok.lp {σ ρ : Type} {step : σ → Option (σ ⊕ ρ)} {s0 : σ} {Q : ρ → Prop} (I : σ → Prop) (μ : σ → Nat) (h0 : I s0)
    (hs : ∀ s,I s → Ok (step s) fun r=>match r with | .inl s'=>I s' ∧ μ s' < μ s | .inr r=>Q r) : Ok (lpU step s0) Q:=by
  refine lp_inv I μ Q (fun s h=>?_) s0 h0
  obtain ⟨r,e,hr⟩:=hs s h
  cases r with
  | inl s'=>exact .inl ⟨s',e,hr⟩
  | inr r=>exact .inr ⟨r,e,hr⟩
def flN (m : Nat) (i : Int) : Nat:=(m * 2 ^ i.toNat) / 2 ^ (-i).toNat
theorem cut_zero (neg : Bool) (n drop : Nat) : Ieee.Toward.zero.cut neg n drop = n / 2 ^ drop:=by
  unfold Ieee.Toward.cut
  simp only [Bool.toNat_false,Nat.add_zero,Nat.one_shiftLeft]
  rcases Nat.le_total drop (n.log2 + 2) with h | h
  · rw [Nat.min_eq_left h]
  · rw [Nat.min_eq_right h]
    have h1 : n < 2 ^ (n.log2 + 2):=Nat.lt_of_lt_of_le (Nat.lt_log2_self) (Nat.pow_le_pow_right (by decide) (by omega))
    have h2 : n < 2 ^ drop:=Nat.lt_of_lt_of_le h1 (Nat.pow_le_pow_right (by decide) h)
    rw [Nat.div_eq_of_lt h1,Nat.div_eq_of_lt h2]
theorem flN_shift {n : Nat} {i j : Int} (h : i ≤ j) : flN (n * 2 ^ (j - i).toNat) i = flN n j:=by
  unfold flN
  by_cases hi : 0 ≤ i
  · have e1 : (-i).toNat = 0:=by omega
    have e2 : (-j).toNat = 0:=by omega
    have e3 : j.toNat = (j - i).toNat + i.toNat:=by omega
    rw [e1,e2,e3,Nat.pow_add,Nat.mul_assoc]
  · have e1 : i.toNat = 0:=by omega
    by_cases hj : 0 ≤ j
    · have e2 : (-j).toNat = 0:=by omega
      have e3 : (j - i).toNat = j.toNat + (-i).toNat:=by omega
      rw [e1,e2,e3,Nat.pow_add,← Nat.mul_assoc,Nat.pow_zero,Nat.mul_one,Nat.div_one,Nat.mul_div_cancel _ (Nat.pow_pos (by decide))]
    · have e2 : j.toNat = 0:=by omega
      have e3 : (-i).toNat = (j - i).toNat + (-j).toNat:=by omega
      rw [e1,e2,e3,Nat.pow_add,Nat.pow_zero,Nat.mul_one,Nat.mul_one,Nat.mul_comm (2 ^ (j - i).toNat),Nat.mul_div_mul_right _ _ (Nat.pow_pos (by decide))]
theorem flN_mono {m n : Nat} {i j : Int} (h : m * 2 ^ (i - min i j).toNat ≤ n * 2 ^ (j - min i j).toNat) : flN m i ≤ flN n j:=by
  rw [← flN_shift (n:=m) (i:=min i j) (j:=i) (by omega),← flN_shift (n:=n) (i:=min i j) (j:=j) (by omega)]
  unfold flN
  exact Nat.div_le_div_right (Nat.mul_le_mul_right _ h)
def NN (x : F64) (m : Nat) (i : Int) : Prop:=∃ s,FloatKind.f64.decode x = .number s m i ∧ (s = true → m = 0)
theorem read0 : FloatKind.f64.decode 0 = .number false 0 (-1074):=by decide
theorem readTop : FloatKind.f64.decode 4751297606873776128 = .number false 9007199252643840 (-21):=by decide
theorem signed_pos {s : Bool} {m k : Nat} (h : s = true → m = 0) : Ieee.signed s m k = ((m * 2 ^ k : Nat) : Int):=by
  unfold Ieee.signed
  cases s with
  | true=>simp [h rfl]
  | false=>simp [Nat.shiftLeft_eq]
theorem fge_nn {x : F64} (h : fge x 0 = true) : (∃ m i,NN x m i) ∨ FloatKind.f64.decode x = .infinity false:=by
  unfold fge Ieee.Format.order at h
  change ((FloatKind.f64.decode x).order (FloatKind.f64.decode 0) == some .gt || (FloatKind.f64.decode x).order (FloatKind.f64.decode 0) == some .eq) = true at h
  rw [read0] at h
  cases hd : FloatKind.f64.decode x with
  | nan a b=>rw [hd] at h; simp [Ieee.Datum.order] at h
  | infinity s=>
    rw [hd] at h
    cases s with
    | true=>simp [Ieee.Datum.order] at h
    | false=>exact .inr rfl
  | number s m i=>
    rw [hd] at h
    refine .inl ⟨m,i,s,hd,fun hs=>?_⟩
    subst hs
    refine Classical.byContradiction fun hm=>?_
    have hz : Ieee.signed false 0 ((-1074 : Int) - min i (-1074)).toNat = 0:=by simp [Ieee.signed]
    have hneg : Ieee.signed true m (i - min i (-1074)).toNat < 0:=by
      unfold Ieee.signed
      rw [if_pos rfl,Nat.shiftLeft_eq]
      have : 0 < m * 2 ^ (i - min i (-1074)).toNat:=Nat.mul_pos (Nat.pos_of_ne_zero hm) (Nat.pow_pos (by decide))
      omega
    have hc : compare (Ieee.signed true m (i - min i (-1074)).toNat) (Ieee.signed false 0 ((-1074 : Int) - min i (-1074)).toNat) = .lt:=by
      rw [hz]
      exact Int.compare_eq_lt.2 hneg
    simp only [Ieee.Datum.order] at h
    rw [hc] at h
    simp at h
theorem fle_nn {x y : F64} {m n : Nat} {i j : Int} (hx : NN x m i) (hy : NN y n j) (h : fle x y = true) : flN m i ≤ flN n j:=by
  obtain ⟨s,ex,hs⟩:=hx
  obtain ⟨t,ey,ht⟩:=hy
  unfold fle Ieee.Format.order at h
  change ((FloatKind.f64.decode x).order (FloatKind.f64.decode y) == some .lt || (FloatKind.f64.decode x).order (FloatKind.f64.decode y) == some .eq) = true at h
  rw [ex,ey] at h
  simp only [Ieee.Datum.order] at h
  rw [signed_pos hs,signed_pos ht] at h
  refine flN_mono ?_
  refine Classical.byContradiction fun hn=>?_
  have hc : compare ((m * 2 ^ (i - min i j).toNat : Nat) : Int) ((n * 2 ^ (j - min i j).toNat : Nat) : Int) = .gt:=Int.compare_eq_gt.2 (by omega)
  rw [hc] at h
  simp at h
def FW (x : F64) (n : Nat) : Prop:=∃ m i,NN x m i ∧ n = flN m i ∧ n ≤ 4294967295
theorem fw_of {x : F64} (h1 : fge x 0 = true) (h2 : fle x 4751297606873776128 = true) : ∃ n,FW x n:=by
  have top : NN 4751297606873776128 9007199252643840 (-21):=⟨false,readTop,fun h=>by cases h⟩
  rcases fge_nn h1 with ⟨m,i,h⟩ | h
  · have:=fle_nn h top h2
    have e : flN 9007199252643840 (-21) = 4294967295:=by decide
    exact ⟨flN m i,m,i,h,rfl,by omega⟩
  · unfold fle Ieee.Format.order at h2
    change ((FloatKind.f64.decode x).order (FloatKind.f64.decode 4751297606873776128) == some .lt || (FloatKind.f64.decode x).order (FloatKind.f64.decode 4751297606873776128) == some .eq) = true at h2
    rw [h,readTop] at h2
    simp [Ieee.Datum.order] at h2
theorem f2u_fw {x : F64} {n : Nat} (h : FW x n) : ∃ u : UInt64,f2u x = some u ∧ u.toNat = n:=by
  obtain ⟨m,i,⟨s,e,hs⟩,rfl,hn⟩:=h
  have h1 : f2i x .u64 = some (flN m i : Int):=by
    have hi : (FloatKind.f64.decode x).toInt .zero = some (flN m i : Int):=by
      rw [e]
      unfold Ieee.Datum.toInt Ieee.Datum.integral
      simp only [cut_zero,Nat.shiftLeft_eq]
      rw [signed_pos (fun q=>by rw [hs q]; simp)]
      simp [flN]
    unfold f2i
    rw [hi]
    simp only
    have e1 : IntKind.min .u64 = 0:=by decide
    have e2 : IntKind.max .u64 = 18446744073709551615:=by decide
    rw [e1,e2,if_pos (by omega)]
  refine ⟨UInt64.ofInt (flN m i : Int),by unfold f2u; rw [h1]; rfl,?_⟩
  unfold UInt64.ofInt
  rw [UInt64.toNat_ofNat']
  omega
theorem word_ok (x : F64) : Ok (Nk x) fun b=>b = true → ∃ n,FW x n:=by
  unfold Nk Qb
  refine .po (P:=fun b=>b = true → ∃ n,FW x n) (.cond (fun h1=>.cond (fun h2=>?_) fun _=>.mk fun h=>by cases h) fun _=>.mk fun h=>by cases h) fun a h=>.mk h
  obtain ⟨n,hn⟩:=fw_of h1 h2
  obtain ⟨u,e,_⟩:=f2u_fw hn
  rw [e]
  exact .mk fun _=>⟨n,hn⟩
theorem bmay_ok (c : C128) : Ok (Iy c) fun b=>b = true → ∃ n m,FW c.re n ∧ FW c.im m ∧ n ≤ m:=by
  unfold Iy Qz
  refine .po (P:=fun b=>b = true → ∃ n m,FW c.re n ∧ FW c.im m ∧ n ≤ m) ?_ fun a h=>.mk h
  refine .po (word_ok c.re) fun a ha=>.cond (fun h1=>?_) fun _=>.mk fun h=>by cases h
  refine .po (word_ok c.im) fun b hb=>.cond (fun h2=>?_) fun _=>.mk fun h=>by cases h
  refine .mk fun h3=>?_
  obtain ⟨n,m,i,hx,hn,hn2⟩:=ha h1
  obtain ⟨k,m',i',hy,hk,hk2⟩:=hb h2
  refine ⟨n,k,⟨m,i,hx,hn,hn2⟩,⟨m',i',hy,hk,hk2⟩,?_⟩
  rw [hn,hk]
  exact fle_nn hx hy h3
structure SpanOk (s : Aj) : Prop where
  le : s.low.toNat ≤ s.high.toNat
  top : s.high.toNat ≤ 4294967295
theorem bof_ok (c : C128) : Ok (Bu c) SpanOk:=by
  unfold Bu
  refine .po (bmay_ok c) fun b hb=>.cond (fun _=>?_) fun h=>?_
  · exact ⟨_,rfl,⟨by decide,by decide⟩⟩
  · obtain ⟨n,m,hn,hm,hle⟩:=hb (by simpa using h)
    obtain ⟨u,e1,hu⟩:=f2u_fw hn
    obtain ⟨v,e2,hv⟩:=f2u_fw hm
    rw [e1,e2]
    refine .mk ⟨by show u.toNat ≤ v.toNat; omega,?_⟩
    obtain ⟨_,_,_,_,h4⟩:=hm
    show v.toNat ≤ _
    omega
theorem told_ok (s : Aj) : Ok (Bt s) fun _=>True:=⟨_,rfl,trivial⟩
theorem fit_ok (a b : UInt64) : Ok (Ga a b) fun _=>True:=by
  unfold Ga Ra
  refine .po (P:=fun _=>True) (.cond (fun _=>.mk trivial) fun _=>.mk trivial) fun i _=>.cond (fun _=>⟨_,rfl,trivial⟩) fun _=>.mk trivial
theorem Of_ok (a b : UInt32) : Ok (Io a b) fun _=>True:=⟨_,rfl,trivial⟩
theorem Ends_ok (c : C128) : Ok (Nm c) fun _=>True:=by
  unfold Nm
  exact .po (bmay_ok c) fun b _=>.cond (fun _=>.mk trivial) fun _=>.po (bof_ok c) fun s _=>.mk trivial
theorem bJoin_ok (a b : C128) : Ok (Ni a b) fun _=>True:=by
  unfold Ni
  exact .po (bof_ok a) fun s _=>.po (bof_ok b) fun t _=>⟨_,rfl,trivial⟩
theorem power_ok {a b : UInt64} (ha : a.toNat ≤ 4294967295) (hb : b.toNat ≤ 4294967295) : Ok (Mf a b) fun _=>True:=by
  unfold Mf Oo
  refine .po (P:=fun _=>True) (.lp (fun s : UInt64=>0 < s.toNat ∧ s.toNat ≤ 8589934592) (fun s=>8589934592 - s.toNat) ⟨by decide,by decide⟩ fun s hs=>?_) fun a _=>.mk trivial
  unfold Om Oj
  refine .po (P:=fun c=>c = true → s.toNat ≤ 4294967295) (.cond (fun h=>.mk fun _=>?_) fun _=>.mk fun h=>?_) fun c hc=>.cond (fun h=>.mk ?_) fun _=>.mk trivial
  · have:=of_decide_eq_true h
    omega
  · have:=of_decide_eq_true h
    omega
  · have h1:=hc h
    have e : (s * 2).toNat = s.toNat * 2:=by
      rw [UInt64.toNat_mul]
      show s.toNat * 2 % _ = _
      omega
    show (0 < (s * 2).toNat ∧ (s * 2).toNat ≤ 8589934592) ∧ 8589934592 - (s * 2).toNat < 8589934592 - s.toNat
    omega
theorem Alu_ok (op : Int) (a b : C128) : Ok (Rm op a b) fun _=>True:=by
  unfold Rm
  refine .po (P:=fun c=>c = false → 0 ≤ op ∧ op < 11) (.cond (fun _=>.mk fun h=>by cases h) fun h1=>.mk fun h2=>?_) fun c hc=>?_
  · have h1:=of_decide_eq_false h1
    have h2:=of_decide_eq_false h2
    omega
  unfold Qp
  have last : ∀ {f : Aj → Aj → Option Aj},(∀ s t,SpanOk s → SpanOk t → Ok (f s t) fun _=>True) → Ok (po (Bu a) fun x=>po (Bu b) fun y=>po (f x y) fun z=>po (Bt z) fun r=>some r) fun _=>True:=fun hf=>
    .po (bof_ok a) fun s hs=>.po (bof_ok b) fun t ht=>.po (hf s t hs ht) fun z _=>⟨_,rfl,trivial⟩
  refine .cond (fun _=>.po (fit_ok _ _) fun z _=>⟨_,rfl,trivial⟩) fun h=>?_
  have hop:=hc h
  refine .po (P:=fun _=>True) (.mk trivial) fun _ _=>?_
  refine .cond (fun _=>last fun s t hs ht=>?_) fun h0=>.cond (fun _=>last fun s t hs ht=>?_) fun h1=>.cond (fun _=>last fun s t hs ht=>?_) fun h2=>.cond (fun _=>last fun s t hs ht=>?_) fun h3=>.cond (fun _=>last fun s t hs ht=>?_) fun h4=>.cond (fun _=>last fun s t hs ht=>?_) fun h5=>.cond (fun _=>last fun s t hs ht=>?_) fun h6=>.cond (fun _=>last fun s t hs ht=>?_) fun h7=>.cond (fun _=>last fun s t hs ht=>?_) fun h8=>.cond (fun _=>last fun s t hs ht=>?_) fun h9=>.cond (fun _=>last fun s t hs ht=>?_) fun h10=>?_
  · exact ⟨_,rfl,trivial⟩
  · exact .po (fit_ok _ _) fun z _=>.mk trivial
  · unfold Ps
    exact .cond (fun _=>.po (fit_ok _ _) fun z _=>.mk trivial) fun _=>.mk trivial
  · exact .po (fit_ok _ _) fun z _=>.mk trivial
  · unfold Qc
    refine .cond (fun _=>.mk trivial) fun h=>.pg ?_ (.pg ?_ (.mk trivial))
    all_goals
      have h : ¬ ((t.low.toNat : Int) = 0):=by simpa using h
      have:=ht.le
      omega
  · unfold Qa
    exact .cond (fun _=>.mk trivial) fun _=>.cond (fun _=>.mk trivial) fun _=>⟨_,rfl,trivial⟩
  · exact ⟨_,rfl,trivial⟩
  · exact .po (power_ok hs.top ht.top) fun z _=>.mk trivial
  · exact .po (power_ok hs.top ht.top) fun z _=>.mk trivial
  · unfold Ot
    exact .cond (fun _=>.po (fit_ok _ _) fun z _=>.mk trivial) fun _=>.po (fit_ok _ _) fun z _=>.mk trivial
  · unfold On
    exact .cond (fun _=>.mk trivial) fun _=>.mk trivial
  · exfalso
    simp only [beq_eq_false_iff_ne,ne_eq] at h0 h1 h2 h3 h4 h5 h6 h7 h8 h9 h10
    omega
theorem Cut_ok (c : Int) (a b : C128) : Ok (Ri c a b) fun _=>True:=by
  unfold Ri
  refine .po (bof_ok a) fun s hs=>.po (bof_ok b) fun t ht=>.po (P:=fun _=>True) ?_ fun x _=>?_
  · refine .cond (fun _=>.mk trivial) fun _=>.cond (fun _=>?_) fun _=>.cond (fun _=>.cond (fun _=>⟨_,rfl,trivial⟩) fun _=>.mk trivial) fun _=>.cond (fun _=>.mk trivial) fun _=>.mk trivial
    refine .po (P:=fun _=>True) (.cond (fun _=>.cond (fun _=>.mk trivial) fun _=>.mk trivial) fun _=>.mk trivial) fun _ _=>?_
    unfold Qs
    refine .cond (fun _=>.mk trivial) fun _=>.po (P:=fun _=>True) (.cond (fun _=>.mk trivial) fun _=>.mk trivial) fun _ _=>?_
    unfold Pt
    refine .cond (fun _=>.mk trivial) fun _=>.po (P:=fun _=>True) (.cond (fun _=>.mk trivial) fun _=>.mk trivial) fun _ _=>?_
    unfold Pq
    exact .cond (fun _=>.mk trivial) fun _=>.mk trivial
  · unfold Qw Pu
    exact .po (P:=fun _=>True) (.cond (fun _=>.mk trivial) fun _=>.mk trivial) fun _ _=>.cond (fun _=>.po (fit_ok _ _) fun z _=>.po (told_ok z) fun _ _=>.mk trivial) fun _=>.po (told_ok _) fun _ _=>.mk trivial
theorem w1 {k : Nat} (h : k < 1000000) : IntKind.i64.wrap ((k : Int) + 1) = ((k + 1 : Nat) : Int):=w64 (by omega)
theorem sMay_ok (s : Ak) : Ok (Gl s) fun _=>True:=by
  unfold Gl
  refine .pm (P:=fun _=>True) ?_ (fun _ _=>⟨_,rfl,trivial⟩) fun _ _=>trivial
  refine .lp (fun x=>∃ k : Nat,x.2 = (k : Int) ∧ k ≤ 8) (fun x=>(8 - x.2).toNat) ⟨0,rfl,by omega⟩ ?_
  rintro ⟨u,i⟩ ⟨k,hk,hk8⟩
  simp only at hk
  subst hk
  unfold Ow
  refine .cond (fun h=>?_) fun _=>.mk trivial
  have h:=of_decide_eq_true h
  refine .pm (P:=fun r=>match r with | .inl _=>True | .inr r=>match r with | .inl _=>False | .inr _=>True) (.pg (by omega) (.cond (fun _=>⟨_,rfl,trivial⟩) fun _=>.po (bmay_ok _) fun b _=>.cond (fun _=>.mk trivial) fun _=>.mk trivial)) (fun a _=>?_) ?_
  · refine ⟨_,rfl,⟨k + 1,w1 (by omega),by omega⟩,?_⟩
    simp only [w1 (show k < 1000000 by omega)]
    omega
  · rintro (b | b) hb
    · exact hb.elim
    · exact trivial
theorem sin_ok (n : Int) : Ok (Nv n) fun b=>b = true → 0 ≤ n ∧ n < 8:=by
  unfold Nv Sp
  refine .po (P:=fun b=>b = true → 0 ≤ n ∧ n < 8) (.cond (fun h=>.mk fun h2=>?_) fun _=>.mk fun h=>by cases h) fun b hb=>.mk hb
  have h:=of_decide_eq_true h
  have h2:=of_decide_eq_true h2
  omega
theorem all_ok : Ok Nz fun _=>True:=⟨_,rfl,trivial⟩
theorem sGet_ok (s : Ak) (n : Int) : Ok (Jv s n) fun _=>True:=by
  unfold Jv Ou
  refine .po (P:=fun b=>b = false → 0 ≤ n ∧ n < 8) ?_ fun b hb=>.cond (fun _=>.mk trivial) fun h=>.pg (hb h) (.mk trivial)
  refine .po (sMay_ok s) fun b _=>.cond (fun _=>.po (sin_ok n) fun c hc=>.cond (fun h=>.pg (hc h) (.mk fun _=>hc h)) fun _=>.mk fun h=>by cases h) fun _=>.mk fun h=>by cases h
theorem sPut_ok (s : Ak) (n : Int) (b : C128) : Ok (Ip s n b) fun _=>True:=by
  unfold Ip Pf
  refine .pm (P:=fun r=>match r with | .inl _=>0 ≤ n ∧ n < 8 | .inr _=>True) ?_ (fun a h=>.pg h ⟨_,rfl,trivial⟩) fun _ _=>trivial
  refine .po (sMay_ok s) fun m _=>.cond (fun _=>.mk trivial) fun _=>.po (sin_ok n) fun c hc=>.cond (fun _=>.mk trivial) fun h=>?_
  have hn:=hc (by simpa using h)
  exact .po (bmay_ok b) fun d _=>.cond (fun _=>.po all_ok fun _ _=>.mk hn) fun _=>.mk hn
theorem sWord_ok (s : Ak) (i : Am) : Ok (Mv s i) fun _=>True:=by
  unfold Mv Lc
  refine .po (P:=fun _=>True) (.po (sMay_ok s) fun b _=>.cond (fun _=>.mk trivial) fun _=>?_) fun b _=>.cond (fun _=>.mk trivial) fun _=>.cond (fun _=>.po (sGet_ok s _) fun _ _=>.mk trivial) fun _=>.po (Of_ok _ _) fun _ _=>.mk trivial
  obtain ⟨c,e,_⟩:=instMay_tells i
  rw [e]
  exact .mk trivial
theorem sBack_ok (s : Ak) : Ok (Ov s) fun _=>True:=by
  unfold Ov
  refine .po (sMay_ok s) fun b _=>.cond (fun _=>.mk trivial) fun _=>?_
  refine .po (P:=fun _=>True) (.lp (fun x=>∃ k : Nat,x.2 = (k : Int) ∧ k ≤ 5) (fun x=>(5 - x.2).toNat) ⟨0,rfl,by omega⟩ ?_) fun t _=>?_
  · rintro ⟨u,i⟩ ⟨k,hk,hk8⟩
    simp only at hk
    subst hk
    unfold Qr
    refine .cond (fun h=>?_) fun _=>.mk trivial
    have h:=of_decide_eq_true h
    rw [w1 (show k < 1000000 by omega)]
    refine .pg (by omega) ⟨_,rfl,⟨k + 1,rfl,by omega⟩,?_⟩
    simp only
    omega
  · unfold Qy
    exact .po all_ok fun c _=>.po (sPut_ok t 0 c) fun _ _=>.mk trivial
theorem sJoin_ok (s t : Ak) : Ok (Mt s t) fun _=>True:=by
  unfold Mt
  refine .po (P:=fun _=>True) (.po (sMay_ok s) fun b _=>.cond (fun _=>.po (sMay_ok t) fun _ _=>.mk trivial) fun _=>.mk trivial) fun b _=>?_
  unfold Kq
  refine .cond (fun _=>.mk trivial) fun _=>.po (P:=fun _=>True) (.lp (fun x=>∃ k : Nat,x.2 = (k : Int) ∧ k ≤ 8) (fun x=>(8 - x.2).toNat) ⟨0,rfl,by omega⟩ ?_) fun t _=>.mk trivial
  rintro ⟨u,i⟩ ⟨k,hk,hk8⟩
  simp only at hk
  subst hk
  unfold Ku
  refine .cond (fun h=>?_) fun _=>.mk trivial
  have h:=of_decide_eq_true h
  refine .po (P:=fun _=>True) (.po (P:=fun _=>True) (.pg (by omega) (.cond (fun _=>.mk trivial) fun _=>.mk trivial)) fun c _=>?_) fun x _=>?_
  · unfold Jr
    exact .cond (fun _=>.pg (by omega) (.po (bJoin_ok _ _) fun d _=>.po (sPut_ok _ _ _) fun _ _=>.mk trivial)) fun _=>.mk trivial
  · unfold Nr
    rw [w1 (show k < 1000000 by omega)]
    refine .mk ⟨⟨k + 1,rfl,by omega⟩,?_⟩
    simp only
    omega
theorem sNew_ok (a : Int) : Ok (Oa a) fun _=>True:=by
  unfold Oa
  refine .po (P:=fun c=>c = false → 0 ≤ a ∧ a ≤ 4) (.cond (fun _=>.mk fun h=>by cases h) fun h1=>.mk fun h2=>?_) fun c hc=>?_
  · have h1:=of_decide_eq_false h1
    have h2:=of_decide_eq_false h2
    omega
  unfold Ly
  refine .cond (fun _=>.mk trivial) fun h=>.po (P:=fun _=>True) (.lp (fun x=>∃ k : Nat,x.2 = (k : Int) ∧ k ≤ 8) (fun x=>(8 - x.2).toNat) ⟨0,rfl,by omega⟩ ?_) fun t _=>.mk trivial
  have ha:=hc h
  rintro ⟨u,i⟩ ⟨k,hk,hk8⟩
  simp only at hk
  subst hk
  unfold Pd
  refine .cond (fun h=>?_) fun _=>.mk trivial
  have h:=of_decide_eq_true h
  refine .po all_ok fun c _=>?_
  rw [w1 (show k < 1000000 by omega)]
  refine .pg (by omega) ⟨_,rfl,⟨k + 1,rfl,by omega⟩,?_⟩
  simp only
  omega
theorem IR.zero {I : World → (Nat → Prop) → Prop} {s : St} {a : Act} {W : World} (h : IR I s a W) (ht : (s.tm.all fun p=>p.2.in3 (Hp.has [])) = true) : IR I ⟨s.tm,[],0,s.nt,0⟩ a W:=by
  obtain ⟨own,x,h1,h2,hC,h3⟩:=h
  have hS : SubH [] ([] : Hp):=fun id o h=>h
  have hno : ∀ id g,¬ (x.only (Hp.has [])).dom id g:=fun id g h=>by
    have:=h.2
    simp [Hp.has,look] at this
  exact ⟨own,x.only (Hp.has []),h1,h2,⟨hC.h.sub hS (Hp.has []) fun id o h=>by simp [look] at h,fun t u hu=>((hC.t t u hu).in3_ (look_all ht hu)).mono (Mo.sub hS),hC.n,hC.d,Tr.refl _ _ _,Mo.refl _ _ _,fun id g h=>absurd h (hno id g),Nat.le_refl _,fun id g h=>absurd h (hno id g)⟩,h3⟩
theorem YV.zero {P : Program} {c : Code} {Q : Exit → St → (World → (Nat → Prop) → Prop) → Prop} {s : St} {I : World → (Nat → Prop) → Prop} (ht : (s.tm.all fun p=>p.2.in3 (Hp.has [])) = true) (h : YV P c Q ⟨s.tm,[],0,s.nt,0⟩ I) : YV P c Q s I:=fun a W hI=>h a W (hI.zero ht)
attribute [push_cast] runPre argOk gdOk
theorem itC_len {P : Program} {gf : Nat} {sz i off : Nat} {pre : List AV} {t : Bool} {els : List (List AV)} {rest : List AV} {us : List (List AV)} (h : els.length < 9223372036854775808 → ItC P gf [.dat sz [pre ++ .sl t els :: rest] 0 0] us) : ItC P gf [.dat sz [pre ++ .sl t els :: rest] 0 0] us:=by
  intro W0 x0 lb hH hsz hrel
  refine h ?_ W0 x0 lb hH hsz hrel
  have hv:=hrel 0 _ rfl
  generalize lb.getD 0 undef = v at hv
  cases hv with
  | dat h=>cases h
  | datp els' i off sz a vals hok hsz hcell hd=>
    have:=hd (pre ++ .sl t els :: rest) pre.length (.sl t els) rfl (by simp)
    generalize vals pre.length = q at this
    cases this with
    | sl _ _ A c sz vals hc hm ht hsz hA hcell hd => 
      unfold maxLen at hm
      omega
def backL {α : Type} (l : List α) : List Int:=((List.range l.length).reverse).map fun (i : Nat)=>(i : Int)
def Ee0 (u : Int) : List AV:=[ri u,.dead]
theorem backL_len {α : Type} (l : List α) : (backL l).length = l.length:=by simp [backL]
theorem backL_at {α : Type} {l : List α} {n : Nat} (h : n < l.length) : (backL l)[l.length - (n + 1)]? = some (n : Int):=by
  unfold backL
  rw [List.getElem?_map,List.getElem?_reverse (by simp; omega)]
  simp only [List.length_range]
  rw [show l.length - 1 - (l.length - (n + 1)) = n by omega,List.getElem?_range h]
  rfl
theorem Uj (a : List Cv) : Ctr prog 131 [.sl false (a.map Al)] [] (.fn (.func 183) [] [.dat 1 [[.sl false (a.map Al)]] 0 0]) []:=by
  refine Ctr.ofW Ba func131 rfl call131 0 _ ntmps131 [.tmp 2] rfl rfl rfl (fun B=>?_)
  refine vs [1] fun _ k=>?_
  push_cast
  apply k
  clear k
  refine VC.sub (Sub.freezeP (k:=1) rfl rfl rfl) ?_
  refine VC.sub (s':=⟨[(1,.dat 1 [[.sl false (a.map Al)]] 0 0)],[],2,4,0⟩) (so (by push_cast)) ?_
  refine vs [2] fun _ k=>?_
  push_cast
  apply k
  clear k
  refine VC.ret ?_
  exact en (by push_cast)
def bkS (l : Nat) (a : List Cv) (n : Nat) : St:=⟨[(0,.fn (.yield l) [] []),(1,.dat 1 [[.sl false (a.map Al)]] 0 0),(3,ri ((n : Int) - 1))],[],0,19,0⟩
theorem it_slices_Backward_api_Fn_api_Fn (a : List Cv) : ItC prog 183 [.dat 1 [[.sl false (a.map Al)]] 0 0] ((backL a).map Ee0):=by
  refine itC_len (pre:=[]) (rest:=[]) (i:=0) (off:=0) fun hlen=>?_
  simp only [List.length_map] at hlen
  have hul : ((backL a).map Ee0).length = a.length:=by rw [List.length_map,backL_len]
  refine ItC.of func183 rfl 19 ntmps183 rfl rfl rfl (fun l J Jx hJ hJx hJb hY=>?_)
  rw [hul]
  have hgx : GrowI (fun W (_ : Nat → Prop)=>Jx W):=fun A A' own h hg=>hJx A A' h hg
  refine YV.seq ?_
  refine YV.seg (hJ 0) (fun B=>?_)
  refine vl fun _ k=>?_
  have hw : IntKind.i64.wrap ((a.length : Int) - 1) = (a.length : Int) - 1:=wrap_i64 (by omega) (by omega)
  push_cast [hw]
  apply k
  clear k
  refine ⟨bkS l a a.length,so (by push_cast [bkS]),rfl,?_⟩
  refine YV.block ?_
  refine YV.loop (bkS l a) (fun n=>J (a.length - n)) (fun n=>n ≤ a.length) (fun n=>n) a.length (Nat.le_refl _) rfl (by rw [Nat.sub_self]) ?_
  intro n hn
  refine YV.seq ?_
  refine YV.seq ?_
  refine YV.seg (hJ _) (fun B=>?_)
  refine vl fun _ k=>?_
  push_cast [bkS]
  apply k
  clear k
  refine ⟨⟨(8,rb (decide ((n : Int) - 1 ≥ 0))) :: (bkS l a n).tm,[],0,19,0⟩,so (by push_cast [bkS]),rfl,?_⟩
  refine YV.cond rfl rfl (fun hc=>?_) (fun hc=>?_)
  case refine_2=>
    refine YV.exit ?_
    have h0 : n = 0:=by
      have:=of_decide_eq_false hc
      omega
    subst h0
    exact ⟨.inl rfl,.inl rfl⟩
  case refine_1=>
    refine YV.skip ?_
    obtain ⟨m,rfl⟩ : ∃ m,n = m + 1:=by
      have:=of_decide_eq_true hc
      exact ⟨n - 1,by omega⟩
    have hm : m < a.length:=by omega
    have hmI : (m : Int) < (a.length : Int):=by omega
    have e1 : (((m + 1 : Nat) : Int) - 1) = (m : Int):=by omega
    obtain ⟨b,hb⟩ : ∃ b,a[m]? = some b:=⟨_,List.getElem?_eq_getElem hm⟩
    have hb2 : (a.map Al)[m]? = some (Al b):=by rw [List.getElem?_map,hb]; rfl
    have hu : ((backL a).map Ee0)[a.length - (m + 1)]? = some (Ee0 (m : Int)):=by rw [List.getElem?_map,backL_at hm]; rfl
    show YV prog _ _ _ (J (a.length - (m + 1)))
    refine YV.seq ?_
    refine YV.block ?_
    refine YV.seq ?_
    simp only [bkS,e1]
    refine YV.yieldAt 6 (evOperF_ok Fb) rfl hJ hJx hJb hY hu rfl rfl (by exact rfl) rfl fun _ k=>?_
    push_cast [Ee0,hb,hm,hmI]
    intro c
    refine k _ _ ?_
    clear k
    refine ⟨⟨[(18,rb (!c)),(0,.fn (.yield l) [] []),(1,.dat 1 [[.sl false (a.map Al)]] 0 0),(3,ri (m : Int))],[],6,19,6⟩,so (by push_cast),rfl,?_⟩
    refine YV.zero rfl ?_
    refine YV.cond rfl rfl (fun h=>?_) (fun h=>?_)
    · have hcf : c = false:=by simpa using h
      subst hcf
      exact YV.ret ⟨.inr rfl,.inr rfl⟩
    · have hct : c = true:=by simpa using h
      subst hct
      refine YV.skip ?_
      have e2 : a.length - (m + 1) + 1 = a.length - m:=by omega
      show YV prog _ _ _ (J (a.length - (m + 1) + 1))
      rw [e2]
      refine YV.seg (hJ _) (fun B=>?_)
      refine vl fun _ k=>?_
      have hw : IntKind.i64.wrap ((m : Int) - 1) = (m : Int) - 1:=wrap_i64 (by omega) (by omega)
      push_cast [hw]
      apply k
      clear k
      exact ⟨bkS l a m,so (by push_cast [bkS]),rfl,m,by omega,by show m < m + 1; omega,rfl,rfl⟩
noncomputable def Sa (a0 : Am) : Option (Bool):=
  po (Jy a0) fun r1=>
  some (!r1)
theorem Ej0 {a0 : Am} {r : Bool} (h : Sa a0 = some r) : Ctr prog 221 [.agg (Aw a0)] [] (rb r) []:=by
 unfold Sa at h;refine Ctr.ofW Ba func221 rfl call221 0 _ ntmps221 [.tmp 2] rfl rfl rfl (fun B=>?_);refine vs [1] fun _ k=>?_;push_cast;apply k;clear k;obtain ⟨r1,hr1,h⟩:=Aa h;refine vs [2] fun _ k=>?_;push_cast;refine cp (Zs hr1) ?_;push_cast;apply k;clear k;refine VC.ret ?_;replace h:=Option.some.inj h;subst h;exact en (by push_cast)
noncomputable def Bi (a0 : (List Am)) (i_1 : Int) : Option ((Int) ⊕ ((Unit) ⊕ (Int))):=
  cond (decide (i_1 < (a0.length : Int))) (
  po (idx a0 i_1) fun x4=>
  po (Sa x4) fun r5=>
  cond r5 (
  some (Sum.inr (Sum.inr i_1))) (
  some (Sum.inl (IntKind.i64.wrap (i_1 + 1))))) (
  some (Sum.inr (Sum.inl ())))
noncomputable def Cl : Option (Int):=
  some (-1)
noncomputable def Cc (a0 : (List Am)) : Option (Int):=
  pm (
  lpU (fun x=>Bi a0 x) 0) (fun x=>Cl)
theorem Md {a0 : (List Am)} {r : Int} (h : Cc a0 = some r) : Ctr prog 192 [.sl false (a0.map Aw),.fn (.func 221) [] []] [] (ri r) []:=by
 unfold Cc at h;refine Ctr.ofW Ba func192 rfl call192 0 _ ntmps192 [.tmp 4] rfl rfl rfl (fun B=>?_);refine vs [0,1] fun _ k=>?_;push_cast;apply k;clear k;refine vm h (fun x=>⟨[],[],16,19,0⟩) (fun v1 h hk1=>?_) ?_
 ·refine vs [0,1,7,8] fun _ k=>?_;push_cast;apply k;clear k;refine VC.block ?_;refine VC.loopP h (fun x=>⟨[(0,.sl false (a0.map Aw)),(1,.fn (.func 221) [] []),(7,ri (a0.length : Int)),(8,ri x)],[],15,19,0⟩) ?_ ?_
  ·exact sl (by push_cast)
  rintro i_1 b2 (h : Bi a0 i_1 = some b2) hf2;(try push_cast);unfold Bi at h;refine vs [0,1,7,8,9] fun _ k=>?_;push_cast;apply k;clear k;refine VC.seq ?_;refine vc h (fun hb3 h=>?_) (fun hb3 h=>?_)
  ·refine VC.skip ?_;refine VC.seq ?_;refine VC.block ?_;refine vs [0,1,5,7,8] fun _ k=>?_;push_cast;apply k;clear k;obtain ⟨x4,hx4,h⟩:=Aa h;replace hx4:=Bh hx4;obtain ⟨r5,hr5,h⟩:=Aa h;refine vs [0,1,5,7,8,16] fun _ k=>?_;push_cast [hx4];(repeat refine ao ?_);refine cp (Ej0 hr5) ?_;push_cast [hx4];(repeat refine ao ?_);apply k;clear k;refine vc h (fun hb6 h=>?_) (fun hb6 h=>?_)
   ·refine vs [4] fun _ k=>?_;push_cast;apply k;clear k;refine VC.ret ?_;replace h:=ol h hf2;replace h:=om h hk1;replace h:=Option.some.inj h;subst h;exact en (by push_cast [hb3,hb6])
   ·refine VC.skip ?_;refine vl fun _ k=>?_;push_cast;apply k;clear k;refine bk h ?_;exact sl (by push_cast [hb3,hb6])
  ·refine VC.exit ?_;replace h:=ol h hf2;refine am h hk1 ?_;exact sl (by push_cast [hb3])
 ·rintro ⟨⟩ (h : Cl = some r);(try push_cast);unfold Cl at h;refine vs [4] fun _ k=>?_;push_cast;apply k;clear k;refine VC.ret ?_;replace h:=Option.some.inj h;subst h;exact en (by push_cast)
noncomputable def Bx (a0 : (List Am)) : Option (Bool):=
  po (Cc a0) fun r1=>
  some (decide (r1 ≥ 0))
theorem Ld {a0 : (List Am)} {r : Bool} (h : Bx a0 = some r) : Ctr prog 147 [.sl false (a0.map Aw),.fn (.func 221) [] []] [] (rb r) []:=by
 unfold Bx at h;refine Ctr.ofW Ba func147 rfl call147 0 _ ntmps147 [.tmp 4] rfl rfl rfl (fun B=>?_);refine vs [0,1] fun _ k=>?_;push_cast;apply k;clear k;obtain ⟨r1,hr1,h⟩:=Aa h;refine vs [4] fun _ k=>?_;push_cast;refine cp (Md hr1) ?_;push_cast;apply k;clear k;refine VC.ret ?_;replace h:=Option.some.inj h;subst h;exact en (by push_cast)
noncomputable def Nw (i_1 : Bool) : Option (Bool):=
  some i_1
noncomputable def Mm (a0 : (List Am)) : Option (Bool):=
  po (
  cond (decide ((a0.length : Int) > 0)) (
  cond (decide ((a0.length : Int) ≤ 64)) (
  po (Bx a0) fun r4=>
  some (!r4)) (
  some false)) (
  some false)) (fun x=>Nw x)
theorem Gj0 {a0 : (List Am)} {r : Bool} (h : Mm a0 = some r) : Ctr prog 184 [.sl false (a0.map Aw)] [] (rb r) []:=by
 unfold Mm at h;refine Ctr.ofW Ba func184 rfl call184 0 _ ntmps184 [.tmp 2] rfl rfl rfl (fun B=>?_);refine vs [0] fun _ k=>?_;push_cast;apply k;clear k;refine vj h (fun x=>⟨[(2,rb x)],[],15,16,0⟩) (fun v1 h hk1=>?_) ?_
 ·rcases bt (decide ((a0.length : Int) > 0)) with hb2 | hb2
  ·replace h:=Ao hb2 h;rcases bt (decide ((a0.length : Int) ≤ 64)) with hb3 | hb3
   ·replace h:=Ao hb3 h;obtain ⟨r4,hr4,h⟩:=Aa h;refine vlG [some 3,some 4,some 5,some 6,some 7,some 8,some 9,some 10,some 11,some 12,some 13,some 14,some 15,some 2] fun _ k=>?_;refine Ag 8 fun _ l=>?_;push_cast [hb2,hb3];(repeat refine ao ?_);apply l;clear l;simp only [List.drop_succ_cons,List.drop_zero];push_cast [hb2,hb3];(repeat refine ao ?_);refine cp (Ld hr4) ?_;push_cast [hb2,hb3];(repeat refine ao ?_);apply k;clear k;refine ar h hk1 ?_;exact sl (by push_cast [hb2,hb3])
   ·replace h:=Au hb3 h;refine vlG [some 3,some 4,some 5,some 6,some 7,some 8,some 9,some 10,some 11,some 12,some 13,some 14,some 15,some 2] fun _ k=>?_;refine Ag 8 fun _ l=>?_;push_cast [hb2,hb3];(repeat refine ao ?_);apply l;clear l;simp only [List.drop_succ_cons,List.drop_zero];push_cast [hb2,hb3];(repeat refine ao ?_);apply k;clear k;refine ar h hk1 ?_;exact sl (by push_cast [hb2,hb3])
  ·replace h:=Au hb2 h;refine vlG [some 3,some 4,some 5,some 6,some 7,some 8,some 9,some 10,some 11,some 12,some 13,some 14,some 15,some 2] fun _ k=>?_;refine Ag 8 fun _ l=>?_;push_cast [hb2];(repeat refine ao ?_);apply l;clear l;simp only [List.drop_succ_cons,List.drop_zero];push_cast [hb2];(repeat refine ao ?_);apply k;clear k;refine ar h hk1 ?_;exact sl (by push_cast [hb2])
 ·rintro i_1 (h : Nw i_1 = some r);(try push_cast);unfold Nw at h;refine VC.ret ?_;replace h:=Option.some.inj h;subst h;exact en (by push_cast)
noncomputable def Py (a1 : Int) (x1 : Am) (i_2 : Bool) : Option ((List Int)):=
  cond i_2 (
  some ([(IntKind.i64.wrap (a1 + 1)),(IntKind.i64.wrap ((IntKind.i64.wrap (a1 + x1.Off)) + 1))])) (
  some ([(IntKind.i64.wrap (a1 + 1))]))
noncomputable def Pj (a1 : Int) (x1 : Am) (i_1 : Bool) : Option ((List Int)):=
  cond i_1 (
  some ([(IntKind.i64.wrap ((IntKind.i64.wrap (a1 + x1.Off)) + 1))])) (
  po (
  cond (x1.Op == 1) (
  some (decide (x1.Off > 0))) (
  some false)) (fun x=>Py a1 x1 x))
noncomputable def Nn (a0 : (List Am)) (a1 : Int) : Option ((List Int)):=
  po (idx a0 a1) fun x1=>
  cond (x1.Op == 7) (
  some []) (
  po (
  cond (x1.Op == 1) (
  some (x1.Fn == 0)) (
  some false)) (fun x=>Pj a1 x1 x))
theorem Ev0 {a0 : (List Am)} {a1 : Int} {r : (List Int)} (h : Nn a0 a1 = some r) : Ctr prog 185 [.sl false (a0.map Aw),ri a1] [] (.row 0 0 1 0 r.length) [(0,.row 3 1 0 (r.map Ec))]:=by
 unfold Nn at h;refine Ctr.ofW Ba func185 rfl call185 0 _ ntmps185 [.tmp 4] rfl rfl rfl (fun B=>?_);refine vs [0,1] fun _ k=>?_;push_cast;apply k;clear k;obtain ⟨x1,hx1,h⟩:=Aa h;replace hx1:=Bh hx1;refine vs [1,5] fun _ k=>?_;push_cast [hx1];(repeat refine ao ?_);apply k;clear k;refine VC.seq ?_;refine VC.block ?_;refine vs [1,5,10] fun _ k=>?_;push_cast;apply k;clear k;refine vc h (fun hb2 h=>?_) (fun hb2 h=>?_)
 ·refine vs [4] fun _ k=>?_;push_cast;apply k;clear k;refine VC.ret ?_;replace h:=Option.some.inj h;subst h;refine Cg (so (s':=⟨[(4,.sl true [])],[],12,49,0⟩) (by push_cast [hb2])) ?_;refine Cg (Sub.adoptT (k:=4) (e:=3) (sz:=1) rfl) ?_;refine Cg (Sub.renT (k:=4) (i':=0) rfl rfl (Nat.le_of_ble_eq_true rfl) (Nat.le_of_ble_eq_true rfl) rfl) ?_;exact en (by push_cast [hb2])
 ·refine vj h (fun x=>⟨[(1,ri a1),(5,.ref 5 0),(14,rb x)],[(5,.box 37 (Aw x1))],20,49,0⟩) (fun v3 h hk3=>?_) ?_
  ·rcases bt (x1.Op == 1) with hb4 | hb4
   ·replace h:=Ao hb4 h;refine vlG [some 15,some 16,some 17,some 18,some 19,some 20,some 21,some 22,some 14] fun _ k=>?_;push_cast [hb4];(repeat refine ao ?_);apply k;clear k;refine ar h hk3 ?_;exact sl (by push_cast [hb2,hb4])
   ·replace h:=Au hb4 h;refine vlG [some 15,some 16,some 17,some 18,some 19,some 20,some 21,some 22,some 14] fun _ k=>?_;push_cast [hb4];(repeat refine ao ?_);apply k;clear k;refine ar h hk3 ?_;exact sl (by push_cast [hb2,hb4])
  ·rintro i_1 (h : Pj a1 x1 i_1 = some r);(try push_cast);unfold Pj at h;refine vc h (fun hb5 h=>?_) (fun hb5 h=>?_)
   ·refine vs [4] fun _ k=>?_;push_cast;apply k;clear k;refine VC.sub (s':=⟨[(4,.row 25 0 1 0 1)],[(25,.row 3 1 0 (([(IntKind.i64.wrap ((IntKind.i64.wrap (a1 + x1.Off)) + 1))]).map Ec))],27,49,0⟩) (so (by push_cast [hb2,hb5])) ?_;refine VC.ret ?_;replace h:=Option.some.inj h;subst h;refine Cg (so (s':=⟨[(4,.row 25 0 1 0 1)],[(25,.row 3 1 0 (([(IntKind.i64.wrap ((IntKind.i64.wrap (a1 + x1.Off)) + 1))]).map Ec))],27,49,0⟩) (by push_cast [hb2,hb5])) ?_;refine Cg (Sub.renT (k:=4) (i':=0) rfl rfl (Nat.le_of_ble_eq_true rfl) (Nat.le_of_ble_eq_true rfl) rfl) ?_;exact en (by push_cast [hb2,hb5])
   ·refine vj h (fun x=>⟨[(1,ri a1),(5,.ref 5 0),(29,rb x)],[(5,.box 37 (Aw x1))],29,49,0⟩) (fun v6 h hk6=>?_) ?_
    ·rcases bt (x1.Op == 1) with hb7 | hb7
     ·replace h:=Ao hb7 h;refine vlG [some 30,some 31,some 32,some 33,some 34,some 35,some 36,some 37,some 29] fun _ k=>?_;push_cast [hb7];(repeat refine ao ?_);apply k;clear k;refine ar h hk6 ?_;exact sl (by push_cast [hb2,hb5,hb7])
     ·replace h:=Au hb7 h;refine vlG [some 30,some 31,some 32,some 33,some 34,some 35,some 36,some 37,some 29] fun _ k=>?_;push_cast [hb7];(repeat refine ao ?_);apply k;clear k;refine ar h hk6 ?_;exact sl (by push_cast [hb2,hb5,hb7])
    ·rintro i_2 (h : Py a1 x1 i_2 = some r);(try push_cast);unfold Py at h;refine vc h (fun hb8 h=>?_) (fun hb8 h=>?_)
     ·refine vs [4] fun _ k=>?_;push_cast;apply k;clear k;refine VC.sub (s':=⟨[(4,.row 36 0 1 0 2)],[(36,.row 3 1 0 (([(IntKind.i64.wrap (a1 + 1)),(IntKind.i64.wrap ((IntKind.i64.wrap (a1 + x1.Off)) + 1))]).map Ec))],38,49,0⟩) (so (by push_cast [hb2,hb5,hb8])) ?_;refine VC.ret ?_;replace h:=Option.some.inj h;subst h;refine Cg (so (s':=⟨[(4,.row 36 0 1 0 2)],[(36,.row 3 1 0 (([(IntKind.i64.wrap (a1 + 1)),(IntKind.i64.wrap ((IntKind.i64.wrap (a1 + x1.Off)) + 1))]).map Ec))],38,49,0⟩) (by push_cast [hb2,hb5,hb8])) ?_;refine Cg (Sub.renT (k:=4) (i':=0) rfl rfl (Nat.le_of_ble_eq_true rfl) (Nat.le_of_ble_eq_true rfl) rfl) ?_;exact en (by push_cast [hb2,hb5,hb8])
     ·refine VC.skip ?_;refine vs [4] fun _ k=>?_;push_cast;apply k;clear k;refine VC.sub (s':=⟨[(4,.row 31 0 1 0 1)],[(31,.row 3 1 0 (([(IntKind.i64.wrap (a1 + 1))]).map Ec))],33,49,0⟩) (so (by push_cast [hb2,hb5,hb8])) ?_;refine VC.ret ?_;replace h:=Option.some.inj h;subst h;refine Cg (so (s':=⟨[(4,.row 31 0 1 0 1)],[(31,.row 3 1 0 (([(IntKind.i64.wrap (a1 + 1))]).map Ec))],33,49,0⟩) (by push_cast [hb2,hb5,hb8])) ?_;refine Cg (Sub.renT (k:=4) (i':=0) rfl rfl (Nat.le_of_ble_eq_true rfl) (Nat.le_of_ble_eq_true rfl) rfl) ?_;exact en (by push_cast [hb2,hb5,hb8])
noncomputable def Mx (i_61 : Int) (i_62 : Int) (l_63 : (List Int)) : Option ((Int × (List Int) × Int) ⊕ (Int)):=
  some (Sum.inl (i_62,l_63,(IntKind.i64.wrap (i_61 + 1))))
noncomputable def Jp (a0 : (List Am)) (w_27 : (AN 65)) (r5 : (List Int)) (i_59 : Int) (l_60 : (List Int)) (i_61 : Int) : Option ((Int × (List Int) × Int) ⊕ (Int)):=
  cond (decide (i_61 < (r5.length : Int))) (
  po (
  po (idx l_60 i_61) fun x9=>
  cond (decide (x9 < (a0.length : Int))) (
  pg (0 ≤ x9 ∧ x9 < 65) <|
  some ((maxI i_59 (w_27.get x9.toNat)),l_60)) (
  some (i_59,l_60))) (fun x=>Mx i_61 x.1 x.2)) (
  some (Sum.inr i_59))
noncomputable def Lq (x17 : Int) (i_68 : Bool) : Option (Int):=
  cond i_68 (
  some (IntKind.i64.wrap (1 + x17))) (
  some 1)
noncomputable def Lt (a1 : (List Int)) (x13 : Am) (i_67 : Bool) : Option (Int):=
  cond i_67 (
  po (a1[x13.Imm.toNat]?) fun x17=>
  po (
  cond (decide (x17 ≥ 0)) (
  some (decide (x17 ≤ 1000000))) (
  some false)) (fun x=>Lq x17 x)) (
  some 1)
noncomputable def Lr (w_27 : (AN 65)) (i_28 : Int) (i_39 : Int) (i_52 : Int) : Option (((AN 65) × Int) ⊕ (Int)):=
  pg (0 ≤ i_28 ∧ i_28 < 65) <|
  pl (w_27.set i_28.toNat (minI (IntKind.i64.wrap (i_52 + i_39)) 1000000)) fun y22=>
  cond (decide ((IntKind.i64.wrap (i_28 - 1)) ≥ 0)) (
  some (Sum.inl (y22,(IntKind.i64.wrap (i_28 - 1))))) (
  some (Sum.inr (y22.get 0)))
noncomputable def Jo (a0 : (List Am)) (a1 : (List Int)) (w_27 : (AN 65)) (i_28 : Int) (i_39 : Int) : Option (((AN 65) × Int) ⊕ (Int)):=
  po (
  po (idx a0 i_28) fun x13=>
  po (
  cond (x13.Op == 6) (
  some (decide (x13.Imm.toNat < a1.length))) (
  some false)) (fun x=>Lt a1 x13 x)) (fun x=>Lr w_27 i_28 i_39 x)
noncomputable def Fo (a0 : (List Am)) (a1 : (List Int)) (w_27 : (AN 65)) (i_28 : Int) : Option (((AN 65) × Int) ⊕ (Int)):=
  po (
  po (Nn a0 i_28) fun r5=>
  lpU (fun x=>Jp a0 w_27 r5 x.1 x.2.1 x.2.2) (0,r5,0)) (fun x=>Jo a0 a1 w_27 i_28 x)
noncomputable def Hr (a0 : (List Am)) (a1 : (List Int)) : Option (Int):=
  po (Mm a0) fun r1=>
  cond (!r1) (
  some 0) (
  lpU (fun x=>Fo a0 a1 x.1 x.2) ((AN.zero 65),(IntKind.i64.wrap ((a0.length : Int) - 1))))
theorem Dk0 {a0 : (List Am)} {a1 : (List Int)} {r : Int} (h : Hr a0 a1 = some r) : Ctr prog 132 [.sl false (a0.map Aw),.sl false (a1.map Ec)] [] (ri r) []:=by
 unfold Hr at h;refine Ctr.ofN Ba func132 rfl call132 0 _ ntmps132 [.tmp 4] rfl rfl rfl (fun B hB=>?_);refine vs [0,1] fun _ k=>?_;push_cast;apply k;clear k;refine VC.jumpsP hB (l:=0) (step:=(fun x=>Fo a0 a1 x.1 x.2)) rfl (fun x=>⟨[(0,.sl false (a0.map Aw)),(1,.sl false (a1.map Ec)),(5,.ref 4 0),(6,ri x.2)],[(4,.box 267 (Hf x.1))],78,78,0⟩) ?_;refine VC.seq ?_;obtain ⟨r1,hr1,h⟩:=Aa h;refine vs [0,1,15] fun _ k=>?_;push_cast;refine cp (Gj0 hr1) ?_;push_cast;apply k;clear k;refine vc h (fun hb2 h=>?_) (fun hb2 h=>?_)
 ·refine vs [4] fun _ k=>?_;push_cast;apply k;clear k;refine VC.ret ?_;replace h:=Option.some.inj h;subst h;exact en (by push_cast [hb2])
 ·refine VC.skip ?_;refine vs [0,1,5] fun _ k=>?_;push_cast;apply k;clear k;refine VC.sub (s':=⟨[(0,.sl false (a0.map Aw)),(1,.sl false (a1.map Ec)),(5,.ref 4 0)],[(4,.box 267 (Hf (AN.zero 65)))],5,78,0⟩) (so (h4:=by first | exact rfl | simp [St.wf,AV.in3,AV.in2,AV.in1,AV.in0,AObj.inD,Gh,ri,ru,rb,Aw]) (by push_cast [hb2,Hf,AN.zero,AN.un])) ?_;refine vs [0,1,5,6] fun _ k=>?_;push_cast;apply k;clear k;refine VC.labelP h (fun x=>⟨[(0,.sl false (a0.map Aw)),(1,.sl false (a1.map Ec)),(5,.ref 4 0),(6,ri x.2)],[(4,.box 267 (Hf x.1))],78,78,0⟩) ?_ ?_
  ·exact sl (h4:=by first | exact rfl | simp [St.wf,AV.in3,AV.in2,AV.in1,AV.in0,AObj.inD,Gh,ri,ru,rb,Aw]) (by push_cast [hb2])
  rintro ⟨w_27,i_28⟩ b3 (h : Fo a0 a1 w_27 i_28 = some b3) hf3;(try push_cast);unfold Fo at h;refine vs [0,1,5,6,7] fun _ k=>?_;push_cast;apply k;clear k;refine vj h (fun x=>⟨[(0,.sl false (a0.map Aw)),(1,.sl false (a1.map Ec)),(5,.ref 4 0),(6,ri i_28),(7,ri x)],[(4,.box 267 (Hf w_27))],101,78,0⟩) (fun v4 h hk4=>?_) ?_
  ·obtain ⟨r5,hr5,h⟩:=Aa h;refine vs [0,1,5,6,7,21,22,23] fun _ k=>?_;push_cast;refine ch (H:=[]) (Ctr.loH (Ctr.ren (Bij.swp 0 81 Bij.id) (Ev0 hr5) (by push_cast) (by push_cast))) (by push_cast) ?_;push_cast;apply k;clear k;refine VC.sub (s':=⟨[(0,.sl false (a0.map Aw)),(1,.sl false (a1.map Ec)),(5,.ref 4 0),(6,ri i_28),(7,ri 0),(21,.row 81 0 1 0 r5.length),(22,ri (r5.length : Int)),(23,ri 0)],[(4,.box 267 (Hf w_27)),(81,.row 3 1 0 (r5.map Ec))],84,78,0⟩) (so (h4:=by first | exact rfl | simp [St.wf,AV.in3,AV.in2,AV.in1,AV.in0,AObj.inD,Gh,ri,ru,rb,Aw]) (by push_cast [hb2])) ?_;refine VC.block ?_;refine VC.loopP h (fun x=>⟨[(0,.sl false (a0.map Aw)),(1,.sl false (a1.map Ec)),(5,.ref 4 0),(6,ri i_28),(7,ri x.1),(21,.row 81 0 1 0 x.2.1.length),(22,ri (r5.length : Int)),(23,ri x.2.2)],[(4,.box 267 (Hf w_27)),(81,.row 3 1 0 (x.2.1.map Ec))],100,78,0⟩) ?_ ?_
   ·exact sl (h4:=by first | exact rfl | simp [St.wf,AV.in3,AV.in2,AV.in1,AV.in0,AObj.inD,Gh,ri,ru,rb,Aw]) (by push_cast [hb2])
   rintro ⟨i_59,l_60,i_61⟩ b6 (h : Jp a0 w_27 r5 i_59 l_60 i_61 = some b6) hf6;(try push_cast);unfold Jp at h;refine vs [0,1,5,6,7,21,22,23,24] fun _ k=>?_;push_cast;apply k;clear k;refine VC.seq ?_;refine vc h (fun hb7 h=>?_) (fun hb7 h=>?_)
   ·refine VC.skip ?_;refine vj h (fun x=>⟨[(0,.sl false (a0.map Aw)),(1,.sl false (a1.map Ec)),(5,.ref 4 0),(6,ri i_28),(7,ri x.1),(21,.row 81 0 1 0 x.2.length),(22,ri (r5.length : Int)),(23,ri i_61)],[(4,.box 267 (Hf w_27)),(81,.row 3 1 0 (x.2.map Ec))],114,78,0⟩) (fun v8 h hk8=>?_) ?_
    ·refine VC.block ?_;obtain ⟨x9,hx9,h⟩:=Aa h;replace hx9:=Bh hx9;refine vs [0,1,5,6,7,9,21,22,23] fun _ k=>?_;push_cast [hx9];(repeat refine ao ?_);apply k;clear k;refine vs [0,1,5,6,7,9,21,22,23,30] fun _ k=>?_;push_cast;apply k;clear k;refine vc h (fun hb10 h=>?_) (fun hb10 h=>?_)
     ·obtain ⟨hg11,h⟩:=Bs h;have hg11n : x9.toNat < 65:=by omega
      refine vl fun _ k=>?_;push_cast [hg11,hg11n];(repeat refine ao ?_);apply k;clear k;refine ar h hk8 ?_;exact sl (h4:=by first | exact rfl | simp [St.wf,AV.in3,AV.in2,AV.in1,AV.in0,AObj.inD,Gh,ri,ru,rb,Aw]) (by push_cast [hb2,hb7,hb10])
     ·refine VC.skip ?_;refine ar h hk8 ?_;exact sl (h4:=by first | exact rfl | simp [St.wf,AV.in3,AV.in2,AV.in1,AV.in0,AObj.inD,Gh,ri,ru,rb,Aw]) (by push_cast [hb2,hb7,hb10])
    ·rintro ⟨i_62,l_63⟩ (h : Mx i_61 i_62 l_63 = some b6);(try push_cast);unfold Mx at h;refine vl fun _ k=>?_;push_cast;apply k;clear k;refine bk h ?_;exact sl (h4:=by first | exact rfl | simp [St.wf,AV.in3,AV.in2,AV.in1,AV.in0,AObj.inD,Gh,ri,ru,rb,Aw]) (by push_cast [hb2,hb7])
   ·refine VC.exit ?_;replace h:=ol h hf6;refine ar h hk4 ?_;exact sl (h4:=by first | exact rfl | simp [St.wf,AV.in3,AV.in2,AV.in1,AV.in0,AObj.inD,Gh,ri,ru,rb,Aw]) (by push_cast [hb2,hb7])
  ·rintro i_39 (h : Jo a0 a1 w_27 i_28 i_39 = some b3);(try push_cast);unfold Jo at h;refine vs [0,1,5,6,7,10] fun _ k=>?_;push_cast;apply k;clear k;refine vj h (fun x=>⟨[(0,.sl false (a0.map Aw)),(1,.sl false (a1.map Ec)),(5,.ref 4 0),(6,ri i_28),(7,ri i_39),(10,ri x)],[(4,.box 267 (Hf w_27))],135,78,0⟩) (fun v12 h hk12=>?_) ?_
   ·obtain ⟨x13,hx13,h⟩:=Aa h;replace hx13:=Bh hx13;refine vs [0,1,5,6,7,10,11] fun _ k=>?_;push_cast [hx13];(repeat refine ao ?_);apply k;clear k;refine vj h (fun x=>⟨[(0,.sl false (a0.map Aw)),(1,.sl false (a1.map Ec)),(5,.ref 4 0),(6,ri i_28),(7,ri i_39),(10,ri 1),(11,.ref 106 0),(51,rb x)],[(4,.box 267 (Hf w_27)),(106,.box 37 (Aw x13))],119,78,0⟩) (fun v14 h hk14=>?_) ?_
    ·rcases bt (x13.Op == 6) with hb15 | hb15
     ·replace h:=Ao hb15 h;refine vlG [some 41,some 42,some 43,some 44,some 45,some 46,some 47,some 48,some 49,some 50,some 51] fun _ k=>?_;refine Ag 8 fun _ l=>?_;push_cast [hb15];(repeat refine ao ?_);apply l;clear l;simp only [List.drop_succ_cons,List.drop_zero];push_cast [hb15];(repeat refine ao ?_);apply k;clear k;refine ar h hk14 ?_;exact sl (h4:=by first | exact rfl | simp [St.wf,AV.in3,AV.in2,AV.in1,AV.in0,AObj.inD,Gh,ri,ru,rb,Aw]) (by push_cast [hb2,hb15])
     ·replace h:=Au hb15 h;refine vlG [some 41,some 42,some 43,some 44,some 45,some 46,some 47,some 48,some 49,some 50,some 51] fun _ k=>?_;refine Ag 8 fun _ l=>?_;push_cast [hb15];(repeat refine ao ?_);apply l;clear l;simp only [List.drop_succ_cons,List.drop_zero];push_cast [hb15];(repeat refine ao ?_);apply k;clear k;refine ar h hk14 ?_;exact sl (h4:=by first | exact rfl | simp [St.wf,AV.in3,AV.in2,AV.in1,AV.in0,AObj.inD,Gh,ri,ru,rb,Aw]) (by push_cast [hb2,hb15])
    ·rintro i_67 (h : Lt a1 x13 i_67 = some v12);(try push_cast);unfold Lt at h;refine vc h (fun hb16 h=>?_) (fun hb16 h=>?_)
     ·obtain ⟨x17,hx17,h⟩:=Aa h;replace hx17:=gL hx17;refine vs [0,1,5,6,7,10,12] fun _ k=>?_;push_cast [hx17];(repeat refine ao ?_);apply k;clear k;refine vj h (fun x=>⟨[(0,.sl false (a0.map Aw)),(1,.sl false (a1.map Ec)),(5,.ref 4 0),(6,ri i_28),(7,ri i_39),(10,ri 1),(12,ri x17),(62,rb x)],[(4,.box 267 (Hf w_27))],131,78,0⟩) (fun v18 h hk18=>?_) ?_
      ·rcases bt (decide (x17 ≥ 0)) with hb19 | hb19
       ·replace h:=Ao hb19 h;refine vlG [some 57,some 58,some 59,some 60,some 61,some 62] fun _ k=>?_;push_cast [hb19];(repeat refine ao ?_);apply k;clear k;refine ar h hk18 ?_;exact sl (h4:=by first | exact rfl | simp [St.wf,AV.in3,AV.in2,AV.in1,AV.in0,AObj.inD,Gh,ri,ru,rb,Aw]) (by push_cast [hb2,hb16,hb19])
       ·replace h:=Au hb19 h;refine vlG [some 57,some 58,some 59,some 60,some 61,some 62] fun _ k=>?_;push_cast [hb19];(repeat refine ao ?_);apply k;clear k;refine ar h hk18 ?_;exact sl (h4:=by first | exact rfl | simp [St.wf,AV.in3,AV.in2,AV.in1,AV.in0,AObj.inD,Gh,ri,ru,rb,Aw]) (by push_cast [hb2,hb16,hb19])
      ·rintro i_68 (h : Lq x17 i_68 = some v12);(try push_cast);unfold Lq at h;refine vc h (fun hb20 h=>?_) (fun hb20 h=>?_)
       ·refine vl fun _ k=>?_;push_cast;apply k;clear k;refine ar h hk12 ?_;exact sl (h4:=by first | exact rfl | simp [St.wf,AV.in3,AV.in2,AV.in1,AV.in0,AObj.inD,Gh,ri,ru,rb,Aw]) (by push_cast [hb2,hb16,hb20])
       ·refine VC.skip ?_;refine ar h hk12 ?_;exact sl (h4:=by first | exact rfl | simp [St.wf,AV.in3,AV.in2,AV.in1,AV.in0,AObj.inD,Gh,ri,ru,rb,Aw]) (by push_cast [hb2,hb16,hb20])
     ·refine VC.skip ?_;refine ar h hk12 ?_;exact sl (h4:=by first | exact rfl | simp [St.wf,AV.in3,AV.in2,AV.in1,AV.in0,AObj.inD,Gh,ri,ru,rb,Aw]) (by push_cast [hb2,hb16])
   ·rintro i_52 (h : Lr w_27 i_28 i_39 i_52 = some b3);(try push_cast);unfold Lr at h;obtain ⟨hg21,h⟩:=Bs h;have hg21n : i_28.toNat < 65:=by omega
    obtain ⟨y22,hy22,h⟩:=Bo h;refine vs [0,1,5,6] fun _ k=>?_;push_cast [hg21,hg21n];(repeat refine ao ?_);apply k;clear k;refine VC.seq ?_;refine vs [0,1,5,6] fun _ k=>?_;push_cast;apply k;clear k;refine vs [0,1,5,6,75] fun _ k=>?_;push_cast;apply k;clear k;refine vc h (fun hb23 h=>?_) (fun hb23 h=>?_)
    ·refine VC.goto ?_;refine ⟨rfl,bk h ?_⟩;exact sl (h4:=by first | exact rfl | simp [St.wf,AV.in3,AV.in2,AV.in1,AV.in0,AObj.inD,Gh,ri,ru,rb,Aw]) (by push_cast [hb2,hy22,hb23])
    ·refine VC.skip ?_;refine vs [4] fun _ k=>?_;push_cast;apply k;clear k;refine VC.ret ?_;replace h:=ol h hf3;replace h:=Option.some.inj h;subst h;exact en (by push_cast [hb2,hy22,hb23])
noncomputable def Gg (a0 : Aq) (l_4 : (List Int)) (u6 : Int) : Option (((List Int)) ⊕ (Unit)):=
  po (idx a0.Fns u6) fun x8=>
  po (Hr x8.Code l_4) fun r9=>
  po (idx l_4 u6) fun x10=>
  pl (l_4.set u6.toNat r9) fun y11=>
  some (Sum.inl y11)
noncomputable def Np (l_4 : (List Int)) : Option ((List Int)):=
  some l_4
noncomputable def Kb (l_3 : (List Int)) : Option (Int):=
  po (l_3[0]?) fun x12=>
  some x12
noncomputable def Iq (a0 : Aq) : Option (Int):=
  po (Iv a0) fun r1=>
  cond (!r1) (
  some 0) (
  pg (0 ≤ (a0.Fns.length : Int) ∧ 8 * (a0.Fns.length : Int) ≤ 140737488355328) <|
  pl (List.replicate a0.Fns.length 0) fun y4=>
  po (
  pq (itU (fun x u=>Gg a0 x u) (backL a0.Fns) y4) (fun x=>Np x) (fun _=>none)) (fun x=>Kb x))
theorem Dw0 {a0 : Aq} {r : Int} (h : Iq a0 = some r) : Ctr prog 92 [.agg (Ez a0)] [] (ri r) []:=by
 unfold Iq at h;refine Ctr.ofN Ba func92 rfl call92 0 _ ntmps92 [.tmp 2] rfl rfl rfl (fun B hB=>?_);refine vs [1] fun _ k=>?_;push_cast;apply k;clear k;refine VC.seq ?_;obtain ⟨r1,hr1,h⟩:=Aa h;refine vs [1,7] fun _ k=>?_;push_cast;refine cp (Ag0 hr1) ?_;push_cast;apply k;clear k;refine vc h (fun hb2 h=>?_) (fun hb2 h=>?_)
 ·refine vs [2] fun _ k=>?_;push_cast;apply k;clear k;refine VC.ret ?_;replace h:=Option.some.inj h;subst h;exact en (by push_cast [hb2])
 ·refine VC.skip ?_;obtain ⟨hg3,h⟩:=Bs h;obtain ⟨y4,hy4,h⟩:=Bo h;refine vs [1,3] fun _ k=>?_;push_cast [hg3];(repeat refine ao ?_);apply k;clear k;refine VC.sub (s':=⟨[(1,.ref 0 0),(3,.ref 9 0)],[(0,.box 56 [.sl false (a0.Fns.map Al)]),(8,.row 3 1 0 (y4.map Ec)),(9,.box 84 [.row 8 0 1 0 y4.length])],11,31,0⟩) (so (by push_cast [hb2,hy4])) ?_;refine vj h (fun x=>⟨[(3,.ref 9 0)],[(8,.row 3 1 0 (x.map Ec)),(9,.box 84 [.row 8 0 1 0 x.length])],26,31,0⟩) (fun v5 h hk5=>?_) ?_
  ·refine vs [1,3,14] fun _ k=>?_;push_cast;refine cp (Uj a0.Fns) ?_;push_cast;apply k;clear k;refine VC.block ?_;obtain ⟨b7,hi7,hd7,hx7⟩:=pq_some h;refine VC.sub (s':=⟨[(1,.ref 0 0),(3,.ref 9 0),(14,.fn (.func 183) [] [.dat 1 [[.sl false (a0.Fns.map Al)]] 0 0])],(fun x=>[(0,.box 56 [.sl false (a0.Fns.map Al)]),(8,.row 3 1 0 (x.map Ec)),(9,.box 84 [.row 8 0 1 0 x.length])]) y4,26,31,0⟩) ?_ ?_
   ·(try push_cast);exact sl (by push_cast [hb2])
   ·refine VC.rangeP (enc:=fun u6=>[ri u6,.dead]) hB hi7 rfl call183 rfl rfl (fun _=>rfl) (it_slices_Backward_api_Fn_api_Fn a0.Fns) (fun x=>[(0,.box 56 [.sl false (a0.Fns.map Al)]),(8,.row 3 1 0 (x.map Ec)),(9,.box 84 [.row 8 0 1 0 x.length])]) (fun (_ : Unit)=>[]) rfl ?_ ?_ ?_
    ·rintro l_4 u6 c (h : Gg a0 l_4 u6 = some c) B2;(try push_cast);unfold Gg at h;refine vl fun _ k=>?_;push_cast;apply k;clear k;refine ⟨[(1,.ref 0 0),(3,.ref 9 0),(4,ri u6),(14,.fn (.func 183) [] [.dat 1 [[.sl false (a0.Fns.map Al)]] 0 0]),(15,ri u6)],so (by push_cast),fun B3=>?_⟩;(try push_cast);refine VC.block ?_;obtain ⟨x8,hx8,h⟩:=Aa h;replace hx8:=Bh hx8;obtain ⟨r9,hr9,h⟩:=Aa h;obtain ⟨x10,hx10,h⟩:=Aa h;replace hx10:=Bh hx10;obtain ⟨y11,hy11,h⟩:=Bo h;have hy11l : y11.length = l_4.length:=by rw [hy11,List.length_set]
     refine vlD [some 17,some 18,some 19,some 20,some 21,some 22,some 23,some 24,some 25,some 26,some 27,none] fun _ k=>?_;refine Ch 8 fun _ l=>?_;push_cast [hx8,hx10];(repeat refine ao ?_);apply l;clear l;simp only [List.drop_succ_cons,List.drop_zero];push_cast [hx8,hx10];(repeat refine ao ?_);refine chD (H:=[(8,.row 3 1 0 (l_4.map Ec))]) (H':=_) (Ctr.borrow (Dk0 hr9) (by push_cast [hx8,hx10]) rfl) (by push_cast [hx8,hx10]) ?_;push_cast [hx8,hx10];(repeat refine ao ?_);refine ⟨rfl,k _ ?_⟩;clear k;refine ⟨_,(Option.some.inj h).symm,?_⟩;exact sl (by push_cast [hb2,hy11,hy11l])
    ·rintro l_4 hb;replace h : Np l_4 = some v5:=hd7 _ hb;unfold Np at h;refine ar h hk5 ?_;exact sl (by push_cast [hb2])
    ·intro y hb;cases hx7 _ hb
  ·rintro l_3 (h : Kb l_3 = some r);(try push_cast);unfold Kb at h;obtain ⟨x12,hx12,h⟩:=Aa h;replace hx12:=gL hx12;refine vs [2] fun _ k=>?_;push_cast [hx12];(repeat refine ao ?_);apply k;clear k;refine VC.ret ?_;replace h:=Option.some.inj h;subst h;exact en (by push_cast [hb2])
noncomputable def Eo (a0 : Ac) (a1 : Int) (a2 : Ak) : Option (Ac):=
  cond (decide (a1 ≥ (a0.in_.length : Int))) (
  some (Ac.mk a0.p a0.fn a0.l a0.in_ a0.is a0.at_ false)) (
  po (idx a0.is a1) fun x2=>
  cond x2 (
  po (idx a0.in_ a1) fun x4=>
  po (Mt x4 a2) fun r5=>
  pl (a0.in_.set a1.toNat r5) fun y6=>
  some (Ac.mk a0.p a0.fn a0.l y6 a0.is a0.at_ a0.safe)) (
  po (idx a0.in_ a1) fun x7=>
  pl (a0.in_.set a1.toNat a2) fun y8=>
  pl (a0.is.set a1.toNat true) fun y9=>
  some (Ac.mk a0.p a0.fn a0.l y8 y9 a0.at_ a0.safe)))
theorem Pw {a0 : Ac} {a1 : Int} {a2 : Ak} {r : Ac} (h : Eo a0 a1 a2 = some r) : Ctr prog 129 [.ref 0 0,ri a1,.agg (Af a2)] [(0,.box 212 [.sl false (a0.p.Fns.map Al),ri a0.fn,.sl false (a0.l.map Ai),.row 1 0 16 0 a0.in_.length,.row 2 0 1 0 a0.is.length,ri a0.at_,rb a0.safe]),(1,.row 217 16 0 (a0.in_.map Af)),(2,.row 4 1 0 (a0.is.map Az))] (.tup []) [(0,.box 212 [.sl false (r.p.Fns.map Al),ri r.fn,.sl false (r.l.map Ai),.row 1 0 16 0 r.in_.length,.row 2 0 1 0 r.is.length,ri r.at_,rb r.safe]),(1,.row 217 16 0 (r.in_.map Af)),(2,.row 4 1 0 (r.is.map Az))]:=by
 unfold Eo at h;refine Ctr.ofW Ba func129 rfl call129 3 _ ntmps129 [] rfl rfl rfl (fun B=>?_);refine vs [0,1,5] fun _ k=>?_;push_cast;apply k;clear k;refine VC.block ?_;refine vs [0,1,5,19] fun _ k=>?_;push_cast;apply k;clear k;refine vc h (fun hb1 h=>?_) (fun hb1 h=>?_)
 ·refine vl fun _ k=>?_;push_cast;apply k;clear k;replace h:=Option.some.inj h;subst h;exact eN (by push_cast [hb1])
 ·obtain ⟨x2,hx2,h⟩:=Aa h;replace hx2:=Bh hx2;refine vs [0,1,5,30] fun _ k=>?_;push_cast [hx2];(repeat refine ao ?_);apply k;clear k;refine vc h (fun hb3 h=>?_) (fun hb3 h=>?_)
  ·obtain ⟨x4,hx4,h⟩:=Aa h;replace hx4:=Bh hx4;obtain ⟨r5,hr5,h⟩:=Aa h;obtain ⟨y6,hy6,h⟩:=Bo h;have hy6l : y6.length = a0.in_.length:=by rw [hy6,List.length_set]
   refine vlD [some 38,some 39,some 40,some 41,some 42,some 43,some 44,some 45,some 46,some 47,some 48,some 49,some 50,some 51,some 52,none] fun _ k=>?_;refine Ch 8 fun _ l=>?_;push_cast [hx4];(repeat refine ao ?_);apply l;clear l;simp only [List.drop_succ_cons,List.drop_zero];push_cast [hx4];(repeat refine ao ?_);refine cpD (Fx0 hr5) ?_;push_cast [hx4];(repeat refine ao ?_);refine ⟨rfl,k _ ?_⟩;clear k;replace h:=Option.some.inj h;subst h;exact eN (by push_cast [hb1,hb3,hy6,hy6l])
  ·obtain ⟨x7,hx7,h⟩:=Aa h;replace hx7:=Bh hx7;obtain ⟨y8,hy8,h⟩:=Bo h;have hy8l : y8.length = a0.in_.length:=by rw [hy8,List.length_set]
   obtain ⟨y9,hy9,h⟩:=Bo h;have hy9l : y9.length = a0.is.length:=by rw [hy9,List.length_set]
   refine vlD [some 6,some 7,some 8,some 9,some 10,some 11,some 12,some 13,some 14,some 15,some 16,some 17,none,some 18,none] fun _ k=>?_;refine Ch 8 fun _ l=>?_;push_cast [hx7,hx2];(repeat refine ao ?_);apply l;clear l;simp only [List.drop_succ_cons,List.drop_zero];push_cast [hx7,hx2];(repeat refine ao ?_);refine ⟨rfl,k _ ?_⟩;clear k;replace h:=Option.some.inj h;subst h;exact eN (by push_cast [hb1,hb3,hy8,hy8l,hy9,hy9l])
noncomputable def Lj (a0 : Ar) : Option (Bool):=
  po (Ee a0) fun r1=>
  some (!r1)
theorem Cv0 {a0 : Ar} {r : Bool} (h : Lj a0 = some r) : Ctr prog 127 [.agg (Ai a0)] [] (rb r) []:=by
 unfold Lj at h;refine Ctr.ofW Ba func127 rfl call127 0 _ ntmps127 [.tmp 2] rfl rfl rfl (fun B=>?_);refine vs [1] fun _ k=>?_;push_cast;apply k;clear k;obtain ⟨r1,hr1,h⟩:=Aa h;refine vs [2] fun _ k=>?_;push_cast;refine cp (Iu hr1) ?_;push_cast;apply k;clear k;refine VC.ret ?_;replace h:=Option.some.inj h;subst h;exact en (by push_cast)
noncomputable def Cu (a0 : Ac) : Option (Ak × Ac):=
  po (idx a0.in_ a0.at_) fun x1=>
  some (x1,a0)
theorem Fd {a0 : Ac} {r : Ak × Ac} (h : Cu a0 = some r) : Ctr prog 213 [.ref 0 0] [(0,.box 212 [.sl false (a0.p.Fns.map Al),ri a0.fn,.sl false (a0.l.map Ai),.row 1 0 16 0 a0.in_.length,.row 2 0 1 0 a0.is.length,ri a0.at_,rb a0.safe]),(1,.row 217 16 0 (a0.in_.map Af)),(2,.row 4 1 0 (a0.is.map Az))] (.agg (Af r.1)) [(0,.box 212 [.sl false (r.2.p.Fns.map Al),ri r.2.fn,.sl false (r.2.l.map Ai),.row 1 0 16 0 r.2.in_.length,.row 2 0 1 0 r.2.is.length,ri r.2.at_,rb r.2.safe]),(1,.row 217 16 0 (r.2.in_.map Af)),(2,.row 4 1 0 (r.2.is.map Az))]:=by
 unfold Cu at h;refine Ctr.ofW Ba func213 rfl call213 3 _ ntmps213 [.cell 2 217] rfl rfl rfl (fun B=>?_);refine vs [0,2] fun _ k=>?_;push_cast;apply k;clear k;obtain ⟨x1,hx1,h⟩:=Aa h;replace hx1:=Bh hx1;refine vsD [some 3,some 4,some 5,some 6,some 7,some 8,some 9,some 10,some 11,some 12,none] [2] fun _ k=>?_;refine Ch 8 fun _ l=>?_;push_cast [hx1];(repeat refine ao ?_);apply l;clear l;simp only [List.drop_succ_cons,List.drop_zero];push_cast [hx1];(repeat refine ao ?_);refine ⟨rfl,k _ ?_⟩;clear k;refine VC.ret ?_;replace h:=Option.some.inj h;subst h;exact en (by push_cast [Oi])
noncomputable def Iw (r3 : C128 × Bool) (s_1 : Ac) : Option (C128 × Ac):=
  some (r3.1,s_1)
noncomputable def Db (a0 : Ac) (a1 : Int) : Option (C128 × Ac):=
  po (Cu a0) fun r1=>
  pg (r1.2 = a0) <|
  po (Jv r1.1 a1) fun r3=>
  po (
  cond a0.safe (
  some (Ac.mk a0.p a0.fn a0.l a0.in_ a0.is a0.at_ r3.2)) (
  some (Ac.mk a0.p a0.fn a0.l a0.in_ a0.is a0.at_ false))) (fun x=>Iw r3 x)
theorem Hb {a0 : Ac} {a1 : Int} {r : C128 × Ac} (h : Db a0 a1 = some r) : Ctr prog 210 [.ref 0 0,ri a1] [(0,.box 212 [.sl false (a0.p.Fns.map Al),ri a0.fn,.sl false (a0.l.map Ai),.row 1 0 16 0 a0.in_.length,.row 2 0 1 0 a0.is.length,ri a0.at_,rb a0.safe]),(1,.row 217 16 0 (a0.in_.map Af)),(2,.row 4 1 0 (a0.is.map Az))] (.raw (.complex .f64 r.1.re r.1.im)) [(0,.box 212 [.sl false (r.2.p.Fns.map Al),ri r.2.fn,.sl false (r.2.l.map Ai),.row 1 0 16 0 r.2.in_.length,.row 2 0 1 0 r.2.is.length,ri r.2.at_,rb r.2.safe]),(1,.row 217 16 0 (r.2.in_.map Af)),(2,.row 4 1 0 (r.2.is.map Az))]:=by
 unfold Db at h;refine Ctr.ofW Ba func210 rfl call210 3 _ ntmps210 [.tmp 4] rfl rfl rfl (fun B=>?_);refine vs [0,1] fun _ k=>?_;push_cast;apply k;clear k;obtain ⟨r1,hr1,h⟩:=Aa h;obtain ⟨hg2,h⟩:=Bs h;have qr1:=Fd hr1;rw [hg2] at qr1;obtain ⟨r3,hr3,h⟩:=Aa h;refine vs [0,5,6] fun _ k=>?_;push_cast;refine chR (H:=[(0,.box 212 [.sl false (a0.p.Fns.map Al),ri a0.fn,.sl false (a0.l.map Ai),.row 1 0 16 0 a0.in_.length,.row 2 0 1 0 a0.is.length,ri a0.at_,rb a0.safe]),(1,.row 217 16 0 (a0.in_.map Af)),(2,.row 4 1 0 (a0.is.map Az))]) (Ctr.loH (Ctr.ren Bij.id (qr1) (by push_cast) (by push_cast))) (by push_cast) (by push_cast) ?_;push_cast;refine cp (Cx0 hr3) ?_;push_cast;apply k;clear k;refine VC.sub (s':=⟨[(0,.ref 0 0),(5,.raw (.complex .f64 r3.1.re r3.1.im)),(6,rb r3.2)],[(0,.box 212 [.sl false (a0.p.Fns.map Al),ri a0.fn,.sl false (a0.l.map Ai),.row 1 0 16 0 a0.in_.length,.row 2 0 1 0 a0.is.length,ri a0.at_,rb a0.safe]),(1,.row 217 16 0 (a0.in_.map Af)),(2,.row 4 1 0 (a0.is.map Az))],13,25,3⟩) (so (by push_cast)) ?_;refine vj h (fun x=>⟨[(5,.raw (.complex .f64 r3.1.re r3.1.im))],[(0,.box 212 [.sl false (x.p.Fns.map Al),ri x.fn,.sl false (x.l.map Ai),.row 1 0 16 0 x.in_.length,.row 2 0 1 0 x.is.length,ri x.at_,rb x.safe]),(1,.row 217 16 0 (x.in_.map Af)),(2,.row 4 1 0 (x.is.map Az))],24,25,3⟩) (fun v4 h hk4=>?_) ?_
 ·rcases bt a0.safe with hb5 | hb5
  ·replace h:=Ao hb5 h;refine vlG [some 14,some 15,some 16,some 17,some 18,some 19,some 20,some 21,some 22,some 23,none] fun _ k=>?_;refine Ag 8 fun _ l=>?_;push_cast [hb5];(repeat refine ao ?_);apply l;clear l;simp only [List.drop_succ_cons,List.drop_zero];push_cast [hb5];(repeat refine ao ?_);apply k;clear k;refine ar h hk4 ?_;exact sl (by push_cast [hb5])
  ·replace h:=Au hb5 h;refine vlG [some 14,some 15,some 16,some 17,some 18,some 19,some 20,some 21,some 22,some 23,none] fun _ k=>?_;refine Ag 8 fun _ l=>?_;push_cast [hb5];(repeat refine ao ?_);apply l;clear l;simp only [List.drop_succ_cons,List.drop_zero];push_cast [hb5];(repeat refine ao ?_);apply k;clear k;refine ar h hk4 ?_;exact sl (by push_cast [hb5])
 ·rintro s_1 (h : Iw r3 s_1 = some r);(try push_cast);unfold Iw at h;refine vs [4] fun _ k=>?_;push_cast;apply k;clear k;refine VC.ret ?_;replace h:=Option.some.inj h;subst h;exact en (by push_cast)
noncomputable def Dx (a0 : Ac) (a1 : Ak) : Option (Ac):=
  cond a0.safe (
  po (Eo a0 (IntKind.i64.wrap (a0.at_ + 1)) a1) fun r2=>
  some r2) (
  some a0)
theorem Ns {a0 : Ac} {a1 : Ak} {r : Ac} (h : Dx a0 a1 = some r) : Ctr prog 217 [.ref 0 0,.agg (Af a1)] [(0,.box 212 [.sl false (a0.p.Fns.map Al),ri a0.fn,.sl false (a0.l.map Ai),.row 1 0 16 0 a0.in_.length,.row 2 0 1 0 a0.is.length,ri a0.at_,rb a0.safe]),(1,.row 217 16 0 (a0.in_.map Af)),(2,.row 4 1 0 (a0.is.map Az))] (.tup []) [(0,.box 212 [.sl false (r.p.Fns.map Al),ri r.fn,.sl false (r.l.map Ai),.row 1 0 16 0 r.in_.length,.row 2 0 1 0 r.is.length,ri r.at_,rb r.safe]),(1,.row 217 16 0 (r.in_.map Af)),(2,.row 4 1 0 (r.is.map Az))]:=by
 unfold Dx at h;refine Ctr.ofW Ba func217 rfl call217 3 _ ntmps217 [] rfl rfl rfl (fun B=>?_);refine vs [0,3] fun _ k=>?_;push_cast;apply k;clear k;refine vs [0,3,7] fun _ k=>?_;push_cast;apply k;clear k;refine vc h (fun hb1 h=>?_) (fun hb1 h=>?_)
 ·obtain ⟨r2,hr2,h⟩:=Aa h;refine vlD [some 8,some 9,some 10,some 11,some 12,some 13,some 14,some 15] fun _ k=>?_;push_cast;refine chD (H:=[(0,.box 212 [.sl false (a0.p.Fns.map Al),ri a0.fn,.sl false (a0.l.map Ai),.row 1 0 16 0 a0.in_.length,.row 2 0 1 0 a0.is.length,ri a0.at_,rb a0.safe]),(1,.row 217 16 0 (a0.in_.map Af)),(2,.row 4 1 0 (a0.is.map Az))]) (Ctr.loH (Ctr.ren Bij.id (Pw hr2) (by push_cast) (by push_cast))) (by push_cast) ?_;push_cast;refine ⟨rfl,k _ ?_⟩;clear k;replace h:=Option.some.inj h;subst h;exact eN (by push_cast [hb1])
 ·refine VC.skip ?_;replace h:=Option.some.inj h;subst h;exact eN (by push_cast [hb1])
noncomputable def Es (a0 : Ac) (a1 : Int) (a2 : C128) : Option (Ac):=
  po (Cu a0) fun r1=>
  pg (r1.2 = a0) <|
  po (Ip r1.1 a1 a2) fun r3=>
  po (Dx a0 r3) fun r4=>
  some r4
theorem Sj {a0 : Ac} {a1 : Int} {a2 : C128} {r : Ac} (h : Es a0 a1 a2 = some r) : Ctr prog 211 [.ref 0 0,ri a1,.raw (.complex .f64 a2.re a2.im)] [(0,.box 212 [.sl false (a0.p.Fns.map Al),ri a0.fn,.sl false (a0.l.map Ai),.row 1 0 16 0 a0.in_.length,.row 2 0 1 0 a0.is.length,ri a0.at_,rb a0.safe]),(1,.row 217 16 0 (a0.in_.map Af)),(2,.row 4 1 0 (a0.is.map Az))] (.tup []) [(0,.box 212 [.sl false (r.p.Fns.map Al),ri r.fn,.sl false (r.l.map Ai),.row 1 0 16 0 r.in_.length,.row 2 0 1 0 r.is.length,ri r.at_,rb r.safe]),(1,.row 217 16 0 (r.in_.map Af)),(2,.row 4 1 0 (r.is.map Az))]:=by
 unfold Es at h;refine Ctr.ofW Ba func211 rfl call211 3 _ ntmps211 [] rfl rfl rfl (fun B=>?_);obtain ⟨r1,hr1,h⟩:=Aa h;obtain ⟨hg2,h⟩:=Bs h;have qr1:=Fd hr1;rw [hg2] at qr1;obtain ⟨r3,hr3,h⟩:=Aa h;obtain ⟨r4,hr4,h⟩:=Aa h;refine vl fun _ k=>?_;push_cast;refine chR (H:=[(0,.box 212 [.sl false (a0.p.Fns.map Al),ri a0.fn,.sl false (a0.l.map Ai),.row 1 0 16 0 a0.in_.length,.row 2 0 1 0 a0.is.length,ri a0.at_,rb a0.safe]),(1,.row 217 16 0 (a0.in_.map Af)),(2,.row 4 1 0 (a0.is.map Az))]) (Ctr.loH (Ctr.ren Bij.id (qr1) (by push_cast) (by push_cast))) (by push_cast) (by push_cast) ?_;push_cast;refine cp (Vz hr3) ?_;push_cast;refine ch (H:=[(0,.box 212 [.sl false (a0.p.Fns.map Al),ri a0.fn,.sl false (a0.l.map Ai),.row 1 0 16 0 a0.in_.length,.row 2 0 1 0 a0.is.length,ri a0.at_,rb a0.safe]),(1,.row 217 16 0 (a0.in_.map Af)),(2,.row 4 1 0 (a0.is.map Az))]) (Ctr.loH (Ctr.ren Bij.id (Ns hr4) (by push_cast) (by push_cast))) (by push_cast) ?_;push_cast;apply k;clear k;replace h:=Option.some.inj h;subst h;exact eN (by push_cast)
noncomputable def Kp (r3 : C128 × Bool) (s_1 : Ac) : Option (C128 × Ac):=
  some (r3.1,s_1)
noncomputable def Dl (a0 : Ac) (a1 : Am) : Option (C128 × Ac):=
  po (Cu a0) fun r1=>
  pg (r1.2 = a0) <|
  po (Mv r1.1 a1) fun r3=>
  po (
  cond a0.safe (
  some (Ac.mk a0.p a0.fn a0.l a0.in_ a0.is a0.at_ r3.2)) (
  some (Ac.mk a0.p a0.fn a0.l a0.in_ a0.is a0.at_ false))) (fun x=>Kp r3 x)
theorem Kg {a0 : Ac} {a1 : Am} {r : C128 × Ac} (h : Dl a0 a1 = some r) : Ctr prog 209 [.ref 0 0,.agg (Aw a1)] [(0,.box 212 [.sl false (a0.p.Fns.map Al),ri a0.fn,.sl false (a0.l.map Ai),.row 1 0 16 0 a0.in_.length,.row 2 0 1 0 a0.is.length,ri a0.at_,rb a0.safe]),(1,.row 217 16 0 (a0.in_.map Af)),(2,.row 4 1 0 (a0.is.map Az))] (.raw (.complex .f64 r.1.re r.1.im)) [(0,.box 212 [.sl false (r.2.p.Fns.map Al),ri r.2.fn,.sl false (r.2.l.map Ai),.row 1 0 16 0 r.2.in_.length,.row 2 0 1 0 r.2.is.length,ri r.2.at_,rb r.2.safe]),(1,.row 217 16 0 (r.2.in_.map Af)),(2,.row 4 1 0 (r.2.is.map Az))]:=by
 unfold Dl at h;refine Ctr.ofW Ba func209 rfl call209 3 _ ntmps209 [.tmp 4] rfl rfl rfl (fun B=>?_);refine vs [0,3] fun _ k=>?_;push_cast;apply k;clear k;obtain ⟨r1,hr1,h⟩:=Aa h;obtain ⟨hg2,h⟩:=Bs h;have qr1:=Fd hr1;rw [hg2] at qr1;obtain ⟨r3,hr3,h⟩:=Aa h;refine vsD [some 8,some 9,some 10,some 11,some 7,some 12,some 13,some 5,some 6] [0,5,6] fun _ k=>?_;push_cast;refine chRD (H:=[(0,.box 212 [.sl false (a0.p.Fns.map Al),ri a0.fn,.sl false (a0.l.map Ai),.row 1 0 16 0 a0.in_.length,.row 2 0 1 0 a0.is.length,ri a0.at_,rb a0.safe]),(1,.row 217 16 0 (a0.in_.map Af)),(2,.row 4 1 0 (a0.is.map Az))]) (Ctr.loH (Ctr.ren Bij.id (qr1) (by push_cast) (by push_cast))) (by push_cast) (by push_cast) ?_;push_cast;refine cpD (Gx0 hr3) ?_;push_cast;refine ⟨rfl,k _ ?_⟩;clear k;refine VC.sub (s':=⟨[(0,.ref 0 0),(5,.raw (.complex .f64 r3.1.re r3.1.im)),(6,rb r3.2)],[(0,.box 212 [.sl false (a0.p.Fns.map Al),ri a0.fn,.sl false (a0.l.map Ai),.row 1 0 16 0 a0.in_.length,.row 2 0 1 0 a0.is.length,ri a0.at_,rb a0.safe]),(1,.row 217 16 0 (a0.in_.map Af)),(2,.row 4 1 0 (a0.is.map Az))],14,25,3⟩) (so (by push_cast)) ?_;refine vj h (fun x=>⟨[(5,.raw (.complex .f64 r3.1.re r3.1.im))],[(0,.box 212 [.sl false (x.p.Fns.map Al),ri x.fn,.sl false (x.l.map Ai),.row 1 0 16 0 x.in_.length,.row 2 0 1 0 x.is.length,ri x.at_,rb x.safe]),(1,.row 217 16 0 (x.in_.map Af)),(2,.row 4 1 0 (x.is.map Az))],25,25,3⟩) (fun v4 h hk4=>?_) ?_
 ·rcases bt a0.safe with hb5 | hb5
  ·replace h:=Ao hb5 h;refine vlG [some 14,some 15,some 16,some 17,some 18,some 19,some 20,some 21,some 22,some 23,none] fun _ k=>?_;refine Ag 8 fun _ l=>?_;push_cast [hb5];(repeat refine ao ?_);apply l;clear l;simp only [List.drop_succ_cons,List.drop_zero];push_cast [hb5];(repeat refine ao ?_);apply k;clear k;refine ar h hk4 ?_;exact sl (by push_cast [hb5])
  ·replace h:=Au hb5 h;refine vlG [some 14,some 15,some 16,some 17,some 18,some 19,some 20,some 21,some 22,some 23,none] fun _ k=>?_;refine Ag 8 fun _ l=>?_;push_cast [hb5];(repeat refine ao ?_);apply l;clear l;simp only [List.drop_succ_cons,List.drop_zero];push_cast [hb5];(repeat refine ao ?_);apply k;clear k;refine ar h hk4 ?_;exact sl (by push_cast [hb5])
 ·rintro s_1 (h : Kp r3 s_1 = some r);(try push_cast);unfold Kp at h;refine vs [4] fun _ k=>?_;push_cast;apply k;clear k;refine VC.ret ?_;replace h:=Option.some.inj h;subst h;exact en (by push_cast)
noncomputable def Lp (a1 : Am) (r2 : C128 × Ac) (s_1 : Ac) (i_2 : C128) : Option (Ac):=
  po (Rm a1.Fn i_2 r2.1) fun r6=>
  po (Es s_1 a1.Dst r6) fun r7=>
  some r7
noncomputable def Jd (a0 : Ac) (a1 : Am) : Option (Ac):=
  po (Io 0 4294967295) fun r1=>
  po (Dl a0 a1) fun r2=>
  po (
  cond (a1.Fn != 0) (
  po (Db r2.2 a1.Dst) fun r5=>
  some (r5.2,r5.1)) (
  some (r2.2,r1))) (fun x=>Lp a1 r2 x.1 x.2)
theorem Co0 {a0 : Ac} {a1 : Am} {r : Ac} (h : Jd a0 a1 = some r) : Ctr prog 175 [.ref 0 0,.agg (Aw a1)] [(0,.box 212 [.sl false (a0.p.Fns.map Al),ri a0.fn,.sl false (a0.l.map Ai),.row 1 0 16 0 a0.in_.length,.row 2 0 1 0 a0.is.length,ri a0.at_,rb a0.safe]),(1,.row 217 16 0 (a0.in_.map Af)),(2,.row 4 1 0 (a0.is.map Az))] (.tup []) [(0,.box 212 [.sl false (r.p.Fns.map Al),ri r.fn,.sl false (r.l.map Ai),.row 1 0 16 0 r.in_.length,.row 2 0 1 0 r.is.length,ri r.at_,rb r.safe]),(1,.row 217 16 0 (r.in_.map Af)),(2,.row 4 1 0 (r.is.map Az))]:=by
 unfold Jd at h;refine Ctr.ofW Ba func175 rfl call175 3 _ ntmps175 [] rfl rfl rfl (fun B=>?_);refine vs [0,3] fun _ k=>?_;push_cast;apply k;clear k;obtain ⟨r1,hr1,h⟩:=Aa h;obtain ⟨r2,hr2,h⟩:=Aa h;refine vsD [some 6,some 7,some 8,some 9,some 4,some 5] [0,3,4,5] fun _ k=>?_;push_cast;refine cpD (Sm hr1) ?_;push_cast;refine chD (H:=[(0,.box 212 [.sl false (a0.p.Fns.map Al),ri a0.fn,.sl false (a0.l.map Ai),.row 1 0 16 0 a0.in_.length,.row 2 0 1 0 a0.is.length,ri a0.at_,rb a0.safe]),(1,.row 217 16 0 (a0.in_.map Af)),(2,.row 4 1 0 (a0.is.map Az))]) (Ctr.loH (Ctr.ren Bij.id (Kg hr2) (by push_cast) (by push_cast))) (by push_cast) ?_;push_cast;refine ⟨rfl,k _ ?_⟩;clear k;refine VC.sub (s':=⟨[(0,.ref 0 0),(3,.ref 3 0),(4,.raw (.complex .f64 r1.re r1.im)),(5,.raw (.complex .f64 r2.1.re r2.1.im))],[(0,.box 212 [.sl false (r2.2.p.Fns.map Al),ri r2.2.fn,.sl false (r2.2.l.map Ai),.row 1 0 16 0 r2.2.in_.length,.row 2 0 1 0 r2.2.is.length,ri r2.2.at_,rb r2.2.safe]),(1,.row 217 16 0 (r2.2.in_.map Af)),(2,.row 4 1 0 (r2.2.is.map Az)),(3,.box 37 (Aw a1))],10,26,3⟩) (so (by push_cast)) ?_;refine vj h (fun x=>⟨[(0,.ref 0 0),(3,.ref 3 0),(4,.raw (.complex .f64 x.2.re x.2.im)),(5,.raw (.complex .f64 r2.1.re r2.1.im))],[(0,.box 212 [.sl false (x.1.p.Fns.map Al),ri x.1.fn,.sl false (x.1.l.map Ai),.row 1 0 16 0 x.1.in_.length,.row 2 0 1 0 x.1.is.length,ri x.1.at_,rb x.1.safe]),(1,.row 217 16 0 (x.1.in_.map Af)),(2,.row 4 1 0 (x.1.is.map Az)),(3,.box 37 (Aw a1))],18,26,3⟩) (fun v3 h hk3=>?_) ?_
 ·refine vs [0,3,4,5,12] fun _ k=>?_;push_cast;apply k;clear k;refine vc h (fun hb4 h=>?_) (fun hb4 h=>?_)
  ·obtain ⟨r5,hr5,h⟩:=Aa h;refine vl fun _ k=>?_;push_cast;refine ch (H:=[(0,.box 212 [.sl false (r2.2.p.Fns.map Al),ri r2.2.fn,.sl false (r2.2.l.map Ai),.row 1 0 16 0 r2.2.in_.length,.row 2 0 1 0 r2.2.is.length,ri r2.2.at_,rb r2.2.safe]),(1,.row 217 16 0 (r2.2.in_.map Af)),(2,.row 4 1 0 (r2.2.is.map Az))]) (Ctr.loH (Ctr.ren Bij.id (Hb hr5) (by push_cast) (by push_cast))) (by push_cast) ?_;push_cast;apply k;clear k;refine ar h hk3 ?_;exact sl (by push_cast [hb4])
  ·refine VC.skip ?_;refine ar h hk3 ?_;exact sl (by push_cast [hb4])
 ·rintro ⟨s_1,i_2⟩ (h : Lp a1 r2 s_1 i_2 = some r);(try push_cast);unfold Lp at h;obtain ⟨r6,hr6,h⟩:=Aa h;obtain ⟨r7,hr7,h⟩:=Aa h;refine vlD [some 17,some 18,some 19,some 20,some 21,some 22,some 23,some 24,some 25] fun _ k=>?_;push_cast;refine cpD (Gr0 hr6) ?_;push_cast;refine chD (H:=[(0,.box 212 [.sl false (s_1.p.Fns.map Al),ri s_1.fn,.sl false (s_1.l.map Ai),.row 1 0 16 0 s_1.in_.length,.row 2 0 1 0 s_1.is.length,ri s_1.at_,rb s_1.safe]),(1,.row 217 16 0 (s_1.in_.map Af)),(2,.row 4 1 0 (s_1.is.map Az))]) (Ctr.loH (Ctr.ren Bij.id (Sj hr7) (by push_cast) (by push_cast))) (by push_cast) ?_;push_cast;refine ⟨rfl,k _ ?_⟩;clear k;replace h:=Option.some.inj h;subst h;exact eN (by push_cast)
noncomputable def Gy (a1 : Int) (s_1 : Ac) (i_2 : Int) : Option ((Ac × Int) ⊕ (Ac)):=
  cond (decide (i_2 < a1)) (
  po (Db s_1 (IntKind.i64.wrap (i_2 + 1))) fun r3=>
  some (Sum.inl (r3.2,(IntKind.i64.wrap (i_2 + 1))))) (
  some (Sum.inr s_1))
noncomputable def Fg (a0 : Ac) (a1 : Int) : Option (Ac):=
  lpU (fun x=>Gy a1 x.1 x.2) (a0,0)
theorem Uv {a0 : Ac} {a1 : Int} {r : Ac} (h : Fg a0 a1 = some r) : Ctr prog 218 [.ref 0 0,ri a1] [(0,.box 212 [.sl false (a0.p.Fns.map Al),ri a0.fn,.sl false (a0.l.map Ai),.row 1 0 16 0 a0.in_.length,.row 2 0 1 0 a0.is.length,ri a0.at_,rb a0.safe]),(1,.row 217 16 0 (a0.in_.map Af)),(2,.row 4 1 0 (a0.is.map Az))] (.tup []) [(0,.box 212 [.sl false (r.p.Fns.map Al),ri r.fn,.sl false (r.l.map Ai),.row 1 0 16 0 r.in_.length,.row 2 0 1 0 r.is.length,ri r.at_,rb r.safe]),(1,.row 217 16 0 (r.in_.map Af)),(2,.row 4 1 0 (r.is.map Az))]:=by
 unfold Fg at h;refine Ctr.ofW Ba func218 rfl call218 3 _ ntmps218 [] rfl rfl rfl (fun B=>?_);refine vs [0,5,6] fun _ k=>?_;push_cast;apply k;clear k;refine VC.block ?_;refine VC.loopP h (fun x=>⟨[(0,.ref 0 0),(5,ri a1),(6,ri x.2)],[(0,.box 212 [.sl false (x.1.p.Fns.map Al),ri x.1.fn,.sl false (x.1.l.map Ai),.row 1 0 16 0 x.1.in_.length,.row 2 0 1 0 x.1.is.length,ri x.1.at_,rb x.1.safe]),(1,.row 217 16 0 (x.1.in_.map Af)),(2,.row 4 1 0 (x.1.is.map Az))],14,14,3⟩) ?_ ?_
 ·exact sl (by push_cast)
 rintro ⟨s_1,i_2⟩ b1 (h : Gy a1 s_1 i_2 = some b1) hf1;(try push_cast);unfold Gy at h;refine vs [0,5,6,7] fun _ k=>?_;push_cast;apply k;clear k;refine VC.seq ?_;refine vc h (fun hb2 h=>?_) (fun hb2 h=>?_)
 ·refine VC.skip ?_;refine VC.seq ?_;refine VC.block ?_;refine vs [0,4,5,6] fun _ k=>?_;push_cast;apply k;clear k;obtain ⟨r3,hr3,h⟩:=Aa h;refine vl fun _ k=>?_;push_cast;refine ch (H:=[(0,.box 212 [.sl false (s_1.p.Fns.map Al),ri s_1.fn,.sl false (s_1.l.map Ai),.row 1 0 16 0 s_1.in_.length,.row 2 0 1 0 s_1.is.length,ri s_1.at_,rb s_1.safe]),(1,.row 217 16 0 (s_1.in_.map Af)),(2,.row 4 1 0 (s_1.is.map Az))]) (Ctr.loH (Ctr.ren Bij.id (Hb hr3) (by push_cast) (by push_cast))) (by push_cast) ?_;push_cast;apply k;clear k;refine vl fun _ k=>?_;push_cast;apply k;clear k;refine bk h ?_;exact sl (by push_cast [hb2])
 ·refine VC.exit ?_;replace h:=ol h hf1;replace h:=Option.some.inj h;subst h;exact eN (by push_cast [hb2])
noncomputable def Kn (a1 : Am) (s_1 : Ac) : Option (Ac):=
  cond (!s_1.safe) (
  some s_1) (
  po (s_1.p.Fns[a1.Imm.toNat]?) fun x4=>
  po (Fg s_1 x4.Args) fun r5=>
  po (Cu r5) fun r6=>
  pg (r6.2 = r5) <|
  po (Ov r6.1) fun r8=>
  po (Dx r5 r8) fun r9=>
  some r9)
noncomputable def Ii (a0 : Ac) (a1 : Am) : Option (Ac):=
  po (
  cond (decide ((IntKind.u64.wrap (a1.Imm.toNat : Int)) < (IntKind.u64.wrap (a0.p.Fns.length : Int)))) (
  some (Ac.mk a0.p a0.fn a0.l a0.in_ a0.is a0.at_ (decide ((a1.Imm.toNat : Int) > a0.fn)))) (
  some (Ac.mk a0.p a0.fn a0.l a0.in_ a0.is a0.at_ false))) (fun x=>Kn a1 x)
theorem By0 {a0 : Ac} {a1 : Am} {r : Ac} (h : Ii a0 a1 = some r) : Ctr prog 181 [.ref 0 0,.agg (Aw a1)] [(0,.box 212 [.sl false (a0.p.Fns.map Al),ri a0.fn,.sl false (a0.l.map Ai),.row 1 0 16 0 a0.in_.length,.row 2 0 1 0 a0.is.length,ri a0.at_,rb a0.safe]),(1,.row 217 16 0 (a0.in_.map Af)),(2,.row 4 1 0 (a0.is.map Az))] (.tup []) [(0,.box 212 [.sl false (r.p.Fns.map Al),ri r.fn,.sl false (r.l.map Ai),.row 1 0 16 0 r.in_.length,.row 2 0 1 0 r.is.length,ri r.at_,rb r.safe]),(1,.row 217 16 0 (r.in_.map Af)),(2,.row 4 1 0 (r.is.map Az))]:=by
 unfold Ii at h;refine Ctr.ofW Ba func181 rfl call181 3 _ ntmps181 [] rfl rfl rfl (fun B=>?_);refine vs [0,3] fun _ k=>?_;push_cast;apply k;clear k;refine VC.seq ?_;refine vj h (fun x=>⟨[(0,.ref 0 0),(3,.ref 3 0)],[(0,.box 212 [.sl false (x.p.Fns.map Al),ri x.fn,.sl false (x.l.map Ai),.row 1 0 16 0 x.in_.length,.row 2 0 1 0 x.is.length,ri x.at_,rb x.safe]),(1,.row 217 16 0 (x.in_.map Af)),(2,.row 4 1 0 (x.is.map Az)),(3,.box 37 (Aw a1))],29,50,3⟩) (fun v1 h hk1=>?_) ?_
 ·rcases bt (decide ((IntKind.u64.wrap (a1.Imm.toNat : Int)) < (IntKind.u64.wrap (a0.p.Fns.length : Int)))) with hb2 | hb2
  ·replace h:=Ao hb2 h;refine vlD [some 4,some 5,some 6,some 7,some 8,some 9,some 10,some 11,some 12,some 13,some 14,some 15,some 16,some 17,some 18,some 19,some 20,some 21,some 22,some 23,some 24,some 25,some 26,some 27,none] fun _ k=>?_;refine Ch 8 fun _ l=>?_;push_cast [hb2];(repeat refine ao ?_);apply l;clear l;simp only [List.drop_succ_cons,List.drop_zero];refine Ch 8 fun _ l=>?_;push_cast [hb2];(repeat refine ao ?_);apply l;clear l;simp only [List.drop_succ_cons,List.drop_zero];push_cast [hb2];(repeat refine ao ?_);refine ⟨rfl,k _ ?_⟩;clear k;refine ar h hk1 ?_;exact sl (by push_cast [hb2])
  ·replace h:=Au hb2 h;refine vlD [some 4,some 5,some 6,some 7,some 8,some 9,some 10,some 11,some 12,some 13,some 14,some 15,some 16,some 17,some 18,some 19,some 20,some 21,some 22,some 23,some 24,some 25,some 26,some 27,none] fun _ k=>?_;refine Ch 8 fun _ l=>?_;push_cast [hb2];(repeat refine ao ?_);apply l;clear l;simp only [List.drop_succ_cons,List.drop_zero];refine Ch 8 fun _ l=>?_;push_cast [hb2];(repeat refine ao ?_);apply l;clear l;simp only [List.drop_succ_cons,List.drop_zero];push_cast [hb2];(repeat refine ao ?_);refine ⟨rfl,k _ ?_⟩;clear k;refine ar h hk1 ?_;exact sl (by push_cast [hb2])
 ·rintro s_1 (h : Kn a1 s_1 = some r);(try push_cast);unfold Kn at h;refine vs [0,3,32] fun _ k=>?_;push_cast;apply k;clear k;refine vc h (fun hb3 h=>?_) (fun hb3 h=>?_)
  ·refine VC.ret ?_;replace h:=Option.some.inj h;subst h;exact en (by push_cast [hb3])
  ·refine VC.skip ?_;obtain ⟨x4,hx4,h⟩:=Aa h;replace hx4:=gL hx4;obtain ⟨r5,hr5,h⟩:=Aa h;refine vsD [some 33,some 34,some 35,some 36,some 37,some 38,some 39,some 40,some 41,some 42,some 43,some 44] [0] fun _ k=>?_;refine Ch 8 fun _ l=>?_;push_cast [hx4];(repeat refine ao ?_);apply l;clear l;simp only [List.drop_succ_cons,List.drop_zero];push_cast [hx4];(repeat refine ao ?_);refine chD (H:=[(0,.box 212 [.sl false (s_1.p.Fns.map Al),ri s_1.fn,.sl false (s_1.l.map Ai),.row 1 0 16 0 s_1.in_.length,.row 2 0 1 0 s_1.is.length,ri s_1.at_,rb s_1.safe]),(1,.row 217 16 0 (s_1.in_.map Af)),(2,.row 4 1 0 (s_1.is.map Az))]) (Ctr.loH (Ctr.ren Bij.id (Uv hr5) (by push_cast [hx4]) (by push_cast [hx4]))) (by push_cast [hx4]) ?_;push_cast [hx4];(repeat refine ao ?_);refine ⟨rfl,k _ ?_⟩;clear k;refine VC.sub (s':=⟨[(0,.ref 0 0)],[(0,.box 212 [.sl false (r5.p.Fns.map Al),ri r5.fn,.sl false (r5.l.map Ai),.row 1 0 16 0 r5.in_.length,.row 2 0 1 0 r5.is.length,ri r5.at_,rb r5.safe]),(1,.row 217 16 0 (r5.in_.map Af)),(2,.row 4 1 0 (r5.is.map Az))],46,50,3⟩) (so (by push_cast [hb3])) ?_;obtain ⟨r6,hr6,h⟩:=Aa h;obtain ⟨hg7,h⟩:=Bs h;have qr6:=Fd hr6;rw [hg7] at qr6;obtain ⟨r8,hr8,h⟩:=Aa h;obtain ⟨r9,hr9,h⟩:=Aa h;refine vl fun _ k=>?_;push_cast;refine chR (H:=[(0,.box 212 [.sl false (r5.p.Fns.map Al),ri r5.fn,.sl false (r5.l.map Ai),.row 1 0 16 0 r5.in_.length,.row 2 0 1 0 r5.is.length,ri r5.at_,rb r5.safe]),(1,.row 217 16 0 (r5.in_.map Af)),(2,.row 4 1 0 (r5.is.map Az))]) (Ctr.loH (Ctr.ren Bij.id (qr6) (by push_cast) (by push_cast))) (by push_cast) (by push_cast) ?_;push_cast;refine cp (Cc0 hr8) ?_;push_cast;refine ch (H:=[(0,.box 212 [.sl false (r5.p.Fns.map Al),ri r5.fn,.sl false (r5.l.map Ai),.row 1 0 16 0 r5.in_.length,.row 2 0 1 0 r5.is.length,ri r5.at_,rb r5.safe]),(1,.row 217 16 0 (r5.in_.map Af)),(2,.row 4 1 0 (r5.is.map Az))]) (Ctr.loH (Ctr.ren Bij.id (Ns hr9) (by push_cast) (by push_cast))) (by push_cast) ?_;push_cast;apply k;clear k;replace h:=Option.some.inj h;subst h;exact eN (by push_cast [hb3])
noncomputable def Du (a0 : Ac) (a1 : C128) (a2 : Int) : Option (Ac):=
  po (Nm a1) fun r1=>
  cond a0.safe (
  cond r1.2.2 (
  some (Ac.mk a0.p a0.fn a0.l a0.in_ a0.is a0.at_ (decide ((IntKind.u64.wrap (r1.2.1.toNat : Int)) < (IntKind.u64.wrap a2))))) (
  some (Ac.mk a0.p a0.fn a0.l a0.in_ a0.is a0.at_ false))) (
  some (Ac.mk a0.p a0.fn a0.l a0.in_ a0.is a0.at_ false))
theorem Ls {a0 : Ac} {a1 : C128} {a2 : Int} {r : Ac} (h : Du a0 a1 a2 = some r) : Ctr prog 216 [.ref 0 0,.raw (.complex .f64 a1.re a1.im),ri a2] [(0,.box 212 [.sl false (a0.p.Fns.map Al),ri a0.fn,.sl false (a0.l.map Ai),.row 1 0 16 0 a0.in_.length,.row 2 0 1 0 a0.is.length,ri a0.at_,rb a0.safe]),(1,.row 217 16 0 (a0.in_.map Af)),(2,.row 4 1 0 (a0.is.map Az))] (.tup []) [(0,.box 212 [.sl false (r.p.Fns.map Al),ri r.fn,.sl false (r.l.map Ai),.row 1 0 16 0 r.in_.length,.row 2 0 1 0 r.is.length,ri r.at_,rb r.safe]),(1,.row 217 16 0 (r.in_.map Af)),(2,.row 4 1 0 (r.is.map Az))]:=by
 unfold Du at h;refine Ctr.ofW Ba func216 rfl call216 3 _ ntmps216 [] rfl rfl rfl (fun B=>?_);obtain ⟨r1,hr1,h⟩:=Aa h;refine vs [0,2,7,8] fun _ k=>?_;push_cast;refine cp (Aw0 hr1) ?_;push_cast;apply k;clear k;rcases bt a0.safe with hb2 | hb2
 ·replace h:=Ao hb2 h;rcases bt r1.2.2 with hb3 | hb3
  ·replace h:=Ao hb3 h;refine vlG [some 15,some 16,some 17,some 18,some 19,some 20,some 21,some 22,some 23,some 24,some 25,some 26,some 27,some 28,some 29,some 30,some 31,none] fun _ k=>?_;refine Ag 8 fun _ l=>?_;push_cast [hb2,hb3];(repeat refine ao ?_);apply l;clear l;simp only [List.drop_succ_cons,List.drop_zero];push_cast [hb2,hb3];(repeat refine ao ?_);apply k;clear k;replace h:=Option.some.inj h;subst h;exact eN (by push_cast [hb2,hb3])
  ·replace h:=Au hb3 h;refine vlG [some 15,some 16,some 17,some 18,some 19,some 20,some 21,some 22,some 23,some 24,some 25,some 26,some 27,some 28,some 29,some 30,some 31,none] fun _ k=>?_;refine Ag 8 fun _ l=>?_;push_cast [hb2,hb3];(repeat refine ao ?_);apply l;clear l;simp only [List.drop_succ_cons,List.drop_zero];push_cast [hb2,hb3];(repeat refine ao ?_);apply k;clear k;replace h:=Option.some.inj h;subst h;exact eN (by push_cast [hb2,hb3])
 ·replace h:=Au hb2 h;refine vlG [some 15,some 16,some 17,some 18,some 19,some 20,some 21,some 22,some 23,some 24,some 25,some 26,some 27,some 28,some 29,some 30,some 31,none] fun _ k=>?_;refine Ag 8 fun _ l=>?_;push_cast [hb2];(repeat refine ao ?_);apply l;clear l;simp only [List.drop_succ_cons,List.drop_zero];push_cast [hb2];(repeat refine ao ?_);apply k;clear k;replace h:=Option.some.inj h;subst h;exact eN (by push_cast [hb2])
noncomputable def Ha (a0 : Ac) (a1 : Am) : Option (Ac):=
  po (Dl a0 a1) fun r1=>
  po (Du r1.2 r1.1 4) fun r2=>
  po (Io 0 4294967295) fun r3=>
  po (Es r2 a1.Dst r3) fun r4=>
  some r4
theorem Cs0 {a0 : Ac} {a1 : Am} {r : Ac} (h : Ha a0 a1 = some r) : Ctr prog 177 [.ref 0 0,.agg (Aw a1)] [(0,.box 212 [.sl false (a0.p.Fns.map Al),ri a0.fn,.sl false (a0.l.map Ai),.row 1 0 16 0 a0.in_.length,.row 2 0 1 0 a0.is.length,ri a0.at_,rb a0.safe]),(1,.row 217 16 0 (a0.in_.map Af)),(2,.row 4 1 0 (a0.is.map Az))] (.tup []) [(0,.box 212 [.sl false (r.p.Fns.map Al),ri r.fn,.sl false (r.l.map Ai),.row 1 0 16 0 r.in_.length,.row 2 0 1 0 r.is.length,ri r.at_,rb r.safe]),(1,.row 217 16 0 (r.in_.map Af)),(2,.row 4 1 0 (r.is.map Az))]:=by
 unfold Ha at h;refine Ctr.ofW Ba func177 rfl call177 3 _ ntmps177 [] rfl rfl rfl (fun B=>?_);refine vs [0,3] fun _ k=>?_;push_cast;apply k;clear k;obtain ⟨r1,hr1,h⟩:=Aa h;obtain ⟨r2,hr2,h⟩:=Aa h;refine vs [0,3] fun _ k=>?_;push_cast;refine ch (H:=[(0,.box 212 [.sl false (a0.p.Fns.map Al),ri a0.fn,.sl false (a0.l.map Ai),.row 1 0 16 0 a0.in_.length,.row 2 0 1 0 a0.is.length,ri a0.at_,rb a0.safe]),(1,.row 217 16 0 (a0.in_.map Af)),(2,.row 4 1 0 (a0.is.map Az))]) (Ctr.loH (Ctr.ren Bij.id (Kg hr1) (by push_cast) (by push_cast))) (by push_cast) ?_;push_cast;refine ch (H:=[(0,.box 212 [.sl false (r1.2.p.Fns.map Al),ri r1.2.fn,.sl false (r1.2.l.map Ai),.row 1 0 16 0 r1.2.in_.length,.row 2 0 1 0 r1.2.is.length,ri r1.2.at_,rb r1.2.safe]),(1,.row 217 16 0 (r1.2.in_.map Af)),(2,.row 4 1 0 (r1.2.is.map Az))]) (Ctr.loH (Ctr.ren Bij.id (Ls hr2) (by push_cast) (by push_cast))) (by push_cast) ?_;push_cast;apply k;clear k;refine VC.sub (s':=⟨[(0,.ref 0 0),(3,.ref 3 0)],[(0,.box 212 [.sl false (r2.p.Fns.map Al),ri r2.fn,.sl false (r2.l.map Ai),.row 1 0 16 0 r2.in_.length,.row 2 0 1 0 r2.is.length,ri r2.at_,rb r2.safe]),(1,.row 217 16 0 (r2.in_.map Af)),(2,.row 4 1 0 (r2.is.map Az)),(3,.box 37 (Aw a1))],9,14,3⟩) (so (by push_cast)) ?_;obtain ⟨r3,hr3,h⟩:=Aa h;obtain ⟨r4,hr4,h⟩:=Aa h;refine vlD [some 9,some 10,some 11,some 12,some 13] fun _ k=>?_;push_cast;refine cpD (Sm hr3) ?_;push_cast;refine chD (H:=[(0,.box 212 [.sl false (r2.p.Fns.map Al),ri r2.fn,.sl false (r2.l.map Ai),.row 1 0 16 0 r2.in_.length,.row 2 0 1 0 r2.is.length,ri r2.at_,rb r2.safe]),(1,.row 217 16 0 (r2.in_.map Af)),(2,.row 4 1 0 (r2.is.map Az))]) (Ctr.loH (Ctr.ren Bij.id (Sj hr4) (by push_cast) (by push_cast))) (by push_cast) ?_;push_cast;refine ⟨rfl,k _ ?_⟩;clear k;replace h:=Option.some.inj h;subst h;exact eN (by push_cast)
noncomputable def Gf (a0 : Ac) (a1 : Am) : Option (Ac):=
  po (Db a0 0) fun r1=>
  some r1.2
theorem Bz0 {a0 : Ac} {a1 : Am} {r : Ac} (h : Gf a0 a1 = some r) : Ctr prog 182 [.ref 0 0,.agg (Aw a1)] [(0,.box 212 [.sl false (a0.p.Fns.map Al),ri a0.fn,.sl false (a0.l.map Ai),.row 1 0 16 0 a0.in_.length,.row 2 0 1 0 a0.is.length,ri a0.at_,rb a0.safe]),(1,.row 217 16 0 (a0.in_.map Af)),(2,.row 4 1 0 (a0.is.map Az))] (.tup []) [(0,.box 212 [.sl false (r.p.Fns.map Al),ri r.fn,.sl false (r.l.map Ai),.row 1 0 16 0 r.in_.length,.row 2 0 1 0 r.is.length,ri r.at_,rb r.safe]),(1,.row 217 16 0 (r.in_.map Af)),(2,.row 4 1 0 (r.is.map Az))]:=by
 unfold Gf at h;refine Ctr.ofW Ba func182 rfl call182 3 _ ntmps182 [] rfl rfl rfl (fun B=>?_);refine vs [0] fun _ k=>?_;push_cast;apply k;clear k;obtain ⟨r1,hr1,h⟩:=Aa h;refine vl fun _ k=>?_;push_cast;refine ch (H:=[(0,.box 212 [.sl false (a0.p.Fns.map Al),ri a0.fn,.sl false (a0.l.map Ai),.row 1 0 16 0 a0.in_.length,.row 2 0 1 0 a0.is.length,ri a0.at_,rb a0.safe]),(1,.row 217 16 0 (a0.in_.map Af)),(2,.row 4 1 0 (a0.is.map Az))]) (Ctr.loH (Ctr.ren Bij.id (Hb hr1) (by push_cast) (by push_cast))) (by push_cast) ?_;push_cast;apply k;clear k;replace h:=Option.some.inj h;subst h;exact eN (by push_cast)
noncomputable def Jw (r10 : UInt32 × UInt32 × Bool) (s_8 : Ac) (i_9 : Bool) : Option ((Ac) ⊕ (Ac)):=
  cond i_9 (
  po (Db s_8 3) fun r20=>
  pg (r20.2 = s_8) <|
  po (s_8.l[r10.1.toNat]?) fun x22=>
  po (Du s_8 r20.1 x22.Words) fun r23=>
  some (Sum.inl r23)) (
  some (Sum.inl s_8))
noncomputable def Jt (a1 : Am) (r10 : UInt32 × UInt32 × Bool) (s_7 : Ac) : Option ((Ac) ⊕ (Ac)):=
  cond (!s_7.safe) (
  some (Sum.inr s_7)) (
  po (
  cond ((a1.Imm.toNat : Int) == 0) (
  some (s_7,true)) (
  some (s_7,((a1.Imm.toNat : Int) == 1)))) (fun x=>Jw r10 x.1 x.2))
noncomputable def Kx (a1 : Am) (s_1 : Ac) (i_2 : Bool) : Option ((Ac) ⊕ (Ac)):=
  cond i_2 (
  po (Db s_1 1) fun r8=>
  pg (r8.2 = s_1) <|
  po (Nm r8.1) fun r10=>
  po (
  cond ((r10.1.toNat : Int) == (r10.2.1.toNat : Int)) (
  cond (decide ((IntKind.u64.wrap (r10.1.toNat : Int)) < (IntKind.u64.wrap (s_1.l.length : Int)))) (
  po (s_1.l[r10.1.toNat]?) fun x14=>
  po (Qi (a1.Imm.toNat : Int) x14) fun r15=>
  some (Ac.mk s_1.p s_1.fn s_1.l s_1.in_ s_1.is s_1.at_ r15)) (
  some (Ac.mk s_1.p s_1.fn s_1.l s_1.in_ s_1.is s_1.at_ false))) (
  some (Ac.mk s_1.p s_1.fn s_1.l s_1.in_ s_1.is s_1.at_ false))) (fun x=>Jt a1 r10 x)) (
  some (Sum.inl s_1))
noncomputable def Kt (s_6 : Ac) : Option (Ac):=
  po (Cu s_6) fun r24=>
  pg (r24.2 = s_6) <|
  po (Ov r24.1) fun r26=>
  po (Dx s_6 r26) fun r27=>
  some r27
noncomputable def Hv (a0 : Ac) (a1 : Am) : Option (Ac):=
  po (Lg (a1.Imm.toNat : Int)) fun r1=>
  cond (!(decide (r1 ≥ 0))) (
  some (Ac.mk a0.p a0.fn a0.l a0.in_ a0.is a0.at_ (decide (r1 ≥ 0)))) (
  po (Fg (Ac.mk a0.p a0.fn a0.l a0.in_ a0.is a0.at_ (decide (r1 ≥ 0))) r1) fun r3=>
  pm (
  po (
  cond r3.safe (
  some (r3,((a1.Imm.toNat : Int) != 4))) (
  some (r3,false))) (fun x=>Kx a1 x.1 x.2)) (fun x=>Kt x))
theorem Cl0 {a0 : Ac} {a1 : Am} {r : Ac} (h : Hv a0 a1 = some r) : Ctr prog 180 [.ref 0 0,.agg (Aw a1)] [(0,.box 212 [.sl false (a0.p.Fns.map Al),ri a0.fn,.sl false (a0.l.map Ai),.row 1 0 16 0 a0.in_.length,.row 2 0 1 0 a0.is.length,ri a0.at_,rb a0.safe]),(1,.row 217 16 0 (a0.in_.map Af)),(2,.row 4 1 0 (a0.is.map Az))] (.tup []) [(0,.box 212 [.sl false (r.p.Fns.map Al),ri r.fn,.sl false (r.l.map Ai),.row 1 0 16 0 r.in_.length,.row 2 0 1 0 r.is.length,ri r.at_,rb r.safe]),(1,.row 217 16 0 (r.in_.map Af)),(2,.row 4 1 0 (r.is.map Az))]:=by
 unfold Hv at h;refine Ctr.ofW Ba func180 rfl call180 3 _ ntmps180 [] rfl rfl rfl (fun B=>?_);refine vs [0,3] fun _ k=>?_;push_cast;apply k;clear k;refine vs [0,4] fun _ k=>?_;push_cast;apply k;clear k;obtain ⟨r1,hr1,h⟩:=Aa h;refine vs [0,4,5] fun _ k=>?_;push_cast;refine cp (Wj hr1) ?_;push_cast;apply k;clear k;refine VC.seq ?_;refine vs [0,4,5] fun _ k=>?_;push_cast;apply k;clear k;refine vs [0,4,5,23] fun _ k=>?_;push_cast;apply k;clear k;refine vc h (fun hb2 h=>?_) (fun hb2 h=>?_)
 ·refine VC.ret ?_;replace h:=Option.some.inj h;subst h;exact en (by push_cast [hb2])
 ·refine VC.skip ?_;obtain ⟨r3,hr3,h⟩:=Aa h;refine vs [0,4] fun _ k=>?_;push_cast;refine ch (H:=[(0,.box 212 [.sl false (a0.p.Fns.map Al),ri a0.fn,.sl false (a0.l.map Ai),.row 1 0 16 0 a0.in_.length,.row 2 0 1 0 a0.is.length,ri a0.at_,rb (decide (r1 ≥ 0))]),(1,.row 217 16 0 (a0.in_.map Af)),(2,.row 4 1 0 (a0.is.map Az))]) (Ctr.loH (Ctr.ren Bij.id (Uv hr3) (by push_cast) (by push_cast))) (by push_cast) ?_;push_cast;apply k;clear k;refine VC.sub (s':=⟨[(0,.ref 0 0),(4,ri (a1.Imm.toNat : Int))],[(0,.box 212 [.sl false (r3.p.Fns.map Al),ri r3.fn,.sl false (r3.l.map Ai),.row 1 0 16 0 r3.in_.length,.row 2 0 1 0 r3.is.length,ri r3.at_,rb r3.safe]),(1,.row 217 16 0 (r3.in_.map Af)),(2,.row 4 1 0 (r3.is.map Az))],25,98,3⟩) (so (by push_cast [hb2])) ?_;refine vm h (fun x=>⟨[(0,.ref 0 0)],[(0,.box 212 [.sl false (x.p.Fns.map Al),ri x.fn,.sl false (x.l.map Ai),.row 1 0 16 0 x.in_.length,.row 2 0 1 0 x.is.length,ri x.at_,rb x.safe]),(1,.row 217 16 0 (x.in_.map Af)),(2,.row 4 1 0 (x.is.map Az))],95,98,3⟩) (fun v4 h hk4=>?_) ?_
  ·refine vj h (fun x=>⟨[(0,.ref 0 0),(4,ri (a1.Imm.toNat : Int)),(34,rb x.2)],[(0,.box 212 [.sl false (x.1.p.Fns.map Al),ri x.1.fn,.sl false (x.1.l.map Ai),.row 1 0 16 0 x.1.in_.length,.row 2 0 1 0 x.1.is.length,ri x.1.at_,rb x.1.safe]),(1,.row 217 16 0 (x.1.in_.map Af)),(2,.row 4 1 0 (x.1.is.map Az))],33,98,3⟩) (fun v5 h hk5=>?_) ?_
   ·rcases bt r3.safe with hb6 | hb6
    ·replace h:=Ao hb6 h;refine vlG [some 27,some 28,some 29,some 30,some 31,some 32,some 33,some 34] fun _ k=>?_;push_cast [hb6];(repeat refine ao ?_);apply k;clear k;refine ar h hk5 ?_;exact sl (by push_cast [hb2,hb6])
    ·replace h:=Au hb6 h;refine vlG [some 27,some 28,some 29,some 30,some 31,some 32,some 33,some 34] fun _ k=>?_;push_cast [hb6];(repeat refine ao ?_);apply k;clear k;refine ar h hk5 ?_;exact sl (by push_cast [hb2,hb6])
   ·rintro ⟨s_1,i_2⟩ (h : Kx a1 s_1 i_2 = some v4);(try push_cast);unfold Kx at h;refine vc h (fun hb7 h=>?_) (fun hb7 h=>?_)
    ·obtain ⟨r8,hr8,h⟩:=Aa h;obtain ⟨hg9,h⟩:=Bs h;have qr8:=Hb hr8;rw [hg9] at qr8;obtain ⟨r10,hr10,h⟩:=Aa h;refine vs [0,4,6,7] fun _ k=>?_;push_cast;refine chR (H:=[(0,.box 212 [.sl false (s_1.p.Fns.map Al),ri s_1.fn,.sl false (s_1.l.map Ai),.row 1 0 16 0 s_1.in_.length,.row 2 0 1 0 s_1.is.length,ri s_1.at_,rb s_1.safe]),(1,.row 217 16 0 (s_1.in_.map Af)),(2,.row 4 1 0 (s_1.is.map Az))]) (Ctr.loH (Ctr.ren Bij.id (qr8) (by push_cast) (by push_cast))) (by push_cast) (by push_cast) ?_;push_cast;refine cp (Aw0 hr10) ?_;push_cast;apply k;clear k;refine VC.sub (s':=⟨[(0,.ref 0 0),(4,ri (a1.Imm.toNat : Int)),(6,ru r10.1),(7,ru r10.2.1)],[(0,.box 212 [.sl false (s_1.p.Fns.map Al),ri s_1.fn,.sl false (s_1.l.map Ai),.row 1 0 16 0 s_1.in_.length,.row 2 0 1 0 s_1.is.length,ri s_1.at_,rb s_1.safe]),(1,.row 217 16 0 (s_1.in_.map Af)),(2,.row 4 1 0 (s_1.is.map Az))],43,98,3⟩) (so (by push_cast [hb2,hb7])) ?_;refine VC.seq ?_;refine vj h (fun x=>⟨[(0,.ref 0 0),(4,ri (a1.Imm.toNat : Int)),(6,ru r10.1)],[(0,.box 212 [.sl false (x.p.Fns.map Al),ri x.fn,.sl false (x.l.map Ai),.row 1 0 16 0 x.in_.length,.row 2 0 1 0 x.is.length,ri x.at_,rb x.safe]),(1,.row 217 16 0 (x.in_.map Af)),(2,.row 4 1 0 (x.is.map Az))],72,98,3⟩) (fun v11 h hk11=>?_) ?_
     ·rcases bt ((r10.1.toNat : Int) == (r10.2.1.toNat : Int)) with hb12 | hb12
      ·replace h:=Ao hb12 h;rcases bt (decide ((IntKind.u64.wrap (r10.1.toNat : Int)) < (IntKind.u64.wrap (s_1.l.length : Int)))) with hb13 | hb13
       ·replace h:=Ao hb13 h;obtain ⟨x14,hx14,h⟩:=Aa h;replace hx14:=gL hx14;obtain ⟨r15,hr15,h⟩:=Aa h;refine vlG [some 42,some 43,some 44,some 45,some 46,some 47,some 48,some 49,some 50,some 51,some 52,some 53,some 54,some 55,some 56,some 57,some 58,some 59,some 60,some 61,some 62,some 63,some 64,some 65,some 66,some 67,some 68,some 69,none] fun _ k=>?_;refine Ag 8 fun _ l=>?_;push_cast [hb12,hb13,hx14];(repeat refine ao ?_);apply l;clear l;simp only [List.drop_succ_cons,List.drop_zero];refine Ag 8 fun _ l=>?_;push_cast [hb12,hb13,hx14];(repeat refine ao ?_);apply l;clear l;simp only [List.drop_succ_cons,List.drop_zero];refine Ag 8 fun _ l=>?_;push_cast [hb12,hb13,hx14];(repeat refine ao ?_);apply l;clear l;simp only [List.drop_succ_cons,List.drop_zero];push_cast [hb12,hb13,hx14];(repeat refine ao ?_);refine cp (Fm0 hr15) ?_;push_cast [hb12,hb13,hx14];(repeat refine ao ?_);apply k;clear k;refine ar h hk11 ?_;exact sl (by push_cast [hb2,hb7,hb12,hb13])
       ·replace h:=Au hb13 h;refine vlG [some 42,some 43,some 44,some 45,some 46,some 47,some 48,some 49,some 50,some 51,some 52,some 53,some 54,some 55,some 56,some 57,some 58,some 59,some 60,some 61,some 62,some 63,some 64,some 65,some 66,some 67,some 68,some 69,none] fun _ k=>?_;refine Ag 8 fun _ l=>?_;push_cast [hb12,hb13];(repeat refine ao ?_);apply l;clear l;simp only [List.drop_succ_cons,List.drop_zero];refine Ag 8 fun _ l=>?_;push_cast [hb12,hb13];(repeat refine ao ?_);apply l;clear l;simp only [List.drop_succ_cons,List.drop_zero];refine Ag 8 fun _ l=>?_;push_cast [hb12,hb13];(repeat refine ao ?_);apply l;clear l;simp only [List.drop_succ_cons,List.drop_zero];push_cast [hb12,hb13];(repeat refine ao ?_);apply k;clear k;refine ar h hk11 ?_;exact sl (by push_cast [hb2,hb7,hb12,hb13])
      ·replace h:=Au hb12 h;refine vlG [some 42,some 43,some 44,some 45,some 46,some 47,some 48,some 49,some 50,some 51,some 52,some 53,some 54,some 55,some 56,some 57,some 58,some 59,some 60,some 61,some 62,some 63,some 64,some 65,some 66,some 67,some 68,some 69,none] fun _ k=>?_;refine Ag 8 fun _ l=>?_;push_cast [hb12];(repeat refine ao ?_);apply l;clear l;simp only [List.drop_succ_cons,List.drop_zero];refine Ag 8 fun _ l=>?_;push_cast [hb12];(repeat refine ao ?_);apply l;clear l;simp only [List.drop_succ_cons,List.drop_zero];refine Ag 8 fun _ l=>?_;push_cast [hb12];(repeat refine ao ?_);apply l;clear l;simp only [List.drop_succ_cons,List.drop_zero];push_cast [hb12];(repeat refine ao ?_);apply k;clear k;refine ar h hk11 ?_;exact sl (by push_cast [hb2,hb7,hb12])
     ·rintro s_7 (h : Jt a1 r10 s_7 = some v4);(try push_cast);unfold Jt at h;refine vs [0,4,6,74] fun _ k=>?_;push_cast;apply k;clear k;refine vc h (fun hb16 h=>?_) (fun hb16 h=>?_)
      ·refine VC.ret ?_;replace h:=om h hk4;replace h:=Option.some.inj h;subst h;exact en (by push_cast [hb2,hb7,hb16])
      ·refine VC.skip ?_;refine vj h (fun x=>⟨[(0,.ref 0 0),(6,ru r10.1),(80,rb x.2)],[(0,.box 212 [.sl false (x.1.p.Fns.map Al),ri x.1.fn,.sl false (x.1.l.map Ai),.row 1 0 16 0 x.1.in_.length,.row 2 0 1 0 x.1.is.length,ri x.1.at_,rb x.1.safe]),(1,.row 217 16 0 (x.1.in_.map Af)),(2,.row 4 1 0 (x.1.is.map Az))],83,98,3⟩) (fun v17 h hk17=>?_) ?_
       ·rcases bt ((a1.Imm.toNat : Int) == 0) with hb18 | hb18
        ·replace h:=Ao hb18 h;refine vlG [some 75,some 76,some 77,some 78,some 79,some 80] fun _ k=>?_;push_cast [hb18];(repeat refine ao ?_);apply k;clear k;refine ar h hk17 ?_;exact sl (by push_cast [hb2,hb7,hb16,hb18])
        ·replace h:=Au hb18 h;refine vlG [some 75,some 76,some 77,some 78,some 79,some 80] fun _ k=>?_;push_cast [hb18];(repeat refine ao ?_);apply k;clear k;refine ar h hk17 ?_;exact sl (by push_cast [hb2,hb7,hb16,hb18])
       ·rintro ⟨s_8,i_9⟩ (h : Jw r10 s_8 i_9 = some v4);(try push_cast);unfold Jw at h;refine vc h (fun hb19 h=>?_) (fun hb19 h=>?_)
        ·obtain ⟨r20,hr20,h⟩:=Aa h;obtain ⟨hg21,h⟩:=Bs h;have qr20:=Hb hr20;rw [hg21] at qr20;obtain ⟨x22,hx22,h⟩:=Aa h;replace hx22:=gL hx22;obtain ⟨r23,hr23,h⟩:=Aa h;refine vlD [some 81,some 82,some 83,some 84,some 85,some 86,some 87,some 88,some 89,some 90,some 91,some 92] fun _ k=>?_;refine Ch 8 fun _ l=>?_;push_cast [hx22];(repeat refine ao ?_);refine chRD (H:=[(0,.box 212 [.sl false (s_8.p.Fns.map Al),ri s_8.fn,.sl false (s_8.l.map Ai),.row 1 0 16 0 s_8.in_.length,.row 2 0 1 0 s_8.is.length,ri s_8.at_,rb s_8.safe]),(1,.row 217 16 0 (s_8.in_.map Af)),(2,.row 4 1 0 (s_8.is.map Az))]) (Ctr.loH (Ctr.ren Bij.id (qr20) (by push_cast [hx22]) (by push_cast [hx22]))) (by push_cast [hx22]) (by push_cast [hx22]) ?_;push_cast [hx22];(repeat refine ao ?_);apply l;clear l;simp only [List.drop_succ_cons,List.drop_zero];push_cast [hx22];(repeat refine ao ?_);refine chD (H:=[(0,.box 212 [.sl false (s_8.p.Fns.map Al),ri s_8.fn,.sl false (s_8.l.map Ai),.row 1 0 16 0 s_8.in_.length,.row 2 0 1 0 s_8.is.length,ri s_8.at_,rb s_8.safe]),(1,.row 217 16 0 (s_8.in_.map Af)),(2,.row 4 1 0 (s_8.is.map Az))]) (Ctr.loH (Ctr.ren Bij.id (Ls hr23) (by push_cast [hx22]) (by push_cast [hx22]))) (by push_cast [hx22]) ?_;push_cast [hx22];(repeat refine ao ?_);refine ⟨rfl,k _ ?_⟩;clear k;refine am h hk4 ?_;exact sl (by push_cast [hb2,hb7,hb16,hb19])
        ·refine VC.skip ?_;refine am h hk4 ?_;exact sl (by push_cast [hb2,hb7,hb16,hb19])
    ·refine VC.skip ?_;refine am h hk4 ?_;exact sl (by push_cast [hb2,hb7])
  ·rintro s_6 (h : Kt s_6 = some r);(try push_cast);unfold Kt at h;obtain ⟨r24,hr24,h⟩:=Aa h;obtain ⟨hg25,h⟩:=Bs h;have qr24:=Fd hr24;rw [hg25] at qr24;obtain ⟨r26,hr26,h⟩:=Aa h;obtain ⟨r27,hr27,h⟩:=Aa h;refine vl fun _ k=>?_;push_cast;refine chR (H:=[(0,.box 212 [.sl false (s_6.p.Fns.map Al),ri s_6.fn,.sl false (s_6.l.map Ai),.row 1 0 16 0 s_6.in_.length,.row 2 0 1 0 s_6.is.length,ri s_6.at_,rb s_6.safe]),(1,.row 217 16 0 (s_6.in_.map Af)),(2,.row 4 1 0 (s_6.is.map Az))]) (Ctr.loH (Ctr.ren Bij.id (qr24) (by push_cast) (by push_cast))) (by push_cast) (by push_cast) ?_;push_cast;refine cp (Cc0 hr26) ?_;push_cast;refine ch (H:=[(0,.box 212 [.sl false (s_6.p.Fns.map Al),ri s_6.fn,.sl false (s_6.l.map Ai),.row 1 0 16 0 s_6.in_.length,.row 2 0 1 0 s_6.is.length,ri s_6.at_,rb s_6.safe]),(1,.row 217 16 0 (s_6.in_.map Af)),(2,.row 4 1 0 (s_6.is.map Az))]) (Ctr.loH (Ctr.ren Bij.id (Ns hr27) (by push_cast) (by push_cast))) (by push_cast) ?_;push_cast;apply k;clear k;replace h:=Option.some.inj h;subst h;exact eN (by push_cast [hb2])
noncomputable def Jj (a1 : Int) (a2 : C128) (a3 : C128) (a5 : Ak) (a6 : Am) (r1 : C128 × Bool) (s_1 : Ac) (i_2 : Bool) : Option (C128 × C128 × Ac × Ak × Am):=
  cond i_2 (
  po (Ip a5 a6.Dst r1.1) fun r5=>
  po (Eo s_1 a1 r5) fun r6=>
  some (a2,a3,r6,a5,a6)) (
  some (a2,a3,s_1,a5,a6))
noncomputable def De (a0 : Int) (a1 : Int) (a2 : C128) (a3 : C128) (a4_p : Ac) (a5 : Ak) (a6 : Am) : Option (C128 × C128 × Ac × Ak × Am):=
  po (Ri a0 a2 a3) fun r1=>
  po (
  cond r1.2 (
  some (a4_p,a4_p.safe)) (
  some (a4_p,false))) (fun x=>Jj a1 a2 a3 a5 a6 r1 x.1 x.2)
theorem Gu {a0 : Int} {a1 : Int} {a2 : C128} {a3 : C128} {a4_p : Ac} {a5 : Ak} {a6 : Am} {r : C128 × C128 × Ac × Ak × Am} (h : De a0 a1 a2 a3 a4_p a5 a6 = some r) : Ctr prog 214 [ri a0,ri a1,.ref 0 0,.ref 1 0,.ref 2 0,.ref 6 0,.ref 7 0] [(0,.box 214 (Yx a2)),(1,.box 214 (Yx a3)),(2,.box 210 [.ref 3 0]),(3,.box 212 [.sl false (a4_p.p.Fns.map Al),ri a4_p.fn,.sl false (a4_p.l.map Ai),.row 4 0 16 0 a4_p.in_.length,.row 5 0 1 0 a4_p.is.length,ri a4_p.at_,rb a4_p.safe]),(4,.row 217 16 0 (a4_p.in_.map Af)),(5,.row 4 1 0 (a4_p.is.map Az)),(6,.box 217 (Af a5)),(7,.box 37 (Aw a6))] (.tup []) [(0,.box 214 (Yx r.1)),(1,.box 214 (Yx r.2.1)),(2,.box 210 [.ref 3 0]),(3,.box 212 [.sl false (r.2.2.1.p.Fns.map Al),ri r.2.2.1.fn,.sl false (r.2.2.1.l.map Ai),.row 4 0 16 0 r.2.2.1.in_.length,.row 5 0 1 0 r.2.2.1.is.length,ri r.2.2.1.at_,rb r.2.2.1.safe]),(4,.row 217 16 0 (r.2.2.1.in_.map Af)),(5,.row 4 1 0 (r.2.2.1.is.map Az)),(6,.box 217 (Af r.2.2.2.1)),(7,.box 37 (Aw r.2.2.2.2))]:=by
 unfold De at h;refine Ctr.ofW Ba func214 rfl call214 8 _ ntmps214 [] rfl rfl rfl (fun B=>?_);obtain ⟨r1,hr1,h⟩:=Aa h;refine vs [1,4,5,6,9,10] fun _ k=>?_;push_cast;refine cp (Fw0 hr1) ?_;push_cast;apply k;clear k;refine vj h (fun x=>⟨[(1,ri a1),(4,.ref 2 0),(5,.ref 6 0),(6,.ref 7 0),(9,.raw (.complex .f64 r1.1.re r1.1.im)),(24,rb x.2)],[(0,.box 214 [.raw (.complex .f64 a2.re a2.im)]),(1,.box 214 [.raw (.complex .f64 a3.re a3.im)]),(2,.box 210 [.ref 3 0]),(3,.box 212 [.sl false (x.1.p.Fns.map Al),ri x.1.fn,.sl false (x.1.l.map Ai),.row 4 0 16 0 x.1.in_.length,.row 5 0 1 0 x.1.is.length,ri x.1.at_,rb x.1.safe]),(4,.row 217 16 0 (x.1.in_.map Af)),(5,.row 4 1 0 (x.1.is.map Az)),(6,.box 217 (Af a5)),(7,.box 37 (Aw a6))],24,33,8⟩) (fun v2 h hk2=>?_) ?_
 ·rcases bt r1.2 with hb3 | hb3
  ·replace h:=Ao hb3 h;refine vlG [some 18,some 19,some 20,some 21,some 22,some 23,some 24] fun _ k=>?_;push_cast [hb3];(repeat refine ao ?_);apply k;clear k;refine ar h hk2 ?_;exact sl (by push_cast [hb3])
  ·replace h:=Au hb3 h;refine vlG [some 18,some 19,some 20,some 21,some 22,some 23,some 24] fun _ k=>?_;push_cast [hb3];(repeat refine ao ?_);apply k;clear k;refine ar h hk2 ?_;exact sl (by push_cast [hb3])
 ·rintro ⟨s_1,i_2⟩ (h : Jj a1 a2 a3 a5 a6 r1 s_1 i_2 = some r);(try push_cast);unfold Jj at h;refine vc h (fun hb4 h=>?_) (fun hb4 h=>?_)
  ·obtain ⟨r5,hr5,h⟩:=Aa h;obtain ⟨r6,hr6,h⟩:=Aa h;refine vlD [some 25,some 26,some 27,some 28,some 29,some 30,some 31,some 32] fun _ k=>?_;push_cast;refine cpD (Vz hr5) ?_;push_cast;refine chD (H:=[(3,.box 212 [.sl false (s_1.p.Fns.map Al),ri s_1.fn,.sl false (s_1.l.map Ai),.row 4 0 16 0 s_1.in_.length,.row 5 0 1 0 s_1.is.length,ri s_1.at_,rb s_1.safe]),(4,.row 217 16 0 (s_1.in_.map Af)),(5,.row 4 1 0 (s_1.is.map Az))]) (Ctr.loH (Ctr.ren (Bij.swp 2 5 (Bij.swp 1 4 (Bij.swp 0 3 Bij.id))) (Pw hr6) (by push_cast) (by push_cast))) (by push_cast) ?_;push_cast;refine ⟨rfl,k _ ?_⟩;clear k;replace h:=Option.some.inj h;subst h;exact eN (by push_cast [hb4])
  ·refine VC.skip ?_;replace h:=Option.some.inj h;subst h;exact eN (by push_cast [hb4])
end Go.Proofs.YtcffmheeofjifaaGreat
