/- Packed texts: Qinterprunframe, Sk3, QinterpCall, QinterpRun, Sk4, Qboundsspantold, Qboundsfit, Qboundsword, QboundsMay, Qboundsof, Qboundsrules1, Qboundsrules10, Qboundsrules11, Qboundsrules2, Qboundsrules3, Qboundsrules4, Qboundsrules5, Qboundsrules6, Qboundsrules7, Qboundspower, Qboundsrules8, Qboundsrules9, Qboundsrules, QboundsAlu, QboundsCut, QboundsJoin, QboundsEnds, Gp, QshapeMay, QboundsOf, Qshapeall, Qshapein, QshapePut, QshapeBack, QshapeGet, QshapeWord, QshapeJoin, QshapeNew, Sk5, Uarenaend, It, Qcoursemay1, QslicesIndexFuncapiInstapiInstcoursemay1, QslicesContainsFuncapiInstapiInstcoursemay1, Qcoursemay, Qcoursenext, QcourseLongest, QcourseBudget, Qverifyworkto, QverifyShapes1, Qverifyworkhere, Qverifyworkget, Qverifyworkthen, Qverifyworkput, Qverifyworkword. -/
import Derived.Test.YtcffmheeofjifaaGreatSf4
set_option linter.unusedVariables false
set_option linter.unusedSimpArgs false
set_option maxHeartbeats 4000000
set_option maxRecDepth 100000
namespace Go.Proofs.YtcffmheeofjifaaGreat
open Go Go.RowKit Go.Proofs.Tryz
noncomputable def Dr (a2 : (List UInt32)) (s_1 : Ae) (s_2 : Ad) (i_3 : Int) : Option ((Ae × Ad × Int) ⊕ (Ae × Ad)):=
  cond (decide (i_3 < (a2.length : Int))) (
  po (idx a2 i_3) fun x4=>
  po (Ek s_2 s_1 (IntKind.i64.wrap (i_3 + 1)) x4) fun r5=>
  some (Sum.inl (r5.2,r5.1,(IntKind.i64.wrap (i_3 + 1))))) (
  some (Sum.inr (s_1,s_2)))
noncomputable def Cy (pf : Ae → Int → (List UInt32) → Option (UInt32 × Ae)) (x6 : Cv) (s_10 : Ae) (s_11 : Ad) (i_12 : Bool) : Option ((Ae × Ad) ⊕ (Ae × Ad)):=
  cond i_12 (
  cond (s_10.used == s_10.fuel) (
  po (Db s_10 2) fun r13=>
  some (Sum.inl (r13,s_11))) (
  cond (decide (s_11.at_ ≥ (x6.Code.length : Int))) (
  po (Db (Ae.mk s_10.p s_10.e s_10.fuel (IntKind.i64.wrap (s_10.used + 1)) s_10.err) 10) fun r15=>
  some (Sum.inl (r15,s_11))) (
  po (idx x6.Code s_11.at_) fun x16=>
  cond (x16.Op == 0) (
  po (Ij s_11 (Ae.mk s_10.p s_10.e s_10.fuel (IntKind.i64.wrap (s_10.used + 1)) s_10.err) x16) fun r18=>
  some (Sum.inl (r18.2,(Ad.mk r18.1.fn (IntKind.i64.wrap (r18.1.at_ + 1)) r18.1.regs r18.1.set r18.1.stack r18.1.over)))) (
  cond (x16.Op == 1) (
  po (Hj s_11 (Ae.mk s_10.p s_10.e s_10.fuel (IntKind.i64.wrap (s_10.used + 1)) s_10.err) x16) fun r20=>
  some (Sum.inl (r20.2,(Ad.mk r20.1.fn (IntKind.i64.wrap (r20.1.at_ + 1)) r20.1.regs r20.1.set r20.1.stack r20.1.over)))) (
  cond (x16.Op == 2) (
  po (Dj s_11 (Ae.mk s_10.p s_10.e s_10.fuel (IntKind.i64.wrap (s_10.used + 1)) s_10.err) x16) fun r22=>
  some (Sum.inl (r22.2,(Ad.mk r22.1.fn (IntKind.i64.wrap (r22.1.at_ + 1)) r22.1.regs r22.1.set r22.1.stack r22.1.over)))) (
  cond (x16.Op == 3) (
  po (Dj s_11 (Ae.mk s_10.p s_10.e s_10.fuel (IntKind.i64.wrap (s_10.used + 1)) s_10.err) x16) fun r24=>
  some (Sum.inl (r24.2,(Ad.mk r24.1.fn (IntKind.i64.wrap (r24.1.at_ + 1)) r24.1.regs r24.1.set r24.1.stack r24.1.over)))) (
  cond (x16.Op == 4) (
  po (Dj s_11 (Ae.mk s_10.p s_10.e s_10.fuel (IntKind.i64.wrap (s_10.used + 1)) s_10.err) x16) fun r26=>
  some (Sum.inl (r26.2,(Ad.mk r26.1.fn (IntKind.i64.wrap (r26.1.at_ + 1)) r26.1.regs r26.1.set r26.1.stack r26.1.over)))) (
  cond (x16.Op == 5) (
  po (Hh s_11 (Ae.mk s_10.p s_10.e s_10.fuel (IntKind.i64.wrap (s_10.used + 1)) s_10.err) x16) fun r28=>
  some (Sum.inl (r28.2,(Ad.mk r28.1.fn (IntKind.i64.wrap (r28.1.at_ + 1)) r28.1.regs r28.1.set r28.1.stack r28.1.over)))) (
  cond (x16.Op == 6) (
  po (Hk pf s_11 (Ae.mk s_10.p s_10.e s_10.fuel (IntKind.i64.wrap (s_10.used + 1)) s_10.err) x16) fun r30=>
  some (Sum.inl (r30.2,(Ad.mk r30.1.fn (IntKind.i64.wrap (r30.1.at_ + 1)) r30.1.regs r30.1.set r30.1.stack r30.1.over)))) (
  cond (x16.Op == 7) (
  po (Hi s_11 (Ae.mk s_10.p s_10.e s_10.fuel (IntKind.i64.wrap (s_10.used + 1)) s_10.err) x16) fun r32=>
  some (Sum.inl (r32.2,(Ad.mk r32.1.fn (IntKind.i64.wrap (r32.1.at_ + 1)) r32.1.regs r32.1.set r32.1.stack r32.1.over)))) (
  none))))))))))) (
  some (Sum.inr (s_10,s_11)))
noncomputable def Cz (pf : Ae → Int → (List UInt32) → Option (UInt32 × Ae)) (x6 : Cv) (s_10 : Ae) (s_11 : Ad) : Option ((Ae × Ad) ⊕ (Ae × Ad)):=
  po (
  cond (s_10.err == 0) (
  some (!s_11.over)) (
  some false)) (fun x=>Cy pf x6 s_10 s_11 x)
noncomputable def Jj (s_15 : Ae) (s_16 : Ad) : Option (UInt32 × Ae):=
  some (s_16.regs.a0,s_15)
noncomputable def Fd (pf : Ae → Int → (List UInt32) → Option (UInt32 × Ae)) (a1 : Int) (s_7 : Ae) (s_8 : Ad) : Option (UInt32 × Ae):=
  po (idx s_7.p.Fns a1) fun x6=>
  po (
  lpU (fun x=>Cz pf x6 x.1 x.2) (s_7,s_8)) (fun x=>Jj x.1 x.2)
noncomputable def Ej (pf : Ae → Int → (List UInt32) → Option (UInt32 × Ae)) (a0 : Ae) (a1 : Int) (a2 : (List UInt32)) : Option (UInt32 × Ae):=
  po (
  lpU (fun x=>Dr a2 x.1 x.2.1 x.2.2) (a0,(Ad.mk a1 0 (A8.mk 0 0 0 0 0 0 0 0) (A8.mk false false false false false false false false) (A16.mk 0 0 0 0 0 0 0 0 0 0 0 0 0 0 0 0) false),0)) (fun x=>Fd pf a1 x.1 x.2)
theorem Ar0 (pf : Ae → Int → (List UInt32) → Option (UInt32 × Ae)) (hpf : ∀ {a0 : Ae} {a1 : Int} {a2 : (List UInt32)} {r : UInt32 × Ae} (h : pf a0 a1 a2 = some r),Ctr prog 171 [.ref 0 0,ri a1,.sl false (a2.map Ax)] [(0,.box 259 (Ah a0))] (ru r.1) [(0,.box 259 (Ah r.2))]) {a0 : Ae} {a1 : Int} {a2 : (List UInt32)} {r : UInt32 × Ae} (h : Ej pf a0 a1 a2 = some r) : Ctr prog 171 [.ref 0 0,ri a1,.sl false (a2.map Ax)] [(0,.box 259 (Ah a0))] (ru r.1) [(0,.box 259 (Ah r.2))]:=by
 unfold Ej at h;refine Ctr.ofW Bb func171 rfl call171 1 _ ntmps171 [.tmp 6] rfl rfl rfl (fun B=>?_);refine vs [0,1,2] fun _ k=>?_;push_cast (maxSteps:=9000000) [-Ay];apply k;clear k;refine vs [0,1,2,7] fun _ k=>?_;push_cast (maxSteps:=9000000) [-Ay];apply k;clear k;refine VC.sub (s':=⟨[(0,.ref 0 0),(1,ri a1),(2,.sl false (a2.map Ax)),(7,.ref 5 0)],[(0,.box 259 (Ah a0)),(5,.box 283 (Ab (Ad.mk a1 0 (A8.mk 0 0 0 0 0 0 0 0) (A8.mk false false false false false false false false) (A16.mk 0 0 0 0 0 0 0 0 0 0 0 0 0 0 0 0) false) (.ref 0 0)))],7,114,1⟩) (so (by push_cast (maxSteps:=9000000) [-Ay,Ab])) ?_;refine vj h (fun x=>⟨[(0,.ref 0 0),(1,ri a1),(7,.ref 5 0)],[(0,.box 259 (Ah x.1)),(5,.box 283 (Ab x.2 (.ref 0 0)))],24,114,1⟩) (fun v1 h hk1=>?_) ?_
 ·as_aux_lemma=>
   refine vs [0,1,7,17,18,19] fun _ k=>?_;push_cast (maxSteps:=9000000) [-Ay];apply k;clear k;refine VC.block ?_;refine VC.loopP h (fun x=>⟨[(0,.ref 0 0),(1,ri a1),(7,.ref 5 0),(17,.sl false (a2.map Ax)),(18,ri (a2.length : Int)),(19,ri x.2.2)],[(0,.box 259 (Ah x.1)),(5,.box 283 (Ab x.2.1 (.ref 0 0)))],23,114,1⟩) ?_ ?_
   ·exact sl (by push_cast (maxSteps:=9000000) [-Ay])
   rintro ⟨s_1,s_2,i_3⟩ b2 (h : Dr a2 s_1 s_2 i_3 = some b2) hf2;(try push_cast (maxSteps:=9000000) [-Ay]);unfold Dr at h;refine vs [0,1,7,17,18,19,20] fun _ k=>?_;push_cast (maxSteps:=9000000) [-Ay];apply k;clear k;refine VC.seq ?_;refine vc h (fun hb3 h=>?_) (fun hb3 h=>?_)
   ·refine VC.skip ?_;refine VC.seq ?_;refine VC.block ?_;obtain ⟨x4,hx4,h⟩:=Aa h;replace hx4:=Bh hx4;refine vs [0,1,7,8,9,17,18,19] fun _ k=>?_;push_cast (maxSteps:=9000000) [-Ay,hx4];(repeat refine ao ?_);apply k;clear k;obtain ⟨r5,hr5,h⟩:=Aa h;refine vl fun _ k=>?_;push_cast (maxSteps:=9000000) [-Ay];refine ch (H:=[(5,.box 283 (Ab s_2 (.ref 0 0))),(0,.box 259 (Ah s_1))]) (Ctr.loH (Ctr.ren (Bij.swp 1 0 (Bij.swp 0 5 Bij.id)) (Kc hr5) (by push_cast (maxSteps:=9000000) [-Ay]) (by push_cast (maxSteps:=9000000) [-Ay]))) (by push_cast (maxSteps:=9000000) [-Ay]) ?_;push_cast (maxSteps:=9000000) [-Ay];apply k;clear k;refine vl fun _ k=>?_;push_cast (maxSteps:=9000000) [-Ay];apply k;clear k;refine bk h ?_;exact sl (by push_cast (maxSteps:=9000000) [-Ay,hb3])
   ·refine VC.exit ?_;replace h:=ol h hf2;refine ar h hk1 ?_;exact sl (by push_cast (maxSteps:=9000000) [-Ay,hb3])
 ·as_aux_lemma=>
   rintro ⟨s_7,s_8⟩ (h : Fd pf a1 s_7 s_8 = some r);(try push_cast (maxSteps:=9000000) [-Ay]);unfold Fd at h;refine vs [0,1,7,10] fun _ k=>?_;push_cast (maxSteps:=9000000) [-Ay];apply k;clear k;obtain ⟨x6,hx6,h⟩:=Aa h;replace hx6:=Bh hx6;refine vs [0,7,10,11] fun _ k=>?_;push_cast (maxSteps:=9000000) [-Ay,hx6];(repeat refine ao ?_);apply k;clear k;refine vj h (fun x=>⟨[(7,.ref 5 0)],[(0,.box 259 (Ah x.1)),(5,.box 283 (Ab x.2 (.ref 0 0)))],111,114,1⟩) (fun v7 h hk7=>?_) ?_
   ·as_aux_lemma=>
     refine VC.block ?_;refine VC.loopP h (fun x=>⟨[(0,.ref 0 0),(7,.ref 5 0),(10,.ref 25 0),(11,.sl false (x6.Code.map Aw))],[(0,.box 259 (Ah x.1)),(5,.box 283 (Ab x.2 (.ref 0 0))),(25,.box 286 [.fn (.func 198) [] [],.fn (.func 199) [] [],.fn (.func 200) [] [],.fn (.func 200) [] [],.fn (.func 200) [] [],.fn (.func 201) [] [],.fn (.func 202) [] [],.fn (.func 203) [] []])],99,114,1⟩) ?_ ?_
     ·exact sl (by push_cast (maxSteps:=9000000) [-Ay])
     rintro ⟨s_10,s_11⟩ b8 (h : Cz pf x6 s_10 s_11 = some b8) hf8;(try push_cast (maxSteps:=9000000) [-Ay]);unfold Cz at h;refine VC.seq ?_;refine vj h (fun x=>⟨[(0,.ref 0 0),(7,.ref 5 0),(10,.ref 25 0),(11,.sl false (x6.Code.map Aw)),(51,rb x)],[(0,.box 259 (Ah s_10)),(5,.box 283 (Ab s_11 (.ref 0 0))),(25,.box 286 [.fn (.func 198) [] [],.fn (.func 199) [] [],.fn (.func 200) [] [],.fn (.func 200) [] [],.fn (.func 200) [] [],.fn (.func 201) [] [],.fn (.func 202) [] [],.fn (.func 203) [] []])],111,114,1⟩) (fun v9 h hk9=>?_) ?_
     ·as_aux_lemma=>
       rcases bt (s_10.err == 0) with hb10 | hb10
       ·replace h:=Ao hb10 h;refine vlG [some 40,some 41,some 42,some 43,some 44,some 45,some 46,some 47,some 48,some 49,some 50,some 51] fun _ k=>?_;refine Af 8 fun _ l=>?_;push_cast (maxSteps:=9000000) [-Ay,hb10];(repeat refine ao ?_);apply l;clear l;simp only [List.drop_succ_cons,List.drop_zero];push_cast (maxSteps:=9000000) [-Ay,hb10];(repeat refine ao ?_);apply k;clear k;refine ar h hk9 ?_;exact sl (by push_cast (maxSteps:=9000000) [-Ay,hb10])
       ·replace h:=Av hb10 h;refine vlG [some 40,some 41,some 42,some 43,some 44,some 45,some 46,some 47,some 48,some 49,some 50,some 51] fun _ k=>?_;refine Af 8 fun _ l=>?_;push_cast (maxSteps:=9000000) [-Ay,hb10];(repeat refine ao ?_);apply l;clear l;simp only [List.drop_succ_cons,List.drop_zero];push_cast (maxSteps:=9000000) [-Ay,hb10];(repeat refine ao ?_);apply k;clear k;refine ar h hk9 ?_;exact sl (by push_cast (maxSteps:=9000000) [-Ay,hb10])
     ·as_aux_lemma=>
       rintro i_12 (h : Cy pf x6 s_10 s_11 i_12 = some b8);(try push_cast (maxSteps:=9000000) [-Ay]);unfold Cy at h;refine vc h (fun hb11 h=>?_) (fun hb11 h=>?_)
       ·refine VC.skip ?_;refine VC.block ?_;refine VC.seq ?_;refine VC.block ?_;refine vsD [some 53,some 54,some 55,some 56,some 57,some 58,some 59,some 60,some 61,some 52] [0,7,10,11,52] fun _ k=>?_;push_cast (maxSteps:=9000000) [-Ay];refine ⟨rfl,k _ ?_⟩;clear k;refine vc h (fun hb12 h=>?_) (fun hb12 h=>?_)
        ·obtain ⟨r13,hr13,h⟩:=Aa h;refine vs [0,7,10,11] fun _ k=>?_;push_cast (maxSteps:=9000000) [-Ay];refine ch (H:=[(0,.box 259 (Ah s_10))]) (Ctr.loH (Ctr.ren Bij.id (Er hr13) (by push_cast (maxSteps:=9000000) [-Ay]) (by push_cast (maxSteps:=9000000) [-Ay]))) (by push_cast (maxSteps:=9000000) [-Ay]) ?_;push_cast (maxSteps:=9000000) [-Ay];apply k;clear k;refine VC.sub (s':=⟨[(0,.ref 0 0),(7,.ref 5 0),(10,.ref 25 0),(11,.sl false (x6.Code.map Aw))],[(0,.box 259 (Ah r13)),(5,.box 283 (Ab s_11 (.ref 0 0))),(25,.box 286 [.fn (.func 198) [] [],.fn (.func 199) [] [],.fn (.func 200) [] [],.fn (.func 200) [] [],.fn (.func 200) [] [],.fn (.func 201) [] [],.fn (.func 202) [] [],.fn (.func 203) [] []])],123,114,1⟩) (so (by push_cast (maxSteps:=9000000) [-Ay,hb11,hb12])) ?_;refine VC.exit ?_;refine bk h ?_;exact sl (by push_cast (maxSteps:=9000000) [-Ay,hb11,hb12])
        ·refine vs [0,7,10,11,64] fun _ k=>?_;push_cast (maxSteps:=9000000) [-Ay];apply k;clear k;refine vc h (fun hb14 h=>?_) (fun hb14 h=>?_)
         ·refine vs [0,7,10,11] fun _ k=>?_;push_cast (maxSteps:=9000000) [-Ay];apply k;clear k;obtain ⟨r15,hr15,h⟩:=Aa h;refine vs [0,7,10,11] fun _ k=>?_;push_cast (maxSteps:=9000000) [-Ay];refine ch (H:=[(0,.box 259 (Ah (Ae.mk s_10.p s_10.e s_10.fuel (IntKind.i64.wrap (s_10.used + 1)) s_10.err)))]) (Ctr.loH (Ctr.ren Bij.id (Er hr15) (by push_cast (maxSteps:=9000000) [-Ay]) (by push_cast (maxSteps:=9000000) [-Ay]))) (by push_cast (maxSteps:=9000000) [-Ay]) ?_;push_cast (maxSteps:=9000000) [-Ay];apply k;clear k;refine VC.sub (s':=⟨[(0,.ref 0 0),(7,.ref 5 0),(10,.ref 25 0),(11,.sl false (x6.Code.map Aw))],[(0,.box 259 (Ah r15)),(5,.box 283 (Ab s_11 (.ref 0 0))),(25,.box 286 [.fn (.func 198) [] [],.fn (.func 199) [] [],.fn (.func 200) [] [],.fn (.func 200) [] [],.fn (.func 200) [] [],.fn (.func 201) [] [],.fn (.func 202) [] [],.fn (.func 203) [] []])],139,114,1⟩) (so (by push_cast (maxSteps:=9000000) [-Ay,hb11,hb12,hb14])) ?_;refine VC.exit ?_;refine bk h ?_;exact sl (by push_cast (maxSteps:=9000000) [-Ay,hb11,hb12,hb14])
         ·refine VC.skip ?_;obtain ⟨x16,hx16,h⟩:=Aa h;replace hx16:=Bh hx16;refine vs [0,7,10,11,12] fun _ k=>?_;push_cast (maxSteps:=9000000) [-Ay,hx16];(repeat refine ao ?_);apply k;clear k;refine vs [0,7,10,11,12] fun _ k=>?_;push_cast (maxSteps:=9000000) [-Ay];apply k;clear k;rcases bt (x16.Op == 0) with hb17 | hb17
          ·as_aux_lemma=>
            replace h:=Ao hb17 h;have hb17e : x16.Op = 0:=by simpa using hb17
            have hb17n : x16.Op.toNat = 0:=by omega
            obtain ⟨r18,hr18,h⟩:=Aa h;refine vsD [some 95,some 96,some 97,some 98,some 99,some 100,some 101] [0,7,10,11] fun _ k=>?_;push_cast (maxSteps:=9000000) [-Ay,hb17n];(repeat refine ao ?_);refine chD (H:=[(5,.box 283 (Ab s_11 (.ref 0 0))),(0,.box 259 (Ah (Ae.mk s_10.p s_10.e s_10.fuel (IntKind.i64.wrap (s_10.used + 1)) s_10.err)))]) (Ctr.loH (Ctr.ren (Bij.swp 1 0 (Bij.swp 0 5 Bij.id)) (Cn0 hr18) (by push_cast (maxSteps:=9000000) [-Ay,hb17n]) (by push_cast (maxSteps:=9000000) [-Ay,hb17n]))) (by push_cast (maxSteps:=9000000) [-Ay,hb17n]) ?_;push_cast (maxSteps:=9000000) [-Ay,hb17n];(repeat refine ao ?_);refine ⟨rfl,k _ ?_⟩;clear k;refine VC.sub (s':=⟨[(0,.ref 0 0),(7,.ref 5 0),(10,.ref 25 0),(11,.sl false (x6.Code.map Aw))],[(0,.box 259 (Ah r18.2)),(5,.box 283 (Ab r18.1 (.ref 0 0))),(25,.box 286 [.fn (.func 198) [] [],.fn (.func 199) [] [],.fn (.func 200) [] [],.fn (.func 200) [] [],.fn (.func 200) [] [],.fn (.func 201) [] [],.fn (.func 202) [] [],.fn (.func 203) [] []])],153,114,1⟩) (so (by push_cast (maxSteps:=9000000) [-Ay,hb11,hb12,hb14])) ?_;refine vl fun _ k=>?_;push_cast (maxSteps:=9000000) [-Ay];apply k;clear k;refine bk h ?_;exact sl (by push_cast (maxSteps:=9000000) [-Ay,hb11,hb12,hb14])
          ·replace h:=Av hb17 h;rcases bt (x16.Op == 1) with hb19 | hb19
           ·as_aux_lemma=>
             replace h:=Ao hb19 h;have hb19e : x16.Op = 1:=by simpa using hb19
             have hb19n : x16.Op.toNat = 1:=by omega
             obtain ⟨r20,hr20,h⟩:=Aa h;refine vsD [some 95,some 96,some 97,some 98,some 99,some 100,some 101] [0,7,10,11] fun _ k=>?_;push_cast (maxSteps:=9000000) [-Ay,hb19n];(repeat refine ao ?_);refine chD (H:=[(5,.box 283 (Ab s_11 (.ref 0 0))),(0,.box 259 (Ah (Ae.mk s_10.p s_10.e s_10.fuel (IntKind.i64.wrap (s_10.used + 1)) s_10.err)))]) (Ctr.loH (Ctr.ren (Bij.swp 1 0 (Bij.swp 0 5 Bij.id)) (By0 hr20) (by push_cast (maxSteps:=9000000) [-Ay,hb19n]) (by push_cast (maxSteps:=9000000) [-Ay,hb19n]))) (by push_cast (maxSteps:=9000000) [-Ay,hb19n]) ?_;push_cast (maxSteps:=9000000) [-Ay,hb19n];(repeat refine ao ?_);refine ⟨rfl,k _ ?_⟩;clear k;refine VC.sub (s':=⟨[(0,.ref 0 0),(7,.ref 5 0),(10,.ref 25 0),(11,.sl false (x6.Code.map Aw))],[(0,.box 259 (Ah r20.2)),(5,.box 283 (Ab r20.1 (.ref 0 0))),(25,.box 286 [.fn (.func 198) [] [],.fn (.func 199) [] [],.fn (.func 200) [] [],.fn (.func 200) [] [],.fn (.func 200) [] [],.fn (.func 201) [] [],.fn (.func 202) [] [],.fn (.func 203) [] []])],153,114,1⟩) (so (by push_cast (maxSteps:=9000000) [-Ay,hb11,hb12,hb14])) ?_;refine vl fun _ k=>?_;push_cast (maxSteps:=9000000) [-Ay];apply k;clear k;refine bk h ?_;exact sl (by push_cast (maxSteps:=9000000) [-Ay,hb11,hb12,hb14])
           ·replace h:=Av hb19 h;rcases bt (x16.Op == 2) with hb21 | hb21
            ·as_aux_lemma=>
              replace h:=Ao hb21 h;have hb21e : x16.Op = 2:=by simpa using hb21
              have hb21n : x16.Op.toNat = 2:=by omega
              obtain ⟨r22,hr22,h⟩:=Aa h;refine vsD [some 95,some 96,some 97,some 98,some 99,some 100,some 101] [0,7,10,11] fun _ k=>?_;push_cast (maxSteps:=9000000) [-Ay,hb21n];(repeat refine ao ?_);refine chD (H:=[(5,.box 283 (Ab s_11 (.ref 0 0))),(0,.box 259 (Ah (Ae.mk s_10.p s_10.e s_10.fuel (IntKind.i64.wrap (s_10.used + 1)) s_10.err)))]) (Ctr.loH (Ctr.ren (Bij.swp 1 0 (Bij.swp 0 5 Bij.id)) (Qg hr22) (by push_cast (maxSteps:=9000000) [-Ay,hb21n]) (by push_cast (maxSteps:=9000000) [-Ay,hb21n]))) (by push_cast (maxSteps:=9000000) [-Ay,hb21n]) ?_;push_cast (maxSteps:=9000000) [-Ay,hb21n];(repeat refine ao ?_);refine ⟨rfl,k _ ?_⟩;clear k;refine VC.sub (s':=⟨[(0,.ref 0 0),(7,.ref 5 0),(10,.ref 25 0),(11,.sl false (x6.Code.map Aw))],[(0,.box 259 (Ah r22.2)),(5,.box 283 (Ab r22.1 (.ref 0 0))),(25,.box 286 [.fn (.func 198) [] [],.fn (.func 199) [] [],.fn (.func 200) [] [],.fn (.func 200) [] [],.fn (.func 200) [] [],.fn (.func 201) [] [],.fn (.func 202) [] [],.fn (.func 203) [] []])],153,114,1⟩) (so (by push_cast (maxSteps:=9000000) [-Ay,hb11,hb12,hb14])) ?_;refine vl fun _ k=>?_;push_cast (maxSteps:=9000000) [-Ay];apply k;clear k;refine bk h ?_;exact sl (by push_cast (maxSteps:=9000000) [-Ay,hb11,hb12,hb14])
            ·replace h:=Av hb21 h;rcases bt (x16.Op == 3) with hb23 | hb23
             ·as_aux_lemma=>
               replace h:=Ao hb23 h;have hb23e : x16.Op = 3:=by simpa using hb23
               have hb23n : x16.Op.toNat = 3:=by omega
               obtain ⟨r24,hr24,h⟩:=Aa h;refine vsD [some 95,some 96,some 97,some 98,some 99,some 100,some 101] [0,7,10,11] fun _ k=>?_;push_cast (maxSteps:=9000000) [-Ay,hb23n];(repeat refine ao ?_);refine chD (H:=[(5,.box 283 (Ab s_11 (.ref 0 0))),(0,.box 259 (Ah (Ae.mk s_10.p s_10.e s_10.fuel (IntKind.i64.wrap (s_10.used + 1)) s_10.err)))]) (Ctr.loH (Ctr.ren (Bij.swp 1 0 (Bij.swp 0 5 Bij.id)) (Qg hr24) (by push_cast (maxSteps:=9000000) [-Ay,hb23n]) (by push_cast (maxSteps:=9000000) [-Ay,hb23n]))) (by push_cast (maxSteps:=9000000) [-Ay,hb23n]) ?_;push_cast (maxSteps:=9000000) [-Ay,hb23n];(repeat refine ao ?_);refine ⟨rfl,k _ ?_⟩;clear k;refine VC.sub (s':=⟨[(0,.ref 0 0),(7,.ref 5 0),(10,.ref 25 0),(11,.sl false (x6.Code.map Aw))],[(0,.box 259 (Ah r24.2)),(5,.box 283 (Ab r24.1 (.ref 0 0))),(25,.box 286 [.fn (.func 198) [] [],.fn (.func 199) [] [],.fn (.func 200) [] [],.fn (.func 200) [] [],.fn (.func 200) [] [],.fn (.func 201) [] [],.fn (.func 202) [] [],.fn (.func 203) [] []])],153,114,1⟩) (so (by push_cast (maxSteps:=9000000) [-Ay,hb11,hb12,hb14])) ?_;refine vl fun _ k=>?_;push_cast (maxSteps:=9000000) [-Ay];apply k;clear k;refine bk h ?_;exact sl (by push_cast (maxSteps:=9000000) [-Ay,hb11,hb12,hb14])
             ·replace h:=Av hb23 h;rcases bt (x16.Op == 4) with hb25 | hb25
              ·as_aux_lemma=>
                replace h:=Ao hb25 h;have hb25e : x16.Op = 4:=by simpa using hb25
                have hb25n : x16.Op.toNat = 4:=by omega
                obtain ⟨r26,hr26,h⟩:=Aa h;refine vsD [some 95,some 96,some 97,some 98,some 99,some 100,some 101] [0,7,10,11] fun _ k=>?_;push_cast (maxSteps:=9000000) [-Ay,hb25n];(repeat refine ao ?_);refine chD (H:=[(5,.box 283 (Ab s_11 (.ref 0 0))),(0,.box 259 (Ah (Ae.mk s_10.p s_10.e s_10.fuel (IntKind.i64.wrap (s_10.used + 1)) s_10.err)))]) (Ctr.loH (Ctr.ren (Bij.swp 1 0 (Bij.swp 0 5 Bij.id)) (Qg hr26) (by push_cast (maxSteps:=9000000) [-Ay,hb25n]) (by push_cast (maxSteps:=9000000) [-Ay,hb25n]))) (by push_cast (maxSteps:=9000000) [-Ay,hb25n]) ?_;push_cast (maxSteps:=9000000) [-Ay,hb25n];(repeat refine ao ?_);refine ⟨rfl,k _ ?_⟩;clear k;refine VC.sub (s':=⟨[(0,.ref 0 0),(7,.ref 5 0),(10,.ref 25 0),(11,.sl false (x6.Code.map Aw))],[(0,.box 259 (Ah r26.2)),(5,.box 283 (Ab r26.1 (.ref 0 0))),(25,.box 286 [.fn (.func 198) [] [],.fn (.func 199) [] [],.fn (.func 200) [] [],.fn (.func 200) [] [],.fn (.func 200) [] [],.fn (.func 201) [] [],.fn (.func 202) [] [],.fn (.func 203) [] []])],153,114,1⟩) (so (by push_cast (maxSteps:=9000000) [-Ay,hb11,hb12,hb14])) ?_;refine vl fun _ k=>?_;push_cast (maxSteps:=9000000) [-Ay];apply k;clear k;refine bk h ?_;exact sl (by push_cast (maxSteps:=9000000) [-Ay,hb11,hb12,hb14])
              ·replace h:=Av hb25 h;rcases bt (x16.Op == 5) with hb27 | hb27
               ·as_aux_lemma=>
                 replace h:=Ao hb27 h;have hb27e : x16.Op = 5:=by simpa using hb27
                 have hb27n : x16.Op.toNat = 5:=by omega
                 obtain ⟨r28,hr28,h⟩:=Aa h;refine vsD [some 95,some 96,some 97,some 98,some 99,some 100,some 101] [0,7,10,11] fun _ k=>?_;push_cast (maxSteps:=9000000) [-Ay,hb27n];(repeat refine ao ?_);refine chD (H:=[(5,.box 283 (Ab s_11 (.ref 0 0))),(0,.box 259 (Ah (Ae.mk s_10.p s_10.e s_10.fuel (IntKind.i64.wrap (s_10.used + 1)) s_10.err)))]) (Ctr.loH (Ctr.ren (Bij.swp 1 0 (Bij.swp 0 5 Bij.id)) (Bf0 hr28) (by push_cast (maxSteps:=9000000) [-Ay,hb27n]) (by push_cast (maxSteps:=9000000) [-Ay,hb27n]))) (by push_cast (maxSteps:=9000000) [-Ay,hb27n]) ?_;push_cast (maxSteps:=9000000) [-Ay,hb27n];(repeat refine ao ?_);refine ⟨rfl,k _ ?_⟩;clear k;refine VC.sub (s':=⟨[(0,.ref 0 0),(7,.ref 5 0),(10,.ref 25 0),(11,.sl false (x6.Code.map Aw))],[(0,.box 259 (Ah r28.2)),(5,.box 283 (Ab r28.1 (.ref 0 0))),(25,.box 286 [.fn (.func 198) [] [],.fn (.func 199) [] [],.fn (.func 200) [] [],.fn (.func 200) [] [],.fn (.func 200) [] [],.fn (.func 201) [] [],.fn (.func 202) [] [],.fn (.func 203) [] []])],153,114,1⟩) (so (by push_cast (maxSteps:=9000000) [-Ay,hb11,hb12,hb14])) ?_;refine vl fun _ k=>?_;push_cast (maxSteps:=9000000) [-Ay];apply k;clear k;refine bk h ?_;exact sl (by push_cast (maxSteps:=9000000) [-Ay,hb11,hb12,hb14])
               ·replace h:=Av hb27 h;rcases bt (x16.Op == 6) with hb29 | hb29
                ·as_aux_lemma=>
                  replace h:=Ao hb29 h;have hb29e : x16.Op = 6:=by simpa using hb29
                  have hb29n : x16.Op.toNat = 6:=by omega
                  obtain ⟨r30,hr30,h⟩:=Aa h;refine vsD [some 95,some 96,some 97,some 98,some 99,some 100,some 101] [0,7,10,11] fun _ k=>?_;push_cast (maxSteps:=9000000) [-Ay,hb29n];(repeat refine ao ?_);refine chD (H:=[(5,.box 283 (Ab s_11 (.ref 0 0))),(0,.box 259 (Ah (Ae.mk s_10.p s_10.e s_10.fuel (IntKind.i64.wrap (s_10.used + 1)) s_10.err)))]) (Ctr.loH (Ctr.ren (Bij.swp 1 0 (Bij.swp 0 5 Bij.id)) (Bk0 pf hpf hr30) (by push_cast (maxSteps:=9000000) [-Ay,hb29n]) (by push_cast (maxSteps:=9000000) [-Ay,hb29n]))) (by push_cast (maxSteps:=9000000) [-Ay,hb29n]) ?_;push_cast (maxSteps:=9000000) [-Ay,hb29n];(repeat refine ao ?_);refine ⟨rfl,k _ ?_⟩;clear k;refine VC.sub (s':=⟨[(0,.ref 0 0),(7,.ref 5 0),(10,.ref 25 0),(11,.sl false (x6.Code.map Aw))],[(0,.box 259 (Ah r30.2)),(5,.box 283 (Ab r30.1 (.ref 0 0))),(25,.box 286 [.fn (.func 198) [] [],.fn (.func 199) [] [],.fn (.func 200) [] [],.fn (.func 200) [] [],.fn (.func 200) [] [],.fn (.func 201) [] [],.fn (.func 202) [] [],.fn (.func 203) [] []])],153,114,1⟩) (so (by push_cast (maxSteps:=9000000) [-Ay,hb11,hb12,hb14])) ?_;refine vl fun _ k=>?_;push_cast (maxSteps:=9000000) [-Ay];apply k;clear k;refine bk h ?_;exact sl (by push_cast (maxSteps:=9000000) [-Ay,hb11,hb12,hb14])
                ·replace h:=Av hb29 h;rcases bt (x16.Op == 7) with hb31 | hb31
                 ·as_aux_lemma=>
                   replace h:=Ao hb31 h;have hb31e : x16.Op = 7:=by simpa using hb31
                   have hb31n : x16.Op.toNat = 7:=by omega
                   obtain ⟨r32,hr32,h⟩:=Aa h;refine vsD [some 95,some 96,some 97,some 98,some 99,some 100,some 101] [0,7,10,11] fun _ k=>?_;push_cast (maxSteps:=9000000) [-Ay,hb31n];(repeat refine ao ?_);refine chD (H:=[(5,.box 283 (Ab s_11 (.ref 0 0))),(0,.box 259 (Ah (Ae.mk s_10.p s_10.e s_10.fuel (IntKind.i64.wrap (s_10.used + 1)) s_10.err)))]) (Ctr.loH (Ctr.ren (Bij.swp 1 0 (Bij.swp 0 5 Bij.id)) (Bq0 hr32) (by push_cast (maxSteps:=9000000) [-Ay,hb31n]) (by push_cast (maxSteps:=9000000) [-Ay,hb31n]))) (by push_cast (maxSteps:=9000000) [-Ay,hb31n]) ?_;push_cast (maxSteps:=9000000) [-Ay,hb31n];(repeat refine ao ?_);refine ⟨rfl,k _ ?_⟩;clear k;refine VC.sub (s':=⟨[(0,.ref 0 0),(7,.ref 5 0),(10,.ref 25 0),(11,.sl false (x6.Code.map Aw))],[(0,.box 259 (Ah r32.2)),(5,.box 283 (Ab r32.1 (.ref 0 0))),(25,.box 286 [.fn (.func 198) [] [],.fn (.func 199) [] [],.fn (.func 200) [] [],.fn (.func 200) [] [],.fn (.func 200) [] [],.fn (.func 201) [] [],.fn (.func 202) [] [],.fn (.func 203) [] []])],153,114,1⟩) (so (by push_cast (maxSteps:=9000000) [-Ay,hb11,hb12,hb14])) ?_;refine vl fun _ k=>?_;push_cast (maxSteps:=9000000) [-Ay];apply k;clear k;refine bk h ?_;exact sl (by push_cast (maxSteps:=9000000) [-Ay,hb11,hb12,hb14])
                 ·replace h:=Av hb31 h;cases h
       ·refine VC.exit ?_;replace h:=ol h hf8;refine ar h hk7 ?_;exact sl (by push_cast (maxSteps:=9000000) [-Ay,hb11])
   ·as_aux_lemma=>
     rintro ⟨s_15,s_16⟩ (h : Jj s_15 s_16 = some r);(try push_cast (maxSteps:=9000000) [-Ay]);unfold Jj at h;refine vs [6] fun _ k=>?_;push_cast (maxSteps:=9000000) [-Ay];apply k;clear k;refine VC.ret ?_;replace h:=Option.some.inj h;subst h;exact en (by push_cast (maxSteps:=9000000) [-Ay])
noncomputable def Dy : Nat → Ae → Int → (List UInt32) → Option (UInt32 × Ae)
  | 0=>fun _ _ _=>none
  | d + 1=>Ej (Dy d)
theorem Wg : ∀ (d : Nat) (a0 : Ae) (a1 : Int) (a2 : (List UInt32)) {r : UInt32 × Ae} (h : Dy d a0 a1 a2 = some r),Ctr prog 171 [.ref 0 0,ri a1,.sl false (a2.map Ax)] [(0,.box 259 (Ah a0))] (ru r.1) [(0,.box 259 (Ah r.2))]
  | 0,a0,a1,a2,r,h=>(by cases h)
  | d + 1,a0,a1,a2,r,h=>Ar0 (Dy d) (fun h=>Wg d _ _ _ h) h
abbrev PF:=Ae → Int → (List UInt32) → Option (UInt32 × Ae)
noncomputable def stepR (pf : PF) (x : Cv) (s : Rn × Fra) : Option ((Rn × Fra) ⊕ (Rn × Fra)):=Cz pf x s.1 s.2
noncomputable def callS (pf : PF) (f : Fra) (p : Ar) (e : Be) (fu us : Int) (i : Ap) : Option (Fra × Rn):=
  match p.Fns[i.Imm.toNat]? with
  | none=>some (f,⟨p,e,fu,us,10⟩)
  | some g=>if (i.Imm.toNat : Int) ≤ f.fn then some (f,⟨p,e,fu,us,10⟩)
    else if handE f 0 g.Args.toNat ≠ 0 then some (f,⟨p,e,fu,us,handE f 0 g.Args.toNat⟩)
    else match pf ⟨p,e,fu,us,0⟩ (i.Imm.toNat : Int) (handV f g.Args.toNat) with
      | none=>none
      | some q=>some (backF f q.1,q.2)
theorem callS_is {pf : PF} {f : Fra} {p : Ar} {e : Be} {fu us : Int} {i : Ap} (hp : ProgOk p) : Hk pf f ⟨p,e,fu,us,0⟩ i = callS pf f p e fu us i:=by
  have hl:=hp.len
  have hL : IntKind.u64.wrap (p.Fns.length : Int) = (p.Fns.length : Int):=by rw [IntKind.wrap_u64]; omega
  unfold Hk callS
  simp only [w64u,hL]
  have bad : Fg pf f ⟨p,e,fu,us,0⟩ i true = some (f,⟨p,e,fu,us,10⟩):=by
    simp only [Fg,cond_true,fail_is,po_of]
    rfl
  by_cases h1 : p.Fns.length ≤ i.Imm.toNat
  · have d : decide ((i.Imm.toNat : Int) ≥ (p.Fns.length : Int)) = true:=by simp; omega
    rw [List.getElem?_eq_none h1]
    simp only [d,cond_true,po_of,bad]
  · have d : decide ((i.Imm.toNat : Int) ≥ (p.Fns.length : Int)) = false:=by simp; omega
    obtain ⟨g,hg⟩ : ∃ g,p.Fns[i.Imm.toNat]? = some g:=⟨_,List.getElem?_eq_getElem (by omega)⟩
    rw [hg]
    simp only [d,cond_false,po_of]
    by_cases h2 : (i.Imm.toNat : Int) ≤ f.fn
    · simp only [decide_eq_true h2,bad,if_pos h2]
    · simp only [decide_eq_false h2,if_neg h2,Fg,cond_false,hg,po_of]
      have hgo:=(hp.fns g (List.mem_of_getElem? hg)).args
      obtain ⟨k,hk⟩ : ∃ k : Nat,g.Args = (k : Int):=⟨_,(Int.toNat_of_nonneg hgo.1).symm⟩
      rw [hk]
      simp only [hand_is f p e fu us 0 (show k ≤ 7 by omega),po_of,Int.toNat_natCast]
      by_cases h3 : handE f 0 k = 0
      · have d3 : (handE f 0 k != 0) = false:=by simpa using h3
        simp only [d3,cond_false,if_neg (show ¬ (handE f 0 k ≠ 0) from fun q=>q h3),h3]
        cases pf ⟨p,e,fu,us,0⟩ (i.Imm.toNat : Int) (handV f k) with
        | none=>rfl
        | some q=>
          simp only [po_of,back_is]
          rfl
      · have d3 : (handE f 0 k != 0) = true:=by simpa using h3
        simp only [d3,cond_true,if_pos h3]
theorem step_end {pf : PF} {x : Cv} {r : Rn} {f : Fra} (h : r.err ≠ 0 ∨ f.over = true) : stepR pf x (r,f) = some (.inr (r,f)):=by
  unfold stepR Cz
  by_cases h1 : r.err = 0
  · have d : (r.err == 0) = true:=by simpa using h1
    have ho : f.over = true:=by rcases h with h | h; exact absurd h1 h; exact h
    simp only [d,cond_true,po_of,ho,Bool.not_true,Cy,cond_false]
  · have d : (r.err == 0) = false:=by simpa using h1
    simp only [d,cond_false,po_of,Cy]
theorem step_long {pf : PF} {x : Cv} {p : Ar} {e : Be} {fu : Int} {f : Fra} (ho : f.over = false) : stepR pf x (⟨p,e,fu,fu,0⟩,f) = some (.inl (⟨p,e,fu,fu,2⟩,f)):=by
  unfold stepR Cz
  simp only [show ((0 : Int) == 0) = true from rfl,cond_true,po_of,ho,Bool.not_false,Cy,beq_self_eq_true,fail_is]
  rfl
theorem wUsed {us fu : Int} (h : 0 ≤ us ∧ us < fu) (hf : fu ≤ 1000000) : IntKind.i64.wrap (us + 1) = us + 1:=wrap_i64 (by omega) (by omega)
theorem step_off {pf : PF} {x : Cv} {p : Ar} {e : Be} {fu us : Int} {f : Fra} (ho : f.over = false) (hu : 0 ≤ us ∧ us < fu) (hf : fu ≤ 1000000) (ha : (x.Code.length : Int) ≤ f.at_) :
    stepR pf x (⟨p,e,fu,us,0⟩,f) = some (.inl (⟨p,e,fu,us + 1,10⟩,f)):=by
  unfold stepR Cz
  have d1 : (us == fu) = false:=by simp; omega
  have d2 : decide (f.at_ ≥ (x.Code.length : Int)) = true:=by simp; omega
  simp only [show ((0 : Int) == 0) = true from rfl,cond_true,po_of,ho,Bool.not_false,Cy,d1,d2,cond_false,fail_is,wUsed hu hf]
  rfl
theorem step_op {pf : PF} {x : Cv} {p : Ar} {e : Be} {fu us : Int} {f : Fra} {i : Ap} (ho : f.over = false) (hu : 0 ≤ us ∧ us < fu) (hf : fu ≤ 1000000) (ha : 0 ≤ f.at_ ∧ f.at_ ≤ 64) (hi : x.Code[f.at_.toNat]? = some i)
    (hI : InstOk i) (hF : Fits e.T) (h6 : i.Op ≠ 6) :
    stepR pf x (⟨p,e,fu,us,0⟩,f) = some (.inl (⟨p,(opS f e 0 i).2.1,fu,us + 1,(opS f e 0 i).2.2⟩,atF (opS f e 0 i).1 ((opS f e 0 i).1.at_ + 1))):=by
  have hlt:=get_lt hi
  have hk:=op_keeps f hI hF
  have hw : IntKind.i64.wrap ((opS f e 0 i).1.at_ + 1) = (opS f e 0 i).1.at_ + 1:=wrap_i64 (by have:=hk.at_; omega) (by have:=hk.at_; omega)
  have d1 : (us == fu) = false:=by simp; omega
  have d2 : decide (f.at_ ≥ (x.Code.length : Int)) = false:=by simp; omega
  have hop:=hI.op
  unfold stepR Cz
  simp only [show ((0 : Int) == 0) = true from rfl,cond_true,po_of,ho,Bool.not_false,Cy,d1,d2,cond_false,wUsed hu hf,idx_of ha.1 hi]
  have ne : ∀ k : Int,i.Op ≠ k → (i.Op == k) = false:=fun k h=>by simpa using h
  have eq : ∀ k : Int,i.Op = k → (i.Op == k) = true:=fun k h=>by simpa using h
  have hc : i.Op = 0 ∨ i.Op = 1 ∨ (i.Op = 2 ∨ i.Op = 3 ∨ i.Op = 4) ∨ i.Op = 5 ∨ i.Op = 7:=by omega
  rcases hc with q | q | q | q | q
  · have e1 : opS f e 0 i = ((aluS f 0 i).1,e,(aluS f 0 i).2):=by unfold opS; rw [if_pos q]
    rw [e1] at hw ⊢
    simp only [eq 0 q,cond_true,aluS_is f p e fu _ 0 hI q,po_of,hw]
    rfl
  · have e1 : opS f e 0 i = ((jumpS f 0 i).1,e,(jumpS f 0 i).2):=by unfold opS; rw [if_neg (by omega),if_pos q]
    rw [e1] at hw ⊢
    simp only [ne 0 (by omega),eq 1 q,cond_true,cond_false,jumpS_is f p e fu _ 0 hI (by omega),po_of,hw]
    rfl
  · have e1 : opS f e 0 i = ((wordsS f e.Ctx 0 i).1,e,(wordsS f e.Ctx 0 i).2):=by unfold opS; rw [if_neg (by omega),if_neg (by omega),if_neg (by omega),if_neg (by omega)]
    rw [e1] at hw ⊢
    rcases q with q' | q' | q'
    · simp only [ne 0 (by omega),ne 1 (by omega),eq 2 q',cond_true,cond_false,wordsS_is f p e fu _ 0 hI (.inl q'),po_of,hw]
      rfl
    · simp only [ne 0 (by omega),ne 1 (by omega),ne 2 (by omega),eq 3 q',cond_true,cond_false,wordsS_is f p e fu _ 0 hI (.inr (.inl q')),po_of,hw]
      rfl
    · simp only [ne 0 (by omega),ne 1 (by omega),ne 2 (by omega),ne 3 (by omega),eq 4 q',cond_true,cond_false,wordsS_is f p e fu _ 0 hI (.inr (.inr q')),po_of,hw]
      rfl
  · have e1 : opS f e 0 i = helpS f e 0 i:=by unfold opS; rw [if_neg (by omega),if_neg (by omega),if_pos q]
    rw [e1] at hw ⊢
    simp only [ne 0 (by omega),ne 1 (by omega),ne 2 (by omega),ne 3 (by omega),ne 4 (by omega),eq 5 q,cond_true,cond_false,helpS_is f p e fu _ 0 i hF,po_of,hw]
    rfl
  · have e1 : opS f e 0 i = ((exitS f 0).1,e,(exitS f 0).2):=by unfold opS; rw [if_neg (by omega),if_neg (by omega),if_neg (by omega),if_pos q]
    rw [e1] at hw ⊢
    simp only [ne 0 (by omega),ne 1 (by omega),ne 2 (by omega),ne 3 (by omega),ne 4 (by omega),ne 5 (by omega),ne 6 (by omega),eq 7 q,cond_true,cond_false,exitS_is f p e fu _ 0 i,po_of,hw]
    rfl
theorem step_call {pf : PF} {x : Cv} {p : Ar} {e : Be} {fu us : Int} {f f' : Fra} {r' : Rn} {i : Ap} (ho : f.over = false) (hu : 0 ≤ us ∧ us < fu) (hf : fu ≤ 1000000) (ha : 0 ≤ f.at_ ∧ f.at_ ≤ 64) (hi : x.Code[f.at_.toNat]? = some i)
    (hp : ProgOk p) (h6 : i.Op = 6) (hc : callS pf f p e fu (us + 1) i = some (f',r')) (hat : f'.at_ = f.at_) :
    stepR pf x (⟨p,e,fu,us,0⟩,f) = some (.inl (r',atF f' (f.at_ + 1))):=by
  have hlt:=get_lt hi
  have hw : IntKind.i64.wrap (f.at_ + 1) = f.at_ + 1:=wrap_i64 (by omega) (by omega)
  have d1 : (us == fu) = false:=by simp; omega
  have d2 : decide (f.at_ ≥ (x.Code.length : Int)) = false:=by simp; omega
  unfold stepR Cz
  simp only [show ((0 : Int) == 0) = true from rfl,cond_true,po_of,ho,Bool.not_false,Cy,d1,d2,cond_false,wUsed hu hf,idx_of ha.1 hi]
  have ne : ∀ k : Int,i.Op ≠ k → (i.Op == k) = false:=fun k h=>by simpa using h
  have eq : (i.Op == 6) = true:=by simpa using h6
  simp only [ne 0 (by omega),ne 1 (by omega),ne 2 (by omega),ne 3 (by omega),ne 4 (by omega),ne 5 (by omega),eq,cond_true,cond_false,callS_is hp,hc,po_of,hat,hw]
  rfl
def putsF (f : Fra) : Nat → List UInt32 → Fra
  | _,[]=>f
  | n,v :: l=>putsF (putF f (n + 1) v) (n + 1) l
def newF (fn : Int) : Fra:=⟨fn,0,⟨0,0,0,0,0,0,0,0⟩,⟨false,false,false,false,false,false,false,false⟩,⟨0,0,0,0,0,0,0,0,0,0,0,0,0,0,0,0⟩,false⟩
theorem putsF_same (f : Fra) (n : Nat) (l : List UInt32) : (putsF f n l).fn = f.fn ∧ (putsF f n l).at_ = f.at_ ∧ (putsF f n l).over = f.over:=by
  induction l generalizing f n with
  | nil=>exact ⟨rfl,rfl,rfl⟩
  | cons v l ih=>exact ih (putF f (n + 1) v) (n + 1)
theorem args_is' (r : Rn) (f : Fra) (a : List UInt32) (h : a.length ≤ 7) : lpU (fun x=>Dr a x.1 x.2.1 x.2.2) (r,f,0) = some (r,putsF f 0 a):=by
  have key : ∀ (l : List UInt32) (n : Nat) (g : Fra),a.drop n = l → n + l.length = a.length → lpU (fun x=>Dr a x.1 x.2.1 x.2.2) (r,g,(n : Int)) = some (r,putsF g n l):=by
    intro l
    induction l with
    | nil=>
      intro n g hd hn
      refine lpU_inr ?_
      have d : decide ((n : Int) < (a.length : Int)) = false:=by simp at hn; simp; omega
      simp only [Dr,d,cond_false]
      rfl
    | cons v l ih=>
      intro n g hd hn
      simp only [List.length_cons] at hn
      have d : decide ((n : Int) < (a.length : Int)) = true:=by simp; omega
      have hv : a[n]? = some v:=by
        have:=congrArg (fun q=>q[0]?) hd
        simpa using this
      rw [lpU_inl (s':=(r,putF g (n + 1) v,((n + 1 : Nat) : Int)))]
      · exact ih (n + 1) _ (by rw [← List.drop_drop,hd]; rfl) (by omega)
      · simp only [Dr,d,cond_true,idx_nat,hv,po_of,w64 (show n < 9223372036854775807 by omega),put_is' g r (show 0 ≤ ((n + 1 : Nat) : Int) ∧ ((n + 1 : Nat) : Int) < 8 by omega),Int.toNat_natCast]
  exact key a 0 f rfl (by simp)
theorem frame_is {pf : PF} {r : Rn} {fn : Int} {a : List UInt32} {x : Cv} (ha : a.length ≤ 7) (h0 : 0 ≤ fn) (hx : r.p.Fns[fn.toNat]? = some x) :
    Ej pf r fn a = po (lpU (stepR pf x) (r,putsF (newF fn) 0 a)) (fun q=>some (q.2.regs.a0,q.1)):=by
  unfold Ej
  have e:=args_is' r (newF fn) a ha
  unfold newF at e
  rw [e]
  simp only [po_of,Fd,idx_of h0 hx]
  rfl
structure SI (P : Ar) (FU : Int) (FN : Int) (e0 : Be) (u0 : Int) (s : Rn × Fra) : Prop where
  p : s.1.p = P
  fu : s.1.fuel = FU
  us : u0 ≤ s.1.used ∧ s.1.used ≤ FU
  e : EKeep e0 s.1.e
  err : s.1.err = 0 ∨ s.1.err = 2 ∨ s.1.err = 10
  long : s.1.err = 2 → s.1.used = FU
  fn : s.2.fn = FN
  at_ : 0 ≤ s.2.at_ ∧ s.2.at_ ≤ 70000
structure FnPost (r r' : Rn) : Prop where
  p : r'.p = r.p
  fu : r'.fuel = r.fuel
  us : r.used ≤ r'.used ∧ r'.used ≤ r.fuel
  e : EKeep r.e r'.e
  err : r'.err = 0 ∨ r'.err = 2 ∨ r'.err = 10
  long : r'.err = 2 → r'.used = r.fuel
structure FnPre (P : Ar) (r : Rn) (FN : Int) (A : List UInt32) : Prop where
  p : r.p = P
  us : 0 ≤ r.used ∧ r.used ≤ r.fuel
  fu : r.fuel ≤ 1000000
  e : Fits r.e.T
  err : r.err = 0
  fn : 0 ≤ FN ∧ FN < (P.Fns.length : Int)
  a : A.length ≤ 7
def PfOk (p : Ar) (pf : PF) (fn : Int) : Prop:=∀ r k a,fn < k → FnPre p r k a → ∃ v r',pf r k a = some (v,r') ∧ FnPost r r'
inductive Rnd (pf : PF) (x : Cv) (p : Ar) (e : Be) (fu us : Int) (f : Fra) : Rn → Fra → Prop where
  | long (h : us = fu) : Rnd pf x p e fu us f ⟨p,e,fu,fu,2⟩ f
  | off (h : us < fu) (ha : (x.Code.length : Int) ≤ f.at_) : Rnd pf x p e fu us f ⟨p,e,fu,us + 1,10⟩ f
  | op (h : us < fu) (i : Ap) (ha : f.at_ < (x.Code.length : Int)) (hi : x.Code[f.at_.toNat]? = some i) (h6 : i.Op ≠ 6) : Rnd pf x p e fu us f ⟨p,(opS f e 0 i).2.1,fu,us + 1,(opS f e 0 i).2.2⟩ (atF (opS f e 0 i).1 ((opS f e 0 i).1.at_ + 1))
  | fail (h : us < fu) (i : Ap) (ha : f.at_ < (x.Code.length : Int)) (hi : x.Code[f.at_.toNat]? = some i) (h6 : i.Op = 6) (hc : ∀ (pf' : PF) (e' : Be) (fu' us' : Int),callS pf' f p e' fu' us' i = some (f,⟨p,e',fu',us',10⟩)) :
      Rnd pf x p e fu us f ⟨p,e,fu,us + 1,10⟩ (atF f (f.at_ + 1))
  | call (h : us < fu) (i : Ap) (g : Cv) (v : UInt32) (r' : Rn) (ha : f.at_ < (x.Code.length : Int)) (hi : x.Code[f.at_.toNat]? = some i) (h6 : i.Op = 6) (hg : p.Fns[i.Imm.toNat]? = some g) (hfn : f.fn < (i.Imm.toNat : Int)) (he : handE f 0 g.Args.toNat = 0)
      (hc : pf ⟨p,e,fu,us + 1,0⟩ (i.Imm.toNat : Int) (handV f g.Args.toNat) = some (v,r')) : Rnd pf x p e fu us f r' (atF (backF f v) (f.at_ + 1))
theorem callS_go {pf : PF} {f : Fra} {p : Ar} {e : Be} {fu us : Int} {i : Ap} {g : Cv} {v : UInt32} {r' : Rn} (hg : p.Fns[i.Imm.toNat]? = some g) (hfn : f.fn < (i.Imm.toNat : Int)) (he : handE f 0 g.Args.toNat = 0)
    (hc : pf ⟨p,e,fu,us,0⟩ (i.Imm.toNat : Int) (handV f g.Args.toNat) = some (v,r')) : callS pf f p e fu us i = some (backF f v,r'):=by
  unfold callS
  rw [hg]
  simp only
  rw [if_neg (by omega),if_neg (by rw [he]; simp),hc]
theorem backF_at (f : Fra) (v : UInt32) : (backF f v).fn = f.fn ∧ (backF f v).at_ = f.at_:=clrF_at (putF f 0 v) 5
theorem callPre {p : Ar} {e : Be} {fu us : Int} {f : Fra} {i : Ap} {g : Cv} (hp : ProgOk p) (hF : Fits e.T) (hu : 0 ≤ us ∧ us < fu) (hf : fu ≤ 1000000) (hg : p.Fns[i.Imm.toNat]? = some g) : FnPre p ⟨p,e,fu,us + 1,0⟩ (i.Imm.toNat : Int) (handV f g.Args.toNat):=
  ⟨rfl,⟨by show 0 ≤ us + 1; omega,by show us + 1 ≤ fu; omega⟩,hf,hF,rfl,⟨by omega,by have:=get_lt hg; omega⟩,by
    rw [handV_len]
    have:=(hp.fns g (List.mem_of_getElem? hg)).args
    omega⟩
theorem round {pf : PF} {p : Ar} {fn : Int} {x : Cv} (hp : ProgOk p) (hx : FnOk x) (hpf : PfOk p pf fn) {e : Be} {fu us : Int} {f : Fra} (ho : f.over = false) (hu : 0 ≤ us ∧ us ≤ fu) (hf : fu ≤ 1000000) (hat : 0 ≤ f.at_) (hfn : f.fn = fn) (h0 : 0 ≤ fn) (hF : Fits e.T) :
    ∃ r' f',stepR pf x (⟨p,e,fu,us,0⟩,f) = some (.inl (r',f')) ∧ Rnd pf x p e fu us f r' f':=by
  by_cases h1 : us = fu
  · subst h1
    exact ⟨_,_,step_long ho,.long rfl⟩
  have hlt : us < fu:=by omega
  by_cases h2 : (x.Code.length : Int) ≤ f.at_
  · exact ⟨_,_,step_off ho ⟨hu.1,hlt⟩ hf h2,.off hlt h2⟩
  have hl:=hx.len
  obtain ⟨i,hi⟩ : ∃ i,x.Code[f.at_.toNat]? = some i:=⟨_,List.getElem?_eq_getElem (by omega)⟩
  have hI:=hx.code i (List.mem_of_getElem? hi)
  by_cases h6 : i.Op = 6
  case neg=>exact ⟨_,_,step_op ho ⟨hu.1,hlt⟩ hf ⟨hat,by omega⟩ hi hI hF h6,.op hlt i (by omega) hi h6⟩
  have bad : (∀ (pf' : PF) (e' : Be) (fu' us' : Int),callS pf' f p e' fu' us' i = some (f,⟨p,e',fu',us',10⟩)) → ∃ r' f',stepR pf x (⟨p,e,fu,us,0⟩,f) = some (.inl (r',f')) ∧ Rnd pf x p e fu us f r' f':=fun hb=>
    ⟨_,_,step_call ho ⟨hu.1,hlt⟩ hf ⟨hat,by omega⟩ hi hp h6 (hb _ _ _ _) rfl,.fail hlt i (by omega) hi h6 hb⟩
  cases hg : p.Fns[i.Imm.toNat]? with
  | none=>exact bad fun pf' e' fu' us'=>by unfold callS; rw [hg]
  | some g=>
    by_cases h7 : (i.Imm.toNat : Int) ≤ f.fn
    · exact bad fun pf' e' fu' us'=>by unfold callS; rw [hg]; simp only; rw [if_pos h7]
    · by_cases h8 : handE f 0 g.Args.toNat = 0
      · obtain ⟨v,r',hc,_⟩:=hpf _ _ _ (by omega) (callPre (f:=f) hp hF ⟨hu.1,hlt⟩ hf hg)
        exact ⟨_,_,step_call ho ⟨hu.1,hlt⟩ hf ⟨hat,by omega⟩ hi hp h6 (callS_go hg (by omega) h8 hc) (backF_at f v).2,.call hlt i g v r' (by omega) hi h6 hg (by omega) h8 hc⟩
      · have h10 : handE f 0 g.Args.toNat = 10:=by
          rcases handE_or (f:=f) (n:=g.Args.toNat) (err:=0) (.inl rfl) with q | q
          · exact absurd q h8
          · exact q
        exact bad fun pf' e' fu' us'=>by unfold callS; rw [hg]; simp only; rw [if_neg h7,if_pos h8,h10]
theorem rnd_keeps {pf : PF} {p : Ar} {fn : Int} {x : Cv} (hp : ProgOk p) (hx : FnOk x) (hpf : PfOk p pf fn) {e e0 : Be} {fu us u0 : Int} {f f' : Fra} {r' : Rn} (h : SI p fu fn e0 u0 (⟨p,e,fu,us,0⟩,f)) (h0 : 0 ≤ u0) (hf : fu ≤ 1000000) (hr : Rnd pf x p e fu us f r' f') : SI p fu fn e0 u0 (r',f') ∧ (us < r'.used ∨ (us = fu ∧ r'.used = fu ∧ r'.err = 2)):=by
  have hus : u0 ≤ us ∧ us ≤ fu:=h.us
  have hE : EKeep e0 e:=h.e
  have hat : 0 ≤ f.at_ ∧ f.at_ ≤ 70000:=h.at_
  have hfn : f.fn = fn:=h.fn
  have hl:=hx.len
  cases hr with
  | long h1=>exact ⟨⟨rfl,rfl,⟨by show u0 ≤ fu; omega,Int.le_refl _⟩,hE,.inr (.inl rfl),fun _=>rfl,hfn,hat⟩,.inr ⟨h1,rfl,rfl⟩⟩
  | off h1 h2=>exact ⟨⟨rfl,rfl,⟨by show u0 ≤ us + 1; omega,by show us + 1 ≤ fu; omega⟩,hE,.inr (.inr rfl),fun q=>absurd (show (10 : Int) = 2 from q) (by decide),hfn,hat⟩,.inl (by show us < us + 1; omega)⟩
  | op h1 i ha hi h6=>
    have hk:=op_keeps f (hx.code i (List.mem_of_getElem? hi)) hE.fits
    have hka:=hk.at_
    refine ⟨⟨rfl,rfl,⟨by show u0 ≤ us + 1; omega,by show us + 1 ≤ fu; omega⟩,hE.trans hk.e,?_,fun q=>?_,hk.fn.trans hfn,?_⟩,.inl (by show us < us + 1; omega)⟩
    · rcases hk.err with q | q
      · exact .inl q
      · exact .inr (.inr q)
    · have q' : (opS f e 0 i).2.2 = 2:=q
      rcases hk.err with q2 | q2
      · rw [q2] at q'; exact absurd q' (by decide)
      · rw [q2] at q'; exact absurd q' (by decide)
    · show 0 ≤ (opS f e 0 i).1.at_ + 1 ∧ (opS f e 0 i).1.at_ + 1 ≤ 70000
      omega
  | fail h1 i ha hi h6 hc=>exact ⟨⟨rfl,rfl,⟨by show u0 ≤ us + 1; omega,by show us + 1 ≤ fu; omega⟩,hE,.inr (.inr rfl),fun q=>absurd (show (10 : Int) = 2 from q) (by decide),hfn,by show 0 ≤ f.at_ + 1 ∧ f.at_ + 1 ≤ 70000; omega⟩,.inl (by show us < us + 1; omega)⟩
  | call h1 i g v _ ha hi h6 hg hlt he hc=>
    obtain ⟨v',r2,hc',hP⟩:=hpf _ _ _ (by omega) (callPre (f:=f) hp hE.fits ⟨by omega,h1⟩ hf hg)
    rw [hc] at hc'
    injection hc' with hc'
    injection hc' with _ hc'
    subst hc'
    have hPu : us + 1 ≤ r'.used ∧ r'.used ≤ fu:=hP.us
    exact ⟨⟨hP.p,hP.fu,⟨by show u0 ≤ r'.used; omega,hPu.2⟩,hE.trans hP.e,hP.err,hP.long,(backF_at f v).1.trans hfn,by show 0 ≤ f.at_ + 1 ∧ f.at_ + 1 ≤ 70000; omega⟩,.inl (by show us < r'.used; omega)⟩
theorem run_eta (r : Rn) (p : Ar) (fu : Int) (h1 : r.p = p) (h2 : r.fuel = fu) (h3 : r.err = 0) : r = ⟨p,r.e,fu,r.used,0⟩:=by
  obtain ⟨a,b,c,d,e⟩:=r
  simp only at h1 h2 h3
  subst h1
  subst h2
  subst h3
  rfl
def muR (fu : Int) (s : Rn × Fra) : Nat:=(fu - s.1.used).toNat * 2 + (if s.1.err = 0 then 1 else 0)
theorem mu_less {p : Ar} {fu fn u0 us : Int} {e0 e : Be} {f f' : Fra} {r' : Rn} (hS : SI p fu fn e0 u0 (r',f')) (hus : us ≤ fu) (h : us < r'.used ∨ (us = fu ∧ r'.used = fu ∧ r'.err = 2)) : muR fu (r',f') < muR fu ((⟨p,e,fu,us,0⟩ : Rn),f):=by
  have h2 : r'.used ≤ fu:=hS.us.2
  unfold muR
  simp only [if_true]
  rcases h with h | ⟨h1,h3,h4⟩
  · split <;> omega
  · rw [h4,if_neg (by decide)]
    omega
theorem loop_tells {pf : PF} {p : Ar} {fn : Int} {x : Cv} (hp : ProgOk p) (hx : FnOk x) (hpf : PfOk p pf fn) (hfn : 0 ≤ fn) {fu u0 : Int} {e0 : Be} (h0 : 0 ≤ u0) (hf : fu ≤ 1000000) (s : Rn × Fra) (h : SI p fu fn e0 u0 s) :
    ∃ q,lpU (stepR pf x) s = some q ∧ SI p fu fn e0 u0 q ∧ (q.1.err ≠ 0 ∨ q.2.over = true):=by
  refine lp_inv (SI p fu fn e0 u0) (muR fu) (fun q=>SI p fu fn e0 u0 q ∧ (q.1.err ≠ 0 ∨ q.2.over = true)) ?_ s h
  rintro ⟨r,f⟩ hS
  by_cases he : r.err ≠ 0 ∨ f.over = true
  · exact .inr ⟨_,step_end he,hS,he⟩
  · left
    have he1 : r.err = 0:=by
      by_cases q : r.err = 0
      · exact q
      · exact absurd (.inl q) he
    have ho : f.over = false:=by
      cases q : f.over with
      | false=>rfl
      | true=>exact absurd (.inr q) he
    have hus : u0 ≤ r.used ∧ r.used ≤ fu:=hS.us
    have eta:=run_eta r p fu hS.p hS.fu he1
    generalize r.e = e at eta
    generalize r.used = us at eta hus
    subst eta
    obtain ⟨r',f',h1,h2⟩:=round hp hx hpf (e:=e) ho ⟨by omega,hus.2⟩ hf hS.at_.1 hS.fn hfn hS.e.fits
    obtain ⟨h3,h4⟩:=rnd_keeps hp hx hpf hS h0 hf h2
    exact ⟨_,h1,h3,mu_less h3 hus.2 h4⟩
theorem si_new {p : Ar} {r : Rn} {fn : Int} {a : List UInt32} (h : FnPre p r fn a) : SI p r.fuel fn r.e r.used (r,putsF (newF fn) 0 a):=by
  obtain ⟨h1,h2,h3⟩:=putsF_same (newF fn) 0 a
  exact ⟨h.p,rfl,⟨Int.le_refl _,h.us.2⟩,.refl h.e,.inl h.err,fun q=>by rw [h.err] at q; exact absurd q (by decide),h1,by
    show 0 ≤ (putsF (newF fn) 0 a).at_ ∧ _
    rw [h2]
    exact ⟨Int.le_refl 0,by show (0 : Int) ≤ 70000; decide⟩⟩
theorem si_post {p : Ar} {r : Rn} {fn : Int} {q : Rn × Fra} (hp : r.p = p) (h : SI p r.fuel fn r.e r.used q) : FnPost r q.1:=⟨h.p.trans hp.symm,h.fu,h.us,h.e,h.err,h.long⟩
theorem frame_tells {p : Ar} (hp : ProgOk p) : ∀ (d : Nat) {fn : Int},(p.Fns.length : Int) - fn ≤ (d : Int) → ∀ r a,FnPre p r fn a → ∃ v r',Dy d r fn a = some (v,r') ∧ FnPost r r':=by
  intro d
  induction d with
  | zero=>intro fn hd r a h; have:=h.fn; omega
  | succ d ih=>
    intro fn hd r a h
    have hpf : PfOk p (Dy d) fn:=fun r k a hk hpre=>ih (by omega) r a hpre
    obtain ⟨x,hx⟩ : ∃ x,p.Fns[fn.toNat]? = some x:=⟨_,List.getElem?_eq_getElem (by have:=h.fn; omega)⟩
    have hxo:=hp.fns x (List.mem_of_getElem? hx)
    obtain ⟨q,h1,h2,_⟩:=loop_tells hp hxo hpf h.fn.1 h.us.1 h.fu _ (si_new h)
    refine ⟨q.2.regs.a0,q.1,?_,si_post h.p h2⟩
    show Ej (Dy d) r fn a = _
    rw [frame_is h.a h.fn.1 (by rw [h.p]; exact hx),h1]
    rfl
noncomputable def Mw (r7 : (List Bd)) (s_48 : Be) (s_49 : Am) (i_50 : Int) : Option ((Be × Am × Int) ⊕ (Be × Am)):=
  cond (decide (i_50 < (r7.length : Int))) (
  po (idx s_49.E i_50) fun x11=>
  po (Cw x11.V) fun r12=>
  pl (s_49.E.set i_50.toNat (Bd.mk x11.Key r12)) fun y13=>
  some (Sum.inl (s_48,(Am.mk s_49.S y13 s_49.Next),(IntKind.i64.wrap (i_50 + 1))))) (
  some (Sum.inr (s_48,s_49)))
noncomputable def Py (i_19 : Int) (s_54 : Be) (s_55 : Am) : Option (Be):=
  po (idx s_54.T i_19) fun x14=>
  pl (s_54.T.set i_19.toNat s_55) fun y15=>
  some (Be.mk s_54.Ctx y15 s_54.Seed)
noncomputable def Pw (i_19 : Int) (s_28 : Be) : Option ((Be × Int) ⊕ (Be)):=
  some (Sum.inl (s_28,(IntKind.i64.wrap (i_19 + 1))))
noncomputable def Jq (r1 : (List Am)) (s_18 : Be) (i_19 : Int) : Option ((Be × Int) ⊕ (Be)):=
  cond (decide (i_19 < (r1.length : Int))) (
  po (
  po (idx s_18.T i_19) fun x6=>
  po (Cn x6.E) fun r7=>
  po (
  lpU (fun x=>Mw r7 x.1 x.2.1 x.2.2) (s_18,(Am.mk x6.S r7 x6.Next),0)) (fun x=>Py i_19 x.1 x.2)) (fun x=>Pw i_19 x)) (
  some (Sum.inr s_18))
noncomputable def Om (r26 : UInt32 × Ae) (i_60 : UInt32) : Option (Jm):=
  some (Jm.mk i_60 r26.2.e r26.2.used r26.2.err)
noncomputable def Gw (a0 : Ar) (a1 : Int) (a3 : Int) (a4 : (List UInt32)) (s_58 : Be) (i_59 : Bool) : Option (Jm):=
  cond i_59 (
  some (Jm.mk 0 s_58 0 3)) (
  po (Dy 9 (Ae.mk a0 s_58 a3 0 0) a1 a4) fun r26=>
  po (
  cond (r26.2.err != 0) (
  some 0) (
  some r26.1)) (fun x=>Om r26 x))
noncomputable def Hb (a0 : Ar) (a1 : Int) (a3 : Int) (a4 : (List UInt32)) (s_56 : Be) (i_57 : Bool) : Option (Jm):=
  cond i_57 (
  some (Jm.mk 0 s_56 0 1)) (
  po (
  cond (decide (a1 < 0)) (
  some (s_56,(decide (a1 < 0)))) (
  cond (decide (a1 ≥ (a0.Fns.length : Int))) (
  some (s_56,(decide (a1 ≥ (a0.Fns.length : Int))))) (
  po (idx a0.Fns a1) fun x24=>
  some (s_56,((a4.length : Int) != x24.Args))))) (fun x=>Gw a0 a1 a3 a4 x.1 x.2))
noncomputable def Hq (a0 : Ar) (a1 : Int) (a3 : Int) (a4 : (List UInt32)) (s_47 : Be) : Option (Jm):=
  po (
  po (Ja a0) fun r17=>
  cond (!r17) (
  some (s_47,(!r17))) (
  cond (decide (a3 < 0)) (
  some (s_47,(decide (a3 < 0)))) (
  some (s_47,(decide (a3 > 100000)))))) (fun x=>Hb a0 a1 a3 a4 x.1 x.2)
noncomputable def Gf (a0 : Ar) (a1 : Int) (a2 : Be) (a3 : Int) (a4 : (List UInt32)) : Option (Jm):=
  po (De a2.T) fun r1=>
  po (
  lpU (fun x=>Jq r1 x.1 x.2) ((Be.mk a2.Ctx r1 a2.Seed),0)) (fun x=>Hq a0 a1 a3 a4 x)
theorem Fc0 {a0 : Ar} {a1 : Int} {a2 : Be} {a3 : Int} {a4 : (List UInt32)} {r : Jm} (h : Gf a0 a1 a2 a3 a4 = some r) : Ctr prog 125 [.agg (Ey a0),ri a1,.agg (Uk a2),ri a3,.sl false (a4.map Ax)] [] (.agg (Xf r)) []:=by
 unfold Gf at h;refine Ctr.ofW Bb func125 rfl call125 0 _ ntmps125 [.cell 10 162] rfl rfl rfl (fun B=>?_);refine vs [1,3,4,5,7,10] fun _ k=>?_;push_cast;apply k;clear k;obtain ⟨r1,hr1,h⟩:=Aa h;refine vs [1,3,4,5,7,10] fun _ k=>?_;push_cast;refine ch (H:=[]) (Ctr.loH (Ctr.ren (Bij.swp 0 5 Bij.id) (Lo hr1) (by push_cast) (by push_cast))) (by push_cast) ?_;push_cast;apply k;clear k;refine VC.sub (s':=⟨[(1,ri a1),(3,ri a3),(4,.sl false (a4.map Ax)),(5,.ref 0 0),(7,.ref 1 0),(10,.ref 2 0)],[(0,.box 56 [.sl false (a0.Fns.map Al)]),(1,.box 29 [ru a2.Ctx.a0,ru a2.Ctx.a1,ru a2.Ctx.a2,ru a2.Ctx.a3,.row 5 0 6 0 r1.length,ru a2.Seed]),(2,.box 162 [.raw (.int .u32 0),.raw (.int .u32 0),.raw (.int .u32 0),.raw (.int .u32 0),.raw (.int .u32 0),.sl true [],.raw (.int .u32 0),ri 0,ri 0]),(5,.row 53 6 0 (r1.map Ba))],8,114,0⟩) (so (by push_cast)) ?_;refine vj h (fun x=>⟨[(1,ri a1),(3,ri a3),(4,.sl false (a4.map Ax)),(5,.ref 0 0),(7,.ref 1 0),(10,.ref 2 0)],[(0,.box 56 [.sl false (a0.Fns.map Al)]),(1,.box 29 [ru x.Ctx.a0,ru x.Ctx.a1,ru x.Ctx.a2,ru x.Ctx.a3,.row 5 0 6 0 x.T.length,ru x.Seed]),(2,.box 162 [.raw (.int .u32 0),.raw (.int .u32 0),.raw (.int .u32 0),.raw (.int .u32 0),.raw (.int .u32 0),.sl true [],.raw (.int .u32 0),ri 0,ri 0]),(5,.row 53 6 0 (x.T.map Ba))],56,114,0⟩) (fun v2 h hk2=>?_) ?_
 ·refine vs [1,3,4,5,7,10,21,22,23] fun _ k=>?_;push_cast;apply k;clear k;refine VC.block ?_;refine VC.loopP h (fun x=>⟨[(1,ri a1),(3,ri a3),(4,.sl false (a4.map Ax)),(5,.ref 0 0),(7,.ref 1 0),(10,.ref 2 0),(21,.row 5 0 6 0 x.1.T.length),(22,ri (r1.length : Int)),(23,ri x.2)],[(0,.box 56 [.sl false (a0.Fns.map Al)]),(1,.box 29 [ru x.1.Ctx.a0,ru x.1.Ctx.a1,ru x.1.Ctx.a2,ru x.1.Ctx.a3,.row 5 0 6 0 x.1.T.length,ru x.1.Seed]),(2,.box 162 [.raw (.int .u32 0),.raw (.int .u32 0),.raw (.int .u32 0),.raw (.int .u32 0),.raw (.int .u32 0),.sl true [],.raw (.int .u32 0),ri 0,ri 0]),(5,.row 53 6 0 (x.1.T.map Ba))],55,114,0⟩) ?_ ?_
  ·exact so (by push_cast)
  rintro ⟨s_18,i_19⟩ b3 (h : Jq r1 s_18 i_19 = some b3) hf3;(try push_cast);unfold Jq at h;refine vs [1,3,4,5,7,10,21,22,23,24] fun _ k=>?_;push_cast;apply k;clear k;refine VC.seq ?_;refine vc h (fun hb4 h=>?_) (fun hb4 h=>?_)
  ·refine VC.skip ?_;refine vj h (fun x=>⟨[(1,ri a1),(3,ri a3),(4,.sl false (a4.map Ax)),(5,.ref 0 0),(7,.ref 1 0),(10,.ref 2 0),(21,.row 5 0 6 0 x.T.length),(22,ri (r1.length : Int)),(23,ri i_19)],[(0,.box 56 [.sl false (a0.Fns.map Al)]),(1,.box 29 [ru x.Ctx.a0,ru x.Ctx.a1,ru x.Ctx.a2,ru x.Ctx.a3,.row 5 0 6 0 x.T.length,ru x.Seed]),(2,.box 162 [.raw (.int .u32 0),.raw (.int .u32 0),.raw (.int .u32 0),.raw (.int .u32 0),.raw (.int .u32 0),.sl true [],.raw (.int .u32 0),ri 0,ri 0]),(5,.row 53 6 0 (x.T.map Ba))],96,114,0⟩) (fun v5 h hk5=>?_) ?_
   ·refine VC.block ?_;obtain ⟨x6,hx6,h⟩:=Aa h;replace hx6:=Bh hx6;refine vs [1,3,4,5,7,10,11,12,21,22,23] fun _ k=>?_;push_cast [hx6];(repeat refine ao ?_);apply k;clear k;obtain ⟨r7,hr7,h⟩:=Aa h;refine vs [1,3,4,5,7,10,11,12,21,22,23] fun _ k=>?_;push_cast;refine ch (H:=[]) (Ctr.loH (Ctr.ren (Bij.swp 0 64 Bij.id) (Ha hr7) (by push_cast) (by push_cast))) (by push_cast) ?_;push_cast;apply k;clear k;refine VC.sub (s':=⟨[(1,ri a1),(3,ri a3),(4,.sl false (a4.map Ax)),(5,.ref 0 0),(7,.ref 1 0),(10,.ref 2 0),(11,ri i_19),(12,.ref 59 0),(21,.row 5 0 6 0 s_18.T.length),(22,ri (r1.length : Int)),(23,ri i_19)],[(0,.box 56 [.sl false (a0.Fns.map Al)]),(1,.box 29 [ru s_18.Ctx.a0,ru s_18.Ctx.a1,ru s_18.Ctx.a2,ru s_18.Ctx.a3,.row 5 0 6 0 s_18.T.length,ru s_18.Seed]),(2,.box 162 [.raw (.int .u32 0),.raw (.int .u32 0),.raw (.int .u32 0),.raw (.int .u32 0),.raw (.int .u32 0),.sl true [],.raw (.int .u32 0),ri 0,ri 0]),(5,.row 53 6 0 (s_18.T.map Ba)),(59,.box 53 [ri x6.S.Kind,ri x6.S.Cap,ri x6.S.Words,ri x6.S.Ver,.row 64 0 2 0 r7.length,ru x6.Next]),(64,.row 66 2 0 (r7.map Aq))],67,114,0⟩) (so (by push_cast [hb4])) ?_;refine vj h (fun x=>⟨[(1,ri a1),(3,ri a3),(4,.sl false (a4.map Ax)),(5,.ref 0 0),(7,.ref 1 0),(10,.ref 2 0),(11,ri i_19),(12,.ref 59 0),(21,.row 5 0 6 0 x.1.T.length),(22,ri (r1.length : Int)),(23,ri i_19)],[(0,.box 56 [.sl false (a0.Fns.map Al)]),(1,.box 29 [ru x.1.Ctx.a0,ru x.1.Ctx.a1,ru x.1.Ctx.a2,ru x.1.Ctx.a3,.row 5 0 6 0 x.1.T.length,ru x.1.Seed]),(2,.box 162 [.raw (.int .u32 0),.raw (.int .u32 0),.raw (.int .u32 0),.raw (.int .u32 0),.raw (.int .u32 0),.sl true [],.raw (.int .u32 0),ri 0,ri 0]),(5,.row 53 6 0 (x.1.T.map Ba)),(59,.box 53 [ri x.2.S.Kind,ri x.2.S.Cap,ri x.2.S.Words,ri x.2.S.Ver,.row 64 0 2 0 x.2.E.length,ru x.2.Next]),(64,.row 66 2 0 (x.2.E.map Aq))],90,114,0⟩) (fun v8 h hk8=>?_) ?_
    ·refine vs [1,3,4,5,7,10,11,12,21,22,23,34,35] fun _ k=>?_;push_cast;apply k;clear k;refine VC.block ?_;refine VC.loopP h (fun x=>⟨[(1,ri a1),(3,ri a3),(4,.sl false (a4.map Ax)),(5,.ref 0 0),(7,.ref 1 0),(10,.ref 2 0),(11,ri i_19),(12,.ref 59 0),(21,.row 5 0 6 0 x.1.T.length),(22,ri (r1.length : Int)),(23,ri i_19),(34,ri (r7.length : Int)),(35,ri x.2.2)],[(0,.box 56 [.sl false (a0.Fns.map Al)]),(1,.box 29 [ru x.1.Ctx.a0,ru x.1.Ctx.a1,ru x.1.Ctx.a2,ru x.1.Ctx.a3,.row 5 0 6 0 x.1.T.length,ru x.1.Seed]),(2,.box 162 [.raw (.int .u32 0),.raw (.int .u32 0),.raw (.int .u32 0),.raw (.int .u32 0),.raw (.int .u32 0),.sl true [],.raw (.int .u32 0),ri 0,ri 0]),(5,.row 53 6 0 (x.1.T.map Ba)),(59,.box 53 [ri x.2.1.S.Kind,ri x.2.1.S.Cap,ri x.2.1.S.Words,ri x.2.1.S.Ver,.row 64 0 2 0 x.2.1.E.length,ru x.2.1.Next]),(64,.row 66 2 0 (x.2.1.E.map Aq))],89,114,0⟩) ?_ ?_
     ·exact so (by push_cast [hb4])
     rintro ⟨s_48,s_49,i_50⟩ b9 (h : Mw r7 s_48 s_49 i_50 = some b9) hf9;(try push_cast);unfold Mw at h;refine vs [1,3,4,5,7,10,11,12,21,22,23,34,35,36] fun _ k=>?_;push_cast;apply k;clear k;refine VC.seq ?_;refine vc h (fun hb10 h=>?_) (fun hb10 h=>?_)
     ·refine VC.skip ?_;refine VC.seq ?_;refine VC.block ?_;refine vs [1,3,4,5,7,10,11,12,13,21,22,23,34,35] fun _ k=>?_;push_cast;apply k;clear k;obtain ⟨x11,hx11,h⟩:=Aa h;replace hx11:=Bh hx11;obtain ⟨r12,hr12,h⟩:=Aa h;obtain ⟨y13,hy13,h⟩:=Bn h;have hy13l : y13.length = s_49.E.length:=by rw [hy13,List.length_set]
      refine vlD [some 38,some 39,some 40,some 41,some 42,some 43,some 44,some 45,some 46,some 47,some 48,some 49,none] fun _ k=>?_;refine Ce 8 fun _ l=>?_;push_cast [hx11];(repeat refine ao ?_);apply l;clear l;simp only [List.drop_succ_cons,List.drop_zero];push_cast [hx11];(repeat refine ao ?_);refine chD (H:=[]) (Ctr.loH (Ctr.ren (Bij.swp 0 101 Bij.id) (Gk hr12) (by push_cast [hx11]) (by push_cast [hx11]))) (by push_cast [hx11]) ?_;push_cast [hx11];(repeat refine ao ?_);refine ⟨rfl,k _ ?_⟩;clear k;refine vl fun _ k=>?_;push_cast;apply k;clear k;refine bk h ?_;exact so (by push_cast [hb4,hb10,hy13,hy13l])
     ·refine VC.exit ?_;replace h:=ol h hf9;refine ar h hk8 ?_;exact so (by push_cast [hb4,hb10])
    ·rintro ⟨s_54,s_55⟩ (h : Py i_19 s_54 s_55 = some v5);(try push_cast);unfold Py at h;obtain ⟨x14,hx14,h⟩:=Aa h;replace hx14:=Bh hx14;obtain ⟨y15,hy15,h⟩:=Bn h;have hy15l : y15.length = s_54.T.length:=by rw [hy15,List.length_set]
     refine vl fun _ k=>?_;push_cast [hx14];(repeat refine ao ?_);apply k;clear k;refine ar h hk5 ?_;exact so (by push_cast [hb4,hy15,hy15l])
   ·rintro s_28 (h : Pw i_19 s_28 = some b3);(try push_cast);unfold Pw at h;refine vl fun _ k=>?_;push_cast;apply k;clear k;refine bk h ?_;exact so (by push_cast [hb4])
  ·refine VC.exit ?_;replace h:=ol h hf3;refine ar h hk2 ?_;exact so (by push_cast [hb4])
 ·rintro s_47 (h : Hq a0 a1 a3 a4 s_47 = some r);(try push_cast);unfold Hq at h;refine VC.seq ?_;refine VC.block ?_;refine vj h (fun x=>⟨[(1,ri a1),(3,ri a3),(4,.sl false (a4.map Ax)),(5,.ref 0 0),(7,.ref 1 0),(10,.ref 2 0),(57,rb x.2)],[(0,.box 56 [.sl false (a0.Fns.map Al)]),(1,.box 29 [ru x.1.Ctx.a0,ru x.1.Ctx.a1,ru x.1.Ctx.a2,ru x.1.Ctx.a3,.row 5 0 6 0 x.1.T.length,ru x.1.Seed]),(2,.box 162 [.raw (.int .u32 0),.raw (.int .u32 0),.raw (.int .u32 0),.raw (.int .u32 0),.raw (.int .u32 0),.sl true [],.raw (.int .u32 0),ri 0,ri 0]),(5,.row 53 6 0 (x.1.T.map Ba))],66,114,0⟩) (fun v16 h hk16=>?_) ?_
  ·obtain ⟨r17,hr17,h⟩:=Aa h;refine vs [1,3,4,5,7,10,57] fun _ k=>?_;push_cast;refine cp (Zh hr17) ?_;push_cast;apply k;clear k;refine vc h (fun hb18 h=>?_) (fun hb18 h=>?_)
   ·refine VC.skip ?_;refine ar h hk16 ?_;exact so (by push_cast [hb18])
   ·refine vs [1,3,4,5,7,10,57] fun _ k=>?_;push_cast;apply k;clear k;refine vc h (fun hb19 h=>?_) (fun hb19 h=>?_)
    ·refine VC.skip ?_;refine ar h hk16 ?_;exact so (by push_cast [hb18,hb19])
    ·refine vl fun _ k=>?_;push_cast;apply k;clear k;refine ar h hk16 ?_;exact so (by push_cast [hb18,hb19])
  ·rintro ⟨s_56,i_57⟩ (h : Hb a0 a1 a3 a4 s_56 i_57 = some r);(try push_cast);unfold Hb at h;refine vc h (fun hb20 h=>?_) (fun hb20 h=>?_)
   ·refine vs [10] fun _ k=>?_;push_cast;apply k;clear k;refine VC.ret ?_;replace h:=Option.some.inj h;subst h;refine Cf (Sub.freeze prog (b:=2) (j:=5) rfl rfl rfl (by push_cast [hb20] <;> omega) (by decide)) ?_;exact en (by push_cast [hb20])
   ·refine vj h (fun x=>⟨[(1,ri a1),(3,ri a3),(4,.sl false (a4.map Ax)),(5,.ref 0 0),(7,.ref 1 0),(10,.ref 2 0),(67,rb x.2)],[(0,.box 56 [.sl false (a0.Fns.map Al)]),(1,.box 29 [ru x.1.Ctx.a0,ru x.1.Ctx.a1,ru x.1.Ctx.a2,ru x.1.Ctx.a3,.row 5 0 6 0 x.1.T.length,ru x.1.Seed]),(2,.box 162 [.raw (.int .u32 0),.raw (.int .u32 0),.raw (.int .u32 0),.raw (.int .u32 0),.raw (.int .u32 0),.sl true [],.raw (.int .u32 0),ri 0,ri 0]),(5,.row 53 6 0 (x.1.T.map Ba))],85,114,0⟩) (fun v21 h hk21=>?_) ?_
    ·refine vs [1,3,4,5,7,10,67] fun _ k=>?_;push_cast;apply k;clear k;refine vc h (fun hb22 h=>?_) (fun hb22 h=>?_)
     ·refine VC.skip ?_;refine ar h hk21 ?_;exact so (by push_cast [hb20,hb22])
     ·refine vs [1,3,4,5,7,10,67] fun _ k=>?_;push_cast;apply k;clear k;refine vc h (fun hb23 h=>?_) (fun hb23 h=>?_)
      ·refine VC.skip ?_;refine ar h hk21 ?_;exact so (by push_cast [hb20,hb22,hb23])
      ·obtain ⟨x24,hx24,h⟩:=Aa h;replace hx24:=Bh hx24;refine vl fun _ k=>?_;push_cast [hx24];(repeat refine ao ?_);apply k;clear k;refine ar h hk21 ?_;exact so (by push_cast [hb20,hb22,hb23])
    ·rintro ⟨s_58,i_59⟩ (h : Gw a0 a1 a3 a4 s_58 i_59 = some r);(try push_cast);unfold Gw at h;refine vc h (fun hb25 h=>?_) (fun hb25 h=>?_)
     ·refine vs [10] fun _ k=>?_;push_cast;apply k;clear k;refine VC.ret ?_;replace h:=Option.some.inj h;subst h;refine Cf (Sub.freeze prog (b:=2) (j:=5) rfl rfl rfl (by push_cast [hb20,hb25] <;> omega) (by decide)) ?_;exact en (by push_cast [hb20,hb25])
     ·refine VC.skip ?_;refine vs [1,4,10,14] fun _ k=>?_;push_cast;apply k;clear k;refine VC.sub (Sub.freeze prog (b:=89) (j:=5) rfl rfl rfl (by push_cast [hb20,hb25] <;> omega) (by decide)) ?_;refine VC.sub (s':=⟨[(1,ri a1),(4,.sl false (a4.map Ax)),(10,.ref 2 0),(14,.ref 89 0)],[(2,.box 162 [.raw (.int .u32 0),.raw (.int .u32 0),.raw (.int .u32 0),.raw (.int .u32 0),.raw (.int .u32 0),.sl true [],.raw (.int .u32 0),ri 0,ri 0]),(89,.box 259 (Ah (Ae.mk a0 s_58 a3 0 0)))],91,114,0⟩) (so (by push_cast [hb20,hb25])) ?_;obtain ⟨r26,hr26,h⟩:=Aa h;refine vs [10,14,15] fun _ k=>?_;push_cast;refine ch (H:=[(89,.box 259 (Ah (Ae.mk a0 s_58 a3 0 0)))]) (Ctr.loH (Ctr.ren (Bij.swp 0 89 Bij.id) (Wg 9 (Ae.mk a0 s_58 a3 0 0) a1 a4 hr26) (by push_cast) (by push_cast))) (by push_cast) ?_;push_cast;apply k;clear k;refine VC.sub (s':=⟨[(10,.ref 2 0),(14,.ref 89 0),(15,ru r26.1)],[(2,.box 162 [.raw (.int .u32 0),.raw (.int .u32 0),.raw (.int .u32 0),.raw (.int .u32 0),.raw (.int .u32 0),.sl true [],.raw (.int .u32 0),ri 0,ri 0]),(89,.box 259 (Ah r26.2))],96,114,0⟩) (so (by push_cast [hb20,hb25])) ?_;refine vj h (fun x=>⟨[(10,.ref 2 0),(14,.ref 89 0),(15,ru x)],[(2,.box 162 [.raw (.int .u32 0),.raw (.int .u32 0),.raw (.int .u32 0),.raw (.int .u32 0),.raw (.int .u32 0),.sl true [],.raw (.int .u32 0),ri 0,ri 0]),(89,.box 259 (Ah r26.2))],102,114,0⟩) (fun v27 h hk27=>?_) ?_
      ·refine vs [10,14,15,99] fun _ k=>?_;push_cast;apply k;clear k;refine vc h (fun hb28 h=>?_) (fun hb28 h=>?_)
       ·refine vl fun _ k=>?_;push_cast;apply k;clear k;refine ar h hk27 ?_;exact so (by push_cast [hb20,hb25,hb28])
       ·refine VC.skip ?_;refine ar h hk27 ?_;exact so (by push_cast [hb20,hb25,hb28])
      ·rintro i_60 (h : Om r26 i_60 = some r);(try push_cast);unfold Om at h;refine vsD [some 100,some 101,some 102,some 103,some 104,some 105,some 106,some 107,some 108,some 109,some 110,some 111,some 112,some 113,none] [10] fun _ k=>?_;refine Ce 8 fun _ l=>?_;push_cast;apply l;clear l;simp only [List.drop_succ_cons,List.drop_zero];push_cast;refine ⟨rfl,k _ ?_⟩;clear k;refine VC.ret ?_;replace h:=Option.some.inj h;subst h;exact en (by push_cast [hb20,hb25])
noncomputable def Jb (a0 : Ar) (a1 : Be) (a2 : Int) : Option (Jm):=
  po (Gf a0 0 a1 a2 []) fun r1=>
  some r1
theorem Gx0 {a0 : Ar} {a1 : Be} {a2 : Int} {r : Jm} (h : Jb a0 a1 a2 = some r) : Ctr prog 88 [.agg (Ey a0),.agg (Uk a1),ri a2] [] (.agg (Xf r)) []:=by
 unfold Jb at h;refine Ctr.ofW Bb func88 rfl call88 0 _ ntmps88 [.cell 6 162] rfl rfl rfl (fun B=>?_);refine vs [2,3,4,6] fun _ k=>?_;push_cast;apply k;clear k;obtain ⟨r1,hr1,h⟩:=Aa h;refine vs [6] fun _ k=>?_;push_cast;refine cp (Fc0 hr1) ?_;push_cast;apply k;clear k;refine VC.ret ?_;replace h:=Option.some.inj h;subst h;exact en (by push_cast)
theorem callI_own {p : Ar} {fn : Int} {e : Be} {fu : Int} {a : List UInt32} (hF : Fits e.T) : Gf p fn e fu a = Hq p fn fu a e:=by
  have h:=own_is hF
  unfold Pj at h
  unfold Gf
  obtain ⟨r1,h1,h2⟩:=Aa h
  obtain ⟨v,h3,h4⟩:=Aa h2
  have h5 : v = e:=Option.some.inj h4
  subst h5
  rw [h1]
  have e9 : Mw = Rf:=rfl
  have e3 : Jq = Rc:=rfl
  simp only [po_of,e3,h3]
def ranOf (v : UInt32) (r : Rn) : Jm:=⟨if r.err = 0 then v else 0,r.e,r.used,r.err⟩
theorem callI {p : Ar} {b : Bool} (hb : Ja p = some b) {fn : Int} {e : Be} {fu : Int} {a : List UInt32} (hF : Fits e.T) :
    Gf p fn e fu a = if b = true ∧ 0 ≤ fu ∧ fu ≤ 100000 then
      (match idx p.Fns fn with
        | none=>some ⟨0,e,0,3⟩
        | some f=>if (a.length : Int) = f.Args then po (Dy 9 ⟨p,e,fu,0,0⟩ fn a) (fun q=>some (ranOf q.1 q.2)) else some ⟨0,e,0,3⟩)
      else some ⟨0,e,0,1⟩:=by
  rw [callI_own hF]
  unfold Hq
  rw [hb]
  have bad : Hb p fn fu a e true = some ⟨0,e,0,1⟩:=rfl
  cases b with
  | false=>
    rw [if_neg (fun q=>by cases q.1)]
    exact bad
  | true=>
    simp only [po_of,Bool.not_true,cond_false]
    by_cases h1 : fu < 0
    · rw [if_neg (fun q=>by omega),decide_eq_true h1]
      exact bad
    · rw [decide_eq_false h1]
      by_cases h2 : fu > 100000
      · rw [if_neg (fun q=>by omega),decide_eq_true h2]
        exact bad
      · rw [if_pos ⟨trivial,by omega,by omega⟩,decide_eq_false h2]
        simp only [cond_false,po_of,Hb]
        have none_ : Gw p fn fu a e true = some ⟨0,e,0,3⟩:=rfl
        by_cases h3 : fn < 0
        · have : idx p.Fns fn = none:=by unfold idx; rw [if_neg (by omega)]
          rw [this,decide_eq_true h3]
          exact none_
        · rw [decide_eq_false h3]
          by_cases h4 : fn ≥ (p.Fns.length : Int)
          · have : idx p.Fns fn = none:=by unfold idx; rw [if_pos (by omega),List.getElem?_eq_none (by omega)]
            rw [this,decide_eq_true h4]
            exact none_
          · rw [decide_eq_false h4]
            obtain ⟨f,hf⟩ : ∃ f,idx p.Fns fn = some f:=⟨_,idx_of (by omega) (List.getElem?_eq_getElem (show fn.toNat < p.Fns.length by omega))⟩
            rw [hf]
            simp only [cond_false,po_of]
            by_cases h5 : (a.length : Int) = f.Args
            · have d : ((a.length : Int) != f.Args) = false:=by simpa using h5
              rw [d,if_pos h5]
              simp only [Gw,cond_false]
              congr 1
              funext q
              by_cases h6 : q.2.err = 0
              · have d6 : (q.2.err != 0) = false:=by simpa using h6
                rw [d6]
                unfold ranOf
                rw [if_pos h6]
                rfl
              · have d6 : (q.2.err != 0) = true:=by simpa using h6
                rw [d6]
                unfold ranOf
                rw [if_neg h6]
                rfl
            · have d : ((a.length : Int) != f.Args) = true:=by simpa using h5
              rw [d,if_neg h5]
              exact none_
theorem runI {p : Ar} {b : Bool} (hb : Ja p = some b) (hbp : b = true → ProgOk p) {e : Be} {fu : Int} (hF : Fits e.T) :
    Jb p e fu = if b = true ∧ 0 ≤ fu ∧ fu ≤ 100000 then po (Dy 9 ⟨p,e,fu,0,0⟩ 0 []) (fun q=>some (ranOf q.1 q.2)) else some ⟨0,e,0,1⟩:=by
  have e1 : Jb p e fu = Gf p 0 e fu []:=by
    unfold Jb
    cases Gf p 0 e fu [] <;> rfl
  rw [e1,callI hb hF]
  by_cases h : b = true ∧ 0 ≤ fu ∧ fu ≤ 100000
  · rw [if_pos h,if_pos h]
    have hp:=hbp h.1
    obtain ⟨f,hf⟩ : ∃ f,p.Fns[0]? = some f:=⟨_,List.getElem?_eq_getElem hp.len.1⟩
    have hi : idx p.Fns 0 = some f:=idx_of (Int.le_refl 0) hf
    rw [hi]
    simp only
    rw [if_pos (show (([] : List UInt32).length : Int) = f.Args by rw [hp.main f hf]; rfl)]
  · rw [if_neg h,if_neg h]
theorem preI {p : Ar} (hp : ProgOk p) {e : Be} (hF : Fits e.T) {fu : Int} (hf : 0 ≤ fu ∧ fu ≤ 100000) {fn : Int} (hfn : 0 ≤ fn ∧ fn < (p.Fns.length : Int)) {a : List UInt32} (ha : a.length ≤ 7) : FnPre p ⟨p,e,fu,0,0⟩ fn a:=
  ⟨rfl,⟨Int.le_refl _,hf.1⟩,by show fu ≤ 1000000; omega,hF,rfl,hfn,ha⟩
theorem lenI {p : Ar} (hp : ProgOk p) : (p.Fns.length : Int) - 0 ≤ ((9 : Nat) : Int):=by have:=hp.len; omega
theorem keeps_run {p : Ar} {e : Be} {fu : Int} (hF : Fits e.T) : ∃ x,Jb p e fu = some x ∧ EKeep e x.E:=by
  obtain ⟨c,hc1,hc2⟩:=progMay_tells p
  rw [runI hc1 hc2 hF]
  by_cases h : c = true ∧ 0 ≤ fu ∧ fu ≤ 100000
  · rw [if_pos h]
    have hp:=hc2 h.1
    obtain ⟨v,r,q1,q2⟩:=frame_tells hp 9 (lenI hp) _ _ (preI hp hF h.2 (fn:=0) ⟨Int.le_refl _,by have:=hp.len; omega⟩ (a:=[]) (by decide))
    rw [q1]
    exact ⟨_,rfl,q2.e⟩
  · rw [if_neg h]
    exact ⟨_,rfl,.refl hF⟩
noncomputable def Bp (a0 : Aj) : Option (C128):=
  some (C128.mk (i2f (a0.low.toNat : Int)) (i2f (a0.high.toNat : Int)))
theorem Co {a0 : Aj} {r : C128} (h : Bp a0 = some r) : Ctr prog 227 [.agg (Bc a0)] [] (.raw (.complex .f64 r.re r.im)) []:=by
 unfold Bp at h;refine Ctr.ofW Bb func227 rfl call227 0 _ ntmps227 [.tmp 2] rfl rfl rfl (fun B=>?_);refine vs [1] fun _ k=>?_;push_cast;apply k;clear k;refine vs [2] fun _ k=>?_;push_cast;apply k;clear k;refine VC.ret ?_;replace h:=Option.some.inj h;subst h;exact en (by push_cast)
noncomputable def Qy (a0 : UInt64) (a1 : UInt64) (i_1 : Bool) : Option (Aj):=
  cond i_1 (
  pl ((4294967295 : UInt64)) fun c4=>
  some (Aj.mk 0 c4)) (
  some (Aj.mk a0 a1))
noncomputable def Fo (a0 : UInt64) (a1 : UInt64) : Option (Aj):=
  po (
  cond (decide ((a1.toNat : Int) > 4294967295)) (
  some true) (
  some (decide (a0.toNat > a1.toNat)))) (fun x=>Qy a0 a1 x)
theorem Ms {a0 : UInt64} {a1 : UInt64} {r : Aj} (h : Fo a0 a1 = some r) : Ctr prog 233 [.raw (.int .u64 (a0.toNat : Int)),.raw (.int .u64 (a1.toNat : Int))] [] (.agg (Bc r)) []:=by
 unfold Fo at h;refine Ctr.ofW Bb func233 rfl call233 0 _ ntmps233 [.cell 4 311] rfl rfl rfl (fun B=>?_);refine vs [0,1,4] fun _ k=>?_;push_cast;apply k;clear k;refine VC.seq ?_;refine vj h (fun x=>⟨[(0,.raw (.int .u64 (a0.toNat : Int))),(1,.raw (.int .u64 (a1.toNat : Int))),(4,.ref 0 0),(11,rb x)],[(0,.box 311 (Bc (Aj.mk 0 0)))],8,16,0⟩) (fun v1 h hk1=>?_) ?_
 ·rcases bt (decide ((a1.toNat : Int) > 4294967295)) with hb2 | hb2
  ·replace h:=Ao hb2 h;refine vlG [some 5,some 6,some 7,some 8,some 9,some 10,some 11] fun _ k=>?_;push_cast [hb2];(repeat refine ao ?_);apply k;clear k;refine ar h hk1 ?_;exact sl (by push_cast [hb2])
  ·replace h:=Av hb2 h;refine vlG [some 5,some 6,some 7,some 8,some 9,some 10,some 11] fun _ k=>?_;push_cast [hb2];(repeat refine ao ?_);apply k;clear k;refine ar h hk1 ?_;exact sl (by push_cast [hb2])
 ·rintro i_1 (h : Qy a0 a1 i_1 = some r);(try push_cast);unfold Qy at h;refine vc h (fun hb3 h=>?_) (fun hb3 h=>?_)
  ·obtain ⟨c4,hc4,h⟩:=Bn h;have hc4i : (c4.toNat : Int) = 4294967295:=by rw [hc4];rfl
   refine vs [4] fun _ k=>?_;push_cast [hc4i];(repeat refine ao ?_);apply k;clear k;refine VC.ret ?_;replace h:=Option.some.inj h;subst h;exact en (by push_cast [hb3,hc4i])
  ·refine VC.skip ?_;refine vs [4] fun _ k=>?_;push_cast;apply k;clear k;refine VC.ret ?_;replace h:=Option.some.inj h;subst h;exact en (by push_cast [hb3])
noncomputable def Pr (i_1 : Bool) : Option (Bool):=
  some i_1
noncomputable def Np (a0 : F64) : Option (Bool):=
  po (
  cond (fge a0 0) (
  cond (fle a0 4751297606873776128) (
  po (f2u a0) fun x4=>
  some (feq a0 (i2f (x4.toNat : Int)))) (
  some false)) (
  some false)) (fun x=>Pr x)
theorem Qj {a0 : F64} {r : Bool} (h : Np a0 = some r) : Ctr prog 235 [.raw (.float .f64 a0)] [] (rb r) []:=by
 unfold Np at h;refine Ctr.ofW Bb func235 rfl call235 0 _ ntmps235 [.tmp 2] rfl rfl rfl (fun B=>?_);refine vs [0] fun _ k=>?_;push_cast;apply k;clear k;refine vj h (fun x=>⟨[(2,rb x)],[],15,16,0⟩) (fun v1 h hk1=>?_) ?_
 ·rcases bt (fge a0 0) with hb2 | hb2
  ·replace h:=Ao hb2 h;rcases bt (fle a0 4751297606873776128) with hb3 | hb3
   ·replace h:=Ao hb3 h;obtain ⟨x4,hx4,h⟩:=Aa h;replace hx4:=f2u_some hx4;refine vlG [some 3,some 4,some 5,some 6,some 7,some 8,some 9,some 10,some 11,some 12,some 13,some 14,some 15,some 2] fun _ k=>?_;refine Af 8 fun _ l=>?_;push_cast [hb2,hb3,hx4];(repeat refine ao ?_);apply l;clear l;simp only [List.drop_succ_cons,List.drop_zero];push_cast [hb2,hb3,hx4];(repeat refine ao ?_);apply k;clear k;refine ar h hk1 ?_;exact sl (by push_cast [hb2,hb3])
   ·replace h:=Av hb3 h;refine vlG [some 3,some 4,some 5,some 6,some 7,some 8,some 9,some 10,some 11,some 12,some 13,some 14,some 15,some 2] fun _ k=>?_;refine Af 8 fun _ l=>?_;push_cast [hb2,hb3];(repeat refine ao ?_);apply l;clear l;simp only [List.drop_succ_cons,List.drop_zero];push_cast [hb2,hb3];(repeat refine ao ?_);apply k;clear k;refine ar h hk1 ?_;exact sl (by push_cast [hb2,hb3])
  ·replace h:=Av hb2 h;refine vlG [some 3,some 4,some 5,some 6,some 7,some 8,some 9,some 10,some 11,some 12,some 13,some 14,some 15,some 2] fun _ k=>?_;refine Af 8 fun _ l=>?_;push_cast [hb2];(repeat refine ao ?_);apply l;clear l;simp only [List.drop_succ_cons,List.drop_zero];push_cast [hb2];(repeat refine ao ?_);apply k;clear k;refine ar h hk1 ?_;exact sl (by push_cast [hb2])
 ·rintro i_1 (h : Pr i_1 = some r);(try push_cast);unfold Pr at h;refine VC.ret ?_;replace h:=Option.some.inj h;subst h;exact en (by push_cast)
noncomputable def Re (i_1 : Bool) : Option (Bool):=
  some i_1
noncomputable def Iy (a0 : C128) : Option (Bool):=
  po (
  po (Np a0.re) fun r2=>
  cond r2 (
  po (Np a0.im) fun r4=>
  cond r4 (
  some (fle a0.re a0.im)) (
  some false)) (
  some false)) (fun x=>Re x)
theorem Uz {a0 : C128} {r : Bool} (h : Iy a0 = some r) : Ctr prog 228 [.raw (.complex .f64 a0.re a0.im)] [] (rb r) []:=by
 unfold Iy at h;refine Ctr.ofW Bb func228 rfl call228 0 _ ntmps228 [.tmp 2] rfl rfl rfl (fun B=>?_);refine vs [0] fun _ k=>?_;push_cast;apply k;clear k;refine vj h (fun x=>⟨[(2,rb x)],[],17,18,0⟩) (fun v1 h hk1=>?_) ?_
 ·obtain ⟨r2,hr2,h⟩:=Aa h;rcases bt r2 with hb3 | hb3
  ·replace h:=Ao hb3 h;obtain ⟨r4,hr4,h⟩:=Aa h;rcases bt r4 with hb5 | hb5
   ·replace h:=Ao hb5 h;refine vlG [some 3,some 4,some 5,some 6,some 7,some 8,some 9,some 10,some 11,some 12,some 13,some 14,some 15,some 16,some 17,some 2] fun _ k=>?_;refine Af 8 fun _ l=>?_;push_cast [hb3,hb5];(repeat refine ao ?_);refine cp (Qj hr2) ?_;push_cast [hb3,hb5];(repeat refine ao ?_);refine cp (Qj hr4) ?_;push_cast [hb3,hb5];(repeat refine ao ?_);apply l;clear l;simp only [List.drop_succ_cons,List.drop_zero];push_cast [hb3,hb5];(repeat refine ao ?_);apply k;clear k;refine ar h hk1 ?_;exact sl (by push_cast [hb3,hb5])
   ·replace h:=Av hb5 h;refine vlG [some 3,some 4,some 5,some 6,some 7,some 8,some 9,some 10,some 11,some 12,some 13,some 14,some 15,some 16,some 17,some 2] fun _ k=>?_;refine Af 8 fun _ l=>?_;push_cast [hb3,hb5];(repeat refine ao ?_);refine cp (Qj hr2) ?_;push_cast [hb3,hb5];(repeat refine ao ?_);refine cp (Qj hr4) ?_;push_cast [hb3,hb5];(repeat refine ao ?_);apply l;clear l;simp only [List.drop_succ_cons,List.drop_zero];push_cast [hb3,hb5];(repeat refine ao ?_);apply k;clear k;refine ar h hk1 ?_;exact sl (by push_cast [hb3,hb5])
  ·replace h:=Av hb3 h;refine vlG [some 3,some 4,some 5,some 6,some 7,some 8,some 9,some 10,some 11,some 12,some 13,some 14,some 15,some 16,some 17,some 2] fun _ k=>?_;refine Af 8 fun _ l=>?_;push_cast [hb3];(repeat refine ao ?_);refine cp (Qj hr2) ?_;push_cast [hb3];(repeat refine ao ?_);apply l;clear l;simp only [List.drop_succ_cons,List.drop_zero];push_cast [hb3];(repeat refine ao ?_);apply k;clear k;refine ar h hk1 ?_;exact sl (by push_cast [hb3])
 ·rintro i_1 (h : Re i_1 = some r);(try push_cast);unfold Re at h;refine VC.ret ?_;replace h:=Option.some.inj h;subst h;exact en (by push_cast)
noncomputable def Bq (a0 : C128) : Option (Aj):=
  po (Iy a0) fun r1=>
  cond (!r1) (
  pl ((4294967295 : UInt64)) fun c3=>
  some (Aj.mk 0 c3)) (
  po (f2u a0.re) fun x4=>
  po (f2u a0.im) fun x5=>
  some (Aj.mk x4 x5))
theorem Cm {a0 : C128} {r : Aj} (h : Bq a0 = some r) : Ctr prog 230 [.raw (.complex .f64 a0.re a0.im)] [] (.agg (Bc r)) []:=by
 unfold Bq at h;refine Ctr.ofW Bb func230 rfl call230 0 _ ntmps230 [.cell 2 311] rfl rfl rfl (fun B=>?_);refine vs [0,2] fun _ k=>?_;push_cast;apply k;clear k;refine VC.seq ?_;obtain ⟨r1,hr1,h⟩:=Aa h;refine vs [0,2,5] fun _ k=>?_;push_cast;refine cp (Uz hr1) ?_;push_cast;apply k;clear k;refine vc h (fun hb2 h=>?_) (fun hb2 h=>?_)
 ·obtain ⟨c3,hc3,h⟩:=Bn h;have hc3i : (c3.toNat : Int) = 4294967295:=by rw [hc3];rfl
  refine vs [2] fun _ k=>?_;push_cast [hc3i];(repeat refine ao ?_);apply k;clear k;refine VC.ret ?_;replace h:=Option.some.inj h;subst h;exact en (by push_cast [hb2,hc3i])
 ·refine VC.skip ?_;obtain ⟨x4,hx4,h⟩:=Aa h;replace hx4:=f2u_some hx4;obtain ⟨x5,hx5,h⟩:=Aa h;replace hx5:=f2u_some hx5;refine vs [2] fun _ k=>?_;push_cast [hx4,hx5];(repeat refine ao ?_);apply k;clear k;refine VC.ret ?_;replace h:=Option.some.inj h;subst h;exact en (by push_cast [hb2])
noncomputable def Sy (a0 : Aj) (a1 : Aj) : Option (Aj):=
  some a1
theorem Dl0 {a0 : Aj} {a1 : Aj} {r : Aj} (h : Sy a0 a1 = some r) : Ctr prog 236 [.agg (Bc a0),.agg (Bc a1)] [] (.agg (Bc r)) []:=by
 unfold Sy at h;refine Ctr.ofW Bb func236 rfl call236 0 _ ntmps236 [.cell 4 311] rfl rfl rfl (fun B=>?_);refine vs [3,4] fun _ k=>?_;push_cast;apply k;clear k;refine vs [4] fun _ k=>?_;push_cast;apply k;clear k;refine VC.ret ?_;replace h:=Option.some.inj h;subst h;exact en (by push_cast)
noncomputable def Ov (a0 : Aj) (a1 : Aj) : Option (Aj):=
  cond ((a1.low.toNat : Int) != (a1.high.toNat : Int)) (
  po (Fo 1 0) fun r2=>
  some r2) (
  pl ((shl64 a0.low (Int.tmod (a1.low.toNat : Int) 32))) fun c3=>
  pl ((shl64 a0.high (Int.tmod (a1.low.toNat : Int) 32))) fun c4=>
  po (Fo c3 c4) fun r5=>
  some r5)
theorem Cx0 {a0 : Aj} {a1 : Aj} {r : Aj} (h : Ov a0 a1 = some r) : Ctr prog 246 [.agg (Bc a0),.agg (Bc a1)] [] (.agg (Bc r)) []:=by
 unfold Ov at h;refine Ctr.ofW Bb func246 rfl call246 0 _ ntmps246 [.cell 4 311] rfl rfl rfl (fun B=>?_);refine vs [2,3,4] fun _ k=>?_;push_cast;apply k;clear k;refine VC.seq ?_;refine vs [2,3,4,10] fun _ k=>?_;push_cast;apply k;clear k;refine vc h (fun hb1 h=>?_) (fun hb1 h=>?_)
 ·obtain ⟨r2,hr2,h⟩:=Aa h;refine vs [4] fun _ k=>?_;push_cast;refine cp (Ms hr2) ?_;push_cast;apply k;clear k;refine VC.ret ?_;replace h:=Option.some.inj h;subst h;exact en (by push_cast [hb1])
 ·refine VC.skip ?_;refine vs [2,4,5] fun _ k=>?_;push_cast;apply k;clear k;obtain ⟨c3,hc3,h⟩:=Bn h;have hc3i : (((shl64 a0.low (Int.tmod (a1.low.toNat : Int) 32))).toNat : Int) = (c3.toNat : Int):=by rw [hc3]
  push_cast at hc3i;obtain ⟨c4,hc4,h⟩:=Bn h;have hc4i : (((shl64 a0.high (Int.tmod (a1.low.toNat : Int) 32))).toNat : Int) = (c4.toNat : Int):=by rw [hc4]
  push_cast at hc4i;obtain ⟨r5,hr5,h⟩:=Aa h;refine vs [4] fun _ k=>?_;push_cast [hc3i,hc4i];(repeat refine ao ?_);refine cp (Ms hr5) ?_;push_cast [hc3i,hc4i];(repeat refine ao ?_);apply k;clear k;refine VC.ret ?_;replace h:=Option.some.inj h;subst h;exact en (by push_cast [hb1,hc3i,hc4i])
noncomputable def Oj (a0 : Aj) (a1 : Aj) : Option (Aj):=
  cond ((a1.low.toNat : Int) != (a1.high.toNat : Int)) (
  some (Aj.mk 0 a0.high)) (
  some (Aj.mk (shr64 a0.low (Int.tmod (a1.low.toNat : Int) 32)) (shr64 a0.high (Int.tmod (a1.low.toNat : Int) 32))))
theorem Cw0 {a0 : Aj} {a1 : Aj} {r : Aj} (h : Oj a0 a1 = some r) : Ctr prog 247 [.agg (Bc a0),.agg (Bc a1)] [] (.agg (Bc r)) []:=by
 unfold Oj at h;refine Ctr.ofW Bb func247 rfl call247 0 _ ntmps247 [.cell 4 311] rfl rfl rfl (fun B=>?_);refine vs [2,3,4] fun _ k=>?_;push_cast;apply k;clear k;refine VC.seq ?_;refine vs [2,3,4,10] fun _ k=>?_;push_cast;apply k;clear k;refine vc h (fun hb1 h=>?_) (fun hb1 h=>?_)
 ·refine vs [4] fun _ k=>?_;push_cast;apply k;clear k;refine VC.ret ?_;replace h:=Option.some.inj h;subst h;exact en (by push_cast [hb1])
 ·refine VC.skip ?_;refine vs [2,4,5] fun _ k=>?_;push_cast;apply k;clear k;refine vs [4] fun _ k=>?_;push_cast;apply k;clear k;refine VC.ret ?_;replace h:=Option.some.inj h;subst h;exact en (by push_cast [hb1])
noncomputable def Ug (a0 : Aj) (a1 : Aj) : Option (Aj):=
  pl ((a0.low + a1.low)) fun c1=>
  pl ((a0.high + a1.high)) fun c2=>
  po (Fo c1 c2) fun r3=>
  some r3
theorem Dm0 {a0 : Aj} {a1 : Aj} {r : Aj} (h : Ug a0 a1 = some r) : Ctr prog 237 [.agg (Bc a0),.agg (Bc a1)] [] (.agg (Bc r)) []:=by
 unfold Ug at h;refine Ctr.ofW Bb func237 rfl call237 0 _ ntmps237 [.cell 4 311] rfl rfl rfl (fun B=>?_);refine vs [2,3,4] fun _ k=>?_;push_cast;apply k;clear k;obtain ⟨c1,hc1,h⟩:=Bn h;have hc1i : (((a0.low + a1.low)).toNat : Int) = (c1.toNat : Int):=by rw [hc1]
 push_cast at hc1i;obtain ⟨c2,hc2,h⟩:=Bn h;have hc2i : (((a0.high + a1.high)).toNat : Int) = (c2.toNat : Int):=by rw [hc2]
 push_cast at hc2i;obtain ⟨r3,hr3,h⟩:=Aa h;refine vs [4] fun _ k=>?_;refine Af 8 fun _ l=>?_;push_cast [hc1i,hc2i];(repeat refine ao ?_);apply l;clear l;simp only [List.drop_succ_cons,List.drop_zero];push_cast [hc1i,hc2i];(repeat refine ao ?_);refine cp (Ms hr3) ?_;push_cast [hc1i,hc2i];(repeat refine ao ?_);apply k;clear k;refine VC.ret ?_;replace h:=Option.some.inj h;subst h;exact en (by push_cast [hc1i,hc2i])
noncomputable def Pq (a0 : Aj) (a1 : Aj) : Option (Aj):=
  cond (decide (a0.low.toNat < a1.high.toNat)) (
  po (Fo 1 0) fun r2=>
  some r2) (
  some (Aj.mk (a0.low - a1.high) (a0.high - a1.low)))
theorem Dr0 {a0 : Aj} {a1 : Aj} {r : Aj} (h : Pq a0 a1 = some r) : Ctr prog 238 [.agg (Bc a0),.agg (Bc a1)] [] (.agg (Bc r)) []:=by
 unfold Pq at h;refine Ctr.ofW Bb func238 rfl call238 0 _ ntmps238 [.cell 4 311] rfl rfl rfl (fun B=>?_);refine vs [2,3,4] fun _ k=>?_;push_cast;apply k;clear k;refine VC.seq ?_;refine vs [2,3,4,9] fun _ k=>?_;push_cast;apply k;clear k;refine vc h (fun hb1 h=>?_) (fun hb1 h=>?_)
 ·obtain ⟨r2,hr2,h⟩:=Aa h;refine vs [4] fun _ k=>?_;push_cast;refine cp (Ms hr2) ?_;push_cast;apply k;clear k;refine VC.ret ?_;replace h:=Option.some.inj h;subst h;exact en (by push_cast [hb1])
 ·refine VC.skip ?_;refine vs [4] fun _ k=>?_;refine Af 8 fun _ l=>?_;push_cast;apply l;clear l;simp only [List.drop_succ_cons,List.drop_zero];push_cast;apply k;clear k;refine VC.ret ?_;replace h:=Option.some.inj h;subst h;exact en (by push_cast [hb1])
noncomputable def Sw (a0 : Aj) (a1 : Aj) : Option (Aj):=
  pl ((a0.low * a1.low)) fun c1=>
  pl ((a0.high * a1.high)) fun c2=>
  po (Fo c1 c2) fun r3=>
  some r3
theorem Dh0 {a0 : Aj} {a1 : Aj} {r : Aj} (h : Sw a0 a1 = some r) : Ctr prog 239 [.agg (Bc a0),.agg (Bc a1)] [] (.agg (Bc r)) []:=by
 unfold Sw at h;refine Ctr.ofW Bb func239 rfl call239 0 _ ntmps239 [.cell 4 311] rfl rfl rfl (fun B=>?_);refine vs [2,3,4] fun _ k=>?_;push_cast;apply k;clear k;obtain ⟨c1,hc1,h⟩:=Bn h;have hc1i : (((a0.low * a1.low)).toNat : Int) = (c1.toNat : Int):=by rw [hc1]
 push_cast at hc1i;obtain ⟨c2,hc2,h⟩:=Bn h;have hc2i : (((a0.high * a1.high)).toNat : Int) = (c2.toNat : Int):=by rw [hc2]
 push_cast at hc2i;obtain ⟨r3,hr3,h⟩:=Aa h;refine vs [4] fun _ k=>?_;refine Af 8 fun _ l=>?_;push_cast [hc1i,hc2i];(repeat refine ao ?_);apply l;clear l;simp only [List.drop_succ_cons,List.drop_zero];push_cast [hc1i,hc2i];(repeat refine ao ?_);refine cp (Ms hr3) ?_;push_cast [hc1i,hc2i];(repeat refine ao ?_);apply k;clear k;refine VC.ret ?_;replace h:=Option.some.inj h;subst h;exact en (by push_cast [hc1i,hc2i])
noncomputable def Pt (a0 : Aj) (a1 : Aj) : Option (Aj):=
  cond ((a1.low.toNat : Int) == 0) (
  some (Aj.mk 0 a0.high)) (
  pg ((a1.high.toNat : Int) ≠ 0) <|
  pg ((a1.low.toNat : Int) ≠ 0) <|
  some (Aj.mk (a0.low / a1.high) (a0.high / a1.low)))
theorem Di0 {a0 : Aj} {a1 : Aj} {r : Aj} (h : Pt a0 a1 = some r) : Ctr prog 240 [.agg (Bc a0),.agg (Bc a1)] [] (.agg (Bc r)) []:=by
 unfold Pt at h;refine Ctr.ofW Bb func240 rfl call240 0 _ ntmps240 [.cell 4 311] rfl rfl rfl (fun B=>?_);refine vs [2,3,4] fun _ k=>?_;push_cast;apply k;clear k;refine VC.seq ?_;refine vs [2,3,4,7] fun _ k=>?_;push_cast;apply k;clear k;refine vc h (fun hb1 h=>?_) (fun hb1 h=>?_)
 ·refine vs [4] fun _ k=>?_;push_cast;apply k;clear k;refine VC.ret ?_;replace h:=Option.some.inj h;subst h;exact en (by push_cast [hb1])
 ·refine VC.skip ?_;obtain ⟨hg2,h⟩:=Bs h;obtain ⟨hg3,h⟩:=Bs h;refine vsD [some 11,some 12,some 13,some 14,some 15,some 16,some 17,some 18,some 19,some 20,some 21,none] [4] fun _ k=>?_;refine Ce 8 fun _ l=>?_;push_cast [hg2,hg3];(repeat refine ao ?_);apply l;clear l;simp only [List.drop_succ_cons,List.drop_zero];push_cast [hg2,hg3];(repeat refine ao ?_);refine ⟨rfl,k _ ?_⟩;clear k;refine VC.ret ?_;replace h:=Option.some.inj h;subst h;exact en (by push_cast [hb1])
noncomputable def Pv (a0 : Aj) (a1 : Aj) : Option (Aj):=
  cond (decide (a0.high.toNat < a1.low.toNat)) (
  some a0) (
  cond ((a1.low.toNat : Int) == 0) (
  some (Aj.mk 0 a0.high)) (
  pl ((a1.high - 1)) fun c3=>
  some (Aj.mk 0 (min64 a0.high c3))))
theorem Do0 {a0 : Aj} {a1 : Aj} {r : Aj} (h : Pv a0 a1 = some r) : Ctr prog 241 [.agg (Bc a0),.agg (Bc a1)] [] (.agg (Bc r)) []:=by
 unfold Pv at h;refine Ctr.ofW Bb func241 rfl call241 0 _ ntmps241 [.cell 4 311] rfl rfl rfl (fun B=>?_);refine vs [2,3,4] fun _ k=>?_;push_cast;apply k;clear k;refine VC.seq ?_;refine VC.block ?_;refine vs [2,3,4,5] fun _ k=>?_;push_cast;apply k;clear k;refine vc h (fun hb1 h=>?_) (fun hb1 h=>?_)
 ·refine vs [4] fun _ k=>?_;push_cast;apply k;clear k;refine VC.ret ?_;replace h:=Option.some.inj h;subst h;exact en (by push_cast [hb1])
 ·refine vs [2,3,4,12] fun _ k=>?_;push_cast;apply k;clear k;refine vc h (fun hb2 h=>?_) (fun hb2 h=>?_)
  ·refine vs [4] fun _ k=>?_;push_cast;apply k;clear k;refine VC.ret ?_;replace h:=Option.some.inj h;subst h;exact en (by push_cast [hb1,hb2])
  ·refine VC.skip ?_;obtain ⟨c3,hc3,h⟩:=Bn h;have hc3i : (((a1.high - 1)).toNat : Int) = (c3.toNat : Int):=by rw [hc3]
   push_cast at hc3i;refine vs [4] fun _ k=>?_;push_cast [hc3i];(repeat refine ao ?_);apply k;clear k;refine VC.ret ?_;replace h:=Option.some.inj h;subst h;exact en (by push_cast [hb1,hb2,hc3i])
noncomputable def Sv (a0 : Aj) (a1 : Aj) : Option (Aj):=
  some (Aj.mk 0 (min64 a0.high a1.high))
theorem Df0 {a0 : Aj} {a1 : Aj} {r : Aj} (h : Sv a0 a1 = some r) : Ctr prog 242 [.agg (Bc a0),.agg (Bc a1)] [] (.agg (Bc r)) []:=by
 unfold Sv at h;refine Ctr.ofW Bb func242 rfl call242 0 _ ntmps242 [.cell 4 311] rfl rfl rfl (fun B=>?_);refine vs [2,3,4] fun _ k=>?_;push_cast;apply k;clear k;refine vs [4] fun _ k=>?_;push_cast;apply k;clear k;refine VC.ret ?_;replace h:=Option.some.inj h;subst h;exact en (by push_cast)
noncomputable def On (i_2 : UInt64) (i_3 : Bool) : Option ((UInt64) ⊕ (UInt64)):=
  cond i_3 (
  some (Sum.inl (i_2 * 2))) (
  some (Sum.inr i_2))
noncomputable def Ot (a0 : UInt64) (a1 : UInt64) (i_2 : UInt64) : Option ((UInt64) ⊕ (UInt64)):=
  po (
  cond (decide (i_2.toNat ≤ a0.toNat)) (
  some true) (
  some (decide (i_2.toNat ≤ a1.toNat)))) (fun x=>On i_2 x)
noncomputable def Oo (i_5 : UInt64) : Option (UInt64):=
  some i_5
noncomputable def Ml (a0 : UInt64) (a1 : UInt64) : Option (UInt64):=
  po (
  lpU (fun x=>Ot a0 a1 x) 1) (fun x=>Oo x)
theorem Ym {a0 : UInt64} {a1 : UInt64} {r : UInt64} (h : Ml a0 a1 = some r) : Ctr prog 244 [.raw (.int .u64 (a0.toNat : Int)),.raw (.int .u64 (a1.toNat : Int))] [] (.raw (.int .u64 (r.toNat : Int))) []:=by
 unfold Ml at h;refine Ctr.ofW Bb func244 rfl call244 0 _ ntmps244 [.tmp 4] rfl rfl rfl (fun B=>?_);refine vs [0,1] fun _ k=>?_;push_cast;apply k;clear k;refine vs [0,1,5] fun _ k=>?_;push_cast;apply k;clear k;refine vj h (fun x=>⟨[(5,.raw (.int .u64 (x.toNat : Int)))],[],21,17,0⟩) (fun v1 h hk1=>?_) ?_
 ·refine VC.block ?_;refine VC.loopP h (fun x=>⟨[(0,.raw (.int .u64 (a0.toNat : Int))),(1,.raw (.int .u64 (a1.toNat : Int))),(5,.raw (.int .u64 (x.toNat : Int)))],[],13,17,0⟩) ?_ ?_
  ·exact sl (by push_cast)
  rintro i_2 b2 (h : Ot a0 a1 i_2 = some b2) hf2;(try push_cast);unfold Ot at h;refine VC.seq ?_;refine vj h (fun x=>⟨[(0,.raw (.int .u64 (a0.toNat : Int))),(1,.raw (.int .u64 (a1.toNat : Int))),(5,.raw (.int .u64 (i_2.toNat : Int))),(13,rb x)],[],21,17,0⟩) (fun v3 h hk3=>?_) ?_
  ·rcases bt (decide (i_2.toNat ≤ a0.toNat)) with hb4 | hb4
   ·replace h:=Ao hb4 h;refine vlG [some 6,some 7,some 8,some 9,some 10,some 11,some 12,some 13] fun _ k=>?_;push_cast [hb4];(repeat refine ao ?_);apply k;clear k;refine ar h hk3 ?_;exact sl (by push_cast [hb4])
   ·replace h:=Av hb4 h;refine vlG [some 6,some 7,some 8,some 9,some 10,some 11,some 12,some 13] fun _ k=>?_;push_cast [hb4];(repeat refine ao ?_);apply k;clear k;refine ar h hk3 ?_;exact sl (by push_cast [hb4])
  ·rintro i_3 (h : On i_2 i_3 = some b2);(try push_cast);unfold On at h;refine vc h (fun hb5 h=>?_) (fun hb5 h=>?_)
   ·refine VC.skip ?_;refine VC.block ?_;refine vl fun _ k=>?_;push_cast;apply k;clear k;refine bk h ?_;exact sl (by push_cast [hb5])
   ·refine VC.exit ?_;replace h:=ol h hf2;refine ar h hk1 ?_;exact sl (by push_cast [hb5])
 ·rintro i_5 (h : Oo i_5 = some r);(try push_cast);unfold Oo at h;refine vs [4] fun _ k=>?_;push_cast;apply k;clear k;refine VC.ret ?_;replace h:=Option.some.inj h;subst h;exact en (by push_cast)
noncomputable def Sz (a0 : Aj) (a1 : Aj) : Option (Aj):=
  po (Ml a0.high a1.high) fun r1=>
  some (Aj.mk (max64 a0.low a1.low) (r1 - 1))
theorem Dk0 {a0 : Aj} {a1 : Aj} {r : Aj} (h : Sz a0 a1 = some r) : Ctr prog 243 [.agg (Bc a0),.agg (Bc a1)] [] (.agg (Bc r)) []:=by
 unfold Sz at h;refine Ctr.ofW Bb func243 rfl call243 0 _ ntmps243 [.cell 4 311] rfl rfl rfl (fun B=>?_);refine vs [2,3,4] fun _ k=>?_;push_cast;apply k;clear k;obtain ⟨r1,hr1,h⟩:=Aa h;refine vsD [some 5,some 6,some 7,some 8,some 9,some 10,some 11,some 12,some 13,some 14,some 15,some 16,none] [4] fun _ k=>?_;refine Ce 8 fun _ l=>?_;push_cast;apply l;clear l;simp only [List.drop_succ_cons,List.drop_zero];push_cast;refine cpD (Ym hr1) ?_;push_cast;refine ⟨rfl,k _ ?_⟩;clear k;refine VC.ret ?_;replace h:=Option.some.inj h;subst h;exact en (by push_cast)
noncomputable def Uf (a0 : Aj) (a1 : Aj) : Option (Aj):=
  po (Ml a0.high a1.high) fun r1=>
  some (Aj.mk 0 (r1 - 1))
theorem Dg0 {a0 : Aj} {a1 : Aj} {r : Aj} (h : Uf a0 a1 = some r) : Ctr prog 245 [.agg (Bc a0),.agg (Bc a1)] [] (.agg (Bc r)) []:=by
 unfold Uf at h;refine Ctr.ofW Bb func245 rfl call245 0 _ ntmps245 [.cell 4 311] rfl rfl rfl (fun B=>?_);refine vs [2,3,4] fun _ k=>?_;push_cast;apply k;clear k;obtain ⟨r1,hr1,h⟩:=Aa h;refine vs [4] fun _ k=>?_;push_cast;refine cp (Ym hr1) ?_;push_cast;apply k;clear k;refine VC.ret ?_;replace h:=Option.some.inj h;subst h;exact en (by push_cast)
noncomputable def Za : Option (Unit):=
  some ()
theorem Ex {r : Unit} (h : Za = some r) : Ctr prog 234 [] [] (.agg [.fn (.func 236) [] [],.fn (.func 237) [] [],.fn (.func 238) [] [],.fn (.func 239) [] [],.fn (.func 240) [] [],.fn (.func 241) [] [],.fn (.func 242) [] [],.fn (.func 243) [] [],.fn (.func 245) [] [],.fn (.func 246) [] [],.fn (.func 247) [] []]) []:=by
 unfold Za at h;refine Ctr.ofW Bb func234 rfl call234 0 _ ntmps234 [.cell 0 318] rfl rfl rfl (fun B=>?_);refine vs [0] fun _ k=>?_;push_cast;apply k;clear k;refine vs [0] fun _ k=>?_;push_cast;apply k;clear k;refine VC.ret ?_;replace h:=Option.some.inj h;subst h;exact en (by push_cast)
noncomputable def Qz (a0 : Int) (a1 : C128) (a2 : C128) (i_1 : Bool) : Option (C128):=
  cond i_1 (
  po (Fo 1 0) fun r4=>
  po (Bp r4) fun r5=>
  some r5) (
  po (some ()) fun r7=>
  cond (a0 == 0) (
  po (Bq a1) fun r9=>
  po (Bq a2) fun r10=>
  po (Sy r9 r10) fun r11=>
  po (Bp r11) fun r12=>
  some r12) (
  cond (a0 == 1) (
  po (Bq a1) fun r14=>
  po (Bq a2) fun r15=>
  po (Ug r14 r15) fun r16=>
  po (Bp r16) fun r17=>
  some r17) (
  cond (a0 == 2) (
  po (Bq a1) fun r19=>
  po (Bq a2) fun r20=>
  po (Pq r19 r20) fun r21=>
  po (Bp r21) fun r22=>
  some r22) (
  cond (a0 == 3) (
  po (Bq a1) fun r24=>
  po (Bq a2) fun r25=>
  po (Sw r24 r25) fun r26=>
  po (Bp r26) fun r27=>
  some r27) (
  cond (a0 == 4) (
  po (Bq a1) fun r29=>
  po (Bq a2) fun r30=>
  po (Pt r29 r30) fun r31=>
  po (Bp r31) fun r32=>
  some r32) (
  cond (a0 == 5) (
  po (Bq a1) fun r34=>
  po (Bq a2) fun r35=>
  po (Pv r34 r35) fun r36=>
  po (Bp r36) fun r37=>
  some r37) (
  cond (a0 == 6) (
  po (Bq a1) fun r39=>
  po (Bq a2) fun r40=>
  po (Sv r39 r40) fun r41=>
  po (Bp r41) fun r42=>
  some r42) (
  cond (a0 == 7) (
  po (Bq a1) fun r44=>
  po (Bq a2) fun r45=>
  po (Sz r44 r45) fun r46=>
  po (Bp r46) fun r47=>
  some r47) (
  cond (a0 == 8) (
  po (Bq a1) fun r49=>
  po (Bq a2) fun r50=>
  po (Uf r49 r50) fun r51=>
  po (Bp r51) fun r52=>
  some r52) (
  cond (a0 == 9) (
  po (Bq a1) fun r54=>
  po (Bq a2) fun r55=>
  po (Ov r54 r55) fun r56=>
  po (Bp r56) fun r57=>
  some r57) (
  cond (a0 == 10) (
  po (Bq a1) fun r59=>
  po (Bq a2) fun r60=>
  po (Oj r59 r60) fun r61=>
  po (Bp r61) fun r62=>
  some r62) (
  none))))))))))))
noncomputable def Rp (a0 : Int) (a1 : C128) (a2 : C128) : Option (C128):=
  po (
  cond (decide (a0 < 0)) (
  some true) (
  some (decide (a0 ≥ 11)))) (fun x=>Qz a0 a1 a2 x)
theorem Go0 {a0 : Int} {a1 : C128} {a2 : C128} {r : C128} (h : Rp a0 a1 a2 = some r) : Ctr prog 212 [ri a0,.raw (.complex .f64 a1.re a1.im),.raw (.complex .f64 a2.re a2.im)] [] (.raw (.complex .f64 r.re r.im)) []:=by
 unfold Rp at h;refine Ctr.ofW Bb func212 rfl call212 0 _ ntmps212 [.tmp 6] rfl rfl rfl (fun B=>?_);refine vs [0,1,2] fun _ k=>?_;push_cast;apply k;clear k;refine VC.seq ?_;refine vj h (fun x=>⟨[(0,ri a0),(1,.raw (.complex .f64 a1.re a1.im)),(2,.raw (.complex .f64 a2.re a2.im)),(12,rb x)],[],7,24,0⟩) (fun v1 h hk1=>?_) ?_
 ·rcases bt (decide (a0 < 0)) with hb2 | hb2
  ·replace h:=Ao hb2 h;refine vlG [some 7,some 8,some 9,some 10,some 11,some 12] fun _ k=>?_;push_cast [hb2];(repeat refine ao ?_);apply k;clear k;refine ar h hk1 ?_;exact sl (by push_cast [hb2])
  ·replace h:=Av hb2 h;refine vlG [some 7,some 8,some 9,some 10,some 11,some 12] fun _ k=>?_;push_cast [hb2];(repeat refine ao ?_);apply k;clear k;refine ar h hk1 ?_;exact sl (by push_cast [hb2])
 ·rintro i_1 (h : Qz a0 a1 a2 i_1 = some r);(try push_cast);unfold Qz at h;refine vc h (fun hb3 h=>?_) (fun hb3 h=>?_)
  ·obtain ⟨r4,hr4,h⟩:=Aa h;obtain ⟨r5,hr5,h⟩:=Aa h;refine vs [6] fun _ k=>?_;push_cast;refine cp (Ms hr4) ?_;push_cast;refine cp (Co hr5) ?_;push_cast;apply k;clear k;refine VC.ret ?_;replace h:=Option.some.inj h;subst h;exact en (by push_cast [hb3])
  ·refine VC.skip ?_;obtain ⟨r7,hr7,h⟩:=Aa h;rcases bt (a0 == 0) with hb8 | hb8
   ·replace h:=Ao hb8 h;have hb8e : a0 = 0:=by simpa using hb8
    have hb8n : a0.toNat = 0:=by omega
    obtain ⟨r9,hr9,h⟩:=Aa h;obtain ⟨r10,hr10,h⟩:=Aa h;obtain ⟨r11,hr11,h⟩:=Aa h;obtain ⟨r12,hr12,h⟩:=Aa h;refine vsD [some 15,some 16,some 17,some 18,some 19,some 20,some 21,some 22,some 23,some 6] [6] fun _ k=>?_;push_cast [hb8n];(repeat refine ao ?_);refine cpD (Ex hr7) ?_;push_cast [hb8n];(repeat refine ao ?_);refine cpD (Cm hr9) ?_;push_cast [hb8n];(repeat refine ao ?_);refine cpD (Cm hr10) ?_;push_cast [hb8n];(repeat refine ao ?_);refine cpD (Dl0 hr11) ?_;push_cast [hb8n];(repeat refine ao ?_);refine cpD (Co hr12) ?_;push_cast [hb8n];(repeat refine ao ?_);refine ⟨rfl,k _ ?_⟩;clear k;refine VC.ret ?_;replace h:=Option.some.inj h;subst h;exact en (by push_cast [hb3])
   ·replace h:=Av hb8 h;rcases bt (a0 == 1) with hb13 | hb13
    ·replace h:=Ao hb13 h;have hb13e : a0 = 1:=by simpa using hb13
     have hb13n : a0.toNat = 1:=by omega
     obtain ⟨r14,hr14,h⟩:=Aa h;obtain ⟨r15,hr15,h⟩:=Aa h;obtain ⟨r16,hr16,h⟩:=Aa h;obtain ⟨r17,hr17,h⟩:=Aa h;refine vsD [some 15,some 16,some 17,some 18,some 19,some 20,some 21,some 22,some 23,some 6] [6] fun _ k=>?_;push_cast [hb13n];(repeat refine ao ?_);refine cpD (Ex hr7) ?_;push_cast [hb13n];(repeat refine ao ?_);refine cpD (Cm hr14) ?_;push_cast [hb13n];(repeat refine ao ?_);refine cpD (Cm hr15) ?_;push_cast [hb13n];(repeat refine ao ?_);refine cpD (Dm0 hr16) ?_;push_cast [hb13n];(repeat refine ao ?_);refine cpD (Co hr17) ?_;push_cast [hb13n];(repeat refine ao ?_);refine ⟨rfl,k _ ?_⟩;clear k;refine VC.ret ?_;replace h:=Option.some.inj h;subst h;exact en (by push_cast [hb3])
    ·replace h:=Av hb13 h;rcases bt (a0 == 2) with hb18 | hb18
     ·replace h:=Ao hb18 h;have hb18e : a0 = 2:=by simpa using hb18
      have hb18n : a0.toNat = 2:=by omega
      obtain ⟨r19,hr19,h⟩:=Aa h;obtain ⟨r20,hr20,h⟩:=Aa h;obtain ⟨r21,hr21,h⟩:=Aa h;obtain ⟨r22,hr22,h⟩:=Aa h;refine vsD [some 15,some 16,some 17,some 18,some 19,some 20,some 21,some 22,some 23,some 6] [6] fun _ k=>?_;push_cast [hb18n];(repeat refine ao ?_);refine cpD (Ex hr7) ?_;push_cast [hb18n];(repeat refine ao ?_);refine cpD (Cm hr19) ?_;push_cast [hb18n];(repeat refine ao ?_);refine cpD (Cm hr20) ?_;push_cast [hb18n];(repeat refine ao ?_);refine cpD (Dr0 hr21) ?_;push_cast [hb18n];(repeat refine ao ?_);refine cpD (Co hr22) ?_;push_cast [hb18n];(repeat refine ao ?_);refine ⟨rfl,k _ ?_⟩;clear k;refine VC.ret ?_;replace h:=Option.some.inj h;subst h;exact en (by push_cast [hb3])
     ·replace h:=Av hb18 h;rcases bt (a0 == 3) with hb23 | hb23
      ·replace h:=Ao hb23 h;have hb23e : a0 = 3:=by simpa using hb23
       have hb23n : a0.toNat = 3:=by omega
       obtain ⟨r24,hr24,h⟩:=Aa h;obtain ⟨r25,hr25,h⟩:=Aa h;obtain ⟨r26,hr26,h⟩:=Aa h;obtain ⟨r27,hr27,h⟩:=Aa h;refine vsD [some 15,some 16,some 17,some 18,some 19,some 20,some 21,some 22,some 23,some 6] [6] fun _ k=>?_;push_cast [hb23n];(repeat refine ao ?_);refine cpD (Ex hr7) ?_;push_cast [hb23n];(repeat refine ao ?_);refine cpD (Cm hr24) ?_;push_cast [hb23n];(repeat refine ao ?_);refine cpD (Cm hr25) ?_;push_cast [hb23n];(repeat refine ao ?_);refine cpD (Dh0 hr26) ?_;push_cast [hb23n];(repeat refine ao ?_);refine cpD (Co hr27) ?_;push_cast [hb23n];(repeat refine ao ?_);refine ⟨rfl,k _ ?_⟩;clear k;refine VC.ret ?_;replace h:=Option.some.inj h;subst h;exact en (by push_cast [hb3])
      ·replace h:=Av hb23 h;rcases bt (a0 == 4) with hb28 | hb28
       ·replace h:=Ao hb28 h;have hb28e : a0 = 4:=by simpa using hb28
        have hb28n : a0.toNat = 4:=by omega
        obtain ⟨r29,hr29,h⟩:=Aa h;obtain ⟨r30,hr30,h⟩:=Aa h;obtain ⟨r31,hr31,h⟩:=Aa h;obtain ⟨r32,hr32,h⟩:=Aa h;refine vsD [some 15,some 16,some 17,some 18,some 19,some 20,some 21,some 22,some 23,some 6] [6] fun _ k=>?_;push_cast [hb28n];(repeat refine ao ?_);refine cpD (Ex hr7) ?_;push_cast [hb28n];(repeat refine ao ?_);refine cpD (Cm hr29) ?_;push_cast [hb28n];(repeat refine ao ?_);refine cpD (Cm hr30) ?_;push_cast [hb28n];(repeat refine ao ?_);refine cpD (Di0 hr31) ?_;push_cast [hb28n];(repeat refine ao ?_);refine cpD (Co hr32) ?_;push_cast [hb28n];(repeat refine ao ?_);refine ⟨rfl,k _ ?_⟩;clear k;refine VC.ret ?_;replace h:=Option.some.inj h;subst h;exact en (by push_cast [hb3])
       ·replace h:=Av hb28 h;rcases bt (a0 == 5) with hb33 | hb33
        ·replace h:=Ao hb33 h;have hb33e : a0 = 5:=by simpa using hb33
         have hb33n : a0.toNat = 5:=by omega
         obtain ⟨r34,hr34,h⟩:=Aa h;obtain ⟨r35,hr35,h⟩:=Aa h;obtain ⟨r36,hr36,h⟩:=Aa h;obtain ⟨r37,hr37,h⟩:=Aa h;refine vsD [some 15,some 16,some 17,some 18,some 19,some 20,some 21,some 22,some 23,some 6] [6] fun _ k=>?_;push_cast [hb33n];(repeat refine ao ?_);refine cpD (Ex hr7) ?_;push_cast [hb33n];(repeat refine ao ?_);refine cpD (Cm hr34) ?_;push_cast [hb33n];(repeat refine ao ?_);refine cpD (Cm hr35) ?_;push_cast [hb33n];(repeat refine ao ?_);refine cpD (Do0 hr36) ?_;push_cast [hb33n];(repeat refine ao ?_);refine cpD (Co hr37) ?_;push_cast [hb33n];(repeat refine ao ?_);refine ⟨rfl,k _ ?_⟩;clear k;refine VC.ret ?_;replace h:=Option.some.inj h;subst h;exact en (by push_cast [hb3])
        ·replace h:=Av hb33 h;rcases bt (a0 == 6) with hb38 | hb38
         ·replace h:=Ao hb38 h;have hb38e : a0 = 6:=by simpa using hb38
          have hb38n : a0.toNat = 6:=by omega
          obtain ⟨r39,hr39,h⟩:=Aa h;obtain ⟨r40,hr40,h⟩:=Aa h;obtain ⟨r41,hr41,h⟩:=Aa h;obtain ⟨r42,hr42,h⟩:=Aa h;refine vsD [some 15,some 16,some 17,some 18,some 19,some 20,some 21,some 22,some 23,some 6] [6] fun _ k=>?_;push_cast [hb38n];(repeat refine ao ?_);refine cpD (Ex hr7) ?_;push_cast [hb38n];(repeat refine ao ?_);refine cpD (Cm hr39) ?_;push_cast [hb38n];(repeat refine ao ?_);refine cpD (Cm hr40) ?_;push_cast [hb38n];(repeat refine ao ?_);refine cpD (Df0 hr41) ?_;push_cast [hb38n];(repeat refine ao ?_);refine cpD (Co hr42) ?_;push_cast [hb38n];(repeat refine ao ?_);refine ⟨rfl,k _ ?_⟩;clear k;refine VC.ret ?_;replace h:=Option.some.inj h;subst h;exact en (by push_cast [hb3])
         ·replace h:=Av hb38 h;rcases bt (a0 == 7) with hb43 | hb43
          ·replace h:=Ao hb43 h;have hb43e : a0 = 7:=by simpa using hb43
           have hb43n : a0.toNat = 7:=by omega
           obtain ⟨r44,hr44,h⟩:=Aa h;obtain ⟨r45,hr45,h⟩:=Aa h;obtain ⟨r46,hr46,h⟩:=Aa h;obtain ⟨r47,hr47,h⟩:=Aa h;refine vsD [some 15,some 16,some 17,some 18,some 19,some 20,some 21,some 22,some 23,some 6] [6] fun _ k=>?_;push_cast [hb43n];(repeat refine ao ?_);refine cpD (Ex hr7) ?_;push_cast [hb43n];(repeat refine ao ?_);refine cpD (Cm hr44) ?_;push_cast [hb43n];(repeat refine ao ?_);refine cpD (Cm hr45) ?_;push_cast [hb43n];(repeat refine ao ?_);refine cpD (Dk0 hr46) ?_;push_cast [hb43n];(repeat refine ao ?_);refine cpD (Co hr47) ?_;push_cast [hb43n];(repeat refine ao ?_);refine ⟨rfl,k _ ?_⟩;clear k;refine VC.ret ?_;replace h:=Option.some.inj h;subst h;exact en (by push_cast [hb3])
          ·replace h:=Av hb43 h;rcases bt (a0 == 8) with hb48 | hb48
           ·replace h:=Ao hb48 h;have hb48e : a0 = 8:=by simpa using hb48
            have hb48n : a0.toNat = 8:=by omega
            obtain ⟨r49,hr49,h⟩:=Aa h;obtain ⟨r50,hr50,h⟩:=Aa h;obtain ⟨r51,hr51,h⟩:=Aa h;obtain ⟨r52,hr52,h⟩:=Aa h;refine vsD [some 15,some 16,some 17,some 18,some 19,some 20,some 21,some 22,some 23,some 6] [6] fun _ k=>?_;push_cast [hb48n];(repeat refine ao ?_);refine cpD (Ex hr7) ?_;push_cast [hb48n];(repeat refine ao ?_);refine cpD (Cm hr49) ?_;push_cast [hb48n];(repeat refine ao ?_);refine cpD (Cm hr50) ?_;push_cast [hb48n];(repeat refine ao ?_);refine cpD (Dg0 hr51) ?_;push_cast [hb48n];(repeat refine ao ?_);refine cpD (Co hr52) ?_;push_cast [hb48n];(repeat refine ao ?_);refine ⟨rfl,k _ ?_⟩;clear k;refine VC.ret ?_;replace h:=Option.some.inj h;subst h;exact en (by push_cast [hb3])
           ·replace h:=Av hb48 h;rcases bt (a0 == 9) with hb53 | hb53
            ·replace h:=Ao hb53 h;have hb53e : a0 = 9:=by simpa using hb53
             have hb53n : a0.toNat = 9:=by omega
             obtain ⟨r54,hr54,h⟩:=Aa h;obtain ⟨r55,hr55,h⟩:=Aa h;obtain ⟨r56,hr56,h⟩:=Aa h;obtain ⟨r57,hr57,h⟩:=Aa h;refine vsD [some 15,some 16,some 17,some 18,some 19,some 20,some 21,some 22,some 23,some 6] [6] fun _ k=>?_;push_cast [hb53n];(repeat refine ao ?_);refine cpD (Ex hr7) ?_;push_cast [hb53n];(repeat refine ao ?_);refine cpD (Cm hr54) ?_;push_cast [hb53n];(repeat refine ao ?_);refine cpD (Cm hr55) ?_;push_cast [hb53n];(repeat refine ao ?_);refine cpD (Cx0 hr56) ?_;push_cast [hb53n];(repeat refine ao ?_);refine cpD (Co hr57) ?_;push_cast [hb53n];(repeat refine ao ?_);refine ⟨rfl,k _ ?_⟩;clear k;refine VC.ret ?_;replace h:=Option.some.inj h;subst h;exact en (by push_cast [hb3])
            ·replace h:=Av hb53 h;rcases bt (a0 == 10) with hb58 | hb58
             ·replace h:=Ao hb58 h;have hb58e : a0 = 10:=by simpa using hb58
              have hb58n : a0.toNat = 10:=by omega
              obtain ⟨r59,hr59,h⟩:=Aa h;obtain ⟨r60,hr60,h⟩:=Aa h;obtain ⟨r61,hr61,h⟩:=Aa h;obtain ⟨r62,hr62,h⟩:=Aa h;refine vsD [some 15,some 16,some 17,some 18,some 19,some 20,some 21,some 22,some 23,some 6] [6] fun _ k=>?_;push_cast [hb58n];(repeat refine ao ?_);refine cpD (Ex hr7) ?_;push_cast [hb58n];(repeat refine ao ?_);refine cpD (Cm hr59) ?_;push_cast [hb58n];(repeat refine ao ?_);refine cpD (Cm hr60) ?_;push_cast [hb58n];(repeat refine ao ?_);refine cpD (Cw0 hr61) ?_;push_cast [hb58n];(repeat refine ao ?_);refine cpD (Co hr62) ?_;push_cast [hb58n];(repeat refine ao ?_);refine ⟨rfl,k _ ?_⟩;clear k;refine VC.ret ?_;replace h:=Option.some.inj h;subst h;exact en (by push_cast [hb3])
             ·replace h:=Av hb58 h;cases h
noncomputable def Pu (r1 : Aj) (i_3 : Bool) : Option (Aj × Bool):=
  cond i_3 (
  some ((Aj.mk r1.low (r1.high - 1)),true)) (
  some (r1,true))
noncomputable def Qe (r1 : Aj) (r2 : Aj) (i_2 : Bool) : Option (Aj × Bool):=
  cond i_2 (
  some ((Aj.mk (r1.low + 1) r1.high),true)) (
  po (
  cond ((r2.low.toNat : Int) == (r2.high.toNat : Int)) (
  some ((r1.high.toNat : Int) == (r2.low.toNat : Int))) (
  some false)) (fun x=>Pu r1 x))
noncomputable def Qw (r1 : Aj) (r2 : Aj) (i_1 : Bool) : Option (Aj × Bool):=
  cond i_1 (
  some (r1,false)) (
  po (
  cond ((r2.low.toNat : Int) == (r2.high.toNat : Int)) (
  some ((r1.low.toNat : Int) == (r2.low.toNat : Int))) (
  some false)) (fun x=>Qe r1 r2 x))
noncomputable def Pn (s_4 : Aj) (i_6 : Bool) : Option (C128 × Bool):=
  cond i_6 (
  po (Fo 1 0) fun r23=>
  po (Bp r23) fun r24=>
  some (r24,false)) (
  po (Bp s_4) fun r25=>
  some (r25,true))
noncomputable def Qv (s_4 : Aj) (i_5 : Bool) : Option (C128 × Bool):=
  po (
  cond i_5 (
  some (decide (s_4.low.toNat > s_4.high.toNat))) (
  some true)) (fun x=>Pn s_4 x)
noncomputable def Rm (a0 : Int) (a1 : C128) (a2 : C128) : Option (C128 × Bool):=
  po (Bq a1) fun r1=>
  po (Bq a2) fun r2=>
  po (
  cond (a0 == 1) (
  some ((Aj.mk (max64 r1.low r2.low) (min64 r1.high r2.high)),true)) (
  cond (a0 == 2) (
  po (
  cond ((r2.low.toNat : Int) == (r2.high.toNat : Int)) (
  cond ((r1.low.toNat : Int) == (r2.low.toNat : Int)) (
  some ((r1.high.toNat : Int) == (r2.low.toNat : Int))) (
  some false)) (
  some false)) (fun x=>Qw r1 r2 x)) (
  cond (a0 == 3) (
  cond (decide ((r2.high.toNat : Int) > 0)) (
  pl ((r2.high - 1)) fun c18=>
  some ((Aj.mk r1.low (min64 r1.high c18)),(decide ((r2.high.toNat : Int) > 0)))) (
  some (r1,(decide ((r2.high.toNat : Int) > 0))))) (
  cond (a0 == 4) (
  some ((Aj.mk (max64 r1.low r2.low) r1.high),true)) (
  some (r1,true)))))) (fun x=>Qv x.1 x.2)
theorem Gp0 {a0 : Int} {a1 : C128} {a2 : C128} {r : C128 × Bool} (h : Rm a0 a1 a2 = some r) : Ctr prog 215 [ri a0,.raw (.complex .f64 a1.re a1.im),.raw (.complex .f64 a2.re a2.im)] [] (.tup [.raw (.complex .f64 r.1.re r.1.im),rb r.2]) []:=by
 unfold Rm at h;refine Ctr.ofW Bb func215 rfl call215 0 _ ntmps215 [.tmp 6,.tmp 7] rfl rfl rfl (fun B=>?_);refine vs [0,1,2] fun _ k=>?_;push_cast;apply k;clear k;obtain ⟨r1,hr1,h⟩:=Aa h;obtain ⟨r2,hr2,h⟩:=Aa h;refine vs [0,8,9] fun _ k=>?_;push_cast;refine cp (Cm hr1) ?_;push_cast;refine cp (Cm hr2) ?_;push_cast;apply k;clear k;refine vs [0,8,9,10] fun _ k=>?_;push_cast;apply k;clear k;refine vj h (fun x=>⟨[(8,.ref 6 0),(10,rb x.2)],[(6,.box 311 (Bc x.1))],61,114,0⟩) (fun v3 h hk3=>?_) ?_
 ·refine vs [8,9,10,16] fun _ k=>?_;push_cast;apply k;clear k;refine VC.block ?_;refine vs [8,9,10,16,17] fun _ k=>?_;push_cast;apply k;clear k;refine vc h (fun hb4 h=>?_) (fun hb4 h=>?_)
  ·refine vlD [some 19,some 20,some 21,some 22,some 23,some 24,some 25,some 26,some 27,some 28,some 29,none,some 30,none] fun _ k=>?_;refine Ce 8 fun _ l=>?_;push_cast;apply l;clear l;simp only [List.drop_succ_cons,List.drop_zero];push_cast;refine ⟨rfl,k _ ?_⟩;clear k;refine ar h hk3 ?_;exact sl (by push_cast [hb4])
  ·refine vs [8,9,10,16,31] fun _ k=>?_;push_cast;apply k;clear k;refine vc h (fun hb5 h=>?_) (fun hb5 h=>?_)
   ·refine vs [8,9,10,11] fun _ k=>?_;push_cast;apply k;clear k;refine VC.block ?_;refine vj h (fun x=>⟨[(8,.ref 6 0),(9,.ref 7 0),(10,rb true),(11,rb ((r2.low.toNat : Int) == (r2.high.toNat : Int))),(38,rb x)],[(6,.box 311 (Bc r1)),(7,.box 311 (Bc r2))],38,114,0⟩) (fun v6 h hk6=>?_) ?_
    ·rcases bt ((r2.low.toNat : Int) == (r2.high.toNat : Int)) with hb7 | hb7
     ·replace h:=Ao hb7 h;rcases bt ((r1.low.toNat : Int) == (r2.low.toNat : Int)) with hb8 | hb8
      ·replace h:=Ao hb8 h;refine vlG [some 39,some 40,some 41,some 42,some 43,some 44,some 45,some 46,some 47,some 48,some 49,some 50,some 51,some 52,some 53,some 38] fun _ k=>?_;refine Af 8 fun _ l=>?_;push_cast [hb7,hb8];(repeat refine ao ?_);apply l;clear l;simp only [List.drop_succ_cons,List.drop_zero];push_cast [hb7,hb8];(repeat refine ao ?_);apply k;clear k;refine ar h hk6 ?_;exact sl (by push_cast [hb4,hb5,hb7,hb8])
      ·replace h:=Av hb8 h;refine vlG [some 39,some 40,some 41,some 42,some 43,some 44,some 45,some 46,some 47,some 48,some 49,some 50,some 51,some 52,some 53,some 38] fun _ k=>?_;refine Af 8 fun _ l=>?_;push_cast [hb7,hb8];(repeat refine ao ?_);apply l;clear l;simp only [List.drop_succ_cons,List.drop_zero];push_cast [hb7,hb8];(repeat refine ao ?_);apply k;clear k;refine ar h hk6 ?_;exact sl (by push_cast [hb4,hb5,hb7,hb8])
     ·replace h:=Av hb7 h;refine vlG [some 39,some 40,some 41,some 42,some 43,some 44,some 45,some 46,some 47,some 48,some 49,some 50,some 51,some 52,some 53,some 38] fun _ k=>?_;refine Af 8 fun _ l=>?_;push_cast [hb7];(repeat refine ao ?_);apply l;clear l;simp only [List.drop_succ_cons,List.drop_zero];push_cast [hb7];(repeat refine ao ?_);apply k;clear k;refine ar h hk6 ?_;exact sl (by push_cast [hb4,hb5,hb7])
    ·rintro i_1 (h : Qw r1 r2 i_1 = some v3);(try push_cast);unfold Qw at h;refine vc h (fun hb9 h=>?_) (fun hb9 h=>?_)
     ·refine vl fun _ k=>?_;push_cast;apply k;clear k;refine ar h hk3 ?_;exact sl (by push_cast [hb4,hb5,hb9])
     ·refine vj h (fun x=>⟨[(8,.ref 6 0),(9,.ref 7 0),(10,rb true),(11,rb ((r2.low.toNat : Int) == (r2.high.toNat : Int))),(54,rb x)],[(6,.box 311 (Bc r1)),(7,.box 311 (Bc r2))],47,114,0⟩) (fun v10 h hk10=>?_) ?_
      ·rcases bt ((r2.low.toNat : Int) == (r2.high.toNat : Int)) with hb11 | hb11
       ·replace h:=Ao hb11 h;refine vlG [some 55,some 56,some 57,some 58,some 59,some 60,some 61,some 62,some 54] fun _ k=>?_;push_cast [hb11];(repeat refine ao ?_);apply k;clear k;refine ar h hk10 ?_;exact sl (by push_cast [hb4,hb5,hb9,hb11])
       ·replace h:=Av hb11 h;refine vlG [some 55,some 56,some 57,some 58,some 59,some 60,some 61,some 62,some 54] fun _ k=>?_;push_cast [hb11];(repeat refine ao ?_);apply k;clear k;refine ar h hk10 ?_;exact sl (by push_cast [hb4,hb5,hb9,hb11])
      ·rintro i_2 (h : Qe r1 r2 i_2 = some v3);(try push_cast);unfold Qe at h;refine vc h (fun hb12 h=>?_) (fun hb12 h=>?_)
       ·refine vl fun _ k=>?_;push_cast;apply k;clear k;refine ar h hk3 ?_;exact sl (by push_cast [hb4,hb5,hb9,hb12])
       ·refine vj h (fun x=>⟨[(8,.ref 6 0),(10,rb true),(67,rb x)],[(6,.box 311 (Bc r1))],56,114,0⟩) (fun v13 h hk13=>?_) ?_
        ·rcases bt ((r2.low.toNat : Int) == (r2.high.toNat : Int)) with hb14 | hb14
         ·replace h:=Ao hb14 h;refine vlG [some 68,some 69,some 70,some 71,some 72,some 73,some 74,some 75,some 67] fun _ k=>?_;push_cast [hb14];(repeat refine ao ?_);apply k;clear k;refine ar h hk13 ?_;exact sl (by push_cast [hb4,hb5,hb9,hb12,hb14])
         ·replace h:=Av hb14 h;refine vlG [some 68,some 69,some 70,some 71,some 72,some 73,some 74,some 75,some 67] fun _ k=>?_;push_cast [hb14];(repeat refine ao ?_);apply k;clear k;refine ar h hk13 ?_;exact sl (by push_cast [hb4,hb5,hb9,hb12,hb14])
        ·rintro i_3 (h : Pu r1 i_3 = some v3);(try push_cast);unfold Pu at h;refine vc h (fun hb15 h=>?_) (fun hb15 h=>?_)
         ·refine vl fun _ k=>?_;push_cast;apply k;clear k;refine ar h hk3 ?_;exact sl (by push_cast [hb4,hb5,hb9,hb12,hb15])
         ·refine VC.skip ?_;refine ar h hk3 ?_;exact sl (by push_cast [hb4,hb5,hb9,hb12,hb15])
   ·refine vs [8,9,10,16,80] fun _ k=>?_;push_cast;apply k;clear k;refine vc h (fun hb16 h=>?_) (fun hb16 h=>?_)
    ·refine vs [8,9,10] fun _ k=>?_;push_cast;apply k;clear k;refine vs [8,9,10,85] fun _ k=>?_;push_cast;apply k;clear k;refine vc h (fun hb17 h=>?_) (fun hb17 h=>?_)
     ·obtain ⟨c18,hc18,h⟩:=Bn h;have hc18i : (((r2.high - 1)).toNat : Int) = (c18.toNat : Int):=by rw [hc18]
      push_cast at hc18i;refine vl fun _ k=>?_;push_cast [hc18i];(repeat refine ao ?_);apply k;clear k;refine ar h hk3 ?_;exact sl (by push_cast [hb4,hb5,hb16,hb17,hc18i])
     ·refine VC.skip ?_;refine ar h hk3 ?_;exact sl (by push_cast [hb4,hb5,hb16,hb17])
    ·refine vs [8,9,10,93] fun _ k=>?_;push_cast;apply k;clear k;refine vc h (fun hb19 h=>?_) (fun hb19 h=>?_)
     ·refine vl fun _ k=>?_;push_cast;apply k;clear k;refine ar h hk3 ?_;exact sl (by push_cast [hb4,hb5,hb16,hb19])
     ·refine VC.skip ?_;refine ar h hk3 ?_;exact sl (by push_cast [hb4,hb5,hb16,hb19])
 ·rintro ⟨s_4,i_5⟩ (h : Qv s_4 i_5 = some r);(try push_cast);unfold Qv at h;refine VC.seq ?_;refine vj h (fun x=>⟨[(8,.ref 6 0),(109,rb x)],[(6,.box 311 (Bc s_4))],70,114,0⟩) (fun v20 h hk20=>?_) ?_
  ·rcases bt i_5 with hb21 | hb21
   ·replace h:=Ao hb21 h;refine vlG [some 101,some 102,some 103,some 104,some 105,some 106,some 107,some 108,some 109] fun _ k=>?_;push_cast [hb21];(repeat refine ao ?_);apply k;clear k;refine ar h hk20 ?_;exact sl (by push_cast [hb21])
   ·replace h:=Av hb21 h;refine vlG [some 101,some 102,some 103,some 104,some 105,some 106,some 107,some 108,some 109] fun _ k=>?_;push_cast [hb21];(repeat refine ao ?_);apply k;clear k;refine ar h hk20 ?_;exact sl (by push_cast [hb21])
  ·rintro i_6 (h : Pn s_4 i_6 = some r);(try push_cast);unfold Pn at h;refine vc h (fun hb22 h=>?_) (fun hb22 h=>?_)
   ·obtain ⟨r23,hr23,h⟩:=Aa h;obtain ⟨r24,hr24,h⟩:=Aa h;refine vs [6,7] fun _ k=>?_;push_cast;refine cp (Ms hr23) ?_;push_cast;refine cp (Co hr24) ?_;push_cast;apply k;clear k;refine VC.ret ?_;replace h:=Option.some.inj h;subst h;exact en (by push_cast [hb22])
   ·refine VC.skip ?_;obtain ⟨r25,hr25,h⟩:=Aa h;refine vs [6,7] fun _ k=>?_;push_cast;refine cp (Co hr25) ?_;push_cast;apply k;clear k;refine VC.ret ?_;replace h:=Option.some.inj h;subst h;exact en (by push_cast [hb22])
noncomputable def Nn (a0 : C128) (a1 : C128) : Option (C128):=
  po (Bq a0) fun r1=>
  po (Bq a1) fun r2=>
  pl ((min64 r1.low r2.low)) fun c3=>
  pl ((max64 r1.high r2.high)) fun c4=>
  po (Bp (Aj.mk c3 c4)) fun r5=>
  some r5
theorem Fx0 {a0 : C128} {a1 : C128} {r : C128} (h : Nn a0 a1 = some r) : Ctr prog 208 [.raw (.complex .f64 a0.re a0.im),.raw (.complex .f64 a1.re a1.im)] [] (.raw (.complex .f64 r.re r.im)) []:=by
 unfold Nn at h;refine Ctr.ofW Bb func208 rfl call208 0 _ ntmps208 [.tmp 4] rfl rfl rfl (fun B=>?_);refine vs [0,1] fun _ k=>?_;push_cast;apply k;clear k;obtain ⟨r1,hr1,h⟩:=Aa h;obtain ⟨r2,hr2,h⟩:=Aa h;refine vs [5,6] fun _ k=>?_;push_cast;refine cp (Cm hr1) ?_;push_cast;refine cp (Cm hr2) ?_;push_cast;apply k;clear k;obtain ⟨c3,hc3,h⟩:=Bn h;have hc3i : (((min64 r1.low r2.low)).toNat : Int) = (c3.toNat : Int):=by rw [hc3]
 push_cast at hc3i;obtain ⟨c4,hc4,h⟩:=Bn h;have hc4i : (((max64 r1.high r2.high)).toNat : Int) = (c4.toNat : Int):=by rw [hc4]
 push_cast at hc4i;obtain ⟨r5,hr5,h⟩:=Aa h;refine vs [4] fun _ k=>?_;refine Af 8 fun _ l=>?_;push_cast [hc3i,hc4i];(repeat refine ao ?_);apply l;clear l;simp only [List.drop_succ_cons,List.drop_zero];push_cast [hc3i,hc4i];(repeat refine ao ?_);refine cp (Co hr5) ?_;push_cast [hc3i,hc4i];(repeat refine ao ?_);apply k;clear k;refine VC.ret ?_;replace h:=Option.some.inj h;subst h;exact en (by push_cast [hc3i,hc4i])
noncomputable def Nk (a0 : C128) : Option (UInt32 × UInt32 × Bool):=
  po (Iy a0) fun r1=>
  cond (!r1) (
  some (0,0,false)) (
  po (Bq a0) fun r3=>
  some (r3.low.toUInt32,r3.high.toUInt32,true))
theorem Ax0 {a0 : C128} {r : UInt32 × UInt32 × Bool} (h : Nk a0 = some r) : Ctr prog 219 [.raw (.complex .f64 a0.re a0.im)] [] (.tup [ru r.1,ru r.2.1,rb r.2.2]) []:=by
 unfold Nk at h;refine Ctr.ofW Bb func219 rfl call219 0 _ ntmps219 [.tmp 2,.tmp 3,.tmp 4] rfl rfl rfl (fun B=>?_);refine vs [0] fun _ k=>?_;push_cast;apply k;clear k;refine VC.seq ?_;obtain ⟨r1,hr1,h⟩:=Aa h;refine vs [0,8] fun _ k=>?_;push_cast;refine cp (Uz hr1) ?_;push_cast;apply k;clear k;refine vc h (fun hb2 h=>?_) (fun hb2 h=>?_)
 ·refine vs [2,3,4] fun _ k=>?_;push_cast;apply k;clear k;refine VC.ret ?_;replace h:=Option.some.inj h;subst h;exact en (by push_cast [hb2])
 ·refine VC.skip ?_;obtain ⟨r3,hr3,h⟩:=Aa h;refine vs [5] fun _ k=>?_;push_cast;refine cp (Cm hr3) ?_;push_cast;apply k;clear k;refine vsD [some 11,some 12,some 13,some 14,some 15,some 16,some 2,some 3,some 4] [2,3,4] fun _ k=>?_;push_cast;refine ⟨rfl,k _ ?_⟩;clear k;refine VC.ret ?_;replace h:=Option.some.inj h;subst h;exact en (by push_cast [hb2])
theorem sh_gS (a : A8 Bool) (r : List AV) {n : Nat} (hn : n < 8) : (.raw (.bool a.a0) :: .raw (.bool a.a1) :: .raw (.bool a.a2) :: .raw (.bool a.a3) :: .raw (.bool a.a4) :: .raw (.bool a.a5) :: .raw (.bool a.a6) :: .raw (.bool a.a7) :: r)[n]? = some (.raw (.bool (a.get n))):=by
  rcases A8.cases hn with rfl | rfl | rfl | rfl | rfl | rfl | rfl | rfl <;> rfl
theorem sh_gR (c0 c1 c2 c3 c4 c5 c6 c7 : AV) (b : A8 C128) (r : List AV) {n : Nat} (hn : n < 8) : (c0 :: c1 :: c2 :: c3 :: c4 :: c5 :: c6 :: c7 :: .raw (.complex .f64 b.a0.re b.a0.im) :: .raw (.complex .f64 b.a1.re b.a1.im) :: .raw (.complex .f64 b.a2.re b.a2.im) :: .raw (.complex .f64 b.a3.re b.a3.im) :: .raw (.complex .f64 b.a4.re b.a4.im) :: .raw (.complex .f64 b.a5.re b.a5.im) :: .raw (.complex .f64 b.a6.re b.a6.im) :: .raw (.complex .f64 b.a7.re b.a7.im) :: r)[8 + n]? = some (.raw (.complex .f64 (b.get n).re (b.get n).im)):=by
  rcases A8.cases hn with rfl | rfl | rfl | rfl | rfl | rfl | rfl | rfl <;> rfl
theorem sh_sS (a : A8 Bool) (r : List AV) (v : Bool) {n : Nat} (hn : n < 8) : (.raw (.bool a.a0) :: .raw (.bool a.a1) :: .raw (.bool a.a2) :: .raw (.bool a.a3) :: .raw (.bool a.a4) :: .raw (.bool a.a5) :: .raw (.bool a.a6) :: .raw (.bool a.a7) :: r).set n (.raw (.bool v)) = .raw (.bool (a.set n v).a0) :: .raw (.bool (a.set n v).a1) :: .raw (.bool (a.set n v).a2) :: .raw (.bool (a.set n v).a3) :: .raw (.bool (a.set n v).a4) :: .raw (.bool (a.set n v).a5) :: .raw (.bool (a.set n v).a6) :: .raw (.bool (a.set n v).a7) :: r:=by
  rcases A8.cases hn with rfl | rfl | rfl | rfl | rfl | rfl | rfl | rfl <;> rfl
theorem sh_sR (c0 c1 c2 c3 c4 c5 c6 c7 : AV) (b : A8 C128) (r : List AV) (x y : Nat) {n : Nat} (hn : n < 8) : (c0 :: c1 :: c2 :: c3 :: c4 :: c5 :: c6 :: c7 :: .raw (.complex .f64 b.a0.re b.a0.im) :: .raw (.complex .f64 b.a1.re b.a1.im) :: .raw (.complex .f64 b.a2.re b.a2.im) :: .raw (.complex .f64 b.a3.re b.a3.im) :: .raw (.complex .f64 b.a4.re b.a4.im) :: .raw (.complex .f64 b.a5.re b.a5.im) :: .raw (.complex .f64 b.a6.re b.a6.im) :: .raw (.complex .f64 b.a7.re b.a7.im) :: r).set (8 + n) (.raw (.complex .f64 x y)) = c0 :: c1 :: c2 :: c3 :: c4 :: c5 :: c6 :: c7 :: .raw (.complex .f64 (b.set n ⟨x,y⟩).a0.re (b.set n ⟨x,y⟩).a0.im) :: .raw (.complex .f64 (b.set n ⟨x,y⟩).a1.re (b.set n ⟨x,y⟩).a1.im) :: .raw (.complex .f64 (b.set n ⟨x,y⟩).a2.re (b.set n ⟨x,y⟩).a2.im) :: .raw (.complex .f64 (b.set n ⟨x,y⟩).a3.re (b.set n ⟨x,y⟩).a3.im) :: .raw (.complex .f64 (b.set n ⟨x,y⟩).a4.re (b.set n ⟨x,y⟩).a4.im) :: .raw (.complex .f64 (b.set n ⟨x,y⟩).a5.re (b.set n ⟨x,y⟩).a5.im) :: .raw (.complex .f64 (b.set n ⟨x,y⟩).a6.re (b.set n ⟨x,y⟩).a6.im) :: .raw (.complex .f64 (b.set n ⟨x,y⟩).a7.re (b.set n ⟨x,y⟩).a7.im) :: r:=by
  rcases A8.cases hn with rfl | rfl | rfl | rfl | rfl | rfl | rfl | rfl <;> rfl
def tabf (l : List (Nat × Nat)) (k : Nat) : Nat:=(look l k).getD k
def tabi (l : List (Nat × Nat)) : List (Nat × Nat):=l.map fun p=>(p.2,p.1)
def tabc (l : List (Nat × Nat)) : Bool:=l.all fun p=>tabf (tabi l) p.2 == p.1 && tabf l p.1 == p.2 && (look l p.2).isSome && (look (tabi l) p.1).isSome
theorem look_mem {α : Type} {l : List (Nat × α)} {k : Nat} {v : α} (h : look l k = some v) : (k,v) ∈ l:=by
  induction l with
  | nil=>cases h
  | cons p l ih=>
    obtain ⟨j,u⟩:=p
    simp only [look] at h
    split at h
    · rename_i e
      injection h with h
      rw [e,h]
      exact List.mem_cons_self
    · exact List.mem_cons_of_mem _ (ih h)
theorem Bij.tab {l : List (Nat × Nat)} (h : tabc l = true) : Bij (tabf l) (tabf (tabi l)):=by
  have key : ∀ p ∈ l,(tabf (tabi l) p.2 = p.1 ∧ tabf l p.1 = p.2) ∧ (look l p.2).isSome = true ∧ (look (tabi l) p.1).isSome = true:=by
    intro p hp
    have:=(List.all_eq_true.1 h) p hp
    simp only [Bool.and_eq_true,beq_iff_eq] at this
    exact ⟨⟨this.1.1.1,this.1.1.2⟩,this.1.2,this.2⟩
  constructor
  · intro k
    cases hl : look l k with
    | some v=>
      have e : tabf l k = v:=by simp [tabf,hl]
      rw [e]
      exact (key _ (look_mem hl)).1.1
    | none=>
      have e : tabf l k = k:=by simp [tabf,hl]
      rw [e]
      cases hi : look (tabi l) k with
      | none=>simp [tabf,hi]
      | some u=>
        obtain ⟨q,hq,e2⟩:=List.mem_map.1 (look_mem hi)
        injection e2 with e3 e4
        have:=(key q hq).2.1
        rw [e3,hl] at this
        cases this
  · intro k
    cases hi : look (tabi l) k with
    | some u=>
      have e : tabf (tabi l) k = u:=by simp [tabf,hi]
      rw [e]
      obtain ⟨q,hq,e2⟩:=List.mem_map.1 (look_mem hi)
      injection e2 with e3 e4
      have:=(key q hq).1.2
      rw [e4,e3] at this
      exact this
    | none=>
      have e : tabf (tabi l) k = k:=by simp [tabf,hi]
      rw [e]
      cases hl : look l k with
      | none=>simp [tabf,hl]
      | some v=>
        have:=(key _ (look_mem hl)).2.2
        rw [hi] at this
        cases this
attribute [push_cast] tabf tabi
theorem maxI_un (a b : Int) : maxI a b = if b > a then b else a:=rfl
theorem minI_un (a b : Int) : minI a b = if b < a then b else a:=rfl
attribute [push_cast] maxI_un minI_un
attribute [push_cast] Ag sh_gS sh_gR sh_sS sh_sR
noncomputable def Vr (i_3 : Int) (s_4 : Ak) : Option ((Ak × Int) ⊕ ((Ak) ⊕ (Bool))):=
  some (Sum.inl (s_4,(IntKind.i64.wrap (i_3 + 1))))
noncomputable def Pd (a0 : Ak) (s_2 : Ak) (i_3 : Int) : Option ((Ak × Int) ⊕ ((Ak) ⊕ (Bool))):=
  cond (decide (i_3 < 8)) (
  pm (
  pg (0 ≤ i_3 ∧ i_3 < 8) <|
  cond (!(a0.Set.get i_3.toNat)) (
  pl (s_2.R.set i_3.toNat (C128.mk 0 0)) fun y7=>
  some (Sum.inl (Ak.mk s_2.Set y7))) (
  po (Iy (a0.R.get i_3.toNat)) fun r8=>
  cond (!r8) (
  some (Sum.inr (Sum.inr (Sum.inr false)))) (
  some (Sum.inl s_2)))) (fun x=>Vr i_3 x)) (
  some (Sum.inr (Sum.inl s_2)))
noncomputable def Se (a0 : Ak) (s_7 : Ak) : Option (Bool):=
  some ((ceq s_7.R.a0 a0.R.a0) && ((ceq s_7.R.a1 a0.R.a1) && ((ceq s_7.R.a2 a0.R.a2) && ((ceq s_7.R.a3 a0.R.a3) && ((ceq s_7.R.a4 a0.R.a4) && ((ceq s_7.R.a5 a0.R.a5) && ((ceq s_7.R.a6 a0.R.a6) && (ceq s_7.R.a7 a0.R.a7))))))))
noncomputable def Gj (a0 : Ak) : Option (Bool):=
  pm (
  lpU (fun x=>Pd a0 x.1 x.2) (a0,0)) (fun x=>Se a0 x)
theorem Ka {a0 : Ak} {r : Bool} (h : Gj a0 = some r) : Ctr prog 206 [.agg (Ag a0)] [] (rb r) []:=by
 unfold Gj at h;refine Ctr.ofW Bb func206 rfl call206 0 _ ntmps206 [.tmp 2] rfl rfl rfl (fun B=>?_);refine vs [1] fun _ k=>?_;push_cast;apply k;clear k;refine vs [1,3] fun _ k=>?_;push_cast;apply k;clear k;refine vm h (fun x=>⟨[(1,.ref 0 0),(3,.ref 3 0)],[(0,.box 217 (Ag a0)),(3,.box 217 (Ag x))],23,29,0⟩) (fun v1 h hk1=>?_) ?_
 ·refine vs [1,3,6] fun _ k=>?_;push_cast;apply k;clear k;refine VC.block ?_;refine VC.loopP h (fun x=>⟨[(1,.ref 0 0),(3,.ref 3 0),(6,ri x.2)],[(0,.box 217 (Ag a0)),(3,.box 217 (Ag x.1))],22,29,0⟩) ?_ ?_
  ·exact sl (by push_cast)
  rintro ⟨s_2,i_3⟩ b2 (h : Pd a0 s_2 i_3 = some b2) hf2;(try push_cast);unfold Pd at h;refine vs [1,3,6,7] fun _ k=>?_;push_cast;apply k;clear k;refine VC.seq ?_;refine vc h (fun hb3 h=>?_) (fun hb3 h=>?_)
  ·refine VC.skip ?_;refine vm h (fun x=>⟨[(1,.ref 0 0),(3,.ref 3 0),(6,ri i_3)],[(0,.box 217 (Ag a0)),(3,.box 217 (Ag x))],36,29,0⟩) (fun v4 h hk4=>?_) ?_
   ·refine VC.block ?_;refine vs [1,3,4,6] fun _ k=>?_;push_cast;apply k;clear k;obtain ⟨hg5,h⟩:=Bs h;have hg5n : i_3.toNat < 8:=by omega
    refine vs [1,3,4,6,13] fun _ k=>?_;push_cast [hg5,hg5n];(repeat refine ao ?_);apply k;clear k;refine vc h (fun hb6 h=>?_) (fun hb6 h=>?_)
    ·obtain ⟨y7,hy7,h⟩:=Bn h;refine vl fun _ k=>?_;push_cast [hg5n];(repeat refine ao ?_);apply k;clear k;refine am h hk4 ?_;exact sl (by push_cast [hb3,hb6,hy7])
    ·obtain ⟨r8,hr8,h⟩:=Aa h;refine vs [1,3,6,22] fun _ k=>?_;push_cast [hg5n];(repeat refine ao ?_);refine cp (Uz hr8) ?_;push_cast [hg5n];(repeat refine ao ?_);apply k;clear k;refine vc h (fun hb9 h=>?_) (fun hb9 h=>?_)
     ·refine vs [2] fun _ k=>?_;push_cast;apply k;clear k;refine VC.ret ?_;replace h:=om h hk4;replace h:=ol h hf2;replace h:=om h hk1;replace h:=Option.some.inj h;subst h;exact en (by push_cast [hb3,hb6,hb9])
     ·refine VC.skip ?_;refine am h hk4 ?_;exact sl (by push_cast [hb3,hb6,hb9])
   ·rintro s_4 (h : Vr i_3 s_4 = some b2);(try push_cast);unfold Vr at h;refine vl fun _ k=>?_;push_cast;apply k;clear k;refine bk h ?_;exact sl (by push_cast [hb3])
  ·refine VC.exit ?_;replace h:=ol h hf2;refine am h hk1 ?_;exact sl (by push_cast [hb3])
 ·rintro s_7 (h : Se a0 s_7 = some r);(try push_cast);unfold Se at h;refine vs [2] fun _ k=>?_;push_cast;apply k;clear k;refine VC.ret ?_;replace h:=Option.some.inj h;subst h;exact en (by push_cast)
noncomputable def Io (a0 : UInt32) (a1 : UInt32) : Option (C128):=
  pl ((min32 a0 a1).toUInt64) fun c1=>
  pl ((max32 a0 a1).toUInt64) fun c2=>
  po (Bp (Aj.mk c1 c2)) fun r3=>
  some r3
theorem Sp {a0 : UInt32} {a1 : UInt32} {r : C128} (h : Io a0 a1 = some r) : Ctr prog 205 [ru a0,ru a1] [] (.raw (.complex .f64 r.re r.im)) []:=by
 unfold Io at h;refine Ctr.ofW Bb func205 rfl call205 0 _ ntmps205 [.tmp 4] rfl rfl rfl (fun B=>?_);refine vs [0,1] fun _ k=>?_;push_cast;apply k;clear k;obtain ⟨c1,hc1,h⟩:=Bn h;have hc1i : (((min32 a0 a1).toUInt64).toNat : Int) = (c1.toNat : Int):=by rw [hc1]
 push_cast at hc1i;obtain ⟨c2,hc2,h⟩:=Bn h;have hc2i : (((max32 a0 a1).toUInt64).toNat : Int) = (c2.toNat : Int):=by rw [hc2]
 push_cast at hc2i;obtain ⟨r3,hr3,h⟩:=Aa h;refine vs [4] fun _ k=>?_;refine Af 8 fun _ l=>?_;push_cast [hc1i,hc2i];(repeat refine ao ?_);apply l;clear l;simp only [List.drop_succ_cons,List.drop_zero];push_cast [hc1i,hc2i];(repeat refine ao ?_);refine cp (Co hr3) ?_;push_cast [hc1i,hc2i];(repeat refine ao ?_);apply k;clear k;refine VC.ret ?_;replace h:=Option.some.inj h;subst h;exact en (by push_cast [hc1i,hc2i])
noncomputable def Oe : Option (C128):=
  po (Io 0 4294967295) fun r1=>
  some r1
theorem Yf {r : C128} (h : Oe = some r) : Ctr prog 173 [] [] (.raw (.complex .f64 r.re r.im)) []:=by
 unfold Oe at h;refine Ctr.ofW Bb func173 rfl call173 0 _ ntmps173 [.tmp 0] rfl rfl rfl (fun B=>?_);refine vs [] fun _ k=>?_;push_cast;apply k;clear k;obtain ⟨r1,hr1,h⟩:=Aa h;refine vs [0] fun _ k=>?_;push_cast;refine cp (Sp hr1) ?_;push_cast;apply k;clear k;refine VC.ret ?_;replace h:=Option.some.inj h;subst h;exact en (by push_cast)
noncomputable def Sr (i_1 : Bool) : Option (Bool):=
  some i_1
noncomputable def Nz (a0 : Int) : Option (Bool):=
  po (
  cond (decide (a0 ≥ 0)) (
  some (decide (a0 < 8))) (
  some false)) (fun x=>Sr x)
theorem Zl {a0 : Int} {r : Bool} (h : Nz a0 = some r) : Ctr prog 229 [ri a0] [] (rb r) []:=by
 unfold Nz at h;refine Ctr.ofW Bb func229 rfl call229 0 _ ntmps229 [.tmp 2] rfl rfl rfl (fun B=>?_);refine vs [0] fun _ k=>?_;push_cast;apply k;clear k;refine vj h (fun x=>⟨[(2,rb x)],[],8,9,0⟩) (fun v1 h hk1=>?_) ?_
 ·rcases bt (decide (a0 ≥ 0)) with hb2 | hb2
  ·replace h:=Ao hb2 h;refine vlG [some 3,some 4,some 5,some 6,some 7,some 8,some 2] fun _ k=>?_;push_cast [hb2];(repeat refine ao ?_);apply k;clear k;refine ar h hk1 ?_;exact sl (by push_cast [hb2])
  ·replace h:=Av hb2 h;refine vlG [some 3,some 4,some 5,some 6,some 7,some 8,some 2] fun _ k=>?_;push_cast [hb2];(repeat refine ao ?_);apply k;clear k;refine ar h hk1 ?_;exact sl (by push_cast [hb2])
 ·rintro i_1 (h : Sr i_1 = some r);(try push_cast);unfold Sr at h;refine VC.ret ?_;replace h:=Option.some.inj h;subst h;exact en (by push_cast)
noncomputable def Pb (a0 : Ak) (a1 : Int) (i_1 : C128) : Option (Ak):=
  pg (0 ≤ a1 ∧ a1 < 8) <|
  pl (a0.Set.set a1.toNat true) fun y10=>
  pl (a0.R.set a1.toNat i_1) fun y11=>
  some (Ak.mk y10 y11)
noncomputable def Ip (a0 : Ak) (a1 : Int) (a2 : C128) : Option (Ak):=
  pm (
  po (Gj a0) fun r2=>
  cond (!r2) (
  some (Sum.inr (Ak.mk (A8.mk false false false false false false false false) (A8.mk (C128.mk 0 0) (C128.mk 0 0) (C128.mk 0 0) (C128.mk 0 0) (C128.mk 0 0) (C128.mk 0 0) (C128.mk 0 0) (C128.mk 0 0))))) (
  po (Nz a1) fun r4=>
  cond (!r4) (
  some (Sum.inr a0)) (
  po (Iy a2) fun r6=>
  cond (!r6) (
  po (Oe) fun r8=>
  some (Sum.inl r8)) (
  some (Sum.inl a2))))) (fun x=>Pb a0 a1 x)
theorem Wd {a0 : Ak} {a1 : Int} {a2 : C128} {r : Ak} (h : Ip a0 a1 a2 = some r) : Ctr prog 207 [.agg (Ag a0),ri a1,.raw (.complex .f64 a2.re a2.im)] [] (.agg (Ag r)) []:=by
 unfold Ip at h;refine Ctr.ofW Bb func207 rfl call207 0 _ ntmps207 [.cell 6 217] rfl rfl rfl (fun B=>?_);refine vs [1,2,3,6] fun _ k=>?_;push_cast;apply k;clear k;refine vm h (fun x=>⟨[(1,ri a1),(2,.raw (.complex .f64 x.re x.im)),(3,.ref 0 0),(6,.ref 1 0)],[(0,.box 217 (Ag a0)),(1,.box 217 (Ag (Ak.mk (A8.mk false false false false false false false false) (A8.mk (C128.mk 0 0) (C128.mk 0 0) (C128.mk 0 0) (C128.mk 0 0) (C128.mk 0 0) (C128.mk 0 0) (C128.mk 0 0) (C128.mk 0 0)))))],16,30,0⟩) (fun v1 h hk1=>?_) ?_
 ·refine VC.block ?_;obtain ⟨r2,hr2,h⟩:=Aa h;refine vs [1,2,3,6,7] fun _ k=>?_;push_cast;refine cp (Ka hr2) ?_;push_cast;apply k;clear k;refine vc h (fun hb3 h=>?_) (fun hb3 h=>?_)
  ·refine vs [6] fun _ k=>?_;push_cast;apply k;clear k;refine VC.ret ?_;replace h:=om h hk1;replace h:=Option.some.inj h;subst h;exact en (by push_cast [hb3,Ow])
  ·obtain ⟨r4,hr4,h⟩:=Aa h;refine vs [1,2,3,6,12] fun _ k=>?_;push_cast;refine cp (Zl hr4) ?_;push_cast;apply k;clear k;refine vc h (fun hb5 h=>?_) (fun hb5 h=>?_)
   ·refine vs [6] fun _ k=>?_;push_cast;apply k;clear k;refine VC.ret ?_;replace h:=om h hk1;replace h:=Option.some.inj h;subst h;exact en (by push_cast [hb3,hb5,Ow])
   ·obtain ⟨r6,hr6,h⟩:=Aa h;refine vs [1,2,3,6,17] fun _ k=>?_;push_cast;refine cp (Uz hr6) ?_;push_cast;apply k;clear k;refine vc h (fun hb7 h=>?_) (fun hb7 h=>?_)
    ·obtain ⟨r8,hr8,h⟩:=Aa h;refine vl fun _ k=>?_;push_cast;refine cp (Yf hr8) ?_;push_cast;apply k;clear k;refine am h hk1 ?_;exact sl (by push_cast [hb3,hb5,hb7])
    ·refine VC.skip ?_;refine am h hk1 ?_;exact sl (by push_cast [hb3,hb5,hb7])
 ·rintro i_1 (h : Pb a0 a1 i_1 = some r);(try push_cast);unfold Pb at h;obtain ⟨hg9,h⟩:=Bs h;have hg9n : a1.toNat < 8:=by omega
  obtain ⟨y10,hy10,h⟩:=Bn h;obtain ⟨y11,hy11,h⟩:=Bn h;refine vs [3,6] fun _ k=>?_;push_cast [hg9,hg9n];(repeat refine ao ?_);apply k;clear k;refine vs [6] fun _ k=>?_;push_cast;apply k;clear k;refine VC.ret ?_;replace h:=Option.some.inj h;subst h;exact en (by push_cast [hy10,hy11,Ow])
noncomputable def Qs (s_1 : Ak) (i_2 : Int) : Option ((Ak × Int) ⊕ (Ak)):=
  cond (decide (i_2 < 5)) (
  pg (0 ≤ (IntKind.i64.wrap (i_2 + 1)) ∧ (IntKind.i64.wrap (i_2 + 1)) < 8) <|
  pl (s_1.Set.set ((IntKind.i64.wrap (i_2 + 1)).toNat) false) fun y7=>
  pl (s_1.R.set ((IntKind.i64.wrap (i_2 + 1)).toNat) (C128.mk 0 0)) fun y8=>
  some (Sum.inl ((Ak.mk y7 y8),(IntKind.i64.wrap (i_2 + 1))))) (
  some (Sum.inr s_1))
noncomputable def Ra (s_5 : Ak) : Option (Ak):=
  po (Oe) fun r9=>
  po (Ip s_5 0 r9) fun r10=>
  some r10
noncomputable def Pg (a0 : Ak) : Option (Ak):=
  po (Gj a0) fun r1=>
  cond (!r1) (
  some (Ak.mk (A8.mk false false false false false false false false) (A8.mk (C128.mk 0 0) (C128.mk 0 0) (C128.mk 0 0) (C128.mk 0 0) (C128.mk 0 0) (C128.mk 0 0) (C128.mk 0 0) (C128.mk 0 0)))) (
  po (
  lpU (fun x=>Qs x.1 x.2) (a0,0)) (fun x=>Ra x))
theorem Cg0 {a0 : Ak} {r : Ak} (h : Pg a0 = some r) : Ctr prog 220 [.agg (Ag a0)] [] (.agg (Ag r)) []:=by
 unfold Pg at h;refine Ctr.ofW Bb func220 rfl call220 0 _ ntmps220 [.cell 2 217] rfl rfl rfl (fun B=>?_);refine vs [1,2] fun _ k=>?_;push_cast;apply k;clear k;refine VC.seq ?_;obtain ⟨r1,hr1,h⟩:=Aa h;refine vs [1,2,6] fun _ k=>?_;push_cast;refine cp (Ka hr1) ?_;push_cast;apply k;clear k;refine vc h (fun hb2 h=>?_) (fun hb2 h=>?_)
 ·refine vs [2] fun _ k=>?_;push_cast;apply k;clear k;refine VC.ret ?_;replace h:=Option.some.inj h;subst h;exact en (by push_cast [hb2,Ow])
 ·refine VC.skip ?_;refine vj h (fun x=>⟨[(1,.ref 0 0),(2,.ref 1 0)],[(0,.box 217 (Ag x)),(1,.box 217 (Ag (Ak.mk (A8.mk false false false false false false false false) (A8.mk (C128.mk 0 0) (C128.mk 0 0) (C128.mk 0 0) (C128.mk 0 0) (C128.mk 0 0) (C128.mk 0 0) (C128.mk 0 0) (C128.mk 0 0)))))],22,23,0⟩) (fun v3 h hk3=>?_) ?_
  ·refine vs [1,2,8] fun _ k=>?_;push_cast;apply k;clear k;refine VC.block ?_;refine VC.loopP h (fun x=>⟨[(1,.ref 0 0),(2,.ref 1 0),(8,ri x.2)],[(0,.box 217 (Ag x.1)),(1,.box 217 (Ag (Ak.mk (A8.mk false false false false false false false false) (A8.mk (C128.mk 0 0) (C128.mk 0 0) (C128.mk 0 0) (C128.mk 0 0) (C128.mk 0 0) (C128.mk 0 0) (C128.mk 0 0) (C128.mk 0 0)))))],21,23,0⟩) ?_ ?_
   ·exact sl (by push_cast [hb2])
   rintro ⟨s_1,i_2⟩ b4 (h : Qs s_1 i_2 = some b4) hf4;(try push_cast);unfold Qs at h;refine vs [1,2,8,9] fun _ k=>?_;push_cast;apply k;clear k;refine VC.seq ?_;refine vc h (fun hb5 h=>?_) (fun hb5 h=>?_)
   ·refine VC.skip ?_;refine VC.seq ?_;refine VC.block ?_;refine vs [1,2,3,8] fun _ k=>?_;push_cast;apply k;clear k;obtain ⟨hg6,h⟩:=Bs h;have hg6n : (IntKind.i64.wrap (i_2 + 1)).toNat < 8:=by omega
    obtain ⟨y7,hy7,h⟩:=Bn h;obtain ⟨y8,hy8,h⟩:=Bn h;refine vl fun _ k=>?_;push_cast [hg6,hg6n];(repeat refine ao ?_);apply k;clear k;refine vl fun _ k=>?_;push_cast;apply k;clear k;refine bk h ?_;exact sl (by push_cast [hb2,hb5,hy7,hy8])
   ·refine VC.exit ?_;replace h:=ol h hf4;refine ar h hk3 ?_;exact sl (by push_cast [hb2,hb5])
  ·rintro s_5 (h : Ra s_5 = some r);(try push_cast);unfold Ra at h;obtain ⟨r9,hr9,h⟩:=Aa h;obtain ⟨r10,hr10,h⟩:=Aa h;refine vsD [some 20,some 21,some 22,none] [2] fun _ k=>?_;push_cast;refine cpD (Yf hr9) ?_;push_cast;refine cpD (Wd hr10) ?_;push_cast;refine ⟨rfl,k _ ?_⟩;clear k;refine VC.ret ?_;replace h:=Option.some.inj h;subst h;exact en (by push_cast [hb2,Ow])
noncomputable def Pk (a0 : Ak) (a1 : Int) (i_1 : Bool) : Option (C128 × Bool):=
  cond i_1 (
  some ((C128.mk 0 0),false)) (
  pg (0 ≤ a1 ∧ a1 < 8) <|
  some ((a0.R.get a1.toNat),true))
noncomputable def Jy (a0 : Ak) (a1 : Int) : Option (C128 × Bool):=
  po (
  po (Gj a0) fun r2=>
  cond r2 (
  po (Nz a1) fun r4=>
  cond r4 (
  pg (0 ≤ a1 ∧ a1 < 8) <|
  some (!(a0.Set.get a1.toNat))) (
  some true)) (
  some true)) (fun x=>Pk a0 a1 x)
theorem Dc0 {a0 : Ak} {a1 : Int} {r : C128 × Bool} (h : Jy a0 a1 = some r) : Ctr prog 232 [.agg (Ag a0),ri a1] [] (.tup [.raw (.complex .f64 r.1.re r.1.im),rb r.2]) []:=by
 unfold Jy at h;refine Ctr.ofW Bb func232 rfl call232 0 _ ntmps232 [.tmp 4,.tmp 5] rfl rfl rfl (fun B=>?_);refine vs [1,2] fun _ k=>?_;push_cast;apply k;clear k;refine VC.seq ?_;refine vj h (fun x=>⟨[(1,ri a1),(2,.ref 0 0),(20,rb x)],[(0,.box 217 (Ag a0))],18,25,0⟩) (fun v1 h hk1=>?_) ?_
 ·obtain ⟨r2,hr2,h⟩:=Aa h;rcases bt r2 with hb3 | hb3
  ·replace h:=Ao hb3 h;obtain ⟨r4,hr4,h⟩:=Aa h;rcases bt r4 with hb5 | hb5
   ·replace h:=Ao hb5 h;obtain ⟨hg6,h⟩:=Bs h;have hg6n : a1.toNat < 8:=by omega
    refine vlG [some 6,some 7,some 8,some 9,some 10,some 11,some 12,some 13,some 14,some 15,some 16,some 17,some 18,some 19,some 20] fun _ k=>?_;refine Af 8 fun _ l=>?_;push_cast [hb3,hb5,hg6,hg6n];(repeat refine ao ?_);refine cp (Ka hr2) ?_;push_cast [hb3,hb5,hg6,hg6n];(repeat refine ao ?_);refine cp (Zl hr4) ?_;push_cast [hb3,hb5,hg6,hg6n];(repeat refine ao ?_);apply l;clear l;simp only [List.drop_succ_cons,List.drop_zero];push_cast [hb3,hb5,hg6,hg6n];(repeat refine ao ?_);apply k;clear k;refine ar h hk1 ?_;exact sl (by push_cast [hb3,hb5])
   ·replace h:=Av hb5 h;refine vlG [some 6,some 7,some 8,some 9,some 10,some 11,some 12,some 13,some 14,some 15,some 16,some 17,some 18,some 19,some 20] fun _ k=>?_;refine Af 8 fun _ l=>?_;push_cast [hb3,hb5];(repeat refine ao ?_);refine cp (Ka hr2) ?_;push_cast [hb3,hb5];(repeat refine ao ?_);refine cp (Zl hr4) ?_;push_cast [hb3,hb5];(repeat refine ao ?_);apply l;clear l;simp only [List.drop_succ_cons,List.drop_zero];push_cast [hb3,hb5];(repeat refine ao ?_);apply k;clear k;refine ar h hk1 ?_;exact sl (by push_cast [hb3,hb5])
  ·replace h:=Av hb3 h;refine vlG [some 6,some 7,some 8,some 9,some 10,some 11,some 12,some 13,some 14,some 15,some 16,some 17,some 18,some 19,some 20] fun _ k=>?_;refine Af 8 fun _ l=>?_;push_cast [hb3];(repeat refine ao ?_);refine cp (Ka hr2) ?_;push_cast [hb3];(repeat refine ao ?_);apply l;clear l;simp only [List.drop_succ_cons,List.drop_zero];push_cast [hb3];(repeat refine ao ?_);apply k;clear k;refine ar h hk1 ?_;exact sl (by push_cast [hb3])
 ·rintro i_1 (h : Pk a0 a1 i_1 = some r);(try push_cast);unfold Pk at h;refine vc h (fun hb7 h=>?_) (fun hb7 h=>?_)
  ·refine vs [4,5] fun _ k=>?_;push_cast;apply k;clear k;refine VC.ret ?_;replace h:=Option.some.inj h;subst h;exact en (by push_cast [hb7])
  ·refine VC.skip ?_;obtain ⟨hg8,h⟩:=Bs h;have hg8n : a1.toNat < 8:=by omega
   refine vs [4,5] fun _ k=>?_;push_cast [hg8,hg8n];(repeat refine ao ?_);apply k;clear k;refine VC.ret ?_;replace h:=Option.some.inj h;subst h;exact en (by push_cast [hb7])
noncomputable def Ld (a0 : Ak) (a1 : Ap) (i_1 : Bool) : Option (C128 × Bool):=
  cond i_1 (
  some ((C128.mk 0 0),false)) (
  cond a1.Reg (
  po (Jy a0 a1.Src) fun r7=>
  some (r7.1,r7.2)) (
  po (Io a1.Imm a1.Imm) fun r8=>
  some (r8,true)))
noncomputable def Mu (a0 : Ak) (a1 : Ap) : Option (C128 × Bool):=
  po (
  po (Gj a0) fun r2=>
  cond (!r2) (
  some (!r2)) (
  po (Kb a1) fun r4=>
  some (!r4))) (fun x=>Ld a0 a1 x)
theorem Gm0 {a0 : Ak} {a1 : Ap} {r : C128 × Bool} (h : Mu a0 a1 = some r) : Ctr prog 231 [.agg (Ag a0),.agg (Aw a1)] [] (.tup [.raw (.complex .f64 r.1.re r.1.im),rb r.2]) []:=by
 unfold Mu at h;refine Ctr.ofW Bb func231 rfl call231 0 _ ntmps231 [.tmp 4,.tmp 5] rfl rfl rfl (fun B=>?_);refine vs [2,3] fun _ k=>?_;push_cast;apply k;clear k;refine VC.seq ?_;refine VC.block ?_;refine vj h (fun x=>⟨[(2,.ref 0 0),(3,.ref 1 0),(6,rb x)],[(0,.box 217 (Ag a0)),(1,.box 37 (Aw a1))],12,27,0⟩) (fun v1 h hk1=>?_) ?_
 ·obtain ⟨r2,hr2,h⟩:=Aa h;refine vs [2,3,6] fun _ k=>?_;push_cast;refine cp (Ka hr2) ?_;push_cast;apply k;clear k;refine vc h (fun hb3 h=>?_) (fun hb3 h=>?_)
  ·refine VC.skip ?_;refine ar h hk1 ?_;exact sl (by push_cast [hb3])
  ·obtain ⟨r4,hr4,h⟩:=Aa h;refine vl fun _ k=>?_;push_cast;refine cp (Ac0 hr4) ?_;push_cast;apply k;clear k;refine ar h hk1 ?_;exact sl (by push_cast [hb3])
 ·rintro i_1 (h : Ld a0 a1 i_1 = some r);(try push_cast);unfold Ld at h;refine vc h (fun hb5 h=>?_) (fun hb5 h=>?_)
  ·refine vs [4,5] fun _ k=>?_;push_cast;apply k;clear k;refine VC.ret ?_;replace h:=Option.some.inj h;subst h;exact en (by push_cast [hb5])
  ·refine vs [2,3,13] fun _ k=>?_;push_cast;apply k;clear k;refine vc h (fun hb6 h=>?_) (fun hb6 h=>?_)
   ·obtain ⟨r7,hr7,h⟩:=Aa h;refine vs [4,5] fun _ k=>?_;push_cast;refine cp (Dc0 hr7) ?_;push_cast;apply k;clear k;refine VC.ret ?_;replace h:=Option.some.inj h;subst h;exact en (by push_cast [hb5,hb6])
   ·refine VC.skip ?_;obtain ⟨r8,hr8,h⟩:=Aa h;refine vs [4,5] fun _ k=>?_;push_cast;refine cp (Sp hr8) ?_;push_cast;apply k;clear k;refine VC.ret ?_;replace h:=Option.some.inj h;subst h;exact en (by push_cast [hb5,hb6])
noncomputable def Js (a0 : Ak) (a1 : Ak) (s_4 : Ak) (i_5 : Int) (i_6 : Bool) : Option (Ak):=
  cond i_6 (
  pg (0 ≤ i_5 ∧ i_5 < 8) <|
  po (Nn (a0.R.get i_5.toNat) (a1.R.get i_5.toNat)) fun r15=>
  po (Ip s_4 i_5 r15) fun r16=>
  some r16) (
  some s_4)
noncomputable def Ns (i_5 : Int) (s_7 : Ak) : Option ((Ak × Int) ⊕ (Ak)):=
  some (Sum.inl (s_7,(IntKind.i64.wrap (i_5 + 1))))
noncomputable def Ks (a0 : Ak) (a1 : Ak) (s_4 : Ak) (i_5 : Int) : Option ((Ak × Int) ⊕ (Ak)):=
  cond (decide (i_5 < 8)) (
  po (
  po (
  pg (0 ≤ i_5 ∧ i_5 < 8) <|
  cond (a0.Set.get i_5.toNat) (
  some (a1.Set.get i_5.toNat)) (
  some false)) (fun x=>Js a0 a1 s_4 i_5 x)) (fun x=>Ns i_5 x)) (
  some (Sum.inr s_4))
noncomputable def Rd (s_10 : Ak) : Option (Ak):=
  some s_10
noncomputable def Lb (a0 : Ak) (a1 : Ak) (i_1 : Bool) : Option (Ak):=
  cond i_1 (
  some (Ak.mk (A8.mk false false false false false false false false) (A8.mk (C128.mk 0 0) (C128.mk 0 0) (C128.mk 0 0) (C128.mk 0 0) (C128.mk 0 0) (C128.mk 0 0) (C128.mk 0 0) (C128.mk 0 0)))) (
  po (
  lpU (fun x=>Ks a0 a1 x.1 x.2) ((Ak.mk (A8.mk false false false false false false false false) (A8.mk (C128.mk 0 0) (C128.mk 0 0) (C128.mk 0 0) (C128.mk 0 0) (C128.mk 0 0) (C128.mk 0 0) (C128.mk 0 0) (C128.mk 0 0))),0)) (fun x=>Rd x))
noncomputable def Mx (a0 : Ak) (a1 : Ak) : Option (Ak):=
  po (
  po (Gj a0) fun r2=>
  cond r2 (
  po (Gj a1) fun r4=>
  some (!r4)) (
  some true)) (fun x=>Lb a0 a1 x)
theorem Gi0 {a0 : Ak} {a1 : Ak} {r : Ak} (h : Mx a0 a1 = some r) : Ctr prog 174 [.agg (Ag a0),.agg (Ag a1)] [] (.agg (Ag r)) []:=by
 unfold Mx at h;refine Ctr.ofW Bb func174 rfl call174 0 _ ntmps174 [.cell 4 217] rfl rfl rfl (fun B=>?_);refine vs [2,3,4] fun _ k=>?_;push_cast;apply k;clear k;refine vs [2,3,4,5] fun _ k=>?_;push_cast;apply k;clear k;refine VC.seq ?_;refine vj h (fun x=>⟨[(2,.ref 0 0),(3,.ref 1 0),(4,.ref 2 0),(5,.ref 3 0),(14,rb x)],[(0,.box 217 (Ag a0)),(1,.box 217 (Ag a1)),(2,.box 217 (Ag (Ak.mk (A8.mk false false false false false false false false) (A8.mk (C128.mk 0 0) (C128.mk 0 0) (C128.mk 0 0) (C128.mk 0 0) (C128.mk 0 0) (C128.mk 0 0) (C128.mk 0 0) (C128.mk 0 0))))),(3,.box 217 (Ag (Ak.mk (A8.mk false false false false false false false false) (A8.mk (C128.mk 0 0) (C128.mk 0 0) (C128.mk 0 0) (C128.mk 0 0) (C128.mk 0 0) (C128.mk 0 0) (C128.mk 0 0) (C128.mk 0 0)))))],12,43,0⟩) (fun v1 h hk1=>?_) ?_
 ·obtain ⟨r2,hr2,h⟩:=Aa h;rcases bt r2 with hb3 | hb3
  ·replace h:=Ao hb3 h;obtain ⟨r4,hr4,h⟩:=Aa h;refine vlG [some 7,some 8,some 9,some 10,some 11,some 12,some 13,some 14] fun _ k=>?_;push_cast [hb3];(repeat refine ao ?_);refine cp (Ka hr2) ?_;push_cast [hb3];(repeat refine ao ?_);refine cp (Ka hr4) ?_;push_cast [hb3];(repeat refine ao ?_);apply k;clear k;refine ar h hk1 ?_;exact sl (by push_cast [hb3])
  ·replace h:=Av hb3 h;refine vlG [some 7,some 8,some 9,some 10,some 11,some 12,some 13,some 14] fun _ k=>?_;push_cast [hb3];(repeat refine ao ?_);refine cp (Ka hr2) ?_;push_cast [hb3];(repeat refine ao ?_);apply k;clear k;refine ar h hk1 ?_;exact sl (by push_cast [hb3])
 ·rintro i_1 (h : Lb a0 a1 i_1 = some r);(try push_cast);unfold Lb at h;refine vc h (fun hb5 h=>?_) (fun hb5 h=>?_)
  ·refine vs [4] fun _ k=>?_;push_cast;apply k;clear k;refine VC.ret ?_;replace h:=Option.some.inj h;subst h;exact en (by push_cast [hb5,Ow])
  ·refine VC.skip ?_;refine vj h (fun x=>⟨[(4,.ref 2 0),(5,.ref 3 0)],[(2,.box 217 (Ag (Ak.mk (A8.mk false false false false false false false false) (A8.mk (C128.mk 0 0) (C128.mk 0 0) (C128.mk 0 0) (C128.mk 0 0) (C128.mk 0 0) (C128.mk 0 0) (C128.mk 0 0) (C128.mk 0 0))))),(3,.box 217 (Ag x))],42,43,0⟩) (fun v6 h hk6=>?_) ?_
   ·refine vs [2,3,4,5,16] fun _ k=>?_;push_cast;apply k;clear k;refine VC.block ?_;refine VC.loopP h (fun x=>⟨[(2,.ref 0 0),(3,.ref 1 0),(4,.ref 2 0),(5,.ref 3 0),(16,ri x.2)],[(0,.box 217 (Ag a0)),(1,.box 217 (Ag a1)),(2,.box 217 (Ag (Ak.mk (A8.mk false false false false false false false false) (A8.mk (C128.mk 0 0) (C128.mk 0 0) (C128.mk 0 0) (C128.mk 0 0) (C128.mk 0 0) (C128.mk 0 0) (C128.mk 0 0) (C128.mk 0 0))))),(3,.box 217 (Ag x.1))],41,43,0⟩) ?_ ?_
    ·exact sl (by push_cast [hb5])
    rintro ⟨s_4,i_5⟩ b7 (h : Ks a0 a1 s_4 i_5 = some b7) hf7;(try push_cast);unfold Ks at h;refine vs [2,3,4,5,16,17] fun _ k=>?_;push_cast;apply k;clear k;refine VC.seq ?_;refine vc h (fun hb8 h=>?_) (fun hb8 h=>?_)
    ·refine VC.skip ?_;refine vj h (fun x=>⟨[(2,.ref 0 0),(3,.ref 1 0),(4,.ref 2 0),(5,.ref 3 0),(16,ri i_5)],[(0,.box 217 (Ag a0)),(1,.box 217 (Ag a1)),(2,.box 217 (Ag (Ak.mk (A8.mk false false false false false false false false) (A8.mk (C128.mk 0 0) (C128.mk 0 0) (C128.mk 0 0) (C128.mk 0 0) (C128.mk 0 0) (C128.mk 0 0) (C128.mk 0 0) (C128.mk 0 0))))),(3,.box 217 (Ag x))],67,43,0⟩) (fun v9 h hk9=>?_) ?_
     ·refine VC.block ?_;refine vs [2,3,4,5,6,16] fun _ k=>?_;push_cast;apply k;clear k;refine vj h (fun x=>⟨[(2,.ref 0 0),(3,.ref 1 0),(4,.ref 2 0),(5,.ref 3 0),(6,ri i_5),(16,ri i_5),(28,rb x)],[(0,.box 217 (Ag a0)),(1,.box 217 (Ag a1)),(2,.box 217 (Ag (Ak.mk (A8.mk false false false false false false false false) (A8.mk (C128.mk 0 0) (C128.mk 0 0) (C128.mk 0 0) (C128.mk 0 0) (C128.mk 0 0) (C128.mk 0 0) (C128.mk 0 0) (C128.mk 0 0))))),(3,.box 217 (Ag s_4))],54,43,0⟩) (fun v10 h hk10=>?_) ?_
      ·obtain ⟨hg11,h⟩:=Bs h;have hg11n : i_5.toNat < 8:=by omega
       rcases bt (a0.Set.get i_5.toNat) with hb12 | hb12
       ·replace h:=Ao hb12 h;refine vlG [some 19,some 20,some 21,some 22,some 23,some 24,some 25,some 26,some 27,some 28] fun _ k=>?_;push_cast [hg11,hg11n,hb12];(repeat refine ao ?_);apply k;clear k;refine ar h hk10 ?_;exact sl (by push_cast [hb5,hb8,hb12])
       ·replace h:=Av hb12 h;refine vlG [some 19,some 20,some 21,some 22,some 23,some 24,some 25,some 26,some 27,some 28] fun _ k=>?_;push_cast [hg11,hg11n,hb12];(repeat refine ao ?_);apply k;clear k;refine ar h hk10 ?_;exact sl (by push_cast [hb5,hb8,hb12])
      ·rintro i_6 (h : Js a0 a1 s_4 i_5 i_6 = some v9);(try push_cast);unfold Js at h;refine vc h (fun hb13 h=>?_) (fun hb13 h=>?_)
       ·obtain ⟨hg14,h⟩:=Bs h;have hg14n : i_5.toNat < 8:=by omega
        obtain ⟨r15,hr15,h⟩:=Aa h;obtain ⟨r16,hr16,h⟩:=Aa h;refine vlD [some 29,some 30,some 31,some 32,some 33,some 34,some 35,some 36,some 37,some 38,some 39,some 40,none] fun _ k=>?_;refine Ce 8 fun _ l=>?_;push_cast [hg14,hg14n];(repeat refine ao ?_);apply l;clear l;simp only [List.drop_succ_cons,List.drop_zero];push_cast [hg14,hg14n];(repeat refine ao ?_);refine cpD (Fx0 hr15) ?_;push_cast [hg14,hg14n];(repeat refine ao ?_);refine cpD (Wd hr16) ?_;push_cast [hg14,hg14n];(repeat refine ao ?_);refine ⟨rfl,k _ ?_⟩;clear k;refine ar h hk9 ?_;exact sl (by push_cast [hb5,hb8,hb13])
       ·refine VC.skip ?_;refine ar h hk9 ?_;exact sl (by push_cast [hb5,hb8,hb13])
     ·rintro s_7 (h : Ns i_5 s_7 = some b7);(try push_cast);unfold Ns at h;refine vl fun _ k=>?_;push_cast;apply k;clear k;refine bk h ?_;exact sl (by push_cast [hb5,hb8])
    ·refine VC.exit ?_;replace h:=ol h hf7;refine ar h hk6 ?_;exact sl (by push_cast [hb5,hb8])
   ·rintro s_10 (h : Rd s_10 = some r);(try push_cast);unfold Rd at h;refine vs [4] fun _ k=>?_;push_cast;apply k;clear k;refine VC.ret ?_;replace h:=Option.some.inj h;subst h;exact en (by push_cast [hb5,Ow])
noncomputable def Pe (a0 : Int) (s_2 : Ak) (i_3 : Int) : Option ((Ak × Int) ⊕ (Ak)):=
  cond (decide (i_3 < a0)) (
  po (Oe) fun r7=>
  pg (0 ≤ (IntKind.i64.wrap (i_3 + 1)) ∧ (IntKind.i64.wrap (i_3 + 1)) < 8) <|
  pl (s_2.Set.set ((IntKind.i64.wrap (i_3 + 1)).toNat) true) fun y9=>
  pl (s_2.R.set ((IntKind.i64.wrap (i_3 + 1)).toNat) r7) fun y10=>
  some (Sum.inl ((Ak.mk y9 y10),(IntKind.i64.wrap (i_3 + 1))))) (
  some (Sum.inr s_2))
noncomputable def Rz (s_6 : Ak) : Option (Ak × Bool):=
  some (s_6,true)
noncomputable def Mg (a0 : Int) (i_1 : Bool) : Option (Ak × Bool):=
  cond i_1 (
  some ((Ak.mk (A8.mk false false false false false false false false) (A8.mk (C128.mk 0 0) (C128.mk 0 0) (C128.mk 0 0) (C128.mk 0 0) (C128.mk 0 0) (C128.mk 0 0) (C128.mk 0 0) (C128.mk 0 0))),false)) (
  po (
  lpU (fun x=>Pe a0 x.1 x.2) ((Ak.mk (A8.mk false false false false false false false false) (A8.mk (C128.mk 0 0) (C128.mk 0 0) (C128.mk 0 0) (C128.mk 0 0) (C128.mk 0 0) (C128.mk 0 0) (C128.mk 0 0) (C128.mk 0 0))),0)) (fun x=>Rz x))
noncomputable def Og (a0 : Int) : Option (Ak × Bool):=
  po (
  cond (decide (a0 < 0)) (
  some true) (
  some (decide (a0 > 4)))) (fun x=>Mg a0 x)
theorem Hm0 {a0 : Int} {r : Ak × Bool} (h : Og a0 = some r) : Ctr prog 128 [ri a0] [] (.tup [.agg (Ag r.1),rb r.2]) []:=by
 unfold Og at h;refine Ctr.ofW Bb func128 rfl call128 0 _ ntmps128 [.cell 2 217,.tmp 3] rfl rfl rfl (fun B=>?_);refine vs [0,2] fun _ k=>?_;push_cast;apply k;clear k;refine vs [0,2,4] fun _ k=>?_;push_cast;apply k;clear k;refine VC.seq ?_;refine vj h (fun x=>⟨[(0,ri a0),(2,.ref 0 0),(4,.ref 2 0),(11,rb x)],[(0,.box 217 (Ag (Ak.mk (A8.mk false false false false false false false false) (A8.mk (C128.mk 0 0) (C128.mk 0 0) (C128.mk 0 0) (C128.mk 0 0) (C128.mk 0 0) (C128.mk 0 0) (C128.mk 0 0) (C128.mk 0 0))))),(2,.box 217 (Ag (Ak.mk (A8.mk false false false false false false false false) (A8.mk (C128.mk 0 0) (C128.mk 0 0) (C128.mk 0 0) (C128.mk 0 0) (C128.mk 0 0) (C128.mk 0 0) (C128.mk 0 0) (C128.mk 0 0)))))],9,28,0⟩) (fun v1 h hk1=>?_) ?_
 ·rcases bt (decide (a0 < 0)) with hb2 | hb2
  ·replace h:=Ao hb2 h;refine vlG [some 6,some 7,some 8,some 9,some 10,some 11] fun _ k=>?_;push_cast [hb2];(repeat refine ao ?_);apply k;clear k;refine ar h hk1 ?_;exact sl (by push_cast [hb2])
  ·replace h:=Av hb2 h;refine vlG [some 6,some 7,some 8,some 9,some 10,some 11] fun _ k=>?_;push_cast [hb2];(repeat refine ao ?_);apply k;clear k;refine ar h hk1 ?_;exact sl (by push_cast [hb2])
 ·rintro i_1 (h : Mg a0 i_1 = some r);(try push_cast);unfold Mg at h;refine vc h (fun hb3 h=>?_) (fun hb3 h=>?_)
  ·refine vs [2,3] fun _ k=>?_;push_cast;apply k;clear k;refine VC.ret ?_;replace h:=Option.some.inj h;subst h;exact en (by push_cast [hb3,Ow])
  ·refine VC.skip ?_;refine vj h (fun x=>⟨[(2,.ref 0 0),(4,.ref 2 0)],[(0,.box 217 (Ag (Ak.mk (A8.mk false false false false false false false false) (A8.mk (C128.mk 0 0) (C128.mk 0 0) (C128.mk 0 0) (C128.mk 0 0) (C128.mk 0 0) (C128.mk 0 0) (C128.mk 0 0) (C128.mk 0 0))))),(2,.box 217 (Ag x))],28,28,0⟩) (fun v4 h hk4=>?_) ?_
   ·refine vs [2,4,13,14] fun _ k=>?_;push_cast;apply k;clear k;refine VC.block ?_;refine VC.loopP h (fun x=>⟨[(2,.ref 0 0),(4,.ref 2 0),(13,ri a0),(14,ri x.2)],[(0,.box 217 (Ag (Ak.mk (A8.mk false false false false false false false false) (A8.mk (C128.mk 0 0) (C128.mk 0 0) (C128.mk 0 0) (C128.mk 0 0) (C128.mk 0 0) (C128.mk 0 0) (C128.mk 0 0) (C128.mk 0 0))))),(2,.box 217 (Ag x.1))],27,28,0⟩) ?_ ?_
    ·exact sl (by push_cast [hb3])
    rintro ⟨s_2,i_3⟩ b5 (h : Pe a0 s_2 i_3 = some b5) hf5;(try push_cast);unfold Pe at h;refine vs [2,4,13,14,15] fun _ k=>?_;push_cast;apply k;clear k;refine VC.seq ?_;refine vc h (fun hb6 h=>?_) (fun hb6 h=>?_)
    ·refine VC.skip ?_;refine VC.seq ?_;refine VC.block ?_;refine vs [2,4,5,13,14] fun _ k=>?_;push_cast;apply k;clear k;obtain ⟨r7,hr7,h⟩:=Aa h;obtain ⟨hg8,h⟩:=Bs h;have hg8n : (IntKind.i64.wrap (i_3 + 1)).toNat < 8:=by omega
     obtain ⟨y9,hy9,h⟩:=Bn h;obtain ⟨y10,hy10,h⟩:=Bn h;refine vlD [some 17,some 18,some 19,some 20,some 21,some 22,some 23,none,some 24,some 25,none] fun _ k=>?_;refine Ce 8 fun _ l=>?_;push_cast [hg8,hg8n];(repeat refine ao ?_);refine cpD (Yf hr7) ?_;push_cast [hg8,hg8n];(repeat refine ao ?_);apply l;clear l;simp only [List.drop_succ_cons,List.drop_zero];push_cast [hg8,hg8n];(repeat refine ao ?_);refine ⟨rfl,k _ ?_⟩;clear k;refine vl fun _ k=>?_;push_cast;apply k;clear k;refine bk h ?_;exact sl (by push_cast [hb3,hb6,hy9,hy10])
    ·refine VC.exit ?_;replace h:=ol h hf5;refine ar h hk4 ?_;exact sl (by push_cast [hb3,hb6])
   ·rintro s_6 (h : Rz s_6 = some r);(try push_cast);unfold Rz at h;refine vs [2,3] fun _ k=>?_;push_cast;apply k;clear k;refine VC.ret ?_;replace h:=Option.some.inj h;subst h;exact en (by push_cast [hb3,Ow])
def Ok {α : Type} (x : Option α) (Q : α → Prop) : Prop:=∃ r,x = some r ∧ Q r
theorem Ok.mk {α : Type} {a : α} {Q : α → Prop} (h : Q a) : Ok (some a) Q:=⟨a,rfl,h⟩
theorem Ok.po {α β : Type} {x : Option α} {k : α → Option β} {P : α → Prop} {Q : β → Prop} (h : Ok x P) (hk : ∀ a,P a → Ok (k a) Q) : Ok (po x k) Q:=by
  obtain ⟨a,rfl,ha⟩:=h
  exact hk a ha
theorem Ok.cond {α : Type} {c : Bool} {a b : Option α} {Q : α → Prop} (ha : c = true → Ok a Q) (hb : c = false → Ok b Q) : Ok (cond c a b) Q:=by
  cases c
  · exact hb rfl
  · exact ha rfl
theorem Ok.pl {α β : Type} {a : α} {k : α → Option β} {Q : β → Prop} (h : Ok (k a) Q) : Ok (pl a k) Q:=h
theorem Ok.pg {β : Type} {p : Prop} [Decidable p] {k : Option β} {Q : β → Prop} (hp : p) (h : Ok k Q) : Ok (pg p k) Q:=by
  rw [El hp]
  exact h
theorem Ok.pm {α β : Type} {x : Option (α ⊕ β)} {k : α → Option β} {P : α ⊕ β → Prop} {Q : β → Prop} (h : Ok x P) (hl : ∀ a,P (.inl a) → Ok (k a) Q) (hr : ∀ b,P (.inr b) → Q b) : Ok (pm x k) Q:=by
  obtain ⟨a,rfl,ha⟩:=h
  cases a with
  | inl a=>exact hl a ha
  | inr b=>exact ⟨b,rfl,hr b ha⟩
theorem Ok.mono {α : Type} {x : Option α} {P Q : α → Prop} (h : Ok x P) (hq : ∀ a,P a → Q a) : Ok x Q:=by
  obtain ⟨a,e,ha⟩:=h
  exact ⟨a,e,hq a ha⟩
theorem Ok.of {α : Type} {x : Option α} {a : α} {Q : α → Prop} (e : x = some a) (h : Q a) : Ok x Q:=⟨a,e,h⟩
theorem Ok.idx {α : Type} {l : List α} {i : Int} {n : Nat} (e : i = (n : Int)) (h : n < l.length) : Ok (idx l i) (fun a=>l[n]? = some a ∧ a ∈ l):=by
  subst e
  exact ⟨l[n],by rw [idx_nat,List.getElem?_eq_getElem h],List.getElem?_eq_getElem h,List.getElem_mem h⟩
theorem Ok.at_ {α : Type} {l : List α} {n : Nat} (h : n < l.length) : Ok (l[n]?) (fun a=>l[n]? = some a ∧ a ∈ l):=⟨l[n],List.getElem?_eq_getElem h,List.getElem?_eq_getElem h,List.getElem_mem h⟩
theorem Ok.lp {σ ρ : Type} {step : σ → Option (σ ⊕ ρ)} {s0 : σ} {Q : ρ → Prop} (I : σ → Prop) (μ : σ → Nat) (h0 : I s0)
    (hs : ∀ s,I s → Ok (step s) fun r=>match r with | .inl s'=>I s' ∧ μ s' < μ s | .inr r=>Q r) : Ok (lpU step s0) Q:=by
  refine lp_inv I μ Q (fun s h=>?_) s0 h0
  obtain ⟨r,e,hr⟩:=hs s h
  cases r with
  | inl s'=>exact .inl ⟨s',e,hr⟩
  | inr r=>exact .inr ⟨r,e,hr⟩
def flN (m : Nat) (i : Int) : Nat:=(m * 2 ^ i.toNat) / 2 ^ (-i).toNat
theorem cut_zero (neg : Bool) (n drop : Nat) : Ieee.Toward.zero.cut neg n drop = n / 2 ^ drop:=by
  unfold Ieee.Toward.cut
  simp only [Bool.toNat_false,Nat.add_zero,Nat.one_shiftLeft]
  rcases Nat.le_total drop (n.log2 + 2) with h | h
  · rw [Nat.min_eq_left h]
  · rw [Nat.min_eq_right h]
    have h1 : n < 2 ^ (n.log2 + 2):=Nat.lt_of_lt_of_le (Nat.lt_log2_self) (Nat.pow_le_pow_right (by decide) (by omega))
    have h2 : n < 2 ^ drop:=Nat.lt_of_lt_of_le h1 (Nat.pow_le_pow_right (by decide) h)
    rw [Nat.div_eq_of_lt h1,Nat.div_eq_of_lt h2]
theorem flN_shift {n : Nat} {i j : Int} (h : i ≤ j) : flN (n * 2 ^ (j - i).toNat) i = flN n j:=by
  unfold flN
  by_cases hi : 0 ≤ i
  · have e1 : (-i).toNat = 0:=by omega
    have e2 : (-j).toNat = 0:=by omega
    have e3 : j.toNat = (j - i).toNat + i.toNat:=by omega
    rw [e1,e2,e3,Nat.pow_add,Nat.mul_assoc]
  · have e1 : i.toNat = 0:=by omega
    by_cases hj : 0 ≤ j
    · have e2 : (-j).toNat = 0:=by omega
      have e3 : (j - i).toNat = j.toNat + (-i).toNat:=by omega
      rw [e1,e2,e3,Nat.pow_add,← Nat.mul_assoc,Nat.pow_zero,Nat.mul_one,Nat.div_one,Nat.mul_div_cancel _ (Nat.pow_pos (by decide))]
    · have e2 : j.toNat = 0:=by omega
      have e3 : (-i).toNat = (j - i).toNat + (-j).toNat:=by omega
      rw [e1,e2,e3,Nat.pow_add,Nat.pow_zero,Nat.mul_one,Nat.mul_one,Nat.mul_comm (2 ^ (j - i).toNat),Nat.mul_div_mul_right _ _ (Nat.pow_pos (by decide))]
theorem flN_mono {m n : Nat} {i j : Int} (h : m * 2 ^ (i - min i j).toNat ≤ n * 2 ^ (j - min i j).toNat) : flN m i ≤ flN n j:=by
  rw [← flN_shift (n:=m) (i:=min i j) (j:=i) (by omega),← flN_shift (n:=n) (i:=min i j) (j:=j) (by omega)]
  unfold flN
  exact Nat.div_le_div_right (Nat.mul_le_mul_right _ h)
def NN (x : F64) (m : Nat) (i : Int) : Prop:=∃ s,FloatKind.f64.decode x = .number s m i ∧ (s = true → m = 0)
theorem read0 : FloatKind.f64.decode 0 = .number false 0 (-1074):=by decide
theorem readTop : FloatKind.f64.decode 4751297606873776128 = .number false 9007199252643840 (-21):=by decide
theorem signed_pos {s : Bool} {m k : Nat} (h : s = true → m = 0) : Ieee.signed s m k = ((m * 2 ^ k : Nat) : Int):=by
  unfold Ieee.signed
  cases s with
  | true=>simp [h rfl]
  | false=>simp [Nat.shiftLeft_eq]
theorem fge_nn {x : F64} (h : fge x 0 = true) : (∃ m i,NN x m i) ∨ FloatKind.f64.decode x = .infinity false:=by
  unfold fge Ieee.Format.order at h
  change ((FloatKind.f64.decode x).order (FloatKind.f64.decode 0) == some .gt || (FloatKind.f64.decode x).order (FloatKind.f64.decode 0) == some .eq) = true at h
  rw [read0] at h
  cases hd : FloatKind.f64.decode x with
  | nan a b=>rw [hd] at h; simp [Ieee.Datum.order] at h
  | infinity s=>
    rw [hd] at h
    cases s with
    | true=>simp [Ieee.Datum.order] at h
    | false=>exact .inr rfl
  | number s m i=>
    rw [hd] at h
    refine .inl ⟨m,i,s,hd,fun hs=>?_⟩
    subst hs
    refine Classical.byContradiction fun hm=>?_
    have hz : Ieee.signed false 0 ((-1074 : Int) - min i (-1074)).toNat = 0:=by simp [Ieee.signed]
    have hneg : Ieee.signed true m (i - min i (-1074)).toNat < 0:=by
      unfold Ieee.signed
      rw [if_pos rfl,Nat.shiftLeft_eq]
      have : 0 < m * 2 ^ (i - min i (-1074)).toNat:=Nat.mul_pos (Nat.pos_of_ne_zero hm) (Nat.pow_pos (by decide))
      omega
    have hc : compare (Ieee.signed true m (i - min i (-1074)).toNat) (Ieee.signed false 0 ((-1074 : Int) - min i (-1074)).toNat) = .lt:=by
      rw [hz]
      exact Int.compare_eq_lt.2 hneg
    simp only [Ieee.Datum.order] at h
    rw [hc] at h
    simp at h
theorem fle_nn {x y : F64} {m n : Nat} {i j : Int} (hx : NN x m i) (hy : NN y n j) (h : fle x y = true) : flN m i ≤ flN n j:=by
  obtain ⟨s,ex,hs⟩:=hx
  obtain ⟨t,ey,ht⟩:=hy
  unfold fle Ieee.Format.order at h
  change ((FloatKind.f64.decode x).order (FloatKind.f64.decode y) == some .lt || (FloatKind.f64.decode x).order (FloatKind.f64.decode y) == some .eq) = true at h
  rw [ex,ey] at h
  simp only [Ieee.Datum.order] at h
  rw [signed_pos hs,signed_pos ht] at h
  refine flN_mono ?_
  refine Classical.byContradiction fun hn=>?_
  have hc : compare ((m * 2 ^ (i - min i j).toNat : Nat) : Int) ((n * 2 ^ (j - min i j).toNat : Nat) : Int) = .gt:=Int.compare_eq_gt.2 (by omega)
  rw [hc] at h
  simp at h
def FW (x : F64) (n : Nat) : Prop:=∃ m i,NN x m i ∧ n = flN m i ∧ n ≤ 4294967295
theorem fw_of {x : F64} (h1 : fge x 0 = true) (h2 : fle x 4751297606873776128 = true) : ∃ n,FW x n:=by
  have top : NN 4751297606873776128 9007199252643840 (-21):=⟨false,readTop,fun h=>by cases h⟩
  rcases fge_nn h1 with ⟨m,i,h⟩ | h
  · have:=fle_nn h top h2
    have e : flN 9007199252643840 (-21) = 4294967295:=by decide
    exact ⟨flN m i,m,i,h,rfl,by omega⟩
  · unfold fle Ieee.Format.order at h2
    change ((FloatKind.f64.decode x).order (FloatKind.f64.decode 4751297606873776128) == some .lt || (FloatKind.f64.decode x).order (FloatKind.f64.decode 4751297606873776128) == some .eq) = true at h2
    rw [h,readTop] at h2
    simp [Ieee.Datum.order] at h2
theorem f2u_fw {x : F64} {n : Nat} (h : FW x n) : ∃ u : UInt64,f2u x = some u ∧ u.toNat = n:=by
  obtain ⟨m,i,⟨s,e,hs⟩,rfl,hn⟩:=h
  have h1 : f2i x .u64 = some (flN m i : Int):=by
    have hi : (FloatKind.f64.decode x).toInt .zero = some (flN m i : Int):=by
      rw [e]
      unfold Ieee.Datum.toInt Ieee.Datum.integral
      simp only [cut_zero,Nat.shiftLeft_eq]
      rw [signed_pos (fun q=>by rw [hs q]; simp)]
      simp [flN]
    unfold f2i
    rw [hi]
    simp only
    have e1 : IntKind.min .u64 = 0:=by decide
    have e2 : IntKind.max .u64 = 18446744073709551615:=by decide
    rw [e1,e2,if_pos (by omega)]
  refine ⟨UInt64.ofInt (flN m i : Int),by unfold f2u; rw [h1]; rfl,?_⟩
  unfold UInt64.ofInt
  rw [UInt64.toNat_ofNat']
  omega
theorem word_ok (x : F64) : Ok (Np x) fun b=>b = true → ∃ n,FW x n:=by
  unfold Np Pr
  refine .po (P:=fun b=>b = true → ∃ n,FW x n) (.cond (fun h1=>.cond (fun h2=>?_) fun _=>.mk fun h=>by cases h) fun _=>.mk fun h=>by cases h) fun a h=>.mk h
  obtain ⟨n,hn⟩:=fw_of h1 h2
  obtain ⟨u,e,_⟩:=f2u_fw hn
  rw [e]
  exact .mk fun _=>⟨n,hn⟩
theorem bmay_ok (c : C128) : Ok (Iy c) fun b=>b = true → ∃ n m,FW c.re n ∧ FW c.im m ∧ n ≤ m:=by
  unfold Iy Re
  refine .po (P:=fun b=>b = true → ∃ n m,FW c.re n ∧ FW c.im m ∧ n ≤ m) ?_ fun a h=>.mk h
  refine .po (word_ok c.re) fun a ha=>.cond (fun h1=>?_) fun _=>.mk fun h=>by cases h
  refine .po (word_ok c.im) fun b hb=>.cond (fun h2=>?_) fun _=>.mk fun h=>by cases h
  refine .mk fun h3=>?_
  obtain ⟨n,m,i,hx,hn,hn2⟩:=ha h1
  obtain ⟨k,m',i',hy,hk,hk2⟩:=hb h2
  refine ⟨n,k,⟨m,i,hx,hn,hn2⟩,⟨m',i',hy,hk,hk2⟩,?_⟩
  rw [hn,hk]
  exact fle_nn hx hy h3
structure SpanOk (s : Aj) : Prop where
  le : s.low.toNat ≤ s.high.toNat
  top : s.high.toNat ≤ 4294967295
theorem bof_ok (c : C128) : Ok (Bq c) SpanOk:=by
  unfold Bq
  refine .po (bmay_ok c) fun b hb=>.cond (fun _=>?_) fun h=>?_
  · exact ⟨_,rfl,⟨by decide,by decide⟩⟩
  · obtain ⟨n,m,hn,hm,hle⟩:=hb (by simpa using h)
    obtain ⟨u,e1,hu⟩:=f2u_fw hn
    obtain ⟨v,e2,hv⟩:=f2u_fw hm
    rw [e1,e2]
    refine .mk ⟨by show u.toNat ≤ v.toNat; omega,?_⟩
    obtain ⟨_,_,_,_,h4⟩:=hm
    show v.toNat ≤ _
    omega
theorem told_ok (s : Aj) : Ok (Bp s) fun _=>True:=⟨_,rfl,trivial⟩
theorem fit_ok (a b : UInt64) : Ok (Fo a b) fun _=>True:=by
  unfold Fo Qy
  refine .po (P:=fun _=>True) (.cond (fun _=>.mk trivial) fun _=>.mk trivial) fun i _=>.cond (fun _=>⟨_,rfl,trivial⟩) fun _=>.mk trivial
theorem Of_ok (a b : UInt32) : Ok (Io a b) fun _=>True:=⟨_,rfl,trivial⟩
theorem Ends_ok (c : C128) : Ok (Nk c) fun _=>True:=by
  unfold Nk
  exact .po (bmay_ok c) fun b _=>.cond (fun _=>.mk trivial) fun _=>.po (bof_ok c) fun s _=>.mk trivial
theorem bJoin_ok (a b : C128) : Ok (Nn a b) fun _=>True:=by
  unfold Nn
  exact .po (bof_ok a) fun s _=>.po (bof_ok b) fun t _=>⟨_,rfl,trivial⟩
theorem power_ok {a b : UInt64} (ha : a.toNat ≤ 4294967295) (hb : b.toNat ≤ 4294967295) : Ok (Ml a b) fun _=>True:=by
  unfold Ml Oo
  refine .po (P:=fun _=>True) (.lp (fun s : UInt64=>0 < s.toNat ∧ s.toNat ≤ 8589934592) (fun s=>8589934592 - s.toNat) ⟨by decide,by decide⟩ fun s hs=>?_) fun a _=>.mk trivial
  unfold Ot On
  refine .po (P:=fun c=>c = true → s.toNat ≤ 4294967295) (.cond (fun h=>.mk fun _=>?_) fun _=>.mk fun h=>?_) fun c hc=>.cond (fun h=>.mk ?_) fun _=>.mk trivial
  · have:=of_decide_eq_true h
    omega
  · have:=of_decide_eq_true h
    omega
  · have h1:=hc h
    have e : (s * 2).toNat = s.toNat * 2:=by
      rw [UInt64.toNat_mul]
      show s.toNat * 2 % _ = _
      omega
    show (0 < (s * 2).toNat ∧ (s * 2).toNat ≤ 8589934592) ∧ 8589934592 - (s * 2).toNat < 8589934592 - s.toNat
    omega
theorem Alu_ok (op : Int) (a b : C128) : Ok (Rp op a b) fun _=>True:=by
  unfold Rp
  refine .po (P:=fun c=>c = false → 0 ≤ op ∧ op < 11) (.cond (fun _=>.mk fun h=>by cases h) fun h1=>.mk fun h2=>?_) fun c hc=>?_
  · have h1:=of_decide_eq_false h1
    have h2:=of_decide_eq_false h2
    omega
  unfold Qz
  have last : ∀ {f : Aj → Aj → Option Aj},(∀ s t,SpanOk s → SpanOk t → Ok (f s t) fun _=>True) → Ok (po (Bq a) fun x=>po (Bq b) fun y=>po (f x y) fun z=>po (Bp z) fun r=>some r) fun _=>True:=fun hf=>
    .po (bof_ok a) fun s hs=>.po (bof_ok b) fun t ht=>.po (hf s t hs ht) fun z _=>⟨_,rfl,trivial⟩
  refine .cond (fun _=>.po (fit_ok _ _) fun z _=>⟨_,rfl,trivial⟩) fun h=>?_
  have hop:=hc h
  refine .po (P:=fun _=>True) (.mk trivial) fun _ _=>?_
  refine .cond (fun _=>last fun s t hs ht=>?_) fun h0=>.cond (fun _=>last fun s t hs ht=>?_) fun h1=>.cond (fun _=>last fun s t hs ht=>?_) fun h2=>.cond (fun _=>last fun s t hs ht=>?_) fun h3=>.cond (fun _=>last fun s t hs ht=>?_) fun h4=>.cond (fun _=>last fun s t hs ht=>?_) fun h5=>.cond (fun _=>last fun s t hs ht=>?_) fun h6=>.cond (fun _=>last fun s t hs ht=>?_) fun h7=>.cond (fun _=>last fun s t hs ht=>?_) fun h8=>.cond (fun _=>last fun s t hs ht=>?_) fun h9=>.cond (fun _=>last fun s t hs ht=>?_) fun h10=>?_
  · exact ⟨_,rfl,trivial⟩
  · exact .po (fit_ok _ _) fun z _=>.mk trivial
  · unfold Pq
    exact .cond (fun _=>.po (fit_ok _ _) fun z _=>.mk trivial) fun _=>.mk trivial
  · exact .po (fit_ok _ _) fun z _=>.mk trivial
  · unfold Pt
    refine .cond (fun _=>.mk trivial) fun h=>.pg ?_ (.pg ?_ (.mk trivial))
    all_goals
      have h : ¬ ((t.low.toNat : Int) = 0):=by simpa using h
      have:=ht.le
      omega
  · unfold Pv
    exact .cond (fun _=>.mk trivial) fun _=>.cond (fun _=>.mk trivial) fun _=>⟨_,rfl,trivial⟩
  · exact ⟨_,rfl,trivial⟩
  · exact .po (power_ok hs.top ht.top) fun z _=>.mk trivial
  · exact .po (power_ok hs.top ht.top) fun z _=>.mk trivial
  · unfold Ov
    exact .cond (fun _=>.po (fit_ok _ _) fun z _=>.mk trivial) fun _=>.po (fit_ok _ _) fun z _=>.mk trivial
  · unfold Oj
    exact .cond (fun _=>.mk trivial) fun _=>.mk trivial
  · exfalso
    simp only [beq_eq_false_iff_ne,ne_eq] at h0 h1 h2 h3 h4 h5 h6 h7 h8 h9 h10
    omega
theorem Cut_ok (c : Int) (a b : C128) : Ok (Rm c a b) fun _=>True:=by
  unfold Rm
  refine .po (bof_ok a) fun s hs=>.po (bof_ok b) fun t ht=>.po (P:=fun _=>True) ?_ fun x _=>?_
  · refine .cond (fun _=>.mk trivial) fun _=>.cond (fun _=>?_) fun _=>.cond (fun _=>.cond (fun _=>⟨_,rfl,trivial⟩) fun _=>.mk trivial) fun _=>.cond (fun _=>.mk trivial) fun _=>.mk trivial
    refine .po (P:=fun _=>True) (.cond (fun _=>.cond (fun _=>.mk trivial) fun _=>.mk trivial) fun _=>.mk trivial) fun _ _=>?_
    unfold Qw
    refine .cond (fun _=>.mk trivial) fun _=>.po (P:=fun _=>True) (.cond (fun _=>.mk trivial) fun _=>.mk trivial) fun _ _=>?_
    unfold Qe
    refine .cond (fun _=>.mk trivial) fun _=>.po (P:=fun _=>True) (.cond (fun _=>.mk trivial) fun _=>.mk trivial) fun _ _=>?_
    unfold Pu
    exact .cond (fun _=>.mk trivial) fun _=>.mk trivial
  · unfold Qv Pn
    exact .po (P:=fun _=>True) (.cond (fun _=>.mk trivial) fun _=>.mk trivial) fun _ _=>.cond (fun _=>.po (fit_ok _ _) fun z _=>.po (told_ok z) fun _ _=>.mk trivial) fun _=>.po (told_ok _) fun _ _=>.mk trivial
theorem w1 {k : Nat} (h : k < 1000000) : IntKind.i64.wrap ((k : Int) + 1) = ((k + 1 : Nat) : Int):=w64 (by omega)
theorem sMay_ok (s : Ak) : Ok (Gj s) fun _=>True:=by
  unfold Gj
  refine .pm (P:=fun _=>True) ?_ (fun _ _=>⟨_,rfl,trivial⟩) fun _ _=>trivial
  refine .lp (fun x=>∃ k : Nat,x.2 = (k : Int) ∧ k ≤ 8) (fun x=>(8 - x.2).toNat) ⟨0,rfl,by omega⟩ ?_
  rintro ⟨u,i⟩ ⟨k,hk,hk8⟩
  simp only at hk
  subst hk
  unfold Pd
  refine .cond (fun h=>?_) fun _=>.mk trivial
  have h:=of_decide_eq_true h
  refine .pm (P:=fun r=>match r with | .inl _=>True | .inr r=>match r with | .inl _=>False | .inr _=>True) (.pg (by omega) (.cond (fun _=>⟨_,rfl,trivial⟩) fun _=>.po (bmay_ok _) fun b _=>.cond (fun _=>.mk trivial) fun _=>.mk trivial)) (fun a _=>?_) ?_
  · refine ⟨_,rfl,⟨k + 1,w1 (by omega),by omega⟩,?_⟩
    simp only [w1 (show k < 1000000 by omega)]
    omega
  · rintro (b | b) hb
    · exact hb.elim
    · exact trivial
theorem sin_ok (n : Int) : Ok (Nz n) fun b=>b = true → 0 ≤ n ∧ n < 8:=by
  unfold Nz Sr
  refine .po (P:=fun b=>b = true → 0 ≤ n ∧ n < 8) (.cond (fun h=>.mk fun h2=>?_) fun _=>.mk fun h=>by cases h) fun b hb=>.mk hb
  have h:=of_decide_eq_true h
  have h2:=of_decide_eq_true h2
  omega
theorem all_ok : Ok Oe fun _=>True:=⟨_,rfl,trivial⟩
theorem sGet_ok (s : Ak) (n : Int) : Ok (Jy s n) fun _=>True:=by
  unfold Jy Pk
  refine .po (P:=fun b=>b = false → 0 ≤ n ∧ n < 8) ?_ fun b hb=>.cond (fun _=>.mk trivial) fun h=>.pg (hb h) (.mk trivial)
  refine .po (sMay_ok s) fun b _=>.cond (fun _=>.po (sin_ok n) fun c hc=>.cond (fun h=>.pg (hc h) (.mk fun _=>hc h)) fun _=>.mk fun h=>by cases h) fun _=>.mk fun h=>by cases h
theorem sPut_ok (s : Ak) (n : Int) (b : C128) : Ok (Ip s n b) fun _=>True:=by
  unfold Ip Pb
  refine .pm (P:=fun r=>match r with | .inl _=>0 ≤ n ∧ n < 8 | .inr _=>True) ?_ (fun a h=>.pg h ⟨_,rfl,trivial⟩) fun _ _=>trivial
  refine .po (sMay_ok s) fun m _=>.cond (fun _=>.mk trivial) fun _=>.po (sin_ok n) fun c hc=>.cond (fun _=>.mk trivial) fun h=>?_
  have hn:=hc (by simpa using h)
  exact .po (bmay_ok b) fun d _=>.cond (fun _=>.po all_ok fun _ _=>.mk hn) fun _=>.mk hn
theorem sWord_ok (s : Ak) (i : Ap) : Ok (Mu s i) fun _=>True:=by
  unfold Mu Ld
  refine .po (P:=fun _=>True) (.po (sMay_ok s) fun b _=>.cond (fun _=>.mk trivial) fun _=>?_) fun b _=>.cond (fun _=>.mk trivial) fun _=>.cond (fun _=>.po (sGet_ok s _) fun _ _=>.mk trivial) fun _=>.po (Of_ok _ _) fun _ _=>.mk trivial
  obtain ⟨c,e,_⟩:=instMay_tells i
  rw [e]
  exact .mk trivial
theorem sBack_ok (s : Ak) : Ok (Pg s) fun _=>True:=by
  unfold Pg
  refine .po (sMay_ok s) fun b _=>.cond (fun _=>.mk trivial) fun _=>?_
  refine .po (P:=fun _=>True) (.lp (fun x=>∃ k : Nat,x.2 = (k : Int) ∧ k ≤ 5) (fun x=>(5 - x.2).toNat) ⟨0,rfl,by omega⟩ ?_) fun t _=>?_
  · rintro ⟨u,i⟩ ⟨k,hk,hk8⟩
    simp only at hk
    subst hk
    unfold Qs
    refine .cond (fun h=>?_) fun _=>.mk trivial
    have h:=of_decide_eq_true h
    rw [w1 (show k < 1000000 by omega)]
    refine .pg (by omega) ⟨_,rfl,⟨k + 1,rfl,by omega⟩,?_⟩
    simp only
    omega
  · unfold Ra
    exact .po all_ok fun c _=>.po (sPut_ok t 0 c) fun _ _=>.mk trivial
theorem sJoin_ok (s t : Ak) : Ok (Mx s t) fun _=>True:=by
  unfold Mx
  refine .po (P:=fun _=>True) (.po (sMay_ok s) fun b _=>.cond (fun _=>.po (sMay_ok t) fun _ _=>.mk trivial) fun _=>.mk trivial) fun b _=>?_
  unfold Lb
  refine .cond (fun _=>.mk trivial) fun _=>.po (P:=fun _=>True) (.lp (fun x=>∃ k : Nat,x.2 = (k : Int) ∧ k ≤ 8) (fun x=>(8 - x.2).toNat) ⟨0,rfl,by omega⟩ ?_) fun t _=>.mk trivial
  rintro ⟨u,i⟩ ⟨k,hk,hk8⟩
  simp only at hk
  subst hk
  unfold Ks
  refine .cond (fun h=>?_) fun _=>.mk trivial
  have h:=of_decide_eq_true h
  refine .po (P:=fun _=>True) (.po (P:=fun _=>True) (.pg (by omega) (.cond (fun _=>.mk trivial) fun _=>.mk trivial)) fun c _=>?_) fun x _=>?_
  · unfold Js
    exact .cond (fun _=>.pg (by omega) (.po (bJoin_ok _ _) fun d _=>.po (sPut_ok _ _ _) fun _ _=>.mk trivial)) fun _=>.mk trivial
  · unfold Ns
    rw [w1 (show k < 1000000 by omega)]
    refine .mk ⟨⟨k + 1,rfl,by omega⟩,?_⟩
    simp only
    omega
theorem sNew_ok (a : Int) : Ok (Og a) fun _=>True:=by
  unfold Og
  refine .po (P:=fun c=>c = false → 0 ≤ a ∧ a ≤ 4) (.cond (fun _=>.mk fun h=>by cases h) fun h1=>.mk fun h2=>?_) fun c hc=>?_
  · have h1:=of_decide_eq_false h1
    have h2:=of_decide_eq_false h2
    omega
  unfold Mg
  refine .cond (fun _=>.mk trivial) fun h=>.po (P:=fun _=>True) (.lp (fun x=>∃ k : Nat,x.2 = (k : Int) ∧ k ≤ 8) (fun x=>(8 - x.2).toNat) ⟨0,rfl,by omega⟩ ?_) fun t _=>.mk trivial
  have ha:=hc h
  rintro ⟨u,i⟩ ⟨k,hk,hk8⟩
  simp only at hk
  subst hk
  unfold Pe
  refine .cond (fun h=>?_) fun _=>.mk trivial
  have h:=of_decide_eq_true h
  refine .po all_ok fun c _=>?_
  rw [w1 (show k < 1000000 by omega)]
  refine .pg (by omega) ⟨_,rfl,⟨k + 1,rfl,by omega⟩,?_⟩
  simp only
  omega
theorem IR.zero {I : World → (Nat → Prop) → Prop} {s : St} {a : Act} {W : World} (h : IR I s a W) (ht : (s.tm.all fun p=>p.2.in3 (Hp.has [])) = true) : IR I ⟨s.tm,[],0,s.nt,0⟩ a W:=by
  obtain ⟨own,x,h1,h2,hC,h3⟩:=h
  have hS : SubH [] ([] : Hp):=fun id o h=>h
  have hno : ∀ id g,¬ (x.only (Hp.has [])).dom id g:=fun id g h=>by
    have:=h.2
    simp [Hp.has,look] at this
  exact ⟨own,x.only (Hp.has []),h1,h2,⟨hC.h.sub hS (Hp.has []) fun id o h=>by simp [look] at h,fun t u hu=>((hC.t t u hu).in3_ (look_all ht hu)).mono (Mo.sub hS),hC.n,hC.d,Tr.refl _ _ _,Mo.refl _ _ _,fun id g h=>absurd h (hno id g),Nat.le_refl _,fun id g h=>absurd h (hno id g)⟩,h3⟩
theorem YV.zero {P : Program} {c : Code} {Q : Exit → St → (World → (Nat → Prop) → Prop) → Prop} {s : St} {I : World → (Nat → Prop) → Prop} (ht : (s.tm.all fun p=>p.2.in3 (Hp.has [])) = true) (h : YV P c Q ⟨s.tm,[],0,s.nt,0⟩ I) : YV P c Q s I:=fun a W hI=>h a W (hI.zero ht)
attribute [push_cast] runPre argOk gdOk
theorem itC_len {P : Program} {gf : Nat} {sz i off : Nat} {pre : List AV} {t : Bool} {els : List (List AV)} {rest : List AV} {us : List (List AV)} (h : els.length < 9223372036854775808 → ItC P gf [.dat sz [pre ++ .sl t els :: rest] 0 0] us) : ItC P gf [.dat sz [pre ++ .sl t els :: rest] 0 0] us:=by
  intro W0 x0 lb hH hsz hrel
  refine h ?_ W0 x0 lb hH hsz hrel
  have hv:=hrel 0 _ rfl
  generalize lb.getD 0 undef = v at hv
  cases hv with
  | dat h=>cases h
  | datp els' i off sz a vals hok hsz hcell hd=>
    have:=hd (pre ++ .sl t els :: rest) pre.length (.sl t els) rfl (by simp)
    generalize vals pre.length = q at this
    cases this with
    | sl _ _ A c sz vals hc hm ht hsz hA hcell hd => 
      unfold maxLen at hm
      omega
def backL {α : Type} (l : List α) : List Int:=((List.range l.length).reverse).map fun (i : Nat)=>(i : Int)
def Du0 (u : Int) : List AV:=[ri u,.dead]
theorem backL_len {α : Type} (l : List α) : (backL l).length = l.length:=by simp [backL]
theorem backL_at {α : Type} {l : List α} {n : Nat} (h : n < l.length) : (backL l)[l.length - (n + 1)]? = some (n : Int):=by
  unfold backL
  rw [List.getElem?_map,List.getElem?_reverse (by simp; omega)]
  simp only [List.length_range]
  rw [show l.length - 1 - (l.length - (n + 1)) = n by omega,List.getElem?_range h]
  rfl
theorem Un (a : List Cv) : Ctr prog 131 [.sl false (a.map Al)] [] (.fn (.func 183) [] [.dat 1 [[.sl false (a.map Al)]] 0 0]) []:=by
  refine Ctr.ofW Bb func131 rfl call131 0 _ ntmps131 [.tmp 2] rfl rfl rfl (fun B=>?_)
  refine vs [1] fun _ k=>?_
  push_cast
  apply k
  clear k
  refine VC.sub (Sub.freezeP (k:=1) rfl rfl rfl) ?_
  refine VC.sub (s':=⟨[(1,.dat 1 [[.sl false (a.map Al)]] 0 0)],[],2,4,0⟩) (so (by push_cast)) ?_
  refine vs [2] fun _ k=>?_
  push_cast
  apply k
  clear k
  refine VC.ret ?_
  exact en (by push_cast)
def bkS (l : Nat) (a : List Cv) (n : Nat) : St:=⟨[(0,.fn (.yield l) [] []),(1,.dat 1 [[.sl false (a.map Al)]] 0 0),(3,ri ((n : Int) - 1))],[],0,19,0⟩
theorem it_slices_Backward_api_Fn_api_Fn (a : List Cv) : ItC prog 183 [.dat 1 [[.sl false (a.map Al)]] 0 0] ((backL a).map Du0):=by
  refine itC_len (pre:=[]) (rest:=[]) (i:=0) (off:=0) fun hlen=>?_
  simp only [List.length_map] at hlen
  have hul : ((backL a).map Du0).length = a.length:=by rw [List.length_map,backL_len]
  refine ItC.of func183 rfl 19 ntmps183 rfl rfl rfl (fun l J Jx hJ hJx hJb hY=>?_)
  rw [hul]
  have hgx : GrowI (fun W (_ : Nat → Prop)=>Jx W):=fun A A' own h hg=>hJx A A' h hg
  refine YV.seq ?_
  refine YV.seg (hJ 0) (fun B=>?_)
  refine vl fun _ k=>?_
  have hw : IntKind.i64.wrap ((a.length : Int) - 1) = (a.length : Int) - 1:=wrap_i64 (by omega) (by omega)
  push_cast [hw]
  apply k
  clear k
  refine ⟨bkS l a a.length,so (by push_cast [bkS]),rfl,?_⟩
  refine YV.block ?_
  refine YV.loop (bkS l a) (fun n=>J (a.length - n)) (fun n=>n ≤ a.length) (fun n=>n) a.length (Nat.le_refl _) rfl (by rw [Nat.sub_self]) ?_
  intro n hn
  refine YV.seq ?_
  refine YV.seq ?_
  refine YV.seg (hJ _) (fun B=>?_)
  refine vl fun _ k=>?_
  push_cast [bkS]
  apply k
  clear k
  refine ⟨⟨(8,rb (decide ((n : Int) - 1 ≥ 0))) :: (bkS l a n).tm,[],0,19,0⟩,so (by push_cast [bkS]),rfl,?_⟩
  refine YV.cond rfl rfl (fun hc=>?_) (fun hc=>?_)
  case refine_2=>
    refine YV.exit ?_
    have h0 : n = 0:=by
      have:=of_decide_eq_false hc
      omega
    subst h0
    exact ⟨.inl rfl,.inl rfl⟩
  case refine_1=>
    refine YV.skip ?_
    obtain ⟨m,rfl⟩ : ∃ m,n = m + 1:=by
      have:=of_decide_eq_true hc
      exact ⟨n - 1,by omega⟩
    have hm : m < a.length:=by omega
    have hmI : (m : Int) < (a.length : Int):=by omega
    have e1 : (((m + 1 : Nat) : Int) - 1) = (m : Int):=by omega
    obtain ⟨b,hb⟩ : ∃ b,a[m]? = some b:=⟨_,List.getElem?_eq_getElem hm⟩
    have hb2 : (a.map Al)[m]? = some (Al b):=by rw [List.getElem?_map,hb]; rfl
    have hu : ((backL a).map Du0)[a.length - (m + 1)]? = some (Du0 (m : Int)):=by rw [List.getElem?_map,backL_at hm]; rfl
    show YV prog _ _ _ (J (a.length - (m + 1)))
    refine YV.seq ?_
    refine YV.block ?_
    refine YV.seq ?_
    simp only [bkS,e1]
    refine YV.yieldAt 6 (evOperF_ok Fa) rfl hJ hJx hJb hY hu rfl rfl (by exact rfl) rfl fun _ k=>?_
    push_cast [Du0,hb,hm,hmI]
    intro c
    refine k _ _ ?_
    clear k
    refine ⟨⟨[(18,rb (!c)),(0,.fn (.yield l) [] []),(1,.dat 1 [[.sl false (a.map Al)]] 0 0),(3,ri (m : Int))],[],6,19,6⟩,so (by push_cast),rfl,?_⟩
    refine YV.zero rfl ?_
    refine YV.cond rfl rfl (fun h=>?_) (fun h=>?_)
    · have hcf : c = false:=by simpa using h
      subst hcf
      exact YV.ret ⟨.inr rfl,.inr rfl⟩
    · have hct : c = true:=by simpa using h
      subst hct
      refine YV.skip ?_
      have e2 : a.length - (m + 1) + 1 = a.length - m:=by omega
      show YV prog _ _ _ (J (a.length - (m + 1) + 1))
      rw [e2]
      refine YV.seg (hJ _) (fun B=>?_)
      refine vl fun _ k=>?_
      have hw : IntKind.i64.wrap ((m : Int) - 1) = (m : Int) - 1:=wrap_i64 (by omega) (by omega)
      push_cast [hw]
      apply k
      clear k
      exact ⟨bkS l a m,so (by push_cast [bkS]),rfl,m,by omega,by show m < m + 1; omega,rfl,rfl⟩
noncomputable def Sa (a0 : Ap) : Option (Bool):=
  po (Kb a0) fun r1=>
  some (!r1)
theorem Et0 {a0 : Ap} {r : Bool} (h : Sa a0 = some r) : Ctr prog 221 [.agg (Aw a0)] [] (rb r) []:=by
 unfold Sa at h;refine Ctr.ofW Bb func221 rfl call221 0 _ ntmps221 [.tmp 2] rfl rfl rfl (fun B=>?_);refine vs [1] fun _ k=>?_;push_cast;apply k;clear k;obtain ⟨r1,hr1,h⟩:=Aa h;refine vs [2] fun _ k=>?_;push_cast;refine cp (Ac0 hr1) ?_;push_cast;apply k;clear k;refine VC.ret ?_;replace h:=Option.some.inj h;subst h;exact en (by push_cast)
noncomputable def Bi (a0 : (List Ap)) (i_1 : Int) : Option ((Int) ⊕ ((Unit) ⊕ (Int))):=
  cond (decide (i_1 < (a0.length : Int))) (
  po (idx a0 i_1) fun x4=>
  po (Sa x4) fun r5=>
  cond r5 (
  some (Sum.inr (Sum.inr i_1))) (
  some (Sum.inl (IntKind.i64.wrap (i_1 + 1))))) (
  some (Sum.inr (Sum.inl ())))
noncomputable def Ck : Option (Int):=
  some (-1)
noncomputable def Cb (a0 : (List Ap)) : Option (Int):=
  pm (
  lpU (fun x=>Bi a0 x) 0) (fun x=>Ck)
theorem Mi {a0 : (List Ap)} {r : Int} (h : Cb a0 = some r) : Ctr prog 192 [.sl false (a0.map Aw),.fn (.func 221) [] []] [] (ri r) []:=by
 unfold Cb at h;refine Ctr.ofW Bb func192 rfl call192 0 _ ntmps192 [.tmp 4] rfl rfl rfl (fun B=>?_);refine vs [0,1] fun _ k=>?_;push_cast;apply k;clear k;refine vm h (fun x=>⟨[],[],16,19,0⟩) (fun v1 h hk1=>?_) ?_
 ·refine vs [0,1,7,8] fun _ k=>?_;push_cast;apply k;clear k;refine VC.block ?_;refine VC.loopP h (fun x=>⟨[(0,.sl false (a0.map Aw)),(1,.fn (.func 221) [] []),(7,ri (a0.length : Int)),(8,ri x)],[],15,19,0⟩) ?_ ?_
  ·exact sl (by push_cast)
  rintro i_1 b2 (h : Bi a0 i_1 = some b2) hf2;(try push_cast);unfold Bi at h;refine vs [0,1,7,8,9] fun _ k=>?_;push_cast;apply k;clear k;refine VC.seq ?_;refine vc h (fun hb3 h=>?_) (fun hb3 h=>?_)
  ·refine VC.skip ?_;refine VC.seq ?_;refine VC.block ?_;refine vs [0,1,5,7,8] fun _ k=>?_;push_cast;apply k;clear k;obtain ⟨x4,hx4,h⟩:=Aa h;replace hx4:=Bh hx4;obtain ⟨r5,hr5,h⟩:=Aa h;refine vs [0,1,5,7,8,16] fun _ k=>?_;push_cast [hx4];(repeat refine ao ?_);refine cp (Et0 hr5) ?_;push_cast [hx4];(repeat refine ao ?_);apply k;clear k;refine vc h (fun hb6 h=>?_) (fun hb6 h=>?_)
   ·refine vs [4] fun _ k=>?_;push_cast;apply k;clear k;refine VC.ret ?_;replace h:=ol h hf2;replace h:=om h hk1;replace h:=Option.some.inj h;subst h;exact en (by push_cast [hb3,hb6])
   ·refine VC.skip ?_;refine vl fun _ k=>?_;push_cast;apply k;clear k;refine bk h ?_;exact sl (by push_cast [hb3,hb6])
  ·refine VC.exit ?_;replace h:=ol h hf2;refine am h hk1 ?_;exact sl (by push_cast [hb3])
 ·rintro ⟨⟩ (h : Ck = some r);(try push_cast);unfold Ck at h;refine vs [4] fun _ k=>?_;push_cast;apply k;clear k;refine VC.ret ?_;replace h:=Option.some.inj h;subst h;exact en (by push_cast)
noncomputable def Bw (a0 : (List Ap)) : Option (Bool):=
  po (Cb a0) fun r1=>
  some (decide (r1 ≥ 0))
theorem Lh {a0 : (List Ap)} {r : Bool} (h : Bw a0 = some r) : Ctr prog 147 [.sl false (a0.map Aw),.fn (.func 221) [] []] [] (rb r) []:=by
 unfold Bw at h;refine Ctr.ofW Bb func147 rfl call147 0 _ ntmps147 [.tmp 4] rfl rfl rfl (fun B=>?_);refine vs [0,1] fun _ k=>?_;push_cast;apply k;clear k;obtain ⟨r1,hr1,h⟩:=Aa h;refine vs [4] fun _ k=>?_;push_cast;refine cp (Mi hr1) ?_;push_cast;apply k;clear k;refine VC.ret ?_;replace h:=Option.some.inj h;subst h;exact en (by push_cast)
noncomputable def Nw (i_1 : Bool) : Option (Bool):=
  some i_1
noncomputable def Mv (a0 : (List Ap)) : Option (Bool):=
  po (
  cond (decide ((a0.length : Int) > 0)) (
  cond (decide ((a0.length : Int) ≤ 64)) (
  po (Bw a0) fun r4=>
  some (!r4)) (
  some false)) (
  some false)) (fun x=>Nw x)
theorem Gy0 {a0 : (List Ap)} {r : Bool} (h : Mv a0 = some r) : Ctr prog 184 [.sl false (a0.map Aw)] [] (rb r) []:=by
 unfold Mv at h;refine Ctr.ofW Bb func184 rfl call184 0 _ ntmps184 [.tmp 2] rfl rfl rfl (fun B=>?_);refine vs [0] fun _ k=>?_;push_cast;apply k;clear k;refine vj h (fun x=>⟨[(2,rb x)],[],15,16,0⟩) (fun v1 h hk1=>?_) ?_
 ·rcases bt (decide ((a0.length : Int) > 0)) with hb2 | hb2
  ·replace h:=Ao hb2 h;rcases bt (decide ((a0.length : Int) ≤ 64)) with hb3 | hb3
   ·replace h:=Ao hb3 h;obtain ⟨r4,hr4,h⟩:=Aa h;refine vlG [some 3,some 4,some 5,some 6,some 7,some 8,some 9,some 10,some 11,some 12,some 13,some 14,some 15,some 2] fun _ k=>?_;refine Af 8 fun _ l=>?_;push_cast [hb2,hb3];(repeat refine ao ?_);apply l;clear l;simp only [List.drop_succ_cons,List.drop_zero];push_cast [hb2,hb3];(repeat refine ao ?_);refine cp (Lh hr4) ?_;push_cast [hb2,hb3];(repeat refine ao ?_);apply k;clear k;refine ar h hk1 ?_;exact sl (by push_cast [hb2,hb3])
   ·replace h:=Av hb3 h;refine vlG [some 3,some 4,some 5,some 6,some 7,some 8,some 9,some 10,some 11,some 12,some 13,some 14,some 15,some 2] fun _ k=>?_;refine Af 8 fun _ l=>?_;push_cast [hb2,hb3];(repeat refine ao ?_);apply l;clear l;simp only [List.drop_succ_cons,List.drop_zero];push_cast [hb2,hb3];(repeat refine ao ?_);apply k;clear k;refine ar h hk1 ?_;exact sl (by push_cast [hb2,hb3])
  ·replace h:=Av hb2 h;refine vlG [some 3,some 4,some 5,some 6,some 7,some 8,some 9,some 10,some 11,some 12,some 13,some 14,some 15,some 2] fun _ k=>?_;refine Af 8 fun _ l=>?_;push_cast [hb2];(repeat refine ao ?_);apply l;clear l;simp only [List.drop_succ_cons,List.drop_zero];push_cast [hb2];(repeat refine ao ?_);apply k;clear k;refine ar h hk1 ?_;exact sl (by push_cast [hb2])
 ·rintro i_1 (h : Nw i_1 = some r);(try push_cast);unfold Nw at h;refine VC.ret ?_;replace h:=Option.some.inj h;subst h;exact en (by push_cast)
noncomputable def Qd (a1 : Int) (x1 : Ap) (i_2 : Bool) : Option ((List Int)):=
  cond i_2 (
  some ([(IntKind.i64.wrap (a1 + 1)),(IntKind.i64.wrap ((IntKind.i64.wrap (a1 + x1.Off)) + 1))])) (
  some ([(IntKind.i64.wrap (a1 + 1))]))
noncomputable def Qb (a1 : Int) (x1 : Ap) (i_1 : Bool) : Option ((List Int)):=
  cond i_1 (
  some ([(IntKind.i64.wrap ((IntKind.i64.wrap (a1 + x1.Off)) + 1))])) (
  po (
  cond (x1.Op == 1) (
  some (decide (x1.Off > 0))) (
  some false)) (fun x=>Qd a1 x1 x))
noncomputable def Nq (a0 : (List Ap)) (a1 : Int) : Option ((List Int)):=
  po (idx a0 a1) fun x1=>
  cond (x1.Op == 7) (
  some []) (
  po (
  cond (x1.Op == 1) (
  some (x1.Fn == 0)) (
  some false)) (fun x=>Qb a1 x1 x))
theorem Fy0 {a0 : (List Ap)} {a1 : Int} {r : (List Int)} (h : Nq a0 a1 = some r) : Ctr prog 185 [.sl false (a0.map Aw),ri a1] [] (.row 0 0 1 0 r.length) [(0,.row 3 1 0 (r.map Ef))]:=by
 unfold Nq at h;refine Ctr.ofW Bb func185 rfl call185 0 _ ntmps185 [.tmp 4] rfl rfl rfl (fun B=>?_);refine vs [0,1] fun _ k=>?_;push_cast;apply k;clear k;obtain ⟨x1,hx1,h⟩:=Aa h;replace hx1:=Bh hx1;refine vs [1,5] fun _ k=>?_;push_cast [hx1];(repeat refine ao ?_);apply k;clear k;refine VC.seq ?_;refine VC.block ?_;refine vs [1,5,10] fun _ k=>?_;push_cast;apply k;clear k;refine vc h (fun hb2 h=>?_) (fun hb2 h=>?_)
 ·refine vs [4] fun _ k=>?_;push_cast;apply k;clear k;refine VC.ret ?_;replace h:=Option.some.inj h;subst h;refine Cf (so (s':=⟨[(4,.sl true [])],[],12,49,0⟩) (by push_cast [hb2])) ?_;refine Cf (Sub.adoptT (k:=4) (e:=3) (sz:=1) rfl) ?_;refine Cf (Sub.renT (k:=4) (i':=0) rfl rfl (Nat.le_of_ble_eq_true rfl) (Nat.le_of_ble_eq_true rfl) rfl) ?_;exact en (by push_cast [hb2])
 ·refine vj h (fun x=>⟨[(1,ri a1),(5,.ref 5 0),(14,rb x)],[(5,.box 37 (Aw x1))],20,49,0⟩) (fun v3 h hk3=>?_) ?_
  ·rcases bt (x1.Op == 1) with hb4 | hb4
   ·replace h:=Ao hb4 h;refine vlG [some 15,some 16,some 17,some 18,some 19,some 20,some 21,some 22,some 14] fun _ k=>?_;push_cast [hb4];(repeat refine ao ?_);apply k;clear k;refine ar h hk3 ?_;exact sl (by push_cast [hb2,hb4])
   ·replace h:=Av hb4 h;refine vlG [some 15,some 16,some 17,some 18,some 19,some 20,some 21,some 22,some 14] fun _ k=>?_;push_cast [hb4];(repeat refine ao ?_);apply k;clear k;refine ar h hk3 ?_;exact sl (by push_cast [hb2,hb4])
  ·rintro i_1 (h : Qb a1 x1 i_1 = some r);(try push_cast);unfold Qb at h;refine vc h (fun hb5 h=>?_) (fun hb5 h=>?_)
   ·refine vs [4] fun _ k=>?_;push_cast;apply k;clear k;refine VC.sub (s':=⟨[(4,.row 25 0 1 0 1)],[(25,.row 3 1 0 (([(IntKind.i64.wrap ((IntKind.i64.wrap (a1 + x1.Off)) + 1))]).map Ef))],27,49,0⟩) (so (by push_cast [hb2,hb5])) ?_;refine VC.ret ?_;replace h:=Option.some.inj h;subst h;refine Cf (so (s':=⟨[(4,.row 25 0 1 0 1)],[(25,.row 3 1 0 (([(IntKind.i64.wrap ((IntKind.i64.wrap (a1 + x1.Off)) + 1))]).map Ef))],27,49,0⟩) (by push_cast [hb2,hb5])) ?_;refine Cf (Sub.renT (k:=4) (i':=0) rfl rfl (Nat.le_of_ble_eq_true rfl) (Nat.le_of_ble_eq_true rfl) rfl) ?_;exact en (by push_cast [hb2,hb5])
   ·refine vj h (fun x=>⟨[(1,ri a1),(5,.ref 5 0),(29,rb x)],[(5,.box 37 (Aw x1))],29,49,0⟩) (fun v6 h hk6=>?_) ?_
    ·rcases bt (x1.Op == 1) with hb7 | hb7
     ·replace h:=Ao hb7 h;refine vlG [some 30,some 31,some 32,some 33,some 34,some 35,some 36,some 37,some 29] fun _ k=>?_;push_cast [hb7];(repeat refine ao ?_);apply k;clear k;refine ar h hk6 ?_;exact sl (by push_cast [hb2,hb5,hb7])
     ·replace h:=Av hb7 h;refine vlG [some 30,some 31,some 32,some 33,some 34,some 35,some 36,some 37,some 29] fun _ k=>?_;push_cast [hb7];(repeat refine ao ?_);apply k;clear k;refine ar h hk6 ?_;exact sl (by push_cast [hb2,hb5,hb7])
    ·rintro i_2 (h : Qd a1 x1 i_2 = some r);(try push_cast);unfold Qd at h;refine vc h (fun hb8 h=>?_) (fun hb8 h=>?_)
     ·refine vs [4] fun _ k=>?_;push_cast;apply k;clear k;refine VC.sub (s':=⟨[(4,.row 36 0 1 0 2)],[(36,.row 3 1 0 (([(IntKind.i64.wrap (a1 + 1)),(IntKind.i64.wrap ((IntKind.i64.wrap (a1 + x1.Off)) + 1))]).map Ef))],38,49,0⟩) (so (by push_cast [hb2,hb5,hb8])) ?_;refine VC.ret ?_;replace h:=Option.some.inj h;subst h;refine Cf (so (s':=⟨[(4,.row 36 0 1 0 2)],[(36,.row 3 1 0 (([(IntKind.i64.wrap (a1 + 1)),(IntKind.i64.wrap ((IntKind.i64.wrap (a1 + x1.Off)) + 1))]).map Ef))],38,49,0⟩) (by push_cast [hb2,hb5,hb8])) ?_;refine Cf (Sub.renT (k:=4) (i':=0) rfl rfl (Nat.le_of_ble_eq_true rfl) (Nat.le_of_ble_eq_true rfl) rfl) ?_;exact en (by push_cast [hb2,hb5,hb8])
     ·refine VC.skip ?_;refine vs [4] fun _ k=>?_;push_cast;apply k;clear k;refine VC.sub (s':=⟨[(4,.row 31 0 1 0 1)],[(31,.row 3 1 0 (([(IntKind.i64.wrap (a1 + 1))]).map Ef))],33,49,0⟩) (so (by push_cast [hb2,hb5,hb8])) ?_;refine VC.ret ?_;replace h:=Option.some.inj h;subst h;refine Cf (so (s':=⟨[(4,.row 31 0 1 0 1)],[(31,.row 3 1 0 (([(IntKind.i64.wrap (a1 + 1))]).map Ef))],33,49,0⟩) (by push_cast [hb2,hb5,hb8])) ?_;refine Cf (Sub.renT (k:=4) (i':=0) rfl rfl (Nat.le_of_ble_eq_true rfl) (Nat.le_of_ble_eq_true rfl) rfl) ?_;exact en (by push_cast [hb2,hb5,hb8])
noncomputable def Na (i_61 : Int) (i_62 : Int) (l_63 : (List Int)) : Option ((Int × (List Int) × Int) ⊕ (Int)):=
  some (Sum.inl (i_62,l_63,(IntKind.i64.wrap (i_61 + 1))))
noncomputable def Jo (a0 : (List Ap)) (w_27 : (AN 65)) (r5 : (List Int)) (i_59 : Int) (l_60 : (List Int)) (i_61 : Int) : Option ((Int × (List Int) × Int) ⊕ (Int)):=
  cond (decide (i_61 < (r5.length : Int))) (
  po (
  po (idx l_60 i_61) fun x9=>
  cond (decide (x9 < (a0.length : Int))) (
  pg (0 ≤ x9 ∧ x9 < 65) <|
  some ((maxI i_59 (w_27.get x9.toNat)),l_60)) (
  some (i_59,l_60))) (fun x=>Na i_61 x.1 x.2)) (
  some (Sum.inr i_59))
noncomputable def Lx (x17 : Int) (i_68 : Bool) : Option (Int):=
  cond i_68 (
  some (IntKind.i64.wrap (1 + x17))) (
  some 1)
noncomputable def Ly (a1 : (List Int)) (x13 : Ap) (i_67 : Bool) : Option (Int):=
  cond i_67 (
  po (a1[x13.Imm.toNat]?) fun x17=>
  po (
  cond (decide (x17 ≥ 0)) (
  some (decide (x17 ≤ 1000000))) (
  some false)) (fun x=>Lx x17 x)) (
  some 1)
noncomputable def Lu (w_27 : (AN 65)) (i_28 : Int) (i_39 : Int) (i_52 : Int) : Option (((AN 65) × Int) ⊕ (Int)):=
  pg (0 ≤ i_28 ∧ i_28 < 65) <|
  pl (w_27.set i_28.toNat (minI (IntKind.i64.wrap (i_52 + i_39)) 1000000)) fun y22=>
  cond (decide ((IntKind.i64.wrap (i_28 - 1)) ≥ 0)) (
  some (Sum.inl (y22,(IntKind.i64.wrap (i_28 - 1))))) (
  some (Sum.inr (y22.get 0)))
noncomputable def Jp (a0 : (List Ap)) (a1 : (List Int)) (w_27 : (AN 65)) (i_28 : Int) (i_39 : Int) : Option (((AN 65) × Int) ⊕ (Int)):=
  po (
  po (idx a0 i_28) fun x13=>
  po (
  cond (x13.Op == 6) (
  some (decide (x13.Imm.toNat < a1.length))) (
  some false)) (fun x=>Ly a1 x13 x)) (fun x=>Lu w_27 i_28 i_39 x)
noncomputable def Fi (a0 : (List Ap)) (a1 : (List Int)) (w_27 : (AN 65)) (i_28 : Int) : Option (((AN 65) × Int) ⊕ (Int)):=
  po (
  po (Nq a0 i_28) fun r5=>
  lpU (fun x=>Jo a0 w_27 r5 x.1 x.2.1 x.2.2) (0,r5,0)) (fun x=>Jp a0 a1 w_27 i_28 x)
noncomputable def Hs (a0 : (List Ap)) (a1 : (List Int)) : Option (Int):=
  po (Mv a0) fun r1=>
  cond (!r1) (
  some 0) (
  lpU (fun x=>Fi a0 a1 x.1 x.2) ((AN.zero 65),(IntKind.i64.wrap ((a0.length : Int) - 1))))
theorem Dt0 {a0 : (List Ap)} {a1 : (List Int)} {r : Int} (h : Hs a0 a1 = some r) : Ctr prog 132 [.sl false (a0.map Aw),.sl false (a1.map Ef)] [] (ri r) []:=by
 unfold Hs at h;refine Ctr.ofN Bb func132 rfl call132 0 _ ntmps132 [.tmp 4] rfl rfl rfl (fun B hB=>?_);refine vs [0,1] fun _ k=>?_;push_cast;apply k;clear k;refine VC.jumpsP hB (l:=0) (step:=(fun x=>Fi a0 a1 x.1 x.2)) rfl (fun x=>⟨[(0,.sl false (a0.map Aw)),(1,.sl false (a1.map Ef)),(5,.ref 4 0),(6,ri x.2)],[(4,.box 267 (Hc x.1))],78,78,0⟩) ?_;refine VC.seq ?_;obtain ⟨r1,hr1,h⟩:=Aa h;refine vs [0,1,15] fun _ k=>?_;push_cast;refine cp (Gy0 hr1) ?_;push_cast;apply k;clear k;refine vc h (fun hb2 h=>?_) (fun hb2 h=>?_)
 ·refine vs [4] fun _ k=>?_;push_cast;apply k;clear k;refine VC.ret ?_;replace h:=Option.some.inj h;subst h;exact en (by push_cast [hb2])
 ·refine VC.skip ?_;refine vs [0,1,5] fun _ k=>?_;push_cast;apply k;clear k;refine VC.sub (s':=⟨[(0,.sl false (a0.map Aw)),(1,.sl false (a1.map Ef)),(5,.ref 4 0)],[(4,.box 267 (Hc (AN.zero 65)))],5,78,0⟩) (so (h4:=by first | exact rfl | simp [St.wf,AV.in3,AV.in2,AV.in1,AV.in0,AObj.inD,Fv,ri,ru,rb,Aw]) (by push_cast [hb2,Hc,AN.zero,AN.un])) ?_;refine vs [0,1,5,6] fun _ k=>?_;push_cast;apply k;clear k;refine VC.labelP h (fun x=>⟨[(0,.sl false (a0.map Aw)),(1,.sl false (a1.map Ef)),(5,.ref 4 0),(6,ri x.2)],[(4,.box 267 (Hc x.1))],78,78,0⟩) ?_ ?_
  ·exact sl (h4:=by first | exact rfl | simp [St.wf,AV.in3,AV.in2,AV.in1,AV.in0,AObj.inD,Fv,ri,ru,rb,Aw]) (by push_cast [hb2])
  rintro ⟨w_27,i_28⟩ b3 (h : Fi a0 a1 w_27 i_28 = some b3) hf3;(try push_cast);unfold Fi at h;refine vs [0,1,5,6,7] fun _ k=>?_;push_cast;apply k;clear k;refine vj h (fun x=>⟨[(0,.sl false (a0.map Aw)),(1,.sl false (a1.map Ef)),(5,.ref 4 0),(6,ri i_28),(7,ri x)],[(4,.box 267 (Hc w_27))],101,78,0⟩) (fun v4 h hk4=>?_) ?_
  ·obtain ⟨r5,hr5,h⟩:=Aa h;refine vs [0,1,5,6,7,21,22,23] fun _ k=>?_;push_cast;refine ch (H:=[]) (Ctr.loH (Ctr.ren (Bij.swp 0 81 Bij.id) (Fy0 hr5) (by push_cast) (by push_cast))) (by push_cast) ?_;push_cast;apply k;clear k;refine VC.sub (s':=⟨[(0,.sl false (a0.map Aw)),(1,.sl false (a1.map Ef)),(5,.ref 4 0),(6,ri i_28),(7,ri 0),(21,.row 81 0 1 0 r5.length),(22,ri (r5.length : Int)),(23,ri 0)],[(4,.box 267 (Hc w_27)),(81,.row 3 1 0 (r5.map Ef))],84,78,0⟩) (so (h4:=by first | exact rfl | simp [St.wf,AV.in3,AV.in2,AV.in1,AV.in0,AObj.inD,Fv,ri,ru,rb,Aw]) (by push_cast [hb2])) ?_;refine VC.block ?_;refine VC.loopP h (fun x=>⟨[(0,.sl false (a0.map Aw)),(1,.sl false (a1.map Ef)),(5,.ref 4 0),(6,ri i_28),(7,ri x.1),(21,.row 81 0 1 0 x.2.1.length),(22,ri (r5.length : Int)),(23,ri x.2.2)],[(4,.box 267 (Hc w_27)),(81,.row 3 1 0 (x.2.1.map Ef))],100,78,0⟩) ?_ ?_
   ·exact sl (h4:=by first | exact rfl | simp [St.wf,AV.in3,AV.in2,AV.in1,AV.in0,AObj.inD,Fv,ri,ru,rb,Aw]) (by push_cast [hb2])
   rintro ⟨i_59,l_60,i_61⟩ b6 (h : Jo a0 w_27 r5 i_59 l_60 i_61 = some b6) hf6;(try push_cast);unfold Jo at h;refine vs [0,1,5,6,7,21,22,23,24] fun _ k=>?_;push_cast;apply k;clear k;refine VC.seq ?_;refine vc h (fun hb7 h=>?_) (fun hb7 h=>?_)
   ·refine VC.skip ?_;refine vj h (fun x=>⟨[(0,.sl false (a0.map Aw)),(1,.sl false (a1.map Ef)),(5,.ref 4 0),(6,ri i_28),(7,ri x.1),(21,.row 81 0 1 0 x.2.length),(22,ri (r5.length : Int)),(23,ri i_61)],[(4,.box 267 (Hc w_27)),(81,.row 3 1 0 (x.2.map Ef))],114,78,0⟩) (fun v8 h hk8=>?_) ?_
    ·refine VC.block ?_;obtain ⟨x9,hx9,h⟩:=Aa h;replace hx9:=Bh hx9;refine vs [0,1,5,6,7,9,21,22,23] fun _ k=>?_;push_cast [hx9];(repeat refine ao ?_);apply k;clear k;refine vs [0,1,5,6,7,9,21,22,23,30] fun _ k=>?_;push_cast;apply k;clear k;refine vc h (fun hb10 h=>?_) (fun hb10 h=>?_)
     ·obtain ⟨hg11,h⟩:=Bs h;have hg11n : x9.toNat < 65:=by omega
      refine vl fun _ k=>?_;push_cast [hg11,hg11n];(repeat refine ao ?_);apply k;clear k;refine ar h hk8 ?_;exact sl (h4:=by first | exact rfl | simp [St.wf,AV.in3,AV.in2,AV.in1,AV.in0,AObj.inD,Fv,ri,ru,rb,Aw]) (by push_cast [hb2,hb7,hb10])
     ·refine VC.skip ?_;refine ar h hk8 ?_;exact sl (h4:=by first | exact rfl | simp [St.wf,AV.in3,AV.in2,AV.in1,AV.in0,AObj.inD,Fv,ri,ru,rb,Aw]) (by push_cast [hb2,hb7,hb10])
    ·rintro ⟨i_62,l_63⟩ (h : Na i_61 i_62 l_63 = some b6);(try push_cast);unfold Na at h;refine vl fun _ k=>?_;push_cast;apply k;clear k;refine bk h ?_;exact sl (h4:=by first | exact rfl | simp [St.wf,AV.in3,AV.in2,AV.in1,AV.in0,AObj.inD,Fv,ri,ru,rb,Aw]) (by push_cast [hb2,hb7])
   ·refine VC.exit ?_;replace h:=ol h hf6;refine ar h hk4 ?_;exact sl (h4:=by first | exact rfl | simp [St.wf,AV.in3,AV.in2,AV.in1,AV.in0,AObj.inD,Fv,ri,ru,rb,Aw]) (by push_cast [hb2,hb7])
  ·rintro i_39 (h : Jp a0 a1 w_27 i_28 i_39 = some b3);(try push_cast);unfold Jp at h;refine vs [0,1,5,6,7,10] fun _ k=>?_;push_cast;apply k;clear k;refine vj h (fun x=>⟨[(0,.sl false (a0.map Aw)),(1,.sl false (a1.map Ef)),(5,.ref 4 0),(6,ri i_28),(7,ri i_39),(10,ri x)],[(4,.box 267 (Hc w_27))],135,78,0⟩) (fun v12 h hk12=>?_) ?_
   ·obtain ⟨x13,hx13,h⟩:=Aa h;replace hx13:=Bh hx13;refine vs [0,1,5,6,7,10,11] fun _ k=>?_;push_cast [hx13];(repeat refine ao ?_);apply k;clear k;refine vj h (fun x=>⟨[(0,.sl false (a0.map Aw)),(1,.sl false (a1.map Ef)),(5,.ref 4 0),(6,ri i_28),(7,ri i_39),(10,ri 1),(11,.ref 106 0),(51,rb x)],[(4,.box 267 (Hc w_27)),(106,.box 37 (Aw x13))],119,78,0⟩) (fun v14 h hk14=>?_) ?_
    ·rcases bt (x13.Op == 6) with hb15 | hb15
     ·replace h:=Ao hb15 h;refine vlG [some 41,some 42,some 43,some 44,some 45,some 46,some 47,some 48,some 49,some 50,some 51] fun _ k=>?_;refine Af 8 fun _ l=>?_;push_cast [hb15];(repeat refine ao ?_);apply l;clear l;simp only [List.drop_succ_cons,List.drop_zero];push_cast [hb15];(repeat refine ao ?_);apply k;clear k;refine ar h hk14 ?_;exact sl (h4:=by first | exact rfl | simp [St.wf,AV.in3,AV.in2,AV.in1,AV.in0,AObj.inD,Fv,ri,ru,rb,Aw]) (by push_cast [hb2,hb15])
     ·replace h:=Av hb15 h;refine vlG [some 41,some 42,some 43,some 44,some 45,some 46,some 47,some 48,some 49,some 50,some 51] fun _ k=>?_;refine Af 8 fun _ l=>?_;push_cast [hb15];(repeat refine ao ?_);apply l;clear l;simp only [List.drop_succ_cons,List.drop_zero];push_cast [hb15];(repeat refine ao ?_);apply k;clear k;refine ar h hk14 ?_;exact sl (h4:=by first | exact rfl | simp [St.wf,AV.in3,AV.in2,AV.in1,AV.in0,AObj.inD,Fv,ri,ru,rb,Aw]) (by push_cast [hb2,hb15])
    ·rintro i_67 (h : Ly a1 x13 i_67 = some v12);(try push_cast);unfold Ly at h;refine vc h (fun hb16 h=>?_) (fun hb16 h=>?_)
     ·obtain ⟨x17,hx17,h⟩:=Aa h;replace hx17:=gL hx17;refine vs [0,1,5,6,7,10,12] fun _ k=>?_;push_cast [hx17];(repeat refine ao ?_);apply k;clear k;refine vj h (fun x=>⟨[(0,.sl false (a0.map Aw)),(1,.sl false (a1.map Ef)),(5,.ref 4 0),(6,ri i_28),(7,ri i_39),(10,ri 1),(12,ri x17),(62,rb x)],[(4,.box 267 (Hc w_27))],131,78,0⟩) (fun v18 h hk18=>?_) ?_
      ·rcases bt (decide (x17 ≥ 0)) with hb19 | hb19
       ·replace h:=Ao hb19 h;refine vlG [some 57,some 58,some 59,some 60,some 61,some 62] fun _ k=>?_;push_cast [hb19];(repeat refine ao ?_);apply k;clear k;refine ar h hk18 ?_;exact sl (h4:=by first | exact rfl | simp [St.wf,AV.in3,AV.in2,AV.in1,AV.in0,AObj.inD,Fv,ri,ru,rb,Aw]) (by push_cast [hb2,hb16,hb19])
       ·replace h:=Av hb19 h;refine vlG [some 57,some 58,some 59,some 60,some 61,some 62] fun _ k=>?_;push_cast [hb19];(repeat refine ao ?_);apply k;clear k;refine ar h hk18 ?_;exact sl (h4:=by first | exact rfl | simp [St.wf,AV.in3,AV.in2,AV.in1,AV.in0,AObj.inD,Fv,ri,ru,rb,Aw]) (by push_cast [hb2,hb16,hb19])
      ·rintro i_68 (h : Lx x17 i_68 = some v12);(try push_cast);unfold Lx at h;refine vc h (fun hb20 h=>?_) (fun hb20 h=>?_)
       ·refine vl fun _ k=>?_;push_cast;apply k;clear k;refine ar h hk12 ?_;exact sl (h4:=by first | exact rfl | simp [St.wf,AV.in3,AV.in2,AV.in1,AV.in0,AObj.inD,Fv,ri,ru,rb,Aw]) (by push_cast [hb2,hb16,hb20])
       ·refine VC.skip ?_;refine ar h hk12 ?_;exact sl (h4:=by first | exact rfl | simp [St.wf,AV.in3,AV.in2,AV.in1,AV.in0,AObj.inD,Fv,ri,ru,rb,Aw]) (by push_cast [hb2,hb16,hb20])
     ·refine VC.skip ?_;refine ar h hk12 ?_;exact sl (h4:=by first | exact rfl | simp [St.wf,AV.in3,AV.in2,AV.in1,AV.in0,AObj.inD,Fv,ri,ru,rb,Aw]) (by push_cast [hb2,hb16])
   ·rintro i_52 (h : Lu w_27 i_28 i_39 i_52 = some b3);(try push_cast);unfold Lu at h;obtain ⟨hg21,h⟩:=Bs h;have hg21n : i_28.toNat < 65:=by omega
    obtain ⟨y22,hy22,h⟩:=Bn h;refine vs [0,1,5,6] fun _ k=>?_;push_cast [hg21,hg21n];(repeat refine ao ?_);apply k;clear k;refine VC.seq ?_;refine vs [0,1,5,6] fun _ k=>?_;push_cast;apply k;clear k;refine vs [0,1,5,6,75] fun _ k=>?_;push_cast;apply k;clear k;refine vc h (fun hb23 h=>?_) (fun hb23 h=>?_)
    ·refine VC.goto ?_;refine ⟨rfl,bk h ?_⟩;exact sl (h4:=by first | exact rfl | simp [St.wf,AV.in3,AV.in2,AV.in1,AV.in0,AObj.inD,Fv,ri,ru,rb,Aw]) (by push_cast [hb2,hy22,hb23])
    ·refine VC.skip ?_;refine vs [4] fun _ k=>?_;push_cast;apply k;clear k;refine VC.ret ?_;replace h:=ol h hf3;replace h:=Option.some.inj h;subst h;exact en (by push_cast [hb2,hy22,hb23])
noncomputable def Fl (a0 : Ar) (l_4 : (List Int)) (u6 : Int) : Option (((List Int)) ⊕ (Unit)):=
  po (idx a0.Fns u6) fun x8=>
  po (Hs x8.Code l_4) fun r9=>
  po (idx l_4 u6) fun x10=>
  pl (l_4.set u6.toNat r9) fun y11=>
  some (Sum.inl y11)
noncomputable def Ny (l_4 : (List Int)) : Option ((List Int)):=
  some l_4
noncomputable def Kg (l_3 : (List Int)) : Option (Int):=
  po (l_3[0]?) fun x12=>
  some x12
noncomputable def Ir (a0 : Ar) : Option (Int):=
  po (Ja a0) fun r1=>
  cond (!r1) (
  some 0) (
  pg (0 ≤ (a0.Fns.length : Int) ∧ 8 * (a0.Fns.length : Int) ≤ 140737488355328) <|
  pl (List.replicate a0.Fns.length 0) fun y4=>
  po (
  pq (itU (fun x u=>Fl a0 x u) (backL a0.Fns) y4) (fun x=>Ny x) (fun _=>none)) (fun x=>Kg x))
theorem Dv0 {a0 : Ar} {r : Int} (h : Ir a0 = some r) : Ctr prog 92 [.agg (Ey a0)] [] (ri r) []:=by
 unfold Ir at h;refine Ctr.ofN Bb func92 rfl call92 0 _ ntmps92 [.tmp 2] rfl rfl rfl (fun B hB=>?_);refine vs [1] fun _ k=>?_;push_cast;apply k;clear k;refine VC.seq ?_;obtain ⟨r1,hr1,h⟩:=Aa h;refine vs [1,7] fun _ k=>?_;push_cast;refine cp (Zh hr1) ?_;push_cast;apply k;clear k;refine vc h (fun hb2 h=>?_) (fun hb2 h=>?_)
 ·refine vs [2] fun _ k=>?_;push_cast;apply k;clear k;refine VC.ret ?_;replace h:=Option.some.inj h;subst h;exact en (by push_cast [hb2])
 ·refine VC.skip ?_;obtain ⟨hg3,h⟩:=Bs h;obtain ⟨y4,hy4,h⟩:=Bn h;refine vs [1,3] fun _ k=>?_;push_cast [hg3];(repeat refine ao ?_);apply k;clear k;refine VC.sub (s':=⟨[(1,.ref 0 0),(3,.ref 9 0)],[(0,.box 56 [.sl false (a0.Fns.map Al)]),(8,.row 3 1 0 (y4.map Ef)),(9,.box 84 [.row 8 0 1 0 y4.length])],11,31,0⟩) (so (by push_cast [hb2,hy4])) ?_;refine vj h (fun x=>⟨[(3,.ref 9 0)],[(8,.row 3 1 0 (x.map Ef)),(9,.box 84 [.row 8 0 1 0 x.length])],26,31,0⟩) (fun v5 h hk5=>?_) ?_
  ·refine vs [1,3,14] fun _ k=>?_;push_cast;refine cp (Un a0.Fns) ?_;push_cast;apply k;clear k;refine VC.block ?_;obtain ⟨b7,hi7,hd7,hx7⟩:=pq_some h;refine VC.sub (s':=⟨[(1,.ref 0 0),(3,.ref 9 0),(14,.fn (.func 183) [] [.dat 1 [[.sl false (a0.Fns.map Al)]] 0 0])],(fun x=>[(0,.box 56 [.sl false (a0.Fns.map Al)]),(8,.row 3 1 0 (x.map Ef)),(9,.box 84 [.row 8 0 1 0 x.length])]) y4,26,31,0⟩) ?_ ?_
   ·(try push_cast);exact sl (by push_cast [hb2])
   ·refine VC.rangeP (enc:=fun u6=>[ri u6,.dead]) hB hi7 rfl call183 rfl rfl (fun _=>rfl) (it_slices_Backward_api_Fn_api_Fn a0.Fns) (fun x=>[(0,.box 56 [.sl false (a0.Fns.map Al)]),(8,.row 3 1 0 (x.map Ef)),(9,.box 84 [.row 8 0 1 0 x.length])]) (fun (_ : Unit)=>[]) rfl ?_ ?_ ?_
    ·rintro l_4 u6 c (h : Fl a0 l_4 u6 = some c) B2;(try push_cast);unfold Fl at h;refine vl fun _ k=>?_;push_cast;apply k;clear k;refine ⟨[(1,.ref 0 0),(3,.ref 9 0),(4,ri u6),(14,.fn (.func 183) [] [.dat 1 [[.sl false (a0.Fns.map Al)]] 0 0]),(15,ri u6)],so (by push_cast),fun B3=>?_⟩;(try push_cast);refine VC.block ?_;obtain ⟨x8,hx8,h⟩:=Aa h;replace hx8:=Bh hx8;obtain ⟨r9,hr9,h⟩:=Aa h;obtain ⟨x10,hx10,h⟩:=Aa h;replace hx10:=Bh hx10;obtain ⟨y11,hy11,h⟩:=Bn h;have hy11l : y11.length = l_4.length:=by rw [hy11,List.length_set]
     refine vlD [some 17,some 18,some 19,some 20,some 21,some 22,some 23,some 24,some 25,some 26,some 27,none] fun _ k=>?_;refine Ce 8 fun _ l=>?_;push_cast [hx8,hx10];(repeat refine ao ?_);apply l;clear l;simp only [List.drop_succ_cons,List.drop_zero];push_cast [hx8,hx10];(repeat refine ao ?_);refine chD (H:=[(8,.row 3 1 0 (l_4.map Ef))]) (H':=_) (Ctr.borrow (Dt0 hr9) (by push_cast [hx8,hx10]) rfl) (by push_cast [hx8,hx10]) ?_;push_cast [hx8,hx10];(repeat refine ao ?_);refine ⟨rfl,k _ ?_⟩;clear k;refine ⟨_,(Option.some.inj h).symm,?_⟩;exact sl (by push_cast [hb2,hy11,hy11l])
    ·rintro l_4 hb;replace h : Ny l_4 = some v5:=hd7 _ hb;unfold Ny at h;refine ar h hk5 ?_;exact sl (by push_cast [hb2])
    ·intro y hb;cases hx7 _ hb
  ·rintro l_3 (h : Kg l_3 = some r);(try push_cast);unfold Kg at h;obtain ⟨x12,hx12,h⟩:=Aa h;replace hx12:=gL hx12;refine vs [2] fun _ k=>?_;push_cast [hx12];(repeat refine ao ?_);apply k;clear k;refine VC.ret ?_;replace h:=Option.some.inj h;subst h;exact en (by push_cast [hb2])
noncomputable def Eo (a0 : Ac) (a1 : Int) (a2 : Ak) : Option (Ac):=
  cond (decide (a1 ≥ (a0.in_.length : Int))) (
  some (Ac.mk a0.p a0.fn a0.l a0.in_ a0.is a0.at_ false)) (
  po (idx a0.is a1) fun x2=>
  cond x2 (
  po (idx a0.in_ a1) fun x4=>
  po (Mx x4 a2) fun r5=>
  pl (a0.in_.set a1.toNat r5) fun y6=>
  some (Ac.mk a0.p a0.fn a0.l y6 a0.is a0.at_ a0.safe)) (
  po (idx a0.in_ a1) fun x7=>
  pl (a0.in_.set a1.toNat a2) fun y8=>
  pl (a0.is.set a1.toNat true) fun y9=>
  some (Ac.mk a0.p a0.fn a0.l y8 y9 a0.at_ a0.safe)))
theorem Ps {a0 : Ac} {a1 : Int} {a2 : Ak} {r : Ac} (h : Eo a0 a1 a2 = some r) : Ctr prog 129 [.ref 0 0,ri a1,.agg (Ag a2)] [(0,.box 212 [.sl false (a0.p.Fns.map Al),ri a0.fn,.sl false (a0.l.map Ai),.row 1 0 16 0 a0.in_.length,.row 2 0 1 0 a0.is.length,ri a0.at_,rb a0.safe]),(1,.row 217 16 0 (a0.in_.map Ag)),(2,.row 4 1 0 (a0.is.map Az))] (.tup []) [(0,.box 212 [.sl false (r.p.Fns.map Al),ri r.fn,.sl false (r.l.map Ai),.row 1 0 16 0 r.in_.length,.row 2 0 1 0 r.is.length,ri r.at_,rb r.safe]),(1,.row 217 16 0 (r.in_.map Ag)),(2,.row 4 1 0 (r.is.map Az))]:=by
 unfold Eo at h;refine Ctr.ofW Bb func129 rfl call129 3 _ ntmps129 [] rfl rfl rfl (fun B=>?_);refine vs [0,1,5] fun _ k=>?_;push_cast;apply k;clear k;refine VC.block ?_;refine vs [0,1,5,19] fun _ k=>?_;push_cast;apply k;clear k;refine vc h (fun hb1 h=>?_) (fun hb1 h=>?_)
 ·refine vl fun _ k=>?_;push_cast;apply k;clear k;replace h:=Option.some.inj h;subst h;exact eN (by push_cast [hb1])
 ·obtain ⟨x2,hx2,h⟩:=Aa h;replace hx2:=Bh hx2;refine vs [0,1,5,30] fun _ k=>?_;push_cast [hx2];(repeat refine ao ?_);apply k;clear k;refine vc h (fun hb3 h=>?_) (fun hb3 h=>?_)
  ·obtain ⟨x4,hx4,h⟩:=Aa h;replace hx4:=Bh hx4;obtain ⟨r5,hr5,h⟩:=Aa h;obtain ⟨y6,hy6,h⟩:=Bn h;have hy6l : y6.length = a0.in_.length:=by rw [hy6,List.length_set]
   refine vlD [some 38,some 39,some 40,some 41,some 42,some 43,some 44,some 45,some 46,some 47,some 48,some 49,some 50,some 51,some 52,none] fun _ k=>?_;refine Ce 8 fun _ l=>?_;push_cast [hx4];(repeat refine ao ?_);apply l;clear l;simp only [List.drop_succ_cons,List.drop_zero];push_cast [hx4];(repeat refine ao ?_);refine cpD (Gi0 hr5) ?_;push_cast [hx4];(repeat refine ao ?_);refine ⟨rfl,k _ ?_⟩;clear k;replace h:=Option.some.inj h;subst h;exact eN (by push_cast [hb1,hb3,hy6,hy6l])
  ·obtain ⟨x7,hx7,h⟩:=Aa h;replace hx7:=Bh hx7;obtain ⟨y8,hy8,h⟩:=Bn h;have hy8l : y8.length = a0.in_.length:=by rw [hy8,List.length_set]
   obtain ⟨y9,hy9,h⟩:=Bn h;have hy9l : y9.length = a0.is.length:=by rw [hy9,List.length_set]
   refine vlD [some 6,some 7,some 8,some 9,some 10,some 11,some 12,some 13,some 14,some 15,some 16,some 17,none,some 18,none] fun _ k=>?_;refine Ce 8 fun _ l=>?_;push_cast [hx7,hx2];(repeat refine ao ?_);apply l;clear l;simp only [List.drop_succ_cons,List.drop_zero];push_cast [hx7,hx2];(repeat refine ao ?_);refine ⟨rfl,k _ ?_⟩;clear k;replace h:=Option.some.inj h;subst h;exact eN (by push_cast [hb1,hb3,hy8,hy8l,hy9,hy9l])
noncomputable def Ln (a0 : Au) : Option (Bool):=
  po (Ed a0) fun r1=>
  some (!r1)
theorem Cz0 {a0 : Au} {r : Bool} (h : Ln a0 = some r) : Ctr prog 127 [.agg (Ai a0)] [] (rb r) []:=by
 unfold Ln at h;refine Ctr.ofW Bb func127 rfl call127 0 _ ntmps127 [.tmp 2] rfl rfl rfl (fun B=>?_);refine vs [1] fun _ k=>?_;push_cast;apply k;clear k;obtain ⟨r1,hr1,h⟩:=Aa h;refine vs [2] fun _ k=>?_;push_cast;refine cp (Iq hr1) ?_;push_cast;apply k;clear k;refine VC.ret ?_;replace h:=Option.some.inj h;subst h;exact en (by push_cast)
noncomputable def Cu (a0 : Ac) : Option (Ak × Ac):=
  po (idx a0.in_ a0.at_) fun x1=>
  some (x1,a0)
theorem Fb {a0 : Ac} {r : Ak × Ac} (h : Cu a0 = some r) : Ctr prog 213 [.ref 0 0] [(0,.box 212 [.sl false (a0.p.Fns.map Al),ri a0.fn,.sl false (a0.l.map Ai),.row 1 0 16 0 a0.in_.length,.row 2 0 1 0 a0.is.length,ri a0.at_,rb a0.safe]),(1,.row 217 16 0 (a0.in_.map Ag)),(2,.row 4 1 0 (a0.is.map Az))] (.agg (Ag r.1)) [(0,.box 212 [.sl false (r.2.p.Fns.map Al),ri r.2.fn,.sl false (r.2.l.map Ai),.row 1 0 16 0 r.2.in_.length,.row 2 0 1 0 r.2.is.length,ri r.2.at_,rb r.2.safe]),(1,.row 217 16 0 (r.2.in_.map Ag)),(2,.row 4 1 0 (r.2.is.map Az))]:=by
 unfold Cu at h;refine Ctr.ofW Bb func213 rfl call213 3 _ ntmps213 [.cell 2 217] rfl rfl rfl (fun B=>?_);refine vs [0,2] fun _ k=>?_;push_cast;apply k;clear k;obtain ⟨x1,hx1,h⟩:=Aa h;replace hx1:=Bh hx1;refine vsD [some 3,some 4,some 5,some 6,some 7,some 8,some 9,some 10,some 11,some 12,none] [2] fun _ k=>?_;refine Ce 8 fun _ l=>?_;push_cast [hx1];(repeat refine ao ?_);apply l;clear l;simp only [List.drop_succ_cons,List.drop_zero];push_cast [hx1];(repeat refine ao ?_);refine ⟨rfl,k _ ?_⟩;clear k;refine VC.ret ?_;replace h:=Option.some.inj h;subst h;exact en (by push_cast [Ow])
noncomputable def Jc (r3 : C128 × Bool) (s_1 : Ac) : Option (C128 × Ac):=
  some (r3.1,s_1)
noncomputable def Da (a0 : Ac) (a1 : Int) : Option (C128 × Ac):=
  po (Cu a0) fun r1=>
  pg (r1.2 = a0) <|
  po (Jy r1.1 a1) fun r3=>
  po (
  cond a0.safe (
  some (Ac.mk a0.p a0.fn a0.l a0.in_ a0.is a0.at_ r3.2)) (
  some (Ac.mk a0.p a0.fn a0.l a0.in_ a0.is a0.at_ false))) (fun x=>Jc r3 x)
theorem Gz {a0 : Ac} {a1 : Int} {r : C128 × Ac} (h : Da a0 a1 = some r) : Ctr prog 210 [.ref 0 0,ri a1] [(0,.box 212 [.sl false (a0.p.Fns.map Al),ri a0.fn,.sl false (a0.l.map Ai),.row 1 0 16 0 a0.in_.length,.row 2 0 1 0 a0.is.length,ri a0.at_,rb a0.safe]),(1,.row 217 16 0 (a0.in_.map Ag)),(2,.row 4 1 0 (a0.is.map Az))] (.raw (.complex .f64 r.1.re r.1.im)) [(0,.box 212 [.sl false (r.2.p.Fns.map Al),ri r.2.fn,.sl false (r.2.l.map Ai),.row 1 0 16 0 r.2.in_.length,.row 2 0 1 0 r.2.is.length,ri r.2.at_,rb r.2.safe]),(1,.row 217 16 0 (r.2.in_.map Ag)),(2,.row 4 1 0 (r.2.is.map Az))]:=by
 unfold Da at h;refine Ctr.ofW Bb func210 rfl call210 3 _ ntmps210 [.tmp 4] rfl rfl rfl (fun B=>?_);refine vs [0,1] fun _ k=>?_;push_cast;apply k;clear k;obtain ⟨r1,hr1,h⟩:=Aa h;obtain ⟨hg2,h⟩:=Bs h;have qr1:=Fb hr1;rw [hg2] at qr1;obtain ⟨r3,hr3,h⟩:=Aa h;refine vs [0,5,6] fun _ k=>?_;push_cast;refine chR (H:=[(0,.box 212 [.sl false (a0.p.Fns.map Al),ri a0.fn,.sl false (a0.l.map Ai),.row 1 0 16 0 a0.in_.length,.row 2 0 1 0 a0.is.length,ri a0.at_,rb a0.safe]),(1,.row 217 16 0 (a0.in_.map Ag)),(2,.row 4 1 0 (a0.is.map Az))]) (Ctr.loH (Ctr.ren Bij.id (qr1) (by push_cast) (by push_cast))) (by push_cast) (by push_cast) ?_;push_cast;refine cp (Dc0 hr3) ?_;push_cast;apply k;clear k;refine VC.sub (s':=⟨[(0,.ref 0 0),(5,.raw (.complex .f64 r3.1.re r3.1.im)),(6,rb r3.2)],[(0,.box 212 [.sl false (a0.p.Fns.map Al),ri a0.fn,.sl false (a0.l.map Ai),.row 1 0 16 0 a0.in_.length,.row 2 0 1 0 a0.is.length,ri a0.at_,rb a0.safe]),(1,.row 217 16 0 (a0.in_.map Ag)),(2,.row 4 1 0 (a0.is.map Az))],13,25,3⟩) (so (by push_cast)) ?_;refine vj h (fun x=>⟨[(5,.raw (.complex .f64 r3.1.re r3.1.im))],[(0,.box 212 [.sl false (x.p.Fns.map Al),ri x.fn,.sl false (x.l.map Ai),.row 1 0 16 0 x.in_.length,.row 2 0 1 0 x.is.length,ri x.at_,rb x.safe]),(1,.row 217 16 0 (x.in_.map Ag)),(2,.row 4 1 0 (x.is.map Az))],24,25,3⟩) (fun v4 h hk4=>?_) ?_
 ·rcases bt a0.safe with hb5 | hb5
  ·replace h:=Ao hb5 h;refine vlG [some 14,some 15,some 16,some 17,some 18,some 19,some 20,some 21,some 22,some 23,none] fun _ k=>?_;refine Af 8 fun _ l=>?_;push_cast [hb5];(repeat refine ao ?_);apply l;clear l;simp only [List.drop_succ_cons,List.drop_zero];push_cast [hb5];(repeat refine ao ?_);apply k;clear k;refine ar h hk4 ?_;exact sl (by push_cast [hb5])
  ·replace h:=Av hb5 h;refine vlG [some 14,some 15,some 16,some 17,some 18,some 19,some 20,some 21,some 22,some 23,none] fun _ k=>?_;refine Af 8 fun _ l=>?_;push_cast [hb5];(repeat refine ao ?_);apply l;clear l;simp only [List.drop_succ_cons,List.drop_zero];push_cast [hb5];(repeat refine ao ?_);apply k;clear k;refine ar h hk4 ?_;exact sl (by push_cast [hb5])
 ·rintro s_1 (h : Jc r3 s_1 = some r);(try push_cast);unfold Jc at h;refine vs [4] fun _ k=>?_;push_cast;apply k;clear k;refine VC.ret ?_;replace h:=Option.some.inj h;subst h;exact en (by push_cast)
noncomputable def Dv (a0 : Ac) (a1 : Ak) : Option (Ac):=
  cond a0.safe (
  po (Eo a0 (IntKind.i64.wrap (a0.at_ + 1)) a1) fun r2=>
  some r2) (
  some a0)
theorem Nt {a0 : Ac} {a1 : Ak} {r : Ac} (h : Dv a0 a1 = some r) : Ctr prog 217 [.ref 0 0,.agg (Ag a1)] [(0,.box 212 [.sl false (a0.p.Fns.map Al),ri a0.fn,.sl false (a0.l.map Ai),.row 1 0 16 0 a0.in_.length,.row 2 0 1 0 a0.is.length,ri a0.at_,rb a0.safe]),(1,.row 217 16 0 (a0.in_.map Ag)),(2,.row 4 1 0 (a0.is.map Az))] (.tup []) [(0,.box 212 [.sl false (r.p.Fns.map Al),ri r.fn,.sl false (r.l.map Ai),.row 1 0 16 0 r.in_.length,.row 2 0 1 0 r.is.length,ri r.at_,rb r.safe]),(1,.row 217 16 0 (r.in_.map Ag)),(2,.row 4 1 0 (r.is.map Az))]:=by
 unfold Dv at h;refine Ctr.ofW Bb func217 rfl call217 3 _ ntmps217 [] rfl rfl rfl (fun B=>?_);refine vs [0,3] fun _ k=>?_;push_cast;apply k;clear k;refine vs [0,3,7] fun _ k=>?_;push_cast;apply k;clear k;refine vc h (fun hb1 h=>?_) (fun hb1 h=>?_)
 ·obtain ⟨r2,hr2,h⟩:=Aa h;refine vlD [some 8,some 9,some 10,some 11,some 12,some 13,some 14,some 15] fun _ k=>?_;push_cast;refine chD (H:=[(0,.box 212 [.sl false (a0.p.Fns.map Al),ri a0.fn,.sl false (a0.l.map Ai),.row 1 0 16 0 a0.in_.length,.row 2 0 1 0 a0.is.length,ri a0.at_,rb a0.safe]),(1,.row 217 16 0 (a0.in_.map Ag)),(2,.row 4 1 0 (a0.is.map Az))]) (Ctr.loH (Ctr.ren Bij.id (Ps hr2) (by push_cast) (by push_cast))) (by push_cast) ?_;push_cast;refine ⟨rfl,k _ ?_⟩;clear k;replace h:=Option.some.inj h;subst h;exact eN (by push_cast [hb1])
 ·refine VC.skip ?_;replace h:=Option.some.inj h;subst h;exact eN (by push_cast [hb1])
noncomputable def Es (a0 : Ac) (a1 : Int) (a2 : C128) : Option (Ac):=
  po (Cu a0) fun r1=>
  pg (r1.2 = a0) <|
  po (Ip r1.1 a1 a2) fun r3=>
  po (Dv a0 r3) fun r4=>
  some r4
theorem Sj {a0 : Ac} {a1 : Int} {a2 : C128} {r : Ac} (h : Es a0 a1 a2 = some r) : Ctr prog 211 [.ref 0 0,ri a1,.raw (.complex .f64 a2.re a2.im)] [(0,.box 212 [.sl false (a0.p.Fns.map Al),ri a0.fn,.sl false (a0.l.map Ai),.row 1 0 16 0 a0.in_.length,.row 2 0 1 0 a0.is.length,ri a0.at_,rb a0.safe]),(1,.row 217 16 0 (a0.in_.map Ag)),(2,.row 4 1 0 (a0.is.map Az))] (.tup []) [(0,.box 212 [.sl false (r.p.Fns.map Al),ri r.fn,.sl false (r.l.map Ai),.row 1 0 16 0 r.in_.length,.row 2 0 1 0 r.is.length,ri r.at_,rb r.safe]),(1,.row 217 16 0 (r.in_.map Ag)),(2,.row 4 1 0 (r.is.map Az))]:=by
 unfold Es at h;refine Ctr.ofW Bb func211 rfl call211 3 _ ntmps211 [] rfl rfl rfl (fun B=>?_);obtain ⟨r1,hr1,h⟩:=Aa h;obtain ⟨hg2,h⟩:=Bs h;have qr1:=Fb hr1;rw [hg2] at qr1;obtain ⟨r3,hr3,h⟩:=Aa h;obtain ⟨r4,hr4,h⟩:=Aa h;refine vl fun _ k=>?_;push_cast;refine chR (H:=[(0,.box 212 [.sl false (a0.p.Fns.map Al),ri a0.fn,.sl false (a0.l.map Ai),.row 1 0 16 0 a0.in_.length,.row 2 0 1 0 a0.is.length,ri a0.at_,rb a0.safe]),(1,.row 217 16 0 (a0.in_.map Ag)),(2,.row 4 1 0 (a0.is.map Az))]) (Ctr.loH (Ctr.ren Bij.id (qr1) (by push_cast) (by push_cast))) (by push_cast) (by push_cast) ?_;push_cast;refine cp (Wd hr3) ?_;push_cast;refine ch (H:=[(0,.box 212 [.sl false (a0.p.Fns.map Al),ri a0.fn,.sl false (a0.l.map Ai),.row 1 0 16 0 a0.in_.length,.row 2 0 1 0 a0.is.length,ri a0.at_,rb a0.safe]),(1,.row 217 16 0 (a0.in_.map Ag)),(2,.row 4 1 0 (a0.is.map Az))]) (Ctr.loH (Ctr.ren Bij.id (Nt hr4) (by push_cast) (by push_cast))) (by push_cast) ?_;push_cast;apply k;clear k;replace h:=Option.some.inj h;subst h;exact eN (by push_cast)
noncomputable def Kw (r3 : C128 × Bool) (s_1 : Ac) : Option (C128 × Ac):=
  some (r3.1,s_1)
noncomputable def Dl (a0 : Ac) (a1 : Ap) : Option (C128 × Ac):=
  po (Cu a0) fun r1=>
  pg (r1.2 = a0) <|
  po (Mu r1.1 a1) fun r3=>
  po (
  cond a0.safe (
  some (Ac.mk a0.p a0.fn a0.l a0.in_ a0.is a0.at_ r3.2)) (
  some (Ac.mk a0.p a0.fn a0.l a0.in_ a0.is a0.at_ false))) (fun x=>Kw r3 x)
theorem Kk {a0 : Ac} {a1 : Ap} {r : C128 × Ac} (h : Dl a0 a1 = some r) : Ctr prog 209 [.ref 0 0,.agg (Aw a1)] [(0,.box 212 [.sl false (a0.p.Fns.map Al),ri a0.fn,.sl false (a0.l.map Ai),.row 1 0 16 0 a0.in_.length,.row 2 0 1 0 a0.is.length,ri a0.at_,rb a0.safe]),(1,.row 217 16 0 (a0.in_.map Ag)),(2,.row 4 1 0 (a0.is.map Az))] (.raw (.complex .f64 r.1.re r.1.im)) [(0,.box 212 [.sl false (r.2.p.Fns.map Al),ri r.2.fn,.sl false (r.2.l.map Ai),.row 1 0 16 0 r.2.in_.length,.row 2 0 1 0 r.2.is.length,ri r.2.at_,rb r.2.safe]),(1,.row 217 16 0 (r.2.in_.map Ag)),(2,.row 4 1 0 (r.2.is.map Az))]:=by
 unfold Dl at h;refine Ctr.ofW Bb func209 rfl call209 3 _ ntmps209 [.tmp 4] rfl rfl rfl (fun B=>?_);refine vs [0,3] fun _ k=>?_;push_cast;apply k;clear k;obtain ⟨r1,hr1,h⟩:=Aa h;obtain ⟨hg2,h⟩:=Bs h;have qr1:=Fb hr1;rw [hg2] at qr1;obtain ⟨r3,hr3,h⟩:=Aa h;refine vsD [some 8,some 9,some 10,some 11,some 7,some 12,some 13,some 5,some 6] [0,5,6] fun _ k=>?_;push_cast;refine chRD (H:=[(0,.box 212 [.sl false (a0.p.Fns.map Al),ri a0.fn,.sl false (a0.l.map Ai),.row 1 0 16 0 a0.in_.length,.row 2 0 1 0 a0.is.length,ri a0.at_,rb a0.safe]),(1,.row 217 16 0 (a0.in_.map Ag)),(2,.row 4 1 0 (a0.is.map Az))]) (Ctr.loH (Ctr.ren Bij.id (qr1) (by push_cast) (by push_cast))) (by push_cast) (by push_cast) ?_;push_cast;refine cpD (Gm0 hr3) ?_;push_cast;refine ⟨rfl,k _ ?_⟩;clear k;refine VC.sub (s':=⟨[(0,.ref 0 0),(5,.raw (.complex .f64 r3.1.re r3.1.im)),(6,rb r3.2)],[(0,.box 212 [.sl false (a0.p.Fns.map Al),ri a0.fn,.sl false (a0.l.map Ai),.row 1 0 16 0 a0.in_.length,.row 2 0 1 0 a0.is.length,ri a0.at_,rb a0.safe]),(1,.row 217 16 0 (a0.in_.map Ag)),(2,.row 4 1 0 (a0.is.map Az))],14,25,3⟩) (so (by push_cast)) ?_;refine vj h (fun x=>⟨[(5,.raw (.complex .f64 r3.1.re r3.1.im))],[(0,.box 212 [.sl false (x.p.Fns.map Al),ri x.fn,.sl false (x.l.map Ai),.row 1 0 16 0 x.in_.length,.row 2 0 1 0 x.is.length,ri x.at_,rb x.safe]),(1,.row 217 16 0 (x.in_.map Ag)),(2,.row 4 1 0 (x.is.map Az))],25,25,3⟩) (fun v4 h hk4=>?_) ?_
 ·rcases bt a0.safe with hb5 | hb5
  ·replace h:=Ao hb5 h;refine vlG [some 14,some 15,some 16,some 17,some 18,some 19,some 20,some 21,some 22,some 23,none] fun _ k=>?_;refine Af 8 fun _ l=>?_;push_cast [hb5];(repeat refine ao ?_);apply l;clear l;simp only [List.drop_succ_cons,List.drop_zero];push_cast [hb5];(repeat refine ao ?_);apply k;clear k;refine ar h hk4 ?_;exact sl (by push_cast [hb5])
  ·replace h:=Av hb5 h;refine vlG [some 14,some 15,some 16,some 17,some 18,some 19,some 20,some 21,some 22,some 23,none] fun _ k=>?_;refine Af 8 fun _ l=>?_;push_cast [hb5];(repeat refine ao ?_);apply l;clear l;simp only [List.drop_succ_cons,List.drop_zero];push_cast [hb5];(repeat refine ao ?_);apply k;clear k;refine ar h hk4 ?_;exact sl (by push_cast [hb5])
 ·rintro s_1 (h : Kw r3 s_1 = some r);(try push_cast);unfold Kw at h;refine vs [4] fun _ k=>?_;push_cast;apply k;clear k;refine VC.ret ?_;replace h:=Option.some.inj h;subst h;exact en (by push_cast)
end Go.Proofs.YtcffmheeofjifaaGreat
