/- Packed texts: QhelperArgs, QhelperDraw, Qschemain, QschemaMay, QhelperFits, QslicesCloneapiEntryapiEntry, QslicesCloneapiTableapiTable, QslicesCloneuint32uint32, Qhelperown, QhelperCall, Qdrydockref05Few, Sk0, Ge, Qinstin, Qinstrules, QinstMay, Qprogfine1, QslicesIndexFuncapiInstapiInstprogfine1, QslicesContainsFuncapiInstapiInstprogfine1, Qprogfine, QprogMay1, QslicesIndexFuncapiFnapiFnprogMay1, QslicesContainsFuncapiFnapiFnprogMay1, QprogMay, Sk1, Qinterprunfail, Qinterpframeget, Qinterpframeput, Qinterpframeword, Qaludeeds1, Qaludeeds10, Qaludeeds11, Qaludeeds2, Qaludeeds3, Qaludeeds4, Qaludeeds5, Qaludeeds6, Qaludeeds7, Qaludeeds8, Qaludeeds9, Qaludeeds, QaluDo, Qinterpframealu, QaluHolds, Qinterpframejump, Qinterpframewords, Qinterpframeback, Qinterpframehanded, Qinterpframehelp, Qinterpframecall, Qinterpframeexit, Sk2, Qinterprunframe, Sk3. -/
import Derived.Test.YtcffmheeofjifaaGreatSg3
set_option linter.unusedVariables false
set_option linter.unusedSimpArgs false
set_option maxHeartbeats 4000000
set_option maxRecDepth 100000
namespace Go.Proofs.YtcffmheeofjifaaGreat
open Go Go.RowKit Go.Proofs.Tryz
noncomputable def Px (i_1 : Int) (i_2 : Bool) : Option (Int):=
  cond i_2 (
  some i_1) (
  some (-1))
noncomputable def Lg (a0 : Int) : Option (Int):=
  po (
  cond (a0 == 0) (
  some (3,true)) (
  cond (a0 == 1) (
  some (4,true)) (
  cond (a0 == 2) (
  some (2,true)) (
  cond (a0 == 3) (
  some (2,true)) (
  cond (a0 == 4) (
  some (0,true)) (
  cond (a0 == 5) (
  some (2,true)) (
  some (0,false)))))))) (fun x=>Px x.1 x.2)
theorem Wj {a0 : Int} {r : Int} (h : Lg a0 = some r) : Ctr prog 85 [ri a0] [] (ri r) []:=by
 unfold Lg at h;refine Ctr.ofW Ba func85 rfl call85 0 _ ntmps85 [.tmp 2] rfl rfl rfl (fun B=>?_);refine vs [0] fun _ k=>?_;push_cast;apply k;clear k;refine VC.seq ?_;refine vj h (fun x=>⟨[(3,ri x.1),(4,rb x.2)],[],16,14,0⟩) (fun v1 h hk1=>?_) ?_
 ·rcases bt (a0 == 0) with hb2 | hb2
  ·replace h:=Ao hb2 h;refine vlG [some 6,none,none,none,none,none,none,some 7,some 8,some 9,some 5,some 10,some 11,some 3,some 4] fun _ k=>?_;refine Ag 8 fun _ l=>?_;push_cast [hb2];(repeat refine ao ?_);apply l;clear l;simp only [List.drop_succ_cons,List.drop_zero];push_cast [hb2];(repeat refine ao ?_);apply k;clear k;refine ar h hk1 ?_;exact sl (by push_cast [hb2])
  ·replace h:=Au hb2 h;rcases bt (a0 == 1) with hb3 | hb3
   ·replace h:=Ao hb3 h;refine vlG [some 6,none,none,none,none,none,none,some 7,some 8,some 9,some 5,some 10,some 11,some 3,some 4] fun _ k=>?_;refine Ag 8 fun _ l=>?_;push_cast [hb2,hb3];(repeat refine ao ?_);apply l;clear l;simp only [List.drop_succ_cons,List.drop_zero];push_cast [hb2,hb3];(repeat refine ao ?_);apply k;clear k;refine ar h hk1 ?_;exact sl (by push_cast [hb2,hb3])
   ·replace h:=Au hb3 h;rcases bt (a0 == 2) with hb4 | hb4
    ·replace h:=Ao hb4 h;refine vlG [some 6,none,none,none,none,none,none,some 7,some 8,some 9,some 5,some 10,some 11,some 3,some 4] fun _ k=>?_;refine Ag 8 fun _ l=>?_;push_cast [hb2,hb3,hb4];(repeat refine ao ?_);apply l;clear l;simp only [List.drop_succ_cons,List.drop_zero];push_cast [hb2,hb3,hb4];(repeat refine ao ?_);apply k;clear k;refine ar h hk1 ?_;exact sl (by push_cast [hb2,hb3,hb4])
    ·replace h:=Au hb4 h;rcases bt (a0 == 3) with hb5 | hb5
     ·replace h:=Ao hb5 h;refine vlG [some 6,none,none,none,none,none,none,some 7,some 8,some 9,some 5,some 10,some 11,some 3,some 4] fun _ k=>?_;refine Ag 8 fun _ l=>?_;push_cast [hb2,hb3,hb4,hb5];(repeat refine ao ?_);apply l;clear l;simp only [List.drop_succ_cons,List.drop_zero];push_cast [hb2,hb3,hb4,hb5];(repeat refine ao ?_);apply k;clear k;refine ar h hk1 ?_;exact sl (by push_cast [hb2,hb3,hb4,hb5])
     ·replace h:=Au hb5 h;rcases bt (a0 == 4) with hb6 | hb6
      ·replace h:=Ao hb6 h;refine vlG [some 6,none,none,none,none,none,none,some 7,some 8,some 9,some 5,some 10,some 11,some 3,some 4] fun _ k=>?_;refine Ag 8 fun _ l=>?_;push_cast [hb2,hb3,hb4,hb5,hb6];(repeat refine ao ?_);apply l;clear l;simp only [List.drop_succ_cons,List.drop_zero];push_cast [hb2,hb3,hb4,hb5,hb6];(repeat refine ao ?_);apply k;clear k;refine ar h hk1 ?_;exact sl (by push_cast [hb2,hb3,hb4,hb5,hb6])
      ·replace h:=Au hb6 h;rcases bt (a0 == 5) with hb7 | hb7
       ·replace h:=Ao hb7 h;refine vlG [some 6,none,none,none,none,none,none,some 7,some 8,some 9,some 5,some 10,some 11,some 3,some 4] fun _ k=>?_;refine Ag 8 fun _ l=>?_;push_cast [hb2,hb3,hb4,hb5,hb6,hb7];(repeat refine ao ?_);apply l;clear l;simp only [List.drop_succ_cons,List.drop_zero];push_cast [hb2,hb3,hb4,hb5,hb6,hb7];(repeat refine ao ?_);apply k;clear k;refine ar h hk1 ?_;exact sl (by push_cast [hb2,hb3,hb4,hb5,hb6,hb7])
       ·replace h:=Au hb7 h;refine vlG [some 6,none,none,none,none,none,none,some 7,some 8,some 9,some 5,some 10,some 11,some 3,some 4] fun _ k=>?_;refine Ag 8 fun _ l=>?_;push_cast [hb2,hb3,hb4,hb5,hb6,hb7];(repeat refine ao ?_);apply l;clear l;simp only [List.drop_succ_cons,List.drop_zero];push_cast [hb2,hb3,hb4,hb5,hb6,hb7];(repeat refine ao ?_);apply k;clear k;refine ar h hk1 ?_;exact sl (by push_cast [hb2,hb3,hb4,hb5,hb6,hb7])
 ·rintro ⟨i_1,i_2⟩ (h : Px i_1 i_2 = some r);(try push_cast);unfold Px at h;refine vs [3,12] fun _ k=>?_;push_cast;apply k;clear k;refine vc h (fun hb8 h=>?_) (fun hb8 h=>?_)
  ·refine vs [2] fun _ k=>?_;push_cast;apply k;clear k;refine VC.ret ?_;replace h:=Option.some.inj h;subst h;exact en (by push_cast [hb8])
  ·refine VC.skip ?_;refine vs [2] fun _ k=>?_;push_cast;apply k;clear k;refine VC.ret ?_;replace h:=Option.some.inj h;subst h;exact en (by push_cast [hb8])
noncomputable def Wm (a0 : UInt32) : Option (UInt32):=
  pl ((1664525 : UInt32)) fun c1=>
  pl ((1013904223 : UInt32)) fun c2=>
  some ((c1 * a0) + c2)
theorem Ft0 {a0 : UInt32} {r : UInt32} (h : Wm a0 = some r) : Ctr prog 118 [ru a0] [] (ru r) []:=by
 unfold Wm at h;refine Ctr.ofW Ba func118 rfl call118 0 _ ntmps118 [.tmp 2] rfl rfl rfl (fun B=>?_);refine vs [0] fun _ k=>?_;push_cast;apply k;clear k;obtain ⟨c1,hc1,h⟩:=Bo h;have hc1i : (c1.toNat : Int) = 1664525:=by rw [hc1];rfl
 obtain ⟨c2,hc2,h⟩:=Bo h;have hc2i : (c2.toNat : Int) = 1013904223:=by rw [hc2];rfl
 refine vs [2] fun _ k=>?_;push_cast [hc1i,hc2i];(repeat refine ao ?_);apply k;clear k;refine VC.ret ?_;replace h:=Option.some.inj h;subst h;exact en (by push_cast [hc1i,hc2i])
noncomputable def Lx (i_1 : Bool) : Option (Bool):=
  some i_1
noncomputable def Gk (a0 : Int) (a1 : Int) (a2 : Int) : Option (Bool):=
  po (
  cond (decide (a0 ≥ a1)) (
  some (decide (a0 ≤ a2))) (
  some false)) (fun x=>Lx x)
theorem Im {a0 : Int} {a1 : Int} {a2 : Int} {r : Bool} (h : Gk a0 a1 a2 = some r) : Ctr prog 89 [ri a0,ri a1,ri a2] [] (rb r) []:=by
 unfold Gk at h;refine Ctr.ofW Ba func89 rfl call89 0 _ ntmps89 [.tmp 6] rfl rfl rfl (fun B=>?_);refine vs [0,1,2] fun _ k=>?_;push_cast;apply k;clear k;refine vj h (fun x=>⟨[(6,rb x)],[],10,15,0⟩) (fun v1 h hk1=>?_) ?_
 ·rcases bt (decide (a0 ≥ a1)) with hb2 | hb2
  ·replace h:=Ao hb2 h;refine vlG [some 7,some 8,some 9,some 10,some 11,some 12,some 13,some 14,some 6] fun _ k=>?_;push_cast [hb2];(repeat refine ao ?_);apply k;clear k;refine ar h hk1 ?_;exact sl (by push_cast [hb2])
  ·replace h:=Au hb2 h;refine vlG [some 7,some 8,some 9,some 10,some 11,some 12,some 13,some 14,some 6] fun _ k=>?_;push_cast [hb2];(repeat refine ao ?_);apply k;clear k;refine ar h hk1 ?_;exact sl (by push_cast [hb2])
 ·rintro i_1 (h : Lx i_1 = some r);(try push_cast);unfold Lx at h;refine VC.ret ?_;replace h:=Option.some.inj h;subst h;exact en (by push_cast)
noncomputable def Kw (i_2 : Bool) : Option (Bool):=
  some i_2
noncomputable def Iz (a0 : Ar) (i_1 : Int) : Option (Bool):=
  po (
  po (Gk a0.Kind 0 3) fun r4=>
  cond r4 (
  po (Gk a0.Cap 1 16) fun r6=>
  cond r6 (
  po (Gk a0.Words 1 i_1) fun r8=>
  cond r8 (
  po (Gk a0.Ver 0 1000) fun r10=>
  some r10) (
  some false)) (
  some false)) (
  some false)) (fun x=>Kw x)
noncomputable def Ee (a0 : Ar) : Option (Bool):=
  po (
  cond (a0.Kind == 3) (
  some 1) (
  some 4)) (fun x=>Iz a0 x)
theorem Iu {a0 : Ar} {r : Bool} (h : Ee a0 = some r) : Ctr prog 56 [.agg (Ai a0)] [] (rb r) []:=by
 unfold Ee at h;refine Ctr.ofW Ba func56 rfl call56 0 _ ntmps56 [.tmp 2] rfl rfl rfl (fun B=>?_);refine vs [1] fun _ k=>?_;push_cast;apply k;clear k;refine vs [1,3] fun _ k=>?_;push_cast;apply k;clear k;refine vj h (fun x=>⟨[(1,.ref 0 0),(3,ri x)],[(0,.box 50 (Ai a0))],7,26,0⟩) (fun v1 h hk1=>?_) ?_
 ·refine vs [1,3,6] fun _ k=>?_;push_cast;apply k;clear k;refine vc h (fun hb2 h=>?_) (fun hb2 h=>?_)
  ·refine vl fun _ k=>?_;push_cast;apply k;clear k;refine ar h hk1 ?_;exact sl (by push_cast [hb2])
  ·refine VC.skip ?_;refine ar h hk1 ?_;exact sl (by push_cast [hb2])
 ·rintro i_1 (h : Iz a0 i_1 = some r);(try push_cast);unfold Iz at h;refine vj h (fun x=>⟨[(2,rb x)],[],27,26,0⟩) (fun v3 h hk3=>?_) ?_
  ·obtain ⟨r4,hr4,h⟩:=Aa h;rcases bt r4 with hb5 | hb5
   ·replace h:=Ao hb5 h;obtain ⟨r6,hr6,h⟩:=Aa h;rcases bt r6 with hb7 | hb7
    ·replace h:=Ao hb7 h;obtain ⟨r8,hr8,h⟩:=Aa h;rcases bt r8 with hb9 | hb9
     ·replace h:=Ao hb9 h;obtain ⟨r10,hr10,h⟩:=Aa h;refine vlG [some 7,some 8,some 9,some 10,some 11,some 12,some 13,some 14,some 15,some 16,some 17,some 18,some 19,some 20,some 21,some 22,some 23,some 24,some 25,some 2] fun _ k=>?_;refine Ag 8 fun _ l=>?_;push_cast [hb5,hb7,hb9];(repeat refine ao ?_);refine cp (Im hr4) ?_;push_cast [hb5,hb7,hb9];(repeat refine ao ?_);refine cp (Im hr6) ?_;push_cast [hb5,hb7,hb9];(repeat refine ao ?_);apply l;clear l;simp only [List.drop_succ_cons,List.drop_zero];refine Ag 8 fun _ l=>?_;push_cast [hb5,hb7,hb9];(repeat refine ao ?_);refine cp (Im hr8) ?_;push_cast [hb5,hb7,hb9];(repeat refine ao ?_);apply l;clear l;simp only [List.drop_succ_cons,List.drop_zero];push_cast [hb5,hb7,hb9];(repeat refine ao ?_);refine cp (Im hr10) ?_;push_cast [hb5,hb7,hb9];(repeat refine ao ?_);apply k;clear k;refine ar h hk3 ?_;exact sl (by push_cast [hb5,hb7,hb9])
     ·replace h:=Au hb9 h;refine vlG [some 7,some 8,some 9,some 10,some 11,some 12,some 13,some 14,some 15,some 16,some 17,some 18,some 19,some 20,some 21,some 22,some 23,some 24,some 25,some 2] fun _ k=>?_;refine Ag 8 fun _ l=>?_;push_cast [hb5,hb7,hb9];(repeat refine ao ?_);refine cp (Im hr4) ?_;push_cast [hb5,hb7,hb9];(repeat refine ao ?_);refine cp (Im hr6) ?_;push_cast [hb5,hb7,hb9];(repeat refine ao ?_);apply l;clear l;simp only [List.drop_succ_cons,List.drop_zero];refine Ag 8 fun _ l=>?_;push_cast [hb5,hb7,hb9];(repeat refine ao ?_);refine cp (Im hr8) ?_;push_cast [hb5,hb7,hb9];(repeat refine ao ?_);apply l;clear l;simp only [List.drop_succ_cons,List.drop_zero];push_cast [hb5,hb7,hb9];(repeat refine ao ?_);apply k;clear k;refine ar h hk3 ?_;exact sl (by push_cast [hb5,hb7,hb9])
    ·replace h:=Au hb7 h;refine vlG [some 7,some 8,some 9,some 10,some 11,some 12,some 13,some 14,some 15,some 16,some 17,some 18,some 19,some 20,some 21,some 22,some 23,some 24,some 25,some 2] fun _ k=>?_;refine Ag 8 fun _ l=>?_;push_cast [hb5,hb7];(repeat refine ao ?_);refine cp (Im hr4) ?_;push_cast [hb5,hb7];(repeat refine ao ?_);refine cp (Im hr6) ?_;push_cast [hb5,hb7];(repeat refine ao ?_);apply l;clear l;simp only [List.drop_succ_cons,List.drop_zero];refine Ag 8 fun _ l=>?_;push_cast [hb5,hb7];(repeat refine ao ?_);apply l;clear l;simp only [List.drop_succ_cons,List.drop_zero];push_cast [hb5,hb7];(repeat refine ao ?_);apply k;clear k;refine ar h hk3 ?_;exact sl (by push_cast [hb5,hb7])
   ·replace h:=Au hb5 h;refine vlG [some 7,some 8,some 9,some 10,some 11,some 12,some 13,some 14,some 15,some 16,some 17,some 18,some 19,some 20,some 21,some 22,some 23,some 24,some 25,some 2] fun _ k=>?_;refine Ag 8 fun _ l=>?_;push_cast [hb5];(repeat refine ao ?_);refine cp (Im hr4) ?_;push_cast [hb5];(repeat refine ao ?_);apply l;clear l;simp only [List.drop_succ_cons,List.drop_zero];refine Ag 8 fun _ l=>?_;push_cast [hb5];(repeat refine ao ?_);apply l;clear l;simp only [List.drop_succ_cons,List.drop_zero];push_cast [hb5];(repeat refine ao ?_);apply k;clear k;refine ar h hk3 ?_;exact sl (by push_cast [hb5])
  ·rintro i_2 (h : Kw i_2 = some r);(try push_cast);unfold Kw at h;refine VC.ret ?_;replace h:=Option.some.inj h;subst h;exact en (by push_cast)
noncomputable def Uf (i_1 : Bool) : Option (Bool):=
  some i_1
noncomputable def Sf (i_3 : Bool) : Option (Bool):=
  some i_3
noncomputable def Ph (a1 : Ar) (i_2 : Bool) : Option (Bool):=
  cond i_2 (
  po (
  po (Ee a1) fun r11=>
  cond r11 (
  some (a1.Kind != 3)) (
  some false)) (fun x=>Sf x)) (
  some false)
noncomputable def Qi (a0 : Int) (a1 : Ar) : Option (Bool):=
  cond (a0 == 5) (
  po (
  po (Ee a1) fun r3=>
  cond r3 (
  some (a1.Kind == 3)) (
  some false)) (fun x=>Uf x)) (
  po (
  cond (a0 == 0) (
  some (a0 == 0)) (
  cond (a0 == 1) (
  some (a0 == 1)) (
  cond (a0 == 2) (
  some (a0 == 2)) (
  some (a0 == 3))))) (fun x=>Ph a1 x))
theorem Fm0 {a0 : Int} {a1 : Ar} {r : Bool} (h : Qi a0 a1 = some r) : Ctr prog 119 [ri a0,.agg (Ai a1)] [] (rb r) []:=by
 unfold Qi at h;refine Ctr.ofW Ba func119 rfl call119 0 _ ntmps119 [.tmp 4] rfl rfl rfl (fun B=>?_);refine vs [0,3] fun _ k=>?_;push_cast;apply k;clear k;refine VC.seq ?_;refine vs [3,5] fun _ k=>?_;push_cast;apply k;clear k;refine VC.block ?_;refine vs [3,5,6] fun _ k=>?_;push_cast;apply k;clear k;refine vc h (fun hb1 h=>?_) (fun hb1 h=>?_)
 ·refine vj h (fun x=>⟨[(4,rb x)],[],13,27,0⟩) (fun v2 h hk2=>?_) ?_
  ·obtain ⟨r3,hr3,h⟩:=Aa h;rcases bt r3 with hb4 | hb4
   ·replace h:=Ao hb4 h;refine vlG [some 8,some 9,some 10,some 11,some 12,some 13,some 14,some 4] fun _ k=>?_;push_cast [hb4];(repeat refine ao ?_);refine cp (Iu hr3) ?_;push_cast [hb4];(repeat refine ao ?_);apply k;clear k;refine ar h hk2 ?_;exact sl (by push_cast [hb1,hb4])
   ·replace h:=Au hb4 h;refine vlG [some 8,some 9,some 10,some 11,some 12,some 13,some 14,some 4] fun _ k=>?_;push_cast [hb4];(repeat refine ao ?_);refine cp (Iu hr3) ?_;push_cast [hb4];(repeat refine ao ?_);apply k;clear k;refine ar h hk2 ?_;exact sl (by push_cast [hb1,hb4])
  ·rintro i_1 (h : Uf i_1 = some r);(try push_cast);unfold Uf at h;refine VC.ret ?_;replace h:=Option.some.inj h;subst h;exact en (by push_cast [hb1])
 ·refine vj h (fun x=>⟨[(3,.ref 0 0),(15,rb x)],[(0,.box 50 (Ai a1))],13,27,0⟩) (fun v5 h hk5=>?_) ?_
  ·refine vs [3,5,15] fun _ k=>?_;push_cast;apply k;clear k;refine vc h (fun hb6 h=>?_) (fun hb6 h=>?_)
   ·refine VC.skip ?_;refine ar h hk5 ?_;exact sl (by push_cast [hb1,hb6])
   ·refine vs [3,5,15] fun _ k=>?_;push_cast;apply k;clear k;refine vc h (fun hb7 h=>?_) (fun hb7 h=>?_)
    ·refine VC.skip ?_;refine ar h hk5 ?_;exact sl (by push_cast [hb1,hb6,hb7])
    ·refine vs [3,5,15] fun _ k=>?_;push_cast;apply k;clear k;refine vc h (fun hb8 h=>?_) (fun hb8 h=>?_)
     ·refine VC.skip ?_;refine ar h hk5 ?_;exact sl (by push_cast [hb1,hb6,hb7,hb8])
     ·refine vl fun _ k=>?_;push_cast;apply k;clear k;refine ar h hk5 ?_;exact sl (by push_cast [hb1,hb6,hb7,hb8])
  ·rintro i_2 (h : Ph a1 i_2 = some r);(try push_cast);unfold Ph at h;refine vc h (fun hb9 h=>?_) (fun hb9 h=>?_)
   ·refine vj h (fun x=>⟨[(4,rb x)],[],21,27,0⟩) (fun v10 h hk10=>?_) ?_
    ·obtain ⟨r11,hr11,h⟩:=Aa h;rcases bt r11 with hb12 | hb12
     ·replace h:=Ao hb12 h;refine vlG [some 20,some 21,some 22,some 23,some 24,some 25,some 26,some 4] fun _ k=>?_;push_cast [hb12];(repeat refine ao ?_);refine cp (Iu hr11) ?_;push_cast [hb12];(repeat refine ao ?_);apply k;clear k;refine ar h hk10 ?_;exact sl (by push_cast [hb1,hb9,hb12])
     ·replace h:=Au hb12 h;refine vlG [some 20,some 21,some 22,some 23,some 24,some 25,some 26,some 4] fun _ k=>?_;push_cast [hb12];(repeat refine ao ?_);refine cp (Iu hr11) ?_;push_cast [hb12];(repeat refine ao ?_);apply k;clear k;refine ar h hk10 ?_;exact sl (by push_cast [hb1,hb9,hb12])
    ·rintro i_3 (h : Sf i_3 = some r);(try push_cast);unfold Sf at h;refine VC.ret ?_;replace h:=Option.some.inj h;subst h;exact en (by push_cast [hb1,hb9])
   ·refine VC.skip ?_;refine vs [4] fun _ k=>?_;push_cast;apply k;clear k;refine VC.ret ?_;replace h:=Option.some.inj h;subst h;exact en (by push_cast [hb1,hb9])
def Cn (a0 : List Bd) : Option (List Bd):=pg (a0.length * 32 ≤ 140737488355328) (some a0)
theorem Rd {a0 : List Bd} (h : a0.length * 32 ≤ 140737488355328) : Cn a0 = some a0:=Ep h
theorem Hc {a0 : List Bd} {r : List Bd} (h : Cn a0 = some r) : Ctr prog 78 [.sl false (a0.map Av)] [] (.row 0 0 2 0 r.length) [(0,.row 66 2 0 (r.map Av))]:=by
 unfold Cn at h;obtain ⟨hg,h⟩:=Bs h;have hr:=Option.some.inj h;subst hr;refine Ctr.ofW Ba func78 rfl call78 0 _ ntmps78 [.tmp 2] rfl rfl rfl (fun B=>?_);refine VC.seqF Fb [some 2] [0] rfl rfl fun _ k=>?_;push_cast;apply k;clear k;refine VC.seq ?_;refine VC.seqF Fb [some 3,some 4] [0,4] rfl rfl fun _ k=>?_;push_cast;intro bn hbn;apply k;clear k;refine VC.cond rfl rfl (fun hc=>?_) (fun hc=>?_)
 ·have hn : a0 = []:=by
   have:=hbn hc;cases a0 with
   | nil=>rfl
   | cons _ _=>simp at this
  subst hn;refine VC.seqF Fb [some 2] [2] rfl rfl fun _ k=>?_;push_cast;apply k;clear k;refine VC.ret ?_;refine Cg (Sub.adoptT (k:=2) (e:=66) (sz:=2) rfl) ?_;refine Cg (Sub.renT (k:=2) (i':=0) rfl rfl (Nat.le_of_ble_eq_true rfl) (Nat.le_of_ble_eq_true rfl) rfl) ?_;refine endP (Sub.lo _) (Post.ret ?_ ?_ ?_)
  ·push_cast
  ·push_cast
  ·rfl
 ·refine VC.skip ?_;refine VC.seqF Fb [some 5,some 6,some 7,some 2] [2] rfl rfl fun _ k=>?_;push_cast [hg];(repeat refine ao ?_);apply k;clear k;refine VC.ret ?_;refine Cg (Sub.renT (k:=2) (i':=0) rfl rfl (Nat.le_of_ble_eq_true rfl) (Nat.le_of_ble_eq_true rfl) rfl) ?_;refine endP (Sub.lo _) (Post.ret ?_ ?_ ?_)
  ·push_cast
  ·push_cast
  ·rfl
def Df (a0 : List Ap) : Option (List Ap):=pg (a0.length * 64 ≤ 140737488355328) (some a0)
theorem Lo {a0 : List Ap} {r : List Ap} (h : Df a0 = some r) : Ctr prog 77 [.sl false (a0.map Bb)] [] (.row 0 0 6 0 r.length) [(0,.row 53 6 0 (r.map Bb))]:=by
 unfold Df at h;obtain ⟨hg,h⟩:=Bs h;have hr:=Option.some.inj h;subst hr;refine Ctr.ofW Ba func77 rfl call77 0 _ ntmps77 [.tmp 2] rfl rfl rfl (fun B=>?_);refine VC.seqF Fb [some 2] [0] rfl rfl fun _ k=>?_;push_cast;apply k;clear k;refine VC.seq ?_;refine VC.seqF Fb [some 3,some 4] [0,4] rfl rfl fun _ k=>?_;push_cast;intro bn hbn;apply k;clear k;refine VC.cond rfl rfl (fun hc=>?_) (fun hc=>?_)
 ·have hn : a0 = []:=by
   have:=hbn hc;cases a0 with
   | nil=>rfl
   | cons _ _=>simp at this
  subst hn;refine VC.seqF Fb [some 2] [2] rfl rfl fun _ k=>?_;push_cast;apply k;clear k;refine VC.ret ?_;refine Cg (Sub.adoptT (k:=2) (e:=53) (sz:=6) rfl) ?_;refine Cg (Sub.renT (k:=2) (i':=0) rfl rfl (Nat.le_of_ble_eq_true rfl) (Nat.le_of_ble_eq_true rfl) rfl) ?_;refine endP (Sub.lo _) (Post.ret ?_ ?_ ?_)
  ·push_cast
  ·push_cast
  ·rfl
 ·refine VC.skip ?_;refine VC.seqF Fb [some 5,some 6,some 7,some 2] [2] rfl rfl fun _ k=>?_;push_cast [hg];(repeat refine ao ?_);apply k;clear k;refine VC.ret ?_;refine Cg (Sub.renT (k:=2) (i':=0) rfl rfl (Nat.le_of_ble_eq_true rfl) (Nat.le_of_ble_eq_true rfl) rfl) ?_;refine endP (Sub.lo _) (Post.ret ?_ ?_ ?_)
  ·push_cast
  ·push_cast
  ·rfl
def Cw (a0 : List UInt32) : Option (List UInt32):=pg (a0.length * 4 ≤ 140737488355328) (some a0)
theorem Na {a0 : List UInt32} (h : a0.length * 4 ≤ 140737488355328) : Cw a0 = some a0:=Ep h
theorem Gq {a0 : List UInt32} {r : List UInt32} (h : Cw a0 = some r) : Ctr prog 79 [.sl false (a0.map Ax)] [] (.row 0 0 1 0 r.length) [(0,.row 25 1 0 (r.map Ax))]:=by
 unfold Cw at h;obtain ⟨hg,h⟩:=Bs h;have hr:=Option.some.inj h;subst hr;refine Ctr.ofW Ba func79 rfl call79 0 _ ntmps79 [.tmp 2] rfl rfl rfl (fun B=>?_);refine VC.seqF Fb [some 2] [0] rfl rfl fun _ k=>?_;push_cast;apply k;clear k;refine VC.seq ?_;refine VC.seqF Fb [some 3,some 4] [0,4] rfl rfl fun _ k=>?_;push_cast;intro bn hbn;apply k;clear k;refine VC.cond rfl rfl (fun hc=>?_) (fun hc=>?_)
 ·have hn : a0 = []:=by
   have:=hbn hc;cases a0 with
   | nil=>rfl
   | cons _ _=>simp at this
  subst hn;refine VC.seqF Fb [some 2] [2] rfl rfl fun _ k=>?_;push_cast;apply k;clear k;refine VC.ret ?_;refine Cg (Sub.adoptT (k:=2) (e:=25) (sz:=1) rfl) ?_;refine Cg (Sub.renT (k:=2) (i':=0) rfl rfl (Nat.le_of_ble_eq_true rfl) (Nat.le_of_ble_eq_true rfl) rfl) ?_;refine endP (Sub.lo _) (Post.ret ?_ ?_ ?_)
  ·push_cast
  ·push_cast
  ·rfl
 ·refine VC.skip ?_;refine VC.seqF Fb [some 5,some 6,some 7,some 2] [2] rfl rfl fun _ k=>?_;push_cast [hg];(repeat refine ao ?_);apply k;clear k;refine VC.ret ?_;refine Cg (Sub.renT (k:=2) (i':=0) rfl rfl (Nat.le_of_ble_eq_true rfl) (Nat.le_of_ble_eq_true rfl) rfl) ?_;refine endP (Sub.lo _) (Post.ret ?_ ?_ ?_)
  ·push_cast
  ·push_cast
  ·rfl
noncomputable def Qt (r7 : (List Bd)) (s_48 : Bf) (s_49 : Ap) (i_50 : Int) : Option ((Bf × Ap × Int) ⊕ (Bf × Ap)):=
  cond (decide (i_50 < (r7.length : Int))) (
  po (idx s_49.E i_50) fun x11=>
  po (Cw x11.V) fun r12=>
  pl (s_49.E.set i_50.toNat (Bd.mk x11.Key r12)) fun y13=>
  some (Sum.inl (s_48,(Ap.mk s_49.S y13 s_49.Next),(IntKind.i64.wrap (i_50 + 1))))) (
  some (Sum.inr (s_48,s_49)))
noncomputable def Uy (i_19 : Int) (s_54 : Bf) (s_55 : Ap) : Option (Bf):=
  po (idx s_54.T i_19) fun x14=>
  pl (s_54.T.set i_19.toNat s_55) fun y15=>
  some (Bf.mk s_54.Ctx y15 s_54.Seed)
noncomputable def Ut (i_19 : Int) (s_28 : Bf) : Option ((Bf × Int) ⊕ (Bf)):=
  some (Sum.inl (s_28,(IntKind.i64.wrap (i_19 + 1))))
noncomputable def Rb (r1 : (List Ap)) (s_18 : Bf) (i_19 : Int) : Option ((Bf × Int) ⊕ (Bf)):=
  cond (decide (i_19 < (r1.length : Int))) (
  po (
  po (idx s_18.T i_19) fun x6=>
  po (Cn x6.E) fun r7=>
  po (
  lpU (fun x=>Qt r7 x.1 x.2.1 x.2.2) (s_18,(Ap.mk x6.S r7 x6.Next),0)) (fun x=>Uy i_19 x.1 x.2)) (fun x=>Ut i_19 x)) (
  some (Sum.inr s_18))
noncomputable def Vb (s_47 : Bf) : Option (Bf):=
  some s_47
noncomputable def Pb (a0 : Bf) : Option (Bf):=
  po (Df a0.T) fun r1=>
  po (
  lpU (fun x=>Rb r1 x.1 x.2) ((Bf.mk a0.Ctx r1 a0.Seed),0)) (fun x=>Vb x)
theorem Gl0 {a0 : Bf} {r : Bf} (h : Pb a0 = some r) : Ctr prog 117 [.agg (Uh a0)] [] (.agg [ru r.Ctx.a0,ru r.Ctx.a1,ru r.Ctx.a2,ru r.Ctx.a3,.row 0 0 6 0 r.T.length,ru r.Seed]) [(0,.row 53 6 0 (r.T.map Bb))]:=by
 unfold Pb at h;refine Ctr.ofW Ba func117 rfl call117 0 _ ntmps117 [.cell 2 29] rfl rfl rfl (fun B=>?_);refine vs [1,2] fun _ k=>?_;push_cast;apply k;clear k;obtain ⟨r1,hr1,h⟩:=Aa h;refine vs [1,2] fun _ k=>?_;push_cast;refine ch (H:=[]) (Ctr.loH (Ctr.ren (Bij.swp 0 4 Bij.id) (Lo hr1) (by push_cast) (by push_cast))) (by push_cast) ?_;push_cast;apply k;clear k;refine VC.sub (s':=⟨[(1,.ref 0 0),(2,.ref 1 0)],[(0,.box 29 [ru a0.Ctx.a0,ru a0.Ctx.a1,ru a0.Ctx.a2,ru a0.Ctx.a3,.row 4 0 6 0 r1.length,ru a0.Seed]),(1,.box 29 [.raw (.int .u32 0),.raw (.int .u32 0),.raw (.int .u32 0),.raw (.int .u32 0),.sl true [],.raw (.int .u32 0)]),(4,.row 53 6 0 (r1.map Bb))],7,48,0⟩) (so (by push_cast)) ?_;refine vj h (fun x=>⟨[(1,.ref 0 0),(2,.ref 1 0)],[(0,.box 29 [ru x.Ctx.a0,ru x.Ctx.a1,ru x.Ctx.a2,ru x.Ctx.a3,.row 4 0 6 0 x.T.length,ru x.Seed]),(1,.box 29 [.raw (.int .u32 0),.raw (.int .u32 0),.raw (.int .u32 0),.raw (.int .u32 0),.sl true [],.raw (.int .u32 0)]),(4,.row 53 6 0 (x.T.map Bb))],55,48,0⟩) (fun v2 h hk2=>?_) ?_
 ·refine vs [1,2,11,12,13] fun _ k=>?_;push_cast;apply k;clear k;refine VC.block ?_;refine VC.loopP h (fun x=>⟨[(1,.ref 0 0),(2,.ref 1 0),(11,.row 4 0 6 0 x.1.T.length),(12,ri (r1.length : Int)),(13,ri x.2)],[(0,.box 29 [ru x.1.Ctx.a0,ru x.1.Ctx.a1,ru x.1.Ctx.a2,ru x.1.Ctx.a3,.row 4 0 6 0 x.1.T.length,ru x.1.Seed]),(1,.box 29 [.raw (.int .u32 0),.raw (.int .u32 0),.raw (.int .u32 0),.raw (.int .u32 0),.sl true [],.raw (.int .u32 0)]),(4,.row 53 6 0 (x.1.T.map Bb))],54,48,0⟩) ?_ ?_
  ·exact so (by push_cast)
  rintro ⟨s_18,i_19⟩ b3 (h : Rb r1 s_18 i_19 = some b3) hf3;(try push_cast);unfold Rb at h;refine vs [1,2,11,12,13,14] fun _ k=>?_;push_cast;apply k;clear k;refine VC.seq ?_;refine vc h (fun hb4 h=>?_) (fun hb4 h=>?_)
  ·refine VC.skip ?_;refine vj h (fun x=>⟨[(1,.ref 0 0),(2,.ref 1 0),(11,.row 4 0 6 0 x.T.length),(12,ri (r1.length : Int)),(13,ri i_19)],[(0,.box 29 [ru x.Ctx.a0,ru x.Ctx.a1,ru x.Ctx.a2,ru x.Ctx.a3,.row 4 0 6 0 x.T.length,ru x.Seed]),(1,.box 29 [.raw (.int .u32 0),.raw (.int .u32 0),.raw (.int .u32 0),.raw (.int .u32 0),.sl true [],.raw (.int .u32 0)]),(4,.row 53 6 0 (x.T.map Bb))],95,48,0⟩) (fun v5 h hk5=>?_) ?_
   ·refine VC.block ?_;obtain ⟨x6,hx6,h⟩:=Aa h;replace hx6:=Bh hx6;refine vs [1,2,3,4,11,12,13] fun _ k=>?_;push_cast [hx6];(repeat refine ao ?_);apply k;clear k;obtain ⟨r7,hr7,h⟩:=Aa h;refine vs [1,2,3,4,11,12,13] fun _ k=>?_;push_cast;refine ch (H:=[]) (Ctr.loH (Ctr.ren (Bij.swp 0 63 Bij.id) (Hc hr7) (by push_cast) (by push_cast))) (by push_cast) ?_;push_cast;apply k;clear k;refine VC.sub (s':=⟨[(1,.ref 0 0),(2,.ref 1 0),(3,ri i_19),(4,.ref 58 0),(11,.row 4 0 6 0 s_18.T.length),(12,ri (r1.length : Int)),(13,ri i_19)],[(0,.box 29 [ru s_18.Ctx.a0,ru s_18.Ctx.a1,ru s_18.Ctx.a2,ru s_18.Ctx.a3,.row 4 0 6 0 s_18.T.length,ru s_18.Seed]),(1,.box 29 [.raw (.int .u32 0),.raw (.int .u32 0),.raw (.int .u32 0),.raw (.int .u32 0),.sl true [],.raw (.int .u32 0)]),(4,.row 53 6 0 (s_18.T.map Bb)),(58,.box 53 [ri x6.S.Kind,ri x6.S.Cap,ri x6.S.Words,ri x6.S.Ver,.row 63 0 2 0 r7.length,ru x6.Next]),(63,.row 66 2 0 (r7.map Av))],66,48,0⟩) (so (by push_cast [hb4])) ?_;refine vj h (fun x=>⟨[(1,.ref 0 0),(2,.ref 1 0),(3,ri i_19),(4,.ref 58 0),(11,.row 4 0 6 0 x.1.T.length),(12,ri (r1.length : Int)),(13,ri i_19)],[(0,.box 29 [ru x.1.Ctx.a0,ru x.1.Ctx.a1,ru x.1.Ctx.a2,ru x.1.Ctx.a3,.row 4 0 6 0 x.1.T.length,ru x.1.Seed]),(1,.box 29 [.raw (.int .u32 0),.raw (.int .u32 0),.raw (.int .u32 0),.raw (.int .u32 0),.sl true [],.raw (.int .u32 0)]),(4,.row 53 6 0 (x.1.T.map Bb)),(58,.box 53 [ri x.2.S.Kind,ri x.2.S.Cap,ri x.2.S.Words,ri x.2.S.Ver,.row 63 0 2 0 x.2.E.length,ru x.2.Next]),(63,.row 66 2 0 (x.2.E.map Av))],89,48,0⟩) (fun v8 h hk8=>?_) ?_
    ·refine vs [1,2,3,4,11,12,13,24,25] fun _ k=>?_;push_cast;apply k;clear k;refine VC.block ?_;refine VC.loopP h (fun x=>⟨[(1,.ref 0 0),(2,.ref 1 0),(3,ri i_19),(4,.ref 58 0),(11,.row 4 0 6 0 x.1.T.length),(12,ri (r1.length : Int)),(13,ri i_19),(24,ri (r7.length : Int)),(25,ri x.2.2)],[(0,.box 29 [ru x.1.Ctx.a0,ru x.1.Ctx.a1,ru x.1.Ctx.a2,ru x.1.Ctx.a3,.row 4 0 6 0 x.1.T.length,ru x.1.Seed]),(1,.box 29 [.raw (.int .u32 0),.raw (.int .u32 0),.raw (.int .u32 0),.raw (.int .u32 0),.sl true [],.raw (.int .u32 0)]),(4,.row 53 6 0 (x.1.T.map Bb)),(58,.box 53 [ri x.2.1.S.Kind,ri x.2.1.S.Cap,ri x.2.1.S.Words,ri x.2.1.S.Ver,.row 63 0 2 0 x.2.1.E.length,ru x.2.1.Next]),(63,.row 66 2 0 (x.2.1.E.map Av))],88,48,0⟩) ?_ ?_
     ·exact so (by push_cast [hb4])
     rintro ⟨s_48,s_49,i_50⟩ b9 (h : Qt r7 s_48 s_49 i_50 = some b9) hf9;(try push_cast);unfold Qt at h;refine vs [1,2,3,4,11,12,13,24,25,26] fun _ k=>?_;push_cast;apply k;clear k;refine VC.seq ?_;refine vc h (fun hb10 h=>?_) (fun hb10 h=>?_)
     ·refine VC.skip ?_;refine VC.seq ?_;refine VC.block ?_;refine vs [1,2,3,4,5,11,12,13,24,25] fun _ k=>?_;push_cast;apply k;clear k;obtain ⟨x11,hx11,h⟩:=Aa h;replace hx11:=Bh hx11;obtain ⟨r12,hr12,h⟩:=Aa h;obtain ⟨y13,hy13,h⟩:=Bo h;have hy13l : y13.length = s_49.E.length:=by rw [hy13,List.length_set]
      refine vlD [some 28,some 29,some 30,some 31,some 32,some 33,some 34,some 35,some 36,some 37,some 38,some 39,none] fun _ k=>?_;refine Ch 8 fun _ l=>?_;push_cast [hx11];(repeat refine ao ?_);apply l;clear l;simp only [List.drop_succ_cons,List.drop_zero];push_cast [hx11];(repeat refine ao ?_);refine chD (H:=[]) (Ctr.loH (Ctr.ren (Bij.swp 0 100 Bij.id) (Gq hr12) (by push_cast [hx11]) (by push_cast [hx11]))) (by push_cast [hx11]) ?_;push_cast [hx11];(repeat refine ao ?_);refine ⟨rfl,k _ ?_⟩;clear k;refine vl fun _ k=>?_;push_cast;apply k;clear k;refine bk h ?_;exact so (by push_cast [hb4,hb10,hy13,hy13l])
     ·refine VC.exit ?_;replace h:=ol h hf9;refine ar h hk8 ?_;exact so (by push_cast [hb4,hb10])
    ·rintro ⟨s_54,s_55⟩ (h : Uy i_19 s_54 s_55 = some v5);(try push_cast);unfold Uy at h;obtain ⟨x14,hx14,h⟩:=Aa h;replace hx14:=Bh hx14;obtain ⟨y15,hy15,h⟩:=Bo h;have hy15l : y15.length = s_54.T.length:=by rw [hy15,List.length_set]
     refine vl fun _ k=>?_;push_cast [hx14];(repeat refine ao ?_);apply k;clear k;refine ar h hk5 ?_;exact so (by push_cast [hb4,hy15,hy15l])
   ·rintro s_28 (h : Ut i_19 s_28 = some b3);(try push_cast);unfold Ut at h;refine vl fun _ k=>?_;push_cast;apply k;clear k;refine bk h ?_;exact so (by push_cast [hb4])
  ·refine VC.exit ?_;replace h:=ol h hf3;refine ar h hk2 ?_;exact so (by push_cast [hb4])
 ·rintro s_47 (h : Vb s_47 = some r);(try push_cast);unfold Vb at h;refine vs [2] fun _ k=>?_;push_cast;apply k;clear k;refine VC.ret ?_;replace h:=Option.some.inj h;subst h;refine Cg (so (s':=⟨[(2,.ref 1 0)],[(1,.box 29 [ru s_47.Ctx.a0,ru s_47.Ctx.a1,ru s_47.Ctx.a2,ru s_47.Ctx.a3,.row 4 0 6 0 s_47.T.length,ru s_47.Seed]),(4,.row 53 6 0 (s_47.T.map Bb))],57,48,0⟩) (by push_cast)) ?_;refine Cg (Sub.renB (b:=1) (j:=4) (i':=0) rfl rfl rfl (Nat.le_of_ble_eq_true rfl) (Nat.le_of_ble_eq_true rfl) rfl) ?_;exact en (by push_cast)
noncomputable def Ml (a0 : Int) (a1 : Bf) (a2 : (List UInt32)) (i_1 : Bool) : Option (Bf × UInt32 × Int):=
  cond i_1 (
  some ((Bf.mk (A4.mk 0 0 0 0) [] 0),0,1)) (
  po (Pb a1) fun r5=>
  cond (a0 == 4) (
  po (Wm r5.Seed) fun r7=>
  some ((Bf.mk r5.Ctx r5.T r7),r7,0)) (
  po (a2[0]?) fun x8=>
  cond (decide ((IntKind.u64.wrap (x8.toNat : Int)) ≥ (IntKind.u64.wrap (r5.T.length : Int)))) (
  some (r5,0,10)) (
  none)))
noncomputable def Li (a0 : Int) (a1 : Bf) (a2 : (List UInt32)) : Option (Bf × UInt32 × Int):=
  po (Lg a0) fun r1=>
  po (
  cond (r1 == -1) (
  some true) (
  some (r1 != (a2.length : Int)))) (fun x=>Ml a0 a1 a2 x)
theorem Fh0 {a0 : Int} {a1 : Bf} {a2 : (List UInt32)} {r : Bf × UInt32 × Int} (h : Li a0 a1 a2 = some r) : Ctr prog 86 [ri a0,.agg (Uh a1),.sl false (a2.map Ax)] [] (.tup [.agg [ru r.1.Ctx.a0,ru r.1.Ctx.a1,ru r.1.Ctx.a2,ru r.1.Ctx.a3,.row 0 0 6 0 r.1.T.length,ru r.1.Seed],ru r.2.1,ri r.2.2]) [(0,.row 53 6 0 (r.1.T.map Bb))]:=by
 unfold Li at h;refine Ctr.ofW Ba func86 rfl call86 0 _ ntmps86 [.cell 6 29,.tmp 7,.tmp 8] rfl rfl rfl (fun B=>?_);refine vs [0,2,4,6] fun _ k=>?_;push_cast;apply k;clear k;refine VC.seq ?_;obtain ⟨r1,hr1,h⟩:=Aa h;refine vs [0,2,4,6,9] fun _ k=>?_;push_cast;refine cp (Wj hr1) ?_;push_cast;apply k;clear k;refine vj h (fun x=>⟨[(0,ri a0),(2,.sl false (a2.map Ax)),(4,.ref 0 0),(6,.ref 1 0),(23,rb x)],[(0,.box 29 (Uh a1)),(1,.box 29 [.raw (.int .u32 0),.raw (.int .u32 0),.raw (.int .u32 0),.raw (.int .u32 0),.sl true [],.raw (.int .u32 0)])],15,123,0⟩) (fun v2 h hk2=>?_) ?_
 ·rcases bt (r1 == -1) with hb3 | hb3
  ·replace h:=Ao hb3 h;refine vlG [some 16,some 17,some 18,some 19,some 20,some 21,some 22,some 23] fun _ k=>?_;push_cast [hb3];(repeat refine ao ?_);apply k;clear k;refine ar h hk2 ?_;exact so (by push_cast [hb3])
  ·replace h:=Au hb3 h;refine vlG [some 16,some 17,some 18,some 19,some 20,some 21,some 22,some 23] fun _ k=>?_;push_cast [hb3];(repeat refine ao ?_);apply k;clear k;refine ar h hk2 ?_;exact so (by push_cast [hb3])
 ·rintro i_1 (h : Ml a0 a1 a2 i_1 = some r);(try push_cast);unfold Ml at h;refine vc h (fun hb4 h=>?_) (fun hb4 h=>?_)
  ·refine vs [6,7,8] fun _ k=>?_;push_cast;apply k;clear k;refine VC.ret ?_;replace h:=Option.some.inj h;subst h;refine Cg (so (s':=⟨[(6,.ref 1 0),(7,.raw (.int .u32 0)),(8,ri 1)],[(1,.box 29 [.raw (.int .u32 0),.raw (.int .u32 0),.raw (.int .u32 0),.raw (.int .u32 0),.sl true [],.raw (.int .u32 0)])],19,123,0⟩) (by push_cast [hb4])) ?_;refine Cg (Sub.adopt (b:=1) (j:=4) (e:=53) (sz:=6) rfl rfl) ?_;refine Cg (Sub.renB (b:=1) (j:=4) (i':=0) rfl rfl rfl (Nat.le_of_ble_eq_true rfl) (Nat.le_of_ble_eq_true rfl) rfl) ?_;exact en (by push_cast [hb4])
  ·refine VC.skip ?_;obtain ⟨r5,hr5,h⟩:=Aa h;refine vs [0,2,4,6] fun _ k=>?_;push_cast;refine ch (H:=[]) (Ctr.loH (Ctr.ren (Bij.swp 0 16 Bij.id) (Gl0 hr5) (by push_cast) (by push_cast))) (by push_cast) ?_;push_cast;apply k;clear k;refine VC.sub (s':=⟨[(0,ri a0),(2,.sl false (a2.map Ax)),(4,.ref 0 0),(6,.ref 1 0)],[(0,.box 29 [ru r5.Ctx.a0,ru r5.Ctx.a1,ru r5.Ctx.a2,ru r5.Ctx.a3,.row 16 0 6 0 r5.T.length,ru r5.Seed]),(1,.box 29 [.raw (.int .u32 0),.raw (.int .u32 0),.raw (.int .u32 0),.raw (.int .u32 0),.sl true [],.raw (.int .u32 0)]),(16,.row 53 6 0 (r5.T.map Bb))],18,123,0⟩) (so (by push_cast [hb4])) ?_;refine VC.seq ?_;refine vs [0,2,4,6,28] fun _ k=>?_;push_cast;apply k;clear k;refine vc h (fun hb6 h=>?_) (fun hb6 h=>?_)
   ·obtain ⟨r7,hr7,h⟩:=Aa h;refine vs [4,6] fun _ k=>?_;push_cast;refine cp (Ft0 hr7) ?_;push_cast;apply k;clear k;refine vsD [some 33,some 34,some 35,none,some 7,some 8] [6,7,8] fun _ k=>?_;push_cast;refine ⟨rfl,k _ ?_⟩;clear k;refine VC.ret ?_;replace h:=Option.some.inj h;subst h;refine Cg (so (s':=⟨[(6,.ref 1 0),(7,ru r7),(8,ri 0)],[(1,.box 29 [ru r5.Ctx.a0,ru r5.Ctx.a1,ru r5.Ctx.a2,ru r5.Ctx.a3,.row 16 0 6 0 r5.T.length,ru r7]),(16,.row 53 6 0 (r5.T.map Bb))],31,123,0⟩) (by push_cast [hb4,hb6])) ?_;refine Cg (Sub.renB (b:=1) (j:=4) (i':=0) rfl rfl rfl (Nat.le_of_ble_eq_true rfl) (Nat.le_of_ble_eq_true rfl) rfl) ?_;exact en (by push_cast [hb4,hb6])
   ·refine VC.skip ?_;refine VC.seq ?_;obtain ⟨x8,hx8,h⟩:=Aa h;replace hx8:=gL hx8;refine vsD [some 36,some 37,some 38,some 39,some 40,some 41,some 42,some 43,some 44] [0,2,4,6,44] fun _ k=>?_;push_cast [hx8];(repeat refine ao ?_);refine ⟨rfl,k _ ?_⟩;clear k;refine vc h (fun hb9 h=>?_) (fun hb9 h=>?_)
    ·refine vs [6,7,8] fun _ k=>?_;push_cast;apply k;clear k;refine VC.ret ?_;replace h:=Option.some.inj h;subst h;refine Cg (so (s':=⟨[(6,.ref 1 0),(7,.raw (.int .u32 0)),(8,ri 10)],[(1,.box 29 [ru r5.Ctx.a0,ru r5.Ctx.a1,ru r5.Ctx.a2,ru r5.Ctx.a3,.row 16 0 6 0 r5.T.length,ru r5.Seed]),(16,.row 53 6 0 (r5.T.map Bb))],33,123,0⟩) (by push_cast [hb4,hb6,hb9])) ?_;refine Cg (Sub.renB (b:=1) (j:=4) (i':=0) rfl rfl rfl (Nat.le_of_ble_eq_true rfl) (Nat.le_of_ble_eq_true rfl) rfl) ?_;exact en (by push_cast [hb4,hb6,hb9])
    ·refine VC.skip ?_;cases h
noncomputable def Kr (x7 : Ap) (i_41 : Bool) (i_42 : Int) (i_43 : Bool) : Option ((Bool × Int) ⊕ (Bool)):=
  cond i_43 (
  po (idx x7.E i_42) fun x12=>
  some (Sum.inl ((decide ((x12.V.length : Int) ≤ 6)),(IntKind.i64.wrap (i_42 + 1))))) (
  some (Sum.inr i_41))
noncomputable def Ij (x7 : Ap) (i_41 : Bool) (i_42 : Int) : Option ((Bool × Int) ⊕ (Bool)):=
  po (
  cond (decide (i_42 < (x7.E.length : Int))) (
  some i_41) (
  some false)) (fun x=>Kr x7 i_41 i_42 x)
noncomputable def La (i_16 : Int) (i_24 : Bool) : Option ((Bool × Int) ⊕ (Bool)):=
  some (Sum.inl (i_24,(IntKind.i64.wrap (i_16 + 1))))
noncomputable def Ko (a0 : (List Ap)) (i_15 : Bool) (i_16 : Int) (i_17 : Bool) : Option ((Bool × Int) ⊕ (Bool)):=
  cond i_17 (
  po (
  po (idx a0 i_16) fun x7=>
  lpU (fun x=>Ij x7 x.1 x.2) ((decide ((x7.E.length : Int) ≤ 20)),0)) (fun x=>La i_16 x)) (
  some (Sum.inr i_15))
noncomputable def Ia (a0 : (List Ap)) (i_15 : Bool) (i_16 : Int) : Option ((Bool × Int) ⊕ (Bool)):=
  po (
  cond (decide (i_16 < (a0.length : Int))) (
  some i_15) (
  some false)) (fun x=>Ko a0 i_15 i_16 x)
noncomputable def Kz (i_39 : Bool) : Option (Bool):=
  some i_39
noncomputable def Kj (a0 : (List Ap)) : Option (Bool):=
  po (
  lpU (fun x=>Ia a0 x.1 x.2) ((decide ((a0.length : Int) ≤ 6)),0)) (fun x=>Kz x)
theorem Wf {a0 : (List Ap)} {r : Bool} (h : Kj a0 = some r) : Ctr prog 13 [.sl false (a0.map Bb)] [] (rb r) []:=by
 unfold Kj at h;refine Ctr.ofW Ba func13 rfl call13 0 _ ntmps13 [.tmp 2] rfl rfl rfl (fun B=>?_);refine vs [0] fun _ k=>?_;push_cast;apply k;clear k;refine vs [0,3] fun _ k=>?_;push_cast;apply k;clear k;refine vj h (fun x=>⟨[(3,rb x)],[],69,50,0⟩) (fun v1 h hk1=>?_) ?_
 ·refine vs [0,3,4] fun _ k=>?_;push_cast;apply k;clear k;refine VC.block ?_;refine VC.loopP h (fun x=>⟨[(0,.sl false (a0.map Bb)),(3,rb x.1),(4,ri x.2)],[],62,50,0⟩) ?_ ?_
  ·exact sl (by push_cast)
  rintro ⟨i_15,i_16⟩ b2 (h : Ia a0 i_15 i_16 = some b2) hf2;(try push_cast);unfold Ia at h;refine VC.seq ?_;refine vj h (fun x=>⟨[(0,.sl false (a0.map Bb)),(3,rb i_15),(4,ri i_16),(15,rb x)],[],69,50,0⟩) (fun v3 h hk3=>?_) ?_
  ·rcases bt (decide (i_16 < (a0.length : Int))) with hb4 | hb4
   ·replace h:=Ao hb4 h;refine vlG [some 9,some 10,some 11,some 12,some 13,some 14,some 15] fun _ k=>?_;push_cast [hb4];(repeat refine ao ?_);apply k;clear k;refine ar h hk3 ?_;exact sl (by push_cast [hb4])
   ·replace h:=Au hb4 h;refine vlG [some 9,some 10,some 11,some 12,some 13,some 14,some 15] fun _ k=>?_;push_cast [hb4];(repeat refine ao ?_);apply k;clear k;refine ar h hk3 ?_;exact sl (by push_cast [hb4])
  ·rintro i_17 (h : Ko a0 i_15 i_16 i_17 = some b2);(try push_cast);unfold Ko at h;refine vc h (fun hb5 h=>?_) (fun hb5 h=>?_)
   ·refine VC.skip ?_;refine vj h (fun x=>⟨[(0,.sl false (a0.map Bb)),(3,rb x),(4,ri i_16)],[],115,50,0⟩) (fun v6 h hk6=>?_) ?_
    ·refine VC.block ?_;obtain ⟨x7,hx7,h⟩:=Aa h;replace hx7:=Bh hx7;refine vs [0,3,4] fun _ k=>?_;push_cast [hx7];(repeat refine ao ?_);apply k;clear k;refine vs [0,3,4,5] fun _ k=>?_;push_cast;apply k;clear k;refine VC.block ?_;refine VC.loopP h (fun x=>⟨[(0,.sl false (a0.map Bb)),(3,rb x.1),(4,ri i_16),(5,ri x.2)],[],104,50,0⟩) ?_ ?_
     ·exact sl (by push_cast [hb5])
     rintro ⟨i_41,i_42⟩ b8 (h : Ij x7 i_41 i_42 = some b8) hf8;(try push_cast);unfold Ij at h;refine VC.seq ?_;refine vj h (fun x=>⟨[(0,.sl false (a0.map Bb)),(3,rb i_41),(4,ri i_16),(5,ri i_42),(35,rb x)],[],115,50,0⟩) (fun v9 h hk9=>?_) ?_
     ·rcases bt (decide (i_42 < (x7.E.length : Int))) with hb10 | hb10
      ·replace h:=Ao hb10 h;refine vlG [some 25,some 26,some 27,some 28,some 29,some 30,some 31,some 32,some 33,some 34,some 35] fun _ k=>?_;refine Ag 8 fun _ l=>?_;push_cast [hb10,hx7];(repeat refine ao ?_);apply l;clear l;simp only [List.drop_succ_cons,List.drop_zero];push_cast [hb10,hx7];(repeat refine ao ?_);apply k;clear k;refine ar h hk9 ?_;exact sl (by push_cast [hb5,hb10])
      ·replace h:=Au hb10 h;refine vlG [some 25,some 26,some 27,some 28,some 29,some 30,some 31,some 32,some 33,some 34,some 35] fun _ k=>?_;refine Ag 8 fun _ l=>?_;push_cast [hb10,hx7];(repeat refine ao ?_);apply l;clear l;simp only [List.drop_succ_cons,List.drop_zero];push_cast [hb10,hx7];(repeat refine ao ?_);apply k;clear k;refine ar h hk9 ?_;exact sl (by push_cast [hb5,hb10])
     ·rintro i_43 (h : Kr x7 i_41 i_42 i_43 = some b8);(try push_cast);unfold Kr at h;refine vc h (fun hb11 h=>?_) (fun hb11 h=>?_)
      ·refine VC.skip ?_;refine VC.seq ?_;refine VC.block ?_;obtain ⟨x12,hx12,h⟩:=Aa h;replace hx12:=Bh hx12;refine vl fun _ k=>?_;refine Ag 8 fun _ l=>?_;push_cast [hx12,hx7];(repeat refine ao ?_);apply l;clear l;simp only [List.drop_succ_cons,List.drop_zero];push_cast [hx12,hx7];(repeat refine ao ?_);apply k;clear k;refine vl fun _ k=>?_;push_cast;apply k;clear k;refine bk h ?_;exact sl (by push_cast [hb5,hb11])
      ·refine VC.exit ?_;replace h:=ol h hf8;refine ar h hk6 ?_;exact sl (by push_cast [hb5,hb11])
    ·rintro i_24 (h : La i_16 i_24 = some b2);(try push_cast);unfold La at h;refine vl fun _ k=>?_;push_cast;apply k;clear k;refine bk h ?_;exact sl (by push_cast [hb5])
   ·refine VC.exit ?_;replace h:=ol h hf2;refine ar h hk1 ?_;exact sl (by push_cast [hb5])
 ·rintro i_39 (h : Kz i_39 = some r);(try push_cast);unfold Kz at h;refine vs [2] fun _ k=>?_;push_cast;apply k;clear k;refine VC.ret ?_;replace h:=Option.some.inj h;subst h;exact en (by push_cast)
theorem lp_inv {σ ρ : Type} {step : σ → Option (σ ⊕ ρ)} (I : σ → Prop) (μ : σ → Nat) (Q : ρ → Prop)
    (hs : ∀ s,I s → (∃ s',step s = some (.inl s') ∧ I s' ∧ μ s' < μ s) ∨ (∃ r,step s = some (.inr r) ∧ Q r)) : ∀ (s0 : σ),I s0 → ∃ r,lpU step s0 = some r ∧ Q r:=by
  have key : ∀ (n : Nat) (s0 : σ),μ s0 = n → I s0 → ∃ r,lpU step s0 = some r ∧ Q r:=by
    intro n
    induction n using Nat.strongRecOn with
    | _ n ih=>
      intro s0 hn h0
      rcases hs s0 h0 with ⟨s',h1,h2,h3⟩ | ⟨r,h1,h2⟩
      · rw [lpU_inl h1]
        exact ih (μ s') (by omega) s' rfl h2
      · exact ⟨r,lpU_inr h1,h2⟩
  exact fun s0 h0=>key _ s0 rfl h0
theorem w64 {n : Nat} (h : n < 9223372036854775807) : IntKind.i64.wrap ((n : Int) + 1) = ((n + 1 : Nat) : Int):=by
  rw [wrap_i64 (by omega) (by omega)]
  omega
structure FewT (t : Ap) : Prop where
  e : t.E.length ≤ 20
  v : ∀ e ∈ t.E,e.V.length ≤ 6
structure FewL (l : List Ap) : Prop where
  len : l.length ≤ 6
  t : ∀ t ∈ l,FewT t
theorem few1 (t : Ap) : ∃ b,lpU (fun x=>Ij t x.1 x.2) ((decide ((t.E.length : Int) ≤ 20)),0) = some b ∧ (b = true → FewT t):=by
  refine lp_inv (fun s=>(s.1 = true → t.E.length ≤ 20) ∧ ∃ n : Nat,s.2 = (n : Int) ∧ n ≤ t.E.length ∧ (s.1 = true → ∀ j e,j < n → t.E[j]? = some e → e.V.length ≤ 6)) (fun s=>((t.E.length : Int) - s.2).toNat) (fun b=>b = true → FewT t) ?_ _ ?_
  · rintro ⟨b,i⟩ ⟨h1,n,rfl,h2,h3⟩
    simp only at h1 h3
    simp only [Ij]
    by_cases hlt : n < t.E.length
    · have hd : decide ((n : Int) < (t.E.length : Int)) = true:=by simp; omega
      rw [hd]
      simp only [cond_true,po_of,Kr]
      cases b with
      | true=>
        left
        simp only [cond_true,idx_nat,List.getElem?_eq_getElem hlt,po_of]
        have hn:=h1 rfl
        refine ⟨_,rfl,⟨fun _=>hn,n + 1,w64 (by omega),by omega,fun hb j e hj he=>?_⟩,by simp only [w64 (show n < 9223372036854775807 by omega)]; omega⟩
        rcases Nat.lt_or_ge j n with hjn | hjn
        · exact h3 rfl j e hjn he
        · have : j = n:=by omega
          subst this
          rw [List.getElem?_eq_getElem hlt] at he
          injection he with he
          subst he
          simp at hb
          omega
      | false=>
        right
        exact ⟨false,rfl,fun h=>by cases h⟩
    · have hd : decide ((n : Int) < (t.E.length : Int)) = false:=by simp; omega
      rw [hd]
      right
      refine ⟨b,rfl,fun hb=>⟨h1 hb,fun e he=>?_⟩⟩
      obtain ⟨j,hj⟩:=List.mem_iff_getElem?.1 he
      exact h3 hb j e (by have:=get_lt hj; omega) hj
  · exact ⟨fun h=>by simp at h; omega,0,rfl,Nat.zero_le _,fun _ j e hj=>by omega⟩
theorem few_tells (l : List Ap) : ∃ b,Kj l = some b ∧ (b = true → FewL l):=by
  have key : ∃ b,lpU (fun x=>Ia l x.1 x.2) ((decide ((l.length : Int) ≤ 6)),0) = some b ∧ (b = true → FewL l):=by
    refine lp_inv (fun s=>(s.1 = true → l.length ≤ 6) ∧ ∃ n : Nat,s.2 = (n : Int) ∧ n ≤ l.length ∧ (s.1 = true → ∀ j t,j < n → l[j]? = some t → FewT t)) (fun s=>((l.length : Int) - s.2).toNat) (fun b=>b = true → FewL l) ?_ _ ?_
    · rintro ⟨b,i⟩ ⟨h1,n,rfl,h2,h3⟩
      simp only at h1 h3
      simp only [Ia]
      by_cases hlt : n < l.length
      · have hd : decide ((n : Int) < (l.length : Int)) = true:=by simp; omega
        rw [hd]
        simp only [cond_true,po_of,Ko]
        cases b with
        | true=>
          left
          obtain ⟨b2,e1,e2⟩:=few1 l[n]
          simp only [cond_true,idx_nat,List.getElem?_eq_getElem hlt,po_of,e1,La]
          have hn:=h1 rfl
          refine ⟨_,rfl,⟨fun _=>hn,n + 1,w64 (by omega),by omega,fun hb j t hj ht=>?_⟩,by simp only [w64 (show n < 9223372036854775807 by omega)]; omega⟩
          rcases Nat.lt_or_ge j n with hjn | hjn
          · exact h3 rfl j t hjn ht
          · have : j = n:=by omega
            subst this
            rw [List.getElem?_eq_getElem hlt] at ht
            injection ht with ht
            subst ht
            exact e2 hb
        | false=>
          right
          exact ⟨false,rfl,fun h=>by cases h⟩
      · have hd : decide ((n : Int) < (l.length : Int)) = false:=by simp; omega
        rw [hd]
        right
        refine ⟨b,rfl,fun hb=>⟨h1 hb,fun t ht=>?_⟩⟩
        obtain ⟨j,hj⟩:=List.mem_iff_getElem?.1 ht
        exact h3 hb j t (by have:=get_lt hj; omega) hj
    · exact ⟨fun h=>by simp at h; omega,0,rfl,Nat.zero_le _,fun _ j e hj=>by omega⟩
  obtain ⟨b,h1,h2⟩:=key
  exact ⟨b,by simp only [Kj,h1,po_of,Kz],h2⟩
def argsN (n : Int) : Int:=if n = 0 then 3 else if n = 1 then 4 else if n = 2 then 2 else if n = 3 then 2 else if n = 4 then 0 else if n = 5 then 2 else -1
theorem args_is (n : Int) : Lg n = some (argsN n):=by
  unfold Lg argsN
  by_cases h0 : n = 0
  · subst h0; rfl
  by_cases h1 : n = 1
  · subst h1; rfl
  by_cases h2 : n = 2
  · subst h2; rfl
  by_cases h3 : n = 3
  · subst h3; rfl
  by_cases h4 : n = 4
  · subst h4; rfl
  by_cases h5 : n = 5
  · subst h5; rfl
  have ne : ∀ k : Int,¬ n = k → (n == k) = false:=fun k h=>by simpa using h
  simp only [ne _ h0,ne _ h1,ne _ h2,ne _ h3,ne _ h4,ne _ h5,if_neg h0,if_neg h1,if_neg h2,if_neg h3,if_neg h4,if_neg h5,cond_false,po_of,Px]
theorem w64v (x : UInt32) : IntKind.u64.wrap (x.toNat : Int) = (x.toNat : Int):=by
  have:=x.toNat_lt
  rw [IntKind.wrap_u64]
  omega
structure Fits (l : List Ap) : Prop where
  nil : l = []
theorem own_is {e : Bf} (h : Fits e.T) : Pb e = some e:=by
  obtain ⟨c,t,s⟩:=e
  have ht : t = []:=h.nil
  subst ht
  unfold Pb
  rw [show Df (⟨c,[],s⟩ : Bf).T = some [] from rfl,po_of,lpU_inr (r:=⟨c,[],s⟩) (by rfl)]
  rfl
theorem call_nil {n : Int} {e : Bf} {a : List UInt32} (hF : Fits e.T) : ∃ e' v x,Li n e a = some (e',v,x) ∧ (x = 0 → e'.Ctx = e.Ctx ∧ e'.T = []):=by
  obtain ⟨c,t,s⟩:=e
  have ht : t = []:=hF.nil
  subst ht
  unfold Li
  rw [args_is,po_of]
  have key : ∀ b,(b = false → n ≠ 4 → a ≠ []) → ∃ e' v x,Ml n ⟨c,[],s⟩ a b = some (e',v,x) ∧ (x = 0 → e'.Ctx = c ∧ e'.T = []):=by
    intro b hb
    unfold Ml
    cases b with
    | true=>exact ⟨_,_,_,rfl,fun h=>by cases h⟩
    | false=>
      simp only [cond_false,own_is (e:=⟨c,[],s⟩) hF,po_of]
      by_cases h4 : n = 4
      · have d : (n == 4) = true:=by simpa using h4
        rw [d]
        exact ⟨_,_,_,rfl,fun _=>⟨rfl,rfl⟩⟩
      · have d : (n == 4) = false:=by simpa using h4
        have ha:=hb rfl h4
        cases a with
        | nil=>exact absurd rfl ha
        | cons x a=>
          rw [d]
          simp only [cond_false,List.getElem?_cons_zero,po_of]
          have hx : 0 ≤ IntKind.u64.wrap (x.toNat : Int):=by
            rw [w64v]
            omega
          have d2 : decide (IntKind.u64.wrap (x.toNat : Int) ≥ IntKind.u64.wrap ((([] : List Ap).length : Nat) : Int)) = true:=by
            have e0 : IntKind.u64.wrap ((([] : List Ap).length : Nat) : Int) = 0:=by decide
            rw [e0]
            exact decide_eq_true hx
          rw [d2]
          exact ⟨_,_,_,rfl,fun h=>by cases h⟩
  have hlen : ∀ b,b = (argsN n != (a.length : Int)) → b = false → n ≠ 4 → argsN n ≠ -1 → a ≠ []:=by
    rintro b rfl hb h4 h1 rfl
    have e : argsN n = 0:=by simpa using hb
    unfold argsN at e h1
    repeat' split at e
    all_goals first | omega | contradiction
  by_cases h1 : argsN n = -1
  · have d : (argsN n == -1) = true:=by simpa using h1
    rw [d]
    exact key true (fun h=>by cases h)
  · have d : (argsN n == -1) = false:=by simpa using h1
    rw [d]
    simp only [cond_false,po_of]
    exact key _ (fun hb h4=>hlen _ rfl hb h4 h1)
theorem at_A8_inst_rule (a : A8 Ck) {n : Nat} (hn : n < 8) : ((Oi Gj a).drop (n * 5)).take 5 = Gj (a.get n):=Jd0 (f:=Gj) (k:=5) (fun _=>rfl) a hn
attribute [push_cast] at_A8_inst_rule
theorem len_A8_inst_rule (a : A8 Ck) : (Oi Gj a).length = 40:=rfl
attribute [push_cast] len_A8_inst_rule
noncomputable def Rg (i_1 : Bool) : Option (Bool):=
  some i_1
noncomputable def Nx (a0 : Int) (a1 : Int) : Option (Bool):=
  po (
  cond (decide (a0 ≥ 0)) (
  some (decide (a0 < a1))) (
  some false)) (fun x=>Rg x)
theorem Cs {a0 : Int} {a1 : Int} {r : Bool} (h : Nx a0 a1 = some r) : Ctr prog 152 [ri a0,ri a1] [] (rb r) []:=by
 unfold Nx at h;refine Ctr.ofW Ba func152 rfl call152 0 _ ntmps152 [.tmp 4] rfl rfl rfl (fun B=>?_);refine vs [0,1] fun _ k=>?_;push_cast;apply k;clear k;refine vj h (fun x=>⟨[(4,rb x)],[],9,12,0⟩) (fun v1 h hk1=>?_) ?_
 ·rcases bt (decide (a0 ≥ 0)) with hb2 | hb2
  ·replace h:=Ao hb2 h;refine vlG [some 5,some 6,some 7,some 8,some 9,some 10,some 11,some 4] fun _ k=>?_;push_cast [hb2];(repeat refine ao ?_);apply k;clear k;refine ar h hk1 ?_;exact sl (by push_cast [hb2])
  ·replace h:=Au hb2 h;refine vlG [some 5,some 6,some 7,some 8,some 9,some 10,some 11,some 4] fun _ k=>?_;push_cast [hb2];(repeat refine ao ?_);apply k;clear k;refine ar h hk1 ?_;exact sl (by push_cast [hb2])
 ·rintro i_1 (h : Rg i_1 = some r);(try push_cast);unfold Rg at h;refine VC.ret ?_;replace h:=Option.some.inj h;subst h;exact en (by push_cast)
noncomputable def Ul : Option ((A8 Ck)):=
  some (A8.mk (Ck.mk 11 true true 0 true) (Ck.mk 5 true true 65535 true) (Ck.mk 1 true true 0 true) (Ck.mk 1 true true 0 true) (Ck.mk 1 true true 0 true) (Ck.mk 1 false false 0 true) (Ck.mk 1 false false 0 true) (Ck.mk 1 false false 0 false))
theorem Go0 {r : (A8 Ck)} (h : Ul = some r) : Ctr prog 153 [] [] (.agg ((Oi Gj) r)) []:=by
 unfold Ul at h;refine Ctr.ofW Ba func153 rfl call153 0 _ ntmps153 [.cell 0 247] rfl rfl rfl (fun B=>?_);refine vs [0] fun _ k=>?_;push_cast (maxSteps:=9000000) [-Ay];apply k;clear k;refine vs [0] fun _ k=>?_;push_cast (maxSteps:=9000000) [-Ay];apply k;clear k;refine VC.ret ?_;replace h:=Option.some.inj h;subst h;exact en (by push_cast (maxSteps:=9000000) [-Ay,Oi])
noncomputable def Dy (a0 : Am) (r8 : (A8 Ck)) (i_2 : Bool) : Option (Ck):=
  cond i_2 (
  some (Ck.mk ((r8.get a0.Op.toNat).fns) false false ((r8.get a0.Op.toNat).off) false)) (
  some (r8.get a0.Op.toNat))
noncomputable def Ru (i_5 : Bool) : Option (Bool):=
  some i_5
noncomputable def Sc (i_6 : Bool) : Option (Bool):=
  some i_6
noncomputable def Mj (a0 : Am) (i_4 : Bool) : Option (Bool):=
  cond a0.Reg (
  po (
  cond i_4 (
  some ((a0.Imm.toNat : Int) == 0)) (
  some false)) (fun x=>Ru x)) (
  po (
  cond i_4 (
  some (a0.Src == 0)) (
  some false)) (fun x=>Sc x))
noncomputable def Pe (a0 : Am) (s_3 : Ck) : Option (Bool):=
  po (
  po (Nx a0.Fn s_3.fns) fun r15=>
  cond r15 (
  po (Nx a0.Off (IntKind.i64.wrap (s_3.off + 1))) fun r17=>
  cond r17 (
  cond s_3.dst (
  cond s_3.word (
  cond s_3.imm (
  some true) (
  some ((a0.Imm.toNat : Int) == 0))) (
  cond a0.Reg (
  some false) (
  cond s_3.imm (
  some true) (
  some ((a0.Imm.toNat : Int) == 0))))) (
  cond (a0.Dst == 0) (
  cond s_3.word (
  cond s_3.imm (
  some true) (
  some ((a0.Imm.toNat : Int) == 0))) (
  cond a0.Reg (
  some false) (
  cond s_3.imm (
  some true) (
  some ((a0.Imm.toNat : Int) == 0))))) (
  some false))) (
  some false)) (
  some false)) (fun x=>Mj a0 x)
noncomputable def Qe (a0 : Am) (i_1 : Bool) : Option (Bool):=
  cond i_1 (
  some false) (
  po (Ul) fun r8=>
  pg (0 ≤ a0.Op ∧ a0.Op < 8) <|
  po (
  po (
  cond (a0.Op == 1) (
  some (a0.Fn == 0)) (
  some false)) (fun x=>Dy a0 r8 x)) (fun x=>Pe a0 x))
noncomputable def Jy (a0 : Am) : Option (Bool):=
  po (
  po (Nx a0.Op 8) fun r2=>
  cond r2 (
  po (Nx a0.Dst 8) fun r4=>
  cond r4 (
  po (Nx a0.Src 8) fun r6=>
  some (!r6)) (
  some true)) (
  some true)) (fun x=>Qe a0 x)
theorem Zs {a0 : Am} {r : Bool} (h : Jy a0 = some r) : Ctr prog 115 [.agg (Aw a0)] [] (rb r) []:=by
 unfold Jy at h;refine Ctr.ofW Ba func115 rfl call115 0 _ ntmps115 [.tmp 2] rfl rfl rfl (fun B=>?_);refine vs [1] fun _ k=>?_;push_cast;apply k;clear k;refine VC.seq ?_;refine vj h (fun x=>⟨[(1,.ref 0 0),(20,rb x)],[(0,.box 37 (Aw a0))],18,90,0⟩) (fun v1 h hk1=>?_) ?_
 ·obtain ⟨r2,hr2,h⟩:=Aa h;rcases bt r2 with hb3 | hb3
  ·replace h:=Ao hb3 h;obtain ⟨r4,hr4,h⟩:=Aa h;rcases bt r4 with hb5 | hb5
   ·replace h:=Ao hb5 h;obtain ⟨r6,hr6,h⟩:=Aa h;refine vlG [some 5,some 6,some 7,some 8,some 9,some 10,some 11,some 12,some 13,some 14,some 15,some 16,some 17,some 18,some 19,some 20] fun _ k=>?_;refine Ag 8 fun _ l=>?_;push_cast [hb3,hb5];(repeat refine ao ?_);refine cp (Cs hr2) ?_;push_cast [hb3,hb5];(repeat refine ao ?_);refine cp (Cs hr4) ?_;push_cast [hb3,hb5];(repeat refine ao ?_);apply l;clear l;simp only [List.drop_succ_cons,List.drop_zero];push_cast [hb3,hb5];(repeat refine ao ?_);refine cp (Cs hr6) ?_;push_cast [hb3,hb5];(repeat refine ao ?_);apply k;clear k;refine ar h hk1 ?_;exact sl (by push_cast [hb3,hb5])
   ·replace h:=Au hb5 h;refine vlG [some 5,some 6,some 7,some 8,some 9,some 10,some 11,some 12,some 13,some 14,some 15,some 16,some 17,some 18,some 19,some 20] fun _ k=>?_;refine Ag 8 fun _ l=>?_;push_cast [hb3,hb5];(repeat refine ao ?_);refine cp (Cs hr2) ?_;push_cast [hb3,hb5];(repeat refine ao ?_);refine cp (Cs hr4) ?_;push_cast [hb3,hb5];(repeat refine ao ?_);apply l;clear l;simp only [List.drop_succ_cons,List.drop_zero];push_cast [hb3,hb5];(repeat refine ao ?_);apply k;clear k;refine ar h hk1 ?_;exact sl (by push_cast [hb3,hb5])
  ·replace h:=Au hb3 h;refine vlG [some 5,some 6,some 7,some 8,some 9,some 10,some 11,some 12,some 13,some 14,some 15,some 16,some 17,some 18,some 19,some 20] fun _ k=>?_;refine Ag 8 fun _ l=>?_;push_cast [hb3];(repeat refine ao ?_);refine cp (Cs hr2) ?_;push_cast [hb3];(repeat refine ao ?_);apply l;clear l;simp only [List.drop_succ_cons,List.drop_zero];push_cast [hb3];(repeat refine ao ?_);apply k;clear k;refine ar h hk1 ?_;exact sl (by push_cast [hb3])
 ·rintro i_1 (h : Qe a0 i_1 = some r);(try push_cast);unfold Qe at h;refine vc h (fun hb7 h=>?_) (fun hb7 h=>?_)
  ·refine vs [2] fun _ k=>?_;push_cast;apply k;clear k;refine VC.ret ?_;replace h:=Option.some.inj h;subst h;exact en (by push_cast [hb7])
  ·refine VC.skip ?_;obtain ⟨r8,hr8,h⟩:=Aa h;obtain ⟨hg9,h⟩:=Bs h;have hg9n : a0.Op.toNat < 8:=by omega
   refine vsD [some 21,some 22,some 23,some 24,some 3,none] [1,3] fun _ k=>?_;push_cast [hg9,hg9n];(repeat refine ao ?_);refine cpD (Go0 hr8) ?_;push_cast [hg9,hg9n];(repeat refine ao ?_);refine ⟨rfl,k _ ?_⟩;clear k;refine vj h (fun x=>⟨[(1,.ref 0 0),(3,.ref 22 0)],[(0,.box 37 (Aw a0)),(22,.box 246 (Gj x))],38,90,0⟩) (fun v10 h hk10=>?_) ?_
   ·refine vj h (fun x=>⟨[(1,.ref 0 0),(3,.ref 22 0),(32,rb x)],[(0,.box 37 (Aw a0)),(22,.box 246 (Gj (r8.get a0.Op.toNat)))],32,90,0⟩) (fun v11 h hk11=>?_) ?_
    ·rcases bt (a0.Op == 1) with hb12 | hb12
     ·replace h:=Ao hb12 h;refine vlG [some 25,some 26,some 27,some 28,some 29,some 30,some 31,some 32] fun _ k=>?_;push_cast [hb12];(repeat refine ao ?_);apply k;clear k;refine ar h hk11 ?_;exact sl (by push_cast [hb7,hb12])
     ·replace h:=Au hb12 h;refine vlG [some 25,some 26,some 27,some 28,some 29,some 30,some 31,some 32] fun _ k=>?_;push_cast [hb12];(repeat refine ao ?_);apply k;clear k;refine ar h hk11 ?_;exact sl (by push_cast [hb7,hb12])
    ·rintro i_2 (h : Dy a0 r8 i_2 = some v10);(try push_cast);unfold Dy at h;refine vc h (fun hb13 h=>?_) (fun hb13 h=>?_)
     ·refine vl fun _ k=>?_;push_cast;apply k;clear k;refine ar h hk10 ?_;exact sl (by push_cast [hb7,hb13])
     ·refine VC.skip ?_;refine ar h hk10 ?_;exact sl (by push_cast [hb7,hb13])
   ·rintro s_3 (h : Pe a0 s_3 = some r);(try push_cast);unfold Pe at h;refine vj h (fun x=>⟨[(1,.ref 0 0),(4,rb x)],[(0,.box 37 (Aw a0))],79,90,0⟩) (fun v14 h hk14=>?_) ?_
    ·obtain ⟨r15,hr15,h⟩:=Aa h;rcases bt r15 with hb16 | hb16
     ·replace h:=Ao hb16 h;obtain ⟨r17,hr17,h⟩:=Aa h;rcases bt r17 with hb18 | hb18
      ·replace h:=Ao hb18 h;rcases bt s_3.dst with hb19 | hb19
       ·replace h:=Ao hb19 h;rcases bt s_3.word with hb20 | hb20
        ·replace h:=Ao hb20 h;rcases bt s_3.imm with hb21 | hb21
         ·replace h:=Ao hb21 h;refine vlG [some 36,some 37,some 38,some 39,some 40,some 41,some 42,some 43,some 44,some 45,some 46,some 47,some 48,some 49,some 50,some 51,some 52,some 53,some 54,some 55,some 56,some 57,some 58,some 59,some 60,some 61,some 62,some 63,some 64,some 65,some 66,some 67,some 68,some 69,some 70,some 71,some 72,some 73,some 74,some 75,some 4] fun _ k=>?_;refine Ag 8 fun _ l=>?_;push_cast [hb16,hb18,hb19,hb20,hb21];(repeat refine ao ?_);refine cp (Cs hr15) ?_;push_cast [hb16,hb18,hb19,hb20,hb21];(repeat refine ao ?_);apply l;clear l;simp only [List.drop_succ_cons,List.drop_zero];refine Ag 8 fun _ l=>?_;push_cast [hb16,hb18,hb19,hb20,hb21];(repeat refine ao ?_);refine cp (Cs hr17) ?_;push_cast [hb16,hb18,hb19,hb20,hb21];(repeat refine ao ?_);apply l;clear l;simp only [List.drop_succ_cons,List.drop_zero];refine Ag 8 fun _ l=>?_;push_cast [hb16,hb18,hb19,hb20,hb21];(repeat refine ao ?_);apply l;clear l;simp only [List.drop_succ_cons,List.drop_zero];refine Ag 8 fun _ l=>?_;push_cast [hb16,hb18,hb19,hb20,hb21];(repeat refine ao ?_);apply l;clear l;simp only [List.drop_succ_cons,List.drop_zero];push_cast [hb16,hb18,hb19,hb20,hb21];(repeat refine ao ?_);apply k;clear k;refine ar h hk14 ?_;exact sl (by push_cast [hb7,hb16,hb18,hb19,hb20,hb21])
         ·replace h:=Au hb21 h;refine vlG [some 36,some 37,some 38,some 39,some 40,some 41,some 42,some 43,some 44,some 45,some 46,some 47,some 48,some 49,some 50,some 51,some 52,some 53,some 54,some 55,some 56,some 57,some 58,some 59,some 60,some 61,some 62,some 63,some 64,some 65,some 66,some 67,some 68,some 69,some 70,some 71,some 72,some 73,some 74,some 75,some 4] fun _ k=>?_;refine Ag 8 fun _ l=>?_;push_cast [hb16,hb18,hb19,hb20,hb21];(repeat refine ao ?_);refine cp (Cs hr15) ?_;push_cast [hb16,hb18,hb19,hb20,hb21];(repeat refine ao ?_);apply l;clear l;simp only [List.drop_succ_cons,List.drop_zero];refine Ag 8 fun _ l=>?_;push_cast [hb16,hb18,hb19,hb20,hb21];(repeat refine ao ?_);refine cp (Cs hr17) ?_;push_cast [hb16,hb18,hb19,hb20,hb21];(repeat refine ao ?_);apply l;clear l;simp only [List.drop_succ_cons,List.drop_zero];refine Ag 8 fun _ l=>?_;push_cast [hb16,hb18,hb19,hb20,hb21];(repeat refine ao ?_);apply l;clear l;simp only [List.drop_succ_cons,List.drop_zero];refine Ag 8 fun _ l=>?_;push_cast [hb16,hb18,hb19,hb20,hb21];(repeat refine ao ?_);apply l;clear l;simp only [List.drop_succ_cons,List.drop_zero];push_cast [hb16,hb18,hb19,hb20,hb21];(repeat refine ao ?_);apply k;clear k;refine ar h hk14 ?_;exact sl (by push_cast [hb7,hb16,hb18,hb19,hb20,hb21])
        ·replace h:=Au hb20 h;rcases bt a0.Reg with hb22 | hb22
         ·replace h:=Ao hb22 h;refine vlG [some 36,some 37,some 38,some 39,some 40,some 41,some 42,some 43,some 44,some 45,some 46,some 47,some 48,some 49,some 50,some 51,some 52,some 53,some 54,some 55,some 56,some 57,some 58,some 59,some 60,some 61,some 62,some 63,some 64,some 65,some 66,some 67,some 68,some 69,some 70,some 71,some 72,some 73,some 74,some 75,some 4] fun _ k=>?_;refine Ag 8 fun _ l=>?_;push_cast [hb16,hb18,hb19,hb20,hb22];(repeat refine ao ?_);refine cp (Cs hr15) ?_;push_cast [hb16,hb18,hb19,hb20,hb22];(repeat refine ao ?_);apply l;clear l;simp only [List.drop_succ_cons,List.drop_zero];refine Ag 8 fun _ l=>?_;push_cast [hb16,hb18,hb19,hb20,hb22];(repeat refine ao ?_);refine cp (Cs hr17) ?_;push_cast [hb16,hb18,hb19,hb20,hb22];(repeat refine ao ?_);apply l;clear l;simp only [List.drop_succ_cons,List.drop_zero];refine Ag 8 fun _ l=>?_;push_cast [hb16,hb18,hb19,hb20,hb22];(repeat refine ao ?_);apply l;clear l;simp only [List.drop_succ_cons,List.drop_zero];refine Ag 8 fun _ l=>?_;push_cast [hb16,hb18,hb19,hb20,hb22];(repeat refine ao ?_);apply l;clear l;simp only [List.drop_succ_cons,List.drop_zero];push_cast [hb16,hb18,hb19,hb20,hb22];(repeat refine ao ?_);apply k;clear k;refine ar h hk14 ?_;exact sl (by push_cast [hb7,hb16,hb18,hb19,hb20,hb22])
         ·replace h:=Au hb22 h;rcases bt s_3.imm with hb23 | hb23
          ·replace h:=Ao hb23 h;refine vlG [some 36,some 37,some 38,some 39,some 40,some 41,some 42,some 43,some 44,some 45,some 46,some 47,some 48,some 49,some 50,some 51,some 52,some 53,some 54,some 55,some 56,some 57,some 58,some 59,some 60,some 61,some 62,some 63,some 64,some 65,some 66,some 67,some 68,some 69,some 70,some 71,some 72,some 73,some 74,some 75,some 4] fun _ k=>?_;refine Ag 8 fun _ l=>?_;push_cast [hb16,hb18,hb19,hb20,hb22,hb23];(repeat refine ao ?_);refine cp (Cs hr15) ?_;push_cast [hb16,hb18,hb19,hb20,hb22,hb23];(repeat refine ao ?_);apply l;clear l;simp only [List.drop_succ_cons,List.drop_zero];refine Ag 8 fun _ l=>?_;push_cast [hb16,hb18,hb19,hb20,hb22,hb23];(repeat refine ao ?_);refine cp (Cs hr17) ?_;push_cast [hb16,hb18,hb19,hb20,hb22,hb23];(repeat refine ao ?_);apply l;clear l;simp only [List.drop_succ_cons,List.drop_zero];refine Ag 8 fun _ l=>?_;push_cast [hb16,hb18,hb19,hb20,hb22,hb23];(repeat refine ao ?_);apply l;clear l;simp only [List.drop_succ_cons,List.drop_zero];refine Ag 8 fun _ l=>?_;push_cast [hb16,hb18,hb19,hb20,hb22,hb23];(repeat refine ao ?_);apply l;clear l;simp only [List.drop_succ_cons,List.drop_zero];push_cast [hb16,hb18,hb19,hb20,hb22,hb23];(repeat refine ao ?_);apply k;clear k;refine ar h hk14 ?_;exact sl (by push_cast [hb7,hb16,hb18,hb19,hb20,hb22,hb23])
          ·replace h:=Au hb23 h;refine vlG [some 36,some 37,some 38,some 39,some 40,some 41,some 42,some 43,some 44,some 45,some 46,some 47,some 48,some 49,some 50,some 51,some 52,some 53,some 54,some 55,some 56,some 57,some 58,some 59,some 60,some 61,some 62,some 63,some 64,some 65,some 66,some 67,some 68,some 69,some 70,some 71,some 72,some 73,some 74,some 75,some 4] fun _ k=>?_;refine Ag 8 fun _ l=>?_;push_cast [hb16,hb18,hb19,hb20,hb22,hb23];(repeat refine ao ?_);refine cp (Cs hr15) ?_;push_cast [hb16,hb18,hb19,hb20,hb22,hb23];(repeat refine ao ?_);apply l;clear l;simp only [List.drop_succ_cons,List.drop_zero];refine Ag 8 fun _ l=>?_;push_cast [hb16,hb18,hb19,hb20,hb22,hb23];(repeat refine ao ?_);refine cp (Cs hr17) ?_;push_cast [hb16,hb18,hb19,hb20,hb22,hb23];(repeat refine ao ?_);apply l;clear l;simp only [List.drop_succ_cons,List.drop_zero];refine Ag 8 fun _ l=>?_;push_cast [hb16,hb18,hb19,hb20,hb22,hb23];(repeat refine ao ?_);apply l;clear l;simp only [List.drop_succ_cons,List.drop_zero];refine Ag 8 fun _ l=>?_;push_cast [hb16,hb18,hb19,hb20,hb22,hb23];(repeat refine ao ?_);apply l;clear l;simp only [List.drop_succ_cons,List.drop_zero];push_cast [hb16,hb18,hb19,hb20,hb22,hb23];(repeat refine ao ?_);apply k;clear k;refine ar h hk14 ?_;exact sl (by push_cast [hb7,hb16,hb18,hb19,hb20,hb22,hb23])
       ·replace h:=Au hb19 h;rcases bt (a0.Dst == 0) with hb24 | hb24
        ·replace h:=Ao hb24 h;rcases bt s_3.word with hb25 | hb25
         ·replace h:=Ao hb25 h;rcases bt s_3.imm with hb26 | hb26
          ·replace h:=Ao hb26 h;refine vlG [some 36,some 37,some 38,some 39,some 40,some 41,some 42,some 43,some 44,some 45,some 46,some 47,some 48,some 49,some 50,some 51,some 52,some 53,some 54,some 55,some 56,some 57,some 58,some 59,some 60,some 61,some 62,some 63,some 64,some 65,some 66,some 67,some 68,some 69,some 70,some 71,some 72,some 73,some 74,some 75,some 4] fun _ k=>?_;refine Ag 8 fun _ l=>?_;push_cast [hb16,hb18,hb19,hb24,hb25,hb26];(repeat refine ao ?_);refine cp (Cs hr15) ?_;push_cast [hb16,hb18,hb19,hb24,hb25,hb26];(repeat refine ao ?_);apply l;clear l;simp only [List.drop_succ_cons,List.drop_zero];refine Ag 8 fun _ l=>?_;push_cast [hb16,hb18,hb19,hb24,hb25,hb26];(repeat refine ao ?_);refine cp (Cs hr17) ?_;push_cast [hb16,hb18,hb19,hb24,hb25,hb26];(repeat refine ao ?_);apply l;clear l;simp only [List.drop_succ_cons,List.drop_zero];refine Ag 8 fun _ l=>?_;push_cast [hb16,hb18,hb19,hb24,hb25,hb26];(repeat refine ao ?_);apply l;clear l;simp only [List.drop_succ_cons,List.drop_zero];refine Ag 8 fun _ l=>?_;push_cast [hb16,hb18,hb19,hb24,hb25,hb26];(repeat refine ao ?_);apply l;clear l;simp only [List.drop_succ_cons,List.drop_zero];push_cast [hb16,hb18,hb19,hb24,hb25,hb26];(repeat refine ao ?_);apply k;clear k;refine ar h hk14 ?_;exact sl (by push_cast [hb7,hb16,hb18,hb19,hb24,hb25,hb26])
          ·replace h:=Au hb26 h;refine vlG [some 36,some 37,some 38,some 39,some 40,some 41,some 42,some 43,some 44,some 45,some 46,some 47,some 48,some 49,some 50,some 51,some 52,some 53,some 54,some 55,some 56,some 57,some 58,some 59,some 60,some 61,some 62,some 63,some 64,some 65,some 66,some 67,some 68,some 69,some 70,some 71,some 72,some 73,some 74,some 75,some 4] fun _ k=>?_;refine Ag 8 fun _ l=>?_;push_cast [hb16,hb18,hb19,hb24,hb25,hb26];(repeat refine ao ?_);refine cp (Cs hr15) ?_;push_cast [hb16,hb18,hb19,hb24,hb25,hb26];(repeat refine ao ?_);apply l;clear l;simp only [List.drop_succ_cons,List.drop_zero];refine Ag 8 fun _ l=>?_;push_cast [hb16,hb18,hb19,hb24,hb25,hb26];(repeat refine ao ?_);refine cp (Cs hr17) ?_;push_cast [hb16,hb18,hb19,hb24,hb25,hb26];(repeat refine ao ?_);apply l;clear l;simp only [List.drop_succ_cons,List.drop_zero];refine Ag 8 fun _ l=>?_;push_cast [hb16,hb18,hb19,hb24,hb25,hb26];(repeat refine ao ?_);apply l;clear l;simp only [List.drop_succ_cons,List.drop_zero];refine Ag 8 fun _ l=>?_;push_cast [hb16,hb18,hb19,hb24,hb25,hb26];(repeat refine ao ?_);apply l;clear l;simp only [List.drop_succ_cons,List.drop_zero];push_cast [hb16,hb18,hb19,hb24,hb25,hb26];(repeat refine ao ?_);apply k;clear k;refine ar h hk14 ?_;exact sl (by push_cast [hb7,hb16,hb18,hb19,hb24,hb25,hb26])
         ·replace h:=Au hb25 h;rcases bt a0.Reg with hb27 | hb27
          ·replace h:=Ao hb27 h;refine vlG [some 36,some 37,some 38,some 39,some 40,some 41,some 42,some 43,some 44,some 45,some 46,some 47,some 48,some 49,some 50,some 51,some 52,some 53,some 54,some 55,some 56,some 57,some 58,some 59,some 60,some 61,some 62,some 63,some 64,some 65,some 66,some 67,some 68,some 69,some 70,some 71,some 72,some 73,some 74,some 75,some 4] fun _ k=>?_;refine Ag 8 fun _ l=>?_;push_cast [hb16,hb18,hb19,hb24,hb25,hb27];(repeat refine ao ?_);refine cp (Cs hr15) ?_;push_cast [hb16,hb18,hb19,hb24,hb25,hb27];(repeat refine ao ?_);apply l;clear l;simp only [List.drop_succ_cons,List.drop_zero];refine Ag 8 fun _ l=>?_;push_cast [hb16,hb18,hb19,hb24,hb25,hb27];(repeat refine ao ?_);refine cp (Cs hr17) ?_;push_cast [hb16,hb18,hb19,hb24,hb25,hb27];(repeat refine ao ?_);apply l;clear l;simp only [List.drop_succ_cons,List.drop_zero];refine Ag 8 fun _ l=>?_;push_cast [hb16,hb18,hb19,hb24,hb25,hb27];(repeat refine ao ?_);apply l;clear l;simp only [List.drop_succ_cons,List.drop_zero];refine Ag 8 fun _ l=>?_;push_cast [hb16,hb18,hb19,hb24,hb25,hb27];(repeat refine ao ?_);apply l;clear l;simp only [List.drop_succ_cons,List.drop_zero];push_cast [hb16,hb18,hb19,hb24,hb25,hb27];(repeat refine ao ?_);apply k;clear k;refine ar h hk14 ?_;exact sl (by push_cast [hb7,hb16,hb18,hb19,hb24,hb25,hb27])
          ·replace h:=Au hb27 h;rcases bt s_3.imm with hb28 | hb28
           ·replace h:=Ao hb28 h;refine vlG [some 36,some 37,some 38,some 39,some 40,some 41,some 42,some 43,some 44,some 45,some 46,some 47,some 48,some 49,some 50,some 51,some 52,some 53,some 54,some 55,some 56,some 57,some 58,some 59,some 60,some 61,some 62,some 63,some 64,some 65,some 66,some 67,some 68,some 69,some 70,some 71,some 72,some 73,some 74,some 75,some 4] fun _ k=>?_;refine Ag 8 fun _ l=>?_;push_cast [hb16,hb18,hb19,hb24,hb25,hb27,hb28];(repeat refine ao ?_);refine cp (Cs hr15) ?_;push_cast [hb16,hb18,hb19,hb24,hb25,hb27,hb28];(repeat refine ao ?_);apply l;clear l;simp only [List.drop_succ_cons,List.drop_zero];refine Ag 8 fun _ l=>?_;push_cast [hb16,hb18,hb19,hb24,hb25,hb27,hb28];(repeat refine ao ?_);refine cp (Cs hr17) ?_;push_cast [hb16,hb18,hb19,hb24,hb25,hb27,hb28];(repeat refine ao ?_);apply l;clear l;simp only [List.drop_succ_cons,List.drop_zero];refine Ag 8 fun _ l=>?_;push_cast [hb16,hb18,hb19,hb24,hb25,hb27,hb28];(repeat refine ao ?_);apply l;clear l;simp only [List.drop_succ_cons,List.drop_zero];refine Ag 8 fun _ l=>?_;push_cast [hb16,hb18,hb19,hb24,hb25,hb27,hb28];(repeat refine ao ?_);apply l;clear l;simp only [List.drop_succ_cons,List.drop_zero];push_cast [hb16,hb18,hb19,hb24,hb25,hb27,hb28];(repeat refine ao ?_);apply k;clear k;refine ar h hk14 ?_;exact sl (by push_cast [hb7,hb16,hb18,hb19,hb24,hb25,hb27,hb28])
           ·replace h:=Au hb28 h;refine vlG [some 36,some 37,some 38,some 39,some 40,some 41,some 42,some 43,some 44,some 45,some 46,some 47,some 48,some 49,some 50,some 51,some 52,some 53,some 54,some 55,some 56,some 57,some 58,some 59,some 60,some 61,some 62,some 63,some 64,some 65,some 66,some 67,some 68,some 69,some 70,some 71,some 72,some 73,some 74,some 75,some 4] fun _ k=>?_;refine Ag 8 fun _ l=>?_;push_cast [hb16,hb18,hb19,hb24,hb25,hb27,hb28];(repeat refine ao ?_);refine cp (Cs hr15) ?_;push_cast [hb16,hb18,hb19,hb24,hb25,hb27,hb28];(repeat refine ao ?_);apply l;clear l;simp only [List.drop_succ_cons,List.drop_zero];refine Ag 8 fun _ l=>?_;push_cast [hb16,hb18,hb19,hb24,hb25,hb27,hb28];(repeat refine ao ?_);refine cp (Cs hr17) ?_;push_cast [hb16,hb18,hb19,hb24,hb25,hb27,hb28];(repeat refine ao ?_);apply l;clear l;simp only [List.drop_succ_cons,List.drop_zero];refine Ag 8 fun _ l=>?_;push_cast [hb16,hb18,hb19,hb24,hb25,hb27,hb28];(repeat refine ao ?_);apply l;clear l;simp only [List.drop_succ_cons,List.drop_zero];refine Ag 8 fun _ l=>?_;push_cast [hb16,hb18,hb19,hb24,hb25,hb27,hb28];(repeat refine ao ?_);apply l;clear l;simp only [List.drop_succ_cons,List.drop_zero];push_cast [hb16,hb18,hb19,hb24,hb25,hb27,hb28];(repeat refine ao ?_);apply k;clear k;refine ar h hk14 ?_;exact sl (by push_cast [hb7,hb16,hb18,hb19,hb24,hb25,hb27,hb28])
        ·replace h:=Au hb24 h;refine vlG [some 36,some 37,some 38,some 39,some 40,some 41,some 42,some 43,some 44,some 45,some 46,some 47,some 48,some 49,some 50,some 51,some 52,some 53,some 54,some 55,some 56,some 57,some 58,some 59,some 60,some 61,some 62,some 63,some 64,some 65,some 66,some 67,some 68,some 69,some 70,some 71,some 72,some 73,some 74,some 75,some 4] fun _ k=>?_;refine Ag 8 fun _ l=>?_;push_cast [hb16,hb18,hb19,hb24];(repeat refine ao ?_);refine cp (Cs hr15) ?_;push_cast [hb16,hb18,hb19,hb24];(repeat refine ao ?_);apply l;clear l;simp only [List.drop_succ_cons,List.drop_zero];refine Ag 8 fun _ l=>?_;push_cast [hb16,hb18,hb19,hb24];(repeat refine ao ?_);refine cp (Cs hr17) ?_;push_cast [hb16,hb18,hb19,hb24];(repeat refine ao ?_);apply l;clear l;simp only [List.drop_succ_cons,List.drop_zero];refine Ag 8 fun _ l=>?_;push_cast [hb16,hb18,hb19,hb24];(repeat refine ao ?_);apply l;clear l;simp only [List.drop_succ_cons,List.drop_zero];refine Ag 8 fun _ l=>?_;push_cast [hb16,hb18,hb19,hb24];(repeat refine ao ?_);apply l;clear l;simp only [List.drop_succ_cons,List.drop_zero];push_cast [hb16,hb18,hb19,hb24];(repeat refine ao ?_);apply k;clear k;refine ar h hk14 ?_;exact sl (by push_cast [hb7,hb16,hb18,hb19,hb24])
      ·replace h:=Au hb18 h;refine vlG [some 36,some 37,some 38,some 39,some 40,some 41,some 42,some 43,some 44,some 45,some 46,some 47,some 48,some 49,some 50,some 51,some 52,some 53,some 54,some 55,some 56,some 57,some 58,some 59,some 60,some 61,some 62,some 63,some 64,some 65,some 66,some 67,some 68,some 69,some 70,some 71,some 72,some 73,some 74,some 75,some 4] fun _ k=>?_;refine Ag 8 fun _ l=>?_;push_cast [hb16,hb18];(repeat refine ao ?_);refine cp (Cs hr15) ?_;push_cast [hb16,hb18];(repeat refine ao ?_);apply l;clear l;simp only [List.drop_succ_cons,List.drop_zero];refine Ag 8 fun _ l=>?_;push_cast [hb16,hb18];(repeat refine ao ?_);refine cp (Cs hr17) ?_;push_cast [hb16,hb18];(repeat refine ao ?_);apply l;clear l;simp only [List.drop_succ_cons,List.drop_zero];refine Ag 8 fun _ l=>?_;push_cast [hb16,hb18];(repeat refine ao ?_);apply l;clear l;simp only [List.drop_succ_cons,List.drop_zero];refine Ag 8 fun _ l=>?_;push_cast [hb16,hb18];(repeat refine ao ?_);apply l;clear l;simp only [List.drop_succ_cons,List.drop_zero];push_cast [hb16,hb18];(repeat refine ao ?_);apply k;clear k;refine ar h hk14 ?_;exact sl (by push_cast [hb7,hb16,hb18])
     ·replace h:=Au hb16 h;refine vlG [some 36,some 37,some 38,some 39,some 40,some 41,some 42,some 43,some 44,some 45,some 46,some 47,some 48,some 49,some 50,some 51,some 52,some 53,some 54,some 55,some 56,some 57,some 58,some 59,some 60,some 61,some 62,some 63,some 64,some 65,some 66,some 67,some 68,some 69,some 70,some 71,some 72,some 73,some 74,some 75,some 4] fun _ k=>?_;refine Ag 8 fun _ l=>?_;push_cast [hb16];(repeat refine ao ?_);refine cp (Cs hr15) ?_;push_cast [hb16];(repeat refine ao ?_);apply l;clear l;simp only [List.drop_succ_cons,List.drop_zero];refine Ag 8 fun _ l=>?_;push_cast [hb16];(repeat refine ao ?_);apply l;clear l;simp only [List.drop_succ_cons,List.drop_zero];refine Ag 8 fun _ l=>?_;push_cast [hb16];(repeat refine ao ?_);apply l;clear l;simp only [List.drop_succ_cons,List.drop_zero];refine Ag 8 fun _ l=>?_;push_cast [hb16];(repeat refine ao ?_);apply l;clear l;simp only [List.drop_succ_cons,List.drop_zero];push_cast [hb16];(repeat refine ao ?_);apply k;clear k;refine ar h hk14 ?_;exact sl (by push_cast [hb7,hb16])
    ·rintro i_4 (h : Mj a0 i_4 = some r);(try push_cast);unfold Mj at h;refine VC.seq ?_;refine vs [1,4,77] fun _ k=>?_;push_cast;apply k;clear k;refine vc h (fun hb29 h=>?_) (fun hb29 h=>?_)
     ·refine vj h (fun x=>⟨[(2,rb x)],[],88,90,0⟩) (fun v30 h hk30=>?_) ?_
      ·rcases bt i_4 with hb31 | hb31
       ·replace h:=Ao hb31 h;refine vlG [some 78,some 79,some 80,some 81,some 82,some 83,some 2] fun _ k=>?_;push_cast [hb31];(repeat refine ao ?_);apply k;clear k;refine ar h hk30 ?_;exact sl (by push_cast [hb7,hb29,hb31])
       ·replace h:=Au hb31 h;refine vlG [some 78,some 79,some 80,some 81,some 82,some 83,some 2] fun _ k=>?_;push_cast [hb31];(repeat refine ao ?_);apply k;clear k;refine ar h hk30 ?_;exact sl (by push_cast [hb7,hb29,hb31])
      ·rintro i_5 (h : Ru i_5 = some r);(try push_cast);unfold Ru at h;refine VC.ret ?_;replace h:=Option.some.inj h;subst h;exact en (by push_cast [hb7,hb29])
     ·refine VC.skip ?_;refine vj h (fun x=>⟨[(2,rb x)],[],88,90,0⟩) (fun v32 h hk32=>?_) ?_
      ·rcases bt i_4 with hb33 | hb33
       ·replace h:=Ao hb33 h;refine vlG [some 84,some 85,some 86,some 87,some 88,some 89,some 2] fun _ k=>?_;push_cast [hb33];(repeat refine ao ?_);apply k;clear k;refine ar h hk32 ?_;exact sl (by push_cast [hb7,hb29,hb33])
       ·replace h:=Au hb33 h;refine vlG [some 84,some 85,some 86,some 87,some 88,some 89,some 2] fun _ k=>?_;push_cast [hb33];(repeat refine ao ?_);apply k;clear k;refine ar h hk32 ?_;exact sl (by push_cast [hb7,hb29,hb33])
      ·rintro i_6 (h : Sc i_6 = some r);(try push_cast);unfold Sc at h;refine VC.ret ?_;replace h:=Option.some.inj h;subst h;exact en (by push_cast [hb7,hb29])
noncomputable def So (a0 : Am) : Option (Bool):=
  po (Jy a0) fun r1=>
  some (!r1)
theorem Fb0 {a0 : Am} {r : Bool} (h : So a0 = some r) : Ctr prog 146 [.agg (Aw a0)] [] (rb r) []:=by
 unfold So at h;refine Ctr.ofW Ba func146 rfl call146 0 _ ntmps146 [.tmp 2] rfl rfl rfl (fun B=>?_);refine vs [1] fun _ k=>?_;push_cast;apply k;clear k;obtain ⟨r1,hr1,h⟩:=Aa h;refine vs [2] fun _ k=>?_;push_cast;refine cp (Zs hr1) ?_;push_cast;apply k;clear k;refine VC.ret ?_;replace h:=Option.some.inj h;subst h;exact en (by push_cast)
noncomputable def Bl (a0 : (List Am)) (i_1 : Int) : Option ((Int) ⊕ ((Unit) ⊕ (Int))):=
  cond (decide (i_1 < (a0.length : Int))) (
  po (idx a0 i_1) fun x4=>
  po (So x4) fun r5=>
  cond r5 (
  some (Sum.inr (Sum.inr i_1))) (
  some (Sum.inl (IntKind.i64.wrap (i_1 + 1))))) (
  some (Sum.inr (Sum.inl ())))
noncomputable def Ca : Option (Int):=
  some (-1)
noncomputable def Ce (a0 : (List Am)) : Option (Int):=
  pm (
  lpU (fun x=>Bl a0 x) 0) (fun x=>Ca)
theorem Mq {a0 : (List Am)} {r : Int} (h : Ce a0 = some r) : Ctr prog 192 [.sl false (a0.map Aw),.fn (.func 146) [] []] [] (ri r) []:=by
 unfold Ce at h;refine Ctr.ofW Ba func192 rfl call192 0 _ ntmps192 [.tmp 4] rfl rfl rfl (fun B=>?_);refine vs [0,1] fun _ k=>?_;push_cast;apply k;clear k;refine vm h (fun x=>⟨[],[],16,19,0⟩) (fun v1 h hk1=>?_) ?_
 ·refine vs [0,1,7,8] fun _ k=>?_;push_cast;apply k;clear k;refine VC.block ?_;refine VC.loopP h (fun x=>⟨[(0,.sl false (a0.map Aw)),(1,.fn (.func 146) [] []),(7,ri (a0.length : Int)),(8,ri x)],[],15,19,0⟩) ?_ ?_
  ·exact sl (by push_cast)
  rintro i_1 b2 (h : Bl a0 i_1 = some b2) hf2;(try push_cast);unfold Bl at h;refine vs [0,1,7,8,9] fun _ k=>?_;push_cast;apply k;clear k;refine VC.seq ?_;refine vc h (fun hb3 h=>?_) (fun hb3 h=>?_)
  ·refine VC.skip ?_;refine VC.seq ?_;refine VC.block ?_;refine vs [0,1,5,7,8] fun _ k=>?_;push_cast;apply k;clear k;obtain ⟨x4,hx4,h⟩:=Aa h;replace hx4:=Bh hx4;obtain ⟨r5,hr5,h⟩:=Aa h;refine vs [0,1,5,7,8,16] fun _ k=>?_;push_cast [hx4];(repeat refine ao ?_);refine cp (Fb0 hr5) ?_;push_cast [hx4];(repeat refine ao ?_);apply k;clear k;refine vc h (fun hb6 h=>?_) (fun hb6 h=>?_)
   ·refine vs [4] fun _ k=>?_;push_cast;apply k;clear k;refine VC.ret ?_;replace h:=ol h hf2;replace h:=om h hk1;replace h:=Option.some.inj h;subst h;exact en (by push_cast [hb3,hb6])
   ·refine VC.skip ?_;refine vl fun _ k=>?_;push_cast;apply k;clear k;refine bk h ?_;exact sl (by push_cast [hb3,hb6])
  ·refine VC.exit ?_;replace h:=ol h hf2;refine am h hk1 ?_;exact sl (by push_cast [hb3])
 ·rintro ⟨⟩ (h : Ca = some r);(try push_cast);unfold Ca at h;refine vs [4] fun _ k=>?_;push_cast;apply k;clear k;refine VC.ret ?_;replace h:=Option.some.inj h;subst h;exact en (by push_cast)
noncomputable def Bn (a0 : (List Am)) : Option (Bool):=
  po (Ce a0) fun r1=>
  some (decide (r1 ≥ 0))
theorem Ln {a0 : (List Am)} {r : Bool} (h : Bn a0 = some r) : Ctr prog 147 [.sl false (a0.map Aw),.fn (.func 146) [] []] [] (rb r) []:=by
 unfold Bn at h;refine Ctr.ofW Ba func147 rfl call147 0 _ ntmps147 [.tmp 4] rfl rfl rfl (fun B=>?_);refine vs [0,1] fun _ k=>?_;push_cast;apply k;clear k;obtain ⟨r1,hr1,h⟩:=Aa h;refine vs [4] fun _ k=>?_;push_cast;refine cp (Mq hr1) ?_;push_cast;apply k;clear k;refine VC.ret ?_;replace h:=Option.some.inj h;subst h;exact en (by push_cast)
noncomputable def Oz (i_1 : Bool) : Option (Bool):=
  some i_1
noncomputable def Lv (a0 : Cv) : Option (Bool):=
  po (
  cond (decide (a0.Args ≥ 0)) (
  cond (decide (a0.Args ≤ 4)) (
  cond (decide ((a0.Code.length : Int) > 0)) (
  cond (decide ((a0.Code.length : Int) ≤ 64)) (
  po (Bn a0.Code) fun r6=>
  some (!r6)) (
  some false)) (
  some false)) (
  some false)) (
  some false)) (fun x=>Oz x)
theorem Hg0 {a0 : Cv} {r : Bool} (h : Lv a0 = some r) : Ctr prog 106 [.agg (Al a0)] [] (rb r) []:=by
 unfold Lv at h;refine Ctr.ofW Ba func106 rfl call106 0 _ ntmps106 [.tmp 2] rfl rfl rfl (fun B=>?_);refine vs [1] fun _ k=>?_;push_cast;apply k;clear k;refine vs [1,3] fun _ k=>?_;push_cast;apply k;clear k;refine vj h (fun x=>⟨[(2,rb x)],[],31,31,0⟩) (fun v1 h hk1=>?_) ?_
 ·rcases bt (decide (a0.Args ≥ 0)) with hb2 | hb2
  ·replace h:=Ao hb2 h;rcases bt (decide (a0.Args ≤ 4)) with hb3 | hb3
   ·replace h:=Ao hb3 h;rcases bt (decide ((a0.Code.length : Int) > 0)) with hb4 | hb4
    ·replace h:=Ao hb4 h;rcases bt (decide ((a0.Code.length : Int) ≤ 64)) with hb5 | hb5
     ·replace h:=Ao hb5 h;obtain ⟨r6,hr6,h⟩:=Aa h;refine vlG [some 4,some 5,some 6,some 7,some 8,some 9,some 10,some 11,some 12,some 13,some 14,some 15,some 16,some 17,some 18,some 19,some 20,some 21,some 22,some 23,some 24,some 25,some 26,some 27,some 28,some 29,some 30,some 2] fun _ k=>?_;refine Ag 8 fun _ l=>?_;push_cast [hb2,hb3,hb4,hb5];(repeat refine ao ?_);apply l;clear l;simp only [List.drop_succ_cons,List.drop_zero];refine Ag 8 fun _ l=>?_;push_cast [hb2,hb3,hb4,hb5];(repeat refine ao ?_);apply l;clear l;simp only [List.drop_succ_cons,List.drop_zero];refine Ag 8 fun _ l=>?_;push_cast [hb2,hb3,hb4,hb5];(repeat refine ao ?_);apply l;clear l;simp only [List.drop_succ_cons,List.drop_zero];push_cast [hb2,hb3,hb4,hb5];(repeat refine ao ?_);refine cp (Ln hr6) ?_;push_cast [hb2,hb3,hb4,hb5];(repeat refine ao ?_);apply k;clear k;refine ar h hk1 ?_;exact sl (by push_cast [hb2,hb3,hb4,hb5])
     ·replace h:=Au hb5 h;refine vlG [some 4,some 5,some 6,some 7,some 8,some 9,some 10,some 11,some 12,some 13,some 14,some 15,some 16,some 17,some 18,some 19,some 20,some 21,some 22,some 23,some 24,some 25,some 26,some 27,some 28,some 29,some 30,some 2] fun _ k=>?_;refine Ag 8 fun _ l=>?_;push_cast [hb2,hb3,hb4,hb5];(repeat refine ao ?_);apply l;clear l;simp only [List.drop_succ_cons,List.drop_zero];refine Ag 8 fun _ l=>?_;push_cast [hb2,hb3,hb4,hb5];(repeat refine ao ?_);apply l;clear l;simp only [List.drop_succ_cons,List.drop_zero];refine Ag 8 fun _ l=>?_;push_cast [hb2,hb3,hb4,hb5];(repeat refine ao ?_);apply l;clear l;simp only [List.drop_succ_cons,List.drop_zero];push_cast [hb2,hb3,hb4,hb5];(repeat refine ao ?_);apply k;clear k;refine ar h hk1 ?_;exact sl (by push_cast [hb2,hb3,hb4,hb5])
    ·replace h:=Au hb4 h;refine vlG [some 4,some 5,some 6,some 7,some 8,some 9,some 10,some 11,some 12,some 13,some 14,some 15,some 16,some 17,some 18,some 19,some 20,some 21,some 22,some 23,some 24,some 25,some 26,some 27,some 28,some 29,some 30,some 2] fun _ k=>?_;refine Ag 8 fun _ l=>?_;push_cast [hb2,hb3,hb4];(repeat refine ao ?_);apply l;clear l;simp only [List.drop_succ_cons,List.drop_zero];refine Ag 8 fun _ l=>?_;push_cast [hb2,hb3,hb4];(repeat refine ao ?_);apply l;clear l;simp only [List.drop_succ_cons,List.drop_zero];refine Ag 8 fun _ l=>?_;push_cast [hb2,hb3,hb4];(repeat refine ao ?_);apply l;clear l;simp only [List.drop_succ_cons,List.drop_zero];push_cast [hb2,hb3,hb4];(repeat refine ao ?_);apply k;clear k;refine ar h hk1 ?_;exact sl (by push_cast [hb2,hb3,hb4])
   ·replace h:=Au hb3 h;refine vlG [some 4,some 5,some 6,some 7,some 8,some 9,some 10,some 11,some 12,some 13,some 14,some 15,some 16,some 17,some 18,some 19,some 20,some 21,some 22,some 23,some 24,some 25,some 26,some 27,some 28,some 29,some 30,some 2] fun _ k=>?_;refine Ag 8 fun _ l=>?_;push_cast [hb2,hb3];(repeat refine ao ?_);apply l;clear l;simp only [List.drop_succ_cons,List.drop_zero];refine Ag 8 fun _ l=>?_;push_cast [hb2,hb3];(repeat refine ao ?_);apply l;clear l;simp only [List.drop_succ_cons,List.drop_zero];refine Ag 8 fun _ l=>?_;push_cast [hb2,hb3];(repeat refine ao ?_);apply l;clear l;simp only [List.drop_succ_cons,List.drop_zero];push_cast [hb2,hb3];(repeat refine ao ?_);apply k;clear k;refine ar h hk1 ?_;exact sl (by push_cast [hb2,hb3])
  ·replace h:=Au hb2 h;refine vlG [some 4,some 5,some 6,some 7,some 8,some 9,some 10,some 11,some 12,some 13,some 14,some 15,some 16,some 17,some 18,some 19,some 20,some 21,some 22,some 23,some 24,some 25,some 26,some 27,some 28,some 29,some 30,some 2] fun _ k=>?_;refine Ag 8 fun _ l=>?_;push_cast [hb2];(repeat refine ao ?_);apply l;clear l;simp only [List.drop_succ_cons,List.drop_zero];refine Ag 8 fun _ l=>?_;push_cast [hb2];(repeat refine ao ?_);apply l;clear l;simp only [List.drop_succ_cons,List.drop_zero];refine Ag 8 fun _ l=>?_;push_cast [hb2];(repeat refine ao ?_);apply l;clear l;simp only [List.drop_succ_cons,List.drop_zero];push_cast [hb2];(repeat refine ao ?_);apply k;clear k;refine ar h hk1 ?_;exact sl (by push_cast [hb2])
 ·rintro i_1 (h : Oz i_1 = some r);(try push_cast);unfold Oz at h;refine VC.ret ?_;replace h:=Option.some.inj h;subst h;exact en (by push_cast)
noncomputable def Ox (a0 : Cv) : Option (Bool):=
  po (Lv a0) fun r1=>
  some (!r1)
theorem Gd0 {a0 : Cv} {r : Bool} (h : Ox a0 = some r) : Ctr prog 105 [.agg (Al a0)] [] (rb r) []:=by
 unfold Ox at h;refine Ctr.ofW Ba func105 rfl call105 0 _ ntmps105 [.tmp 2] rfl rfl rfl (fun B=>?_);refine vs [1] fun _ k=>?_;push_cast;apply k;clear k;obtain ⟨r1,hr1,h⟩:=Aa h;refine vs [2] fun _ k=>?_;push_cast;refine cp (Hg0 hr1) ?_;push_cast;apply k;clear k;refine VC.ret ?_;replace h:=Option.some.inj h;subst h;exact en (by push_cast)
noncomputable def Bj (a0 : (List Cv)) (i_1 : Int) : Option ((Int) ⊕ ((Unit) ⊕ (Int))):=
  cond (decide (i_1 < (a0.length : Int))) (
  po (idx a0 i_1) fun x4=>
  po (Ox x4) fun r5=>
  cond r5 (
  some (Sum.inr (Sum.inr i_1))) (
  some (Sum.inl (IntKind.i64.wrap (i_1 + 1))))) (
  some (Sum.inr (Sum.inl ())))
noncomputable def Cj : Option (Int):=
  some (-1)
noncomputable def Cp (a0 : (List Cv)) : Option (Int):=
  pm (
  lpU (fun x=>Bj a0 x) 0) (fun x=>Cj)
theorem Og {a0 : (List Cv)} {r : Int} (h : Cp a0 = some r) : Ctr prog 145 [.sl false (a0.map Al),.fn (.func 105) [] []] [] (ri r) []:=by
 unfold Cp at h;refine Ctr.ofW Ba func145 rfl call145 0 _ ntmps145 [.tmp 4] rfl rfl rfl (fun B=>?_);refine vs [0,1] fun _ k=>?_;push_cast;apply k;clear k;refine vm h (fun x=>⟨[],[],16,19,0⟩) (fun v1 h hk1=>?_) ?_
 ·refine vs [0,1,7,8] fun _ k=>?_;push_cast;apply k;clear k;refine VC.block ?_;refine VC.loopP h (fun x=>⟨[(0,.sl false (a0.map Al)),(1,.fn (.func 105) [] []),(7,ri (a0.length : Int)),(8,ri x)],[],15,19,0⟩) ?_ ?_
  ·exact sl (by push_cast)
  rintro i_1 b2 (h : Bj a0 i_1 = some b2) hf2;(try push_cast);unfold Bj at h;refine vs [0,1,7,8,9] fun _ k=>?_;push_cast;apply k;clear k;refine VC.seq ?_;refine vc h (fun hb3 h=>?_) (fun hb3 h=>?_)
  ·refine VC.skip ?_;refine VC.seq ?_;refine VC.block ?_;refine vs [0,1,5,7,8] fun _ k=>?_;push_cast;apply k;clear k;obtain ⟨x4,hx4,h⟩:=Aa h;replace hx4:=Bh hx4;obtain ⟨r5,hr5,h⟩:=Aa h;refine vs [0,1,5,7,8,16] fun _ k=>?_;push_cast [hx4];(repeat refine ao ?_);refine cp (Gd0 hr5) ?_;push_cast [hx4];(repeat refine ao ?_);apply k;clear k;refine vc h (fun hb6 h=>?_) (fun hb6 h=>?_)
   ·refine vs [4] fun _ k=>?_;push_cast;apply k;clear k;refine VC.ret ?_;replace h:=ol h hf2;replace h:=om h hk1;replace h:=Option.some.inj h;subst h;exact en (by push_cast [hb3,hb6])
   ·refine VC.skip ?_;refine vl fun _ k=>?_;push_cast;apply k;clear k;refine bk h ?_;exact sl (by push_cast [hb3,hb6])
  ·refine VC.exit ?_;replace h:=ol h hf2;refine am h hk1 ?_;exact sl (by push_cast [hb3])
 ·rintro ⟨⟩ (h : Cj = some r);(try push_cast);unfold Cj at h;refine vs [4] fun _ k=>?_;push_cast;apply k;clear k;refine VC.ret ?_;replace h:=Option.some.inj h;subst h;exact en (by push_cast)
noncomputable def Bw (a0 : (List Cv)) : Option (Bool):=
  po (Cp a0) fun r1=>
  some (decide (r1 ≥ 0))
theorem Ng {a0 : (List Cv)} {r : Bool} (h : Bw a0 = some r) : Ctr prog 104 [.sl false (a0.map Al),.fn (.func 105) [] []] [] (rb r) []:=by
 unfold Bw at h;refine Ctr.ofW Ba func104 rfl call104 0 _ ntmps104 [.tmp 4] rfl rfl rfl (fun B=>?_);refine vs [0,1] fun _ k=>?_;push_cast;apply k;clear k;obtain ⟨r1,hr1,h⟩:=Aa h;refine vs [4] fun _ k=>?_;push_cast;refine cp (Og hr1) ?_;push_cast;apply k;clear k;refine VC.ret ?_;replace h:=Option.some.inj h;subst h;exact en (by push_cast)
noncomputable def Jg (a0 : Aq) (i_1 : Bool) : Option (Bool):=
  cond i_1 (
  some false) (
  po (Bw a0.Fns) fun r6=>
  some (!r6))
noncomputable def Iv (a0 : Aq) : Option (Bool):=
  po (
  cond ((a0.Fns.length : Int) == 0) (
  some true) (
  cond (decide ((a0.Fns.length : Int) > 8)) (
  some true) (
  po (a0.Fns[0]?) fun x4=>
  some (x4.Args != 0)))) (fun x=>Jg a0 x)
theorem Ag0 {a0 : Aq} {r : Bool} (h : Iv a0 = some r) : Ctr prog 67 [.agg (Ez a0)] [] (rb r) []:=by
 unfold Iv at h;refine Ctr.ofW Ba func67 rfl call67 0 _ ntmps67 [.tmp 2] rfl rfl rfl (fun B=>?_);refine vs [1] fun _ k=>?_;push_cast;apply k;clear k;refine VC.seq ?_;refine vj h (fun x=>⟨[(1,.ref 0 0),(20,rb x)],[(0,.box 56 [.sl false (a0.Fns.map Al)])],20,25,0⟩) (fun v1 h hk1=>?_) ?_
 ·rcases bt ((a0.Fns.length : Int) == 0) with hb2 | hb2
  ·replace h:=Ao hb2 h;refine vlG [some 3,some 4,some 5,some 6,some 7,some 8,some 9,some 10,some 11,some 12,some 13,some 14,some 15,some 16,some 17,some 18,some 19,some 20] fun _ k=>?_;refine Ag 8 fun _ l=>?_;push_cast [hb2];(repeat refine ao ?_);apply l;clear l;simp only [List.drop_succ_cons,List.drop_zero];push_cast [hb2];(repeat refine ao ?_);apply k;clear k;refine ar h hk1 ?_;exact sl (by push_cast [hb2])
  ·replace h:=Au hb2 h;rcases bt (decide ((a0.Fns.length : Int) > 8)) with hb3 | hb3
   ·replace h:=Ao hb3 h;refine vlG [some 3,some 4,some 5,some 6,some 7,some 8,some 9,some 10,some 11,some 12,some 13,some 14,some 15,some 16,some 17,some 18,some 19,some 20] fun _ k=>?_;refine Ag 8 fun _ l=>?_;push_cast [hb2,hb3];(repeat refine ao ?_);apply l;clear l;simp only [List.drop_succ_cons,List.drop_zero];push_cast [hb2,hb3];(repeat refine ao ?_);apply k;clear k;refine ar h hk1 ?_;exact sl (by push_cast [hb2,hb3])
   ·replace h:=Au hb3 h;obtain ⟨x4,hx4,h⟩:=Aa h;replace hx4:=gL hx4;refine vlG [some 3,some 4,some 5,some 6,some 7,some 8,some 9,some 10,some 11,some 12,some 13,some 14,some 15,some 16,some 17,some 18,some 19,some 20] fun _ k=>?_;refine Ag 8 fun _ l=>?_;push_cast [hb2,hb3,hx4];(repeat refine ao ?_);apply l;clear l;simp only [List.drop_succ_cons,List.drop_zero];push_cast [hb2,hb3,hx4];(repeat refine ao ?_);apply k;clear k;refine ar h hk1 ?_;exact sl (by push_cast [hb2,hb3])
 ·rintro i_1 (h : Jg a0 i_1 = some r);(try push_cast);unfold Jg at h;refine vc h (fun hb5 h=>?_) (fun hb5 h=>?_)
  ·refine vs [2] fun _ k=>?_;push_cast;apply k;clear k;refine VC.ret ?_;replace h:=Option.some.inj h;subst h;exact en (by push_cast [hb5])
  ·refine VC.skip ?_;obtain ⟨r6,hr6,h⟩:=Aa h;refine vs [2] fun _ k=>?_;push_cast;refine cp (Ng hr6) ?_;push_cast;apply k;clear k;refine VC.ret ?_;replace h:=Option.some.inj h;subst h;exact en (by push_cast [hb5])
abbrev Fra:=Ad
abbrev Rn:=Ae
structure InstOk (i : Am) : Prop where
  op : 0 ≤ i.Op ∧ i.Op < 8
  dst : 0 ≤ i.Dst ∧ i.Dst < 8
  src : 0 ≤ i.Src ∧ i.Src < 8
  off : 0 ≤ i.Off ∧ i.Off ≤ 65535
  alu : i.Op = 0 → 0 ≤ i.Fn ∧ i.Fn < 11
  jmp : i.Op = 1 → 0 ≤ i.Fn ∧ i.Fn < 5
structure FnOk (f : Cv) : Prop where
  args : 0 ≤ f.Args ∧ f.Args ≤ 4
  len : 0 < f.Code.length ∧ f.Code.length ≤ 64
  code : ∀ i ∈ f.Code,InstOk i
structure ProgOk (p : Aq) : Prop where
  len : 0 < p.Fns.length ∧ p.Fns.length ≤ 8
  fns : ∀ f ∈ p.Fns,FnOk f
  main : ∀ f,p.Fns[0]? = some f → f.Args = 0
def inb (a b : Int) : Bool:=decide (0 ≤ a ∧ a < b)
theorem instIn_is (a b : Int) : Nx a b = some (inb a b):=by
  unfold Nx inb
  by_cases h : 0 ≤ a
  · simp [h,Rg]
  · simp [h,Rg]
theorem inb_true {a b : Int} (h : inb a b = true) : 0 ≤ a ∧ a < b:=of_decide_eq_true h
theorem instMay_tells (i : Am) : ∃ b,Jy i = some b ∧ (b = true → InstOk i):=by
  unfold Jy
  simp only [instIn_is,po_of]
  have no : Qe i true = some false:=rfl
  rcases bt (inb i.Op 8) with h1 | h1
  case inr=>exact ⟨false,by rw [h1]; exact no,fun h=>by cases h⟩
  rcases bt (inb i.Dst 8) with h2 | h2
  case inr=>exact ⟨false,by rw [h1,h2]; exact no,fun h=>by cases h⟩
  rcases bt (inb i.Src 8) with h3 | h3
  case inr=>exact ⟨false,by rw [h1,h2,h3]; exact no,fun h=>by cases h⟩
  rw [h1,h2,h3]
  simp only [cond_true,po_of,Bool.not_true,Qe,cond_false]
  have o:=inb_true h1
  have d:=inb_true h2
  have s:=inb_true h3
  simp only [Ul,po_of]
  rw [Ep o]
  -- the end
  have fin : ∀ b,∃ c,Mj i b = some c ∧ (c = true → b = true):=fun b=>by
    unfold Mj
    cases i.Reg <;> cases b
    all_goals simp only [cond_true,cond_false,po_of,Ru,Sc]
    all_goals exact ⟨_,rfl,by simp⟩
  have mid : ∀ r : Ck,0 ≤ r.off ∧ r.off ≤ 65535 → ∃ c,Pe i r = some c ∧ (c = true → (0 ≤ i.Fn ∧ i.Fn < r.fns) ∧ 0 ≤ i.Off ∧ i.Off ≤ 65535):=fun r hr=>by
    have key : ∀ X : Option Bool,(∃ b,X = some b ∧ (b = true → (0 ≤ i.Fn ∧ i.Fn < r.fns) ∧ 0 ≤ i.Off ∧ i.Off ≤ 65535)) → ∃ c,po X (fun x=>Mj i x) = some c ∧ (c = true → (0 ≤ i.Fn ∧ i.Fn < r.fns) ∧ 0 ≤ i.Off ∧ i.Off ≤ 65535):=fun X ⟨b,e,hb⟩=>by
      subst e
      obtain ⟨c,h4,h5⟩:=fin b
      exact ⟨c,h4,fun hc=>hb (h5 hc)⟩
    unfold Pe
    refine key _ ?_
    simp only [instIn_is,po_of]
    rcases bt (inb i.Fn r.fns) with h4 | h4
    case inr=>exact ⟨false,by rw [h4]; rfl,fun h=>by cases h⟩
    have hw : IntKind.i64.wrap (r.off + 1) = r.off + 1:=wrap_i64 (by omega) (by omega)
    rw [hw]
    rcases bt (inb i.Off (r.off + 1)) with h5 | h5
    case inr=>exact ⟨false,by rw [h4,h5]; rfl,fun h=>by cases h⟩
    rw [h4,h5]
    have h6:=inb_true h4
    have h7:=inb_true h5
    simp only [cond_true]
    have done : ∀ X : Option Bool,(∃ b,X = some b) → ∃ b,X = some b ∧ (b = true → (0 ≤ i.Fn ∧ i.Fn < r.fns) ∧ 0 ≤ i.Off ∧ i.Off ≤ 65535):=fun X ⟨b,e⟩=>⟨b,e,fun _=>⟨h6,by omega,by omega⟩⟩
    refine done _ ?_
    cases r.dst <;> cases r.word <;> cases r.imm <;> cases i.Reg <;> cases (i.Dst == 0)
    all_goals exact ⟨_,rfl⟩
  have hop : i.Op = 0 ∨ i.Op = 1 ∨ i.Op = 2 ∨ i.Op = 3 ∨ i.Op = 4 ∨ i.Op = 5 ∨ i.Op = 6 ∨ i.Op = 7:=by omega
  obtain ⟨r,hr,hro,hra,hrj⟩ : ∃ r : Ck,po (cond (i.Op == 1) (some (i.Fn == 0)) (some false)) (fun x=>Dy i (A8.mk (Ck.mk 11 true true 0 true) (Ck.mk 5 true true 65535 true) (Ck.mk 1 true true 0 true) (Ck.mk 1 true true 0 true) (Ck.mk 1 true true 0 true) (Ck.mk 1 false false 0 true) (Ck.mk 1 false false 0 true) (Ck.mk 1 false false 0 false)) x) = some r ∧ (0 ≤ r.off ∧ r.off ≤ 65535) ∧ (i.Op = 0 → r.fns = 11) ∧ (i.Op = 1 → r.fns = 5):=by
    rcases hop with q | q | q | q | q | q | q | q
    all_goals rw [q]
    case inr.inl=>
      cases hq : (i.Fn == 0)
      · exact ⟨⟨5,true,true,65535,true⟩,by simp only [show ((1 : Int) == 1) = true from rfl,cond_true,po_of,Dy,cond_false,q]; rfl,by decide,fun h=>absurd h (by decide),fun _=>rfl⟩
      · exact ⟨⟨5,false,false,65535,false⟩,by simp only [show ((1 : Int) == 1) = true from rfl,cond_true,po_of,Dy,q]; rfl,by decide,fun h=>absurd h (by decide),fun _=>rfl⟩
    case inl=>exact ⟨⟨11,true,true,0,true⟩,by simp only [show ((0 : Int) == 1) = false from rfl,cond_false,po_of,Dy,q]; rfl,by decide,fun _=>rfl,fun h=>absurd h (by decide)⟩
    case inr.inr.inl=>exact ⟨⟨1,true,true,0,true⟩,by simp only [show ((2 : Int) == 1) = false from rfl,cond_false,po_of,Dy,q]; rfl,by decide,fun h=>absurd h (by decide),fun h=>absurd h (by decide)⟩
    case inr.inr.inr.inl=>exact ⟨⟨1,true,true,0,true⟩,by simp only [show ((3 : Int) == 1) = false from rfl,cond_false,po_of,Dy,q]; rfl,by decide,fun h=>absurd h (by decide),fun h=>absurd h (by decide)⟩
    case inr.inr.inr.inr.inl=>exact ⟨⟨1,true,true,0,true⟩,by simp only [show ((4 : Int) == 1) = false from rfl,cond_false,po_of,Dy,q]; rfl,by decide,fun h=>absurd h (by decide),fun h=>absurd h (by decide)⟩
    case inr.inr.inr.inr.inr.inl=>exact ⟨⟨1,false,false,0,true⟩,by simp only [show ((5 : Int) == 1) = false from rfl,cond_false,po_of,Dy,q]; rfl,by decide,fun h=>absurd h (by decide),fun h=>absurd h (by decide)⟩
    case inr.inr.inr.inr.inr.inr.inl=>exact ⟨⟨1,false,false,0,true⟩,by simp only [show ((6 : Int) == 1) = false from rfl,cond_false,po_of,Dy,q]; rfl,by decide,fun h=>absurd h (by decide),fun h=>absurd h (by decide)⟩
    case inr.inr.inr.inr.inr.inr.inr=>exact ⟨⟨1,false,false,0,false⟩,by simp only [show ((7 : Int) == 1) = false from rfl,cond_false,po_of,Dy,q]; rfl,by decide,fun h=>absurd h (by decide),fun h=>absurd h (by decide)⟩
  rw [hr,po_of]
  obtain ⟨c,h4,h5⟩:=mid r hro
  refine ⟨c,h4,fun hc=>?_⟩
  obtain ⟨h6,h7⟩:=h5 hc
  exact ⟨o,d,s,h7,fun q=>by rw [hra q] at h6; exact h6,fun q=>by rw [hrj q] at h6; exact h6⟩
theorem index_any {α : Type} {l : List α} {q : α → Bool} {step : Int → Option (Int ⊕ (Unit ⊕ Int))} (hl : l.length ≤ 1048576)
    (hs : ∀ (n : Nat) (a : α),l[n]? = some a → step (n : Int) = some (if q a = true then .inr (.inr (n : Int)) else .inl ((n + 1 : Nat) : Int)))
    (he : step (l.length : Int) = some (.inr (.inl ()))) :
    ∃ r,lpU step 0 = some r ∧ ((r = .inl () ∧ ∀ a ∈ l,q a = false) ∨ ∃ n : Nat,r = .inr (n : Int)):=by
  refine lp_inv (fun s=>∃ n : Nat,s = (n : Int) ∧ n ≤ l.length ∧ ∀ (j : Nat) (a : α),j < n → l[j]? = some a → q a = false) (fun s=>((l.length : Int) - s).toNat) (fun (r : Unit ⊕ Int)=>(r = .inl () ∧ ∀ a ∈ l,q a = false) ∨ ∃ n : Nat,r = .inr (n : Int)) ?_ (0 : Int) ⟨0,rfl,Nat.zero_le _,fun j a hj=>by omega⟩
  rintro s ⟨n,rfl,h2,h3⟩
  by_cases hlt : n < l.length
  · have ha:=List.getElem?_eq_getElem hlt
    cases hq : q l[n] with
    | true=>exact .inr ⟨_,by rw [hs n _ ha,hq]; rfl,.inr ⟨n,rfl⟩⟩
    | false=>
      refine .inl ⟨_,by rw [hs n _ ha,hq]; rfl,⟨n + 1,rfl,by omega,fun j a hj hja=>?_⟩,by omega⟩
      rcases Nat.lt_or_ge j n with hjn | hjn
      · exact h3 j a hjn hja
      · have : j = n:=by omega
        subst this
        rw [ha] at hja
        injection hja with hja
        subst hja
        exact hq
  · have : n = l.length:=by omega
    subst this
    refine .inr ⟨_,he,.inl ⟨rfl,fun a ha=>?_⟩⟩
    obtain ⟨j,hj⟩:=List.mem_iff_getElem?.1 ha
    exact h3 j a (get_lt hj) hj
theorem fine_tells (f : Cv) : ∃ b,Lv f = some b ∧ (b = true → FnOk f):=by
  have fin : ∀ X : Option Bool,(∃ b,X = some b ∧ (b = true → FnOk f)) → ∃ b,po X (fun x=>Oz x) = some b ∧ (b = true → FnOk f):=fun X ⟨b,e,h⟩=>⟨b,by rw [e]; rfl,h⟩
  unfold Lv
  refine fin _ ?_
  by_cases h1 : f.Args ≥ 0
  case neg=>exact ⟨false,by rw [decide_eq_false h1]; rfl,fun h=>by cases h⟩
  by_cases h2 : f.Args ≤ 4
  case neg=>exact ⟨false,by rw [decide_eq_true h1,decide_eq_false h2]; rfl,fun h=>by cases h⟩
  by_cases h3 : (f.Code.length : Int) > 0
  case neg=>exact ⟨false,by rw [decide_eq_true h1,decide_eq_true h2,decide_eq_false h3]; rfl,fun h=>by cases h⟩
  by_cases h4 : (f.Code.length : Int) ≤ 64
  case neg=>exact ⟨false,by rw [decide_eq_true h1,decide_eq_true h2,decide_eq_true h3,decide_eq_false h4]; rfl,fun h=>by cases h⟩
  rw [decide_eq_true h1,decide_eq_true h2,decide_eq_true h3,decide_eq_true h4]
  simp only [cond_true]
  obtain ⟨r,hr,hq⟩:=index_any (l:=f.Code) (q:=fun i=>!((Jy i).getD false)) (step:=fun x=>Bl f.Code x) (by omega)
    (fun n i hi=>by
      obtain ⟨b,hb,_⟩:=instMay_tells i
      have hlt:=get_lt hi
      have hd : decide ((n : Int) < (f.Code.length : Int)) = true:=by simp; omega
      simp only [Bl,hd,cond_true,idx_nat,hi,po_of,So,hb,Option.getD_some,w64 (show n < 9223372036854775807 by omega)]
      cases b <;> rfl)
    (by
      have hd : decide ((f.Code.length : Int) < (f.Code.length : Int)) = false:=by simp
      simp only [Bl,hd,cond_false])
  have hI : Ce f.Code = pm (some r) (fun x=>Ca):=by
    rw [← hr]; rfl
  rcases hq with ⟨rfl,hall⟩ | ⟨n,rfl⟩
  · refine ⟨true,?_,fun _=>⟨⟨h1,h2⟩,⟨by omega,by omega⟩,fun i hi=>?_⟩⟩
    · simp only [Bn,hI,pm_inl,Ca,po_of]
      rfl
    · obtain ⟨b,hb,h5⟩:=instMay_tells i
      have:=hall i hi
      rw [hb] at this
      simp at this
      exact h5 this
  · refine ⟨false,?_,fun h=>by cases h⟩
    simp only [Bn,hI,pm_inr,po_of]
    rw [decide_eq_true (Int.natCast_nonneg n)]
    rfl
theorem progMay_tells (p : Aq) : ∃ b,Iv p = some b ∧ (b = true → ProgOk p):=by
  have no : Jg p true = some false:=rfl
  have fin : ∀ X : Option Bool,X = some true → ∃ b,po X (fun x=>Jg p x) = some b ∧ (b = true → ProgOk p):=fun X e=>⟨false,by rw [e]; exact no,fun h=>by cases h⟩
  unfold Iv
  by_cases h1 : (p.Fns.length : Int) = 0
  · have d : ((p.Fns.length : Int) == 0) = true:=by simpa using h1
    exact fin _ (by rw [d]; rfl)
  have d1 : ((p.Fns.length : Int) == 0) = false:=by simpa using h1
  by_cases h2 : (p.Fns.length : Int) > 8
  · exact fin _ (by rw [d1,decide_eq_true h2]; rfl)
  have d2:=decide_eq_false h2
  obtain ⟨f0,hf0⟩ : ∃ f,p.Fns[0]? = some f:=⟨_,List.getElem?_eq_getElem (by omega)⟩
  by_cases h3 : f0.Args = 0
  case neg=>
    have d : (f0.Args != 0) = true:=by simpa using h3
    exact fin _ (by rw [d1,d2,hf0]; simp only [cond_false,po_of,d])
  have d3 : (f0.Args != 0) = false:=by simpa using h3
  rw [d1,d2,hf0]
  simp only [cond_false,po_of,d3,Jg]
  obtain ⟨r,hr,hq⟩:=index_any (l:=p.Fns) (q:=fun f=>!((Lv f).getD false)) (step:=fun x=>Bj p.Fns x) (by omega)
    (fun n f hf=>by
      obtain ⟨b,hb,_⟩:=fine_tells f
      have hlt:=get_lt hf
      have hd : decide ((n : Int) < (p.Fns.length : Int)) = true:=by simp; omega
      simp only [Bj,hd,cond_true,idx_nat,hf,po_of,Ox,hb,Option.getD_some,w64 (show n < 9223372036854775807 by omega)]
      cases b <;> rfl)
    (by
      have hd : decide ((p.Fns.length : Int) < (p.Fns.length : Int)) = false:=by simp
      simp only [Bj,hd,cond_false])
  have hI : Cp p.Fns = pm (some r) (fun x=>Cj):=by
    rw [← hr]; rfl
  rcases hq with ⟨rfl,hall⟩ | ⟨n,rfl⟩
  · refine ⟨true,?_,fun _=>⟨⟨by omega,by omega⟩,fun f hf=>?_,fun f hf=>?_⟩⟩
    · simp only [Bw,hI,pm_inl,Cj,po_of]
      rfl
    · obtain ⟨b,hb,h5⟩:=fine_tells f
      have:=hall f hf
      rw [hb] at this
      simp at this
      exact h5 this
    · rw [hf0] at hf
      injection hf with hf
      subst hf
      exact h3
  · refine ⟨false,?_,fun h=>by cases h⟩
    simp only [Bw,hI,pm_inr,po_of]
    rw [decide_eq_true (Int.natCast_nonneg n)]
    rfl
noncomputable def Da (a0 : Ae) (a1 : Int) : Option (Ae):=
  cond (a0.err == 0) (
  some (Ae.mk a0.p a0.e a0.fuel a0.used a1)) (
  some a0)
theorem Et {a0 : Ae} {a1 : Int} {r : Ae} (h : Da a0 a1 = some r) : Ctr prog 204 [.ref 0 0,ri a1] [(0,.box 259 (Ah a0))] (.tup []) [(0,.box 259 (Ah r))]:=by
 unfold Da at h;refine Ctr.ofW Ba func204 rfl call204 1 _ ntmps204 [] rfl rfl rfl (fun B=>?_);refine vs [0,1,8] fun _ k=>?_;push_cast;apply k;clear k;refine vc h (fun hb1 h=>?_) (fun hb1 h=>?_)
 ·refine vl fun _ k=>?_;push_cast;apply k;clear k;replace h:=Option.some.inj h;subst h;exact eN (by push_cast [hb1])
 ·refine VC.skip ?_;replace h:=Option.some.inj h;subst h;exact eN (by push_cast [hb1])
noncomputable def Hw (a0 : Ad) (a1 : Int) (s_1 : Ae) : Option (UInt32 × Ad × Ae):=
  pg (0 ≤ a1 ∧ a1 < 8) <|
  some ((a0.regs.get a1.toNat),a0,s_1)
noncomputable def Dv (a0 : Ad) (a0_r : Ae) (a1 : Int) : Option (UInt32 × Ad × Ae):=
  po (
  pg (0 ≤ a1 ∧ a1 < 8) <|
  cond (!(a0.set.get a1.toNat)) (
  po (Da a0_r 10) fun r4=>
  some r4) (
  some a0_r)) (fun x=>Hw a0 a1 x)
theorem Hz {a0 : Ad} {a0_r : Ae} {a1 : Int} {r : UInt32 × Ad × Ae} (h : Dv a0 a0_r a1 = some r) : Ctr prog 224 [.ref 0 0,ri a1] [(0,.box 283 (Ab a0 (.ref 1 0))),(1,.box 259 (Ah a0_r))] (ru r.1) [(0,.box 283 (Ab r.2.1 (.ref 1 0))),(1,.box 259 (Ah r.2.2))]:=by
 unfold Dv at h;refine Ctr.ofW Ba func224 rfl call224 2 _ ntmps224 [.tmp 4] rfl rfl rfl (fun B=>?_);refine vs [0,1] fun _ k=>?_;push_cast;apply k;clear k;refine vj h (fun x=>⟨[(0,.ref 0 0),(1,ri a1)],[(0,.box 283 (Ab a0 (.ref 1 0))),(1,.box 259 (Ah x))],15,23,2⟩) (fun v1 h hk1=>?_) ?_
 ·obtain ⟨hg2,h⟩:=Bs h;have hg2n : a1.toNat < 8:=by omega
  refine vs [0,1,11] fun _ k=>?_;push_cast [hg2,hg2n];(repeat refine ao ?_);apply k;clear k;refine vc h (fun hb3 h=>?_) (fun hb3 h=>?_)
  ·obtain ⟨r4,hr4,h⟩:=Aa h;refine vl fun _ k=>?_;push_cast;refine ch (H:=[(1,.box 259 (Ah a0_r))]) (Ctr.loH (Ctr.ren (Bij.swp 0 1 Bij.id) (Et hr4) (by push_cast) (by push_cast))) (by push_cast) ?_;push_cast;apply k;clear k;refine ar h hk1 ?_;exact sl (by push_cast [hb3])
  ·refine VC.skip ?_;refine ar h hk1 ?_;exact sl (by push_cast [hb3])
 ·rintro s_1 (h : Hw a0 a1 s_1 = some r);(try push_cast);unfold Hw at h;obtain ⟨hg5,h⟩:=Bs h;have hg5n : a1.toNat < 8:=by omega
  refine vs [4] fun _ k=>?_;push_cast [hg5,hg5n];(repeat refine ao ?_);apply k;clear k;refine VC.ret ?_;replace h:=Option.some.inj h;subst h;exact en (by push_cast)
noncomputable def Ek (a0 : Ad) (a0_r : Ae) (a1 : Int) (a2 : UInt32) : Option (Ad × Ae):=
  pg (0 ≤ a1 ∧ a1 < 8) <|
  pl (a0.regs.set a1.toNat a2) fun y2=>
  pl (a0.set.set a1.toNat true) fun y3=>
  some ((Ad.mk a0.fn a0.at_ y2 y3 a0.stack a0.over),a0_r)
theorem Kl {a0 : Ad} {a0_r : Ae} {a1 : Int} {a2 : UInt32} {r : Ad × Ae} (h : Ek a0 a0_r a1 a2 = some r) : Ctr prog 197 [.ref 0 0,ri a1,ru a2] [(0,.box 283 (Ab a0 (.ref 1 0))),(1,.box 259 (Ah a0_r))] (.tup []) [(0,.box 283 (Ab r.1 (.ref 1 0))),(1,.box 259 (Ah r.2))]:=by
 unfold Ek at h;refine Ctr.ofW Ba func197 rfl call197 2 _ ntmps197 [] rfl rfl rfl (fun B=>?_);obtain ⟨hg1,h⟩:=Bs h;have hg1n : a1.toNat < 8:=by omega
 obtain ⟨y2,hy2,h⟩:=Bo h;obtain ⟨y3,hy3,h⟩:=Bo h;refine vlD [some 6,some 7,some 8,some 9,some 10,some 11,some 12,some 13,none,some 14,some 15,some 16,none] fun _ k=>?_;refine Ch 8 fun _ l=>?_;push_cast [hg1,hg1n];(repeat refine ao ?_);apply l;clear l;simp only [List.drop_succ_cons,List.drop_zero];push_cast [hg1,hg1n];(repeat refine ao ?_);refine ⟨rfl,k _ ?_⟩;clear k;replace h:=Option.some.inj h;subst h;exact eN (by push_cast [hy2,hy3])
noncomputable def Fl (a0 : Ad) (a0_r : Ae) (a1 : Am) : Option (UInt32 × Ad × Ae):=
  cond a1.Reg (
  po (Dv a0 a0_r a1.Src) fun r2=>
  some (r2.1,r2.2.1,r2.2.2)) (
  some (a1.Imm,a0,a0_r))
theorem Qn {a0 : Ad} {a0_r : Ae} {a1 : Am} {r : UInt32 × Ad × Ae} (h : Fl a0 a0_r a1 = some r) : Ctr prog 223 [.ref 0 0,.agg (Aw a1)] [(0,.box 283 (Ab a0 (.ref 1 0))),(1,.box 259 (Ah a0_r))] (ru r.1) [(0,.box 283 (Ab r.2.1 (.ref 1 0))),(1,.box 259 (Ah r.2.2))]:=by
 unfold Fl at h;refine Ctr.ofW Ba func223 rfl call223 2 _ ntmps223 [.tmp 4] rfl rfl rfl (fun B=>?_);refine vs [0,3] fun _ k=>?_;push_cast;apply k;clear k;refine VC.seq ?_;refine vs [0,3,6] fun _ k=>?_;push_cast;apply k;clear k;refine vc h (fun hb1 h=>?_) (fun hb1 h=>?_)
 ·obtain ⟨r2,hr2,h⟩:=Aa h;refine vs [4] fun _ k=>?_;push_cast;refine ch (H:=[(0,.box 283 (Ab a0 (.ref 1 0))),(1,.box 259 (Ah a0_r))]) (Ctr.loH (Ctr.ren Bij.id (Hz hr2) (by push_cast) (by push_cast))) (by push_cast) ?_;push_cast;apply k;clear k;refine VC.sub (s':=⟨[(4,ru r2.1)],[(0,.box 283 (Ab r2.2.1 (.ref 1 0))),(1,.box 259 (Ah r2.2.2))],11,13,2⟩) (so (by push_cast [hb1])) ?_;refine VC.ret ?_;replace h:=Option.some.inj h;subst h;exact en (by push_cast [hb1])
 ·refine VC.skip ?_;refine vs [4] fun _ k=>?_;push_cast;apply k;clear k;refine VC.ret ?_;replace h:=Option.some.inj h;subst h;exact en (by push_cast [hb1])
noncomputable def Wt (a0 : UInt32) (a1 : UInt32) : Option (UInt32):=
  some a1
theorem Ff0 {a0 : UInt32} {a1 : UInt32} {r : UInt32} (h : Wt a0 a1 = some r) : Ctr prog 154 [ru a0,ru a1] [] (ru r) []:=by
 unfold Wt at h;refine Ctr.ofW Ba func154 rfl call154 0 _ ntmps154 [.tmp 4] rfl rfl rfl (fun B=>?_);refine vs [1] fun _ k=>?_;push_cast;apply k;clear k;refine vs [4] fun _ k=>?_;push_cast;apply k;clear k;refine VC.ret ?_;replace h:=Option.some.inj h;subst h;exact en (by push_cast)
noncomputable def Vv (a0 : UInt32) (a1 : UInt32) : Option (UInt32):=
  some (shl32 a0 (Int.tmod (a1.toNat : Int) 32))
theorem Eu0 {a0 : UInt32} {a1 : UInt32} {r : UInt32} (h : Vv a0 a1 = some r) : Ctr prog 163 [ru a0,ru a1] [] (ru r) []:=by
 unfold Vv at h;refine Ctr.ofW Ba func163 rfl call163 0 _ ntmps163 [.tmp 4] rfl rfl rfl (fun B=>?_);refine vs [0,1] fun _ k=>?_;push_cast;apply k;clear k;refine vs [4] fun _ k=>?_;push_cast;apply k;clear k;refine VC.ret ?_;replace h:=Option.some.inj h;subst h;exact en (by push_cast)
noncomputable def Vt (a0 : UInt32) (a1 : UInt32) : Option (UInt32):=
  some (shr32 a0 (Int.tmod (a1.toNat : Int) 32))
theorem Et0 {a0 : UInt32} {a1 : UInt32} {r : UInt32} (h : Vt a0 a1 = some r) : Ctr prog 164 [ru a0,ru a1] [] (ru r) []:=by
 unfold Vt at h;refine Ctr.ofW Ba func164 rfl call164 0 _ ntmps164 [.tmp 4] rfl rfl rfl (fun B=>?_);refine vs [0,1] fun _ k=>?_;push_cast;apply k;clear k;refine vs [4] fun _ k=>?_;push_cast;apply k;clear k;refine VC.ret ?_;replace h:=Option.some.inj h;subst h;exact en (by push_cast)
noncomputable def Wp (a0 : UInt32) (a1 : UInt32) : Option (UInt32):=
  some (a0 + a1)
theorem Fl0 {a0 : UInt32} {a1 : UInt32} {r : UInt32} (h : Wp a0 a1 = some r) : Ctr prog 155 [ru a0,ru a1] [] (ru r) []:=by
 unfold Wp at h;refine Ctr.ofW Ba func155 rfl call155 0 _ ntmps155 [.tmp 4] rfl rfl rfl (fun B=>?_);refine vs [0,1] fun _ k=>?_;push_cast;apply k;clear k;refine vs [4] fun _ k=>?_;push_cast;apply k;clear k;refine VC.ret ?_;replace h:=Option.some.inj h;subst h;exact en (by push_cast)
noncomputable def Wu (a0 : UInt32) (a1 : UInt32) : Option (UInt32):=
  some (a0 - a1)
theorem Fr0 {a0 : UInt32} {a1 : UInt32} {r : UInt32} (h : Wu a0 a1 = some r) : Ctr prog 156 [ru a0,ru a1] [] (ru r) []:=by
 unfold Wu at h;refine Ctr.ofW Ba func156 rfl call156 0 _ ntmps156 [.tmp 4] rfl rfl rfl (fun B=>?_);refine vs [0,1] fun _ k=>?_;push_cast;apply k;clear k;refine vs [4] fun _ k=>?_;push_cast;apply k;clear k;refine VC.ret ?_;replace h:=Option.some.inj h;subst h;exact en (by push_cast)
noncomputable def Ww (a0 : UInt32) (a1 : UInt32) : Option (UInt32):=
  some (a0 * a1)
theorem Fp0 {a0 : UInt32} {a1 : UInt32} {r : UInt32} (h : Ww a0 a1 = some r) : Ctr prog 157 [ru a0,ru a1] [] (ru r) []:=by
 unfold Ww at h;refine Ctr.ofW Ba func157 rfl call157 0 _ ntmps157 [.tmp 4] rfl rfl rfl (fun B=>?_);refine vs [0,1] fun _ k=>?_;push_cast;apply k;clear k;refine vs [4] fun _ k=>?_;push_cast;apply k;clear k;refine VC.ret ?_;replace h:=Option.some.inj h;subst h;exact en (by push_cast)
noncomputable def Qj (a0 : UInt32) (a1 : UInt32) : Option (UInt32):=
  cond ((a1.toNat : Int) == 0) (
  some 0) (
  pg ((a1.toNat : Int) ≠ 0) <|
  some (a0 / a1))
theorem Fj0 {a0 : UInt32} {a1 : UInt32} {r : UInt32} (h : Qj a0 a1 = some r) : Ctr prog 158 [ru a0,ru a1] [] (ru r) []:=by
 unfold Qj at h;refine Ctr.ofW Ba func158 rfl call158 0 _ ntmps158 [.tmp 4] rfl rfl rfl (fun B=>?_);refine vs [0,1] fun _ k=>?_;push_cast;apply k;clear k;refine VC.seq ?_;refine vs [0,1,6] fun _ k=>?_;push_cast;apply k;clear k;refine vc h (fun hb1 h=>?_) (fun hb1 h=>?_)
 ·refine vs [4] fun _ k=>?_;push_cast;apply k;clear k;refine VC.ret ?_;replace h:=Option.some.inj h;subst h;exact en (by push_cast [hb1])
 ·refine VC.skip ?_;obtain ⟨hg2,h⟩:=Bs h;refine vs [4] fun _ k=>?_;push_cast [hg2];(repeat refine ao ?_);apply k;clear k;refine VC.ret ?_;replace h:=Option.some.inj h;subst h;exact en (by push_cast [hb1])
noncomputable def Qh (a0 : UInt32) (a1 : UInt32) : Option (UInt32):=
  cond ((a1.toNat : Int) == 0) (
  some a0) (
  pg ((a1.toNat : Int) ≠ 0) <|
  some (a0 % a1))
theorem Fo0 {a0 : UInt32} {a1 : UInt32} {r : UInt32} (h : Qh a0 a1 = some r) : Ctr prog 159 [ru a0,ru a1] [] (ru r) []:=by
 unfold Qh at h;refine Ctr.ofW Ba func159 rfl call159 0 _ ntmps159 [.tmp 4] rfl rfl rfl (fun B=>?_);refine vs [0,1] fun _ k=>?_;push_cast;apply k;clear k;refine VC.seq ?_;refine vs [0,1,6] fun _ k=>?_;push_cast;apply k;clear k;refine vc h (fun hb1 h=>?_) (fun hb1 h=>?_)
 ·refine vs [4] fun _ k=>?_;push_cast;apply k;clear k;refine VC.ret ?_;replace h:=Option.some.inj h;subst h;exact en (by push_cast [hb1])
 ·refine VC.skip ?_;obtain ⟨hg2,h⟩:=Bs h;refine vs [4] fun _ k=>?_;push_cast [hg2];(repeat refine ao ?_);apply k;clear k;refine VC.ret ?_;replace h:=Option.some.inj h;subst h;exact en (by push_cast [hb1])
noncomputable def Wq (a0 : UInt32) (a1 : UInt32) : Option (UInt32):=
  some (a0 &&& a1)
theorem Fk0 {a0 : UInt32} {a1 : UInt32} {r : UInt32} (h : Wq a0 a1 = some r) : Ctr prog 160 [ru a0,ru a1] [] (ru r) []:=by
 unfold Wq at h;refine Ctr.ofW Ba func160 rfl call160 0 _ ntmps160 [.tmp 4] rfl rfl rfl (fun B=>?_);refine vs [0,1] fun _ k=>?_;push_cast;apply k;clear k;refine vs [4] fun _ k=>?_;push_cast;apply k;clear k;refine VC.ret ?_;replace h:=Option.some.inj h;subst h;exact en (by push_cast)
noncomputable def Xa (a0 : UInt32) (a1 : UInt32) : Option (UInt32):=
  some (a0 ||| a1)
theorem Fd0 {a0 : UInt32} {a1 : UInt32} {r : UInt32} (h : Xa a0 a1 = some r) : Ctr prog 161 [ru a0,ru a1] [] (ru r) []:=by
 unfold Xa at h;refine Ctr.ofW Ba func161 rfl call161 0 _ ntmps161 [.tmp 4] rfl rfl rfl (fun B=>?_);refine vs [0,1] fun _ k=>?_;push_cast;apply k;clear k;refine vs [4] fun _ k=>?_;push_cast;apply k;clear k;refine VC.ret ?_;replace h:=Option.some.inj h;subst h;exact en (by push_cast)
noncomputable def Wy (a0 : UInt32) (a1 : UInt32) : Option (UInt32):=
  some (a0 ^^^ a1)
theorem Fi0 {a0 : UInt32} {a1 : UInt32} {r : UInt32} (h : Wy a0 a1 = some r) : Ctr prog 162 [ru a0,ru a1] [] (ru r) []:=by
 unfold Wy at h;refine Ctr.ofW Ba func162 rfl call162 0 _ ntmps162 [.tmp 4] rfl rfl rfl (fun B=>?_);refine vs [0,1] fun _ k=>?_;push_cast;apply k;clear k;refine vs [4] fun _ k=>?_;push_cast;apply k;clear k;refine VC.ret ?_;replace h:=Option.some.inj h;subst h;exact en (by push_cast)
noncomputable def Cw0 : Option (Unit):=
  some ()
theorem Ho {r : Unit} (h : Cw0 = some r) : Ctr prog 116 [] [] (.agg [.fn (.func 154) [] [],.fn (.func 155) [] [],.fn (.func 156) [] [],.fn (.func 157) [] [],.fn (.func 158) [] [],.fn (.func 159) [] [],.fn (.func 160) [] [],.fn (.func 161) [] [],.fn (.func 162) [] [],.fn (.func 163) [] [],.fn (.func 164) [] []]) []:=by
 unfold Cw0 at h;refine Ctr.ofW Ba func116 rfl call116 0 _ ntmps116 [.cell 0 197] rfl rfl rfl (fun B=>?_);refine vs [0] fun _ k=>?_;push_cast (maxSteps:=9000000) [-Ay];apply k;clear k;refine vs [0] fun _ k=>?_;refine Ag 8 fun _ l=>?_;push_cast (maxSteps:=9000000) [-Ay];apply l;clear l;simp only [List.drop_succ_cons,List.drop_zero];push_cast (maxSteps:=9000000) [-Ay];apply k;clear k;refine VC.ret ?_;replace h:=Option.some.inj h;subst h;exact en (by push_cast (maxSteps:=9000000) [-Ay])
noncomputable def Vx (a0 : Int) (a1 : UInt32) (a2 : UInt32) (i_1 : Bool) : Option (UInt32 × Bool):=
  cond i_1 (
  some (0,false)) (
  po (some ()) fun r5=>
  cond (a0 == 0) (
  po (Wt a1 a2) fun r7=>
  some (r7,true)) (
  cond (a0 == 1) (
  po (Wp a1 a2) fun r9=>
  some (r9,true)) (
  cond (a0 == 2) (
  po (Wu a1 a2) fun r11=>
  some (r11,true)) (
  cond (a0 == 3) (
  po (Ww a1 a2) fun r13=>
  some (r13,true)) (
  cond (a0 == 4) (
  po (Qj a1 a2) fun r15=>
  some (r15,true)) (
  cond (a0 == 5) (
  po (Qh a1 a2) fun r17=>
  some (r17,true)) (
  cond (a0 == 6) (
  po (Wq a1 a2) fun r19=>
  some (r19,true)) (
  cond (a0 == 7) (
  po (Xa a1 a2) fun r21=>
  some (r21,true)) (
  cond (a0 == 8) (
  po (Wy a1 a2) fun r23=>
  some (r23,true)) (
  cond (a0 == 9) (
  po (Vv a1 a2) fun r25=>
  some (r25,true)) (
  cond (a0 == 10) (
  po (Vt a1 a2) fun r27=>
  some (r27,true)) (
  none))))))))))))
noncomputable def Ue (a0 : Int) (a1 : UInt32) (a2 : UInt32) : Option (UInt32 × Bool):=
  po (
  cond (decide (a0 < 0)) (
  some true) (
  some (decide (a0 ≥ 11)))) (fun x=>Vx a0 a1 a2 x)
theorem Jf0 {a0 : Int} {a1 : UInt32} {a2 : UInt32} {r : UInt32 × Bool} (h : Ue a0 a1 a2 = some r) : Ctr prog 81 [ri a0,ru a1,ru a2] [] (.tup [ru r.1,rb r.2]) []:=by
 unfold Ue at h;refine Ctr.ofW Ba func81 rfl call81 0 _ ntmps81 [.tmp 6,.tmp 7] rfl rfl rfl (fun B=>?_);refine vs [0,1,2] fun _ k=>?_;push_cast;apply k;clear k;refine VC.seq ?_;refine vj h (fun x=>⟨[(0,ri a0),(1,ru a1),(2,ru a2),(13,rb x)],[],8,21,0⟩) (fun v1 h hk1=>?_) ?_
 ·rcases bt (decide (a0 < 0)) with hb2 | hb2
  ·replace h:=Ao hb2 h;refine vlG [some 8,some 9,some 10,some 11,some 12,some 13] fun _ k=>?_;push_cast [hb2];(repeat refine ao ?_);apply k;clear k;refine ar h hk1 ?_;exact sl (by push_cast [hb2])
  ·replace h:=Au hb2 h;refine vlG [some 8,some 9,some 10,some 11,some 12,some 13] fun _ k=>?_;push_cast [hb2];(repeat refine ao ?_);apply k;clear k;refine ar h hk1 ?_;exact sl (by push_cast [hb2])
 ·rintro i_1 (h : Vx a0 a1 a2 i_1 = some r);(try push_cast);unfold Vx at h;refine vc h (fun hb3 h=>?_) (fun hb3 h=>?_)
  ·refine vs [6,7] fun _ k=>?_;push_cast;apply k;clear k;refine VC.ret ?_;replace h:=Option.some.inj h;subst h;exact en (by push_cast [hb3])
  ·refine VC.skip ?_;obtain ⟨r5,hr5,h⟩:=Aa h;rcases bt (a0 == 0) with hb6 | hb6
   ·replace h:=Ao hb6 h;have hb6e : a0 = 0:=by simpa using hb6
    have hb6n : a0.toNat = 0:=by omega
    obtain ⟨r7,hr7,h⟩:=Aa h;refine vs [6,7] fun _ k=>?_;push_cast [hb6n];(repeat refine ao ?_);refine cp (Ho hr5) ?_;push_cast [hb6n];(repeat refine ao ?_);refine cp (Ff0 hr7) ?_;push_cast [hb6n];(repeat refine ao ?_);apply k;clear k;refine VC.ret ?_;replace h:=Option.some.inj h;subst h;exact en (by push_cast [hb3])
   ·replace h:=Au hb6 h;rcases bt (a0 == 1) with hb8 | hb8
    ·replace h:=Ao hb8 h;have hb8e : a0 = 1:=by simpa using hb8
     have hb8n : a0.toNat = 1:=by omega
     obtain ⟨r9,hr9,h⟩:=Aa h;refine vs [6,7] fun _ k=>?_;push_cast [hb8n];(repeat refine ao ?_);refine cp (Ho hr5) ?_;push_cast [hb8n];(repeat refine ao ?_);refine cp (Fl0 hr9) ?_;push_cast [hb8n];(repeat refine ao ?_);apply k;clear k;refine VC.ret ?_;replace h:=Option.some.inj h;subst h;exact en (by push_cast [hb3])
    ·replace h:=Au hb8 h;rcases bt (a0 == 2) with hb10 | hb10
     ·replace h:=Ao hb10 h;have hb10e : a0 = 2:=by simpa using hb10
      have hb10n : a0.toNat = 2:=by omega
      obtain ⟨r11,hr11,h⟩:=Aa h;refine vs [6,7] fun _ k=>?_;push_cast [hb10n];(repeat refine ao ?_);refine cp (Ho hr5) ?_;push_cast [hb10n];(repeat refine ao ?_);refine cp (Fr0 hr11) ?_;push_cast [hb10n];(repeat refine ao ?_);apply k;clear k;refine VC.ret ?_;replace h:=Option.some.inj h;subst h;exact en (by push_cast [hb3])
     ·replace h:=Au hb10 h;rcases bt (a0 == 3) with hb12 | hb12
      ·replace h:=Ao hb12 h;have hb12e : a0 = 3:=by simpa using hb12
       have hb12n : a0.toNat = 3:=by omega
       obtain ⟨r13,hr13,h⟩:=Aa h;refine vs [6,7] fun _ k=>?_;push_cast [hb12n];(repeat refine ao ?_);refine cp (Ho hr5) ?_;push_cast [hb12n];(repeat refine ao ?_);refine cp (Fp0 hr13) ?_;push_cast [hb12n];(repeat refine ao ?_);apply k;clear k;refine VC.ret ?_;replace h:=Option.some.inj h;subst h;exact en (by push_cast [hb3])
      ·replace h:=Au hb12 h;rcases bt (a0 == 4) with hb14 | hb14
       ·replace h:=Ao hb14 h;have hb14e : a0 = 4:=by simpa using hb14
        have hb14n : a0.toNat = 4:=by omega
        obtain ⟨r15,hr15,h⟩:=Aa h;refine vs [6,7] fun _ k=>?_;push_cast [hb14n];(repeat refine ao ?_);refine cp (Ho hr5) ?_;push_cast [hb14n];(repeat refine ao ?_);refine cp (Fj0 hr15) ?_;push_cast [hb14n];(repeat refine ao ?_);apply k;clear k;refine VC.ret ?_;replace h:=Option.some.inj h;subst h;exact en (by push_cast [hb3])
       ·replace h:=Au hb14 h;rcases bt (a0 == 5) with hb16 | hb16
        ·replace h:=Ao hb16 h;have hb16e : a0 = 5:=by simpa using hb16
         have hb16n : a0.toNat = 5:=by omega
         obtain ⟨r17,hr17,h⟩:=Aa h;refine vs [6,7] fun _ k=>?_;push_cast [hb16n];(repeat refine ao ?_);refine cp (Ho hr5) ?_;push_cast [hb16n];(repeat refine ao ?_);refine cp (Fo0 hr17) ?_;push_cast [hb16n];(repeat refine ao ?_);apply k;clear k;refine VC.ret ?_;replace h:=Option.some.inj h;subst h;exact en (by push_cast [hb3])
        ·replace h:=Au hb16 h;rcases bt (a0 == 6) with hb18 | hb18
         ·replace h:=Ao hb18 h;have hb18e : a0 = 6:=by simpa using hb18
          have hb18n : a0.toNat = 6:=by omega
          obtain ⟨r19,hr19,h⟩:=Aa h;refine vs [6,7] fun _ k=>?_;push_cast [hb18n];(repeat refine ao ?_);refine cp (Ho hr5) ?_;push_cast [hb18n];(repeat refine ao ?_);refine cp (Fk0 hr19) ?_;push_cast [hb18n];(repeat refine ao ?_);apply k;clear k;refine VC.ret ?_;replace h:=Option.some.inj h;subst h;exact en (by push_cast [hb3])
         ·replace h:=Au hb18 h;rcases bt (a0 == 7) with hb20 | hb20
          ·replace h:=Ao hb20 h;have hb20e : a0 = 7:=by simpa using hb20
           have hb20n : a0.toNat = 7:=by omega
           obtain ⟨r21,hr21,h⟩:=Aa h;refine vs [6,7] fun _ k=>?_;push_cast [hb20n];(repeat refine ao ?_);refine cp (Ho hr5) ?_;push_cast [hb20n];(repeat refine ao ?_);refine cp (Fd0 hr21) ?_;push_cast [hb20n];(repeat refine ao ?_);apply k;clear k;refine VC.ret ?_;replace h:=Option.some.inj h;subst h;exact en (by push_cast [hb3])
          ·replace h:=Au hb20 h;rcases bt (a0 == 8) with hb22 | hb22
           ·replace h:=Ao hb22 h;have hb22e : a0 = 8:=by simpa using hb22
            have hb22n : a0.toNat = 8:=by omega
            obtain ⟨r23,hr23,h⟩:=Aa h;refine vs [6,7] fun _ k=>?_;push_cast [hb22n];(repeat refine ao ?_);refine cp (Ho hr5) ?_;push_cast [hb22n];(repeat refine ao ?_);refine cp (Fi0 hr23) ?_;push_cast [hb22n];(repeat refine ao ?_);apply k;clear k;refine VC.ret ?_;replace h:=Option.some.inj h;subst h;exact en (by push_cast [hb3])
           ·replace h:=Au hb22 h;rcases bt (a0 == 9) with hb24 | hb24
            ·replace h:=Ao hb24 h;have hb24e : a0 = 9:=by simpa using hb24
             have hb24n : a0.toNat = 9:=by omega
             obtain ⟨r25,hr25,h⟩:=Aa h;refine vs [6,7] fun _ k=>?_;push_cast [hb24n];(repeat refine ao ?_);refine cp (Ho hr5) ?_;push_cast [hb24n];(repeat refine ao ?_);refine cp (Eu0 hr25) ?_;push_cast [hb24n];(repeat refine ao ?_);apply k;clear k;refine VC.ret ?_;replace h:=Option.some.inj h;subst h;exact en (by push_cast [hb3])
            ·replace h:=Au hb24 h;rcases bt (a0 == 10) with hb26 | hb26
             ·replace h:=Ao hb26 h;have hb26e : a0 = 10:=by simpa using hb26
              have hb26n : a0.toNat = 10:=by omega
              obtain ⟨r27,hr27,h⟩:=Aa h;refine vs [6,7] fun _ k=>?_;push_cast [hb26n];(repeat refine ao ?_);refine cp (Ho hr5) ?_;push_cast [hb26n];(repeat refine ao ?_);refine cp (Et0 hr27) ?_;push_cast [hb26n];(repeat refine ao ?_);apply k;clear k;refine VC.ret ?_;replace h:=Option.some.inj h;subst h;exact en (by push_cast [hb3])
             ·replace h:=Au hb26 h;cases h
noncomputable def Ic (a1 : Am) (r1 : UInt32 × Ad × Ae) (s_1 : Ad) (s_2 : Ae) (i_3 : UInt32) : Option (Ad × Ae):=
  po (Ue a1.Fn i_3 r1.1) fun r5=>
  po (Ek s_1 s_2 a1.Dst r5.1) fun r6=>
  some (r6.1,r6.2)
noncomputable def Ht (a0 : Ad) (a0_r : Ae) (a1 : Am) : Option (Ad × Ae):=
  po (Fl a0 a0_r a1) fun r1=>
  po (
  cond (a1.Fn != 0) (
  po (Dv r1.2.1 r1.2.2 a1.Dst) fun r4=>
  some (r4.2.1,r4.2.2,r4.1)) (
  some (r1.2.1,r1.2.2,0))) (fun x=>Ic a1 r1 x.1 x.2.1 x.2.2)
theorem Ch0 {a0 : Ad} {a0_r : Ae} {a1 : Am} {r : Ad × Ae} (h : Ht a0 a0_r a1 = some r) : Ctr prog 198 [.ref 0 0,.agg (Aw a1)] [(0,.box 283 (Ab a0 (.ref 1 0))),(1,.box 259 (Ah a0_r))] (.tup []) [(0,.box 283 (Ab r.1 (.ref 1 0))),(1,.box 259 (Ah r.2))]:=by
 unfold Ht at h;refine Ctr.ofW Ba func198 rfl call198 2 _ ntmps198 [] rfl rfl rfl (fun B=>?_);refine vs [0,3] fun _ k=>?_;push_cast;apply k;clear k;obtain ⟨r1,hr1,h⟩:=Aa h;refine vs [0,3,4] fun _ k=>?_;push_cast;refine ch (H:=[(0,.box 283 (Ab a0 (.ref 1 0))),(1,.box 259 (Ah a0_r))]) (Ctr.loH (Ctr.ren Bij.id (Qn hr1) (by push_cast) (by push_cast))) (by push_cast) ?_;push_cast;apply k;clear k;refine VC.sub (s':=⟨[(0,.ref 0 0),(3,.ref 2 0),(4,ru r1.1)],[(0,.box 283 (Ab r1.2.1 (.ref 1 0))),(1,.box 259 (Ah r1.2.2)),(2,.box 37 (Aw a1))],7,31,2⟩) (so (by push_cast)) ?_;refine vs [0,3,4,5] fun _ k=>?_;push_cast;apply k;clear k;refine vj h (fun x=>⟨[(0,.ref 0 0),(3,.ref 2 0),(4,ru r1.1),(5,ru x.2.2)],[(0,.box 283 (Ab x.1 (.ref 1 0))),(1,.box 259 (Ah x.2.1)),(2,.box 37 (Aw a1))],16,31,2⟩) (fun v2 h hk2=>?_) ?_
 ·refine vs [0,3,4,5,13] fun _ k=>?_;push_cast;apply k;clear k;refine vc h (fun hb3 h=>?_) (fun hb3 h=>?_)
  ·obtain ⟨r4,hr4,h⟩:=Aa h;refine vl fun _ k=>?_;push_cast;refine ch (H:=[(0,.box 283 (Ab r1.2.1 (.ref 1 0))),(1,.box 259 (Ah r1.2.2))]) (Ctr.loH (Ctr.ren Bij.id (Hz hr4) (by push_cast) (by push_cast))) (by push_cast) ?_;push_cast;apply k;clear k;refine ar h hk2 ?_;exact sl (by push_cast [hb3])
  ·refine VC.skip ?_;refine ar h hk2 ?_;exact sl (by push_cast [hb3])
 ·rintro ⟨s_1,s_2,i_3⟩ (h : Ic a1 r1 s_1 s_2 i_3 = some r);(try push_cast);unfold Ic at h;obtain ⟨r5,hr5,h⟩:=Aa h;refine vs [0,3,6] fun _ k=>?_;push_cast;refine cp (Jf0 hr5) ?_;push_cast;apply k;clear k;obtain ⟨r6,hr6,h⟩:=Aa h;refine vl fun _ k=>?_;push_cast;refine ch (H:=[(0,.box 283 (Ab s_1 (.ref 1 0))),(1,.box 259 (Ah s_2))]) (Ctr.loH (Ctr.ren Bij.id (Kl hr6) (by push_cast) (by push_cast))) (by push_cast) ?_;push_cast;apply k;clear k;replace h:=Option.some.inj h;subst h;exact eN (by push_cast)
noncomputable def Ob (a0 : Int) (a1 : UInt32) (a2 : UInt32) : Option (Bool × Bool):=
  cond (a0 == 0) (
  some (true,true)) (
  cond (a0 == 1) (
  some (((a1.toNat : Int) == (a2.toNat : Int)),true)) (
  cond (a0 == 2) (
  some (((a1.toNat : Int) != (a2.toNat : Int)),true)) (
  cond (a0 == 3) (
  some ((decide (a1.toNat < a2.toNat)),true)) (
  cond (a0 == 4) (
  some ((decide (a1.toNat ≥ a2.toNat)),true)) (
  some (false,false))))))
theorem Hu0 {a0 : Int} {a1 : UInt32} {a2 : UInt32} {r : Bool × Bool} (h : Ob a0 a1 a2 = some r) : Ctr prog 83 [ri a0,ru a1,ru a2] [] (.tup [rb r.1,rb r.2]) []:=by
 unfold Ob at h;refine Ctr.ofW Ba func83 rfl call83 0 _ ntmps83 [.tmp 6,.tmp 7] rfl rfl rfl (fun B=>?_);refine vs [0,1,2] fun _ k=>?_;push_cast;apply k;clear k;refine VC.seq ?_;refine vs [1,2,8] fun _ k=>?_;push_cast;apply k;clear k;refine VC.block ?_;refine vs [1,2,8,9] fun _ k=>?_;push_cast;apply k;clear k;refine vc h (fun hb1 h=>?_) (fun hb1 h=>?_)
 ·refine vs [6,7] fun _ k=>?_;push_cast;apply k;clear k;refine VC.ret ?_;replace h:=Option.some.inj h;subst h;exact en (by push_cast [hb1])
 ·refine vs [1,2,8,11] fun _ k=>?_;push_cast;apply k;clear k;refine vc h (fun hb2 h=>?_) (fun hb2 h=>?_)
  ·refine vs [6,7] fun _ k=>?_;push_cast;apply k;clear k;refine VC.ret ?_;replace h:=Option.some.inj h;subst h;exact en (by push_cast [hb1,hb2])
  ·refine vs [1,2,8,16] fun _ k=>?_;push_cast;apply k;clear k;refine vc h (fun hb3 h=>?_) (fun hb3 h=>?_)
   ·refine vs [6,7] fun _ k=>?_;push_cast;apply k;clear k;refine VC.ret ?_;replace h:=Option.some.inj h;subst h;exact en (by push_cast [hb1,hb2,hb3])
   ·refine vs [1,2,8,21] fun _ k=>?_;push_cast;apply k;clear k;refine vc h (fun hb4 h=>?_) (fun hb4 h=>?_)
    ·refine vs [6,7] fun _ k=>?_;push_cast;apply k;clear k;refine VC.ret ?_;replace h:=Option.some.inj h;subst h;exact en (by push_cast [hb1,hb2,hb3,hb4])
    ·refine vs [1,2,26] fun _ k=>?_;push_cast;apply k;clear k;refine vc h (fun hb5 h=>?_) (fun hb5 h=>?_)
     ·refine vs [6,7] fun _ k=>?_;push_cast;apply k;clear k;refine VC.ret ?_;replace h:=Option.some.inj h;subst h;exact en (by push_cast [hb1,hb2,hb3,hb4,hb5])
     ·refine VC.skip ?_;refine vs [6,7] fun _ k=>?_;push_cast;apply k;clear k;refine VC.ret ?_;replace h:=Option.some.inj h;subst h;exact en (by push_cast [hb1,hb2,hb3,hb4,hb5])
noncomputable def Hl (a0 : Ad) (a0_r : Ae) (a1 : Am) : Option (Ad × Ae):=
  cond (a1.Fn == 0) (
  some ((Ad.mk a0.fn (IntKind.i64.wrap (a0.at_ + a1.Off)) a0.regs a0.set a0.stack a0.over),a0_r)) (
  po (Dv a0 a0_r a1.Dst) fun r2=>
  po (Fl r2.2.1 r2.2.2 a1) fun r3=>
  po (Ob a1.Fn r2.1 r3.1) fun r4=>
  cond r4.1 (
  some ((Ad.mk r3.2.1.fn (IntKind.i64.wrap (r3.2.1.at_ + a1.Off)) r3.2.1.regs r3.2.1.set r3.2.1.stack r3.2.1.over),r3.2.2)) (
  some (r3.2.1,r3.2.2)))
theorem Bb0 {a0 : Ad} {a0_r : Ae} {a1 : Am} {r : Ad × Ae} (h : Hl a0 a0_r a1 = some r) : Ctr prog 199 [.ref 0 0,.agg (Aw a1)] [(0,.box 283 (Ab a0 (.ref 1 0))),(1,.box 259 (Ah a0_r))] (.tup []) [(0,.box 283 (Ab r.1 (.ref 1 0))),(1,.box 259 (Ah r.2))]:=by
 unfold Hl at h;refine Ctr.ofW Ba func199 rfl call199 2 _ ntmps199 [] rfl rfl rfl (fun B=>?_);refine vs [0,3] fun _ k=>?_;push_cast;apply k;clear k;refine VC.seq ?_;refine vs [0,3,8] fun _ k=>?_;push_cast;apply k;clear k;refine vc h (fun hb1 h=>?_) (fun hb1 h=>?_)
 ·refine vsD [some 9,some 10,some 11,some 12,some 13,some 14,some 15,some 16,some 17,none] [] fun _ k=>?_;push_cast;refine ⟨rfl,k _ ?_⟩;clear k;refine VC.ret ?_;replace h:=Option.some.inj h;subst h;exact en (by push_cast [hb1])
 ·refine VC.skip ?_;obtain ⟨r2,hr2,h⟩:=Aa h;obtain ⟨r3,hr3,h⟩:=Aa h;obtain ⟨r4,hr4,h⟩:=Aa h;refine vsD [some 19,some 20,some 21,some 22,some 23,some 24,some 25,some 26,some 27,some 28,some 18,some 29,some 30,some 4,some 5] [0,3,4] fun _ k=>?_;refine Ch 8 fun _ l=>?_;push_cast;refine chD (H:=[(0,.box 283 (Ab a0 (.ref 1 0))),(1,.box 259 (Ah a0_r))]) (Ctr.loH (Ctr.ren Bij.id (Hz hr2) (by push_cast) (by push_cast))) (by push_cast) ?_;push_cast;apply l;clear l;simp only [List.drop_succ_cons,List.drop_zero];push_cast;refine chD (H:=[(0,.box 283 (Ab r2.2.1 (.ref 1 0))),(1,.box 259 (Ah r2.2.2))]) (Ctr.loH (Ctr.ren Bij.id (Qn hr3) (by push_cast) (by push_cast))) (by push_cast) ?_;push_cast;refine cpD (Hu0 hr4) ?_;push_cast;refine ⟨rfl,k _ ?_⟩;clear k;refine VC.sub (s':=⟨[(0,.ref 0 0),(3,.ref 2 0),(4,rb r4.1)],[(0,.box 283 (Ab r3.2.1 (.ref 1 0))),(1,.box 259 (Ah r3.2.2)),(2,.box 37 (Aw a1))],21,41,2⟩) (so (by push_cast [hb1])) ?_;refine vs [0,3,31] fun _ k=>?_;push_cast;apply k;clear k;refine vc h (fun hb5 h=>?_) (fun hb5 h=>?_)
  ·refine vlD [some 32,some 33,some 34,some 35,some 36,some 37,some 38,some 39,some 40,none] fun _ k=>?_;push_cast;refine ⟨rfl,k _ ?_⟩;clear k;replace h:=Option.some.inj h;subst h;exact eN (by push_cast [hb1,hb5])
  ·refine VC.skip ?_;replace h:=Option.some.inj h;subst h;exact eN (by push_cast [hb1,hb5])
noncomputable def Dk (a0 : Ad) (a0_r : Ae) (a1 : Am) : Option (Ad × Ae):=
  pg (0 ≤ 0 ∧ 0 ≤ 16 ∧ 16 ≤ 16) <|
  po (Fl a0 a0_r a1) fun r2=>
  cond (a1.Op == 2) (
  pg (0 ≤ 0 ∧ 0 ≤ 4 ∧ 4 ≤ 4) <|
  cond (decide ((IntKind.u64.wrap (r2.1.toNat : Int)) ≥ 4)) (
  po (Da r2.2.2 10) fun r6=>
  some (r2.2.1,r6)) (
  pg (r2.1.toNat < 4) <|
  pl ((r2.2.2.e.Ctx.get r2.1.toNat)) fun c8=>
  po (Ek r2.2.1 r2.2.2 a1.Dst c8) fun r9=>
  some (r9.1,r9.2))) (
  cond (a1.Op == 3) (
  cond (decide ((IntKind.u64.wrap (r2.1.toNat : Int)) ≥ 16)) (
  po (Da r2.2.2 10) fun r12=>
  some (r2.2.1,r12)) (
  pg (r2.1.toNat < 16) <|
  pl ((r2.2.1.stack.get r2.1.toNat)) fun c14=>
  po (Ek r2.2.1 r2.2.2 a1.Dst c14) fun r15=>
  some (r15.1,r15.2))) (
  cond (a1.Op == 4) (
  po (Dv r2.2.1 r2.2.2 a1.Dst) fun r17=>
  cond (decide ((IntKind.u64.wrap (r2.1.toNat : Int)) ≥ 16)) (
  po (Da r17.2.2 10) fun r19=>
  some (r17.2.1,r19)) (
  pg (r2.1.toNat < 16) <|
  pl (r17.2.1.stack.set r2.1.toNat r17.1) fun y21=>
  some ((Ad.mk r17.2.1.fn r17.2.1.at_ r17.2.1.regs r17.2.1.set y21 r17.2.1.over),r17.2.2))) (
  some (r2.2.1,r2.2.2))))
theorem Pk {a0 : Ad} {a0_r : Ae} {a1 : Am} {r : Ad × Ae} (h : Dk a0 a0_r a1 = some r) : Ctr prog 200 [.ref 0 0,.agg (Aw a1)] [(0,.box 283 (Ab a0 (.ref 1 0))),(1,.box 259 (Ah a0_r))] (.tup []) [(0,.box 283 (Ab r.1 (.ref 1 0))),(1,.box 259 (Ah r.2))]:=by
 unfold Dk at h;refine Ctr.ofW Ba func200 rfl call200 2 _ ntmps200 [] rfl rfl rfl (fun B=>?_);refine vs [0,3] fun _ k=>?_;push_cast;apply k;clear k;obtain ⟨hg1,h⟩:=Bs h;refine vs [0,3,4] fun _ k=>?_;push_cast [hg1];(repeat refine ao ?_);apply k;clear k;refine VC.sub (s':=⟨[(0,.ref 0 0),(3,.ref 2 0),(4,.bsl 0 19 16)],[(0,.box 283 (Ab a0 (.ref 1 0))),(1,.box 259 (Ah a0_r)),(2,.box 37 (Aw a1))],8,68,2⟩) (so (by push_cast)) ?_;obtain ⟨r2,hr2,h⟩:=Aa h;refine vs [0,3,4,5] fun _ k=>?_;push_cast;refine ch (H:=[(0,.box 283 (Ab a0 (.ref 1 0))),(1,.box 259 (Ah a0_r))]) (Ctr.loH (Ctr.ren Bij.id (Qn hr2) (by push_cast) (by push_cast))) (by push_cast) ?_;push_cast;apply k;clear k;refine VC.sub (s':=⟨[(0,.ref 0 0),(3,.ref 2 0),(4,.bsl 0 19 16),(5,ru r2.1)],[(0,.box 283 (Ab r2.2.1 (.ref 1 0))),(1,.box 259 (Ah r2.2.2)),(2,.box 37 (Aw a1))],12,68,2⟩) (so (by push_cast)) ?_;refine vs [0,3,4,5,15] fun _ k=>?_;push_cast;apply k;clear k;refine VC.block ?_;refine VC.seq ?_;refine VC.block ?_;refine VC.seq ?_;refine VC.block ?_;refine VC.seq ?_;refine VC.block ?_;refine VC.seq ?_;refine VC.seq ?_;refine vs [0,3,4,5,15,16] fun _ k=>?_;push_cast;apply k;clear k;refine vc h (fun hb3 h=>?_) (fun hb3 h=>?_)
 ·refine VC.exit ?_;obtain ⟨hg4,h⟩:=Bs h;refine vl fun _ k=>?_;push_cast [hg4];(repeat refine ao ?_);apply k;clear k;refine VC.seq ?_;refine VC.seq ?_;refine vs [0,3,4,5,35] fun _ k=>?_;push_cast;apply k;clear k;refine vc h (fun hb5 h=>?_) (fun hb5 h=>?_)
  ·obtain ⟨r6,hr6,h⟩:=Aa h;refine vs [] fun _ k=>?_;push_cast;refine ch (H:=[(1,.box 259 (Ah r2.2.2))]) (Ctr.loH (Ctr.ren (Bij.swp 0 1 Bij.id) (Et hr6) (by push_cast) (by push_cast))) (by push_cast) ?_;push_cast;apply k;clear k;refine VC.sub (s':=⟨[],[(0,.box 283 (Ab r2.2.1 (.ref 1 0))),(1,.box 259 (Ah r6))],36,68,2⟩) (so (by push_cast [hb3,hb5])) ?_;refine VC.ret ?_;replace h:=Option.some.inj h;subst h;exact en (by push_cast [hb3,hb5])
  ·refine VC.skip ?_;obtain ⟨hg7,h⟩:=Bs h;obtain ⟨c8,hc8,h⟩:=Bo h;have hc8i : (((r2.2.2.e.Ctx.get r2.1.toNat)).toNat : Int) = (c8.toNat : Int):=by rw [hc8]
   push_cast at hc8i;obtain ⟨r9,hr9,h⟩:=Aa h;refine vlD [some 41,some 42,some 43,some 44,some 45,some 46,some 47,some 48] fun _ k=>?_;push_cast [hg7,hc8i];(repeat refine ao ?_);refine chD (H:=[(0,.box 283 (Ab r2.2.1 (.ref 1 0))),(1,.box 259 (Ah r2.2.2))]) (Ctr.loH (Ctr.ren Bij.id (Kl hr9) (by push_cast [hg7,hc8i]) (by push_cast [hg7,hc8i]))) (by push_cast [hg7,hc8i]) ?_;push_cast [hg7,hc8i];(repeat refine ao ?_);refine ⟨rfl,k _ ?_⟩;clear k;refine VC.exit ?_;replace h:=Option.some.inj h;subst h;exact eN (by push_cast [hb3,hb5,hc8i])
 ·refine VC.skip ?_;refine VC.seq ?_;refine vs [0,3,4,5,15,18] fun _ k=>?_;push_cast;apply k;clear k;refine vc h (fun hb10 h=>?_) (fun hb10 h=>?_)
  ·refine VC.exit ?_;refine VC.seq ?_;refine VC.seq ?_;refine vs [0,3,4,5,35] fun _ k=>?_;push_cast;apply k;clear k;refine vc h (fun hb11 h=>?_) (fun hb11 h=>?_)
   ·obtain ⟨r12,hr12,h⟩:=Aa h;refine vs [] fun _ k=>?_;push_cast;refine ch (H:=[(1,.box 259 (Ah r2.2.2))]) (Ctr.loH (Ctr.ren (Bij.swp 0 1 Bij.id) (Et hr12) (by push_cast) (by push_cast))) (by push_cast) ?_;push_cast;apply k;clear k;refine VC.sub (s':=⟨[],[(0,.box 283 (Ab r2.2.1 (.ref 1 0))),(1,.box 259 (Ah r12))],29,68,2⟩) (so (by push_cast [hb3,hb10,hb11])) ?_;refine VC.ret ?_;replace h:=Option.some.inj h;subst h;exact en (by push_cast [hb3,hb10,hb11])
   ·refine VC.skip ?_;obtain ⟨hg13,h⟩:=Bs h;obtain ⟨c14,hc14,h⟩:=Bo h;have hc14i : (((r2.2.1.stack.get r2.1.toNat)).toNat : Int) = (c14.toNat : Int):=by rw [hc14]
    push_cast at hc14i;obtain ⟨r15,hr15,h⟩:=Aa h;refine vlD [some 41,some 42,some 43,some 44,some 45,some 46,some 47,some 48] fun _ k=>?_;push_cast [hg13,hc14i];(repeat refine ao ?_);refine chD (H:=[(0,.box 283 (Ab r2.2.1 (.ref 1 0))),(1,.box 259 (Ah r2.2.2))]) (Ctr.loH (Ctr.ren Bij.id (Kl hr15) (by push_cast [hg13,hc14i]) (by push_cast [hg13,hc14i]))) (by push_cast [hg13,hc14i]) ?_;push_cast [hg13,hc14i];(repeat refine ao ?_);refine ⟨rfl,k _ ?_⟩;clear k;refine VC.exit ?_;replace h:=Option.some.inj h;subst h;exact eN (by push_cast [hb3,hb10,hb11,hc14i])
  ·refine VC.skip ?_;refine vs [0,3,4,5,20] fun _ k=>?_;push_cast;apply k;clear k;refine vc h (fun hb16 h=>?_) (fun hb16 h=>?_)
   ·refine VC.exit ?_;refine VC.seq ?_;obtain ⟨r17,hr17,h⟩:=Aa h;refine vs [0,4,5,6] fun _ k=>?_;push_cast;refine ch (H:=[(0,.box 283 (Ab r2.2.1 (.ref 1 0))),(1,.box 259 (Ah r2.2.2))]) (Ctr.loH (Ctr.ren Bij.id (Hz hr17) (by push_cast) (by push_cast))) (by push_cast) ?_;push_cast;apply k;clear k;refine VC.sub (s':=⟨[(0,.ref 0 0),(4,.bsl 0 19 16),(5,ru r2.1),(6,ru r17.1)],[(0,.box 283 (Ab r17.2.1 (.ref 1 0))),(1,.box 259 (Ah r17.2.2))],25,68,2⟩) (so (by push_cast [hb3,hb10,hb16])) ?_;refine VC.seq ?_;refine vs [0,4,5,6,58] fun _ k=>?_;push_cast;apply k;clear k;refine vc h (fun hb18 h=>?_) (fun hb18 h=>?_)
    ·obtain ⟨r19,hr19,h⟩:=Aa h;refine vs [] fun _ k=>?_;push_cast;refine ch (H:=[(1,.box 259 (Ah r17.2.2))]) (Ctr.loH (Ctr.ren (Bij.swp 0 1 Bij.id) (Et hr19) (by push_cast) (by push_cast))) (by push_cast) ?_;push_cast;apply k;clear k;refine VC.sub (s':=⟨[],[(0,.box 283 (Ab r17.2.1 (.ref 1 0))),(1,.box 259 (Ah r19))],36,68,2⟩) (so (by push_cast [hb3,hb10,hb16,hb18])) ?_;refine VC.ret ?_;replace h:=Option.some.inj h;subst h;exact en (by push_cast [hb3,hb10,hb16,hb18])
    ·refine VC.skip ?_;obtain ⟨hg20,h⟩:=Bs h;obtain ⟨y21,hy21,h⟩:=Bo h;refine vl fun _ k=>?_;push_cast [hg20];(repeat refine ao ?_);apply k;clear k;refine VC.exit ?_;replace h:=Option.some.inj h;subst h;exact eN (by push_cast [hb3,hb10,hb16,hb18,hy21])
   ·refine VC.skip ?_;refine VC.exit ?_;replace h:=Option.some.inj h;subst h;exact eN (by push_cast [hb3,hb10,hb16])
noncomputable def Hq (r1 : Ad × Ae) (s_1 : Ad) (i_2 : Int) : Option ((Ad × Int) ⊕ (Ad × Ae)):=
  cond (decide (i_2 ≤ 5)) (
  pg (0 ≤ i_2 ∧ i_2 < 8) <|
  pl (s_1.regs.set i_2.toNat 0) fun y5=>
  pl (s_1.set.set i_2.toNat false) fun y6=>
  some (Sum.inl ((Ad.mk s_1.fn s_1.at_ y5 y6 s_1.stack s_1.over),(IntKind.i64.wrap (i_2 + 1))))) (
  some (Sum.inr (s_1,r1.2)))
noncomputable def Hi (a0 : Ad) (a0_r : Ae) (a1 : UInt32) : Option (Ad × Ae):=
  po (Ek a0 a0_r 0 a1) fun r1=>
  lpU (fun x=>Hq r1 x.1 x.2) (r1.1,1)
theorem Vg {a0 : Ad} {a0_r : Ae} {a1 : UInt32} {r : Ad × Ae} (h : Hi a0 a0_r a1 = some r) : Ctr prog 226 [.ref 0 0,ru a1] [(0,.box 283 (Ab a0 (.ref 1 0))),(1,.box 259 (Ah a0_r))] (.tup []) [(0,.box 283 (Ab r.1 (.ref 1 0))),(1,.box 259 (Ah r.2))]:=by
 unfold Hi at h;refine Ctr.ofW Ba func226 rfl call226 2 _ ntmps226 [] rfl rfl rfl (fun B=>?_);obtain ⟨r1,hr1,h⟩:=Aa h;refine vs [0] fun _ k=>?_;push_cast;refine ch (H:=[(0,.box 283 (Ab a0 (.ref 1 0))),(1,.box 259 (Ah a0_r))]) (Ctr.loH (Ctr.ren Bij.id (Kl hr1) (by push_cast) (by push_cast))) (by push_cast) ?_;push_cast;apply k;clear k;refine VC.sub (s':=⟨[(0,.ref 0 0)],[(0,.box 283 (Ab r1.1 (.ref 1 0))),(1,.box 259 (Ah r1.2))],5,22,2⟩) (so (by push_cast)) ?_;refine vs [0,4] fun _ k=>?_;push_cast;apply k;clear k;refine VC.block ?_;refine VC.loopP h (fun x=>⟨[(0,.ref 0 0),(4,ri x.2)],[(0,.box 283 (Ab x.1 (.ref 1 0))),(1,.box 259 (Ah r1.2))],23,22,2⟩) ?_ ?_
 ·exact sl (by push_cast)
 rintro ⟨s_1,i_2⟩ b2 (h : Hq r1 s_1 i_2 = some b2) hf2;(try push_cast);unfold Hq at h;refine VC.seq ?_;refine vs [0,4,9] fun _ k=>?_;push_cast;apply k;clear k;refine vc h (fun hb3 h=>?_) (fun hb3 h=>?_)
 ·refine VC.skip ?_;refine VC.seq ?_;refine VC.block ?_;obtain ⟨hg4,h⟩:=Bs h;have hg4n : i_2.toNat < 8:=by omega
  obtain ⟨y5,hy5,h⟩:=Bo h;obtain ⟨y6,hy6,h⟩:=Bo h;refine vlD [some 12,some 13,some 14,some 15,some 16,some 17,some 18,none,some 19,some 20,some 21,none] fun _ k=>?_;refine Ch 8 fun _ l=>?_;push_cast [hg4,hg4n];(repeat refine ao ?_);apply l;clear l;simp only [List.drop_succ_cons,List.drop_zero];push_cast [hg4,hg4n];(repeat refine ao ?_);refine ⟨rfl,k _ ?_⟩;clear k;refine vl fun _ k=>?_;push_cast;apply k;clear k;refine bk h ?_;exact sl (by push_cast [hb3,hy5,hy6])
 ·refine VC.exit ?_;replace h:=ol h hf2;replace h:=Option.some.inj h;subst h;exact eN (by push_cast [hb3])
noncomputable def Fv (a1 : Int) (s_1 : Ad) (s_2 : Ae) (l_3 : (List UInt32)) (i_4 : Int) : Option ((Ad × Ae × (List UInt32) × Int) ⊕ (Ad × Ae × (List UInt32))):=
  cond (decide (i_4 ≤ a1)) (
  po (Dv s_1 s_2 i_4) fun r4=>
  pg ((l_3.length + 1) * 4 ≤ 140737488355328) <|
  pl (l_3 ++ ([r4.1])) fun y6=>
  some (Sum.inl (r4.2.1,r4.2.2,y6,(IntKind.i64.wrap (i_4 + 1))))) (
  some (Sum.inr (s_1,s_2,l_3)))
noncomputable def Mn (s_9 : Ad) (s_10 : Ae) (l_11 : (List UInt32)) : Option ((List UInt32) × Ad × Ae):=
  some (l_11,s_9,s_10)
noncomputable def Fp (a0 : Ad) (a0_r : Ae) (a1 : Int) : Option ((List UInt32) × Ad × Ae):=
  po (
  lpU (fun x=>Fv a1 x.1 x.2.1 x.2.2.1 x.2.2.2) (a0,a0_r,[],1)) (fun x=>Mn x.1 x.2.1 x.2.2)
theorem Ui {a0 : Ad} {a0_r : Ae} {a1 : Int} {r : (List UInt32) × Ad × Ae} (h : Fp a0 a0_r a1 = some r) : Ctr prog 225 [.ref 0 0,ri a1] [(0,.box 283 (Ab a0 (.ref 1 0))),(1,.box 259 (Ah a0_r))] (.row 2 0 1 0 r.1.length) [(0,.box 283 (Ab r.2.1 (.ref 1 0))),(1,.box 259 (Ah r.2.2)),(2,.row 25 1 0 (r.1.map Ax))]:=by
 unfold Fp at h;refine Ctr.ofW Ba func225 rfl call225 2 _ ntmps225 [.tmp 4] rfl rfl rfl (fun B=>?_);refine vs [0,1] fun _ k=>?_;push_cast;apply k;clear k;refine vs [0,1,5] fun _ k=>?_;push_cast;apply k;clear k;refine vj h (fun x=>⟨[(5,.row 13 0 1 0 x.2.2.length)],[(0,.box 283 (Ab x.1 (.ref 1 0))),(1,.box 259 (Ah x.2.1)),(13,.row 25 1 0 (x.2.2.map Ax))],21,19,2⟩) (fun v1 h hk1=>?_) ?_
 ·refine vs [0,1,5,6] fun _ k=>?_;push_cast;apply k;clear k;refine VC.block ?_;refine VC.loopP h (fun x=>⟨[(0,.ref 0 0),(1,ri a1),(5,.row 13 0 1 0 x.2.2.1.length),(6,ri x.2.2.2)],[(0,.box 283 (Ab x.1 (.ref 1 0))),(1,.box 259 (Ah x.2.1)),(13,.row 25 1 0 (x.2.2.1.map Ax))],18,19,2⟩) ?_ ?_
  ·refine Sub.trans (so (s':=⟨[(0,.ref 0 0),(1,ri a1),(5,.sl true []),(6,ri 1)],[(0,.box 283 (Ab a0 (.ref 1 0))),(1,.box 259 (Ah a0_r))],5,19,2⟩) (by push_cast)) ?_;refine Sub.trans (Sub.adoptT (k:=5) (e:=25) (sz:=1) rfl) ?_;refine Sub.trans (Sub.renT (k:=5) (i':=13) rfl rfl (Nat.le_of_ble_eq_true rfl) (Nat.le_of_ble_eq_true rfl) rfl) ?_;exact sl (by push_cast)
  rintro ⟨s_1,s_2,l_3,i_4⟩ b2 (h : Fv a1 s_1 s_2 l_3 i_4 = some b2) hf2;(try push_cast);unfold Fv at h;refine VC.seq ?_;refine vs [0,1,5,6,9] fun _ k=>?_;push_cast;apply k;clear k;refine vc h (fun hb3 h=>?_) (fun hb3 h=>?_)
  ·refine VC.skip ?_;refine VC.seq ?_;refine VC.block ?_;obtain ⟨r4,hr4,h⟩:=Aa h;obtain ⟨hg5,h⟩:=Bs h;obtain ⟨y6,hy6,h⟩:=Bo h;refine vl fun _ k=>?_;push_cast [hg5];(repeat refine ao ?_);refine ch (H:=[(0,.box 283 (Ab s_1 (.ref 1 0))),(1,.box 259 (Ah s_2))]) (Ctr.loH (Ctr.ren Bij.id (Hz hr4) (by push_cast [hg5]) (by push_cast [hg5]))) (by push_cast [hg5]) ?_;push_cast [hg5];(repeat refine ao ?_);apply k;clear k;refine vl fun _ k=>?_;push_cast;apply k;clear k;refine bk h ?_;refine Sub.trans (so (s':=⟨[(0,.ref 0 0),(1,ri a1),(5,.row 13 1 1 0 y6.length),(6,ri (IntKind.i64.wrap (i_4 + 1)))],[(0,.box 283 (Ab r4.2.1 (.ref 1 0))),(1,.box 259 (Ah r4.2.2)),(13,.row 25 1 1 (y6.map Ax))],31,19,2⟩) (by push_cast [hb3,hy6])) ?_;refine Sub.trans (Sub.renT (k:=5) (i':=13) rfl rfl (Nat.le_of_ble_eq_true rfl) (Nat.le_of_ble_eq_true rfl) rfl) ?_;exact sl (by push_cast [hb3,hy6])
  ·refine VC.exit ?_;replace h:=ol h hf2;refine ar h hk1 ?_;exact sl (by push_cast [hb3])
 ·rintro ⟨s_9,s_10,l_11⟩ (h : Mn s_9 s_10 l_11 = some r);(try push_cast);unfold Mn at h;refine vs [4] fun _ k=>?_;push_cast;apply k;clear k;refine VC.ret ?_;replace h:=Option.some.inj h;subst h;refine Cg (so (s':=⟨[(4,.row 13 0 1 0 l_11.length)],[(0,.box 283 (Ab s_9 (.ref 1 0))),(1,.box 259 (Ah s_10)),(13,.row 25 1 0 (l_11.map Ax))],23,19,2⟩) (by push_cast)) ?_;refine Cg (Sub.renT (k:=4) (i':=2) rfl rfl (Nat.le_of_ble_eq_true rfl) (Nat.le_of_ble_eq_true rfl) rfl) ?_;exact en (by push_cast)
noncomputable def Hn (a0 : Ad) (a0_r : Ae) (a1 : Am) : Option (Ad × Ae):=
  po (Lg (a1.Imm.toNat : Int)) fun r1=>
  cond (decide (r1 < 0)) (
  po (Da a0_r 10) fun r3=>
  some (a0,r3)) (
  po (Fp a0 a0_r r1) fun r4=>
  cond (r4.2.2.err != 0) (
  some (r4.2.1,r4.2.2)) (
  po (Li (a1.Imm.toNat : Int) r4.2.2.e r4.1) fun r6=>
  cond (r6.2.2 != 0) (
  po (Da r4.2.2 10) fun r8=>
  some (r4.2.1,r8)) (
  po (Hi r4.2.1 (Ae.mk r4.2.2.p r6.1 r4.2.2.fuel r4.2.2.used r4.2.2.err) r6.2.1) fun r9=>
  some (r9.1,r9.2))))
theorem Be0 {a0 : Ad} {a0_r : Ae} {a1 : Am} {r : Ad × Ae} (h : Hn a0 a0_r a1 = some r) : Ctr prog 201 [.ref 0 0,.agg (Aw a1)] [(0,.box 283 (Ab a0 (.ref 1 0))),(1,.box 259 (Ah a0_r))] (.tup []) [(0,.box 283 (Ab r.1 (.ref 1 0))),(1,.box 259 (Ah r.2))]:=by
 unfold Hn at h;refine Ctr.ofW Ba func201 rfl call201 2 _ ntmps201 [] rfl rfl rfl (fun B=>?_);refine vs [0,3] fun _ k=>?_;push_cast;apply k;clear k;obtain ⟨r1,hr1,h⟩:=Aa h;refine vs [0,3,4] fun _ k=>?_;push_cast;refine cp (Wj hr1) ?_;push_cast;apply k;clear k;refine VC.seq ?_;refine vs [0,3,4,14] fun _ k=>?_;push_cast;apply k;clear k;refine vc h (fun hb2 h=>?_) (fun hb2 h=>?_)
 ·obtain ⟨r3,hr3,h⟩:=Aa h;refine vs [] fun _ k=>?_;push_cast;refine ch (H:=[(1,.box 259 (Ah a0_r))]) (Ctr.loH (Ctr.ren (Bij.swp 0 1 Bij.id) (Et hr3) (by push_cast) (by push_cast))) (by push_cast) ?_;push_cast;apply k;clear k;refine VC.sub (s':=⟨[],[(0,.box 283 (Ab a0 (.ref 1 0))),(1,.box 259 (Ah r3))],15,64,2⟩) (so (by push_cast [hb2])) ?_;refine VC.ret ?_;replace h:=Option.some.inj h;subst h;exact en (by push_cast [hb2])
 ·refine VC.skip ?_;obtain ⟨r4,hr4,h⟩:=Aa h;refine vs [0,3,5] fun _ k=>?_;push_cast;refine ch (H:=[(0,.box 283 (Ab a0 (.ref 1 0))),(1,.box 259 (Ah a0_r))]) (Ctr.loH (Ctr.ren (Bij.swp 2 12 Bij.id) (Ui hr4) (by push_cast) (by push_cast))) (by push_cast) ?_;push_cast;apply k;clear k;refine VC.sub (s':=⟨[(0,.ref 0 0),(3,.ref 2 0),(5,.row 12 0 1 0 r4.1.length)],[(0,.box 283 (Ab r4.2.1 (.ref 1 0))),(1,.box 259 (Ah r4.2.2)),(2,.box 37 (Aw a1)),(12,.row 25 1 0 (r4.1.map Ax))],14,64,2⟩) (so (by push_cast [hb2])) ?_;refine VC.seq ?_;refine vs [0,3,5,30] fun _ k=>?_;push_cast;apply k;clear k;refine vc h (fun hb5 h=>?_) (fun hb5 h=>?_)
  ·refine VC.ret ?_;replace h:=Option.some.inj h;subst h;exact en (by push_cast [hb2,hb5])
  ·refine VC.skip ?_;refine VC.sub (Sub.freezeT prog (k:=5) rfl rfl (by push_cast [hb2,hb5] <;> omega) (by decide)) ?_;refine VC.sub (s':=⟨[(0,.ref 0 0),(3,.ref 2 0),(5,.sl false (r4.1.map Ax))],[(0,.box 283 (Ab r4.2.1 (.ref 1 0))),(1,.box 259 (Ah r4.2.2)),(2,.box 37 (Aw a1))],22,64,2⟩) (so (by push_cast [hb2,hb5])) ?_;obtain ⟨r6,hr6,h⟩:=Aa h;refine vsD [some 32,some 33,some 34,some 35,some 36,some 37,some 38,some 39,some 40,some 41,some 42,some 43,some 31,some 44,some 45,some 46,some 6,none,some 7,some 8] [0,6,7,8] fun _ k=>?_;refine Ch 8 fun _ l=>?_;push_cast;apply l;clear l;simp only [List.drop_succ_cons,List.drop_zero];refine Ch 8 fun _ l=>?_;push_cast;refine chD (H:=[]) (Ctr.loH (Ctr.ren (Bij.swp 0 33 Bij.id) (Fh0 hr6) (by push_cast) (by push_cast))) (by push_cast) ?_;push_cast;apply l;clear l;simp only [List.drop_succ_cons,List.drop_zero];push_cast;refine ⟨rfl,k _ ?_⟩;clear k;refine VC.sub (s':=⟨[(0,.ref 0 0),(6,.ref 38 0),(7,ru r6.2.1),(8,ri r6.2.2)],[(0,.box 283 (Ab r4.2.1 (.ref 1 0))),(1,.box 259 (Ah r4.2.2)),(33,.row 53 6 0 (r6.1.T.map Bb)),(38,.box 29 [ru r6.1.Ctx.a0,ru r6.1.Ctx.a1,ru r6.1.Ctx.a2,ru r6.1.Ctx.a3,.row 33 0 6 0 r6.1.T.length,ru r6.1.Seed])],42,64,2⟩) (so (by push_cast [hb2,hb5])) ?_;refine VC.seq ?_;refine vs [0,6,7,48] fun _ k=>?_;push_cast;apply k;clear k;refine vc h (fun hb7 h=>?_) (fun hb7 h=>?_)
   ·obtain ⟨r8,hr8,h⟩:=Aa h;refine vs [] fun _ k=>?_;push_cast;refine ch (H:=[(1,.box 259 (Ah r4.2.2))]) (Ctr.loH (Ctr.ren (Bij.swp 0 1 Bij.id) (Et hr8) (by push_cast) (by push_cast))) (by push_cast) ?_;push_cast;apply k;clear k;refine VC.sub (s':=⟨[],[(0,.box 283 (Ab r4.2.1 (.ref 1 0))),(1,.box 259 (Ah r8))],49,64,2⟩) (so (by push_cast [hb2,hb5,hb7])) ?_;refine VC.ret ?_;replace h:=Option.some.inj h;subst h;exact en (by push_cast [hb2,hb5,hb7])
   ·refine VC.skip ?_;refine vsD [some 54,some 55,some 56,some 57,some 58,some 59,some 60,none] [0,7] fun _ k=>?_;push_cast;refine ⟨rfl,k _ ?_⟩;clear k;refine VC.sub (Sub.freeze prog (b:=1) (j:=5) rfl rfl rfl (by push_cast [hb2,hb5,hb7] <;> omega) (by decide)) ?_;refine VC.sub (s':=⟨[(0,.ref 0 0),(7,ru r6.2.1)],[(0,.box 283 (Ab r4.2.1 (.ref 1 0))),(1,.box 259 (Ah (Ae.mk r4.2.2.p r6.1 r4.2.2.fuel r4.2.2.used r4.2.2.err)))],52,64,2⟩) (so (by push_cast [hb2,hb5,hb7])) ?_;obtain ⟨r9,hr9,h⟩:=Aa h;refine vl fun _ k=>?_;push_cast;refine ch (H:=[(0,.box 283 (Ab r4.2.1 (.ref 1 0))),(1,.box 259 (Ah (Ae.mk r4.2.2.p r6.1 r4.2.2.fuel r4.2.2.used r4.2.2.err)))]) (Ctr.loH (Ctr.ren Bij.id (Vg hr9) (by push_cast) (by push_cast))) (by push_cast) ?_;push_cast;apply k;clear k;replace h:=Option.some.inj h;subst h;exact eN (by push_cast [hb2,hb5,hb7])
noncomputable def Fk (pf : Ae → Int → (List UInt32) → Option (UInt32 × Ae)) (a0 : Ad) (a0_r : Ae) (a1 : Am) (i_1 : Bool) : Option (Ad × Ae):=
  cond i_1 (
  po (Da a0_r 10) fun r4=>
  some (a0,r4)) (
  po (a0_r.p.Fns[a1.Imm.toNat]?) fun x5=>
  po (Fp a0 a0_r x5.Args) fun r6=>
  cond (r6.2.2.err != 0) (
  some (r6.2.1,r6.2.2)) (
  po (pf r6.2.2 (a1.Imm.toNat : Int) r6.1) fun r8=>
  po (Hi r6.2.1 r8.2 r8.1) fun r9=>
  some (r9.1,r9.2)))
noncomputable def Hk (pf : Ae → Int → (List UInt32) → Option (UInt32 × Ae)) (a0 : Ad) (a0_r : Ae) (a1 : Am) : Option (Ad × Ae):=
  po (
  cond (decide ((IntKind.u64.wrap (a1.Imm.toNat : Int)) ≥ (IntKind.u64.wrap (a0_r.p.Fns.length : Int)))) (
  some true) (
  some (decide ((a1.Imm.toNat : Int) ≤ a0.fn)))) (fun x=>Fk pf a0 a0_r a1 x)
theorem Ax0 (pf : Ae → Int → (List UInt32) → Option (UInt32 × Ae)) (hpf : ∀ {a0 : Ae} {a1 : Int} {a2 : (List UInt32)} {r : UInt32 × Ae} (h : pf a0 a1 a2 = some r),Ctr prog 171 [.ref 0 0,ri a1,.sl false (a2.map Ax)] [(0,.box 259 (Ah a0))] (ru r.1) [(0,.box 259 (Ah r.2))]) {a0 : Ad} {a0_r : Ae} {a1 : Am} {r : Ad × Ae} (h : Hk pf a0 a0_r a1 = some r) : Ctr prog 202 [.ref 0 0,.agg (Aw a1)] [(0,.box 283 (Ab a0 (.ref 1 0))),(1,.box 259 (Ah a0_r))] (.tup []) [(0,.box 283 (Ab r.1 (.ref 1 0))),(1,.box 259 (Ah r.2))]:=by
 unfold Hk at h;refine Ctr.ofW Ba func202 rfl call202 2 _ ntmps202 [] rfl rfl rfl (fun B=>?_);refine vs [0,3] fun _ k=>?_;push_cast;apply k;clear k;refine VC.seq ?_;refine vj h (fun x=>⟨[(0,.ref 0 0),(3,.ref 2 0),(28,rb x)],[(0,.box 283 (Ab a0 (.ref 1 0))),(1,.box 259 (Ah a0_r)),(2,.box 37 (Aw a1))],27,68,2⟩) (fun v1 h hk1=>?_) ?_
 ·rcases bt (decide ((IntKind.u64.wrap (a1.Imm.toNat : Int)) ≥ (IntKind.u64.wrap (a0_r.p.Fns.length : Int)))) with hb2 | hb2
  ·replace h:=Ao hb2 h;refine vlD [some 5,some 6,some 7,some 8,some 9,some 10,some 11,some 12,some 13,some 14,some 15,some 16,some 17,some 18,some 19,some 20,some 21,some 22,some 23,some 24,some 25,some 26,some 27,some 28] fun _ k=>?_;refine Ch 8 fun _ l=>?_;push_cast [hb2];(repeat refine ao ?_);apply l;clear l;simp only [List.drop_succ_cons,List.drop_zero];refine Ch 8 fun _ l=>?_;push_cast [hb2];(repeat refine ao ?_);apply l;clear l;simp only [List.drop_succ_cons,List.drop_zero];push_cast [hb2];(repeat refine ao ?_);refine ⟨rfl,k _ ?_⟩;clear k;refine ar h hk1 ?_;exact sl (by push_cast [hb2])
  ·replace h:=Au hb2 h;refine vlD [some 5,some 6,some 7,some 8,some 9,some 10,some 11,some 12,some 13,some 14,some 15,some 16,some 17,some 18,some 19,some 20,some 21,some 22,some 23,some 24,some 25,some 26,some 27,some 28] fun _ k=>?_;refine Ch 8 fun _ l=>?_;push_cast [hb2];(repeat refine ao ?_);apply l;clear l;simp only [List.drop_succ_cons,List.drop_zero];refine Ch 8 fun _ l=>?_;push_cast [hb2];(repeat refine ao ?_);apply l;clear l;simp only [List.drop_succ_cons,List.drop_zero];push_cast [hb2];(repeat refine ao ?_);refine ⟨rfl,k _ ?_⟩;clear k;refine ar h hk1 ?_;exact sl (by push_cast [hb2])
 ·rintro i_1 (h : Fk pf a0 a0_r a1 i_1 = some r);(try push_cast);unfold Fk at h;refine vc h (fun hb3 h=>?_) (fun hb3 h=>?_)
  ·obtain ⟨r4,hr4,h⟩:=Aa h;refine vs [] fun _ k=>?_;push_cast;refine ch (H:=[(1,.box 259 (Ah a0_r))]) (Ctr.loH (Ctr.ren (Bij.swp 0 1 Bij.id) (Et hr4) (by push_cast) (by push_cast))) (by push_cast) ?_;push_cast;apply k;clear k;refine VC.sub (s':=⟨[],[(0,.box 283 (Ab a0 (.ref 1 0))),(1,.box 259 (Ah r4))],32,68,2⟩) (so (by push_cast [hb3])) ?_;refine VC.ret ?_;replace h:=Option.some.inj h;subst h;exact en (by push_cast [hb3])
  ·refine VC.skip ?_;obtain ⟨x5,hx5,h⟩:=Aa h;replace hx5:=gL hx5;obtain ⟨r6,hr6,h⟩:=Aa h;refine vsD [some 34,some 35,some 36,some 37,some 38,some 39,some 40,some 41,some 42,some 43,some 44,some 45,some 46,some 47,some 48,some 4] [0,3,4] fun _ k=>?_;refine Ch 8 fun _ l=>?_;push_cast [hx5];(repeat refine ao ?_);apply l;clear l;simp only [List.drop_succ_cons,List.drop_zero];push_cast [hx5];(repeat refine ao ?_);refine chD (H:=[(0,.box 283 (Ab a0 (.ref 1 0))),(1,.box 259 (Ah a0_r))]) (Ctr.loH (Ctr.ren (Bij.swp 2 41 Bij.id) (Ui hr6) (by push_cast [hx5]) (by push_cast [hx5]))) (by push_cast [hx5]) ?_;push_cast [hx5];(repeat refine ao ?_);refine ⟨rfl,k _ ?_⟩;clear k;refine VC.sub (s':=⟨[(0,.ref 0 0),(3,.ref 2 0),(4,.row 41 0 1 0 r6.1.length)],[(0,.box 283 (Ab r6.2.1 (.ref 1 0))),(1,.box 259 (Ah r6.2.2)),(2,.box 37 (Aw a1)),(41,.row 25 1 0 (r6.1.map Ax))],43,68,2⟩) (so (by push_cast [hb3])) ?_;refine VC.seq ?_;refine vs [0,3,4,56] fun _ k=>?_;push_cast;apply k;clear k;refine vc h (fun hb7 h=>?_) (fun hb7 h=>?_)
   ·refine VC.ret ?_;replace h:=Option.some.inj h;subst h;exact en (by push_cast [hb3,hb7])
   ·refine VC.skip ?_;refine VC.sub (Sub.freezeT prog (k:=4) rfl rfl (by push_cast [hb3,hb7] <;> omega) (by decide)) ?_;refine VC.sub (s':=⟨[(0,.ref 0 0),(3,.ref 2 0),(4,.sl false (r6.1.map Ax))],[(0,.box 283 (Ab r6.2.1 (.ref 1 0))),(1,.box 259 (Ah r6.2.2)),(2,.box 37 (Aw a1))],51,68,2⟩) (so (by push_cast [hb3,hb7])) ?_;obtain ⟨r8,hr8,h⟩:=Aa h;obtain ⟨r9,hr9,h⟩:=Aa h;refine vlD [some 57,some 58,some 59,some 60,some 61,some 62,some 63,some 64,some 65,some 66,some 67] fun _ k=>?_;refine Ch 8 fun _ l=>?_;push_cast;apply l;clear l;simp only [List.drop_succ_cons,List.drop_zero];push_cast;refine chD (H:=[(1,.box 259 (Ah r6.2.2))]) (Ctr.loH (Ctr.ren (Bij.swp 0 1 Bij.id) (hpf hr8) (by push_cast) (by push_cast))) (by push_cast) ?_;push_cast;refine chD (H:=[(0,.box 283 (Ab r6.2.1 (.ref 1 0))),(1,.box 259 (Ah r8.2))]) (Ctr.loH (Ctr.ren Bij.id (Vg hr9) (by push_cast) (by push_cast))) (by push_cast) ?_;push_cast;refine ⟨rfl,k _ ?_⟩;clear k;replace h:=Option.some.inj h;subst h;exact eN (by push_cast [hb3,hb7])
noncomputable def Hh (a0 : Ad) (a0_r : Ae) (a1 : Am) : Option (Ad × Ae):=
  po (Dv a0 a0_r 0) fun r1=>
  some ((Ad.mk r1.2.1.fn r1.2.1.at_ r1.2.1.regs r1.2.1.set r1.2.1.stack true),r1.2.2)
theorem Ba0 {a0 : Ad} {a0_r : Ae} {a1 : Am} {r : Ad × Ae} (h : Hh a0 a0_r a1 = some r) : Ctr prog 203 [.ref 0 0,.agg (Aw a1)] [(0,.box 283 (Ab a0 (.ref 1 0))),(1,.box 259 (Ah a0_r))] (.tup []) [(0,.box 283 (Ab r.1 (.ref 1 0))),(1,.box 259 (Ah r.2))]:=by
 unfold Hh at h;refine Ctr.ofW Ba func203 rfl call203 2 _ ntmps203 [] rfl rfl rfl (fun B=>?_);refine vs [0] fun _ k=>?_;push_cast;apply k;clear k;obtain ⟨r1,hr1,h⟩:=Aa h;refine vs [0] fun _ k=>?_;push_cast;refine ch (H:=[(0,.box 283 (Ab a0 (.ref 1 0))),(1,.box 259 (Ah a0_r))]) (Ctr.loH (Ctr.ren Bij.id (Hz hr1) (by push_cast) (by push_cast))) (by push_cast) ?_;push_cast;apply k;clear k;refine VC.sub (s':=⟨[(0,.ref 0 0)],[(0,.box 283 (Ab r1.2.1 (.ref 1 0))),(1,.box 259 (Ah r1.2.2))],5,9,2⟩) (so (by push_cast)) ?_;refine vl fun _ k=>?_;push_cast;apply k;clear k;replace h:=Option.some.inj h;subst h;exact eN (by push_cast)
def failE (err e : Int) : Int:=if err = 0 then e else err
theorem fail_is (p : Aq) (e : Bf) (fu us err x : Int) : Da ⟨p,e,fu,us,err⟩ x = some ⟨p,e,fu,us,failE err x⟩:=by
  unfold Da failE
  by_cases h : err = 0
  · have d : (err == 0) = true:=by simpa using h
    simp only [d,cond_true,if_pos h]
  · have d : (err == 0) = false:=by simpa using h
    simp only [d,cond_false,if_neg h]
def getE (f : Fra) (err : Int) (n : Nat) : Int:=if f.set.get n = true then err else failE err 10
theorem get_is (f : Fra) (p : Aq) (e : Bf) (fu us err : Int) {n : Int} (h : 0 ≤ n ∧ n < 8) :
    Dv f ⟨p,e,fu,us,err⟩ n = some (f.regs.get n.toNat,f,⟨p,e,fu,us,getE f err n.toNat⟩):=by
  unfold Dv getE
  rw [Ep h]
  cases hs : f.set.get n.toNat with
  | true=>simp only [Bool.not_true,cond_false,po_of,Hw,Ep h,if_true]
  | false=>
    simp only [Bool.not_false,cond_true,fail_is,po_of,Hw,Ep h]
    rfl
def wordV (f : Fra) (i : Am) : UInt32:=if i.Reg = true then f.regs.get i.Src.toNat else i.Imm
def wordE (f : Fra) (err : Int) (i : Am) : Int:=if i.Reg = true then getE f err i.Src.toNat else err
theorem word_is (f : Fra) (p : Aq) (e : Bf) (fu us err : Int) {i : Am} (h : InstOk i) :
    Fl f ⟨p,e,fu,us,err⟩ i = some (wordV f i,f,⟨p,e,fu,us,wordE f err i⟩):=by
  unfold Fl wordV wordE
  cases hr : i.Reg with
  | true=>simp only [cond_true,get_is f p e fu us err h.src,po_of,if_true]
  | false=>simp [cond_false]
def putF (f : Fra) (n : Nat) (v : UInt32) : Fra:=⟨f.fn,f.at_,f.regs.set n v,f.set.set n true,f.stack,f.over⟩
theorem put_is' (f : Fra) (r : Rn) {n : Int} (h : 0 ≤ n ∧ n < 8) (v : UInt32) : Ek f r n v = some (putF f n.toNat v,r):=by
  unfold Ek
  rw [Ep h]
  rfl
noncomputable def aluV (fn : Int) (a b : UInt32) : UInt32:=((Ue fn a b).getD (0,true)).1
theorem alu_is {fn : Int} (h : 0 ≤ fn ∧ fn < 11) (a b : UInt32) : Ue fn a b = some (aluV fn a b,true):=by
  have key : ∃ v,Ue fn a b = some (v,true):=by
    unfold Ue
    have d1 : decide (fn < 0) = false:=by simp; omega
    have d2 : decide (fn ≥ 11) = false:=by simp; omega
    simp only [d1,d2,cond_false,po_of,Vx]
    have dz : ∀ k : UInt32,((k.toNat : Int) == 0) = true ∨ (((k.toNat : Int) == 0) = false ∧ (k.toNat : Int) ≠ 0):=fun k=>by
      by_cases hk : (k.toNat : Int) = 0
      · exact .inl (by simpa using hk)
      · exact .inr ⟨by simpa using hk,hk⟩
    have hc : fn = 0 ∨ fn = 1 ∨ fn = 2 ∨ fn = 3 ∨ fn = 4 ∨ fn = 5 ∨ fn = 6 ∨ fn = 7 ∨ fn = 8 ∨ fn = 9 ∨ fn = 10:=by omega
    rcases hc with rfl | rfl | rfl | rfl | rfl | rfl | rfl | rfl | rfl | rfl | rfl
    case inr.inr.inr.inr.inl=>
      have : ∃ v,Qj a b = some v:=by
        unfold Qj
        rcases dz b with d | ⟨d,hn⟩
        · exact ⟨0,by rw [d]; rfl⟩
        · exact ⟨a / b,by rw [d,Ep hn]; rfl⟩
      obtain ⟨v,hv⟩:=this
      exact ⟨v,by rw [hv]; rfl⟩
    case inr.inr.inr.inr.inr.inl=>
      have : ∃ v,Qh a b = some v:=by
        unfold Qh
        rcases dz b with d | ⟨d,hn⟩
        · exact ⟨a,by rw [d]; rfl⟩
        · exact ⟨a % b,by rw [d,Ep hn]; rfl⟩
      obtain ⟨v,hv⟩:=this
      exact ⟨v,by rw [hv]; rfl⟩
    all_goals exact ⟨_,rfl⟩
  obtain ⟨v,hv⟩:=key
  unfold aluV
  rw [hv]
  rfl
noncomputable def holdsV (c : Int) (a b : UInt32) : Bool:=((Ob c a b).getD (false,false)).1
theorem holds_is (c : Int) (a b : UInt32) : ∃ y,Ob c a b = some (holdsV c a b,y):=by
  have key : ∃ q,Ob c a b = some q:=by
    unfold Ob
    cases c == 0 <;> cases c == 1 <;> cases c == 2 <;> cases c == 3 <;> cases c == 4
    all_goals exact ⟨_,rfl⟩
  obtain ⟨q,hq⟩:=key
  unfold holdsV
  rw [hq]
  exact ⟨q.2,rfl⟩
def handV (f : Fra) : Nat → List UInt32
  | 0=>[]
  | k + 1=>handV f k ++ [f.regs.get (k + 1)]
def handE (f : Fra) (err : Int) : Nat → Int
  | 0=>err
  | k + 1=>getE f (handE f err k) (k + 1)
theorem handV_len (f : Fra) (k : Nat) : (handV f k).length = k:=by
  induction k with
  | zero=>rfl
  | succ k ih=>simp [handV,ih]
theorem hand_is (f : Fra) (p : Aq) (e : Bf) (fu us err : Int) {n : Nat} (h : n ≤ 7) :
    Fp f ⟨p,e,fu,us,err⟩ (n : Int) = some (handV f n,f,⟨p,e,fu,us,handE f err n⟩):=by
  obtain ⟨r,h1,h2⟩:=lp_inv (step:=fun x=>Fv (n : Int) x.1 x.2.1 x.2.2.1 x.2.2.2) (fun s=>∃ k : Nat,k ≤ n ∧ s = (f,⟨p,e,fu,us,handE f err k⟩,handV f k,((k + 1 : Nat) : Int))) (fun s=>(n + 1 - s.2.2.2).toNat) (fun r=>r = (f,⟨p,e,fu,us,handE f err n⟩,handV f n)) (by
    rintro s ⟨k,hk,rfl⟩
    simp only [Fv]
    by_cases hlt : k < n
    · left
      have hd : decide (((k + 1 : Nat) : Int) ≤ (n : Int)) = true:=by simp; omega
      have hl : ((handV f k).length + 1) * 4 ≤ 140737488355328:=by rw [handV_len]; omega
      simp only [hd,cond_true,get_is f p e fu us (handE f err k) (show 0 ≤ ((k + 1 : Nat) : Int) ∧ ((k + 1 : Nat) : Int) < 8 by omega),po_of,Ep hl,pl,Int.toNat_natCast,w64 (show k + 1 < 9223372036854775807 by omega)]
      exact ⟨_,rfl,⟨k + 1,by omega,rfl⟩,by simp only; omega⟩
    · right
      have : k = n:=by omega
      subst this
      have hd : decide (((k + 1 : Nat) : Int) ≤ (k : Int)) = false:=by simp; omega
      simp only [hd,cond_false]
      exact ⟨_,rfl,rfl⟩) (f,⟨p,e,fu,us,err⟩,[],1) ⟨0,Nat.zero_le _,rfl⟩
  subst h2
  unfold Fp
  rw [h1]
  rfl
def clrF (f : Fra) : Nat → Fra
  | 0=>f
  | k + 1=>⟨(clrF f k).fn,(clrF f k).at_,(clrF f k).regs.set (k + 1) 0,(clrF f k).set.set (k + 1) false,(clrF f k).stack,(clrF f k).over⟩
def backF (f : Fra) (v : UInt32) : Fra:=clrF (putF f 0 v) 5
theorem back_is (f : Fra) (r : Rn) (v : UInt32) : Hi f r v = some (backF f v,r):=by
  unfold Hi
  rw [put_is' f r (by decide) v]
  simp only [po_of]
  obtain ⟨q,h1,h2⟩:=lp_inv (step:=fun x=>Hq (putF f (0 : Int).toNat v,r) x.1 x.2) (fun s=>∃ k : Nat,k ≤ 5 ∧ s = (clrF (putF f 0 v) k,((k + 1 : Nat) : Int))) (fun s=>(6 - s.2).toNat) (fun q=>q = (backF f v,r)) (by
    rintro s ⟨k,hk,rfl⟩
    simp only [Hq]
    by_cases hlt : k < 5
    · left
      have hd : decide (((k + 1 : Nat) : Int) ≤ 5) = true:=by simp; omega
      have hb : 0 ≤ ((k + 1 : Nat) : Int) ∧ ((k + 1 : Nat) : Int) < 8:=by omega
      simp only [hd,cond_true,Ep hb,pl,Int.toNat_natCast,w64 (show k + 1 < 9223372036854775807 by omega)]
      exact ⟨_,rfl,⟨k + 1,by omega,rfl⟩,by simp only; omega⟩
    · right
      have : k = 5:=by omega
      subst this
      simp only [show decide (((5 + 1 : Nat) : Int) ≤ 5) = false from rfl,cond_false]
      exact ⟨_,rfl,rfl⟩) (putF f 0 v,1) ⟨0,Nat.zero_le _,rfl⟩
  subst h2
  exact h1
noncomputable def aluS (f : Fra) (err : Int) (i : Am) : Fra × Int:=
  (putF f i.Dst.toNat (aluV i.Fn (if i.Fn = 0 then 0 else f.regs.get i.Dst.toNat) (wordV f i)),if i.Fn = 0 then wordE f err i else getE f (wordE f err i) i.Dst.toNat)
theorem aluS_is (f : Fra) (p : Aq) (e : Bf) (fu us err : Int) {i : Am} (h : InstOk i) (h0 : i.Op = 0) :
    Ht f ⟨p,e,fu,us,err⟩ i = some ((aluS f err i).1,⟨p,e,fu,us,(aluS f err i).2⟩):=by
  unfold Ht aluS
  simp only [word_is f p e fu us err h,po_of]
  by_cases hf : i.Fn = 0
  · have d : (i.Fn != 0) = false:=by simpa using hf
    simp only [d,cond_false,po_of,Ic,alu_is (h.alu h0),put_is' _ _ h.dst,if_pos hf]
  · have d : (i.Fn != 0) = true:=by simpa using hf
    simp only [d,cond_true,po_of,get_is f p e fu us _ h.dst,Ic,alu_is (h.alu h0),put_is' _ _ h.dst,if_neg hf]
def atF (f : Fra) (n : Int) : Fra:=⟨f.fn,n,f.regs,f.set,f.stack,f.over⟩
noncomputable def jumpS (f : Fra) (err : Int) (i : Am) : Fra × Int:=
  if i.Fn = 0 then (atF f (f.at_ + i.Off),err)
  else (if holdsV i.Fn (f.regs.get i.Dst.toNat) (wordV f i) = true then atF f (f.at_ + i.Off) else f,wordE f (getE f err i.Dst.toNat) i)
theorem jumpS_is (f : Fra) (p : Aq) (e : Bf) (fu us err : Int) {i : Am} (h : InstOk i) (ha : 0 ≤ f.at_ ∧ f.at_ ≤ 1000000) :
    Hl f ⟨p,e,fu,us,err⟩ i = some ((jumpS f err i).1,⟨p,e,fu,us,(jumpS f err i).2⟩):=by
  have hw : IntKind.i64.wrap (f.at_ + i.Off) = f.at_ + i.Off:=wrap_i64 (by have:=h.off; omega) (by have:=h.off; omega)
  unfold Hl jumpS
  by_cases hf : i.Fn = 0
  · have d : (i.Fn == 0) = true:=by simpa using hf
    simp only [d,cond_true,if_pos hf,hw]
    rfl
  · have d : (i.Fn == 0) = false:=by simpa using hf
    obtain ⟨y,hy⟩:=holds_is i.Fn (f.regs.get i.Dst.toNat) (wordV f i)
    simp only [d,cond_false,get_is f p e fu us err h.dst,po_of,word_is f p e fu us _ h,hy,if_neg hf,hw]
    cases holdsV i.Fn (f.regs.get i.Dst.toNat) (wordV f i) <;> rfl
def wordsS (f : Fra) (ctx : A4 UInt32) (err : Int) (i : Am) : Fra × Int:=
  if i.Op = 2 then (if 4 ≤ (wordV f i).toNat then (f,failE (wordE f err i) 10) else (putF f i.Dst.toNat (ctx.get (wordV f i).toNat),wordE f err i))
  else if i.Op = 3 then (if 16 ≤ (wordV f i).toNat then (f,failE (wordE f err i) 10) else (putF f i.Dst.toNat (f.stack.get (wordV f i).toNat),wordE f err i))
  else if 16 ≤ (wordV f i).toNat then (f,failE (getE f (wordE f err i) i.Dst.toNat) 10)
  else (⟨f.fn,f.at_,f.regs,f.set,f.stack.set (wordV f i).toNat (f.regs.get i.Dst.toNat),f.over⟩,getE f (wordE f err i) i.Dst.toNat)
theorem w64u (x : UInt32) : IntKind.u64.wrap (x.toNat : Int) = (x.toNat : Int):=by
  have:=x.toNat_lt
  rw [IntKind.wrap_u64]
  omega
theorem wordsS_is (f : Fra) (p : Aq) (e : Bf) (fu us err : Int) {i : Am} (h : InstOk i) (hop : i.Op = 2 ∨ i.Op = 3 ∨ i.Op = 4) :
    Dk f ⟨p,e,fu,us,err⟩ i = some ((wordsS f e.Ctx err i).1,⟨p,e,fu,us,(wordsS f e.Ctx err i).2⟩):=by
  unfold Dk wordsS
  rw [Ep (by decide)]
  simp only [word_is f p e fu us err h,po_of,w64u]
  rcases hop with q | q | q
  · have d2 : (i.Op == 2) = true:=by simpa using q
    rw [Ep (by decide)]
    simp only [d2,cond_true,if_pos q]
    by_cases hx : 4 ≤ (wordV f i).toNat
    · have d : decide (((wordV f i).toNat : Int) ≥ 4) = true:=by simp; omega
      simp only [d,cond_true,fail_is,po_of,if_pos hx]
    · have d : decide (((wordV f i).toNat : Int) ≥ 4) = false:=by simp; omega
      simp only [d,cond_false,Ep (show (wordV f i).toNat < 4 by omega),put_is' _ _ h.dst,pl,po_of,if_neg hx]
  · have d2 : (i.Op == 2) = false:=by simp [q]
    have d3 : (i.Op == 3) = true:=by simpa using q
    simp only [d2,d3,cond_false,cond_true,if_neg (show ¬ i.Op = 2 by omega),if_pos q]
    by_cases hx : 16 ≤ (wordV f i).toNat
    · have d : decide (((wordV f i).toNat : Int) ≥ 16) = true:=by simp; omega
      simp only [d,cond_true,fail_is,po_of,if_pos hx]
    · have d : decide (((wordV f i).toNat : Int) ≥ 16) = false:=by simp; omega
      simp only [d,cond_false,Ep (show (wordV f i).toNat < 16 by omega),put_is' _ _ h.dst,pl,po_of,if_neg hx]
  · have d2 : (i.Op == 2) = false:=by simp [q]
    have d3 : (i.Op == 3) = false:=by simp [q]
    have d4 : (i.Op == 4) = true:=by simpa using q
    simp only [d2,d3,d4,cond_false,cond_true,get_is f p e fu us _ h.dst,po_of,if_neg (show ¬ i.Op = 2 by omega),if_neg (show ¬ i.Op = 3 by omega)]
    by_cases hx : 16 ≤ (wordV f i).toNat
    · have d : decide (((wordV f i).toNat : Int) ≥ 16) = true:=by simp; omega
      simp only [d,cond_true,fail_is,po_of,if_pos hx]
    · have d : decide (((wordV f i).toNat : Int) ≥ 16) = false:=by simp; omega
      simp only [d,cond_false,Ep (show (wordV f i).toNat < 16 by omega),pl,if_neg hx]
noncomputable def helpS (f : Fra) (e : Bf) (err : Int) (i : Am) : Fra × Bf × Int:=
  if argsN (i.Imm.toNat : Int) < 0 then (f,e,failE err 10)
  else if handE f err (argsN (i.Imm.toNat : Int)).toNat ≠ 0 then (f,e,handE f err (argsN (i.Imm.toNat : Int)).toNat)
  else match Li (i.Imm.toNat : Int) e (handV f (argsN (i.Imm.toNat : Int)).toNat) with
    | some (e',v,x)=>if x ≠ 0 then (f,e,10) else (backF f v,e',0)
    | none=>(f,e,0)
theorem argsN_le (n : Int) : argsN n ≤ 4:=by
  unfold argsN
  repeat' split
  all_goals omega
theorem helpS_is (f : Fra) (p : Aq) (e : Bf) (fu us err : Int) (i : Am) (hF : Fits e.T) :
    Hn f ⟨p,e,fu,us,err⟩ i = some ((helpS f e err i).1,⟨p,(helpS f e err i).2.1,fu,us,(helpS f e err i).2.2⟩):=by
  unfold Hn helpS
  simp only [args_is,po_of]
  by_cases h1 : argsN (i.Imm.toNat : Int) < 0
  · simp only [decide_eq_true h1,cond_true,fail_is,po_of,if_pos h1]
  · obtain ⟨k,hk⟩ : ∃ k : Nat,argsN (i.Imm.toNat : Int) = (k : Int):=⟨_,(Int.toNat_of_nonneg (by omega)).symm⟩
    have hle:=argsN_le (i.Imm.toNat : Int)
    simp only [decide_eq_false h1,cond_false,if_neg h1]
    rw [hk]
    simp only [hand_is f p e fu us err (show k ≤ 7 by omega),po_of,Int.toNat_natCast]
    by_cases h2 : handE f err k = 0
    · have d : (handE f err k != 0) = false:=by simpa using h2
      simp only [d,cond_false,if_neg (show ¬ (handE f err k ≠ 0) from fun q=>q h2)]
      obtain ⟨e',v,x,hr,_⟩:=call_nil (n:=(i.Imm.toNat : Int)) (a:=handV f k) hF
      simp only [hr,po_of]
      by_cases h3 : x = 0
      · have d : (x != 0) = false:=by simpa using h3
        simp only [d,cond_false,back_is,po_of,if_neg (show ¬ (x ≠ 0) from fun q=>q h3),h2]
      · have d : (x != 0) = true:=by simpa using h3
        simp only [d,cond_true,fail_is,po_of,if_pos h3,h2]
        rfl
    · have d : (handE f err k != 0) = true:=by simpa using h2
      simp only [d,cond_true,if_pos h2]
def exitS (f : Fra) (err : Int) : Fra × Int:=(⟨f.fn,f.at_,f.regs,f.set,f.stack,true⟩,getE f err 0)
theorem exitS_is (f : Fra) (p : Aq) (e : Bf) (fu us err : Int) (i : Am) :
    Hh f ⟨p,e,fu,us,err⟩ i = some ((exitS f err).1,⟨p,e,fu,us,(exitS f err).2⟩):=by
  unfold Hh exitS
  rw [get_is f p e fu us err (by decide)]
  rfl
noncomputable def opS (f : Fra) (e : Bf) (err : Int) (i : Am) : Fra × Bf × Int:=
  if i.Op = 0 then ((aluS f err i).1,e,(aluS f err i).2)
  else if i.Op = 1 then ((jumpS f err i).1,e,(jumpS f err i).2)
  else if i.Op = 5 then helpS f e err i
  else if i.Op = 7 then ((exitS f err).1,e,(exitS f err).2)
  else ((wordsS f e.Ctx err i).1,e,(wordsS f e.Ctx err i).2)
theorem failE_or {err : Int} (h : err = 0 ∨ err = 10) : failE err 10 = 0 ∨ failE err 10 = 10:=by
  unfold failE
  split
  · exact .inr rfl
  · exact h
theorem getE_or {f : Fra} {err : Int} {n : Nat} (h : err = 0 ∨ err = 10) : getE f err n = 0 ∨ getE f err n = 10:=by
  unfold getE
  split
  · exact h
  · exact failE_or h
theorem wordE_or {f : Fra} {err : Int} {i : Am} (h : err = 0 ∨ err = 10) : wordE f err i = 0 ∨ wordE f err i = 10:=by
  unfold wordE
  split
  · exact getE_or h
  · exact h
theorem handE_or {f : Fra} {err : Int} {n : Nat} (h : err = 0 ∨ err = 10) : handE f err n = 0 ∨ handE f err n = 10:=by
  induction n with
  | zero=>exact h
  | succ n ih=>exact getE_or ih
structure EKeep (e e' : Bf) : Prop where
  ctx : e'.Ctx = e.Ctx
  len : e'.T.length = e.T.length
  fits : Fits e'.T
theorem EKeep.refl {e : Bf} (h : Fits e.T) : EKeep e e:=⟨rfl,rfl,h⟩
theorem EKeep.trans {a b c : Bf} (h : EKeep a b) (k : EKeep b c) : EKeep a c:=⟨k.ctx.trans h.ctx,k.len.trans h.len,k.fits⟩
theorem call_keeps {n : Int} {e e' : Bf} {a : List UInt32} {v : UInt32} (hF : Fits e.T) (h : Li n e a = some (e',v,0)) : EKeep e e':=by
  obtain ⟨e2,v2,x,hr,hR⟩:=call_nil (n:=n) (a:=a) hF
  rw [h] at hr
  injection hr with hr
  injection hr with h1 hr
  injection hr with h2 h3
  subst h1
  obtain ⟨q1,q2⟩:=hR h3.symm
  exact ⟨q1,by rw [q2,hF.nil],⟨q2⟩⟩
structure OpKeep (f : Fra) (e : Bf) (q : Fra × Bf × Int) : Prop where
  fn : q.1.fn = f.fn
  at_ : f.at_ ≤ q.1.at_ ∧ q.1.at_ ≤ f.at_ + 65535
  e : EKeep e q.2.1
  err : q.2.2 = 0 ∨ q.2.2 = 10
theorem clrF_at (f : Fra) (k : Nat) : (clrF f k).fn = f.fn ∧ (clrF f k).at_ = f.at_:=by
  induction k with
  | zero=>exact ⟨rfl,rfl⟩
  | succ k ih=>exact ih
theorem op_keeps (f : Fra) {e : Bf} {i : Am} (h : InstOk i) (hF : Fits e.T) : OpKeep f e (opS f e 0 i):=by
  have o0 : (0 : Int) = 0 ∨ (0 : Int) = 10:=.inl rfl
  have same : ∀ (g : Fra) (err : Int),g.fn = f.fn → f.at_ ≤ g.at_ ∧ g.at_ ≤ f.at_ + 65535 → (err = 0 ∨ err = 10) → OpKeep f e (g,e,err):=fun g err h1 h2 h3=>⟨h1,h2,.refl hF,h3⟩
  have ho:=h.off
  unfold opS
  split
  · refine same _ _ rfl ⟨Int.le_refl _,by show f.at_ ≤ _; omega⟩ ?_
    unfold aluS
    simp only
    split
    · exact wordE_or o0
    · exact getE_or (wordE_or o0)
  · split
    · unfold jumpS
      split
      · exact same _ _ rfl ⟨by show f.at_ ≤ f.at_ + i.Off; omega,by show f.at_ + i.Off ≤ _; omega⟩ o0
      · refine same _ _ ?_ ?_ (wordE_or (getE_or o0))
        · simp only
          split <;> rfl
        · simp only
          split
          · exact ⟨by show f.at_ ≤ f.at_ + i.Off; omega,by show f.at_ + i.Off ≤ _; omega⟩
          · exact ⟨Int.le_refl _,by show f.at_ ≤ _; omega⟩
    · split
      · unfold helpS
        split
        · exact same _ _ rfl ⟨Int.le_refl _,by show f.at_ ≤ _; omega⟩ (failE_or o0)
        · split
          · exact same _ _ rfl ⟨Int.le_refl _,by show f.at_ ≤ _; omega⟩ (handE_or o0)
          · split
            · rename_i e' v x hc
              split
              · exact same _ _ rfl ⟨Int.le_refl _,by show f.at_ ≤ _; omega⟩ (.inr rfl)
              · rename_i hx
                have hx0 : x = 0:=by omega
                subst hx0
                have hat:=clrF_at (putF f 0 v) 5
                refine ⟨hat.1,?_,call_keeps hF hc,.inl rfl⟩
                have h5 : (backF f v).at_ = f.at_:=hat.2
                show f.at_ ≤ (backF f v).at_ ∧ (backF f v).at_ ≤ _
                rw [h5]
                omega
            · exact same _ _ rfl ⟨Int.le_refl _,by show f.at_ ≤ _; omega⟩ o0
      · split
        · exact same _ _ rfl ⟨Int.le_refl _,by show f.at_ ≤ _; omega⟩ (getE_or o0)
        · unfold wordsS
          split
          · split
            · exact same _ _ rfl ⟨Int.le_refl _,by show f.at_ ≤ _; omega⟩ (failE_or (wordE_or o0))
            · exact same _ _ rfl ⟨Int.le_refl _,by show f.at_ ≤ _; omega⟩ (wordE_or o0)
          · split
            · split
              · exact same _ _ rfl ⟨Int.le_refl _,by show f.at_ ≤ _; omega⟩ (failE_or (wordE_or o0))
              · exact same _ _ rfl ⟨Int.le_refl _,by show f.at_ ≤ _; omega⟩ (wordE_or o0)
            · split
              · exact same _ _ rfl ⟨Int.le_refl _,by show f.at_ ≤ _; omega⟩ (failE_or (getE_or (wordE_or o0)))
              · exact same _ _ rfl ⟨Int.le_refl _,by show f.at_ ≤ _; omega⟩ (getE_or (wordE_or o0))
noncomputable def Dr (a2 : (List UInt32)) (s_1 : Ae) (s_2 : Ad) (i_3 : Int) : Option ((Ae × Ad × Int) ⊕ (Ae × Ad)):=
  cond (decide (i_3 < (a2.length : Int))) (
  po (idx a2 i_3) fun x4=>
  po (Ek s_2 s_1 (IntKind.i64.wrap (i_3 + 1)) x4) fun r5=>
  some (Sum.inl (r5.2,r5.1,(IntKind.i64.wrap (i_3 + 1))))) (
  some (Sum.inr (s_1,s_2)))
noncomputable def Cy (pf : Ae → Int → (List UInt32) → Option (UInt32 × Ae)) (x6 : Cv) (s_10 : Ae) (s_11 : Ad) (i_12 : Bool) : Option ((Ae × Ad) ⊕ (Ae × Ad)):=
  cond i_12 (
  cond (s_10.used == s_10.fuel) (
  po (Da s_10 2) fun r13=>
  some (Sum.inl (r13,s_11))) (
  cond (decide (s_11.at_ ≥ (x6.Code.length : Int))) (
  po (Da (Ae.mk s_10.p s_10.e s_10.fuel (IntKind.i64.wrap (s_10.used + 1)) s_10.err) 10) fun r15=>
  some (Sum.inl (r15,s_11))) (
  po (idx x6.Code s_11.at_) fun x16=>
  cond (x16.Op == 0) (
  po (Ht s_11 (Ae.mk s_10.p s_10.e s_10.fuel (IntKind.i64.wrap (s_10.used + 1)) s_10.err) x16) fun r18=>
  some (Sum.inl (r18.2,(Ad.mk r18.1.fn (IntKind.i64.wrap (r18.1.at_ + 1)) r18.1.regs r18.1.set r18.1.stack r18.1.over)))) (
  cond (x16.Op == 1) (
  po (Hl s_11 (Ae.mk s_10.p s_10.e s_10.fuel (IntKind.i64.wrap (s_10.used + 1)) s_10.err) x16) fun r20=>
  some (Sum.inl (r20.2,(Ad.mk r20.1.fn (IntKind.i64.wrap (r20.1.at_ + 1)) r20.1.regs r20.1.set r20.1.stack r20.1.over)))) (
  cond (x16.Op == 2) (
  po (Dk s_11 (Ae.mk s_10.p s_10.e s_10.fuel (IntKind.i64.wrap (s_10.used + 1)) s_10.err) x16) fun r22=>
  some (Sum.inl (r22.2,(Ad.mk r22.1.fn (IntKind.i64.wrap (r22.1.at_ + 1)) r22.1.regs r22.1.set r22.1.stack r22.1.over)))) (
  cond (x16.Op == 3) (
  po (Dk s_11 (Ae.mk s_10.p s_10.e s_10.fuel (IntKind.i64.wrap (s_10.used + 1)) s_10.err) x16) fun r24=>
  some (Sum.inl (r24.2,(Ad.mk r24.1.fn (IntKind.i64.wrap (r24.1.at_ + 1)) r24.1.regs r24.1.set r24.1.stack r24.1.over)))) (
  cond (x16.Op == 4) (
  po (Dk s_11 (Ae.mk s_10.p s_10.e s_10.fuel (IntKind.i64.wrap (s_10.used + 1)) s_10.err) x16) fun r26=>
  some (Sum.inl (r26.2,(Ad.mk r26.1.fn (IntKind.i64.wrap (r26.1.at_ + 1)) r26.1.regs r26.1.set r26.1.stack r26.1.over)))) (
  cond (x16.Op == 5) (
  po (Hn s_11 (Ae.mk s_10.p s_10.e s_10.fuel (IntKind.i64.wrap (s_10.used + 1)) s_10.err) x16) fun r28=>
  some (Sum.inl (r28.2,(Ad.mk r28.1.fn (IntKind.i64.wrap (r28.1.at_ + 1)) r28.1.regs r28.1.set r28.1.stack r28.1.over)))) (
  cond (x16.Op == 6) (
  po (Hk pf s_11 (Ae.mk s_10.p s_10.e s_10.fuel (IntKind.i64.wrap (s_10.used + 1)) s_10.err) x16) fun r30=>
  some (Sum.inl (r30.2,(Ad.mk r30.1.fn (IntKind.i64.wrap (r30.1.at_ + 1)) r30.1.regs r30.1.set r30.1.stack r30.1.over)))) (
  cond (x16.Op == 7) (
  po (Hh s_11 (Ae.mk s_10.p s_10.e s_10.fuel (IntKind.i64.wrap (s_10.used + 1)) s_10.err) x16) fun r32=>
  some (Sum.inl (r32.2,(Ad.mk r32.1.fn (IntKind.i64.wrap (r32.1.at_ + 1)) r32.1.regs r32.1.set r32.1.stack r32.1.over)))) (
  none))))))))))) (
  some (Sum.inr (s_10,s_11)))
noncomputable def Cz (pf : Ae → Int → (List UInt32) → Option (UInt32 × Ae)) (x6 : Cv) (s_10 : Ae) (s_11 : Ad) : Option ((Ae × Ad) ⊕ (Ae × Ad)):=
  po (
  cond (s_10.err == 0) (
  some (!s_11.over)) (
  some false)) (fun x=>Cy pf x6 s_10 s_11 x)
noncomputable def Jl (s_15 : Ae) (s_16 : Ad) : Option (UInt32 × Ae):=
  some (s_16.regs.a0,s_15)
noncomputable def Fe (pf : Ae → Int → (List UInt32) → Option (UInt32 × Ae)) (a1 : Int) (s_7 : Ae) (s_8 : Ad) : Option (UInt32 × Ae):=
  po (idx s_7.p.Fns a1) fun x6=>
  po (
  lpU (fun x=>Cz pf x6 x.1 x.2) (s_7,s_8)) (fun x=>Jl x.1 x.2)
noncomputable def El (pf : Ae → Int → (List UInt32) → Option (UInt32 × Ae)) (a0 : Ae) (a1 : Int) (a2 : (List UInt32)) : Option (UInt32 × Ae):=
  po (
  lpU (fun x=>Dr a2 x.1 x.2.1 x.2.2) (a0,(Ad.mk a1 0 (A8.mk 0 0 0 0 0 0 0 0) (A8.mk false false false false false false false false) (A16.mk 0 0 0 0 0 0 0 0 0 0 0 0 0 0 0 0) false),0)) (fun x=>Fe pf a1 x.1 x.2)
theorem Zp (pf : Ae → Int → (List UInt32) → Option (UInt32 × Ae)) (hpf : ∀ {a0 : Ae} {a1 : Int} {a2 : (List UInt32)} {r : UInt32 × Ae} (h : pf a0 a1 a2 = some r),Ctr prog 171 [.ref 0 0,ri a1,.sl false (a2.map Ax)] [(0,.box 259 (Ah a0))] (ru r.1) [(0,.box 259 (Ah r.2))]) {a0 : Ae} {a1 : Int} {a2 : (List UInt32)} {r : UInt32 × Ae} (h : El pf a0 a1 a2 = some r) : Ctr prog 171 [.ref 0 0,ri a1,.sl false (a2.map Ax)] [(0,.box 259 (Ah a0))] (ru r.1) [(0,.box 259 (Ah r.2))]:=by
 unfold El at h;refine Ctr.ofW Ba func171 rfl call171 1 _ ntmps171 [.tmp 6] rfl rfl rfl (fun B=>?_);refine vs [0,1,2] fun _ k=>?_;push_cast (maxSteps:=9000000) [-Ay];apply k;clear k;refine vs [0,1,2,7] fun _ k=>?_;push_cast (maxSteps:=9000000) [-Ay];apply k;clear k;refine VC.sub (s':=⟨[(0,.ref 0 0),(1,ri a1),(2,.sl false (a2.map Ax)),(7,.ref 5 0)],[(0,.box 259 (Ah a0)),(5,.box 283 (Ab (Ad.mk a1 0 (A8.mk 0 0 0 0 0 0 0 0) (A8.mk false false false false false false false false) (A16.mk 0 0 0 0 0 0 0 0 0 0 0 0 0 0 0 0) false) (.ref 0 0)))],7,114,1⟩) (so (by push_cast (maxSteps:=9000000) [-Ay,Ab])) ?_;refine vj h (fun x=>⟨[(0,.ref 0 0),(1,ri a1),(7,.ref 5 0)],[(0,.box 259 (Ah x.1)),(5,.box 283 (Ab x.2 (.ref 0 0)))],24,114,1⟩) (fun v1 h hk1=>?_) ?_
 ·as_aux_lemma=>
   refine vs [0,1,7,17,18,19] fun _ k=>?_;push_cast (maxSteps:=9000000) [-Ay];apply k;clear k;refine VC.block ?_;refine VC.loopP h (fun x=>⟨[(0,.ref 0 0),(1,ri a1),(7,.ref 5 0),(17,.sl false (a2.map Ax)),(18,ri (a2.length : Int)),(19,ri x.2.2)],[(0,.box 259 (Ah x.1)),(5,.box 283 (Ab x.2.1 (.ref 0 0)))],23,114,1⟩) ?_ ?_
   ·exact sl (by push_cast (maxSteps:=9000000) [-Ay])
   rintro ⟨s_1,s_2,i_3⟩ b2 (h : Dr a2 s_1 s_2 i_3 = some b2) hf2;(try push_cast (maxSteps:=9000000) [-Ay]);unfold Dr at h;refine vs [0,1,7,17,18,19,20] fun _ k=>?_;push_cast (maxSteps:=9000000) [-Ay];apply k;clear k;refine VC.seq ?_;refine vc h (fun hb3 h=>?_) (fun hb3 h=>?_)
   ·refine VC.skip ?_;refine VC.seq ?_;refine VC.block ?_;obtain ⟨x4,hx4,h⟩:=Aa h;replace hx4:=Bh hx4;refine vs [0,1,7,8,9,17,18,19] fun _ k=>?_;push_cast (maxSteps:=9000000) [-Ay,hx4];(repeat refine ao ?_);apply k;clear k;obtain ⟨r5,hr5,h⟩:=Aa h;refine vl fun _ k=>?_;push_cast (maxSteps:=9000000) [-Ay];refine ch (H:=[(5,.box 283 (Ab s_2 (.ref 0 0))),(0,.box 259 (Ah s_1))]) (Ctr.loH (Ctr.ren (Bij.swp 1 0 (Bij.swp 0 5 Bij.id)) (Kl hr5) (by push_cast (maxSteps:=9000000) [-Ay]) (by push_cast (maxSteps:=9000000) [-Ay]))) (by push_cast (maxSteps:=9000000) [-Ay]) ?_;push_cast (maxSteps:=9000000) [-Ay];apply k;clear k;refine vl fun _ k=>?_;push_cast (maxSteps:=9000000) [-Ay];apply k;clear k;refine bk h ?_;exact sl (by push_cast (maxSteps:=9000000) [-Ay,hb3])
   ·refine VC.exit ?_;replace h:=ol h hf2;refine ar h hk1 ?_;exact sl (by push_cast (maxSteps:=9000000) [-Ay,hb3])
 ·as_aux_lemma=>
   rintro ⟨s_7,s_8⟩ (h : Fe pf a1 s_7 s_8 = some r);(try push_cast (maxSteps:=9000000) [-Ay]);unfold Fe at h;refine vs [0,1,7,10] fun _ k=>?_;push_cast (maxSteps:=9000000) [-Ay];apply k;clear k;obtain ⟨x6,hx6,h⟩:=Aa h;replace hx6:=Bh hx6;refine vs [0,7,10,11] fun _ k=>?_;push_cast (maxSteps:=9000000) [-Ay,hx6];(repeat refine ao ?_);apply k;clear k;refine vj h (fun x=>⟨[(7,.ref 5 0)],[(0,.box 259 (Ah x.1)),(5,.box 283 (Ab x.2 (.ref 0 0)))],111,114,1⟩) (fun v7 h hk7=>?_) ?_
   ·as_aux_lemma=>
     refine VC.block ?_;refine VC.loopP h (fun x=>⟨[(0,.ref 0 0),(7,.ref 5 0),(10,.ref 25 0),(11,.sl false (x6.Code.map Aw))],[(0,.box 259 (Ah x.1)),(5,.box 283 (Ab x.2 (.ref 0 0))),(25,.box 286 [.fn (.func 198) [] [],.fn (.func 199) [] [],.fn (.func 200) [] [],.fn (.func 200) [] [],.fn (.func 200) [] [],.fn (.func 201) [] [],.fn (.func 202) [] [],.fn (.func 203) [] []])],99,114,1⟩) ?_ ?_
     ·exact sl (by push_cast (maxSteps:=9000000) [-Ay])
     rintro ⟨s_10,s_11⟩ b8 (h : Cz pf x6 s_10 s_11 = some b8) hf8;(try push_cast (maxSteps:=9000000) [-Ay]);unfold Cz at h;refine VC.seq ?_;refine vj h (fun x=>⟨[(0,.ref 0 0),(7,.ref 5 0),(10,.ref 25 0),(11,.sl false (x6.Code.map Aw)),(51,rb x)],[(0,.box 259 (Ah s_10)),(5,.box 283 (Ab s_11 (.ref 0 0))),(25,.box 286 [.fn (.func 198) [] [],.fn (.func 199) [] [],.fn (.func 200) [] [],.fn (.func 200) [] [],.fn (.func 200) [] [],.fn (.func 201) [] [],.fn (.func 202) [] [],.fn (.func 203) [] []])],111,114,1⟩) (fun v9 h hk9=>?_) ?_
     ·as_aux_lemma=>
       rcases bt (s_10.err == 0) with hb10 | hb10
       ·replace h:=Ao hb10 h;refine vlG [some 40,some 41,some 42,some 43,some 44,some 45,some 46,some 47,some 48,some 49,some 50,some 51] fun _ k=>?_;refine Ag 8 fun _ l=>?_;push_cast (maxSteps:=9000000) [-Ay,hb10];(repeat refine ao ?_);apply l;clear l;simp only [List.drop_succ_cons,List.drop_zero];push_cast (maxSteps:=9000000) [-Ay,hb10];(repeat refine ao ?_);apply k;clear k;refine ar h hk9 ?_;exact sl (by push_cast (maxSteps:=9000000) [-Ay,hb10])
       ·replace h:=Au hb10 h;refine vlG [some 40,some 41,some 42,some 43,some 44,some 45,some 46,some 47,some 48,some 49,some 50,some 51] fun _ k=>?_;refine Ag 8 fun _ l=>?_;push_cast (maxSteps:=9000000) [-Ay,hb10];(repeat refine ao ?_);apply l;clear l;simp only [List.drop_succ_cons,List.drop_zero];push_cast (maxSteps:=9000000) [-Ay,hb10];(repeat refine ao ?_);apply k;clear k;refine ar h hk9 ?_;exact sl (by push_cast (maxSteps:=9000000) [-Ay,hb10])
     ·as_aux_lemma=>
       rintro i_12 (h : Cy pf x6 s_10 s_11 i_12 = some b8);(try push_cast (maxSteps:=9000000) [-Ay]);unfold Cy at h;refine vc h (fun hb11 h=>?_) (fun hb11 h=>?_)
       ·refine VC.skip ?_;refine VC.block ?_;refine VC.seq ?_;refine VC.block ?_;refine vsD [some 53,some 54,some 55,some 56,some 57,some 58,some 59,some 60,some 61,some 52] [0,7,10,11,52] fun _ k=>?_;push_cast (maxSteps:=9000000) [-Ay];refine ⟨rfl,k _ ?_⟩;clear k;refine vc h (fun hb12 h=>?_) (fun hb12 h=>?_)
        ·obtain ⟨r13,hr13,h⟩:=Aa h;refine vs [0,7,10,11] fun _ k=>?_;push_cast (maxSteps:=9000000) [-Ay];refine ch (H:=[(0,.box 259 (Ah s_10))]) (Ctr.loH (Ctr.ren Bij.id (Et hr13) (by push_cast (maxSteps:=9000000) [-Ay]) (by push_cast (maxSteps:=9000000) [-Ay]))) (by push_cast (maxSteps:=9000000) [-Ay]) ?_;push_cast (maxSteps:=9000000) [-Ay];apply k;clear k;refine VC.sub (s':=⟨[(0,.ref 0 0),(7,.ref 5 0),(10,.ref 25 0),(11,.sl false (x6.Code.map Aw))],[(0,.box 259 (Ah r13)),(5,.box 283 (Ab s_11 (.ref 0 0))),(25,.box 286 [.fn (.func 198) [] [],.fn (.func 199) [] [],.fn (.func 200) [] [],.fn (.func 200) [] [],.fn (.func 200) [] [],.fn (.func 201) [] [],.fn (.func 202) [] [],.fn (.func 203) [] []])],123,114,1⟩) (so (by push_cast (maxSteps:=9000000) [-Ay,hb11,hb12])) ?_;refine VC.exit ?_;refine bk h ?_;exact sl (by push_cast (maxSteps:=9000000) [-Ay,hb11,hb12])
        ·refine vs [0,7,10,11,64] fun _ k=>?_;push_cast (maxSteps:=9000000) [-Ay];apply k;clear k;refine vc h (fun hb14 h=>?_) (fun hb14 h=>?_)
         ·refine vs [0,7,10,11] fun _ k=>?_;push_cast (maxSteps:=9000000) [-Ay];apply k;clear k;obtain ⟨r15,hr15,h⟩:=Aa h;refine vs [0,7,10,11] fun _ k=>?_;push_cast (maxSteps:=9000000) [-Ay];refine ch (H:=[(0,.box 259 (Ah (Ae.mk s_10.p s_10.e s_10.fuel (IntKind.i64.wrap (s_10.used + 1)) s_10.err)))]) (Ctr.loH (Ctr.ren Bij.id (Et hr15) (by push_cast (maxSteps:=9000000) [-Ay]) (by push_cast (maxSteps:=9000000) [-Ay]))) (by push_cast (maxSteps:=9000000) [-Ay]) ?_;push_cast (maxSteps:=9000000) [-Ay];apply k;clear k;refine VC.sub (s':=⟨[(0,.ref 0 0),(7,.ref 5 0),(10,.ref 25 0),(11,.sl false (x6.Code.map Aw))],[(0,.box 259 (Ah r15)),(5,.box 283 (Ab s_11 (.ref 0 0))),(25,.box 286 [.fn (.func 198) [] [],.fn (.func 199) [] [],.fn (.func 200) [] [],.fn (.func 200) [] [],.fn (.func 200) [] [],.fn (.func 201) [] [],.fn (.func 202) [] [],.fn (.func 203) [] []])],139,114,1⟩) (so (by push_cast (maxSteps:=9000000) [-Ay,hb11,hb12,hb14])) ?_;refine VC.exit ?_;refine bk h ?_;exact sl (by push_cast (maxSteps:=9000000) [-Ay,hb11,hb12,hb14])
         ·refine VC.skip ?_;obtain ⟨x16,hx16,h⟩:=Aa h;replace hx16:=Bh hx16;refine vs [0,7,10,11,12] fun _ k=>?_;push_cast (maxSteps:=9000000) [-Ay,hx16];(repeat refine ao ?_);apply k;clear k;refine vs [0,7,10,11,12] fun _ k=>?_;push_cast (maxSteps:=9000000) [-Ay];apply k;clear k;rcases bt (x16.Op == 0) with hb17 | hb17
          ·as_aux_lemma=>
            replace h:=Ao hb17 h;have hb17e : x16.Op = 0:=by simpa using hb17
            have hb17n : x16.Op.toNat = 0:=by omega
            obtain ⟨r18,hr18,h⟩:=Aa h;refine vsD [some 95,some 96,some 97,some 98,some 99,some 100,some 101] [0,7,10,11] fun _ k=>?_;push_cast (maxSteps:=9000000) [-Ay,hb17n];(repeat refine ao ?_);refine chD (H:=[(5,.box 283 (Ab s_11 (.ref 0 0))),(0,.box 259 (Ah (Ae.mk s_10.p s_10.e s_10.fuel (IntKind.i64.wrap (s_10.used + 1)) s_10.err)))]) (Ctr.loH (Ctr.ren (Bij.swp 1 0 (Bij.swp 0 5 Bij.id)) (Ch0 hr18) (by push_cast (maxSteps:=9000000) [-Ay,hb17n]) (by push_cast (maxSteps:=9000000) [-Ay,hb17n]))) (by push_cast (maxSteps:=9000000) [-Ay,hb17n]) ?_;push_cast (maxSteps:=9000000) [-Ay,hb17n];(repeat refine ao ?_);refine ⟨rfl,k _ ?_⟩;clear k;refine VC.sub (s':=⟨[(0,.ref 0 0),(7,.ref 5 0),(10,.ref 25 0),(11,.sl false (x6.Code.map Aw))],[(0,.box 259 (Ah r18.2)),(5,.box 283 (Ab r18.1 (.ref 0 0))),(25,.box 286 [.fn (.func 198) [] [],.fn (.func 199) [] [],.fn (.func 200) [] [],.fn (.func 200) [] [],.fn (.func 200) [] [],.fn (.func 201) [] [],.fn (.func 202) [] [],.fn (.func 203) [] []])],153,114,1⟩) (so (by push_cast (maxSteps:=9000000) [-Ay,hb11,hb12,hb14])) ?_;refine vl fun _ k=>?_;push_cast (maxSteps:=9000000) [-Ay];apply k;clear k;refine bk h ?_;exact sl (by push_cast (maxSteps:=9000000) [-Ay,hb11,hb12,hb14])
          ·replace h:=Au hb17 h;rcases bt (x16.Op == 1) with hb19 | hb19
           ·as_aux_lemma=>
             replace h:=Ao hb19 h;have hb19e : x16.Op = 1:=by simpa using hb19
             have hb19n : x16.Op.toNat = 1:=by omega
             obtain ⟨r20,hr20,h⟩:=Aa h;refine vsD [some 95,some 96,some 97,some 98,some 99,some 100,some 101] [0,7,10,11] fun _ k=>?_;push_cast (maxSteps:=9000000) [-Ay,hb19n];(repeat refine ao ?_);refine chD (H:=[(5,.box 283 (Ab s_11 (.ref 0 0))),(0,.box 259 (Ah (Ae.mk s_10.p s_10.e s_10.fuel (IntKind.i64.wrap (s_10.used + 1)) s_10.err)))]) (Ctr.loH (Ctr.ren (Bij.swp 1 0 (Bij.swp 0 5 Bij.id)) (Bb0 hr20) (by push_cast (maxSteps:=9000000) [-Ay,hb19n]) (by push_cast (maxSteps:=9000000) [-Ay,hb19n]))) (by push_cast (maxSteps:=9000000) [-Ay,hb19n]) ?_;push_cast (maxSteps:=9000000) [-Ay,hb19n];(repeat refine ao ?_);refine ⟨rfl,k _ ?_⟩;clear k;refine VC.sub (s':=⟨[(0,.ref 0 0),(7,.ref 5 0),(10,.ref 25 0),(11,.sl false (x6.Code.map Aw))],[(0,.box 259 (Ah r20.2)),(5,.box 283 (Ab r20.1 (.ref 0 0))),(25,.box 286 [.fn (.func 198) [] [],.fn (.func 199) [] [],.fn (.func 200) [] [],.fn (.func 200) [] [],.fn (.func 200) [] [],.fn (.func 201) [] [],.fn (.func 202) [] [],.fn (.func 203) [] []])],153,114,1⟩) (so (by push_cast (maxSteps:=9000000) [-Ay,hb11,hb12,hb14])) ?_;refine vl fun _ k=>?_;push_cast (maxSteps:=9000000) [-Ay];apply k;clear k;refine bk h ?_;exact sl (by push_cast (maxSteps:=9000000) [-Ay,hb11,hb12,hb14])
           ·replace h:=Au hb19 h;rcases bt (x16.Op == 2) with hb21 | hb21
            ·as_aux_lemma=>
              replace h:=Ao hb21 h;have hb21e : x16.Op = 2:=by simpa using hb21
              have hb21n : x16.Op.toNat = 2:=by omega
              obtain ⟨r22,hr22,h⟩:=Aa h;refine vsD [some 95,some 96,some 97,some 98,some 99,some 100,some 101] [0,7,10,11] fun _ k=>?_;push_cast (maxSteps:=9000000) [-Ay,hb21n];(repeat refine ao ?_);refine chD (H:=[(5,.box 283 (Ab s_11 (.ref 0 0))),(0,.box 259 (Ah (Ae.mk s_10.p s_10.e s_10.fuel (IntKind.i64.wrap (s_10.used + 1)) s_10.err)))]) (Ctr.loH (Ctr.ren (Bij.swp 1 0 (Bij.swp 0 5 Bij.id)) (Pk hr22) (by push_cast (maxSteps:=9000000) [-Ay,hb21n]) (by push_cast (maxSteps:=9000000) [-Ay,hb21n]))) (by push_cast (maxSteps:=9000000) [-Ay,hb21n]) ?_;push_cast (maxSteps:=9000000) [-Ay,hb21n];(repeat refine ao ?_);refine ⟨rfl,k _ ?_⟩;clear k;refine VC.sub (s':=⟨[(0,.ref 0 0),(7,.ref 5 0),(10,.ref 25 0),(11,.sl false (x6.Code.map Aw))],[(0,.box 259 (Ah r22.2)),(5,.box 283 (Ab r22.1 (.ref 0 0))),(25,.box 286 [.fn (.func 198) [] [],.fn (.func 199) [] [],.fn (.func 200) [] [],.fn (.func 200) [] [],.fn (.func 200) [] [],.fn (.func 201) [] [],.fn (.func 202) [] [],.fn (.func 203) [] []])],153,114,1⟩) (so (by push_cast (maxSteps:=9000000) [-Ay,hb11,hb12,hb14])) ?_;refine vl fun _ k=>?_;push_cast (maxSteps:=9000000) [-Ay];apply k;clear k;refine bk h ?_;exact sl (by push_cast (maxSteps:=9000000) [-Ay,hb11,hb12,hb14])
            ·replace h:=Au hb21 h;rcases bt (x16.Op == 3) with hb23 | hb23
             ·as_aux_lemma=>
               replace h:=Ao hb23 h;have hb23e : x16.Op = 3:=by simpa using hb23
               have hb23n : x16.Op.toNat = 3:=by omega
               obtain ⟨r24,hr24,h⟩:=Aa h;refine vsD [some 95,some 96,some 97,some 98,some 99,some 100,some 101] [0,7,10,11] fun _ k=>?_;push_cast (maxSteps:=9000000) [-Ay,hb23n];(repeat refine ao ?_);refine chD (H:=[(5,.box 283 (Ab s_11 (.ref 0 0))),(0,.box 259 (Ah (Ae.mk s_10.p s_10.e s_10.fuel (IntKind.i64.wrap (s_10.used + 1)) s_10.err)))]) (Ctr.loH (Ctr.ren (Bij.swp 1 0 (Bij.swp 0 5 Bij.id)) (Pk hr24) (by push_cast (maxSteps:=9000000) [-Ay,hb23n]) (by push_cast (maxSteps:=9000000) [-Ay,hb23n]))) (by push_cast (maxSteps:=9000000) [-Ay,hb23n]) ?_;push_cast (maxSteps:=9000000) [-Ay,hb23n];(repeat refine ao ?_);refine ⟨rfl,k _ ?_⟩;clear k;refine VC.sub (s':=⟨[(0,.ref 0 0),(7,.ref 5 0),(10,.ref 25 0),(11,.sl false (x6.Code.map Aw))],[(0,.box 259 (Ah r24.2)),(5,.box 283 (Ab r24.1 (.ref 0 0))),(25,.box 286 [.fn (.func 198) [] [],.fn (.func 199) [] [],.fn (.func 200) [] [],.fn (.func 200) [] [],.fn (.func 200) [] [],.fn (.func 201) [] [],.fn (.func 202) [] [],.fn (.func 203) [] []])],153,114,1⟩) (so (by push_cast (maxSteps:=9000000) [-Ay,hb11,hb12,hb14])) ?_;refine vl fun _ k=>?_;push_cast (maxSteps:=9000000) [-Ay];apply k;clear k;refine bk h ?_;exact sl (by push_cast (maxSteps:=9000000) [-Ay,hb11,hb12,hb14])
             ·replace h:=Au hb23 h;rcases bt (x16.Op == 4) with hb25 | hb25
              ·as_aux_lemma=>
                replace h:=Ao hb25 h;have hb25e : x16.Op = 4:=by simpa using hb25
                have hb25n : x16.Op.toNat = 4:=by omega
                obtain ⟨r26,hr26,h⟩:=Aa h;refine vsD [some 95,some 96,some 97,some 98,some 99,some 100,some 101] [0,7,10,11] fun _ k=>?_;push_cast (maxSteps:=9000000) [-Ay,hb25n];(repeat refine ao ?_);refine chD (H:=[(5,.box 283 (Ab s_11 (.ref 0 0))),(0,.box 259 (Ah (Ae.mk s_10.p s_10.e s_10.fuel (IntKind.i64.wrap (s_10.used + 1)) s_10.err)))]) (Ctr.loH (Ctr.ren (Bij.swp 1 0 (Bij.swp 0 5 Bij.id)) (Pk hr26) (by push_cast (maxSteps:=9000000) [-Ay,hb25n]) (by push_cast (maxSteps:=9000000) [-Ay,hb25n]))) (by push_cast (maxSteps:=9000000) [-Ay,hb25n]) ?_;push_cast (maxSteps:=9000000) [-Ay,hb25n];(repeat refine ao ?_);refine ⟨rfl,k _ ?_⟩;clear k;refine VC.sub (s':=⟨[(0,.ref 0 0),(7,.ref 5 0),(10,.ref 25 0),(11,.sl false (x6.Code.map Aw))],[(0,.box 259 (Ah r26.2)),(5,.box 283 (Ab r26.1 (.ref 0 0))),(25,.box 286 [.fn (.func 198) [] [],.fn (.func 199) [] [],.fn (.func 200) [] [],.fn (.func 200) [] [],.fn (.func 200) [] [],.fn (.func 201) [] [],.fn (.func 202) [] [],.fn (.func 203) [] []])],153,114,1⟩) (so (by push_cast (maxSteps:=9000000) [-Ay,hb11,hb12,hb14])) ?_;refine vl fun _ k=>?_;push_cast (maxSteps:=9000000) [-Ay];apply k;clear k;refine bk h ?_;exact sl (by push_cast (maxSteps:=9000000) [-Ay,hb11,hb12,hb14])
              ·replace h:=Au hb25 h;rcases bt (x16.Op == 5) with hb27 | hb27
               ·as_aux_lemma=>
                 replace h:=Ao hb27 h;have hb27e : x16.Op = 5:=by simpa using hb27
                 have hb27n : x16.Op.toNat = 5:=by omega
                 obtain ⟨r28,hr28,h⟩:=Aa h;refine vsD [some 95,some 96,some 97,some 98,some 99,some 100,some 101] [0,7,10,11] fun _ k=>?_;push_cast (maxSteps:=9000000) [-Ay,hb27n];(repeat refine ao ?_);refine chD (H:=[(5,.box 283 (Ab s_11 (.ref 0 0))),(0,.box 259 (Ah (Ae.mk s_10.p s_10.e s_10.fuel (IntKind.i64.wrap (s_10.used + 1)) s_10.err)))]) (Ctr.loH (Ctr.ren (Bij.swp 1 0 (Bij.swp 0 5 Bij.id)) (Be0 hr28) (by push_cast (maxSteps:=9000000) [-Ay,hb27n]) (by push_cast (maxSteps:=9000000) [-Ay,hb27n]))) (by push_cast (maxSteps:=9000000) [-Ay,hb27n]) ?_;push_cast (maxSteps:=9000000) [-Ay,hb27n];(repeat refine ao ?_);refine ⟨rfl,k _ ?_⟩;clear k;refine VC.sub (s':=⟨[(0,.ref 0 0),(7,.ref 5 0),(10,.ref 25 0),(11,.sl false (x6.Code.map Aw))],[(0,.box 259 (Ah r28.2)),(5,.box 283 (Ab r28.1 (.ref 0 0))),(25,.box 286 [.fn (.func 198) [] [],.fn (.func 199) [] [],.fn (.func 200) [] [],.fn (.func 200) [] [],.fn (.func 200) [] [],.fn (.func 201) [] [],.fn (.func 202) [] [],.fn (.func 203) [] []])],153,114,1⟩) (so (by push_cast (maxSteps:=9000000) [-Ay,hb11,hb12,hb14])) ?_;refine vl fun _ k=>?_;push_cast (maxSteps:=9000000) [-Ay];apply k;clear k;refine bk h ?_;exact sl (by push_cast (maxSteps:=9000000) [-Ay,hb11,hb12,hb14])
               ·replace h:=Au hb27 h;rcases bt (x16.Op == 6) with hb29 | hb29
                ·as_aux_lemma=>
                  replace h:=Ao hb29 h;have hb29e : x16.Op = 6:=by simpa using hb29
                  have hb29n : x16.Op.toNat = 6:=by omega
                  obtain ⟨r30,hr30,h⟩:=Aa h;refine vsD [some 95,some 96,some 97,some 98,some 99,some 100,some 101] [0,7,10,11] fun _ k=>?_;push_cast (maxSteps:=9000000) [-Ay,hb29n];(repeat refine ao ?_);refine chD (H:=[(5,.box 283 (Ab s_11 (.ref 0 0))),(0,.box 259 (Ah (Ae.mk s_10.p s_10.e s_10.fuel (IntKind.i64.wrap (s_10.used + 1)) s_10.err)))]) (Ctr.loH (Ctr.ren (Bij.swp 1 0 (Bij.swp 0 5 Bij.id)) (Ax0 pf hpf hr30) (by push_cast (maxSteps:=9000000) [-Ay,hb29n]) (by push_cast (maxSteps:=9000000) [-Ay,hb29n]))) (by push_cast (maxSteps:=9000000) [-Ay,hb29n]) ?_;push_cast (maxSteps:=9000000) [-Ay,hb29n];(repeat refine ao ?_);refine ⟨rfl,k _ ?_⟩;clear k;refine VC.sub (s':=⟨[(0,.ref 0 0),(7,.ref 5 0),(10,.ref 25 0),(11,.sl false (x6.Code.map Aw))],[(0,.box 259 (Ah r30.2)),(5,.box 283 (Ab r30.1 (.ref 0 0))),(25,.box 286 [.fn (.func 198) [] [],.fn (.func 199) [] [],.fn (.func 200) [] [],.fn (.func 200) [] [],.fn (.func 200) [] [],.fn (.func 201) [] [],.fn (.func 202) [] [],.fn (.func 203) [] []])],153,114,1⟩) (so (by push_cast (maxSteps:=9000000) [-Ay,hb11,hb12,hb14])) ?_;refine vl fun _ k=>?_;push_cast (maxSteps:=9000000) [-Ay];apply k;clear k;refine bk h ?_;exact sl (by push_cast (maxSteps:=9000000) [-Ay,hb11,hb12,hb14])
                ·replace h:=Au hb29 h;rcases bt (x16.Op == 7) with hb31 | hb31
                 ·as_aux_lemma=>
                   replace h:=Ao hb31 h;have hb31e : x16.Op = 7:=by simpa using hb31
                   have hb31n : x16.Op.toNat = 7:=by omega
                   obtain ⟨r32,hr32,h⟩:=Aa h;refine vsD [some 95,some 96,some 97,some 98,some 99,some 100,some 101] [0,7,10,11] fun _ k=>?_;push_cast (maxSteps:=9000000) [-Ay,hb31n];(repeat refine ao ?_);refine chD (H:=[(5,.box 283 (Ab s_11 (.ref 0 0))),(0,.box 259 (Ah (Ae.mk s_10.p s_10.e s_10.fuel (IntKind.i64.wrap (s_10.used + 1)) s_10.err)))]) (Ctr.loH (Ctr.ren (Bij.swp 1 0 (Bij.swp 0 5 Bij.id)) (Ba0 hr32) (by push_cast (maxSteps:=9000000) [-Ay,hb31n]) (by push_cast (maxSteps:=9000000) [-Ay,hb31n]))) (by push_cast (maxSteps:=9000000) [-Ay,hb31n]) ?_;push_cast (maxSteps:=9000000) [-Ay,hb31n];(repeat refine ao ?_);refine ⟨rfl,k _ ?_⟩;clear k;refine VC.sub (s':=⟨[(0,.ref 0 0),(7,.ref 5 0),(10,.ref 25 0),(11,.sl false (x6.Code.map Aw))],[(0,.box 259 (Ah r32.2)),(5,.box 283 (Ab r32.1 (.ref 0 0))),(25,.box 286 [.fn (.func 198) [] [],.fn (.func 199) [] [],.fn (.func 200) [] [],.fn (.func 200) [] [],.fn (.func 200) [] [],.fn (.func 201) [] [],.fn (.func 202) [] [],.fn (.func 203) [] []])],153,114,1⟩) (so (by push_cast (maxSteps:=9000000) [-Ay,hb11,hb12,hb14])) ?_;refine vl fun _ k=>?_;push_cast (maxSteps:=9000000) [-Ay];apply k;clear k;refine bk h ?_;exact sl (by push_cast (maxSteps:=9000000) [-Ay,hb11,hb12,hb14])
                 ·replace h:=Au hb31 h;cases h
       ·refine VC.exit ?_;replace h:=ol h hf8;refine ar h hk7 ?_;exact sl (by push_cast (maxSteps:=9000000) [-Ay,hb11])
   ·as_aux_lemma=>
     rintro ⟨s_15,s_16⟩ (h : Jl s_15 s_16 = some r);(try push_cast (maxSteps:=9000000) [-Ay]);unfold Jl at h;refine vs [6] fun _ k=>?_;push_cast (maxSteps:=9000000) [-Ay];apply k;clear k;refine VC.ret ?_;replace h:=Option.some.inj h;subst h;exact en (by push_cast (maxSteps:=9000000) [-Ay])
noncomputable def Dw : Nat → Ae → Int → (List UInt32) → Option (UInt32 × Ae)
  | 0=>fun _ _ _=>none
  | d + 1=>El (Dw d)
theorem Wh : ∀ (d : Nat) (a0 : Ae) (a1 : Int) (a2 : (List UInt32)) {r : UInt32 × Ae} (h : Dw d a0 a1 a2 = some r),Ctr prog 171 [.ref 0 0,ri a1,.sl false (a2.map Ax)] [(0,.box 259 (Ah a0))] (ru r.1) [(0,.box 259 (Ah r.2))]
  | 0,a0,a1,a2,r,h=>(by cases h)
  | d + 1,a0,a1,a2,r,h=>Zp (Dw d) (fun h=>Wh d _ _ _ h) h
abbrev PF:=Ae → Int → (List UInt32) → Option (UInt32 × Ae)
noncomputable def stepR (pf : PF) (x : Cv) (s : Rn × Fra) : Option ((Rn × Fra) ⊕ (Rn × Fra)):=Cz pf x s.1 s.2
noncomputable def callS (pf : PF) (f : Fra) (p : Aq) (e : Bf) (fu us : Int) (i : Am) : Option (Fra × Rn):=
  match p.Fns[i.Imm.toNat]? with
  | none=>some (f,⟨p,e,fu,us,10⟩)
  | some g=>if (i.Imm.toNat : Int) ≤ f.fn then some (f,⟨p,e,fu,us,10⟩)
    else if handE f 0 g.Args.toNat ≠ 0 then some (f,⟨p,e,fu,us,handE f 0 g.Args.toNat⟩)
    else match pf ⟨p,e,fu,us,0⟩ (i.Imm.toNat : Int) (handV f g.Args.toNat) with
      | none=>none
      | some q=>some (backF f q.1,q.2)
theorem callS_is {pf : PF} {f : Fra} {p : Aq} {e : Bf} {fu us : Int} {i : Am} (hp : ProgOk p) : Hk pf f ⟨p,e,fu,us,0⟩ i = callS pf f p e fu us i:=by
  have hl:=hp.len
  have hL : IntKind.u64.wrap (p.Fns.length : Int) = (p.Fns.length : Int):=by rw [IntKind.wrap_u64]; omega
  unfold Hk callS
  simp only [w64u,hL]
  have bad : Fk pf f ⟨p,e,fu,us,0⟩ i true = some (f,⟨p,e,fu,us,10⟩):=by
    simp only [Fk,cond_true,fail_is,po_of]
    rfl
  by_cases h1 : p.Fns.length ≤ i.Imm.toNat
  · have d : decide ((i.Imm.toNat : Int) ≥ (p.Fns.length : Int)) = true:=by simp; omega
    rw [List.getElem?_eq_none h1]
    simp only [d,cond_true,po_of,bad]
  · have d : decide ((i.Imm.toNat : Int) ≥ (p.Fns.length : Int)) = false:=by simp; omega
    obtain ⟨g,hg⟩ : ∃ g,p.Fns[i.Imm.toNat]? = some g:=⟨_,List.getElem?_eq_getElem (by omega)⟩
    rw [hg]
    simp only [d,cond_false,po_of]
    by_cases h2 : (i.Imm.toNat : Int) ≤ f.fn
    · simp only [decide_eq_true h2,bad,if_pos h2]
    · simp only [decide_eq_false h2,if_neg h2,Fk,cond_false,hg,po_of]
      have hgo:=(hp.fns g (List.mem_of_getElem? hg)).args
      obtain ⟨k,hk⟩ : ∃ k : Nat,g.Args = (k : Int):=⟨_,(Int.toNat_of_nonneg hgo.1).symm⟩
      rw [hk]
      simp only [hand_is f p e fu us 0 (show k ≤ 7 by omega),po_of,Int.toNat_natCast]
      by_cases h3 : handE f 0 k = 0
      · have d3 : (handE f 0 k != 0) = false:=by simpa using h3
        simp only [d3,cond_false,if_neg (show ¬ (handE f 0 k ≠ 0) from fun q=>q h3),h3]
        cases pf ⟨p,e,fu,us,0⟩ (i.Imm.toNat : Int) (handV f k) with
        | none=>rfl
        | some q=>
          simp only [po_of,back_is]
          rfl
      · have d3 : (handE f 0 k != 0) = true:=by simpa using h3
        simp only [d3,cond_true,if_pos h3]
theorem step_end {pf : PF} {x : Cv} {r : Rn} {f : Fra} (h : r.err ≠ 0 ∨ f.over = true) : stepR pf x (r,f) = some (.inr (r,f)):=by
  unfold stepR Cz
  by_cases h1 : r.err = 0
  · have d : (r.err == 0) = true:=by simpa using h1
    have ho : f.over = true:=by rcases h with h | h; exact absurd h1 h; exact h
    simp only [d,cond_true,po_of,ho,Bool.not_true,Cy,cond_false]
  · have d : (r.err == 0) = false:=by simpa using h1
    simp only [d,cond_false,po_of,Cy]
theorem step_long {pf : PF} {x : Cv} {p : Aq} {e : Bf} {fu : Int} {f : Fra} (ho : f.over = false) : stepR pf x (⟨p,e,fu,fu,0⟩,f) = some (.inl (⟨p,e,fu,fu,2⟩,f)):=by
  unfold stepR Cz
  simp only [show ((0 : Int) == 0) = true from rfl,cond_true,po_of,ho,Bool.not_false,Cy,beq_self_eq_true,fail_is]
  rfl
theorem wUsed {us fu : Int} (h : 0 ≤ us ∧ us < fu) (hf : fu ≤ 1000000) : IntKind.i64.wrap (us + 1) = us + 1:=wrap_i64 (by omega) (by omega)
theorem step_off {pf : PF} {x : Cv} {p : Aq} {e : Bf} {fu us : Int} {f : Fra} (ho : f.over = false) (hu : 0 ≤ us ∧ us < fu) (hf : fu ≤ 1000000) (ha : (x.Code.length : Int) ≤ f.at_) :
    stepR pf x (⟨p,e,fu,us,0⟩,f) = some (.inl (⟨p,e,fu,us + 1,10⟩,f)):=by
  unfold stepR Cz
  have d1 : (us == fu) = false:=by simp; omega
  have d2 : decide (f.at_ ≥ (x.Code.length : Int)) = true:=by simp; omega
  simp only [show ((0 : Int) == 0) = true from rfl,cond_true,po_of,ho,Bool.not_false,Cy,d1,d2,cond_false,fail_is,wUsed hu hf]
  rfl
theorem step_op {pf : PF} {x : Cv} {p : Aq} {e : Bf} {fu us : Int} {f : Fra} {i : Am} (ho : f.over = false) (hu : 0 ≤ us ∧ us < fu) (hf : fu ≤ 1000000) (ha : 0 ≤ f.at_ ∧ f.at_ ≤ 64) (hi : x.Code[f.at_.toNat]? = some i)
    (hI : InstOk i) (hF : Fits e.T) (h6 : i.Op ≠ 6) :
    stepR pf x (⟨p,e,fu,us,0⟩,f) = some (.inl (⟨p,(opS f e 0 i).2.1,fu,us + 1,(opS f e 0 i).2.2⟩,atF (opS f e 0 i).1 ((opS f e 0 i).1.at_ + 1))):=by
  have hlt:=get_lt hi
  have hk:=op_keeps f hI hF
  have hw : IntKind.i64.wrap ((opS f e 0 i).1.at_ + 1) = (opS f e 0 i).1.at_ + 1:=wrap_i64 (by have:=hk.at_; omega) (by have:=hk.at_; omega)
  have d1 : (us == fu) = false:=by simp; omega
  have d2 : decide (f.at_ ≥ (x.Code.length : Int)) = false:=by simp; omega
  have hop:=hI.op
  unfold stepR Cz
  simp only [show ((0 : Int) == 0) = true from rfl,cond_true,po_of,ho,Bool.not_false,Cy,d1,d2,cond_false,wUsed hu hf,idx_of ha.1 hi]
  have ne : ∀ k : Int,i.Op ≠ k → (i.Op == k) = false:=fun k h=>by simpa using h
  have eq : ∀ k : Int,i.Op = k → (i.Op == k) = true:=fun k h=>by simpa using h
  have hc : i.Op = 0 ∨ i.Op = 1 ∨ (i.Op = 2 ∨ i.Op = 3 ∨ i.Op = 4) ∨ i.Op = 5 ∨ i.Op = 7:=by omega
  rcases hc with q | q | q | q | q
  · have e1 : opS f e 0 i = ((aluS f 0 i).1,e,(aluS f 0 i).2):=by unfold opS; rw [if_pos q]
    rw [e1] at hw ⊢
    simp only [eq 0 q,cond_true,aluS_is f p e fu _ 0 hI q,po_of,hw]
    rfl
  · have e1 : opS f e 0 i = ((jumpS f 0 i).1,e,(jumpS f 0 i).2):=by unfold opS; rw [if_neg (by omega),if_pos q]
    rw [e1] at hw ⊢
    simp only [ne 0 (by omega),eq 1 q,cond_true,cond_false,jumpS_is f p e fu _ 0 hI (by omega),po_of,hw]
    rfl
  · have e1 : opS f e 0 i = ((wordsS f e.Ctx 0 i).1,e,(wordsS f e.Ctx 0 i).2):=by unfold opS; rw [if_neg (by omega),if_neg (by omega),if_neg (by omega),if_neg (by omega)]
    rw [e1] at hw ⊢
    rcases q with q' | q' | q'
    · simp only [ne 0 (by omega),ne 1 (by omega),eq 2 q',cond_true,cond_false,wordsS_is f p e fu _ 0 hI (.inl q'),po_of,hw]
      rfl
    · simp only [ne 0 (by omega),ne 1 (by omega),ne 2 (by omega),eq 3 q',cond_true,cond_false,wordsS_is f p e fu _ 0 hI (.inr (.inl q')),po_of,hw]
      rfl
    · simp only [ne 0 (by omega),ne 1 (by omega),ne 2 (by omega),ne 3 (by omega),eq 4 q',cond_true,cond_false,wordsS_is f p e fu _ 0 hI (.inr (.inr q')),po_of,hw]
      rfl
  · have e1 : opS f e 0 i = helpS f e 0 i:=by unfold opS; rw [if_neg (by omega),if_neg (by omega),if_pos q]
    rw [e1] at hw ⊢
    simp only [ne 0 (by omega),ne 1 (by omega),ne 2 (by omega),ne 3 (by omega),ne 4 (by omega),eq 5 q,cond_true,cond_false,helpS_is f p e fu _ 0 i hF,po_of,hw]
    rfl
  · have e1 : opS f e 0 i = ((exitS f 0).1,e,(exitS f 0).2):=by unfold opS; rw [if_neg (by omega),if_neg (by omega),if_neg (by omega),if_pos q]
    rw [e1] at hw ⊢
    simp only [ne 0 (by omega),ne 1 (by omega),ne 2 (by omega),ne 3 (by omega),ne 4 (by omega),ne 5 (by omega),ne 6 (by omega),eq 7 q,cond_true,cond_false,exitS_is f p e fu _ 0 i,po_of,hw]
    rfl
theorem step_call {pf : PF} {x : Cv} {p : Aq} {e : Bf} {fu us : Int} {f f' : Fra} {r' : Rn} {i : Am} (ho : f.over = false) (hu : 0 ≤ us ∧ us < fu) (hf : fu ≤ 1000000) (ha : 0 ≤ f.at_ ∧ f.at_ ≤ 64) (hi : x.Code[f.at_.toNat]? = some i)
    (hp : ProgOk p) (h6 : i.Op = 6) (hc : callS pf f p e fu (us + 1) i = some (f',r')) (hat : f'.at_ = f.at_) :
    stepR pf x (⟨p,e,fu,us,0⟩,f) = some (.inl (r',atF f' (f.at_ + 1))):=by
  have hlt:=get_lt hi
  have hw : IntKind.i64.wrap (f.at_ + 1) = f.at_ + 1:=wrap_i64 (by omega) (by omega)
  have d1 : (us == fu) = false:=by simp; omega
  have d2 : decide (f.at_ ≥ (x.Code.length : Int)) = false:=by simp; omega
  unfold stepR Cz
  simp only [show ((0 : Int) == 0) = true from rfl,cond_true,po_of,ho,Bool.not_false,Cy,d1,d2,cond_false,wUsed hu hf,idx_of ha.1 hi]
  have ne : ∀ k : Int,i.Op ≠ k → (i.Op == k) = false:=fun k h=>by simpa using h
  have eq : (i.Op == 6) = true:=by simpa using h6
  simp only [ne 0 (by omega),ne 1 (by omega),ne 2 (by omega),ne 3 (by omega),ne 4 (by omega),ne 5 (by omega),eq,cond_true,cond_false,callS_is hp,hc,po_of,hat,hw]
  rfl
def putsF (f : Fra) : Nat → List UInt32 → Fra
  | _,[]=>f
  | n,v :: l=>putsF (putF f (n + 1) v) (n + 1) l
def newF (fn : Int) : Fra:=⟨fn,0,⟨0,0,0,0,0,0,0,0⟩,⟨false,false,false,false,false,false,false,false⟩,⟨0,0,0,0,0,0,0,0,0,0,0,0,0,0,0,0⟩,false⟩
theorem putsF_same (f : Fra) (n : Nat) (l : List UInt32) : (putsF f n l).fn = f.fn ∧ (putsF f n l).at_ = f.at_ ∧ (putsF f n l).over = f.over:=by
  induction l generalizing f n with
  | nil=>exact ⟨rfl,rfl,rfl⟩
  | cons v l ih=>exact ih (putF f (n + 1) v) (n + 1)
theorem args_is' (r : Rn) (f : Fra) (a : List UInt32) (h : a.length ≤ 7) : lpU (fun x=>Dr a x.1 x.2.1 x.2.2) (r,f,0) = some (r,putsF f 0 a):=by
  have key : ∀ (l : List UInt32) (n : Nat) (g : Fra),a.drop n = l → n + l.length = a.length → lpU (fun x=>Dr a x.1 x.2.1 x.2.2) (r,g,(n : Int)) = some (r,putsF g n l):=by
    intro l
    induction l with
    | nil=>
      intro n g hd hn
      refine lpU_inr ?_
      have d : decide ((n : Int) < (a.length : Int)) = false:=by simp at hn; simp; omega
      simp only [Dr,d,cond_false]
      rfl
    | cons v l ih=>
      intro n g hd hn
      simp only [List.length_cons] at hn
      have d : decide ((n : Int) < (a.length : Int)) = true:=by simp; omega
      have hv : a[n]? = some v:=by
        have:=congrArg (fun q=>q[0]?) hd
        simpa using this
      rw [lpU_inl (s':=(r,putF g (n + 1) v,((n + 1 : Nat) : Int)))]
      · exact ih (n + 1) _ (by rw [← List.drop_drop,hd]; rfl) (by omega)
      · simp only [Dr,d,cond_true,idx_nat,hv,po_of,w64 (show n < 9223372036854775807 by omega),put_is' g r (show 0 ≤ ((n + 1 : Nat) : Int) ∧ ((n + 1 : Nat) : Int) < 8 by omega),Int.toNat_natCast]
  exact key a 0 f rfl (by simp)
theorem frame_is {pf : PF} {r : Rn} {fn : Int} {a : List UInt32} {x : Cv} (ha : a.length ≤ 7) (h0 : 0 ≤ fn) (hx : r.p.Fns[fn.toNat]? = some x) :
    El pf r fn a = po (lpU (stepR pf x) (r,putsF (newF fn) 0 a)) (fun q=>some (q.2.regs.a0,q.1)):=by
  unfold El
  have e:=args_is' r (newF fn) a ha
  unfold newF at e
  rw [e]
  simp only [po_of,Fe,idx_of h0 hx]
  rfl
structure SI (P : Aq) (FU : Int) (FN : Int) (e0 : Bf) (u0 : Int) (s : Rn × Fra) : Prop where
  p : s.1.p = P
  fu : s.1.fuel = FU
  us : u0 ≤ s.1.used ∧ s.1.used ≤ FU
  e : EKeep e0 s.1.e
  err : s.1.err = 0 ∨ s.1.err = 2 ∨ s.1.err = 10
  long : s.1.err = 2 → s.1.used = FU
  fn : s.2.fn = FN
  at_ : 0 ≤ s.2.at_ ∧ s.2.at_ ≤ 70000
structure FnPost (r r' : Rn) : Prop where
  p : r'.p = r.p
  fu : r'.fuel = r.fuel
  us : r.used ≤ r'.used ∧ r'.used ≤ r.fuel
  e : EKeep r.e r'.e
  err : r'.err = 0 ∨ r'.err = 2 ∨ r'.err = 10
  long : r'.err = 2 → r'.used = r.fuel
structure FnPre (P : Aq) (r : Rn) (FN : Int) (A : List UInt32) : Prop where
  p : r.p = P
  us : 0 ≤ r.used ∧ r.used ≤ r.fuel
  fu : r.fuel ≤ 1000000
  e : Fits r.e.T
  err : r.err = 0
  fn : 0 ≤ FN ∧ FN < (P.Fns.length : Int)
  a : A.length ≤ 7
def PfOk (p : Aq) (pf : PF) (fn : Int) : Prop:=∀ r k a,fn < k → FnPre p r k a → ∃ v r',pf r k a = some (v,r') ∧ FnPost r r'
inductive Rnd (pf : PF) (x : Cv) (p : Aq) (e : Bf) (fu us : Int) (f : Fra) : Rn → Fra → Prop where
  | long (h : us = fu) : Rnd pf x p e fu us f ⟨p,e,fu,fu,2⟩ f
  | off (h : us < fu) (ha : (x.Code.length : Int) ≤ f.at_) : Rnd pf x p e fu us f ⟨p,e,fu,us + 1,10⟩ f
  | op (h : us < fu) (i : Am) (ha : f.at_ < (x.Code.length : Int)) (hi : x.Code[f.at_.toNat]? = some i) (h6 : i.Op ≠ 6) : Rnd pf x p e fu us f ⟨p,(opS f e 0 i).2.1,fu,us + 1,(opS f e 0 i).2.2⟩ (atF (opS f e 0 i).1 ((opS f e 0 i).1.at_ + 1))
  | fail (h : us < fu) (i : Am) (ha : f.at_ < (x.Code.length : Int)) (hi : x.Code[f.at_.toNat]? = some i) (h6 : i.Op = 6) (hc : ∀ (pf' : PF) (e' : Bf) (fu' us' : Int),callS pf' f p e' fu' us' i = some (f,⟨p,e',fu',us',10⟩)) :
      Rnd pf x p e fu us f ⟨p,e,fu,us + 1,10⟩ (atF f (f.at_ + 1))
  | call (h : us < fu) (i : Am) (g : Cv) (v : UInt32) (r' : Rn) (ha : f.at_ < (x.Code.length : Int)) (hi : x.Code[f.at_.toNat]? = some i) (h6 : i.Op = 6) (hg : p.Fns[i.Imm.toNat]? = some g) (hfn : f.fn < (i.Imm.toNat : Int)) (he : handE f 0 g.Args.toNat = 0)
      (hc : pf ⟨p,e,fu,us + 1,0⟩ (i.Imm.toNat : Int) (handV f g.Args.toNat) = some (v,r')) : Rnd pf x p e fu us f r' (atF (backF f v) (f.at_ + 1))
theorem callS_go {pf : PF} {f : Fra} {p : Aq} {e : Bf} {fu us : Int} {i : Am} {g : Cv} {v : UInt32} {r' : Rn} (hg : p.Fns[i.Imm.toNat]? = some g) (hfn : f.fn < (i.Imm.toNat : Int)) (he : handE f 0 g.Args.toNat = 0)
    (hc : pf ⟨p,e,fu,us,0⟩ (i.Imm.toNat : Int) (handV f g.Args.toNat) = some (v,r')) : callS pf f p e fu us i = some (backF f v,r'):=by
  unfold callS
  rw [hg]
  simp only
  rw [if_neg (by omega),if_neg (by rw [he]; simp),hc]
theorem backF_at (f : Fra) (v : UInt32) : (backF f v).fn = f.fn ∧ (backF f v).at_ = f.at_:=clrF_at (putF f 0 v) 5
theorem callPre {p : Aq} {e : Bf} {fu us : Int} {f : Fra} {i : Am} {g : Cv} (hp : ProgOk p) (hF : Fits e.T) (hu : 0 ≤ us ∧ us < fu) (hf : fu ≤ 1000000) (hg : p.Fns[i.Imm.toNat]? = some g) : FnPre p ⟨p,e,fu,us + 1,0⟩ (i.Imm.toNat : Int) (handV f g.Args.toNat):=
  ⟨rfl,⟨by show 0 ≤ us + 1; omega,by show us + 1 ≤ fu; omega⟩,hf,hF,rfl,⟨by omega,by have:=get_lt hg; omega⟩,by
    rw [handV_len]
    have:=(hp.fns g (List.mem_of_getElem? hg)).args
    omega⟩
theorem round {pf : PF} {p : Aq} {fn : Int} {x : Cv} (hp : ProgOk p) (hx : FnOk x) (hpf : PfOk p pf fn) {e : Bf} {fu us : Int} {f : Fra} (ho : f.over = false) (hu : 0 ≤ us ∧ us ≤ fu) (hf : fu ≤ 1000000) (hat : 0 ≤ f.at_) (hfn : f.fn = fn) (h0 : 0 ≤ fn) (hF : Fits e.T) :
    ∃ r' f',stepR pf x (⟨p,e,fu,us,0⟩,f) = some (.inl (r',f')) ∧ Rnd pf x p e fu us f r' f':=by
  by_cases h1 : us = fu
  · subst h1
    exact ⟨_,_,step_long ho,.long rfl⟩
  have hlt : us < fu:=by omega
  by_cases h2 : (x.Code.length : Int) ≤ f.at_
  · exact ⟨_,_,step_off ho ⟨hu.1,hlt⟩ hf h2,.off hlt h2⟩
  have hl:=hx.len
  obtain ⟨i,hi⟩ : ∃ i,x.Code[f.at_.toNat]? = some i:=⟨_,List.getElem?_eq_getElem (by omega)⟩
  have hI:=hx.code i (List.mem_of_getElem? hi)
  by_cases h6 : i.Op = 6
  case neg=>exact ⟨_,_,step_op ho ⟨hu.1,hlt⟩ hf ⟨hat,by omega⟩ hi hI hF h6,.op hlt i (by omega) hi h6⟩
  have bad : (∀ (pf' : PF) (e' : Bf) (fu' us' : Int),callS pf' f p e' fu' us' i = some (f,⟨p,e',fu',us',10⟩)) → ∃ r' f',stepR pf x (⟨p,e,fu,us,0⟩,f) = some (.inl (r',f')) ∧ Rnd pf x p e fu us f r' f':=fun hb=>
    ⟨_,_,step_call ho ⟨hu.1,hlt⟩ hf ⟨hat,by omega⟩ hi hp h6 (hb _ _ _ _) rfl,.fail hlt i (by omega) hi h6 hb⟩
  cases hg : p.Fns[i.Imm.toNat]? with
  | none=>exact bad fun pf' e' fu' us'=>by unfold callS; rw [hg]
  | some g=>
    by_cases h7 : (i.Imm.toNat : Int) ≤ f.fn
    · exact bad fun pf' e' fu' us'=>by unfold callS; rw [hg]; simp only; rw [if_pos h7]
    · by_cases h8 : handE f 0 g.Args.toNat = 0
      · obtain ⟨v,r',hc,_⟩:=hpf _ _ _ (by omega) (callPre (f:=f) hp hF ⟨hu.1,hlt⟩ hf hg)
        exact ⟨_,_,step_call ho ⟨hu.1,hlt⟩ hf ⟨hat,by omega⟩ hi hp h6 (callS_go hg (by omega) h8 hc) (backF_at f v).2,.call hlt i g v r' (by omega) hi h6 hg (by omega) h8 hc⟩
      · have h10 : handE f 0 g.Args.toNat = 10:=by
          rcases handE_or (f:=f) (n:=g.Args.toNat) (err:=0) (.inl rfl) with q | q
          · exact absurd q h8
          · exact q
        exact bad fun pf' e' fu' us'=>by unfold callS; rw [hg]; simp only; rw [if_neg h7,if_pos h8,h10]
theorem rnd_keeps {pf : PF} {p : Aq} {fn : Int} {x : Cv} (hp : ProgOk p) (hx : FnOk x) (hpf : PfOk p pf fn) {e e0 : Bf} {fu us u0 : Int} {f f' : Fra} {r' : Rn} (h : SI p fu fn e0 u0 (⟨p,e,fu,us,0⟩,f)) (h0 : 0 ≤ u0) (hf : fu ≤ 1000000) (hr : Rnd pf x p e fu us f r' f') : SI p fu fn e0 u0 (r',f') ∧ (us < r'.used ∨ (us = fu ∧ r'.used = fu ∧ r'.err = 2)):=by
  have hus : u0 ≤ us ∧ us ≤ fu:=h.us
  have hE : EKeep e0 e:=h.e
  have hat : 0 ≤ f.at_ ∧ f.at_ ≤ 70000:=h.at_
  have hfn : f.fn = fn:=h.fn
  have hl:=hx.len
  cases hr with
  | long h1=>exact ⟨⟨rfl,rfl,⟨by show u0 ≤ fu; omega,Int.le_refl _⟩,hE,.inr (.inl rfl),fun _=>rfl,hfn,hat⟩,.inr ⟨h1,rfl,rfl⟩⟩
  | off h1 h2=>exact ⟨⟨rfl,rfl,⟨by show u0 ≤ us + 1; omega,by show us + 1 ≤ fu; omega⟩,hE,.inr (.inr rfl),fun q=>absurd (show (10 : Int) = 2 from q) (by decide),hfn,hat⟩,.inl (by show us < us + 1; omega)⟩
  | op h1 i ha hi h6=>
    have hk:=op_keeps f (hx.code i (List.mem_of_getElem? hi)) hE.fits
    have hka:=hk.at_
    refine ⟨⟨rfl,rfl,⟨by show u0 ≤ us + 1; omega,by show us + 1 ≤ fu; omega⟩,hE.trans hk.e,?_,fun q=>?_,hk.fn.trans hfn,?_⟩,.inl (by show us < us + 1; omega)⟩
    · rcases hk.err with q | q
      · exact .inl q
      · exact .inr (.inr q)
    · have q' : (opS f e 0 i).2.2 = 2:=q
      rcases hk.err with q2 | q2
      · rw [q2] at q'; exact absurd q' (by decide)
      · rw [q2] at q'; exact absurd q' (by decide)
    · show 0 ≤ (opS f e 0 i).1.at_ + 1 ∧ (opS f e 0 i).1.at_ + 1 ≤ 70000
      omega
  | fail h1 i ha hi h6 hc=>exact ⟨⟨rfl,rfl,⟨by show u0 ≤ us + 1; omega,by show us + 1 ≤ fu; omega⟩,hE,.inr (.inr rfl),fun q=>absurd (show (10 : Int) = 2 from q) (by decide),hfn,by show 0 ≤ f.at_ + 1 ∧ f.at_ + 1 ≤ 70000; omega⟩,.inl (by show us < us + 1; omega)⟩
  | call h1 i g v _ ha hi h6 hg hlt he hc=>
    obtain ⟨v',r2,hc',hP⟩:=hpf _ _ _ (by omega) (callPre (f:=f) hp hE.fits ⟨by omega,h1⟩ hf hg)
    rw [hc] at hc'
    injection hc' with hc'
    injection hc' with _ hc'
    subst hc'
    have hPu : us + 1 ≤ r'.used ∧ r'.used ≤ fu:=hP.us
    exact ⟨⟨hP.p,hP.fu,⟨by show u0 ≤ r'.used; omega,hPu.2⟩,hE.trans hP.e,hP.err,hP.long,(backF_at f v).1.trans hfn,by show 0 ≤ f.at_ + 1 ∧ f.at_ + 1 ≤ 70000; omega⟩,.inl (by show us < r'.used; omega)⟩
theorem run_eta (r : Rn) (p : Aq) (fu : Int) (h1 : r.p = p) (h2 : r.fuel = fu) (h3 : r.err = 0) : r = ⟨p,r.e,fu,r.used,0⟩:=by
  obtain ⟨a,b,c,d,e⟩:=r
  simp only at h1 h2 h3
  subst h1
  subst h2
  subst h3
  rfl
def muR (fu : Int) (s : Rn × Fra) : Nat:=(fu - s.1.used).toNat * 2 + (if s.1.err = 0 then 1 else 0)
theorem mu_less {p : Aq} {fu fn u0 us : Int} {e0 e : Bf} {f f' : Fra} {r' : Rn} (hS : SI p fu fn e0 u0 (r',f')) (hus : us ≤ fu) (h : us < r'.used ∨ (us = fu ∧ r'.used = fu ∧ r'.err = 2)) : muR fu (r',f') < muR fu ((⟨p,e,fu,us,0⟩ : Rn),f):=by
  have h2 : r'.used ≤ fu:=hS.us.2
  unfold muR
  simp only [if_true]
  rcases h with h | ⟨h1,h3,h4⟩
  · split <;> omega
  · rw [h4,if_neg (by decide)]
    omega
theorem loop_tells {pf : PF} {p : Aq} {fn : Int} {x : Cv} (hp : ProgOk p) (hx : FnOk x) (hpf : PfOk p pf fn) (hfn : 0 ≤ fn) {fu u0 : Int} {e0 : Bf} (h0 : 0 ≤ u0) (hf : fu ≤ 1000000) (s : Rn × Fra) (h : SI p fu fn e0 u0 s) :
    ∃ q,lpU (stepR pf x) s = some q ∧ SI p fu fn e0 u0 q ∧ (q.1.err ≠ 0 ∨ q.2.over = true):=by
  refine lp_inv (SI p fu fn e0 u0) (muR fu) (fun q=>SI p fu fn e0 u0 q ∧ (q.1.err ≠ 0 ∨ q.2.over = true)) ?_ s h
  rintro ⟨r,f⟩ hS
  by_cases he : r.err ≠ 0 ∨ f.over = true
  · exact .inr ⟨_,step_end he,hS,he⟩
  · left
    have he1 : r.err = 0:=by
      by_cases q : r.err = 0
      · exact q
      · exact absurd (.inl q) he
    have ho : f.over = false:=by
      cases q : f.over with
      | false=>rfl
      | true=>exact absurd (.inr q) he
    have hus : u0 ≤ r.used ∧ r.used ≤ fu:=hS.us
    have eta:=run_eta r p fu hS.p hS.fu he1
    generalize r.e = e at eta
    generalize r.used = us at eta hus
    subst eta
    obtain ⟨r',f',h1,h2⟩:=round hp hx hpf (e:=e) ho ⟨by omega,hus.2⟩ hf hS.at_.1 hS.fn hfn hS.e.fits
    obtain ⟨h3,h4⟩:=rnd_keeps hp hx hpf hS h0 hf h2
    exact ⟨_,h1,h3,mu_less h3 hus.2 h4⟩
theorem si_new {p : Aq} {r : Rn} {fn : Int} {a : List UInt32} (h : FnPre p r fn a) : SI p r.fuel fn r.e r.used (r,putsF (newF fn) 0 a):=by
  obtain ⟨h1,h2,h3⟩:=putsF_same (newF fn) 0 a
  exact ⟨h.p,rfl,⟨Int.le_refl _,h.us.2⟩,.refl h.e,.inl h.err,fun q=>by rw [h.err] at q; exact absurd q (by decide),h1,by
    show 0 ≤ (putsF (newF fn) 0 a).at_ ∧ _
    rw [h2]
    exact ⟨Int.le_refl 0,by show (0 : Int) ≤ 70000; decide⟩⟩
theorem si_post {p : Aq} {r : Rn} {fn : Int} {q : Rn × Fra} (hp : r.p = p) (h : SI p r.fuel fn r.e r.used q) : FnPost r q.1:=⟨h.p.trans hp.symm,h.fu,h.us,h.e,h.err,h.long⟩
theorem frame_tells {p : Aq} (hp : ProgOk p) : ∀ (d : Nat) {fn : Int},(p.Fns.length : Int) - fn ≤ (d : Int) → ∀ r a,FnPre p r fn a → ∃ v r',Dw d r fn a = some (v,r') ∧ FnPost r r':=by
  intro d
  induction d with
  | zero=>intro fn hd r a h; have:=h.fn; omega
  | succ d ih=>
    intro fn hd r a h
    have hpf : PfOk p (Dw d) fn:=fun r k a hk hpre=>ih (by omega) r a hpre
    obtain ⟨x,hx⟩ : ∃ x,p.Fns[fn.toNat]? = some x:=⟨_,List.getElem?_eq_getElem (by have:=h.fn; omega)⟩
    have hxo:=hp.fns x (List.mem_of_getElem? hx)
    obtain ⟨q,h1,h2,_⟩:=loop_tells hp hxo hpf h.fn.1 h.us.1 h.fu _ (si_new h)
    refine ⟨q.2.regs.a0,q.1,?_,si_post h.p h2⟩
    show El (Dw d) r fn a = _
    rw [frame_is h.a h.fn.1 (by rw [h.p]; exact hx),h1]
    rfl
end Go.Proofs.YtcffmheeofjifaaGreat
