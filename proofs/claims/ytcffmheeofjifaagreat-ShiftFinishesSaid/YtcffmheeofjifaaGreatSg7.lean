/-
  PROVED: the statement ShiftFinishes of the given seat: whatever the map, the schema and the program, drydocklaw18.ShiftFinishes returns true, and what was handed in reads as it did.
  Conditions: none beyond the statement's own.
-/
import Derived.Test.YtcffmheeofjifaaGreatSg6
import Derived.ProofKit
import Derived.Deep.Slices
import Derived.OpenShut
import Derived.Test.YtcffmheeofjifaaGreatRows
set_option linter.unusedVariables false
set_option linter.unusedSimpArgs false
set_option maxHeartbeats 4000000
set_option maxRecDepth 100000
namespace Go.Proofs.YtcffmheeofjifaaGreat
open Go Go.RowKit Go.Proofs.Tryz
noncomputable def Ua (s_9 : Be) : Option ((Be × Int) ⊕ ((Be) ⊕ (Be × Bool × Int))):=
  some (Sum.inr (Sum.inr (s_9,false,0)))
noncomputable def Dn (a1 : Ap) (s_2 : Be) (i_3 : Int) : Option ((Be × Int) ⊕ ((Be) ⊕ (Be × Bool × Int))):=
  cond (decide (i_3 < (a1.E.length : Int))) (
  po (idx a1.E i_3) fun x7=>
  po (Cd s_2.Done x7.Key) fun r8=>
  cond r8 (
  some (Sum.inl (s_2,(IntKind.i64.wrap (i_3 + 1))))) (
  po (Em s_2.S s_2.P x7.Key x7.V) fun r10=>
  cond (r10.2 != 0) (
  some (Sum.inr (Sum.inr ((Be.mk (Ar.mk 0 0 0 0) (Aq.mk []) [] (Ap.mk (Ar.mk 0 0 0 0) [] 0)),false,r10.2)))) (
  pg ((s_2.Done.length + 1) * 4 ≤ 140737488355328) <|
  pl (s_2.Done ++ ([x7.Key])) fun y13=>
  po (
  po (Dd s_2.To.E x7.Key) fun r15=>
  cond (decide (r15 ≥ 0)) (
  po (idx s_2.To.E r15) fun x17=>
  pl (s_2.To.E.set r15.toNat (Bd.mk x17.Key r10.1)) fun y18=>
  some (Be.mk s_2.S s_2.P y13 (Ap.mk s_2.To.S y18 s_2.To.Next))) (
  pg ((s_2.To.E.length + 1) * 32 ≤ 140737488355328) <|
  pl (s_2.To.E ++ ([(Bd.mk x7.Key r10.1)])) fun y20=>
  some (Be.mk s_2.S s_2.P y13 (Ap.mk s_2.To.S y20 s_2.To.Next)))) (fun x=>Ua x)))) (
  some (Sum.inr (Sum.inl s_2)))
noncomputable def Vd (s_8 : Be) : Option (Be × Bool × Int):=
  some (s_8,true,0)
noncomputable def Ms (a0 : Be) (a1 : Ap) : Option (Be × Bool × Int):=
  po (Oy a0 a1) fun r1=>
  cond (!r1) (
  some ((Be.mk (Ar.mk 0 0 0 0) (Aq.mk []) [] (Ap.mk (Ar.mk 0 0 0 0) [] 0)),false,1)) (
  po (Nj a0 a1) fun r3=>
  pm (
  lpU (fun x=>Dn a1 x.1 x.2) (r3,0)) (fun x=>Vd x))
theorem Gn0 {a0 : Be} {a1 : Ap} {r : Be × Bool × Int} (h : Ms a0 a1 = some r) : Ctr prog 28 [.agg (Ef a0),.agg (Bb a1)] [] (.tup [.agg (Ef r.1),rb r.2.1,ri r.2.2]) []:=by
 unfold Ms at h;refine Ctr.ofW Ba func28 rfl call28 0 _ ntmps28 [.cell 4 75,.tmp 5,.tmp 6] rfl rfl rfl (fun B=>?_);refine vs [2,3,4] fun _ k=>?_;push_cast;apply k;clear k;refine VC.seq ?_;obtain ⟨r1,hr1,h⟩:=Aa h;refine vs [2,3,4,15] fun _ k=>?_;push_cast;refine cp (Ck0 hr1) ?_;push_cast;apply k;clear k;refine vc h (fun hb2 h=>?_) (fun hb2 h=>?_)
 ·refine vs [4,5,6] fun _ k=>?_;push_cast;apply k;clear k;refine VC.ret ?_;replace h:=Option.some.inj h;subst h;exact en (by push_cast [hb2])
 ·refine VC.skip ?_;refine VC.sub (Sub.spare (e:=25) (sz:=1)) ?_;refine VC.sub (s':=⟨[(2,.ref 0 0),(3,.ref 1 0),(4,.ref 2 0)],[(0,.box 75 (Ef a0)),(1,.box 53 (Bb a1)),(2,.box 75 [ri 0,ri 0,ri 0,ri 0,.sl true [],.sl true [],ri 0,ri 0,ri 0,ri 0,.sl true [],.raw (.int .u32 0)]),(9,.row 25 1 0 ([].map Ax))],10,84,0⟩) (so (by push_cast [hb2])) ?_;obtain ⟨r3,hr3,h⟩:=Aa h;refine vs [2,3,4] fun _ k=>?_;push_cast;refine ch (H:=[(9,.row 25 1 0 ([].map Ax))]) (Ctr.loH (Ctr.ren (Bij.swp 1 12 (Bij.swp 0 9 Bij.id)) (Au0 hr3) (by push_cast) (by push_cast))) (by push_cast) ?_;push_cast;apply k;clear k;refine VC.sub (s':=⟨[(2,.ref 0 0),(3,.ref 1 0),(4,.ref 2 0)],[(0,.box 75 [ri r3.S.Kind,ri r3.S.Cap,ri r3.S.Words,ri r3.S.Ver,.sl false (r3.P.Fns.map Al),.row 9 1 1 0 r3.Done.length,ri r3.To.S.Kind,ri r3.To.S.Cap,ri r3.To.S.Words,ri r3.To.S.Ver,.row 12 0 2 0 r3.To.E.length,ru r3.To.Next]),(1,.box 53 (Bb a1)),(2,.box 75 [ri 0,ri 0,ri 0,ri 0,.sl true [],.sl true [],ri 0,ri 0,ri 0,ri 0,.sl true [],.raw (.int .u32 0)]),(9,.row 25 1 1 (r3.Done.map Ax)),(12,.row 66 2 0 (r3.To.E.map Av))],14,84,0⟩) (so (by push_cast [hb2])) ?_;refine vm h (fun x=>⟨[(2,.ref 0 0),(4,.ref 2 0)],[(0,.box 75 [ri x.S.Kind,ri x.S.Cap,ri x.S.Words,ri x.S.Ver,.sl false (x.P.Fns.map Al),.row 9 0 1 0 x.Done.length,ri x.To.S.Kind,ri x.To.S.Cap,ri x.To.S.Words,ri x.To.S.Ver,.row 12 0 2 0 x.To.E.length,ru x.To.Next]),(2,.box 75 [ri 0,ri 0,ri 0,ri 0,.sl true [],.sl true [],ri 0,ri 0,ri 0,ri 0,.sl true [],.raw (.int .u32 0)]),(9,.row 25 1 0 (x.Done.map Ax)),(12,.row 66 2 0 (x.To.E.map Av))],31,84,0⟩) (fun v4 h hk4=>?_) ?_
  ·refine vs [2,4,21,22,23] fun _ k=>?_;push_cast;apply k;clear k;refine VC.block ?_;refine VC.loopP h (fun x=>⟨[(2,.ref 0 0),(4,.ref 2 0),(21,.sl false (a1.E.map Av)),(22,ri (a1.E.length : Int)),(23,ri x.2)],[(0,.box 75 [ri x.1.S.Kind,ri x.1.S.Cap,ri x.1.S.Words,ri x.1.S.Ver,.sl false (x.1.P.Fns.map Al),.row 9 0 1 0 x.1.Done.length,ri x.1.To.S.Kind,ri x.1.To.S.Cap,ri x.1.To.S.Words,ri x.1.To.S.Ver,.row 12 0 2 0 x.1.To.E.length,ru x.1.To.Next]),(2,.box 75 [ri 0,ri 0,ri 0,ri 0,.sl true [],.sl true [],ri 0,ri 0,ri 0,ri 0,.sl true [],.raw (.int .u32 0)]),(9,.row 25 1 0 (x.1.Done.map Ax)),(12,.row 66 2 0 (x.1.To.E.map Av))],30,84,0⟩) ?_ ?_
   ·refine Sub.trans (so (s':=⟨[(2,.ref 0 0),(4,.ref 2 0),(21,.sl false (a1.E.map Av)),(22,ri (a1.E.length : Int)),(23,ri 0)],[(0,.box 75 [ri r3.S.Kind,ri r3.S.Cap,ri r3.S.Words,ri r3.S.Ver,.sl false (r3.P.Fns.map Al),.row 9 1 1 0 r3.Done.length,ri r3.To.S.Kind,ri r3.To.S.Cap,ri r3.To.S.Words,ri r3.To.S.Ver,.row 12 0 2 0 r3.To.E.length,ru r3.To.Next]),(2,.box 75 [ri 0,ri 0,ri 0,ri 0,.sl true [],.sl true [],ri 0,ri 0,ri 0,ri 0,.sl true [],.raw (.int .u32 0)]),(9,.row 25 1 1 (r3.Done.map Ax)),(12,.row 66 2 0 (r3.To.E.map Av))],18,84,0⟩) (by push_cast [hb2])) ?_;refine Sub.trans (Sub.renB (b:=0) (j:=5) (i':=9) rfl rfl rfl (Nat.le_of_ble_eq_true rfl) (Nat.le_of_ble_eq_true rfl) rfl) ?_;exact so (by push_cast [hb2])
   rintro ⟨s_2,i_3⟩ b5 (h : Dn a1 s_2 i_3 = some b5) hf5;(try push_cast);unfold Dn at h;refine vs [2,4,21,22,23,24] fun _ k=>?_;push_cast;apply k;clear k;refine VC.seq ?_;refine vc h (fun hb6 h=>?_) (fun hb6 h=>?_)
   ·refine VC.skip ?_;refine VC.seq ?_;refine VC.block ?_;obtain ⟨x7,hx7,h⟩:=Aa h;replace hx7:=Bh hx7;refine vs [2,4,8,21,22,23] fun _ k=>?_;push_cast [hx7];(repeat refine ao ?_);apply k;clear k;refine VC.seq ?_;obtain ⟨r8,hr8,h⟩:=Aa h;refine vs [2,4,8,21,22,23,31] fun _ k=>?_;push_cast;refine ch (H:=[(9,.row 25 1 0 (s_2.Done.map Ax))]) (H':=_) (Ctr.borrow (Il hr8) (by push_cast) rfl) (by push_cast) ?_;push_cast;apply k;clear k;refine vc h (fun hb9 h=>?_) (fun hb9 h=>?_)
    ·refine VC.exit ?_;refine vl fun _ k=>?_;push_cast;apply k;clear k;refine bk h ?_;exact so (by push_cast [hb2,hb6,hb9])
    ·refine VC.skip ?_;obtain ⟨r10,hr10,h⟩:=Aa h;refine vs [2,4,8,9,10] fun _ k=>?_;refine Ag 8 fun _ l=>?_;push_cast;apply l;clear l;simp only [List.drop_succ_cons,List.drop_zero];push_cast;refine ch (H:=[]) (Ctr.loH (Ctr.ren (Bij.swp 0 48 Bij.id) (Xq hr10) (by push_cast) (by push_cast))) (by push_cast) ?_;push_cast;apply k;clear k;refine VC.sub (s':=⟨[(2,.ref 0 0),(4,.ref 2 0),(8,.ref 33 0),(9,.row 48 0 1 0 r10.1.length),(10,ri r10.2)],[(0,.box 75 [ri s_2.S.Kind,ri s_2.S.Cap,ri s_2.S.Words,ri s_2.S.Ver,.sl false (s_2.P.Fns.map Al),.row 9 0 1 0 s_2.Done.length,ri s_2.To.S.Kind,ri s_2.To.S.Cap,ri s_2.To.S.Words,ri s_2.To.S.Ver,.row 12 0 2 0 s_2.To.E.length,ru s_2.To.Next]),(2,.box 75 [ri 0,ri 0,ri 0,ri 0,.sl true [],.sl true [],ri 0,ri 0,ri 0,ri 0,.sl true [],.raw (.int .u32 0)]),(9,.row 25 1 0 (s_2.Done.map Ax)),(12,.row 66 2 0 (s_2.To.E.map Av)),(33,.box 66 (Av x7)),(48,.row 25 1 0 (r10.1.map Ax))],54,84,0⟩) (so (by push_cast [hb2,hb6,hb9])) ?_;refine VC.seq ?_;refine vs [2,4,8,9,10,45] fun _ k=>?_;push_cast;apply k;clear k;refine vc h (fun hb11 h=>?_) (fun hb11 h=>?_)
     ·refine vs [4,5,6] fun _ k=>?_;push_cast;apply k;clear k;refine VC.ret ?_;replace h:=ol h hf5;replace h:=om h hk4;replace h:=Option.some.inj h;subst h;exact en (by push_cast [hb2,hb6,hb9,hb11])
     ·refine VC.skip ?_;obtain ⟨hg12,h⟩:=Bs h;obtain ⟨y13,hy13,h⟩:=Bo h;refine vs [2,4,8,9] fun _ k=>?_;push_cast [hg12];(repeat refine ao ?_);apply k;clear k;refine VC.sub (s':=⟨[(2,.ref 0 0),(4,.ref 2 0),(8,.ref 33 0),(9,.row 48 0 1 0 r10.1.length)],[(0,.box 75 [ri s_2.S.Kind,ri s_2.S.Cap,ri s_2.S.Words,ri s_2.S.Ver,.sl false (s_2.P.Fns.map Al),.row 9 1 1 0 y13.length,ri s_2.To.S.Kind,ri s_2.To.S.Cap,ri s_2.To.S.Words,ri s_2.To.S.Ver,.row 12 0 2 0 s_2.To.E.length,ru s_2.To.Next]),(2,.box 75 [ri 0,ri 0,ri 0,ri 0,.sl true [],.sl true [],ri 0,ri 0,ri 0,ri 0,.sl true [],.raw (.int .u32 0)]),(9,.row 25 1 1 (y13.map Ax)),(12,.row 66 2 0 (s_2.To.E.map Av)),(33,.box 66 (Av x7)),(48,.row 25 1 0 (r10.1.map Ax))],64,84,0⟩) (so (by push_cast [hb2,hb6,hb9,hb11,hy13])) ?_;refine vj h (fun x=>⟨[(2,.ref 0 0),(4,.ref 2 0)],[(0,.box 75 [ri x.S.Kind,ri x.S.Cap,ri x.S.Words,ri x.S.Ver,.sl false (x.P.Fns.map Al),.row 9 0 1 0 x.Done.length,ri x.To.S.Kind,ri x.To.S.Cap,ri x.To.S.Words,ri x.To.S.Ver,.row 12 0 2 0 x.To.E.length,ru x.To.Next]),(2,.box 75 [ri 0,ri 0,ri 0,ri 0,.sl true [],.sl true [],ri 0,ri 0,ri 0,ri 0,.sl true [],.raw (.int .u32 0)]),(9,.row 25 1 0 (x.Done.map Ax)),(12,.row 66 2 0 (x.To.E.map Av))],85,84,0⟩) (fun v14 h hk14=>?_) ?_
      ·obtain ⟨r15,hr15,h⟩:=Aa h;refine vs [2,4,8,9,11] fun _ k=>?_;push_cast;refine ch (H:=[(12,.row 66 2 0 (s_2.To.E.map Av))]) (H':=_) (Ctr.borrow (Rq hr15) (by push_cast) rfl) (by push_cast) ?_;push_cast;apply k;clear k;refine vs [2,4,8,9,11,62] fun _ k=>?_;push_cast;apply k;clear k;refine vc h (fun hb16 h=>?_) (fun hb16 h=>?_)
       ·obtain ⟨x17,hx17,h⟩:=Aa h;replace hx17:=Bh hx17;obtain ⟨y18,hy18,h⟩:=Bo h;have hy18l : y18.length = s_2.To.E.length:=by rw [hy18,List.length_set]
        refine vl fun _ k=>?_;push_cast [hx17];(repeat refine ao ?_);apply k;clear k;refine ar h hk14 ?_;refine Sub.trans (so (s':=⟨[(2,.ref 0 0),(4,.ref 2 0)],[(0,.box 75 [ri s_2.S.Kind,ri s_2.S.Cap,ri s_2.S.Words,ri s_2.S.Ver,.sl false (s_2.P.Fns.map Al),.row 9 1 1 0 y13.length,ri s_2.To.S.Kind,ri s_2.To.S.Cap,ri s_2.To.S.Words,ri s_2.To.S.Ver,.row 12 0 2 0 y18.length,ru s_2.To.Next]),(2,.box 75 [ri 0,ri 0,ri 0,ri 0,.sl true [],.sl true [],ri 0,ri 0,ri 0,ri 0,.sl true [],.raw (.int .u32 0)]),(9,.row 25 1 1 (y13.map Ax)),(12,.row 66 2 0 (y18.map Av))],81,84,0⟩) (by push_cast [hb2,hb6,hb9,hb11,hb16,hy18,hy18l])) ?_;refine Sub.trans (Sub.renB (b:=0) (j:=5) (i':=9) rfl rfl rfl (Nat.le_of_ble_eq_true rfl) (Nat.le_of_ble_eq_true rfl) rfl) ?_;exact so (by push_cast [hb2,hb6,hb9,hb11,hb16,hy18,hy18l])
       ·obtain ⟨hg19,h⟩:=Bs h;obtain ⟨y20,hy20,h⟩:=Bo h;refine vl fun _ k=>?_;refine Ag 8 fun _ l=>?_;push_cast [hg19];(repeat refine ao ?_);apply l;clear l;simp only [List.drop_succ_cons,List.drop_zero];push_cast [hg19];(repeat refine ao ?_);apply k;clear k;refine ar h hk14 ?_;refine Sub.trans (so (s':=⟨[(2,.ref 0 0),(4,.ref 2 0)],[(0,.box 75 [ri s_2.S.Kind,ri s_2.S.Cap,ri s_2.S.Words,ri s_2.S.Ver,.sl false (s_2.P.Fns.map Al),.row 9 1 1 0 y13.length,ri s_2.To.S.Kind,ri s_2.To.S.Cap,ri s_2.To.S.Words,ri s_2.To.S.Ver,.row 12 1 2 0 y20.length,ru s_2.To.Next]),(2,.box 75 [ri 0,ri 0,ri 0,ri 0,.sl true [],.sl true [],ri 0,ri 0,ri 0,ri 0,.sl true [],.raw (.int .u32 0)]),(9,.row 25 1 1 (y13.map Ax)),(12,.row 66 2 1 (y20.map Av))],85,84,0⟩) (by push_cast [hb2,hb6,hb9,hb11,hb16,hy20])) ?_;refine Sub.trans (Sub.renB (b:=0) (j:=5) (i':=9) rfl rfl rfl (Nat.le_of_ble_eq_true rfl) (Nat.le_of_ble_eq_true rfl) rfl) ?_;refine Sub.trans (Sub.renB (b:=0) (j:=10) (i':=12) rfl rfl rfl (Nat.le_of_ble_eq_true rfl) (Nat.le_of_ble_eq_true rfl) rfl) ?_;exact so (by push_cast [hb2,hb6,hb9,hb11,hb16,hy20])
      ·rintro s_9 (h : Ua s_9 = some b5);(try push_cast);unfold Ua at h;refine vs [4,5,6] fun _ k=>?_;push_cast;apply k;clear k;refine VC.ret ?_;replace h:=ol h hf5;replace h:=om h hk4;replace h:=Option.some.inj h;subst h;refine Cg (Sub.freeze prog (b:=2) (j:=5) rfl rfl rfl (by push_cast [hb2,hb6,hb9,hb11] <;> omega) (by decide)) ?_;refine Cg (Sub.freeze prog (b:=2) (j:=10) rfl rfl rfl (by push_cast [hb2,hb6,hb9,hb11] <;> omega) (by decide)) ?_;exact en (by push_cast [hb2,hb6,hb9,hb11])
   ·refine VC.exit ?_;replace h:=ol h hf5;refine am h hk4 ?_;exact so (by push_cast [hb2,hb6])
  ·rintro s_8 (h : Vd s_8 = some r);(try push_cast);unfold Vd at h;refine vs [4,5,6] fun _ k=>?_;push_cast;apply k;clear k;refine VC.ret ?_;replace h:=Option.some.inj h;subst h;refine Cg (Sub.freeze prog (b:=2) (j:=5) rfl rfl rfl (by push_cast [hb2] <;> omega) (by decide)) ?_;refine Cg (Sub.freeze prog (b:=2) (j:=10) rfl rfl rfl (by push_cast [hb2] <;> omega) (by decide)) ?_;exact en (by push_cast [hb2])
noncomputable def Jc (i_5 : Int) (r8 : Int) (s_17 : Be) (l_18 : (List Bd)) (i_19 : Bool) : Option ((Be × (List Bd) × Int) ⊕ ((Be × (List Bd)) ⊕ (Ap × Int))):=
  cond i_19 (
  some (Sum.inr (Sum.inr ((Ap.mk (Ar.mk 0 0 0 0) [] 0),11)))) (
  po (idx s_17.To.E r8) fun x13=>
  pg ((l_18.length + 1) * 32 ≤ 140737488355328) <|
  pl (l_18 ++ ([x13])) fun y15=>
  some (Sum.inl (s_17,y15,(IntKind.i64.wrap (i_5 + 1)))))
noncomputable def He (a1 : Ap) (s_3 : Be) (l_4 : (List Bd)) (i_5 : Int) : Option ((Be × (List Bd) × Int) ⊕ ((Be × (List Bd)) ⊕ (Ap × Int))):=
  cond (decide (i_5 < (a1.E.length : Int))) (
  po (idx a1.E i_5) fun x7=>
  po (Dd s_3.To.E x7.Key) fun r8=>
  po (
  po (Cd s_3.Done x7.Key) fun r10=>
  cond r10 (
  some (s_3,l_4,(decide (r8 < 0)))) (
  some (s_3,l_4,true))) (fun x=>Jc i_5 r8 x.1 x.2.1 x.2.2)) (
  some (Sum.inr (Sum.inl (s_3,l_4))))
noncomputable def Ke (i_24 : Int) (s_25 : Be) (l_26 : (List Bd)) : Option ((Be × (List Bd) × Int) ⊕ (Be × (List Bd))):=
  some (Sum.inl (s_25,l_26,(IntKind.i64.wrap (i_24 + 1))))
noncomputable def Ka (s_15 : Be) (s_22 : Be) (l_23 : (List Bd)) (i_24 : Int) : Option ((Be × (List Bd) × Int) ⊕ (Be × (List Bd))):=
  cond (decide (i_24 < (s_15.To.E.length : Int))) (
  po (
  po (idx s_22.To.E i_24) fun x20=>
  po (Dd l_23 x20.Key) fun r21=>
  cond (decide (r21 < 0)) (
  pg ((l_23.length + 1) * 32 ≤ 140737488355328) <|
  pl (l_23 ++ ([x20])) fun y24=>
  some (s_22,y24)) (
  some (s_22,l_23))) (fun x=>Ke i_24 x.1 x.2)) (
  some (Sum.inr (s_22,l_23)))
noncomputable def Nu (s_30 : Be) (l_31 : (List Bd)) : Option (Ap × Int):=
  some ((Ap.mk s_30.To.S l_31 s_30.To.Next),0)
noncomputable def Oq (s_15 : Be) (l_16 : (List Bd)) : Option (Ap × Int):=
  po (
  lpU (fun x=>Ka s_15 x.1 x.2.1 x.2.2) (s_15,l_16,0)) (fun x=>Nu x.1 x.2)
noncomputable def Ey (a0 : Be) (a1 : Ap) : Option (Ap × Int):=
  po (Oy a0 a1) fun r1=>
  cond (!r1) (
  some ((Ap.mk (Ar.mk 0 0 0 0) [] 0),1)) (
  po (Nj a0 a1) fun r3=>
  pm (
  lpU (fun x=>He a1 x.1 x.2.1 x.2.2) (r3,[],0)) (fun x=>Oq x.1 x.2))
theorem Yh {a0 : Be} {a1 : Ap} {r : Ap × Int} (h : Ey a0 a1 = some r) : Ctr prog 34 [.agg (Ef a0),.agg (Bb a1)] [] (.tup [.agg [ri r.1.S.Kind,ri r.1.S.Cap,ri r.1.S.Words,ri r.1.S.Ver,.row 0 0 2 0 r.1.E.length,ru r.1.Next],ri r.2]) [(0,.row 66 2 0 (r.1.E.map Av))]:=by
 unfold Ey at h;refine Ctr.ofW Ba func34 rfl call34 0 _ ntmps34 [.cell 4 53,.tmp 5] rfl rfl rfl (fun B=>?_);refine vs [2,3,4] fun _ k=>?_;push_cast;apply k;clear k;refine VC.seq ?_;obtain ⟨r1,hr1,h⟩:=Aa h;refine vs [2,3,4,15] fun _ k=>?_;push_cast;refine cp (Ck0 hr1) ?_;push_cast;apply k;clear k;refine vc h (fun hb2 h=>?_) (fun hb2 h=>?_)
 ·refine vs [4,5] fun _ k=>?_;push_cast;apply k;clear k;refine VC.ret ?_;replace h:=Option.some.inj h;subst h;refine Cg (so (s':=⟨[(4,.ref 2 0),(5,ri 1)],[(2,.box 53 [ri 0,ri 0,ri 0,ri 0,.sl true [],.raw (.int .u32 0)])],11,77,0⟩) (by push_cast [hb2])) ?_;refine Cg (Sub.adopt (b:=2) (j:=4) (e:=66) (sz:=2) rfl rfl) ?_;refine Cg (Sub.renB (b:=2) (j:=4) (i':=0) rfl rfl rfl (Nat.le_of_ble_eq_true rfl) (Nat.le_of_ble_eq_true rfl) rfl) ?_;exact en (by push_cast [hb2])
 ·refine VC.skip ?_;refine VC.sub (Sub.spare (e:=25) (sz:=1)) ?_;refine VC.sub (s':=⟨[(2,.ref 0 0),(3,.ref 1 0),(4,.ref 2 0)],[(0,.box 75 (Ef a0)),(1,.box 53 (Bb a1)),(2,.box 53 [ri 0,ri 0,ri 0,ri 0,.sl true [],.raw (.int .u32 0)]),(8,.row 25 1 0 ([].map Ax))],9,77,0⟩) (so (by push_cast [hb2])) ?_;obtain ⟨r3,hr3,h⟩:=Aa h;refine vs [2,3,4] fun _ k=>?_;push_cast;refine ch (H:=[(8,.row 25 1 0 ([].map Ax))]) (Ctr.loH (Ctr.ren (Bij.swp 1 11 (Bij.swp 0 8 Bij.id)) (Au0 hr3) (by push_cast) (by push_cast))) (by push_cast) ?_;push_cast;apply k;clear k;refine VC.sub (s':=⟨[(2,.ref 0 0),(3,.ref 1 0),(4,.ref 2 0)],[(0,.box 75 [ri r3.S.Kind,ri r3.S.Cap,ri r3.S.Words,ri r3.S.Ver,.sl false (r3.P.Fns.map Al),.row 8 1 1 0 r3.Done.length,ri r3.To.S.Kind,ri r3.To.S.Cap,ri r3.To.S.Words,ri r3.To.S.Ver,.row 11 0 2 0 r3.To.E.length,ru r3.To.Next]),(1,.box 53 (Bb a1)),(2,.box 53 [ri 0,ri 0,ri 0,ri 0,.sl true [],.raw (.int .u32 0)]),(8,.row 25 1 1 (r3.Done.map Ax)),(11,.row 66 2 0 (r3.To.E.map Av))],13,77,0⟩) (so (by push_cast [hb2])) ?_;refine vs [2,3,4,6] fun _ k=>?_;push_cast;apply k;clear k;refine vm h (fun x=>⟨[(2,.ref 0 0),(4,.ref 2 0),(6,.row 48 0 2 0 x.2.length)],[(0,.box 75 [ri x.1.S.Kind,ri x.1.S.Cap,ri x.1.S.Words,ri x.1.S.Ver,.sl false (x.1.P.Fns.map Al),.row 8 0 1 0 x.1.Done.length,ri x.1.To.S.Kind,ri x.1.To.S.Cap,ri x.1.To.S.Words,ri x.1.To.S.Ver,.row 11 0 2 0 x.1.To.E.length,ru x.1.To.Next]),(2,.box 53 [ri 0,ri 0,ri 0,ri 0,.sl true [],.raw (.int .u32 0)]),(8,.row 25 1 0 (x.1.Done.map Ax)),(11,.row 66 2 0 (x.1.To.E.map Av)),(48,.row 66 2 0 (x.2.map Av))],53,77,0⟩) (fun v4 h hk4=>?_) ?_
  ·refine vs [2,4,6,21,22,23] fun _ k=>?_;push_cast;apply k;clear k;refine VC.block ?_;refine VC.loopP h (fun x=>⟨[(2,.ref 0 0),(4,.ref 2 0),(6,.row 48 0 2 0 x.2.1.length),(21,.sl false (a1.E.map Av)),(22,ri (a1.E.length : Int)),(23,ri x.2.2)],[(0,.box 75 [ri x.1.S.Kind,ri x.1.S.Cap,ri x.1.S.Words,ri x.1.S.Ver,.sl false (x.1.P.Fns.map Al),.row 8 0 1 0 x.1.Done.length,ri x.1.To.S.Kind,ri x.1.To.S.Cap,ri x.1.To.S.Words,ri x.1.To.S.Ver,.row 11 0 2 0 x.1.To.E.length,ru x.1.To.Next]),(2,.box 53 [ri 0,ri 0,ri 0,ri 0,.sl true [],.raw (.int .u32 0)]),(8,.row 25 1 0 (x.1.Done.map Ax)),(11,.row 66 2 0 (x.1.To.E.map Av)),(48,.row 66 2 0 (x.2.1.map Av))],52,77,0⟩) ?_ ?_
   ·refine Sub.trans (so (s':=⟨[(2,.ref 0 0),(4,.ref 2 0),(6,.sl true []),(21,.sl false (a1.E.map Av)),(22,ri (a1.E.length : Int)),(23,ri 0)],[(0,.box 75 [ri r3.S.Kind,ri r3.S.Cap,ri r3.S.Words,ri r3.S.Ver,.sl false (r3.P.Fns.map Al),.row 8 1 1 0 r3.Done.length,ri r3.To.S.Kind,ri r3.To.S.Cap,ri r3.To.S.Words,ri r3.To.S.Ver,.row 11 0 2 0 r3.To.E.length,ru r3.To.Next]),(2,.box 53 [ri 0,ri 0,ri 0,ri 0,.sl true [],.raw (.int .u32 0)]),(8,.row 25 1 1 (r3.Done.map Ax)),(11,.row 66 2 0 (r3.To.E.map Av))],18,77,0⟩) (by push_cast [hb2])) ?_;refine Sub.trans (Sub.adoptT (k:=6) (e:=66) (sz:=2) rfl) ?_;refine Sub.trans (Sub.renT (k:=6) (i':=48) rfl rfl (Nat.le_of_ble_eq_true rfl) (Nat.le_of_ble_eq_true rfl) rfl) ?_;refine Sub.trans (Sub.renB (b:=0) (j:=5) (i':=8) rfl rfl rfl (Nat.le_of_ble_eq_true rfl) (Nat.le_of_ble_eq_true rfl) rfl) ?_;exact so (by push_cast [hb2])
   rintro ⟨s_3,l_4,i_5⟩ b5 (h : He a1 s_3 l_4 i_5 = some b5) hf5;(try push_cast);unfold He at h;refine vs [2,4,6,21,22,23,24] fun _ k=>?_;push_cast;apply k;clear k;refine VC.seq ?_;refine vc h (fun hb6 h=>?_) (fun hb6 h=>?_)
   ·refine VC.skip ?_;refine VC.seq ?_;refine VC.block ?_;obtain ⟨x7,hx7,h⟩:=Aa h;replace hx7:=Bh hx7;refine vs [2,4,6,8,21,22,23] fun _ k=>?_;push_cast [hx7];(repeat refine ao ?_);apply k;clear k;obtain ⟨r8,hr8,h⟩:=Aa h;refine vs [2,4,6,8,9,21,22,23] fun _ k=>?_;push_cast;refine ch (H:=[(11,.row 66 2 0 (s_3.To.E.map Av))]) (H':=_) (Ctr.borrow (Rq hr8) (by push_cast) rfl) (by push_cast) ?_;push_cast;apply k;clear k;refine VC.seq ?_;refine vj h (fun x=>⟨[(2,.ref 0 0),(4,.ref 2 0),(6,.row 48 0 2 0 x.2.1.length),(9,ri r8),(21,.sl false (a1.E.map Av)),(22,ri (a1.E.length : Int)),(23,ri i_5),(42,rb x.2.2)],[(0,.box 75 [ri x.1.S.Kind,ri x.1.S.Cap,ri x.1.S.Words,ri x.1.S.Ver,.sl false (x.1.P.Fns.map Al),.row 8 0 1 0 x.1.Done.length,ri x.1.To.S.Kind,ri x.1.To.S.Cap,ri x.1.To.S.Words,ri x.1.To.S.Ver,.row 11 0 2 0 x.1.To.E.length,ru x.1.To.Next]),(2,.box 53 [ri 0,ri 0,ri 0,ri 0,.sl true [],.raw (.int .u32 0)]),(8,.row 25 1 0 (x.1.Done.map Ax)),(11,.row 66 2 0 (x.1.To.E.map Av)),(48,.row 66 2 0 (x.2.1.map Av))],74,77,0⟩) (fun v9 h hk9=>?_) ?_
    ·obtain ⟨r10,hr10,h⟩:=Aa h;rcases bt r10 with hb11 | hb11
     ·replace h:=Ao hb11 h;refine vlG [some 33,some 34,some 35,some 36,some 37,some 38,some 39,some 40,some 41,some 42] fun _ k=>?_;push_cast [hb11];(repeat refine ao ?_);refine ch (H:=[(8,.row 25 1 0 (s_3.Done.map Ax))]) (H':=_) (Ctr.borrow (Il hr10) (by push_cast [hb11]) rfl) (by push_cast [hb11]) ?_;push_cast [hb11];(repeat refine ao ?_);apply k;clear k;refine ar h hk9 ?_;exact so (by push_cast [hb2,hb6,hb11])
     ·replace h:=Au hb11 h;refine vlG [some 33,some 34,some 35,some 36,some 37,some 38,some 39,some 40,some 41,some 42] fun _ k=>?_;push_cast [hb11];(repeat refine ao ?_);refine ch (H:=[(8,.row 25 1 0 (s_3.Done.map Ax))]) (H':=_) (Ctr.borrow (Il hr10) (by push_cast [hb11]) rfl) (by push_cast [hb11]) ?_;push_cast [hb11];(repeat refine ao ?_);apply k;clear k;refine ar h hk9 ?_;exact so (by push_cast [hb2,hb6,hb11])
    ·rintro ⟨s_17,l_18,i_19⟩ (h : Jc i_5 r8 s_17 l_18 i_19 = some b5);(try push_cast);unfold Jc at h;refine vc h (fun hb12 h=>?_) (fun hb12 h=>?_)
     ·refine vs [4,5] fun _ k=>?_;push_cast;apply k;clear k;refine VC.ret ?_;replace h:=ol h hf5;replace h:=om h hk4;replace h:=Option.some.inj h;subst h;refine Cg (so (s':=⟨[(4,.ref 2 0),(5,ri 11)],[(2,.box 53 [ri 0,ri 0,ri 0,ri 0,.sl true [],.raw (.int .u32 0)])],77,77,0⟩) (by push_cast [hb2,hb6,hb12])) ?_;refine Cg (Sub.adopt (b:=2) (j:=4) (e:=66) (sz:=2) rfl rfl) ?_;refine Cg (Sub.renB (b:=2) (j:=4) (i':=0) rfl rfl rfl (Nat.le_of_ble_eq_true rfl) (Nat.le_of_ble_eq_true rfl) rfl) ?_;exact en (by push_cast [hb2,hb6,hb12])
     ·refine VC.skip ?_;obtain ⟨x13,hx13,h⟩:=Aa h;replace hx13:=Bh hx13;obtain ⟨hg14,h⟩:=Bs h;obtain ⟨y15,hy15,h⟩:=Bo h;refine vl fun _ k=>?_;push_cast [hx13,hg14];(repeat refine ao ?_);apply k;clear k;refine vl fun _ k=>?_;push_cast;apply k;clear k;refine bk h ?_;refine Sub.trans (so (s':=⟨[(2,.ref 0 0),(4,.ref 2 0),(6,.row 48 1 2 0 y15.length),(21,.sl false (a1.E.map Av)),(22,ri (a1.E.length : Int)),(23,ri (IntKind.i64.wrap (i_5 + 1)))],[(0,.box 75 [ri s_17.S.Kind,ri s_17.S.Cap,ri s_17.S.Words,ri s_17.S.Ver,.sl false (s_17.P.Fns.map Al),.row 8 0 1 0 s_17.Done.length,ri s_17.To.S.Kind,ri s_17.To.S.Cap,ri s_17.To.S.Words,ri s_17.To.S.Ver,.row 11 0 2 0 s_17.To.E.length,ru s_17.To.Next]),(2,.box 53 [ri 0,ri 0,ri 0,ri 0,.sl true [],.raw (.int .u32 0)]),(8,.row 25 1 0 (s_17.Done.map Ax)),(11,.row 66 2 0 (s_17.To.E.map Av)),(48,.row 66 2 1 (y15.map Av))],86,77,0⟩) (by push_cast [hb2,hb6,hb12,hy15])) ?_;refine Sub.trans (Sub.renT (k:=6) (i':=48) rfl rfl (Nat.le_of_ble_eq_true rfl) (Nat.le_of_ble_eq_true rfl) rfl) ?_;exact so (by push_cast [hb2,hb6,hb12,hy15])
   ·refine VC.exit ?_;replace h:=ol h hf5;refine am h hk4 ?_;exact so (by push_cast [hb2,hb6])
  ·rintro ⟨s_15,l_16⟩ (h : Oq s_15 l_16 = some r);(try push_cast);unfold Oq at h;refine vj h (fun x=>⟨[(2,.ref 0 0),(4,.ref 2 0),(6,.row 48 0 2 0 x.2.length)],[(0,.box 75 [ri x.1.S.Kind,ri x.1.S.Cap,ri x.1.S.Words,ri x.1.S.Ver,.sl false (x.1.P.Fns.map Al),.row 8 0 1 0 x.1.Done.length,ri x.1.To.S.Kind,ri x.1.To.S.Cap,ri x.1.To.S.Words,ri x.1.To.S.Ver,.row 11 0 2 0 x.1.To.E.length,ru x.1.To.Next]),(2,.box 53 [ri 0,ri 0,ri 0,ri 0,.sl true [],.raw (.int .u32 0)]),(8,.row 25 1 0 (x.1.Done.map Ax)),(11,.row 66 2 0 (x.1.To.E.map Av)),(48,.row 66 2 0 (x.2.map Av))],76,77,0⟩) (fun v16 h hk16=>?_) ?_
   ·refine vs [2,4,6,56,57,58] fun _ k=>?_;push_cast;apply k;clear k;refine VC.block ?_;refine VC.loopP h (fun x=>⟨[(2,.ref 0 0),(4,.ref 2 0),(6,.row 48 0 2 0 x.2.1.length),(56,.row 11 0 2 0 x.1.To.E.length),(57,ri (s_15.To.E.length : Int)),(58,ri x.2.2)],[(0,.box 75 [ri x.1.S.Kind,ri x.1.S.Cap,ri x.1.S.Words,ri x.1.S.Ver,.sl false (x.1.P.Fns.map Al),.row 8 0 1 0 x.1.Done.length,ri x.1.To.S.Kind,ri x.1.To.S.Cap,ri x.1.To.S.Words,ri x.1.To.S.Ver,.row 11 0 2 0 x.1.To.E.length,ru x.1.To.Next]),(2,.box 53 [ri 0,ri 0,ri 0,ri 0,.sl true [],.raw (.int .u32 0)]),(8,.row 25 1 0 (x.1.Done.map Ax)),(11,.row 66 2 0 (x.1.To.E.map Av)),(48,.row 66 2 0 (x.2.1.map Av))],75,77,0⟩) ?_ ?_
    ·exact so (by push_cast [hb2])
    rintro ⟨s_22,l_23,i_24⟩ b17 (h : Ka s_15 s_22 l_23 i_24 = some b17) hf17;(try push_cast);unfold Ka at h;refine vs [2,4,6,56,57,58,59] fun _ k=>?_;push_cast;apply k;clear k;refine VC.seq ?_;refine vc h (fun hb18 h=>?_) (fun hb18 h=>?_)
    ·refine VC.skip ?_;refine vj h (fun x=>⟨[(2,.ref 0 0),(4,.ref 2 0),(6,.row 48 0 2 0 x.2.length),(56,.row 11 0 2 0 x.1.To.E.length),(57,ri (s_15.To.E.length : Int)),(58,ri i_24)],[(0,.box 75 [ri x.1.S.Kind,ri x.1.S.Cap,ri x.1.S.Words,ri x.1.S.Ver,.sl false (x.1.P.Fns.map Al),.row 8 0 1 0 x.1.Done.length,ri x.1.To.S.Kind,ri x.1.To.S.Cap,ri x.1.To.S.Words,ri x.1.To.S.Ver,.row 11 0 2 0 x.1.To.E.length,ru x.1.To.Next]),(2,.box 53 [ri 0,ri 0,ri 0,ri 0,.sl true [],.raw (.int .u32 0)]),(8,.row 25 1 0 (x.1.Done.map Ax)),(11,.row 66 2 0 (x.1.To.E.map Av)),(48,.row 66 2 0 (x.2.map Av))],90,77,0⟩) (fun v19 h hk19=>?_) ?_
     ·refine VC.block ?_;obtain ⟨x20,hx20,h⟩:=Aa h;replace hx20:=Bh hx20;refine vs [2,4,6,11,56,57,58] fun _ k=>?_;push_cast [hx20];(repeat refine ao ?_);apply k;clear k;obtain ⟨r21,hr21,h⟩:=Aa h;refine vs [2,4,6,11,56,57,58,66] fun _ k=>?_;push_cast;refine ch (H:=[(48,.row 66 2 0 (l_23.map Av))]) (H':=_) (Ctr.borrow (Rq hr21) (by push_cast) rfl) (by push_cast) ?_;push_cast;apply k;clear k;refine vc h (fun hb22 h=>?_) (fun hb22 h=>?_)
      ·obtain ⟨hg23,h⟩:=Bs h;obtain ⟨y24,hy24,h⟩:=Bo h;refine vl fun _ k=>?_;push_cast [hg23];(repeat refine ao ?_);apply k;clear k;refine ar h hk19 ?_;refine Sub.trans (so (s':=⟨[(2,.ref 0 0),(4,.ref 2 0),(6,.row 48 1 2 0 y24.length),(56,.row 11 0 2 0 s_22.To.E.length),(57,ri (s_15.To.E.length : Int)),(58,ri i_24)],[(0,.box 75 [ri s_22.S.Kind,ri s_22.S.Cap,ri s_22.S.Words,ri s_22.S.Ver,.sl false (s_22.P.Fns.map Al),.row 8 0 1 0 s_22.Done.length,ri s_22.To.S.Kind,ri s_22.To.S.Cap,ri s_22.To.S.Words,ri s_22.To.S.Ver,.row 11 0 2 0 s_22.To.E.length,ru s_22.To.Next]),(2,.box 53 [ri 0,ri 0,ri 0,ri 0,.sl true [],.raw (.int .u32 0)]),(8,.row 25 1 0 (s_22.Done.map Ax)),(11,.row 66 2 0 (s_22.To.E.map Av)),(48,.row 66 2 1 (y24.map Av))],90,77,0⟩) (by push_cast [hb2,hb18,hb22,hy24])) ?_;refine Sub.trans (Sub.renT (k:=6) (i':=48) rfl rfl (Nat.le_of_ble_eq_true rfl) (Nat.le_of_ble_eq_true rfl) rfl) ?_;exact so (by push_cast [hb2,hb18,hb22,hy24])
      ·refine VC.skip ?_;refine ar h hk19 ?_;exact so (by push_cast [hb2,hb18,hb22])
     ·rintro ⟨s_25,l_26⟩ (h : Ke i_24 s_25 l_26 = some b17);(try push_cast);unfold Ke at h;refine vl fun _ k=>?_;push_cast;apply k;clear k;refine bk h ?_;exact so (by push_cast [hb2,hb18])
    ·refine VC.exit ?_;replace h:=ol h hf17;refine ar h hk16 ?_;exact so (by push_cast [hb2,hb18])
   ·rintro ⟨s_30,l_31⟩ (h : Nu s_30 l_31 = some r);(try push_cast);unfold Nu at h;refine vs [2,4] fun _ k=>?_;push_cast;apply k;clear k;refine vs [4,5] fun _ k=>?_;push_cast;apply k;clear k;refine VC.ret ?_;replace h:=Option.some.inj h;subst h;refine Cg (so (s':=⟨[(4,.ref 2 0),(5,ri 0)],[(2,.box 53 [ri s_30.To.S.Kind,ri s_30.To.S.Cap,ri s_30.To.S.Words,ri s_30.To.S.Ver,.row 48 0 2 0 l_31.length,ru s_30.To.Next]),(48,.row 66 2 0 (l_31.map Av))],84,77,0⟩) (by push_cast [hb2])) ?_;refine Cg (Sub.renB (b:=2) (j:=4) (i':=0) rfl rfl rfl (Nat.le_of_ble_eq_true rfl) (Nat.le_of_ble_eq_true rfl) rfl) ?_;exact en (by push_cast [hb2])
noncomputable def Oc (a0 : Ap) (a1 : Ar) (a2 : Aq) : Option (Be × Int):=
  po (En a0 a1 a2) fun r1=>
  cond (r1 != 0) (
  some ((Be.mk (Ar.mk 0 0 0 0) (Aq.mk []) [] (Ap.mk (Ar.mk 0 0 0 0) [] 0)),r1)) (
  po (Od a1) fun r3=>
  po (Qk (Be.mk a1 a2 [] r3.1)) fun r4=>
  some (r4,0))
theorem Hp0 {a0 : Ap} {a1 : Ar} {a2 : Aq} {r : Be × Int} (h : Oc a0 a1 a2 = some r) : Ctr prog 27 [.agg (Bb a0),.agg (Ai a1),.agg (Ez a2)] [] (.tup [.agg (Ef r.1),ri r.2]) []:=by
 unfold Oc at h;refine Ctr.ofW Ba func27 rfl call27 0 _ ntmps27 [.cell 6 75,.tmp 7] rfl rfl rfl (fun B=>?_);refine vs [3,4,5,6] fun _ k=>?_;push_cast;apply k;clear k;refine VC.seq ?_;obtain ⟨r1,hr1,h⟩:=Aa h;refine vs [4,5,6,8] fun _ k=>?_;push_cast;refine cp (Sl hr1) ?_;push_cast;apply k;clear k;refine vs [4,5,6,8,16] fun _ k=>?_;push_cast;apply k;clear k;refine vc h (fun hb2 h=>?_) (fun hb2 h=>?_)
 ·refine vs [6,7] fun _ k=>?_;push_cast;apply k;clear k;refine VC.ret ?_;replace h:=Option.some.inj h;subst h;exact en (by push_cast [hb2])
 ·refine VC.skip ?_;obtain ⟨r3,hr3,h⟩:=Aa h;refine vs [4,5,6,9] fun _ k=>?_;push_cast;refine cp (Cz0 a1 hr3) ?_;push_cast;apply k;clear k;refine VC.sub (Sub.spare (e:=25) (sz:=1)) ?_;refine VC.sub (s':=⟨[(4,.ref 1 0),(5,.ref 2 0),(6,.ref 3 0),(9,.ref 17 0)],[(1,.box 50 (Ai a1)),(2,.box 56 [.sl false (a2.Fns.map Al)]),(3,.box 75 [ri 0,ri 0,ri 0,ri 0,.sl true [],.sl true [],ri 0,ri 0,ri 0,ri 0,.sl true [],.raw (.int .u32 0)]),(17,.box 53 (Bb r3.1)),(20,.row 25 1 0 ([].map Ax))],21,29,0⟩) (so (by push_cast [hb2])) ?_;obtain ⟨r4,hr4,h⟩:=Aa h;refine vs [6,7] fun _ k=>?_;push_cast;refine ch (H:=[(20,.row 25 1 0 ([].map Ax))]) (Ctr.loH (Ctr.ren (Bij.swp 1 25 (Bij.swp 0 20 Bij.id)) (Cy0 hr4) (by push_cast) (by push_cast))) (by push_cast) ?_;push_cast;apply k;clear k;refine VC.sub (s':=⟨[(6,.ref 3 0),(7,ri 0)],[(3,.box 75 [ri r4.S.Kind,ri r4.S.Cap,ri r4.S.Words,ri r4.S.Ver,.sl false (r4.P.Fns.map Al),.row 20 1 1 0 r4.Done.length,ri r4.To.S.Kind,ri r4.To.S.Cap,ri r4.To.S.Words,ri r4.To.S.Ver,.row 25 0 2 0 r4.To.E.length,ru r4.To.Next]),(20,.row 25 1 1 (r4.Done.map Ax)),(25,.row 66 2 0 (r4.To.E.map Av))],28,29,0⟩) (so (by push_cast [hb2])) ?_;refine VC.ret ?_;replace h:=Option.some.inj h;subst h;refine Cg (Sub.freeze prog (b:=3) (j:=5) rfl rfl rfl (by push_cast [hb2] <;> omega) (by decide)) ?_;refine Cg (Sub.freeze prog (b:=3) (j:=10) rfl rfl rfl (by push_cast [hb2] <;> omega) (by decide)) ?_;exact en (by push_cast [hb2])
structure FewP (p : Aq) : Prop where
  len : p.Fns.length ≤ 12
  code : ∀ f ∈ p.Fns,f.Code.length ≤ 80
theorem few03c (p : Aq) : ∃ b,Kf p = some b ∧ (b = true → FewP p):=by
  obtain ⟨r,h1,h2⟩:=lp_inv (step:=fun x=>Ig p x.1 x.2) (fun s=>(s.1 = true → p.Fns.length ≤ 12) ∧ ∃ n : Nat,s.2 = (n : Int) ∧ n ≤ p.Fns.length ∧ (s.1 = true → ∀ j f,j < n → p.Fns[j]? = some f → f.Code.length ≤ 80)) (fun s=>((p.Fns.length : Int) - s.2).toNat) (fun r=>r = true → FewP p) (by
    rintro ⟨b,i⟩ ⟨h1,n,h2,h3,h4⟩
    simp only at h1 h2 h4
    subst h2
    simp only [Ig]
    by_cases hlt : n < p.Fns.length
    · have hd : decide ((n : Int) < (p.Fns.length : Int)) = true:=by simp; omega
      rw [hd]
      cases b with
      | true=>
        left
        have hn:=h1 rfl
        have hg:=List.getElem?_eq_getElem hlt
        simp only [cond_true,po_of,Lb,idx_nat,hg,w64 (show n < 9223372036854775807 by omega)]
        refine ⟨_,rfl,⟨fun _=>hn,n + 1,rfl,by omega,fun hq j f hj hf=>?_⟩,by simp only; omega⟩
        rcases Nat.lt_or_ge j n with hjn | hjn
        · exact h4 rfl j f hjn hf
        · have : j = n:=by omega
          subst this
          rw [hg] at hf
          injection hf with hf
          subst hf
          have:=of_decide_eq_true hq
          omega
      | false=>
        right
        exact ⟨false,rfl,fun h=>by cases h⟩
    · have hd : decide ((n : Int) < (p.Fns.length : Int)) = false:=by simp; omega
      rw [hd]
      right
      refine ⟨b,rfl,fun hb=>⟨h1 hb,fun f hf=>?_⟩⟩
      obtain ⟨j,hj⟩:=List.mem_iff_getElem?.1 hf
      exact h4 hb j f (by have:=get_lt hj; omega) hj) (decide ((p.Fns.length : Int) ≤ 12),0) ⟨fun h=>by simp at h; omega,0,rfl,Nat.zero_le _,fun _ j f hj=>by omega⟩
  exact ⟨r,by simp only [Kf,h1,po_of,Ks],h2⟩
theorem few18c (p : Aq) (l : List Ap) (d : List UInt32) : ∃ b,Ki p l d = some b ∧ (b = true → FewP p ∧ FewL l):=by
  obtain ⟨b,hb,h1⟩:=few03c p
  obtain ⟨c,hc,h2⟩:=few_tells l
  unfold Ki
  simp only [hb,po_of]
  cases b with
  | false=>exact ⟨false,rfl,fun h=>by cases h⟩
  | true=>
    simp only [cond_true,hc,po_of]
    cases c with
    | false=>exact ⟨false,rfl,fun h=>by cases h⟩
    | true=>exact ⟨_,rfl,fun _=>⟨h1 rfl,h2 rfl⟩⟩
theorem find_loop {l : List Bd} {k : UInt32} (hl : l.length ≤ 1048576) : Ok (lpU (fun x=>Bq l x.1 x.2) (k,0)) fun r=>match r with
    | .inl q=>q = k ∧ ∀ e ∈ l,e.Key ≠ k
    | .inr r=>∃ (n : Nat) (e : Bd),r = ((n : Int),k) ∧ l[n]? = some e ∧ e.Key = k ∧ ∀ (j : Nat) (c : Bd),j < n → l[j]? = some c → c.Key ≠ k:=by
  refine .lp (fun x=>x.1 = k ∧ ∃ n : Nat,x.2 = (n : Int) ∧ n ≤ l.length ∧ ∀ (j : Nat) (c : Bd),j < n → l[j]? = some c → c.Key ≠ k) (fun x=>((l.length : Int) - x.2).toNat) ⟨rfl,0,rfl,Nat.zero_le _,fun j c h=>by omega⟩ ?_
  rintro ⟨q,i⟩ ⟨hq,n,hn,hnl,hno⟩
  simp only at hq hn
  subst hq
  subst hn
  unfold Bq Rz
  refine .cond (fun hlt=>?_) fun hlt=>?_
  · have hlt : (n : Int) < (l.length : Int):=of_decide_eq_true hlt
    refine .po (Ok.idx (l:=l) rfl (by omega)) fun e he=>?_
    simp only [po_of]
    refine .cond (fun h=>.mk ⟨n,e,rfl,he.1,?_,hno⟩) fun h=>.mk ⟨⟨rfl,n + 1,w64 (by omega),by omega,fun j c hj hc=>?_⟩,?_⟩
    · have h : (e.Key.toNat : Int) = (q.toNat : Int):=by simpa using h
      exact UInt32.toNat_inj.1 (by omega)
    · rcases Nat.lt_or_ge j n with hjn | hjn
      · exact hno j c hjn hc
      · have : j = n:=by omega
        subst this
        rw [he.1] at hc
        injection hc with hc
        subst hc
        intro e1
        rw [e1] at h
        simp at h
    · simp only [w64 (show n < 9223372036854775807 by omega)]
      omega
  · have hlt : ¬ (n : Int) < (l.length : Int):=of_decide_eq_false hlt
    refine .mk ⟨rfl,fun e he=>?_⟩
    obtain ⟨j,hj⟩:=List.mem_iff_getElem?.1 he
    exact hno j e (by have:=get_lt hj; omega) hj
theorem find_no {l : List Bd} {k : UInt32} (hl : l.length ≤ 1048576) (h : ∀ e ∈ l,e.Key ≠ k) : Dd l k = some (-1):=by
  obtain ⟨r,hr,hq⟩:=find_loop (k:=k) hl
  unfold Dd Bm
  rw [hr]
  cases r with
  | inl q=>rfl
  | inr r=>
    obtain ⟨n,e,_,h1,h2,_⟩:=hq
    exact absurd h2 (h e (List.mem_of_getElem? h1))
theorem find_at {l : List Bd} {k : UInt32} (hl : l.length ≤ 1048576) {i : Nat} {e : Bd} (he : l[i]? = some e) (hk : e.Key = k) (h : ∀ (j : Nat) (c : Bd),j < i → l[j]? = some c → c.Key ≠ k) : Dd l k = some (i : Int):=by
  obtain ⟨r,hr,hq⟩:=find_loop (k:=k) hl
  unfold Dd Bm
  rw [hr]
  cases r with
  | inl q=>exact absurd hk (hq.2 e (List.mem_of_getElem? he))
  | inr r=>
    obtain ⟨n,c,rfl,h1,h2,h3⟩:=hq
    have : n = i:=by
      rcases Nat.lt_trichotomy n i with q | q | q
      · exact absurd h2 (h n c q h1)
      · exact q
      · exact absurd hk (h3 i e q he)
    subst this
    rfl
theorem find_some {l : List Bd} {k : UInt32} (hl : l.length ≤ 1048576) (h : ∃ e ∈ l,e.Key = k) : ∃ n : Nat,Dd l k = some (n : Int):=by
  obtain ⟨r,hr,hq⟩:=find_loop (k:=k) hl
  unfold Dd Bm
  rw [hr]
  cases r with
  | inl q=>
    obtain ⟨e,h1,h2⟩:=h
    exact absurd h2 (hq.2 e h1)
  | inr r=>
    obtain ⟨n,c,rfl,_⟩:=hq
    exact ⟨n,rfl⟩
theorem contains_is {l : List UInt32} (hl : l.length ≤ 1048576) (k : UInt32) : Cd l k = some (decide (k ∈ l)):=by
  have key : Ok (lpU (fun x=>Eg l k x) 0) fun r=>match r with
      | .inl _=>k ∉ l
      | .inr r=>k ∈ l ∧ 0 ≤ r:=by
    refine .lp (fun x=>∃ n : Nat,x = (n : Int) ∧ n ≤ l.length ∧ ∀ (j : Nat) (c : UInt32),j < n → l[j]? = some c → c ≠ k) (fun x=>((l.length : Int) - x).toNat) ⟨0,rfl,Nat.zero_le _,fun j c h=>by omega⟩ ?_
    rintro i ⟨n,rfl,hnl,hno⟩
    unfold Eg
    refine .cond (fun hlt=>?_) fun hlt=>?_
    · have hlt : (n : Int) < (l.length : Int):=of_decide_eq_true hlt
      refine .po (Ok.idx (l:=l) rfl (by omega)) fun e he=>.cond (fun h=>.mk ⟨?_,by omega⟩) fun h=>.mk ⟨⟨n + 1,w64 (by omega),by omega,fun j c hj hc=>?_⟩,?_⟩
      · have h : (k.toNat : Int) = (e.toNat : Int):=by simpa using h
        have : e = k:=UInt32.toNat_inj.1 (by omega)
        exact this ▸ he.2
      · rcases Nat.lt_or_ge j n with hjn | hjn
        · exact hno j c hjn hc
        · have : j = n:=by omega
          subst this
          rw [he.1] at hc
          injection hc with hc
          subst hc
          intro e1
          rw [e1] at h
          simp at h
      · simp only [w64 (show n < 9223372036854775807 by omega)]
        omega
    · have hlt : ¬ (n : Int) < (l.length : Int):=of_decide_eq_false hlt
      refine .mk fun hm=>?_
      obtain ⟨j,hj⟩:=List.mem_iff_getElem?.1 hm
      exact hno j k (by have:=get_lt hj; omega) hj rfl
  obtain ⟨r,hr,hq⟩:=key
  unfold Cd Gs
  rw [hr]
  cases r with
  | inl q=>simp only [pm_inl,Fh,po_of,decide_eq_false hq]; rfl
  | inr r=>
    simp only [pm_inr,po_of,decide_eq_true hq.1]
    rw [decide_eq_true (show r ≥ 0 from hq.2)]
section
variable {t : Ap} {s : Ar} {p : Aq}
def toN (s : Ar) (n : Nat) (E : List Bd) : Ap:=⟨s,E ++ (newT s).E.drop n,0⟩
structure PutG (t : Ap) (s : Ar) (p : Aq) (n : Nat) (E : List Bd) : Prop where
  g : Good t s p
  hn : n ≤ t.E.length
  put : PutE t s p n E
theorem keys_ne (g : Good t s p) {i j : Nat} {a b : Bd} (ha : t.E[i]? = some a) (hb : t.E[j]? = some b) (hij : i ≠ j) : a.Key ≠ b.Key:=by
  intro hk
  exact hij (keys_inj (es:=(toT t).e) g.std.2.2.2.2.2 (a:=toE a) (b:=toE b) (by simp [toT,ha]) (by simp [toT,hb]) (by show a.Key.toNat = b.Key.toNat; rw [hk]))
variable {n : Nat} {E : List Bd}
theorem putN_old (h : PutG t s p n E) {j : Nat} {x : Bd} (hj : j < n) (hx : (toN s n E).E[j]? = some x) : ∃ e,t.E[j]? = some e ∧ x.Key = e.Key ∧ E[j]? = some x ∧ (x.V.length : Int) = s.Words:=by
  obtain ⟨W,hW,hW1,hW4⟩:=h.g.words
  have hel:=h.put.len
  have hx : (E ++ (newT s).E.drop n)[j]? = some x:=hx
  rw [List.getElem?_append_left (by omega)] at hx
  obtain ⟨e,he⟩ : ∃ e,t.E[j]? = some e:=⟨_,List.getElem?_eq_getElem (by have:=h.hn; omega)⟩
  obtain ⟨v,q1,q2⟩:=h.put.at_ j e hj he
  rw [hx] at q2
  injection q2 with q2
  subst q2
  obtain ⟨r,hr,hc⟩:=put_tells hW hW1 hW4 p e.Key (h.g.v (List.mem_of_getElem? he))
  rw [q1] at hr
  injection hr with hr
  subst hr
  refine ⟨e,he,rfl,hx,?_⟩
  rcases hc with hc | hc
  · have:=hc.2
    simp only at this
    rw [hW,← this]
  · exact absurd (show (0 : Int) = 10 from hc.1) (by decide)
theorem putN_new (h : PutG t s p n E) {j : Nat} {x : Bd} (hj : n ≤ j) (hx : (toN s n E).E[j]? = some x) : s.Kind = 0 ∧ x.Key.toNat = j ∧ (x.V.length : Int) = s.Words ∧ (newT s).E[j]? = some x:=by
  obtain ⟨W,hW,hW1,hW4⟩:=h.g.words
  have hel:=h.put.len
  have hN:=newT_len h.g
  have hcap:=h.g.caps
  have hx : (E ++ (newT s).E.drop n)[j]? = some x:=hx
  rw [List.getElem?_append_right (by omega),List.getElem?_drop,hel,show n + (j - n) = j by omega] at hx
  have hlt:=get_lt hx
  by_cases h0 : s.Kind = 0
  · rw [if_pos h0] at hN
    have hx2:=hx
    unfold newT at hx
    simp only [if_pos h0,List.getElem?_map] at hx
    obtain ⟨i,hi,rfl⟩:=Option.map_eq_some_iff.1 hx
    obtain ⟨h6,h7⟩:=List.getElem?_eq_some_iff.1 hi
    rw [List.getElem_range] at h7
    subst h7
    refine ⟨h0,?_,?_,hx2⟩
    · show (UInt32.ofNat j).toNat = j
      exact to_of32 (by omega)
    · simp only [List.length_replicate]
      omega
  · rw [if_neg h0] at hN
    omega
theorem putN_len (h : PutG t s p n E) : (((toN s n E).E).length : Int) = if s.Kind = 0 then s.Cap else (n : Int):=by
  have hN:=newT_len h.g
  have hel:=h.put.len
  have htl:=h.g.tlen
  have hgc:=h.g.cap
  have hn:=h.hn
  show ((E ++ (newT s).E.drop n).length : Int) = _
  rw [List.length_append,List.length_drop]
  by_cases h0 : s.Kind = 0
  · rw [if_pos h0] at hN ⊢
    omega
  · rw [if_neg h0] at hN ⊢
    omega
theorem putN_16 (h : PutG t s p n E) : (toN s n E).E.length ≤ 16:=by
  have:=putN_len h
  have htl:=h.g.tlen
  have hgc:=h.g.cap
  have hcap:=h.g.caps
  have hn:=h.hn
  split at this <;> omega
theorem tlen16 (g : Good t s p) : t.E.length ≤ 16:=by
  have htl:=g.tlen
  have hgc:=g.cap
  have hcap:=g.caps
  omega
theorem putN_ne (h : PutG t s p n E) {i j : Nat} {a b : Bd} (ha : (toN s n E).E[i]? = some a) (hb : (toN s n E).E[j]? = some b) (hij : i ≠ j) : a.Key ≠ b.Key:=by
  intro hk
  by_cases h0 : s.Kind = 0
  · have num : ∀ (i : Nat) (a : Bd),(toN s n E).E[i]? = some a → a.Key.toNat = i:=by
      intro i a ha
      rcases Nat.lt_or_ge i n with hi | hi
      · obtain ⟨e,h1,h2,_⟩:=putN_old h hi ha
        rw [h2]
        exact (h.g.key0 h0).2 i e h1
      · exact (putN_new h hi ha).2.1
    have e1:=num i a ha
    have e2:=num j b hb
    rw [hk] at e1
    omega
  · have old : ∀ (i : Nat) (a : Bd),(toN s n E).E[i]? = some a → i < n:=by
      intro i a ha
      rcases Nat.lt_or_ge i n with hi | hi
      · exact hi
      · exact absurd (putN_new h hi ha).1 h0
    obtain ⟨e,h1,h2,_⟩:=putN_old h (old i a ha) ha
    obtain ⟨e',h1',h2',_⟩:=putN_old h (old j b hb) hb
    exact keys_ne h.g h1 h1' hij (by rw [← h2,← h2',hk])
theorem putN_may (h : PutG t s p n E) : (toT (toN s n E)).may = true:=by
  obtain ⟨W,hW,hW1,hW4⟩:=h.g.words
  have hlen:=putN_len h
  have htl:=h.g.tlen
  have hgc:=h.g.cap
  have hn:=h.hn
  have hk3 : s.Kind ≠ 3:=by rw [← h.g.kind]; exact h.g.ring
  refine (may_std (show s.Kind ≠ 3 from hk3)).2 ⟨h.g.smay,?_,rfl,fun h0=>⟨?_,?_⟩,?_,?_⟩
  · show (((toN s n E).E.map toE).length : Int) ≤ s.Cap
    rw [List.length_map]
    split at hlen <;> omega
  · show (((toN s n E).E.map toE).length : Int) = s.Cap
    rw [List.length_map]
    rw [if_pos (show s.Kind = 0 from h0)] at hlen
    omega
  · intro i e he
    have he : ((toN s n E).E.map toE)[i]? = some e:=he
    rw [List.getElem?_map] at he
    obtain ⟨x,hx,rfl⟩:=Option.map_eq_some_iff.1 he
    rcases Nat.lt_or_ge i n with hi | hi
    · obtain ⟨e',h1,h2,_⟩:=putN_old h hi hx
      show x.Key.toNat = i
      rw [h2]
      exact (h.g.key0 h0).2 i e' h1
    · exact (putN_new h hi hx).2.1
  · intro e he
    have he : e ∈ (toN s n E).E.map toE:=he
    obtain ⟨x,hx,rfl⟩:=List.mem_map.1 he
    obtain ⟨j,hj⟩:=List.mem_iff_getElem?.1 hx
    show ((x.V.map UInt32.toNat).length : Int) = s.Words
    rw [List.length_map]
    rcases Nat.lt_or_ge j n with hi | hi
    · obtain ⟨_,_,_,_,q⟩:=putN_old h hi hj
      exact q
    · exact (putN_new h hi hj).2.2.1
  · show (keys ((toN s n E).E.map toE)).Nodup
    rw [List.Nodup,List.pairwise_iff_getElem]
    intro i j hi hj hij
    simp only [keys,List.length_map] at hi hj
    simp only [keys,List.getElem_map]
    intro hk
    have ha:=List.getElem?_eq_getElem hi
    have hb:=List.getElem?_eq_getElem hj
    exact putN_ne h ha hb (Nat.ne_of_lt hij) (UInt32.toNat_inj.1 hk)
structure DoneOk (t : Ap) (D : List UInt32) : Prop where
  len : D.length ≤ 100
  key : ∀ k ∈ D,∃ e ∈ t.E,e.Key = k
def shN (s : Ar) (p : Aq) (D : List UInt32) (n : Nat) (E : List Bd) : Be:=⟨s,p,D,toN s n E⟩
theorem own_fix {α : Type} {l : List α} {n : Nat} {a : α} (h : l[n]? = some a) : l.set n a = l:=by
  obtain ⟨hh,rfl⟩:=List.getElem?_eq_some_iff.1 h
  exact List.set_getElem_self hh
theorem own_tells (h : PutG t s p n E) (hp : FewP p) {D : List UInt32} (hD : D.length ≤ 100) : Qk (shN s p D n E) = some (shN s p D n E):=by
  obtain ⟨W,hW,hW1,hW4⟩:=h.g.words
  have h16:=putN_16 h
  have hv : ∀ (j : Nat) (x : Bd),(toN s n E).E[j]? = some x → x.V.length ≤ 16:=by
    intro j x hx
    rcases Nat.lt_or_ge j n with hi | hi
    · obtain ⟨_,_,_,_,q⟩:=putN_old h hi hx
      omega
    · have:=(putN_new h hi hx).2.2.1
      omega
  unfold Qk
  have e1 : Cw (shN s p D n E).Done = some D:=Na (by show D.length * 4 ≤ _; omega)
  have e2 : Cn (shN s p D n E).To.E = some (toN s n E).E:=Rd (by show (toN s n E).E.length * 32 ≤ _; omega)
  rw [e1,po_of,e2,po_of]
  have k1 : Ok (lpU (fun x=>Mh (toN s n E).E x.1 x.2) (shN s p D n E,0)) fun r=>r = shN s p D n E:=by
    refine .lp (fun x=>x.1 = shN s p D n E ∧ ∃ k : Nat,x.2 = (k : Int) ∧ k ≤ (toN s n E).E.length) (fun x=>(((toN s n E).E.length : Int) - x.2).toNat) ⟨rfl,0,rfl,Nat.zero_le _⟩ ?_
    rintro ⟨u,i⟩ ⟨hu,k,hk,hkl⟩
    simp only at hu hk
    subst hu
    subst hk
    unfold Mh
    refine .cond (fun hlt=>?_) fun _=>.mk rfl
    have hlt : (k : Int) < ((toN s n E).E.length : Int):=of_decide_eq_true hlt
    obtain ⟨x,hx,hxm⟩:=Ok.idx (l:=(toN s n E).E) (n:=k) rfl (by omega)
    have hc : Cw x.V = some x.V:=Na (by have:=hv k x hxm.1; omega)
    have hs : (toN s n E).E.set k ⟨x.Key,x.V⟩ = (toN s n E).E:=own_fix hxm.1
    have hx : idx (shN s p D n E).To.E (k : Int) = some x:=hx
    rw [hx,po_of,hc,po_of]
    refine .pl ?_
    have hs : (shN s p D n E).To.E.set (k : Int).toNat ⟨x.Key,x.V⟩ = (toN s n E).E:=hs
    rw [hs]
    refine .mk ⟨⟨rfl,k + 1,w1 (by omega),by omega⟩,?_⟩
    simp only [w1 (show k < 1000000 by omega)]
    omega
  obtain ⟨r,hr,rfl⟩:=k1
  have hr : lpU (fun x=>Mh (toN s n E).E x.1 x.2) (⟨(shN s p D n E).S,(shN s p D n E).P,D,⟨(shN s p D n E).To.S,(toN s n E).E,(shN s p D n E).To.Next⟩⟩,0) = some (shN s p D n E):=hr
  rw [hr,po_of]
  unfold Rw
  have hpl:=hp.len
  have e3 : Ew (shN s p D n E).P.Fns = some p.Fns:=Uk (by show p.Fns.length * 32 ≤ _; omega)
  rw [e3,po_of]
  have k2 : Ok (lpU (fun x=>Kv p.Fns x.1 x.2) (shN s p D n E,0)) fun r=>r = shN s p D n E:=by
    refine .lp (fun x=>x.1 = shN s p D n E ∧ ∃ k : Nat,x.2 = (k : Int) ∧ k ≤ p.Fns.length) (fun x=>((p.Fns.length : Int) - x.2).toNat) ⟨rfl,0,rfl,Nat.zero_le _⟩ ?_
    rintro ⟨u,i⟩ ⟨hu,k,hk,hkl⟩
    simp only at hu hk
    subst hu
    subst hk
    unfold Kv
    refine .cond (fun hlt=>?_) fun _=>.mk rfl
    have hlt : (k : Int) < (p.Fns.length : Int):=of_decide_eq_true hlt
    obtain ⟨x,hx,hxm⟩:=Ok.idx (l:=p.Fns) (n:=k) rfl (by omega)
    have hc : Ed x.Code = some x.Code:=Sb (by have:=hp.code x hxm.2; omega)
    have hs : (shN s p D n E).P.Fns.set (k : Int).toNat ⟨x.Args,x.Code⟩ = p.Fns:=own_fix hxm.1
    have hx : idx (shN s p D n E).P.Fns (k : Int) = some x:=hx
    rw [hx,po_of,hc,po_of]
    refine .pl ?_
    rw [hs]
    refine .mk ⟨⟨rfl,k + 1,w1 (by omega),by omega⟩,?_⟩
    simp only [w1 (show k < 1000000 by omega)]
    omega
  obtain ⟨r,hr2,rfl⟩:=k2
  have hr2 : lpU (fun x=>Kv p.Fns x.1 x.2) (⟨(shN s p D n E).S,⟨p.Fns⟩,(shN s p D n E).Done,(shN s p D n E).To⟩,0) = some (shN s p D n E):=hr2
  rw [hr2,po_of]
  rfl
theorem index1_no {l : List UInt32} {t : Ap} (hl : l.length ≤ 1048576) (ht : t.E.length ≤ 1048576) (h : ∀ k ∈ l,∃ e ∈ t.E,e.Key = k) : Ci l t = some (-1):=by
  have key : Ok (lpU (fun x=>Cr l t x) 0) fun r=>r = .inl ():=by
    refine .lp (fun x=>∃ n : Nat,x = (n : Int) ∧ n ≤ l.length) (fun x=>((l.length : Int) - x).toNat) ⟨0,rfl,Nat.zero_le _⟩ ?_
    rintro i ⟨n,rfl,hn⟩
    unfold Cr Qq
    refine .cond (fun hlt=>?_) fun _=>.mk rfl
    have hlt : (n : Int) < (l.length : Int):=of_decide_eq_true hlt
    refine .po (Ok.idx (l:=l) rfl (by omega)) fun k hk=>?_
    obtain ⟨m,hm⟩:=find_some ht (h k hk.2)
    rw [hm,po_of,decide_eq_false (show ¬ ((m : Int) < 0) by omega),po_of]
    simp only [cond_false]
    refine .mk ⟨⟨n + 1,w64 (by omega),by omega⟩,?_⟩
    simp only [w64 (show n < 9223372036854775807 by omega)]
    omega
  obtain ⟨r,hr,rfl⟩:=key
  unfold Ci
  rw [hr]
  rfl
theorem index2_no {l : List Bd} {t : Ap} (hl : l.length ≤ 1048576) (ht : t.E.length ≤ 1048576) (h : ∀ x ∈ l,∃ e ∈ t.E,e.Key = x.Key) : Bz l t = some (-1):=by
  have key : Ok (lpU (fun x=>Cf l t x) 0) fun r=>r = .inl ():=by
    refine .lp (fun x=>∃ n : Nat,x = (n : Int) ∧ n ≤ l.length) (fun x=>((l.length : Int) - x).toNat) ⟨0,rfl,Nat.zero_le _⟩ ?_
    rintro i ⟨n,rfl,hn⟩
    unfold Cf Rc
    refine .cond (fun hlt=>?_) fun _=>.mk rfl
    have hlt : (n : Int) < (l.length : Int):=of_decide_eq_true hlt
    refine .po (Ok.idx (l:=l) rfl (by omega)) fun k hk=>?_
    obtain ⟨m,hm⟩:=find_some ht (h k hk.2)
    rw [hm,po_of,decide_eq_false (show ¬ ((m : Int) < 0) by omega),po_of]
    simp only [cond_false]
    refine .mk ⟨⟨n + 1,w64 (by omega),by omega⟩,?_⟩
    simp only [w64 (show n < 9223372036854775807 by omega)]
    omega
  obtain ⟨r,hr,rfl⟩:=key
  unfold Bz
  rw [hr]
  rfl
theorem clean_tells (h : PutG t s p n E) (hp : FewP p) {D : List UInt32} (hD : DoneOk t D) : Nj (shN s p D n E) t = some (shN s p D n E):=by
  have h16:=putN_16 h
  have ht:=tlen16 h.g
  have hDl:=hD.len
  unfold Nj Dh
  rw [own_tells h hp hD.len,po_of]
  have e1 : Ci (shN s p D n E).Done t = some (-1):=index1_no (by show D.length ≤ _; omega) (by omega) hD.key
  rw [e1,po_of]
  simp only [beq_self_eq_true,cond_true,po_of]
  by_cases h0 : t.S.Kind = 0
  · have : (t.S.Kind != 0) = false:=by simp [h0]
    simp only [this,cond_false,po_of,Mr]
  · have h1 : (t.S.Kind != 0) = true:=by simpa using h0
    unfold Dc
    have e2 : Bz (shN s p D n E).To.E t = some (-1):=index2_no (by show (toN s n E).E.length ≤ _; omega) (by omega) fun x hx=>by
      obtain ⟨j,hj⟩:=List.mem_iff_getElem?.1 hx
      rcases Nat.lt_or_ge j n with hi | hi
      · obtain ⟨e,q1,q2,_⟩:=putN_old h hi hj
        exact ⟨e,List.mem_of_getElem? q1,q2.symm⟩
      · exact absurd (h.g.kind.trans (putN_new h hi hj).1) h0
    simp only [h1,cond_true,e2,po_of,beq_self_eq_true,Mr]
theorem fits_is18 (h : PutG t s p n E) (hm : En t s p = some 0) {D : List UInt32} : Oy (shN s p D n E) t = some true:=by
  have e1 : En t (shN s p D n E).S (shN s p D n E).P = some 0:=hm
  have e2 : Lw (shN s p D n E).To = some true:=by
    show Lw (toN s n E) = _
    unfold Lw
    rw [putN_may h]
  unfold Oy
  rw [e1,po_of,e2]
  have e3 : (shN s p D n E).To.S = (shN s p D n E).S:=rfl
  simp only [beq_self_eq_true,cond_true,po_of,e3,Bool.and_self,Qu]
def keysN (t : Ap) (n : Nat) : List UInt32:=(t.E.take n).map (·.Key)
theorem keysN_done (g : Good t s p) (n : Nat) : DoneOk t (keysN t n):=by
  refine ⟨?_,fun k hk=>?_⟩
  · have:=tlen16 g
    simp only [keysN,List.length_map,List.length_take]
    omega
  · simp only [keysN,List.mem_map] at hk
    obtain ⟨e,he,rfl⟩:=hk
    exact ⟨e,List.mem_of_mem_take he,rfl⟩
theorem keysN_mem (g : Good t s p) {n j : Nat} {e : Bd} (he : t.E[j]? = some e) : e.Key ∈ keysN t n ↔ j < n:=by
  simp only [keysN,List.mem_map]
  constructor
  · rintro ⟨c,hc,hk⟩
    obtain ⟨i,hi⟩:=List.mem_iff_getElem?.1 hc
    rw [List.getElem?_take] at hi
    split at hi
    · rename_i hin
      refine Classical.byContradiction fun hn=>?_
      exact keys_ne g hi he (by omega) hk
    · cases hi
  · intro hj
    exact ⟨e,List.mem_iff_getElem?.2 ⟨j,by rw [List.getElem?_take,if_pos hj]; exact he⟩,rfl⟩
theorem keysN_succ {n : Nat} {e : Bd} (he : t.E[n]? = some e) : keysN t (n + 1) = keysN t n ++ [e.Key]:=by
  obtain ⟨hh,rfl⟩:=List.getElem?_eq_some_iff.1 he
  simp only [keysN,List.take_succ_eq_append_getElem hh,List.map_append,List.map_cons,List.map_nil]
theorem step_tells (h : PutG t s p n E) (hp : FewP p) (hm : En t s p = some 0) :
    (n = t.E.length ∧ Ms (shN s p (keysN t n) n E) t = some (shN s p (keysN t n) n E,true,0)) ∨
    (∃ e,t.E[n]? = some e ∧ ((∃ v,Em s p e.Key e.V = some (v,10) ∧ ∃ z,Ms (shN s p (keysN t n) n E) t = some (z,false,10)) ∨
      ∃ v,Em s p e.Key e.V = some (v,0) ∧ PutG t s p (n + 1) (E ++ [⟨e.Key,v⟩]) ∧ Ms (shN s p (keysN t n) n E) t = some (shN s p (keysN t (n + 1)) (n + 1) (E ++ [⟨e.Key,v⟩]),false,0))):=by
  obtain ⟨W,hW,hW1,hW4⟩:=h.g.words
  have ht:=tlen16 h.g
  have h16:=putN_16 h
  have hDk:=keysN_done h.g n
  have hDl:=hDk.len
  have hel:=h.put.len
  unfold Ms
  rw [fits_is18 h hm,po_of]
  simp only [Bool.not_true,cond_false]
  rw [clean_tells h hp hDk,po_of]
  -- the loop: up to n nothing is done
  have skip : ∀ k : Nat,k ≤ n → lpU (fun x=>Dn t x.1 x.2) (shN s p (keysN t n) n E,0) = lpU (fun x=>Dn t x.1 x.2) (shN s p (keysN t n) n E,(k : Int)):=by
    intro k
    induction k with
    | zero=>intro _; rfl
    | succ k ih=>
      intro hk
      rw [ih (by omega)]
      refine lpU_inl ?_
      have hlt : k < t.E.length:=by have:=h.hn; omega
      obtain ⟨c,hc,hcm⟩:=Ok.idx (l:=t.E) (n:=k) rfl hlt
      show Dn t (shN s p (keysN t n) n E) (k : Int) = _
      unfold Dn
      rw [decide_eq_true (show (k : Int) < (t.E.length : Int) by omega)]
      have hcon : Cd (shN s p (keysN t n) n E).Done c.Key = some true:=by
        have e:=contains_is (l:=keysN t n) (by omega) c.Key
        rw [decide_eq_true ((keysN_mem h.g hcm.1).2 (show k < n by omega))] at e
        exact e
      simp only [cond_true,hc,po_of,hcon,w1 (show k < 1000000 by omega)]
  rw [skip n (Nat.le_refl n)]
  by_cases hlt : n < t.E.length
  · right
    obtain ⟨c,hc,hcm⟩:=Ok.idx (l:=t.E) (n:=n) rfl hlt
    have hcon : Cd (shN s p (keysN t n) n E).Done c.Key = some false:=by
      have e:=contains_is (l:=keysN t n) (by omega) c.Key
      rw [decide_eq_false (fun q=>Nat.lt_irrefl n ((keysN_mem h.g hcm.1).1 q))] at e
      exact e
    have hput : Em (shN s p (keysN t n) n E).S (shN s p (keysN t n) n E).P c.Key c.V = Em s p c.Key c.V:=rfl
    obtain ⟨⟨v,f⟩,hpt,hcase⟩:=put_tells hW hW1 hW4 p c.Key (h.g.v hcm.2)
    refine ⟨c,hcm.1,?_⟩
    rcases hcase with hcase | hcase
    · right
      have hf : f = 0:=hcase.1
      subst hf
      have hnew : PutG t s p (n + 1) (E ++ [⟨c.Key,v⟩]):=⟨h.g,by omega,h.put.succ hcm.1 hpt⟩
      refine ⟨v,hpt,hnew,?_⟩
      have hstep : Dn t (shN s p (keysN t n) n E) (n : Int) = some (.inr (.inr (shN s p (keysN t (n + 1)) (n + 1) (E ++ [⟨c.Key,v⟩]),false,0))):=by
        unfold Dn
        rw [decide_eq_true (show (n : Int) < (t.E.length : Int) by omega)]
        simp only [cond_true,hc,po_of,hcon,cond_false,hput,hpt,bne_self_eq_false]
        rw [Ep (by show ((keysN t n).length + 1) * 4 ≤ _; omega)]
        simp only [pl]
        have hdone : (shN s p (keysN t n) n E).Done ++ [c.Key] = keysN t (n + 1):=(keysN_succ hcm.1).symm
        rw [hdone]
        by_cases h0 : s.Kind = 0
        · -- an array: the key is at its place
          have hN:=newT_len h.g
          rw [if_pos h0] at hN
          have htl:=h.g.tlen
          have hgc:=h.g.cap
          obtain ⟨z,hz⟩ : ∃ z,(toN s n E).E[n]? = some z:=⟨_,List.getElem?_eq_getElem (by have:=putN_len h; rw [if_pos h0] at this; omega)⟩
          obtain ⟨_,hz2,_,hz4⟩:=putN_new h (Nat.le_refl n) hz
          have hck : c.Key.toNat = n:=(h.g.key0 h0).2 n c hcm.1
          have hzk : z.Key = c.Key:=UInt32.toNat_inj.1 (by omega)
          have hfind : Dd (shN s p (keysN t n) n E).To.E c.Key = some (n : Int):=find_at (l:=(toN s n E).E) (by omega) hz hzk (fun j x hj hx=>by
            rw [← hzk]
            exact putN_ne h hx hz (by omega))
          rw [hfind,po_of,decide_eq_true (show (n : Int) ≥ 0 by omega)]
          have hidx : idx (shN s p (keysN t n) n E).To.E (n : Int) = some z:=idxN hz
          simp only [cond_true,hidx,po_of,pl,Int.toNat_natCast]
          have hset : (shN s p (keysN t n) n E).To.E.set n ⟨z.Key,v⟩ = (toN s (n + 1) (E ++ [⟨c.Key,v⟩])).E:=by
            show (E ++ (newT s).E.drop n).set n ⟨z.Key,v⟩ = (E ++ [⟨c.Key,v⟩]) ++ (newT s).E.drop (n + 1)
            rw [List.set_append_right _ _ (by omega),hel,Nat.sub_self,hzk,List.append_assoc]
            have hd : (newT s).E.drop n = z :: (newT s).E.drop (n + 1):=drop_get hz4
            rw [hd]
            rfl
          rw [hset]
          rfl
        · -- the key is not there
          have hno : Dd (shN s p (keysN t n) n E).To.E c.Key = some (-1):=find_no (l:=(toN s n E).E) (by omega) (fun x hx=>by
            obtain ⟨j,hj⟩:=List.mem_iff_getElem?.1 hx
            rcases Nat.lt_or_ge j n with hi | hi
            · obtain ⟨e,q1,q2,_⟩:=putN_old h hi hj
              rw [q2]
              exact keys_ne h.g q1 hcm.1 (by omega)
            · exact absurd (putN_new h hi hj).1 h0)
          have hN:=newT_len h.g
          rw [if_neg h0] at hN
          have hNn : (newT s).E = []:=List.eq_nil_of_length_eq_zero (by omega)
          rw [hno,po_of]
          rw [decide_eq_false (show ¬ ((-1 : Int) ≥ 0) by decide)]
          simp only [cond_false]
          rw [Ep (by show ((toN s n E).E.length + 1) * 32 ≤ _; omega)]
          have hap : (shN s p (keysN t n) n E).To.E ++ [⟨c.Key,v⟩] = (toN s (n + 1) (E ++ [⟨c.Key,v⟩])).E:=by
            show (E ++ (newT s).E.drop n) ++ [⟨c.Key,v⟩] = (E ++ [⟨c.Key,v⟩]) ++ (newT s).E.drop (n + 1)
            rw [hNn]
            simp
          rw [hap]
          rfl
      rw [lpU_inr hstep]
      rfl
    · left
      have hf : f = 10:=hcase.1
      subst hf
      refine ⟨v,hpt,⟨⟨0,0,0,0⟩,⟨[]⟩,[],⟨⟨0,0,0,0⟩,[],0⟩⟩,?_⟩
      have hstep : Dn t (shN s p (keysN t n) n E) (n : Int) = some (.inr (.inr (⟨⟨0,0,0,0⟩,⟨[]⟩,[],⟨⟨0,0,0,0⟩,[],0⟩⟩,false,10))):=by
        unfold Dn
        rw [decide_eq_true (show (n : Int) < (t.E.length : Int) by omega)]
        simp only [cond_true,hc,po_of,hcon,cond_false,hput,hpt]
        rfl
      rw [lpU_inr hstep]
      rfl
  · left
    have hn : n = t.E.length:=by have:=h.hn; omega
    refine ⟨hn,?_⟩
    have hstep : Dn t (shN s p (keysN t n) n E) (n : Int) = some (.inr (.inl (shN s p (keysN t n) n E))):=by
      unfold Dn
      rw [decide_eq_false (show ¬ (n : Int) < (t.E.length : Int) by omega)]
      rfl
    rw [lpU_inr hstep]
    rfl
theorem finish_busy (h : PutG t s p n E) (hp : FewP p) (hm : En t s p = some 0) {D : List UInt32} (hD : DoneOk t D) {m : Nat} {e : Bd} (he : t.E[m]? = some e) (hne : e.Key ∉ D) (hmn : m ≤ n) (hall : ∀ (j : Nat) (c : Bd),j < m → t.E[j]? = some c → c.Key ∈ D) :
    Ey (shN s p D n E) t = some (zeroT,11):=by
  have ht:=tlen16 h.g
  have h16:=putN_16 h
  have hDl:=hD.len
  have hel:=h.put.len
  unfold Ey
  rw [fits_is18 h hm,po_of]
  simp only [Bool.not_true,cond_false]
  rw [clean_tells h hp hD,po_of]
  have key : Ok (lpU (fun x=>He t x.1 x.2.1 x.2.2) (shN s p D n E,[],0)) fun r=>r = .inr (zeroT,11):=by
    refine .lp (fun x=>x.1 = shN s p D n E ∧ ∃ k : Nat,x.2.2 = (k : Int) ∧ k ≤ m ∧ x.2.1.length ≤ k) (fun x=>((m : Int) + 1 - x.2.2).toNat) ⟨rfl,0,rfl,Nat.zero_le _,Nat.le_refl _⟩ ?_
    rintro ⟨u,l,i⟩ ⟨hu,k,hk,hkm,hll⟩
    simp only at hu hk hll
    subst hu
    subst hk
    have hmt:=get_lt he
    unfold He
    rw [decide_eq_true (show (k : Int) < (t.E.length : Int) by omega)]
    simp only [cond_true]
    refine .po (Ok.idx (l:=t.E) rfl (by omega)) fun c hc=>?_
    have hcon : Cd (shN s p D n E).Done c.Key = some (decide (c.Key ∈ D)):=contains_is (l:=D) (by omega) c.Key
    have hfl : Ok (Dd (shN s p D n E).To.E c.Key) fun f=>(f = -1 ∨ ∃ z : Nat,f = (z : Int) ∧ z < (toN s n E).E.length) ∧ (k < n → 0 ≤ f):=by
      obtain ⟨r,hr,hq⟩:=find_loop (l:=(toN s n E).E) (k:=c.Key) (by omega)
      unfold Dd Bm
      have hr : lpU (fun x=>Bq (shN s p D n E).To.E x.1 x.2) (c.Key,0) = some r:=hr
      rw [hr]
      cases r with
      | inl q=>
        refine .mk ⟨.inl rfl,fun hkn=>?_⟩
        exfalso
        obtain ⟨v,_,q2⟩:=h.put.at_ k c hkn hc.1
        exact hq.2 ⟨c.Key,v⟩ (by show _ ∈ E ++ _; exact List.mem_append_left _ (List.mem_of_getElem? q2)) rfl
      | inr r=>
        obtain ⟨z,x,rfl,q1,_⟩:=hq
        exact .mk ⟨.inr ⟨z,rfl,get_lt q1⟩,fun _=>by show (0 : Int) ≤ (z : Int); omega⟩
    refine .po hfl fun f hf=>?_
    rw [hcon]
    simp only [po_of]
    by_cases hkm2 : k = m
    · subst hkm2
      rw [he] at hc
      have hce : e = c:=Option.some.inj hc.1
      subst hce
      rw [decide_eq_false hne]
      simp only [cond_false,po_of]
      unfold Jc
      exact .mk rfl
    · rw [decide_eq_true (hall k c (by omega) hc.1)]
      simp only [cond_true,po_of]
      have hf0:=hf.2 (by omega)
      rw [decide_eq_false (show ¬ f < 0 by omega)]
      unfold Jc
      simp only [cond_false]
      rcases hf.1 with hf1 | ⟨z,hz,hzl⟩
      · omega
      · subst hz
        have q1 : (l.length + 1) * 32 ≤ 140737488355328:=by omega
        have q2 : k + 1 ≤ m:=Nat.lt_of_le_of_ne hkm hkm2
        have q3 : k < 1000000:=by omega
        refine .po (Ok.idx (l:=(toN s n E).E) rfl hzl) fun x _=>.pg q1 (.pl (.mk ⟨⟨rfl,k + 1,w1 q3,q2,by simp only [List.length_append,List.length_singleton]; omega⟩,?_⟩))
        simp only [w1 (show k < 1000000 by omega)]
        omega
  obtain ⟨r,hr,rfl⟩:=key
  rw [hr]
  rfl
theorem finish_all (h : PutG t s p t.E.length E) (hp : FewP p) (hm : En t s p = some 0) : Ey (shN s p (keysN t t.E.length) t.E.length E) t = some (toN s t.E.length E,0):=by
  have ht:=tlen16 h.g
  have h16:=putN_16 h
  have hDk:=keysN_done h.g t.E.length
  have hDl:=hDk.len
  have hel:=h.put.len
  unfold Ey
  rw [fits_is18 h hm,po_of]
  simp only [Bool.not_true,cond_false]
  rw [clean_tells h hp hDk,po_of]
  generalize hsh : shN s p (keysN t t.E.length) t.E.length E = sh
  have hTo : sh.To = toN s t.E.length E:=by rw [← hsh]; rfl
  have hDo : sh.Done = keysN t t.E.length:=by rw [← hsh]; rfl
  have key : Ok (lpU (fun x=>He t x.1 x.2.1 x.2.2) (sh,[],0)) fun r=>r = .inl (sh,E):=by
    refine .lp (fun x=>x.1 = sh ∧ ∃ k : Nat,x.2.2 = (k : Int) ∧ k ≤ t.E.length ∧ x.2.1 = E.take k) (fun x=>((t.E.length : Int) - x.2.2).toNat) ⟨rfl,0,rfl,Nat.zero_le _,by simp⟩ ?_
    rintro ⟨u,l,i⟩ ⟨hu,k,hk,hkl,hl⟩
    simp only at hu hk hl
    subst hu
    subst hk
    subst hl
    unfold He
    refine .cond (fun hlt=>?_) fun hlt=>?_
    · have hlt : (k : Int) < (t.E.length : Int):=of_decide_eq_true hlt
      refine .po (Ok.idx (l:=t.E) rfl (by omega)) fun c hc=>?_
      obtain ⟨v,_,q2⟩:=h.put.at_ k c (by omega) hc.1
      have hx : (toN s t.E.length E).E[k]? = some ⟨c.Key,v⟩:=by
        show (E ++ _)[k]? = _
        rw [List.getElem?_append_left (by omega)]
        exact q2
      have hfind : Dd u.To.E c.Key = some (k : Int):=by
        rw [hTo]
        exact find_at (l:=(toN s t.E.length E).E) (i:=k) (e:=⟨c.Key,v⟩) (by omega) hx rfl (fun j x hj hx2=>(show x.Key ≠ (⟨c.Key,v⟩ : Bd).Key from putN_ne h hx2 hx (Nat.ne_of_lt hj)))
      have hcon : Cd u.Done c.Key = some true:=by
        rw [hDo]
        have e:=contains_is (l:=keysN t t.E.length) (by omega) c.Key
        rw [decide_eq_true ((keysN_mem h.g hc.1).2 (show k < t.E.length by omega))] at e
        exact e
      rw [hfind,po_of,hcon]
      simp only [po_of,cond_true]
      rw [decide_eq_false (show ¬ (k : Int) < 0 by omega)]
      unfold Jc
      simp only [cond_false]
      have hidx : idx u.To.E (k : Int) = some ⟨c.Key,v⟩:=by rw [hTo]; exact idxN hx
      rw [hidx,po_of]
      refine .pg (by rw [List.length_take]; omega) (.pl (.mk ⟨⟨rfl,k + 1,w1 (by omega),by omega,?_⟩,?_⟩))
      · obtain ⟨hh,hg⟩:=List.getElem?_eq_some_iff.1 q2
        rw [List.take_succ_eq_append_getElem hh,hg]
      · simp only [w1 (show k < 1000000 by omega)]
        omega
    · have hlt : ¬ (k : Int) < (t.E.length : Int):=of_decide_eq_false hlt
      have : k = t.E.length:=by omega
      subst this
      refine .mk ?_
      rw [← hel,List.take_length]
  obtain ⟨r,hr,rfl⟩:=key
  rw [hr,pm_inl]
  unfold Oq
  have key2 : Ok (lpU (fun x=>Ka sh x.1 x.2.1 x.2.2) (sh,E,0)) fun r=>r = (sh,(toN s t.E.length E).E):=by
    refine .lp (fun x=>x.1 = sh ∧ ∃ k : Nat,x.2.2 = (k : Int) ∧ k ≤ (toN s t.E.length E).E.length ∧ x.2.1 = (toN s t.E.length E).E.take (max t.E.length k)) (fun x=>(((toN s t.E.length E).E.length : Int) - x.2.2).toNat) ⟨rfl,0,rfl,Nat.zero_le _,?_⟩ ?_
    · simp only [Nat.max_zero]
      show E = (E ++ (newT s).E.drop t.E.length).take t.E.length
      rw [← hel,List.take_left]
    rintro ⟨u,l,i⟩ ⟨hu,k,hk,hkl,hl⟩
    simp only at hu hk hl
    subst hu
    subst hk
    subst hl
    unfold Ka
    rw [hTo]
    refine .cond (fun hlt=>?_) fun hlt=>?_
    · have hlt : (k : Int) < ((toN s t.E.length E).E.length : Int):=of_decide_eq_true hlt
      obtain ⟨x,hx,hxm⟩:=Ok.idx (l:=(toN s t.E.length E).E) (n:=k) rfl (by omega)
      rw [hx,po_of]
      rcases Nat.lt_or_ge k t.E.length with hkt | hkt
      · have hmx : max t.E.length k = t.E.length:=by omega
        have hmx2 : max t.E.length (k + 1) = t.E.length:=by omega
        rw [hmx]
        have hfind : Dd ((toN s t.E.length E).E.take t.E.length) x.Key = some (k : Int):=find_at (by rw [List.length_take]; omega) (by rw [List.getElem?_take,if_pos hkt]; exact hxm.1) rfl (fun j y hj hy=>by
          rw [List.getElem?_take,if_pos (by omega)] at hy
          exact putN_ne h hy hxm.1 (by omega))
        rw [hfind,po_of,decide_eq_false (show ¬ (k : Int) < 0 by omega)]
        simp only [cond_false,po_of,Ke]
        refine .mk ⟨⟨rfl,k + 1,w1 (by omega),by omega,by rw [hmx2]⟩,?_⟩
        simp only [w1 (show k < 1000000 by omega)]
        omega
      · have hmx : max t.E.length k = k:=by omega
        have hmx2 : max t.E.length (k + 1) = k + 1:=by omega
        rw [hmx]
        have hfind : Dd ((toN s t.E.length E).E.take k) x.Key = some (-1):=find_no (by rw [List.length_take]; omega) (fun y hy=>by
          obtain ⟨j,hj⟩:=List.mem_iff_getElem?.1 hy
          rw [List.getElem?_take] at hj
          split at hj
          · exact putN_ne h hj hxm.1 (by omega)
          · cases hj)
        rw [hfind,po_of,decide_eq_true (show (-1 : Int) < 0 by decide)]
        simp only [cond_true]
        rw [Ep (by rw [List.length_take]; omega)]
        simp only [pl,po_of,Ke]
        refine .mk ⟨⟨rfl,k + 1,w1 (by omega),by omega,?_⟩,?_⟩
        · rw [hmx2]
          obtain ⟨hh,hg⟩:=List.getElem?_eq_some_iff.1 hxm.1
          rw [List.take_succ_eq_append_getElem hh,hg]
        · simp only [w1 (show k < 1000000 by omega)]
          omega
    · have hlt : ¬ (k : Int) < ((toN s t.E.length E).E.length : Int):=of_decide_eq_false hlt
      refine .mk ?_
      rw [List.take_of_length_le (by omega)]
  obtain ⟨r,hr,rfl⟩:=key2
  rw [hr,po_of]
  unfold Nu
  rw [hTo]
  first | done | rfl
theorem new_tells (g : Good t s p) (hp : FewP p) (hm : En t s p = some 0) : PutG t s p 0 [] ∧ Oc t s p = some (shN s p (keysN t 0) 0 [],0):=by
  have h : PutG t s p 0 []:=⟨g,Nat.zero_le _,.zero⟩
  refine ⟨h,?_⟩
  unfold Oc
  simp only [hm,po_of,bne_self_eq_false,cond_false,g.new]
  have e : (⟨s,p,[],newT s⟩ : Be) = shN s p (keysN t 0) 0 []:=by
    have e1 : toN s 0 [] = newT s:=by
      show (⟨s,[] ++ (newT s).E.drop 0,0⟩ : Ap) = newT s
      rw [List.drop_zero,List.nil_append]
      rfl
    unfold shN
    rw [e1]
    rfl
  rw [e,own_tells h hp (keysN_done g 0).len,po_of]
end
noncomputable def Ff (s_3 : Be) (i_4 : Int) (r12 : Be × Bool × Int) (i_10 : Bool) : Option ((Be × Int) ⊕ ((Be) ⊕ (Bool))):=
  cond i_10 (
  some (Sum.inr (Sum.inr false))) (
  cond r12.2.1 (
  some (Sum.inr (Sum.inl s_3))) (
  some (Sum.inl (r12.1,(IntKind.i64.wrap (i_4 + 1))))))
noncomputable def Eh (a0 : Ap) (s_3 : Be) (i_4 : Int) : Option ((Be × Int) ⊕ ((Be) ⊕ (Bool))):=
  cond (decide (i_4 < 20)) (
  po (Ey s_3 a0) fun r11=>
  po (Ms s_3 a0) fun r12=>
  cond (r12.2.2 != 0) (
  some (Sum.inr (Sum.inr (r11.2 == 11)))) (
  po (
  cond (r12.2.1 != (r11.2 == 0)) (
  some true) (
  cond r12.2.1 (
  some false) (
  some (r11.2 != 11)))) (fun x=>Ff s_3 i_4 r12 x))) (
  some (Sum.inr (Sum.inl s_3)))
noncomputable def Fj (a0 : Ap) (s_9 : Be) : Option (Bool):=
  cond ((s_9.Done.length : Int) == 0) (
  some ((a0.E.length : Int) == 0)) (
  pg (0 ≤ 1 ∧ 1 ≤ (s_9.Done.length : Int) ∧ (s_9.Done.length : Int) ≤ (s_9.Done.length : Int)) <|
  pl ((s_9.Done.drop 1)) fun y21=>
  po (Ey (Be.mk s_9.S s_9.P y21 s_9.To) a0) fun r22=>
  some (r22.2 == 11))
noncomputable def Fi (a0 : Ap) (a1 : Ar) (a2 : Aq) (r1 : Bool) (i_1 : Bool) : Option (Bool):=
  cond i_1 (
  some r1) (
  po (Oc a0 a1 a2) fun r6=>
  cond (r6.2 != 0) (
  some true) (
  pm (
  lpU (fun x=>Eh a0 x.1 x.2) (r6.1,0)) (fun x=>Fj a0 x)))
noncomputable def Gr (a0 : Ap) (a1 : Ar) (a2 : Aq) : Option (Bool):=
  po (Gw) fun r1=>
  po (Ki a2 ([a0]) []) fun r2=>
  po (
  cond r1 (
  some (!r2)) (
  some true)) (fun x=>Fi a0 a1 a2 r1 x)
theorem Vo {a0 : Ap} {a1 : Ar} {a2 : Aq} {r : Bool} (h : Gr a0 a1 a2 = some r) : Ctr prog 10 [.agg (Bb a0),.agg (Ai a1),.agg (Ez a2)] [] (rb r) []:=by
 unfold Gr at h;refine Ctr.ofW Ba func10 rfl call10 0 _ ntmps10 [.tmp 6] rfl rfl rfl (fun B=>?_);refine vs [3,4,5] fun _ k=>?_;push_cast;apply k;clear k;obtain ⟨r1,hr1,h⟩:=Aa h;refine vs [3,4,5,7] fun _ k=>?_;push_cast;refine cp (Zf hr1) ?_;push_cast;apply k;clear k;obtain ⟨r2,hr2,h⟩:=Aa h;refine vs [3,4,5,7,8] fun _ k=>?_;push_cast;refine ch (H:=[(8,.row 53 6 0 (([a0]).map Bb))]) (H':=_) (Ctr.borrow (Cd0 hr2) (by push_cast) rfl) (by push_cast) ?_;push_cast;apply k;clear k;refine VC.sub (s':=⟨[(3,.ref 0 0),(4,.ref 1 0),(5,.ref 2 0),(7,rb r1),(8,rb r2)],[(0,.box 53 (Bb a0)),(1,.box 50 (Ai a1)),(2,.box 56 [.sl false (a2.Fns.map Al)])],11,95,0⟩) (so (by push_cast)) ?_;refine VC.seq ?_;refine vj h (fun x=>⟨[(3,.ref 0 0),(4,.ref 1 0),(5,.ref 2 0),(7,rb r1),(29,rb x)],[(0,.box 53 (Bb a0)),(1,.box 50 (Ai a1)),(2,.box 56 [.sl false (a2.Fns.map Al)])],17,95,0⟩) (fun v3 h hk3=>?_) ?_
 ·rcases bt r1 with hb4 | hb4
  ·replace h:=Ao hb4 h;refine vlG [some 24,some 25,some 26,some 27,some 28,some 29] fun _ k=>?_;push_cast [hb4];(repeat refine ao ?_);apply k;clear k;refine ar h hk3 ?_;exact sl (by push_cast [hb4])
  ·replace h:=Au hb4 h;refine vlG [some 24,some 25,some 26,some 27,some 28,some 29] fun _ k=>?_;push_cast [hb4];(repeat refine ao ?_);apply k;clear k;refine ar h hk3 ?_;exact sl (by push_cast [hb4])
 ·rintro i_1 (h : Fi a0 a1 a2 r1 i_1 = some r);(try push_cast);unfold Fi at h;refine vc h (fun hb5 h=>?_) (fun hb5 h=>?_)
  ·refine vs [6] fun _ k=>?_;push_cast;apply k;clear k;refine VC.ret ?_;replace h:=Option.some.inj h;subst h;exact en (by push_cast [hb5])
  ·refine VC.skip ?_;obtain ⟨r6,hr6,h⟩:=Aa h;refine vs [3,9,10] fun _ k=>?_;push_cast;refine cp (Hp0 hr6) ?_;push_cast;apply k;clear k;refine VC.seq ?_;refine vs [3,9,39] fun _ k=>?_;push_cast;apply k;clear k;refine vc h (fun hb7 h=>?_) (fun hb7 h=>?_)
   ·refine vs [6] fun _ k=>?_;push_cast;apply k;clear k;refine VC.ret ?_;replace h:=Option.some.inj h;subst h;exact en (by push_cast [hb5,hb7])
   ·refine VC.skip ?_;refine vm h (fun x=>⟨[(3,.ref 0 0),(9,.ref 24 0)],[(0,.box 53 (Bb a0)),(24,.box 75 (Ef x))],109,95,0⟩) (fun v8 h hk8=>?_) ?_
    ·refine vs [3,9,11] fun _ k=>?_;push_cast;apply k;clear k;refine VC.block ?_;refine VC.loopP h (fun x=>⟨[(3,.ref 0 0),(9,.ref 24 0),(11,ri x.2)],[(0,.box 53 (Bb a0)),(24,.box 75 (Ef x.1))],72,95,0⟩) ?_ ?_
     ·exact sl (by push_cast [hb5,hb7])
     rintro ⟨s_3,i_4⟩ b9 (h : Eh a0 s_3 i_4 = some b9) hf9;(try push_cast);unfold Eh at h;refine VC.seq ?_;refine vs [3,9,11,41] fun _ k=>?_;push_cast;apply k;clear k;refine vc h (fun hb10 h=>?_) (fun hb10 h=>?_)
     ·refine VC.skip ?_;refine VC.seq ?_;refine VC.block ?_;obtain ⟨r11,hr11,h⟩:=Aa h;refine vs [3,9,11,13] fun _ k=>?_;push_cast;refine ch (H:=[]) (Ctr.loH (Ctr.ren (Bij.swp 0 76 Bij.id) (Yh hr11) (by push_cast) (by push_cast))) (by push_cast) ?_;push_cast;apply k;clear k;refine VC.sub (s':=⟨[(3,.ref 0 0),(9,.ref 24 0),(11,ri i_4),(13,ri r11.2)],[(0,.box 53 (Bb a0)),(24,.box 75 (Ef s_3))],83,95,0⟩) (so (by push_cast [hb5,hb7,hb10])) ?_;obtain ⟨r12,hr12,h⟩:=Aa h;refine vs [3,9,11,13,14,15,16] fun _ k=>?_;refine Ag 8 fun _ l=>?_;push_cast;refine cp (Gn0 hr12) ?_;push_cast;apply l;clear l;simp only [List.drop_succ_cons,List.drop_zero];push_cast;apply k;clear k;refine VC.seq ?_;refine vs [3,9,11,13,14,15,58] fun _ k=>?_;push_cast;apply k;clear k;refine vc h (fun hb13 h=>?_) (fun hb13 h=>?_)
      ·refine vs [6] fun _ k=>?_;push_cast;apply k;clear k;refine VC.ret ?_;replace h:=ol h hf9;replace h:=om h hk8;replace h:=Option.some.inj h;subst h;exact en (by push_cast [hb5,hb7,hb10,hb13])
      ·refine VC.skip ?_;refine VC.seq ?_;refine vj h (fun x=>⟨[(3,.ref 0 0),(9,.ref 24 0),(11,ri i_4),(14,.ref 90 0),(15,rb r12.2.1),(72,rb x)],[(0,.box 53 (Bb a0)),(24,.box 75 (Ef s_3)),(90,.box 75 (Ef r12.1))],108,95,0⟩) (fun v14 h hk14=>?_) ?_
       ·rcases bt (r12.2.1 != (r11.2 == 0)) with hb15 | hb15
        ·replace h:=Ao hb15 h;refine vlG [some 61,some 62,some 63,some 64,some 65,some 66,some 67,some 68,some 69,some 70,some 71,some 72] fun _ k=>?_;refine Ag 8 fun _ l=>?_;push_cast [hb15];(repeat refine ao ?_);apply l;clear l;simp only [List.drop_succ_cons,List.drop_zero];push_cast [hb15];(repeat refine ao ?_);apply k;clear k;refine ar h hk14 ?_;exact sl (by push_cast [hb5,hb7,hb10,hb13,hb15])
        ·replace h:=Au hb15 h;rcases bt r12.2.1 with hb16 | hb16
         ·replace h:=Ao hb16 h;rw [hb16] at hb15;refine vlG [some 61,some 62,some 63,some 64,some 65,some 66,some 67,some 68,some 69,some 70,some 71,some 72] fun _ k=>?_;refine Ag 8 fun _ l=>?_;push_cast [hb15,hb16];(repeat refine ao ?_);apply l;clear l;simp only [List.drop_succ_cons,List.drop_zero];push_cast [hb15,hb16];(repeat refine ao ?_);apply k;clear k;refine ar h hk14 ?_;exact sl (by push_cast [hb5,hb7,hb10,hb13,hb15,hb16])
         ·replace h:=Au hb16 h;rw [hb16] at hb15;refine vlG [some 61,some 62,some 63,some 64,some 65,some 66,some 67,some 68,some 69,some 70,some 71,some 72] fun _ k=>?_;refine Ag 8 fun _ l=>?_;push_cast [hb15,hb16];(repeat refine ao ?_);apply l;clear l;simp only [List.drop_succ_cons,List.drop_zero];push_cast [hb15,hb16];(repeat refine ao ?_);apply k;clear k;refine ar h hk14 ?_;exact sl (by push_cast [hb5,hb7,hb10,hb13,hb15,hb16])
       ·rintro i_10 (h : Ff s_3 i_4 r12 i_10 = some b9);(try push_cast);unfold Ff at h;refine vc h (fun hb17 h=>?_) (fun hb17 h=>?_)
        ·refine vs [6] fun _ k=>?_;push_cast;apply k;clear k;refine VC.ret ?_;replace h:=ol h hf9;replace h:=om h hk8;replace h:=Option.some.inj h;subst h;exact en (by push_cast [hb5,hb7,hb10,hb13,hb17])
        ·refine VC.skip ?_;refine VC.seq ?_;refine vs [3,9,11,14,73] fun _ k=>?_;push_cast;apply k;clear k;refine vc h (fun hb18 h=>?_) (fun hb18 h=>?_)
         ·refine VC.exit ?_;replace h:=ol h hf9;refine am h hk8 ?_;exact sl (by push_cast [hb5,hb7,hb10,hb13,hb17,hb18])
         ·refine VC.skip ?_;refine vl fun _ k=>?_;push_cast;apply k;clear k;refine vl fun _ k=>?_;push_cast;apply k;clear k;refine bk h ?_;exact sl (by push_cast [hb5,hb7,hb10,hb13,hb17,hb18])
     ·refine VC.exit ?_;replace h:=ol h hf9;refine am h hk8 ?_;exact sl (by push_cast [hb5,hb7,hb10])
    ·rintro s_9 (h : Fj a0 s_9 = some r);(try push_cast);unfold Fj at h;refine VC.seq ?_;refine vs [3,9,78] fun _ k=>?_;push_cast;apply k;clear k;refine vc h (fun hb19 h=>?_) (fun hb19 h=>?_)
     ·refine vs [6] fun _ k=>?_;push_cast;apply k;clear k;refine VC.ret ?_;replace h:=Option.some.inj h;subst h;exact en (by push_cast [hb5,hb7,hb19])
     ·refine VC.skip ?_;obtain ⟨hg20,h⟩:=Bs h;obtain ⟨y21,hy21,h⟩:=Bo h;refine vs [3,9] fun _ k=>?_;push_cast [hg20];(repeat refine ao ?_);apply k;clear k;refine VC.sub (s':=⟨[(3,.ref 0 0),(9,.ref 24 0)],[(0,.box 53 (Bb a0)),(24,.box 75 (Ef (Be.mk s_9.S s_9.P y21 s_9.To)))],118,95,0⟩) (so (by push_cast [hb5,hb7,hb19,hy21])) ?_;obtain ⟨r22,hr22,h⟩:=Aa h;refine vs [18] fun _ k=>?_;push_cast;refine ch (H:=[]) (Ctr.loH (Ctr.ren (Bij.swp 0 120 Bij.id) (Yh hr22) (by push_cast) (by push_cast))) (by push_cast) ?_;push_cast;apply k;clear k;refine VC.sub (s':=⟨[(18,ri r22.2)],[],127,95,0⟩) (so (by push_cast [hb5,hb7,hb19])) ?_;refine vs [6] fun _ k=>?_;push_cast;apply k;clear k;refine VC.ret ?_;replace h:=Option.some.inj h;subst h;exact en (by push_cast [hb5,hb7,hb19])
theorem finishes_true18 (t : Ap) (s : Ar) (p : Aq) : Gr t s p = some true:=by
  unfold Gr
  obtain ⟨b,hb,hfew⟩:=few18c p [t] []
  simp only [awake18,po_of,cond_true,hb]
  unfold Fi
  cases b with
  | false=>rfl
  | true=>
    have hp:=(hfew rfl).1
    simp only [Bool.not_true,cond_false]
    obtain ⟨e,he,hq⟩:=may_tells t s (p:=p) (by have:=hp.len; omega)
    by_cases h0 : e = 0
    · subst h0
      obtain ⟨g,_⟩:=hq rfl
      obtain ⟨h0,hnew⟩:=new_tells g hp he
      have ht:=tlen16 g
      simp only [hnew,po_of,bne_self_eq_false,cond_false]
      have key : Ok (lpU (fun y=>Eh t y.1 y.2) (shN s p (keysN t 0) 0 [],0)) fun r=>(∃ E,PutG t s p t.E.length E ∧ r = .inl (shN s p (keysN t t.E.length) t.E.length E)) ∨ r = .inr true:=by
        refine .lp (fun y=>∃ (n : Nat) (E : List Bd),PutG t s p n E ∧ y.2 = (n : Int) ∧ y.1 = shN s p (keysN t n) n E) (fun y=>(20 - y.2).toNat) ⟨0,[],h0,rfl,rfl⟩ ?_
        rintro ⟨u,i⟩ ⟨n,E,hG,hn,hu⟩
        simp only at hn hu
        subst hn
        subst hu
        have hnl:=hG.hn
        unfold Eh
        rw [decide_eq_true (show (n : Int) < 20 by omega)]
        simp only [cond_true]
        rcases step_tells hG hp he with ⟨hn,hz⟩ | ⟨c,hc,hcase⟩
        · subst hn
          rw [finish_all hG hp he,po_of,hz,po_of]
          exact .mk (.inl ⟨E,hG,rfl⟩)
        · have hbusy : Ey (shN s p (keysN t n) n E) t = some (zeroT,11):=finish_busy hG hp he (keysN_done g n) hc (fun q=>Nat.lt_irrefl n ((keysN_mem g hc).1 q)) (Nat.le_refl n) (fun j c' hj hc'=>(keysN_mem g hc').2 hj)
          have hlt:=get_lt hc
          rw [hbusy,po_of]
          rcases hcase with ⟨v,hv,z,hz⟩ | ⟨v,hv,hG2,hz⟩
          · rw [hz,po_of]
            exact .mk (.inr rfl)
          · rw [hz,po_of]
            simp only [bne_self_eq_false,cond_false]
            refine .po (P:=fun b=>b = false) (.mk rfl) fun b hb=>?_
            subst hb
            unfold Ff
            simp only [cond_false]
            refine .mk ⟨⟨n + 1,_,hG2,w1 (by omega),rfl⟩,?_⟩
            simp only [w1 (show n < 1000000 by omega)]
            omega
      obtain ⟨r,hr,hcase⟩:=key
      rw [hr]
      rcases hcase with ⟨E,hG,rfl⟩ | rfl
      · rw [pm_inl]
        unfold Fj
        have hdl : (shN s p (keysN t t.E.length) t.E.length E).Done.length = t.E.length:=by
          show (keysN t t.E.length).length = _
          simp only [keysN,List.length_map,List.length_take,Nat.min_self]
        rw [hdl]
        by_cases hl : t.E.length = 0
        · have : ((t.E.length : Int) == 0) = true:=by rw [hl]; rfl
          simp only [this,cond_true]
        · have hl2 : ((t.E.length : Int) == 0) = false:=by
            simp only [beq_eq_false_iff_ne]
            omega
          simp only [hl2,cond_false]
          rw [Ep (by omega)]
          simp only [pl]
          obtain ⟨c,hc⟩ : ∃ c,t.E[0]? = some c:=⟨_,List.getElem?_eq_getElem (by omega)⟩
          have hD:=keysN_done g t.E.length
          have hb : Ey (shN s p ((keysN t t.E.length).drop 1) t.E.length E) t = some (zeroT,11):=finish_busy hG hp he ⟨by have:=hD.len; rw [List.length_drop]; omega,fun k hk=>hD.key k (List.mem_of_mem_drop hk)⟩ hc (fun q=>by
            obtain ⟨j,hj⟩:=List.mem_iff_getElem?.1 q
            rw [List.getElem?_drop] at hj
            simp only [keysN,List.getElem?_map,List.take_length] at hj
            obtain ⟨c',h1,h2⟩:=Option.map_eq_some_iff.1 hj
            exact keys_ne g h1 hc (by omega) h2) (Nat.zero_le _) (fun j c' hj=>by omega)
          have hb : Ey (Be.mk (shN s p (keysN t t.E.length) t.E.length E).S (shN s p (keysN t t.E.length) t.E.length E).P ((shN s p (keysN t t.E.length) t.E.length E).Done.drop 1) (shN s p (keysN t t.E.length) t.E.length E).To) t = some (zeroT,11):=hb
          rw [hb,po_of]
          rfl
      · rfl
    · have hne : (e != 0) = true:=by simpa using h0
      have hn : Oc t s p = some (⟨⟨0,0,0,0⟩,⟨[]⟩,[],⟨⟨0,0,0,0⟩,[],0⟩⟩,e):=by
        unfold Oc
        simp only [he,po_of,hne,cond_true]
      simp only [hn,po_of,hne,cond_true]
open Go Go.RowKit Go.Proofs.Tryz Go.WideShapes Go.ChangeShapes Go.Deep
set_option maxRecDepth 100000
section
variable {H : Type} {enc : TypeId × Value → H} {w : World} {base : Nat} {spare : Nat → Bool} {held : Bool}
theorem u32_of {n : Int} (h : (Lit.int .u32 n).wf = true) : ∃ m : Nat,n = (m : Int) ∧ m < 4294967296:=by
  simp [Lit.wf,IntKind.min,IntKind.max,IntKind.bits,IntKind.signed] at h
  exact ⟨n.toNat,by omega,by omega⟩
theorem trodAll_cons {P : Program} {t : TypeId} {ts : List TypeId} {l : List Value} {ds : List (DataW H)} {ps : List MemPlace} (h : DataW.TrodAll enc P w base spare held (t :: ts) l ds ps) :
    ∃ v vs d ds' p q,l = v :: vs ∧ ds = d :: ds' ∧ ps = p ++ q ∧ DataW.Trod enc P w base spare held t v d p ∧ DataW.TrodAll enc P w base spare held ts vs ds' q:=by
  cases l with
  | nil=>exact h.elim
  | cons v vs=>
    cases ds with
    | nil=>exact h.elim
    | cons d ds=>
      obtain ⟨p,q,h1,h2,rfl⟩:=h
      exact ⟨v,vs,d,ds,p,q,rfl,rfl,rfl,h1,h2⟩
theorem trodAll_nil {P : Program} {l : List Value} {ds : List (DataW H)} {ps : List MemPlace} (h : DataW.TrodAll enc P w base spare held [] l ds ps) : l = [] ∧ ds = [] ∧ ps = []:=by
  cases l with
  | nil=>
    cases ds with
    | nil=>exact ⟨rfl,rfl,h⟩
    | cons d ds=>exact h.elim
  | cons v vs=>exact h.elim
theorem trodAll_stays {P : Program} (hl : laidOutB P = true) {W W' : World} {sp : Nat → Bool} (ts : List TypeId) : ∀ {vs : List Value} {ds : List (DataW H)} {ps : List MemPlace},(∀ t ∈ ts,P.readableRec t = true ∧ t < P.types.size) →
    DataW.TrodAll enc P W 0 (fun _=>true) true ts vs ds ps → (∀ p ∈ ps,W.sameAt W' p) → (∀ p ∈ ps,sp p.block = true) → DataW.TrodAll enc P W' 0 sp true ts vs ds ps:=by
  induction ts with
  | nil=>
    intro vs ds ps _ h _ _
    obtain ⟨rfl,rfl,rfl⟩:=trodAll_nil h
    exact rfl
  | cons t ts ih=>
    intro vs ds ps ha h hsame hs
    obtain ⟨v,vs,d,ds',p,q,rfl,rfl,rfl,h1,h2⟩:=trodAll_cons h
    have ht:=ha t (List.mem_cons_self ..)
    exact ⟨p,q,WideElems.Trod_stays hl ht.1 ht.2 h1 (fun x hx=>hsame x (List.mem_append_left _ hx)) (fun x hx=>hs x (List.mem_append_left _ hx)),
      ih (fun u hu=>ha u (List.mem_cons_of_mem _ hu)) h2 (fun x hx=>hsame x (List.mem_append_right _ hx)) (fun x hx=>hs x (List.mem_append_right _ hx)),rfl⟩
theorem all_fine {P : Program} {ts : List TypeId} (h : (ts.all fun t=>P.readableRec t && decide (t < P.types.size)) = true) : ∀ t ∈ ts,P.readableRec t = true ∧ t < P.types.size:=by
  intro t ht
  have:=List.all_eq_true.1 h t ht
  simp only [Bool.and_eq_true,decide_eq_true_eq] at this
  exact this
theorem post_law {f : Func} {s : ChangeSpec} {apart fresh handsOn again : Bool} {W W' : World} {args : Array Value} {ds gs : List (DataW H)} {before : List MemPlace} (hl : laidOutB prog = true)
    (hW : DataW.Whole enc prog f.params.toList s.vars apart W args.toList ds gs before) (hvars : s.vars = []) (hr : f.resultTypes = #[4]) (hp : (f.params.toList.all fun t=>prog.readableRec t && decide (t < prog.types.size)) = true)
    (hfn : (s.fn H (ds ++ gs)).results = [.lit (.bool true)]) (hfa : (s.fn H (ds ++ gs)).args = ds) (hfv : (s.fn H (ds ++ gs)).vars = []) (hb : Below W.heap.size W W') : s.post enc prog f apart fresh handsOn again W args (.bool true) W':=by
  have hlt : ∀ p ∈ before,p.block < W.heap.size:=fun p hp=>hW.lt p hp
  have hold : ∀ p ∈ before,(fun b=>decide (b < W.heap.size)) p.block = true:=fun p hp=>by simpa using hlt p hp
  have hW0:=hW
  obtain ⟨p,q,hA,hV,hpq,hz,hn⟩:=hW0
  rw [hvars] at hV
  obtain ⟨rfl,rfl⟩:=trodVars_none hV
  have hpq' : before = p:=by simpa using hpq
  subst hpq'
  have hres : ∀ (b : Nat) (sp : Nat → Bool) (hd : Bool),DataW.TrodAll enc prog W' b sp hd f.resultTypes.toList ((Value.bool true).resultList f.resultTypes.size) (s.fn H (ds ++ [])).results []:=by
    intro b sp hd
    rw [hr,hfn]
    exact trodAll_mk1 (shut_bool underlying4 true)
  have hargs : ∀ sp : Nat → Bool,(∀ p ∈ before,sp p.block = true) → DataW.TrodAll enc prog W' 0 sp true f.params.toList args.toList (s.fn H (ds ++ [])).args before:=by
    intro sp hsp
    rw [hfa]
    exact trodAll_stays hl _ (all_fine hp) hA (fun x hx=>hb.same (hlt x hx)) hsp
  have hvs : ∀ sp : Nat → Bool,DataW.TrodVars enc prog W' sp s.vars (s.fn H (ds ++ [])).vars []:=by
    intro sp
    rw [hvars,hfv]
    rfl
  refine ⟨ds,[],before,[],before,[],hW,hres _ _ _,hargs _ hold,hvs _,World.keptBut_mono (fun p hp=>⟨hp,?_⟩) (hb.frame (· ∈ before)),fun _=>?_⟩
  · exact Or.inr (Or.inl hp)
  · refine ⟨ok_one hr rfl (okWide_bool_mk underlying4 true),_,_,([] ++ before) ++ [],⟨[] ++ before,[],trodAll_append (hargs _ (fun _ _=>rfl)) (hres _ _ _),hvs _,rfl,?_,?_⟩,?_⟩
    · intro b off hp
      have hin : MemPlace.cell b off ∈ before:=by simpa using hp
      rw [hb.frozen (hlt _ hin)]
      exact hz b off hin
    · intro ha
      simpa using hn ha
    · intro p hp _
      simpa using hp
end
set_option maxRecDepth 100000
def lawCx (w : World) : Cx:=⟨fun b=>b < w.heap.size,fun _ _=>False,fun _=>none,fun _=>0⟩
theorem Ctr.law {P : Program} {f : FuncId} {args : List AV} (h : Ctr P f args [] (.raw (.bool true)) []) {w : World} {vals : Array Value} (hsz : vals.size = args.length)
    (ha : ∀ (i : Nat) (u : AV),args[i]? = some u → VRel w (lawCx w) [] u (vals.getD i undef)) : Calls P f vals w fun e w'=>e = .returned (.bool true) ∧ Below w.heap.size w w':=by
  have hH : HRel w (lawCx w) []:=⟨fun b h=>h,fun id o h=>by simp [look] at h,fun id t sz g els g' h=>by simp [look] at h,fun id t sz g els h=>by simp [look] at h,fun id o b h=>by simp [look] at h,fun id id' o o' b h=>by simp [look] at h,fun id o h=>by simp [look] at h⟩
  refine Calls.mono (h.2 w (lawCx w) vals hH (fun id g h=>h.elim) hsz ha) ?_
  rintro e w' ⟨v,x',rfl,st,hv,_⟩
  exact ⟨by rw [hv.rawEq],st.tr.os,st.tr.tape,st.tr.output,st.tr.size,fun k hk=>st.tr.keep k hk fun id o h=>by simp [look] at h⟩
theorem VRels.of1 {w : World} {x : Cx} {hp : Hp} {l : List AV} {m : List Value} (h : VRels w x hp l m) : ∀ (i : Nat) (u : AV),l[i]? = some u → VRel w x hp u (m.toArray.getD i undef):=h.at_
section
variable {H : Type} {enc : TypeId × Value → H} {w : World} {base : Nat} {spare : Nat → Bool} {held : Bool}
end
inductive DRels (w : World) (ok : Nat → Prop) : List AV → List Value → Prop where
  | nil : DRels w ok [] []
  | cons {u v l m} (h : Dat w ok u v) (h1 : v.oneCell' = true) (r : DRels w ok l m) : DRels w ok (u :: l) (v :: m)
section
variable {w : World} {ok : Nat → Prop}
theorem DRels.len {l : List AV} {m : List Value} (h : DRels w ok l m) : m.length = l.length:=by
  induction h with
  | nil=>rfl
  | cons _ _ _ ih=>simp [ih]
theorem DRels.app {l l' : List AV} {m m' : List Value} (h : DRels w ok l m) (h' : DRels w ok l' m') : DRels w ok (l ++ l') (m ++ m'):=by
  induction h with
  | nil=>exact h'
  | cons a b _ ih=>exact .cons a b ih
theorem DRels.at_ {l : List AV} {m : List Value} (h : DRels w ok l m) : ∀ (i : Nat) (u : AV),l[i]? = some u → Dat w ok u (m.getD i undef) ∧ (m.getD i undef).oneCell' = true:=by
  induction h with
  | nil=>intro i u h; simp at h
  | cons a b _ ih=>
    intro i u h
    cases i with
    | zero=>simp at h; subst h; exact ⟨a,b⟩
    | succ i=>simpa using ih i u (by simpa using h)
theorem DRels.cat {l l' : List AV} {cs : List Value} {o s s' : Nat} (h : DRels w ok l ((cs.drop o).take s)) (h' : DRels w ok l' ((cs.drop (o + s)).take s')) : DRels w ok (l ++ l') ((cs.drop o).take (s + s')):=by
  have e : (cs.drop o).take (s + s') = (cs.drop o).take s ++ (cs.drop (o + s)).take s':=by
    rw [List.take_add,List.drop_drop]
  rw [e]
  exact h.app h'
end
def okW (w : World) : Nat → Prop:=fun b=>b < w.heap.size
section
variable {H : Type} {enc : TypeId × Value → H} {w : World} {base : Nat} {spare : Nat → Bool} {held : Bool} {t e : TypeId} {fuel : Nat} {cs : List Value} {x : DataW H × List MemPlace}
theorem oU32 (ht : prog.underlying t = some (.int .u32)) (h : DataW.trod enc prog w base spare held fuel t cs = some x) : ∃ a : UInt32,DRels w (okW w) (Ax a) cs:=by
  obtain ⟨z,rfl,_,hw⟩:=DataW.trod_int ht h
  obtain ⟨m,rfl,hm⟩:=u32_of hw
  refine ⟨UInt32.ofNat m,.cons ?_ rfl .nil⟩
  have : (UInt32.ofNat m).toNat = m:=Nat.mod_eq_of_lt hm
  rw [this]
  exact .raw _
theorem oI64 (ht : prog.underlying t = some (.int .i64)) (h : DataW.trod enc prog w base spare held fuel t cs = some x) : ∃ a : Int,DRels w (okW w) (Ec a) cs:=by
  obtain ⟨z,rfl,_,hw⟩:=DataW.trod_int ht h
  exact ⟨z,.cons (.raw _) rfl .nil⟩
theorem oSl {α : Type} {f : α → List AV} {sz : Nat} (ht : prog.underlying t = some (.slice e)) (hsz : prog.cellsOf e = sz) (hpos : 0 < sz) (hl : ∀ a,(f a).length = sz)
    (hel : ∀ n cs' y,DataW.trod enc prog w base spare held n e cs' = some y → ∃ a,DRels w (okW w) (f a) cs') (h : DataW.trod enc prog w base spare held fuel t cs = some x) : ∃ l : List α,DRels w (okW w) [.sl false (l.map f)] cs:=by
  rcases open_slice ht h with ⟨rfl,_⟩ | ⟨a,len,cap,m,n,D,Pl,rfl,hb,hle,hm,hmm,hx,hi⟩
  · exact ⟨[],.cons (Dat.nil _ _) rfl .nil⟩
  · have hlm : len ≤ m:=by rw [hmm]; split <;> omega
    obtain ⟨xs,hxl,hxs⟩:=choose_list (p:=fun i v=>∃ cs',w.cells? base (a.add (i * prog.cellsOf e)) (prog.cellsOf e) = some cs' ∧ DRels w (okW w) (f v) cs') len (fun i hil=>by
      obtain ⟨cs',hc,ht'⟩:=hi i (by omega)
      obtain ⟨x,hx⟩:=hel _ _ _ ht'
      exact ⟨x,cs',hc,hx⟩)
    have hlen : (xs.map f).length = len:=by rw [List.length_map,hxl]
    have cell : ∀ (i : Nat) (v : α),xs[i]? = some v → ∃ cs' : List Value,DRels w (okW w) (f v) cs' ∧ cs'.length = sz ∧ ∀ j,j < sz → w.cell? (a.add (i * sz + j)) = cs'[j]?:=fun i v hv=>by
      obtain ⟨cs',hc,hk⟩:=hxs i v hv
      obtain ⟨_,hl',hat⟩:=World.cells?_some hc
      refine ⟨cs',hk,by rw [hl',hsz],fun j hj=>?_⟩
      have:=hat j (by rw [hsz]; exact hj)
      rw [hsz,av_add_add] at this
      exact this
    have key:=Dat.sl (w:=w) (ok:=okW w) false (xs.map f) (some a) cap sz (fun i j=>(w.cell? (a.add (i * sz + j))).getD undef) (by rw [hlen]; exact hle) hm (by intro h; cases h) ?_ ?_ ?_ ?_
    · rw [hlen] at key
      exact ⟨xs,.cons key rfl .nil⟩
    · intro i cs0 h0
      obtain ⟨v,_,rfl⟩:=map_at h0
      exact hl v
    · intro i cs0 h0
      obtain ⟨v,hv,rfl⟩:=map_at h0
      refine ⟨a,rfl,?_⟩
      obtain ⟨cs',hk,hl',hat⟩:=cell i v hv
      have h1:=hat 0 hpos
      have h2 : 0 < cs'.length:=by omega
      rw [List.getElem?_eq_getElem h2] at h1
      have:=World.block_lt_of_cell? w _ h1
      rw [av_add_block] at this
      exact this
    · intro i j cs0 a' h0 hj ha'
      injection ha' with ha'
      subst ha'
      obtain ⟨v,hv,rfl⟩:=map_at h0
      obtain ⟨cs',hk,hl',hat⟩:=cell i v hv
      have h1:=hat j hj
      have h2 : j < cs'.length:=by omega
      rw [List.getElem?_eq_getElem h2] at h1
      rw [h1]
      refine ⟨rfl,?_⟩
      have h3 : j < (f v).length:=by rw [hl]; exact hj
      have:=(hk.at_ j _ (List.getElem?_eq_getElem h3)).2
      simpa [List.getD_eq_getElem?_getD,List.getElem?_eq_getElem h2] using this
    · intro i j cs0 u h0 hu
      obtain ⟨v,hv,rfl⟩:=map_at h0
      obtain ⟨cs',hk,hl',hat⟩:=cell i v hv
      have h3:=lt_of_get hu
      rw [hl] at h3
      rw [hat j h3]
      have:=(hk.at_ j u hu).1
      simpa [List.getD_eq_getElem?_getD] using this
theorem oBool (ht : prog.underlying t = some .bool) (h : DataW.trod enc prog w base spare held fuel t cs = some x) : ∃ a : Bool,DRels w (okW w) (Az a) cs:=by
  obtain ⟨z,rfl,_⟩:=DataW.trod_bool ht h
  exact ⟨z,.cons (.raw _) rfl .nil⟩
theorem full {cs : List Value} {n : Nat} (h : cs.length = n) : (cs.drop 0).take n = cs:=by
  rw [List.drop_zero,List.take_of_length_le (by omega)]
theorem arg_agg {us : List AV} {vs : Array Value} (h : DRels w (okW w) us vs.toList) : VRel w (lawCx w) [] (.agg us) (.agg vs):=by
  have hl:=h.len
  refine .agg us vs (by simpa using hl) (fun i hi=>?_) (fun i u hu=>?_)
  · have hi' : i < us.length:=by rw [← hl]; simpa using hi
    have:=(h.at_ i _ (List.getElem?_eq_getElem hi')).2
    simpa using this
  · have:=(h.at_ i u hu).1
    exact .dat (show Dat w (okW w) u _ from by simpa using this)
end
/-
  PROVED: the statement ShiftFinishes of the given seat: whatever the map,the schema and the program,drydocklaw18.ShiftFinishes returns true,and what was handed in reads as it did.
  Conditions: none beyond the statement's own.
-/
open Go Go.ChangeShapes Go.WideShapes Go.ChangeAt Go.RowKit Go.Proofs.Tryz
theorem o_3 {H : Type} {enc : TypeId × Value → H} {w : World} {base : Nat} {spare : Nat → Bool} {held : Bool} {fuel : Nat} {cs : List Value} {x : DataW H × List MemPlace} (h : DataW.trod enc prog w base spare held fuel 3 cs = some x) : ∃ a : Int,DRels w (okW w) (Ec a) cs:=oI64 underlying3 h
theorem o_50 {H : Type} {enc : TypeId × Value → H} {w : World} {base : Nat} {spare : Nat → Bool} {held : Bool} {fuel : Nat} {cs : List Value} {x : DataW H × List MemPlace} (h : DataW.trod enc prog w base spare held fuel 50 cs = some x) : ∃ a : Ar,DRels w (okW w) (Ai a) cs:=by
  obtain ⟨xs,m,_,_,hl,hxl,hg⟩:=DataW.trod_struct underlying50 h
  have hl : cs.length = 4:=hl.trans (by kernel_rfl)
  replace hxl : xs.length = 4:=hxl
  have e0 : prog.cellsOf 3 = 1:=by kernel_rfl
  have h0 : DataW.trod enc prog w base spare held m 3 ((cs.drop 0).take (prog.cellsOf 3)) = xs[0]?:=hg 0 _ rfl
  simp only [e0,Nat.reduceMul] at h0
  obtain ⟨b0,r0⟩:=o_3 (h0.trans (List.getElem?_eq_getElem (by omega)))
  have e1 : prog.cellsOf 3 = 1:=by kernel_rfl
  have h1 : DataW.trod enc prog w base spare held m 3 ((cs.drop 1).take (prog.cellsOf 3)) = xs[1]?:=hg 1 _ rfl
  simp only [e1,Nat.reduceMul] at h1
  obtain ⟨b1,r1⟩:=o_3 (h1.trans (List.getElem?_eq_getElem (by omega)))
  have e2 : prog.cellsOf 3 = 1:=by kernel_rfl
  have h2 : DataW.trod enc prog w base spare held m 3 ((cs.drop 2).take (prog.cellsOf 3)) = xs[2]?:=hg 2 _ rfl
  simp only [e2,Nat.reduceMul] at h2
  obtain ⟨b2,r2⟩:=o_3 (h2.trans (List.getElem?_eq_getElem (by omega)))
  have e3 : prog.cellsOf 3 = 1:=by kernel_rfl
  have h3 : DataW.trod enc prog w base spare held m 3 ((cs.drop 3).take (prog.cellsOf 3)) = xs[3]?:=hg 3 _ rfl
  simp only [e3,Nat.reduceMul] at h3
  obtain ⟨b3,r3⟩:=o_3 (h3.trans (List.getElem?_eq_getElem (by omega)))
  have r:=(DRels.cat (DRels.cat (DRels.cat r0 r1) r2) r3)
  refine ⟨Ar.mk b0 b1 b2 b3,?_⟩
  have hf:=full hl
  rw [← hf]
  exact r
theorem o_25 {H : Type} {enc : TypeId × Value → H} {w : World} {base : Nat} {spare : Nat → Bool} {held : Bool} {fuel : Nat} {cs : List Value} {x : DataW H × List MemPlace} (h : DataW.trod enc prog w base spare held fuel 25 cs = some x) : ∃ a : UInt32,DRels w (okW w) (Ax a) cs:=oU32 underlying25 h
theorem o_62 {H : Type} {enc : TypeId × Value → H} {w : World} {base : Nat} {spare : Nat → Bool} {held : Bool} {fuel : Nat} {cs : List Value} {x : DataW H × List MemPlace} (h : DataW.trod enc prog w base spare held fuel 62 cs = some x) : ∃ a : (List UInt32),DRels w (okW w) ((Dg0 Ax) a) cs:=oSl (f:=Ax) (sz:=1) underlying62 (by kernel_rfl) (by decide) (fun _=>rfl) (fun _ _ _ h=>o_25 h) h
theorem o_66 {H : Type} {enc : TypeId × Value → H} {w : World} {base : Nat} {spare : Nat → Bool} {held : Bool} {fuel : Nat} {cs : List Value} {x : DataW H × List MemPlace} (h : DataW.trod enc prog w base spare held fuel 66 cs = some x) : ∃ a : Bd,DRels w (okW w) (Av a) cs:=by
  obtain ⟨xs,m,_,_,hl,hxl,hg⟩:=DataW.trod_struct underlying66 h
  have hl : cs.length = 2:=hl.trans (by kernel_rfl)
  replace hxl : xs.length = 2:=hxl
  have e0 : prog.cellsOf 25 = 1:=by kernel_rfl
  have h0 : DataW.trod enc prog w base spare held m 25 ((cs.drop 0).take (prog.cellsOf 25)) = xs[0]?:=hg 0 _ rfl
  simp only [e0,Nat.reduceMul] at h0
  obtain ⟨b0,r0⟩:=o_25 (h0.trans (List.getElem?_eq_getElem (by omega)))
  have e1 : prog.cellsOf 62 = 1:=by kernel_rfl
  have h1 : DataW.trod enc prog w base spare held m 62 ((cs.drop 1).take (prog.cellsOf 62)) = xs[1]?:=hg 1 _ rfl
  simp only [e1,Nat.reduceMul] at h1
  obtain ⟨b1,r1⟩:=o_62 (h1.trans (List.getElem?_eq_getElem (by omega)))
  have r:=(DRels.cat r0 r1)
  refine ⟨Bd.mk b0 b1,?_⟩
  have hf:=full hl
  rw [← hf]
  exact r
theorem o_51 {H : Type} {enc : TypeId × Value → H} {w : World} {base : Nat} {spare : Nat → Bool} {held : Bool} {fuel : Nat} {cs : List Value} {x : DataW H × List MemPlace} (h : DataW.trod enc prog w base spare held fuel 51 cs = some x) : ∃ a : (List Bd),DRels w (okW w) ((Dg0 Av) a) cs:=oSl (f:=Av) (sz:=2) underlying51 (by kernel_rfl) (by decide) (fun _=>rfl) (fun _ _ _ h=>o_66 h) h
theorem o_53 {H : Type} {enc : TypeId × Value → H} {w : World} {base : Nat} {spare : Nat → Bool} {held : Bool} {fuel : Nat} {cs : List Value} {x : DataW H × List MemPlace} (h : DataW.trod enc prog w base spare held fuel 53 cs = some x) : ∃ a : Ap,DRels w (okW w) (Bb a) cs:=by
  obtain ⟨xs,m,_,_,hl,hxl,hg⟩:=DataW.trod_struct underlying53 h
  have hl : cs.length = 6:=hl.trans (by kernel_rfl)
  replace hxl : xs.length = 3:=hxl
  have e0 : prog.cellsOf 50 = 4:=by kernel_rfl
  have h0 : DataW.trod enc prog w base spare held m 50 ((cs.drop 0).take (prog.cellsOf 50)) = xs[0]?:=hg 0 _ rfl
  simp only [e0,Nat.reduceMul] at h0
  obtain ⟨b0,r0⟩:=o_50 (h0.trans (List.getElem?_eq_getElem (by omega)))
  have e1 : prog.cellsOf 51 = 1:=by kernel_rfl
  have h1 : DataW.trod enc prog w base spare held m 51 ((cs.drop 4).take (prog.cellsOf 51)) = xs[1]?:=hg 1 _ rfl
  simp only [e1,Nat.reduceMul] at h1
  obtain ⟨b1,r1⟩:=o_51 (h1.trans (List.getElem?_eq_getElem (by omega)))
  have e2 : prog.cellsOf 25 = 1:=by kernel_rfl
  have h2 : DataW.trod enc prog w base spare held m 25 ((cs.drop 5).take (prog.cellsOf 25)) = xs[2]?:=hg 2 _ rfl
  simp only [e2,Nat.reduceMul] at h2
  obtain ⟨b2,r2⟩:=o_25 (h2.trans (List.getElem?_eq_getElem (by omega)))
  have r:=(DRels.cat (DRels.cat r0 r1) r2)
  refine ⟨Ap.mk b0 b1 b2,?_⟩
  have hf:=full hl
  rw [← hf]
  exact r
theorem o_4 {H : Type} {enc : TypeId × Value → H} {w : World} {base : Nat} {spare : Nat → Bool} {held : Bool} {fuel : Nat} {cs : List Value} {x : DataW H × List MemPlace} (h : DataW.trod enc prog w base spare held fuel 4 cs = some x) : ∃ a : Bool,DRels w (okW w) (Az a) cs:=oBool underlying4 h
theorem o_37 {H : Type} {enc : TypeId × Value → H} {w : World} {base : Nat} {spare : Nat → Bool} {held : Bool} {fuel : Nat} {cs : List Value} {x : DataW H × List MemPlace} (h : DataW.trod enc prog w base spare held fuel 37 cs = some x) : ∃ a : Am,DRels w (okW w) (Aw a) cs:=by
  obtain ⟨xs,m,_,_,hl,hxl,hg⟩:=DataW.trod_struct underlying37 h
  have hl : cs.length = 7:=hl.trans (by kernel_rfl)
  replace hxl : xs.length = 7:=hxl
  have e0 : prog.cellsOf 3 = 1:=by kernel_rfl
  have h0 : DataW.trod enc prog w base spare held m 3 ((cs.drop 0).take (prog.cellsOf 3)) = xs[0]?:=hg 0 _ rfl
  simp only [e0,Nat.reduceMul] at h0
  obtain ⟨b0,r0⟩:=o_3 (h0.trans (List.getElem?_eq_getElem (by omega)))
  have e1 : prog.cellsOf 3 = 1:=by kernel_rfl
  have h1 : DataW.trod enc prog w base spare held m 3 ((cs.drop 1).take (prog.cellsOf 3)) = xs[1]?:=hg 1 _ rfl
  simp only [e1,Nat.reduceMul] at h1
  obtain ⟨b1,r1⟩:=o_3 (h1.trans (List.getElem?_eq_getElem (by omega)))
  have e2 : prog.cellsOf 3 = 1:=by kernel_rfl
  have h2 : DataW.trod enc prog w base spare held m 3 ((cs.drop 2).take (prog.cellsOf 3)) = xs[2]?:=hg 2 _ rfl
  simp only [e2,Nat.reduceMul] at h2
  obtain ⟨b2,r2⟩:=o_3 (h2.trans (List.getElem?_eq_getElem (by omega)))
  have e3 : prog.cellsOf 3 = 1:=by kernel_rfl
  have h3 : DataW.trod enc prog w base spare held m 3 ((cs.drop 3).take (prog.cellsOf 3)) = xs[3]?:=hg 3 _ rfl
  simp only [e3,Nat.reduceMul] at h3
  obtain ⟨b3,r3⟩:=o_3 (h3.trans (List.getElem?_eq_getElem (by omega)))
  have e4 : prog.cellsOf 4 = 1:=by kernel_rfl
  have h4 : DataW.trod enc prog w base spare held m 4 ((cs.drop 4).take (prog.cellsOf 4)) = xs[4]?:=hg 4 _ rfl
  simp only [e4,Nat.reduceMul] at h4
  obtain ⟨b4,r4⟩:=o_4 (h4.trans (List.getElem?_eq_getElem (by omega)))
  have e5 : prog.cellsOf 3 = 1:=by kernel_rfl
  have h5 : DataW.trod enc prog w base spare held m 3 ((cs.drop 5).take (prog.cellsOf 3)) = xs[5]?:=hg 5 _ rfl
  simp only [e5,Nat.reduceMul] at h5
  obtain ⟨b5,r5⟩:=o_3 (h5.trans (List.getElem?_eq_getElem (by omega)))
  have e6 : prog.cellsOf 25 = 1:=by kernel_rfl
  have h6 : DataW.trod enc prog w base spare held m 25 ((cs.drop 6).take (prog.cellsOf 25)) = xs[6]?:=hg 6 _ rfl
  simp only [e6,Nat.reduceMul] at h6
  obtain ⟨b6,r6⟩:=o_25 (h6.trans (List.getElem?_eq_getElem (by omega)))
  have r:=(DRels.cat (DRels.cat (DRels.cat (DRels.cat (DRels.cat (DRels.cat r0 r1) r2) r3) r4) r5) r6)
  refine ⟨Am.mk b0 b1 b2 b3 b4 b5 b6,?_⟩
  have hf:=full hl
  rw [← hf]
  exact r
theorem o_69 {H : Type} {enc : TypeId × Value → H} {w : World} {base : Nat} {spare : Nat → Bool} {held : Bool} {fuel : Nat} {cs : List Value} {x : DataW H × List MemPlace} (h : DataW.trod enc prog w base spare held fuel 69 cs = some x) : ∃ a : (List Am),DRels w (okW w) ((Dg0 Aw) a) cs:=oSl (f:=Aw) (sz:=7) underlying69 (by kernel_rfl) (by decide) (fun _=>rfl) (fun _ _ _ h=>o_37 h) h
theorem o_71 {H : Type} {enc : TypeId × Value → H} {w : World} {base : Nat} {spare : Nat → Bool} {held : Bool} {fuel : Nat} {cs : List Value} {x : DataW H × List MemPlace} (h : DataW.trod enc prog w base spare held fuel 71 cs = some x) : ∃ a : Cv,DRels w (okW w) (Al a) cs:=by
  obtain ⟨xs,m,_,_,hl,hxl,hg⟩:=DataW.trod_struct underlying71 h
  have hl : cs.length = 2:=hl.trans (by kernel_rfl)
  replace hxl : xs.length = 2:=hxl
  have e0 : prog.cellsOf 3 = 1:=by kernel_rfl
  have h0 : DataW.trod enc prog w base spare held m 3 ((cs.drop 0).take (prog.cellsOf 3)) = xs[0]?:=hg 0 _ rfl
  simp only [e0,Nat.reduceMul] at h0
  obtain ⟨b0,r0⟩:=o_3 (h0.trans (List.getElem?_eq_getElem (by omega)))
  have e1 : prog.cellsOf 69 = 1:=by kernel_rfl
  have h1 : DataW.trod enc prog w base spare held m 69 ((cs.drop 1).take (prog.cellsOf 69)) = xs[1]?:=hg 1 _ rfl
  simp only [e1,Nat.reduceMul] at h1
  obtain ⟨b1,r1⟩:=o_69 (h1.trans (List.getElem?_eq_getElem (by omega)))
  have r:=(DRels.cat r0 r1)
  refine ⟨Cv.mk b0 b1,?_⟩
  have hf:=full hl
  rw [← hf]
  exact r
theorem o_54 {H : Type} {enc : TypeId × Value → H} {w : World} {base : Nat} {spare : Nat → Bool} {held : Bool} {fuel : Nat} {cs : List Value} {x : DataW H × List MemPlace} (h : DataW.trod enc prog w base spare held fuel 54 cs = some x) : ∃ a : (List Cv),DRels w (okW w) ((Dg0 Al) a) cs:=oSl (f:=Al) (sz:=2) underlying54 (by kernel_rfl) (by decide) (fun _=>rfl) (fun _ _ _ h=>o_71 h) h
theorem o_56 {H : Type} {enc : TypeId × Value → H} {w : World} {base : Nat} {spare : Nat → Bool} {held : Bool} {fuel : Nat} {cs : List Value} {x : DataW H × List MemPlace} (h : DataW.trod enc prog w base spare held fuel 56 cs = some x) : ∃ a : Aq,DRels w (okW w) (Ez a) cs:=by
  obtain ⟨xs,m,_,_,hl,hxl,hg⟩:=DataW.trod_struct underlying56 h
  have hl : cs.length = 1:=hl.trans (by kernel_rfl)
  replace hxl : xs.length = 1:=hxl
  have e0 : prog.cellsOf 54 = 1:=by kernel_rfl
  have h0 : DataW.trod enc prog w base spare held m 54 ((cs.drop 0).take (prog.cellsOf 54)) = xs[0]?:=hg 0 _ rfl
  simp only [e0,Nat.reduceMul] at h0
  obtain ⟨b0,r0⟩:=o_54 (h0.trans (List.getElem?_eq_getElem (by omega)))
  have r:=r0
  refine ⟨Aq.mk b0,?_⟩
  have hf:=full hl
  rw [← hf]
  exact r
theorem shiftFinishesOwn : ownKnob Tryz.prog.godebug = none:=by kernel_rfl
theorem shiftFinishesLaid : laidOutB Tryz.prog = true:=by kernel_rfl
set_option maxRecDepth 100000 in
theorem shiftFinishes_lifted (os : Os) (started : os.Started) (H : Type) (enc : TypeId × Value → H) :
    ReturnsInHanded {} Tryz.checked os 10 .any (Rows.shiftFinishesSpec.pre6 enc Tryz.prog Tryz.f10 Rows.shiftFinishesRow.domain false) (Rows.shiftFinishesSpec.post enc Tryz.prog Tryz.f10 false true false false):=by
  refine returnsInHanded_of_change (C:=Tryz.checked) shiftFinishesOwn started (by kernel_rfl) Tryz.func10
    (ChangeSpec.witness6 (enc:=enc) (C:=Tryz.checked) false ⟨#[],#[.agg #[.int .i64 0,.int .i64 0,.int .i64 0,.int .i64 0,.slice none 0 0,.int .u32 0],.agg #[.int .i64 0,.int .i64 0,.int .i64 0,.int .i64 0],.agg #[.slice none 0 0]],[]⟩ 8 (by kernel_rfl) (by kernel_rfl) (by kernel_rfl) (by kernel_rfl)) ?_
  intro W base args ds gs before hval0 hW _ _
  have hval : ∀ (j : Nat) t v,Tryz.f10.params[j]? = some t → args[j]? = some v → Value.okWide Tryz.prog W .any base t v:=hval0
  have hW':=hW
  obtain ⟨p,q,hA0,hV,rfl,hfz,hnd⟩:=hW
  have hA : DataW.TrodAll enc Tryz.prog W 0 (fun _=>true) true Tryz.f10.params.toList args.toList ds p:=hA0
  rw [Tryz.params10] at hA hval
  obtain ⟨l⟩:=args
  obtain ⟨v0,l0,d0,ds0,p0,q0,rfl,rfl,_,h0,hA1⟩:=trodAll_cons hA
  obtain ⟨v1,l1,d1,ds1,p1,q1,rfl,rfl,_,h1,hA2⟩:=trodAll_cons hA1
  obtain ⟨v2,l2,d2,ds2,p2,q2,rfl,rfl,_,h2,hA3⟩:=trodAll_cons hA2
  obtain ⟨rfl,rfl,_⟩:=trodAll_nil hA3
  obtain ⟨rfl,rfl⟩:=trodVars_none hV
  obtain ⟨cs0,rfl,_⟩:=okWide_struct underlying53 (hval 0 _ v0 rfl rfl)
  obtain ⟨fuel0,hf0⟩:=h0
  obtain ⟨a0,r0⟩:=o_53 hf0
  obtain ⟨cs1,rfl,_⟩:=okWide_struct underlying50 (hval 1 _ v1 rfl rfl)
  obtain ⟨fuel1,hf1⟩:=h1
  obtain ⟨a1,r1⟩:=o_50 hf1
  obtain ⟨cs2,rfl,_⟩:=okWide_struct underlying56 (hval 2 _ v2 rfl rfl)
  obtain ⟨fuel2,hf2⟩:=h2
  obtain ⟨a2,r2⟩:=o_56 hf2
  refine (Ctr.law (Vo (finishes_true18 a0 a1 a2)) rfl (VRels.of1 (.cons (arg_agg r0) (.cons (arg_agg r1) (.cons (arg_agg r2) (.nil)))))).mono fun e W' ⟨he,hw⟩=>?_
  subst he
  exact ⟨_,rfl,post_law shiftFinishesLaid hW' rfl rfl (by kernel_rfl) rfl rfl rfl hw⟩
theorem shiftFinishes_holds : Rows.ShiftFinishesSaid:=
  OpenClaim.holds_of_wide 10 Tryz.f10 rfl rfl rfl rfl rfl rfl rfl ⟨rfl,rfl,rfl,rfl,rfl⟩ rfl rfl rfl rfl rfl (by kernel_rfl) Tryz.func10 (by kernel_rfl)
    (of_decide_eq_true (by kernel_rfl)) (by unfold Func.isWrapper; first | (rw [if_pos (by decide +kernel)]; kernel_rfl) | (rw [if_neg (by decide +kernel)]; exact ⟨rfl,rfl⟩))
    (fun os started H enc _=>shiftFinishes_lifted os started H enc)
end Go.Proofs.YtcffmheeofjifaaGreat
