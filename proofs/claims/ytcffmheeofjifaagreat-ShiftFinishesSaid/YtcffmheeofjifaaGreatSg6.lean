/- Packed texts: Qverifyworkjump, Qverifyworkload, Qverifyworkstore, Qverifykinds, QslicesIndexFuncapiSchemaapiSchemaverifyShapes1, QslicesContainsFuncapiSchemaapiSchemaverifyShapes1, QverifyShapes, Qverifyinside, QverifyVerify, Sk6, Sk7, Qdrydockref01Words, QschemaStep, QshiftFits, Qshiftmay, Qshiftput, QshiftImage, QshiftOne, Qdrydocklaw18awake, Vl, Vq18, Vqa18, Qdrydockref03Few, Qdrydocklaw18few, Sk8, Fq, Qshiftfind1, QslicesIndexFuncapiEntryapiEntryshiftfind1, Qshiftfind, Qshiftclean1, Qshiftclean2, QslicesCloneapiFnapiFn, QslicesCloneapiInstapiInst, Qshiftown, QslicesIndexFuncuint32uint32shiftclean1, QslicesDeleteFuncuint32uint32shiftclean1, QslicesIndexFuncapiEntryapiEntryshiftclean2, QslicesDeleteFuncapiEntryapiEntryshiftclean2, Qshiftclean, Qshiftfits, QslicesIndexuint32uint32, QslicesContainsuint32uint32. -/
import Derived.Test.YtcffmheeofjifaaGreatSg5
import Derived.Lib.Hide
set_option linter.unusedVariables false
set_option linter.unusedSimpArgs false
set_option maxHeartbeats 4000000
set_option maxRecDepth 100000
namespace Go.Proofs.YtcffmheeofjifaaGreat
open Go Go.RowKit Go.Proofs.Tryz
noncomputable def Ie (a0 : Ac) (a1 : Am) : Option (Ac):=
  cond (a1.Fn == 0) (
  po (Cu a0) fun r2=>
  pg (r2.2 = a0) <|
  po (Eo a0 (IntKind.i64.wrap ((IntKind.i64.wrap (a0.at_ + a1.Off)) + 1)) r2.1) fun r4=>
  some r4) (
  po (Cu a0) fun r5=>
  pg (r5.2 = a0) <|
  po (Db a0 a1.Dst) fun r7=>
  po (Dl r7.2 a1) fun r8=>
  po (De a1.Fn (IntKind.i64.wrap ((IntKind.i64.wrap (r8.2.at_ + a1.Off)) + 1)) r7.1 r8.1 r8.2 r5.1 a1) fun r9=>
  cond (r9.2.2.2.2.Fn == 1) (
  po (De 2 (IntKind.i64.wrap (r9.2.2.1.at_ + 1)) r9.1 r9.2.1 r9.2.2.1 r9.2.2.2.1 r9.2.2.2.2) fun r11=>
  some r11.2.2.1) (
  cond (r9.2.2.2.2.Fn == 2) (
  po (De 1 (IntKind.i64.wrap (r9.2.2.1.at_ + 1)) r9.1 r9.2.1 r9.2.2.1 r9.2.2.2.1 r9.2.2.2.2) fun r13=>
  some r13.2.2.1) (
  cond (r9.2.2.2.2.Fn == 3) (
  po (De 4 (IntKind.i64.wrap (r9.2.2.1.at_ + 1)) r9.1 r9.2.1 r9.2.2.1 r9.2.2.2.1 r9.2.2.2.2) fun r15=>
  some r15.2.2.1) (
  cond (r9.2.2.2.2.Fn == 4) (
  po (De 3 (IntKind.i64.wrap (r9.2.2.1.at_ + 1)) r9.1 r9.2.1 r9.2.2.1 r9.2.2.2.1 r9.2.2.2.2) fun r17=>
  some r17.2.2.1) (
  po (De 0 (IntKind.i64.wrap (r9.2.2.1.at_ + 1)) r9.1 r9.2.1 r9.2.2.1 r9.2.2.2.1 r9.2.2.2.2) fun r18=>
  some r18.2.2.1)))))
theorem Cj0 {a0 : Ac} {a1 : Am} {r : Ac} (h : Ie a0 a1 = some r) : Ctr prog 176 [.ref 0 0,.agg (Aw a1)] [(0,.box 212 [.sl false (a0.p.Fns.map Al),ri a0.fn,.sl false (a0.l.map Ai),.row 1 0 16 0 a0.in_.length,.row 2 0 1 0 a0.is.length,ri a0.at_,rb a0.safe]),(1,.row 217 16 0 (a0.in_.map Af)),(2,.row 4 1 0 (a0.is.map Az))] (.tup []) [(0,.box 212 [.sl false (r.p.Fns.map Al),ri r.fn,.sl false (r.l.map Ai),.row 1 0 16 0 r.in_.length,.row 2 0 1 0 r.is.length,ri r.at_,rb r.safe]),(1,.row 217 16 0 (r.in_.map Af)),(2,.row 4 1 0 (r.is.map Az))]:=by
 unfold Ie at h;refine Ctr.ofW Ba func176 rfl call176 3 _ ntmps176 [] rfl rfl rfl (fun B=>?_);refine vs [2,3] fun _ k=>?_;push_cast;apply k;clear k;refine VC.seq ?_;refine vs [2,3,10] fun _ k=>?_;push_cast;apply k;clear k;refine vc h (fun hb1 h=>?_) (fun hb1 h=>?_)
 ·obtain ⟨r2,hr2,h⟩:=Aa h;obtain ⟨hg3,h⟩:=Bs h;have qr2:=Fd hr2;rw [hg3] at qr2;obtain ⟨r4,hr4,h⟩:=Aa h;refine vsD [some 11,some 12,some 13,some 14,some 15,some 16,some 17,some 18,some 19,some 20,some 21,some 22] [] fun _ k=>?_;refine Ch 8 fun _ l=>?_;push_cast;apply l;clear l;simp only [List.drop_succ_cons,List.drop_zero];push_cast;refine chRD (H:=[(0,.box 212 [.sl false (a0.p.Fns.map Al),ri a0.fn,.sl false (a0.l.map Ai),.row 1 0 16 0 a0.in_.length,.row 2 0 1 0 a0.is.length,ri a0.at_,rb a0.safe]),(1,.row 217 16 0 (a0.in_.map Af)),(2,.row 4 1 0 (a0.is.map Az))]) (Ctr.loH (Ctr.ren Bij.id (qr2) (by push_cast) (by push_cast))) (by push_cast) (by push_cast) ?_;push_cast;refine chD (H:=[(0,.box 212 [.sl false (a0.p.Fns.map Al),ri a0.fn,.sl false (a0.l.map Ai),.row 1 0 16 0 a0.in_.length,.row 2 0 1 0 a0.is.length,ri a0.at_,rb a0.safe]),(1,.row 217 16 0 (a0.in_.map Af)),(2,.row 4 1 0 (a0.is.map Az))]) (Ctr.loH (Ctr.ren Bij.id (Pw hr4) (by push_cast) (by push_cast))) (by push_cast) ?_;push_cast;refine ⟨rfl,k _ ?_⟩;clear k;refine VC.sub (s':=⟨[],[(0,.box 212 [.sl false (r4.p.Fns.map Al),ri r4.fn,.sl false (r4.l.map Ai),.row 1 0 16 0 r4.in_.length,.row 2 0 1 0 r4.is.length,ri r4.at_,rb r4.safe]),(1,.row 217 16 0 (r4.in_.map Af)),(2,.row 4 1 0 (r4.is.map Az))],20,57,3⟩) (so (by push_cast [hb1])) ?_;refine VC.ret ?_;replace h:=Option.some.inj h;subst h;exact en (by push_cast [hb1])
 ·refine VC.skip ?_;obtain ⟨r5,hr5,h⟩:=Aa h;obtain ⟨hg6,h⟩:=Bs h;have qr5:=Fd hr5;rw [hg6] at qr5;obtain ⟨r7,hr7,h⟩:=Aa h;obtain ⟨r8,hr8,h⟩:=Aa h;refine vsD [some 23,some 24,some 25,some 26,some 27,some 28,some 29,some 30,some 31,some 4,some 5,some 6,none,none,none] [2,3,4,5,6] fun _ k=>?_;refine Ch 8 fun _ l=>?_;push_cast;refine chRD (H:=[(0,.box 212 [.sl false (a0.p.Fns.map Al),ri a0.fn,.sl false (a0.l.map Ai),.row 1 0 16 0 a0.in_.length,.row 2 0 1 0 a0.is.length,ri a0.at_,rb a0.safe]),(1,.row 217 16 0 (a0.in_.map Af)),(2,.row 4 1 0 (a0.is.map Az))]) (Ctr.loH (Ctr.ren Bij.id (qr5) (by push_cast) (by push_cast))) (by push_cast) (by push_cast) ?_;push_cast;refine chD (H:=[(0,.box 212 [.sl false (a0.p.Fns.map Al),ri a0.fn,.sl false (a0.l.map Ai),.row 1 0 16 0 a0.in_.length,.row 2 0 1 0 a0.is.length,ri a0.at_,rb a0.safe]),(1,.row 217 16 0 (a0.in_.map Af)),(2,.row 4 1 0 (a0.is.map Az))]) (Ctr.loH (Ctr.ren Bij.id (Hb hr7) (by push_cast) (by push_cast))) (by push_cast) ?_;push_cast;apply l;clear l;simp only [List.drop_succ_cons,List.drop_zero];push_cast;refine chD (H:=[(0,.box 212 [.sl false (r7.2.p.Fns.map Al),ri r7.2.fn,.sl false (r7.2.l.map Ai),.row 1 0 16 0 r7.2.in_.length,.row 2 0 1 0 r7.2.is.length,ri r7.2.at_,rb r7.2.safe]),(1,.row 217 16 0 (r7.2.in_.map Af)),(2,.row 4 1 0 (r7.2.is.map Az))]) (Ctr.loH (Ctr.ren Bij.id (Kg hr8) (by push_cast) (by push_cast))) (by push_cast) ?_;push_cast;refine ⟨rfl,k _ ?_⟩;clear k;refine VC.sub (s':=⟨[(2,.ref 3 0),(3,.ref 4 0),(4,.ref 17 0),(5,.ref 18 0),(6,.ref 19 0)],[(0,.box 212 [.sl false (r8.2.p.Fns.map Al),ri r8.2.fn,.sl false (r8.2.l.map Ai),.row 1 0 16 0 r8.2.in_.length,.row 2 0 1 0 r8.2.is.length,ri r8.2.at_,rb r8.2.safe]),(1,.row 217 16 0 (r8.2.in_.map Af)),(2,.row 4 1 0 (r8.2.is.map Az)),(3,.box 210 [.ref 0 0]),(4,.box 37 (Aw a1)),(17,.box 217 (Af r5.1)),(18,.box 214 [.raw (.complex .f64 r7.1.re r7.1.im)]),(19,.box 214 [.raw (.complex .f64 r8.1.re r8.1.im)])],23,57,3⟩) (so (by push_cast [hb1])) ?_;refine vs [2,3,7] fun _ k=>?_;push_cast;apply k;clear k;obtain ⟨r9,hr9,h⟩:=Aa h;refine vsD [some 33,some 34,some 35,some 36,some 37,some 38,some 39,some 40,some 41,some 42,some 43,some 44] [2,3,7] fun _ k=>?_;refine Ch 8 fun _ l=>?_;push_cast;apply l;clear l;simp only [List.drop_succ_cons,List.drop_zero];push_cast;refine chD (H:=[(18,.box 214 [.raw (.complex .f64 r7.1.re r7.1.im)]),(19,.box 214 [.raw (.complex .f64 r8.1.re r8.1.im)]),(3,.box 210 [.ref 0 0]),(0,.box 212 [.sl false (r8.2.p.Fns.map Al),ri r8.2.fn,.sl false (r8.2.l.map Ai),.row 1 0 16 0 r8.2.in_.length,.row 2 0 1 0 r8.2.is.length,ri r8.2.at_,rb r8.2.safe]),(1,.row 217 16 0 (r8.2.in_.map Af)),(2,.row 4 1 0 (r8.2.is.map Az)),(17,.box 217 (Af r5.1)),(4,.box 37 (Aw a1))]) (Ctr.loH (Ctr.ren (Bij.tab (l:=[(0,18),(1,19),(2,3),(3,0),(4,1),(5,2),(6,17),(7,4),(17,7),(18,5),(19,6)]) rfl) (Gu hr9) (by push_cast) (by push_cast))) (by push_cast) ?_;push_cast;refine ⟨rfl,k _ ?_⟩;clear k;refine VC.sub (s':=⟨[(2,.ref 3 0),(3,.ref 4 0),(7,.fn (.func 214) [] [.ref 18 0,.ref 19 0,.ref 3 0,.ref 17 0,.ref 4 0])],[(0,.box 212 [.sl false (r9.2.2.1.p.Fns.map Al),ri r9.2.2.1.fn,.sl false (r9.2.2.1.l.map Ai),.row 1 0 16 0 r9.2.2.1.in_.length,.row 2 0 1 0 r9.2.2.1.is.length,ri r9.2.2.1.at_,rb r9.2.2.1.safe]),(1,.row 217 16 0 (r9.2.2.1.in_.map Af)),(2,.row 4 1 0 (r9.2.2.1.is.map Az)),(3,.box 210 [.ref 0 0]),(4,.box 37 (Aw r9.2.2.2.2)),(17,.box 217 (Af r9.2.2.2.1)),(18,.box 214 [.raw (.complex .f64 r9.1.re r9.1.im)]),(19,.box 214 [.raw (.complex .f64 r9.2.1.re r9.2.1.im)])],37,57,3⟩) (so (by push_cast [hb1])) ?_;rcases bt (r9.2.2.2.2.Fn == 1) with hb10 | hb10
  ·replace h:=Ao hb10 h;obtain ⟨r11,hr11,h⟩:=Aa h;refine vlD [some 45,some 46,none,none,none,none,some 47,some 48,some 49,some 50,some 51,some 52,some 53,some 54,some 55,some 56] fun _ k=>?_;refine Ch 8 fun _ l=>?_;push_cast [hb10];(repeat refine ao ?_);apply l;clear l;simp only [List.drop_succ_cons,List.drop_zero];push_cast [hb10];(repeat refine ao ?_);refine chD (H:=[(18,.box 214 [.raw (.complex .f64 r9.1.re r9.1.im)]),(19,.box 214 [.raw (.complex .f64 r9.2.1.re r9.2.1.im)]),(3,.box 210 [.ref 0 0]),(0,.box 212 [.sl false (r9.2.2.1.p.Fns.map Al),ri r9.2.2.1.fn,.sl false (r9.2.2.1.l.map Ai),.row 1 0 16 0 r9.2.2.1.in_.length,.row 2 0 1 0 r9.2.2.1.is.length,ri r9.2.2.1.at_,rb r9.2.2.1.safe]),(1,.row 217 16 0 (r9.2.2.1.in_.map Af)),(2,.row 4 1 0 (r9.2.2.1.is.map Az)),(17,.box 217 (Af r9.2.2.2.1)),(4,.box 37 (Aw r9.2.2.2.2))]) (Ctr.loH (Ctr.ren (Bij.tab (l:=[(0,18),(1,19),(2,3),(3,0),(4,1),(5,2),(6,17),(7,4),(17,7),(18,5),(19,6)]) rfl) (Gu hr11) (by push_cast [hb10]) (by push_cast [hb10]))) (by push_cast [hb10]) ?_;push_cast [hb10];(repeat refine ao ?_);refine ⟨rfl,k _ ?_⟩;clear k;replace h:=Option.some.inj h;subst h;exact eN (by push_cast [hb1,hb10])
  ·replace h:=Au hb10 h;rcases bt (r9.2.2.2.2.Fn == 2) with hb12 | hb12
   ·replace h:=Ao hb12 h;obtain ⟨r13,hr13,h⟩:=Aa h;refine vlD [some 45,some 46,none,none,none,none,some 47,some 48,some 49,some 50,some 51,some 52,some 53,some 54,some 55,some 56] fun _ k=>?_;refine Ch 8 fun _ l=>?_;push_cast [hb10,hb12];(repeat refine ao ?_);apply l;clear l;simp only [List.drop_succ_cons,List.drop_zero];push_cast [hb10,hb12];(repeat refine ao ?_);refine chD (H:=[(18,.box 214 [.raw (.complex .f64 r9.1.re r9.1.im)]),(19,.box 214 [.raw (.complex .f64 r9.2.1.re r9.2.1.im)]),(3,.box 210 [.ref 0 0]),(0,.box 212 [.sl false (r9.2.2.1.p.Fns.map Al),ri r9.2.2.1.fn,.sl false (r9.2.2.1.l.map Ai),.row 1 0 16 0 r9.2.2.1.in_.length,.row 2 0 1 0 r9.2.2.1.is.length,ri r9.2.2.1.at_,rb r9.2.2.1.safe]),(1,.row 217 16 0 (r9.2.2.1.in_.map Af)),(2,.row 4 1 0 (r9.2.2.1.is.map Az)),(17,.box 217 (Af r9.2.2.2.1)),(4,.box 37 (Aw r9.2.2.2.2))]) (Ctr.loH (Ctr.ren (Bij.tab (l:=[(0,18),(1,19),(2,3),(3,0),(4,1),(5,2),(6,17),(7,4),(17,7),(18,5),(19,6)]) rfl) (Gu hr13) (by push_cast [hb10,hb12]) (by push_cast [hb10,hb12]))) (by push_cast [hb10,hb12]) ?_;push_cast [hb10,hb12];(repeat refine ao ?_);refine ⟨rfl,k _ ?_⟩;clear k;replace h:=Option.some.inj h;subst h;exact eN (by push_cast [hb1,hb10,hb12])
   ·replace h:=Au hb12 h;rcases bt (r9.2.2.2.2.Fn == 3) with hb14 | hb14
    ·replace h:=Ao hb14 h;obtain ⟨r15,hr15,h⟩:=Aa h;refine vlD [some 45,some 46,none,none,none,none,some 47,some 48,some 49,some 50,some 51,some 52,some 53,some 54,some 55,some 56] fun _ k=>?_;refine Ch 8 fun _ l=>?_;push_cast [hb10,hb12,hb14];(repeat refine ao ?_);apply l;clear l;simp only [List.drop_succ_cons,List.drop_zero];push_cast [hb10,hb12,hb14];(repeat refine ao ?_);refine chD (H:=[(18,.box 214 [.raw (.complex .f64 r9.1.re r9.1.im)]),(19,.box 214 [.raw (.complex .f64 r9.2.1.re r9.2.1.im)]),(3,.box 210 [.ref 0 0]),(0,.box 212 [.sl false (r9.2.2.1.p.Fns.map Al),ri r9.2.2.1.fn,.sl false (r9.2.2.1.l.map Ai),.row 1 0 16 0 r9.2.2.1.in_.length,.row 2 0 1 0 r9.2.2.1.is.length,ri r9.2.2.1.at_,rb r9.2.2.1.safe]),(1,.row 217 16 0 (r9.2.2.1.in_.map Af)),(2,.row 4 1 0 (r9.2.2.1.is.map Az)),(17,.box 217 (Af r9.2.2.2.1)),(4,.box 37 (Aw r9.2.2.2.2))]) (Ctr.loH (Ctr.ren (Bij.tab (l:=[(0,18),(1,19),(2,3),(3,0),(4,1),(5,2),(6,17),(7,4),(17,7),(18,5),(19,6)]) rfl) (Gu hr15) (by push_cast [hb10,hb12,hb14]) (by push_cast [hb10,hb12,hb14]))) (by push_cast [hb10,hb12,hb14]) ?_;push_cast [hb10,hb12,hb14];(repeat refine ao ?_);refine ⟨rfl,k _ ?_⟩;clear k;replace h:=Option.some.inj h;subst h;exact eN (by push_cast [hb1,hb10,hb12,hb14])
    ·replace h:=Au hb14 h;rcases bt (r9.2.2.2.2.Fn == 4) with hb16 | hb16
     ·replace h:=Ao hb16 h;obtain ⟨r17,hr17,h⟩:=Aa h;refine vlD [some 45,some 46,none,none,none,none,some 47,some 48,some 49,some 50,some 51,some 52,some 53,some 54,some 55,some 56] fun _ k=>?_;refine Ch 8 fun _ l=>?_;push_cast [hb10,hb12,hb14,hb16];(repeat refine ao ?_);apply l;clear l;simp only [List.drop_succ_cons,List.drop_zero];push_cast [hb10,hb12,hb14,hb16];(repeat refine ao ?_);refine chD (H:=[(18,.box 214 [.raw (.complex .f64 r9.1.re r9.1.im)]),(19,.box 214 [.raw (.complex .f64 r9.2.1.re r9.2.1.im)]),(3,.box 210 [.ref 0 0]),(0,.box 212 [.sl false (r9.2.2.1.p.Fns.map Al),ri r9.2.2.1.fn,.sl false (r9.2.2.1.l.map Ai),.row 1 0 16 0 r9.2.2.1.in_.length,.row 2 0 1 0 r9.2.2.1.is.length,ri r9.2.2.1.at_,rb r9.2.2.1.safe]),(1,.row 217 16 0 (r9.2.2.1.in_.map Af)),(2,.row 4 1 0 (r9.2.2.1.is.map Az)),(17,.box 217 (Af r9.2.2.2.1)),(4,.box 37 (Aw r9.2.2.2.2))]) (Ctr.loH (Ctr.ren (Bij.tab (l:=[(0,18),(1,19),(2,3),(3,0),(4,1),(5,2),(6,17),(7,4),(17,7),(18,5),(19,6)]) rfl) (Gu hr17) (by push_cast [hb10,hb12,hb14,hb16]) (by push_cast [hb10,hb12,hb14,hb16]))) (by push_cast [hb10,hb12,hb14,hb16]) ?_;push_cast [hb10,hb12,hb14,hb16];(repeat refine ao ?_);refine ⟨rfl,k _ ?_⟩;clear k;replace h:=Option.some.inj h;subst h;exact eN (by push_cast [hb1,hb10,hb12,hb14,hb16])
     ·replace h:=Au hb16 h;obtain ⟨r18,hr18,h⟩:=Aa h;refine vlD [some 45,some 46,none,none,none,none,some 47,some 48,some 49,some 50,some 51,some 52,some 53,some 54,some 55,some 56] fun _ k=>?_;refine Ch 8 fun _ l=>?_;push_cast [hb10,hb12,hb14,hb16];(repeat refine ao ?_);apply l;clear l;simp only [List.drop_succ_cons,List.drop_zero];push_cast [hb10,hb12,hb14,hb16];(repeat refine ao ?_);refine chD (H:=[(18,.box 214 [.raw (.complex .f64 r9.1.re r9.1.im)]),(19,.box 214 [.raw (.complex .f64 r9.2.1.re r9.2.1.im)]),(3,.box 210 [.ref 0 0]),(0,.box 212 [.sl false (r9.2.2.1.p.Fns.map Al),ri r9.2.2.1.fn,.sl false (r9.2.2.1.l.map Ai),.row 1 0 16 0 r9.2.2.1.in_.length,.row 2 0 1 0 r9.2.2.1.is.length,ri r9.2.2.1.at_,rb r9.2.2.1.safe]),(1,.row 217 16 0 (r9.2.2.1.in_.map Af)),(2,.row 4 1 0 (r9.2.2.1.is.map Az)),(17,.box 217 (Af r9.2.2.2.1)),(4,.box 37 (Aw r9.2.2.2.2))]) (Ctr.loH (Ctr.ren (Bij.tab (l:=[(0,18),(1,19),(2,3),(3,0),(4,1),(5,2),(6,17),(7,4),(17,7),(18,5),(19,6)]) rfl) (Gu hr18) (by push_cast [hb10,hb12,hb14,hb16]) (by push_cast [hb10,hb12,hb14,hb16]))) (by push_cast [hb10,hb12,hb14,hb16]) ?_;push_cast [hb10,hb12,hb14,hb16];(repeat refine ao ?_);refine ⟨rfl,k _ ?_⟩;clear k;replace h:=Option.some.inj h;subst h;exact eN (by push_cast [hb1,hb10,hb12,hb14,hb16])
noncomputable def Hx (a0 : Ac) (a1 : Am) : Option (Ac):=
  po (Dl a0 a1) fun r1=>
  po (Du r1.2 r1.1 16) fun r2=>
  po (Io 0 4294967295) fun r3=>
  po (Es r2 a1.Dst r3) fun r4=>
  some r4
theorem Cg0 {a0 : Ac} {a1 : Am} {r : Ac} (h : Hx a0 a1 = some r) : Ctr prog 178 [.ref 0 0,.agg (Aw a1)] [(0,.box 212 [.sl false (a0.p.Fns.map Al),ri a0.fn,.sl false (a0.l.map Ai),.row 1 0 16 0 a0.in_.length,.row 2 0 1 0 a0.is.length,ri a0.at_,rb a0.safe]),(1,.row 217 16 0 (a0.in_.map Af)),(2,.row 4 1 0 (a0.is.map Az))] (.tup []) [(0,.box 212 [.sl false (r.p.Fns.map Al),ri r.fn,.sl false (r.l.map Ai),.row 1 0 16 0 r.in_.length,.row 2 0 1 0 r.is.length,ri r.at_,rb r.safe]),(1,.row 217 16 0 (r.in_.map Af)),(2,.row 4 1 0 (r.is.map Az))]:=by
 unfold Hx at h;refine Ctr.ofW Ba func178 rfl call178 3 _ ntmps178 [] rfl rfl rfl (fun B=>?_);refine vs [0,3] fun _ k=>?_;push_cast;apply k;clear k;obtain ⟨r1,hr1,h⟩:=Aa h;obtain ⟨r2,hr2,h⟩:=Aa h;refine vs [0,3] fun _ k=>?_;push_cast;refine ch (H:=[(0,.box 212 [.sl false (a0.p.Fns.map Al),ri a0.fn,.sl false (a0.l.map Ai),.row 1 0 16 0 a0.in_.length,.row 2 0 1 0 a0.is.length,ri a0.at_,rb a0.safe]),(1,.row 217 16 0 (a0.in_.map Af)),(2,.row 4 1 0 (a0.is.map Az))]) (Ctr.loH (Ctr.ren Bij.id (Kg hr1) (by push_cast) (by push_cast))) (by push_cast) ?_;push_cast;refine ch (H:=[(0,.box 212 [.sl false (r1.2.p.Fns.map Al),ri r1.2.fn,.sl false (r1.2.l.map Ai),.row 1 0 16 0 r1.2.in_.length,.row 2 0 1 0 r1.2.is.length,ri r1.2.at_,rb r1.2.safe]),(1,.row 217 16 0 (r1.2.in_.map Af)),(2,.row 4 1 0 (r1.2.is.map Az))]) (Ctr.loH (Ctr.ren Bij.id (Ls hr2) (by push_cast) (by push_cast))) (by push_cast) ?_;push_cast;apply k;clear k;refine VC.sub (s':=⟨[(0,.ref 0 0),(3,.ref 3 0)],[(0,.box 212 [.sl false (r2.p.Fns.map Al),ri r2.fn,.sl false (r2.l.map Ai),.row 1 0 16 0 r2.in_.length,.row 2 0 1 0 r2.is.length,ri r2.at_,rb r2.safe]),(1,.row 217 16 0 (r2.in_.map Af)),(2,.row 4 1 0 (r2.is.map Az)),(3,.box 37 (Aw a1))],9,14,3⟩) (so (by push_cast)) ?_;obtain ⟨r3,hr3,h⟩:=Aa h;obtain ⟨r4,hr4,h⟩:=Aa h;refine vlD [some 9,some 10,some 11,some 12,some 13] fun _ k=>?_;push_cast;refine cpD (Sm hr3) ?_;push_cast;refine chD (H:=[(0,.box 212 [.sl false (r2.p.Fns.map Al),ri r2.fn,.sl false (r2.l.map Ai),.row 1 0 16 0 r2.in_.length,.row 2 0 1 0 r2.is.length,ri r2.at_,rb r2.safe]),(1,.row 217 16 0 (r2.in_.map Af)),(2,.row 4 1 0 (r2.is.map Az))]) (Ctr.loH (Ctr.ren Bij.id (Sj hr4) (by push_cast) (by push_cast))) (by push_cast) ?_;push_cast;refine ⟨rfl,k _ ?_⟩;clear k;replace h:=Option.some.inj h;subst h;exact eN (by push_cast)
noncomputable def Hm (a0 : Ac) (a1 : Am) : Option (Ac):=
  po (Db a0 a1.Dst) fun r1=>
  po (Dl r1.2 a1) fun r2=>
  po (Du r2.2 r2.1 16) fun r3=>
  po (Cu r3) fun r4=>
  pg (r4.2 = r3) <|
  po (Dx r3 r4.1) fun r6=>
  some r6
theorem Bp0 {a0 : Ac} {a1 : Am} {r : Ac} (h : Hm a0 a1 = some r) : Ctr prog 179 [.ref 0 0,.agg (Aw a1)] [(0,.box 212 [.sl false (a0.p.Fns.map Al),ri a0.fn,.sl false (a0.l.map Ai),.row 1 0 16 0 a0.in_.length,.row 2 0 1 0 a0.is.length,ri a0.at_,rb a0.safe]),(1,.row 217 16 0 (a0.in_.map Af)),(2,.row 4 1 0 (a0.is.map Az))] (.tup []) [(0,.box 212 [.sl false (r.p.Fns.map Al),ri r.fn,.sl false (r.l.map Ai),.row 1 0 16 0 r.in_.length,.row 2 0 1 0 r.is.length,ri r.at_,rb r.safe]),(1,.row 217 16 0 (r.in_.map Af)),(2,.row 4 1 0 (r.is.map Az))]:=by
 unfold Hm at h;refine Ctr.ofW Ba func179 rfl call179 3 _ ntmps179 [] rfl rfl rfl (fun B=>?_);refine vs [0,3] fun _ k=>?_;push_cast;apply k;clear k;obtain ⟨r1,hr1,h⟩:=Aa h;refine vs [0,3] fun _ k=>?_;push_cast;refine ch (H:=[(0,.box 212 [.sl false (a0.p.Fns.map Al),ri a0.fn,.sl false (a0.l.map Ai),.row 1 0 16 0 a0.in_.length,.row 2 0 1 0 a0.is.length,ri a0.at_,rb a0.safe]),(1,.row 217 16 0 (a0.in_.map Af)),(2,.row 4 1 0 (a0.is.map Az))]) (Ctr.loH (Ctr.ren Bij.id (Hb hr1) (by push_cast) (by push_cast))) (by push_cast) ?_;push_cast;apply k;clear k;refine VC.sub (s':=⟨[(0,.ref 0 0),(3,.ref 3 0)],[(0,.box 212 [.sl false (r1.2.p.Fns.map Al),ri r1.2.fn,.sl false (r1.2.l.map Ai),.row 1 0 16 0 r1.2.in_.length,.row 2 0 1 0 r1.2.is.length,ri r1.2.at_,rb r1.2.safe]),(1,.row 217 16 0 (r1.2.in_.map Af)),(2,.row 4 1 0 (r1.2.is.map Az)),(3,.box 37 (Aw a1))],8,17,3⟩) (so (by push_cast)) ?_;obtain ⟨r2,hr2,h⟩:=Aa h;obtain ⟨r3,hr3,h⟩:=Aa h;refine vs [0] fun _ k=>?_;push_cast;refine ch (H:=[(0,.box 212 [.sl false (r1.2.p.Fns.map Al),ri r1.2.fn,.sl false (r1.2.l.map Ai),.row 1 0 16 0 r1.2.in_.length,.row 2 0 1 0 r1.2.is.length,ri r1.2.at_,rb r1.2.safe]),(1,.row 217 16 0 (r1.2.in_.map Af)),(2,.row 4 1 0 (r1.2.is.map Az))]) (Ctr.loH (Ctr.ren Bij.id (Kg hr2) (by push_cast) (by push_cast))) (by push_cast) ?_;push_cast;refine ch (H:=[(0,.box 212 [.sl false (r2.2.p.Fns.map Al),ri r2.2.fn,.sl false (r2.2.l.map Ai),.row 1 0 16 0 r2.2.in_.length,.row 2 0 1 0 r2.2.is.length,ri r2.2.at_,rb r2.2.safe]),(1,.row 217 16 0 (r2.2.in_.map Af)),(2,.row 4 1 0 (r2.2.is.map Az))]) (Ctr.loH (Ctr.ren Bij.id (Ls hr3) (by push_cast) (by push_cast))) (by push_cast) ?_;push_cast;apply k;clear k;refine VC.sub (s':=⟨[(0,.ref 0 0)],[(0,.box 212 [.sl false (r3.p.Fns.map Al),ri r3.fn,.sl false (r3.l.map Ai),.row 1 0 16 0 r3.in_.length,.row 2 0 1 0 r3.is.length,ri r3.at_,rb r3.safe]),(1,.row 217 16 0 (r3.in_.map Af)),(2,.row 4 1 0 (r3.is.map Az))],13,17,3⟩) (so (by push_cast)) ?_;obtain ⟨r4,hr4,h⟩:=Aa h;obtain ⟨hg5,h⟩:=Bs h;have qr4:=Fd hr4;rw [hg5] at qr4;obtain ⟨r6,hr6,h⟩:=Aa h;refine vl fun _ k=>?_;push_cast;refine chR (H:=[(0,.box 212 [.sl false (r3.p.Fns.map Al),ri r3.fn,.sl false (r3.l.map Ai),.row 1 0 16 0 r3.in_.length,.row 2 0 1 0 r3.is.length,ri r3.at_,rb r3.safe]),(1,.row 217 16 0 (r3.in_.map Af)),(2,.row 4 1 0 (r3.is.map Az))]) (Ctr.loH (Ctr.ren Bij.id (qr4) (by push_cast) (by push_cast))) (by push_cast) (by push_cast) ?_;push_cast;refine ch (H:=[(0,.box 212 [.sl false (r3.p.Fns.map Al),ri r3.fn,.sl false (r3.l.map Ai),.row 1 0 16 0 r3.in_.length,.row 2 0 1 0 r3.is.length,ri r3.at_,rb r3.safe]),(1,.row 217 16 0 (r3.in_.map Af)),(2,.row 4 1 0 (r3.is.map Az))]) (Ctr.loH (Ctr.ren Bij.id (Ns hr6) (by push_cast) (by push_cast))) (by push_cast) ?_;push_cast;apply k;clear k;replace h:=Option.some.inj h;subst h;exact eN (by push_cast)
noncomputable def Yq : Option (Unit):=
  some ()
theorem El0 {r : Unit} (h : Yq = some r) : Ctr prog 130 [] [] (.mp 1) [(1,.mp [(.int .i64 0,.fn (.func 175) [] []),(.int .i64 1,.fn (.func 176) [] []),(.int .i64 2,.fn (.func 177) [] []),(.int .i64 3,.fn (.func 178) [] []),(.int .i64 4,.fn (.func 179) [] []),(.int .i64 5,.fn (.func 180) [] []),(.int .i64 6,.fn (.func 181) [] []),(.int .i64 7,.fn (.func 182) [] [])] 8)]:=by
 unfold Yq at h;refine Ctr.ofW Ba func130 rfl call130 0 _ ntmps130 [.tmp 0] rfl rfl rfl (fun B=>?_);refine vs [] fun _ k=>?_;push_cast;apply k;clear k;refine vs [0] fun _ k=>?_;refine Ag 8 fun _ l=>?_;push_cast;apply l;clear l;simp only [List.drop_succ_cons,List.drop_zero];push_cast;apply k;clear k;refine VC.ret ?_;replace h:=Option.some.inj h;subst h;exact en (by push_cast)
noncomputable def Bk (a0 : (List Ar)) (i_1 : Int) : Option ((Int) ⊕ ((Unit) ⊕ (Int))):=
  cond (decide (i_1 < (a0.length : Int))) (
  po (idx a0 i_1) fun x4=>
  po (Lj x4) fun r5=>
  cond r5 (
  some (Sum.inr (Sum.inr i_1))) (
  some (Sum.inl (IntKind.i64.wrap (i_1 + 1))))) (
  some (Sum.inr (Sum.inl ())))
noncomputable def Cq : Option (Int):=
  some (-1)
noncomputable def Bp (a0 : (List Ar)) : Option (Int):=
  pm (
  lpU (fun x=>Bk a0 x) 0) (fun x=>Cq)
theorem Jq {a0 : (List Ar)} {r : Int} (h : Bp a0 = some r) : Ctr prog 172 [.sl false (a0.map Ai),.fn (.func 127) [] []] [] (ri r) []:=by
 unfold Bp at h;refine Ctr.ofW Ba func172 rfl call172 0 _ ntmps172 [.tmp 4] rfl rfl rfl (fun B=>?_);refine vs [0,1] fun _ k=>?_;push_cast;apply k;clear k;refine vm h (fun x=>⟨[],[],16,19,0⟩) (fun v1 h hk1=>?_) ?_
 ·refine vs [0,1,7,8] fun _ k=>?_;push_cast;apply k;clear k;refine VC.block ?_;refine VC.loopP h (fun x=>⟨[(0,.sl false (a0.map Ai)),(1,.fn (.func 127) [] []),(7,ri (a0.length : Int)),(8,ri x)],[],15,19,0⟩) ?_ ?_
  ·exact sl (by push_cast)
  rintro i_1 b2 (h : Bk a0 i_1 = some b2) hf2;(try push_cast);unfold Bk at h;refine vs [0,1,7,8,9] fun _ k=>?_;push_cast;apply k;clear k;refine VC.seq ?_;refine vc h (fun hb3 h=>?_) (fun hb3 h=>?_)
  ·refine VC.skip ?_;refine VC.seq ?_;refine VC.block ?_;refine vs [0,1,5,7,8] fun _ k=>?_;push_cast;apply k;clear k;obtain ⟨x4,hx4,h⟩:=Aa h;replace hx4:=Bh hx4;obtain ⟨r5,hr5,h⟩:=Aa h;refine vs [0,1,5,7,8,16] fun _ k=>?_;push_cast [hx4];(repeat refine ao ?_);refine cp (Cv0 hr5) ?_;push_cast [hx4];(repeat refine ao ?_);apply k;clear k;refine vc h (fun hb6 h=>?_) (fun hb6 h=>?_)
   ·refine vs [4] fun _ k=>?_;push_cast;apply k;clear k;refine VC.ret ?_;replace h:=ol h hf2;replace h:=om h hk1;replace h:=Option.some.inj h;subst h;exact en (by push_cast [hb3,hb6])
   ·refine VC.skip ?_;refine vl fun _ k=>?_;push_cast;apply k;clear k;refine bk h ?_;exact sl (by push_cast [hb3,hb6])
  ·refine VC.exit ?_;replace h:=ol h hf2;refine am h hk1 ?_;exact sl (by push_cast [hb3])
 ·rintro ⟨⟩ (h : Cq = some r);(try push_cast);unfold Cq at h;refine vs [4] fun _ k=>?_;push_cast;apply k;clear k;refine VC.ret ?_;replace h:=Option.some.inj h;subst h;exact en (by push_cast)
noncomputable def Bg (a0 : (List Ar)) : Option (Bool):=
  po (Bp a0) fun r1=>
  some (decide (r1 ≥ 0))
theorem Jf {a0 : (List Ar)} {r : Bool} (h : Bg a0 = some r) : Ctr prog 126 [.sl false (a0.map Ai),.fn (.func 127) [] []] [] (rb r) []:=by
 unfold Bg at h;refine Ctr.ofW Ba func126 rfl call126 0 _ ntmps126 [.tmp 4] rfl rfl rfl (fun B=>?_);refine vs [0,1] fun _ k=>?_;push_cast;apply k;clear k;obtain ⟨r1,hr1,h⟩:=Aa h;refine vs [4] fun _ k=>?_;push_cast;refine cp (Jq hr1) ?_;push_cast;apply k;clear k;refine VC.ret ?_;replace h:=Option.some.inj h;subst h;exact en (by push_cast)
noncomputable def Jn (i_5 : Int) (s_11 : Ac) : Option ((Ac × Int) ⊕ ((Ac) ⊕ ((List Ak) × (List Bool) × Int))):=
  cond (!s_11.safe) (
  some (Sum.inr (Sum.inr ([],[],8)))) (
  some (Sum.inl (s_11,(IntKind.i64.wrap (i_5 + 1)))))
noncomputable def Hj (x10 : Cv) (s_4 : Ac) (i_5 : Int) : Option ((Ac × Int) ⊕ ((Ac) ⊕ ((List Ak) × (List Bool) × Int))):=
  cond (decide (i_5 < (x10.Code.length : Int))) (
  po (idx x10.Code i_5) fun x22=>
  po (
  po (idx s_4.is i_5) fun x24=>
  cond x24 (
  cond (x22.Op == 0) (
  po (Jd (Ac.mk s_4.p s_4.fn s_4.l s_4.in_ s_4.is i_5 s_4.safe) x22) fun r27=>
  some r27) (
  cond (x22.Op == 1) (
  po (Ie (Ac.mk s_4.p s_4.fn s_4.l s_4.in_ s_4.is i_5 s_4.safe) x22) fun r29=>
  some r29) (
  cond (x22.Op == 2) (
  po (Ha (Ac.mk s_4.p s_4.fn s_4.l s_4.in_ s_4.is i_5 s_4.safe) x22) fun r31=>
  some r31) (
  cond (x22.Op == 3) (
  po (Hx (Ac.mk s_4.p s_4.fn s_4.l s_4.in_ s_4.is i_5 s_4.safe) x22) fun r33=>
  some r33) (
  cond (x22.Op == 4) (
  po (Hm (Ac.mk s_4.p s_4.fn s_4.l s_4.in_ s_4.is i_5 s_4.safe) x22) fun r35=>
  some r35) (
  cond (x22.Op == 5) (
  po (Hv (Ac.mk s_4.p s_4.fn s_4.l s_4.in_ s_4.is i_5 s_4.safe) x22) fun r37=>
  some r37) (
  cond (x22.Op == 6) (
  po (Ii (Ac.mk s_4.p s_4.fn s_4.l s_4.in_ s_4.is i_5 s_4.safe) x22) fun r39=>
  some r39) (
  cond (x22.Op == 7) (
  po (Gf (Ac.mk s_4.p s_4.fn s_4.l s_4.in_ s_4.is i_5 s_4.safe) x22) fun r41=>
  some r41) (
  none))))))))) (
  some (Ac.mk s_4.p s_4.fn s_4.l s_4.in_ s_4.is i_5 s_4.safe))) (fun x=>Jn i_5 x)) (
  some (Sum.inr (Sum.inl s_4)))
noncomputable def My (s_10 : Ac) : Option ((List Ak) × (List Bool) × Int):=
  some (s_10.in_,s_10.is,0)
noncomputable def Ih (a0 : Aq) (a1 : Int) (a2 : (List Ar)) (i_2 : Bool) : Option ((List Ak) × (List Bool) × Int):=
  cond i_2 (
  some ([],[],3)) (
  po (idx a0.Fns a1) fun x10=>
  pg (0 ≤ (x10.Code.length : Int) ∧ 136 * (x10.Code.length : Int) ≤ 140737488355328) <|
  pl (List.replicate x10.Code.length (Ak.mk (A8.mk false false false false false false false false) (A8.mk (C128.mk 0 0) (C128.mk 0 0) (C128.mk 0 0) (C128.mk 0 0) (C128.mk 0 0) (C128.mk 0 0) (C128.mk 0 0) (C128.mk 0 0)))) fun y12=>
  pg (0 ≤ (x10.Code.length : Int) ∧ 1 * (x10.Code.length : Int) ≤ 140737488355328) <|
  pl (List.replicate x10.Code.length false) fun y14=>
  po (Oa x10.Args) fun r15=>
  po (Eo (Ac.mk a0 a1 a2 y12 y14 0 true) 0 r15.1) fun r16=>
  po (some ()) fun r18=>
  pm (
  lpU (fun x=>Hj x10 x.1 x.2) (r16,0)) (fun x=>My x))
noncomputable def Hy (a0 : Aq) (a1 : Int) (a2 : (List Ar)) (i_1 : Bool) : Option ((List Ak) × (List Bool) × Int):=
  cond i_1 (
  some ([],[],1)) (
  po (
  cond (decide (a1 < 0)) (
  some (decide (a1 < 0))) (
  some (decide (a1 ≥ (a0.Fns.length : Int))))) (fun x=>Ih a0 a1 a2 x))
noncomputable def Ir (a0 : Aq) (a1 : Int) (a2 : (List Ar)) : Option ((List Ak) × (List Bool) × Int):=
  po (
  po (Iv a0) fun r2=>
  cond (!r2) (
  some (!r2)) (
  cond (decide ((a2.length : Int) > 4)) (
  some (decide ((a2.length : Int) > 4))) (
  po (Bg a2) fun r5=>
  some r5))) (fun x=>Hy a0 a1 a2 x)
theorem Eg0 {a0 : Aq} {a1 : Int} {a2 : (List Ar)} {r : (List Ak) × (List Bool) × Int} (h : Ir a0 a1 a2 = some r) : Ctr prog 90 [.agg (Ez a0),ri a1,.sl false (a2.map Ai)] [] (.tup [.sl false (r.1.map Af),.sl false (r.2.1.map Az),ri r.2.2]) []:=by
 unfold Ir at h;refine Ctr.ofW Ba func90 rfl call90 0 _ ntmps90 [.tmp 6,.tmp 7,.tmp 8] rfl rfl rfl (fun B=>?_);refine vs [1,2,3] fun _ k=>?_;push_cast;apply k;clear k;refine VC.seq ?_;refine VC.block ?_;refine vj h (fun x=>⟨[(1,ri a1),(2,.sl false (a2.map Ai)),(3,.ref 0 0),(16,rb x)],[(0,.box 56 [.sl false (a0.Fns.map Al)])],15,103,0⟩) (fun v1 h hk1=>?_) ?_
 ·obtain ⟨r2,hr2,h⟩:=Aa h;refine vs [1,2,3,16] fun _ k=>?_;push_cast;refine cp (Ag0 hr2) ?_;push_cast;apply k;clear k;refine vc h (fun hb3 h=>?_) (fun hb3 h=>?_)
  ·refine VC.skip ?_;refine ar h hk1 ?_;exact sl (by push_cast [hb3])
  ·refine vs [1,2,3,16] fun _ k=>?_;push_cast;apply k;clear k;refine vc h (fun hb4 h=>?_) (fun hb4 h=>?_)
   ·refine VC.skip ?_;refine ar h hk1 ?_;exact sl (by push_cast [hb3,hb4])
   ·obtain ⟨r5,hr5,h⟩:=Aa h;refine vl fun _ k=>?_;push_cast;refine cp (Jf hr5) ?_;push_cast;apply k;clear k;refine ar h hk1 ?_;exact sl (by push_cast [hb3,hb4])
 ·rintro i_1 (h : Hy a0 a1 a2 i_1 = some r);(try push_cast);unfold Hy at h;refine vc h (fun hb6 h=>?_) (fun hb6 h=>?_)
  ·refine vs [6,7,8] fun _ k=>?_;push_cast;apply k;clear k;refine VC.ret ?_;replace h:=Option.some.inj h;subst h;exact en (by push_cast [hb6])
  ·refine vj h (fun x=>⟨[(1,ri a1),(2,.sl false (a2.map Ai)),(3,.ref 0 0),(25,rb x)],[(0,.box 56 [.sl false (a0.Fns.map Al)])],24,103,0⟩) (fun v7 h hk7=>?_) ?_
   ·refine vs [1,2,3,25] fun _ k=>?_;push_cast;apply k;clear k;refine vc h (fun hb8 h=>?_) (fun hb8 h=>?_)
    ·refine VC.skip ?_;refine ar h hk7 ?_;exact sl (by push_cast [hb6,hb8])
    ·refine vl fun _ k=>?_;push_cast;apply k;clear k;refine ar h hk7 ?_;exact sl (by push_cast [hb6,hb8])
   ·rintro i_2 (h : Ih a0 a1 a2 i_2 = some r);(try push_cast);unfold Ih at h;refine vc h (fun hb9 h=>?_) (fun hb9 h=>?_)
    ·refine vs [6,7,8] fun _ k=>?_;push_cast;apply k;clear k;refine VC.ret ?_;replace h:=Option.some.inj h;subst h;exact en (by push_cast [hb6,hb9])
    ·refine VC.skip ?_;obtain ⟨x10,hx10,h⟩:=Aa h;replace hx10:=Bh hx10;refine vs [1,2,3,9] fun _ k=>?_;push_cast [hx10];(repeat refine ao ?_);apply k;clear k;obtain ⟨hg11,h⟩:=Bs h;obtain ⟨y12,hy12,h⟩:=Bo h;obtain ⟨hg13,h⟩:=Bs h;obtain ⟨y14,hy14,h⟩:=Bo h;refine vsD [some 39,some 40,some 41,some 42,some 43,some 44,some 45,some 46,some 47,some 48,some 49,some 10] [1,3,9,10] fun _ k=>?_;refine Ch 8 fun _ l=>?_;push_cast [hg11,hg13];(repeat refine ao ?_);apply l;clear l;simp only [List.drop_succ_cons,List.drop_zero];push_cast [hg11,hg13];(repeat refine ao ?_);refine ⟨rfl,k _ ?_⟩;clear k;refine VC.sub (s':=⟨[(1,ri a1),(3,.ref 0 0),(9,.sl false (x10.Code.map Aw)),(10,.ref 41 0)],[(0,.box 56 [.sl false (a0.Fns.map Al)]),(36,.row 217 16 0 (y12.map Af)),(39,.row 4 1 0 (y14.map Az)),(41,.box 212 [.sl false (a0.Fns.map Al),ri a1,.sl false (a2.map Ai),.row 36 0 16 0 y12.length,.row 39 0 1 0 y14.length,ri 0,rb true])],43,103,0⟩) (so (by push_cast [hb6,hb9,hy12,hy14])) ?_;obtain ⟨r15,hr15,h⟩:=Aa h;refine vs [9,10,11] fun _ k=>?_;refine Ag 8 fun _ l=>?_;push_cast [hx10];(repeat refine ao ?_);refine cp (Hv0 hr15) ?_;push_cast [hx10];(repeat refine ao ?_);apply l;clear l;simp only [List.drop_succ_cons,List.drop_zero];push_cast [hx10];(repeat refine ao ?_);apply k;clear k;obtain ⟨r16,hr16,h⟩:=Aa h;refine vs [9,10] fun _ k=>?_;push_cast;refine ch (H:=[(41,.box 212 [.sl false (a0.Fns.map Al),ri a1,.sl false (a2.map Ai),.row 36 0 16 0 y12.length,.row 39 0 1 0 y14.length,ri 0,rb true]),(36,.row 217 16 0 (y12.map Af)),(39,.row 4 1 0 (y14.map Az))]) (Ctr.loH (Ctr.ren (Bij.swp 2 39 (Bij.swp 1 36 (Bij.swp 0 41 Bij.id))) (Pw hr16) (by push_cast) (by push_cast))) (by push_cast) ?_;push_cast;apply k;clear k;refine VC.sub (s':=⟨[(9,.sl false (x10.Code.map Aw)),(10,.ref 41 0)],[(36,.row 217 16 0 (r16.in_.map Af)),(39,.row 4 1 0 (r16.is.map Az)),(41,.box 212 [.sl false (r16.p.Fns.map Al),ri r16.fn,.sl false (r16.l.map Ai),.row 36 0 16 0 r16.in_.length,.row 39 0 1 0 r16.is.length,ri r16.at_,rb r16.safe])],59,103,0⟩) (so (by push_cast [hb6,hb9])) ?_;obtain ⟨r18,hr18,h⟩:=Aa h;refine vs [9,10,13] fun _ k=>?_;push_cast;refine ch (H:=[]) (Ctr.ren (Bij.swp 1 59 Bij.id) (El0 hr18) (by push_cast) (by push_cast)) (by push_cast) ?_;push_cast;apply k;clear k;refine VC.sub (s':=⟨[(9,.sl false (x10.Code.map Aw)),(10,.ref 41 0),(13,.mp 59)],[(36,.row 217 16 0 (r16.in_.map Af)),(39,.row 4 1 0 (r16.is.map Az)),(41,.box 212 [.sl false (r16.p.Fns.map Al),ri r16.fn,.sl false (r16.l.map Ai),.row 36 0 16 0 r16.in_.length,.row 39 0 1 0 r16.is.length,ri r16.at_,rb r16.safe]),(59,.mp [(.int .i64 0,.fn (.func 175) [] []),(.int .i64 1,.fn (.func 176) [] []),(.int .i64 2,.fn (.func 177) [] []),(.int .i64 3,.fn (.func 178) [] []),(.int .i64 4,.fn (.func 179) [] []),(.int .i64 5,.fn (.func 180) [] []),(.int .i64 6,.fn (.func 181) [] []),(.int .i64 7,.fn (.func 182) [] [])] 8)],61,103,0⟩) (so (by push_cast [hb6,hb9])) ?_;refine vm h (fun x=>⟨[(10,.ref 41 0)],[(36,.row 217 16 0 (x.in_.map Af)),(39,.row 4 1 0 (x.is.map Az)),(41,.box 212 [.sl false (x.p.Fns.map Al),ri x.fn,.sl false (x.l.map Ai),.row 36 0 16 0 x.in_.length,.row 39 0 1 0 x.is.length,ri x.at_,rb x.safe])],98,103,0⟩) (fun v19 h hk19=>?_) ?_
     ·refine vs [10,13,64,65,66] fun _ k=>?_;push_cast;apply k;clear k;refine VC.block ?_;refine VC.loopP h (fun x=>⟨[(10,.ref 41 0),(13,.mp 59),(64,.sl false (x10.Code.map Aw)),(65,ri (x10.Code.length : Int)),(66,ri x.2)],[(36,.row 217 16 0 (x.1.in_.map Af)),(39,.row 4 1 0 (x.1.is.map Az)),(41,.box 212 [.sl false (x.1.p.Fns.map Al),ri x.1.fn,.sl false (x.1.l.map Ai),.row 36 0 16 0 x.1.in_.length,.row 39 0 1 0 x.1.is.length,ri x.1.at_,rb x.1.safe]),(59,.mp [(.int .i64 0,.fn (.func 175) [] []),(.int .i64 1,.fn (.func 176) [] []),(.int .i64 2,.fn (.func 177) [] []),(.int .i64 3,.fn (.func 178) [] []),(.int .i64 4,.fn (.func 179) [] []),(.int .i64 5,.fn (.func 180) [] []),(.int .i64 6,.fn (.func 181) [] []),(.int .i64 7,.fn (.func 182) [] [])] 8)],97,103,0⟩) ?_ ?_
      ·exact sl (by push_cast [hb6,hb9])
      rintro ⟨s_4,i_5⟩ b20 (h : Hj x10 s_4 i_5 = some b20) hf20;(try push_cast);unfold Hj at h;refine vs [10,13,64,65,66,67] fun _ k=>?_;push_cast;apply k;clear k;refine VC.seq ?_;refine vc h (fun hb21 h=>?_) (fun hb21 h=>?_)
      ·refine VC.skip ?_;refine VC.seq ?_;refine VC.block ?_;obtain ⟨x22,hx22,h⟩:=Aa h;replace hx22:=Bh hx22;refine vs [10,13,14,15,64,65,66] fun _ k=>?_;push_cast [hx22];(repeat refine ao ?_);apply k;clear k;refine vj h (fun x=>⟨[(10,.ref 41 0),(13,.mp 59),(64,.sl false (x10.Code.map Aw)),(65,ri (x10.Code.length : Int)),(66,ri i_5)],[(36,.row 217 16 0 (x.in_.map Af)),(39,.row 4 1 0 (x.is.map Az)),(41,.box 212 [.sl false (x.p.Fns.map Al),ri x.fn,.sl false (x.l.map Ai),.row 36 0 16 0 x.in_.length,.row 39 0 1 0 x.is.length,ri x.at_,rb x.safe]),(59,.mp [(.int .i64 0,.fn (.func 175) [] []),(.int .i64 1,.fn (.func 176) [] []),(.int .i64 2,.fn (.func 177) [] []),(.int .i64 3,.fn (.func 178) [] []),(.int .i64 4,.fn (.func 179) [] []),(.int .i64 5,.fn (.func 180) [] []),(.int .i64 6,.fn (.func 181) [] []),(.int .i64 7,.fn (.func 182) [] [])] 8)],123,103,0⟩) (fun v23 h hk23=>?_) ?_
       ·refine vs [10,13,14,15,64,65,66] fun _ k=>?_;push_cast;apply k;clear k;obtain ⟨x24,hx24,h⟩:=Aa h;replace hx24:=Bh hx24;refine vs [10,13,15,64,65,66,81] fun _ k=>?_;push_cast [hx24];(repeat refine ao ?_);apply k;clear k;refine vc h (fun hb25 h=>?_) (fun hb25 h=>?_)
        ·rcases bt (x22.Op == 0) with hb26 | hb26
         ·replace h:=Ao hb26 h;obtain ⟨r27,hr27,h⟩:=Aa h;refine vl fun _ k=>?_;push_cast [hb26];(repeat refine ao ?_);refine ch (H:=[(41,.box 212 [.sl false (s_4.p.Fns.map Al),ri s_4.fn,.sl false (s_4.l.map Ai),.row 36 0 16 0 s_4.in_.length,.row 39 0 1 0 s_4.is.length,ri i_5,rb s_4.safe]),(36,.row 217 16 0 (s_4.in_.map Af)),(39,.row 4 1 0 (s_4.is.map Az))]) (Ctr.loH (Ctr.ren (Bij.swp 2 39 (Bij.swp 1 36 (Bij.swp 0 41 Bij.id))) (Co0 hr27) (by push_cast [hb26]) (by push_cast [hb26]))) (by push_cast [hb26]) ?_;push_cast [hb26];(repeat refine ao ?_);apply k;clear k;refine ar h hk23 ?_;exact sl (by push_cast [hb6,hb9,hb21,hb25,hb26])
         ·replace h:=Au hb26 h;rcases bt (x22.Op == 1) with hb28 | hb28
          ·replace h:=Ao hb28 h;obtain ⟨r29,hr29,h⟩:=Aa h;refine vl fun _ k=>?_;push_cast [hb26,hb28];(repeat refine ao ?_);refine ch (H:=[(41,.box 212 [.sl false (s_4.p.Fns.map Al),ri s_4.fn,.sl false (s_4.l.map Ai),.row 36 0 16 0 s_4.in_.length,.row 39 0 1 0 s_4.is.length,ri i_5,rb s_4.safe]),(36,.row 217 16 0 (s_4.in_.map Af)),(39,.row 4 1 0 (s_4.is.map Az))]) (Ctr.loH (Ctr.ren (Bij.swp 2 39 (Bij.swp 1 36 (Bij.swp 0 41 Bij.id))) (Cj0 hr29) (by push_cast [hb26,hb28]) (by push_cast [hb26,hb28]))) (by push_cast [hb26,hb28]) ?_;push_cast [hb26,hb28];(repeat refine ao ?_);apply k;clear k;refine ar h hk23 ?_;exact sl (by push_cast [hb6,hb9,hb21,hb25,hb26,hb28])
          ·replace h:=Au hb28 h;rcases bt (x22.Op == 2) with hb30 | hb30
           ·replace h:=Ao hb30 h;obtain ⟨r31,hr31,h⟩:=Aa h;refine vl fun _ k=>?_;push_cast [hb26,hb28,hb30];(repeat refine ao ?_);refine ch (H:=[(41,.box 212 [.sl false (s_4.p.Fns.map Al),ri s_4.fn,.sl false (s_4.l.map Ai),.row 36 0 16 0 s_4.in_.length,.row 39 0 1 0 s_4.is.length,ri i_5,rb s_4.safe]),(36,.row 217 16 0 (s_4.in_.map Af)),(39,.row 4 1 0 (s_4.is.map Az))]) (Ctr.loH (Ctr.ren (Bij.swp 2 39 (Bij.swp 1 36 (Bij.swp 0 41 Bij.id))) (Cs0 hr31) (by push_cast [hb26,hb28,hb30]) (by push_cast [hb26,hb28,hb30]))) (by push_cast [hb26,hb28,hb30]) ?_;push_cast [hb26,hb28,hb30];(repeat refine ao ?_);apply k;clear k;refine ar h hk23 ?_;exact sl (by push_cast [hb6,hb9,hb21,hb25,hb26,hb28,hb30])
           ·replace h:=Au hb30 h;rcases bt (x22.Op == 3) with hb32 | hb32
            ·replace h:=Ao hb32 h;obtain ⟨r33,hr33,h⟩:=Aa h;refine vl fun _ k=>?_;push_cast [hb26,hb28,hb30,hb32];(repeat refine ao ?_);refine ch (H:=[(41,.box 212 [.sl false (s_4.p.Fns.map Al),ri s_4.fn,.sl false (s_4.l.map Ai),.row 36 0 16 0 s_4.in_.length,.row 39 0 1 0 s_4.is.length,ri i_5,rb s_4.safe]),(36,.row 217 16 0 (s_4.in_.map Af)),(39,.row 4 1 0 (s_4.is.map Az))]) (Ctr.loH (Ctr.ren (Bij.swp 2 39 (Bij.swp 1 36 (Bij.swp 0 41 Bij.id))) (Cg0 hr33) (by push_cast [hb26,hb28,hb30,hb32]) (by push_cast [hb26,hb28,hb30,hb32]))) (by push_cast [hb26,hb28,hb30,hb32]) ?_;push_cast [hb26,hb28,hb30,hb32];(repeat refine ao ?_);apply k;clear k;refine ar h hk23 ?_;exact sl (by push_cast [hb6,hb9,hb21,hb25,hb26,hb28,hb30,hb32])
            ·replace h:=Au hb32 h;rcases bt (x22.Op == 4) with hb34 | hb34
             ·replace h:=Ao hb34 h;obtain ⟨r35,hr35,h⟩:=Aa h;refine vl fun _ k=>?_;push_cast [hb26,hb28,hb30,hb32,hb34];(repeat refine ao ?_);refine ch (H:=[(41,.box 212 [.sl false (s_4.p.Fns.map Al),ri s_4.fn,.sl false (s_4.l.map Ai),.row 36 0 16 0 s_4.in_.length,.row 39 0 1 0 s_4.is.length,ri i_5,rb s_4.safe]),(36,.row 217 16 0 (s_4.in_.map Af)),(39,.row 4 1 0 (s_4.is.map Az))]) (Ctr.loH (Ctr.ren (Bij.swp 2 39 (Bij.swp 1 36 (Bij.swp 0 41 Bij.id))) (Bp0 hr35) (by push_cast [hb26,hb28,hb30,hb32,hb34]) (by push_cast [hb26,hb28,hb30,hb32,hb34]))) (by push_cast [hb26,hb28,hb30,hb32,hb34]) ?_;push_cast [hb26,hb28,hb30,hb32,hb34];(repeat refine ao ?_);apply k;clear k;refine ar h hk23 ?_;exact sl (by push_cast [hb6,hb9,hb21,hb25,hb26,hb28,hb30,hb32,hb34])
             ·replace h:=Au hb34 h;rcases bt (x22.Op == 5) with hb36 | hb36
              ·replace h:=Ao hb36 h;obtain ⟨r37,hr37,h⟩:=Aa h;refine vl fun _ k=>?_;push_cast [hb26,hb28,hb30,hb32,hb34,hb36];(repeat refine ao ?_);refine ch (H:=[(41,.box 212 [.sl false (s_4.p.Fns.map Al),ri s_4.fn,.sl false (s_4.l.map Ai),.row 36 0 16 0 s_4.in_.length,.row 39 0 1 0 s_4.is.length,ri i_5,rb s_4.safe]),(36,.row 217 16 0 (s_4.in_.map Af)),(39,.row 4 1 0 (s_4.is.map Az))]) (Ctr.loH (Ctr.ren (Bij.swp 2 39 (Bij.swp 1 36 (Bij.swp 0 41 Bij.id))) (Cl0 hr37) (by push_cast [hb26,hb28,hb30,hb32,hb34,hb36]) (by push_cast [hb26,hb28,hb30,hb32,hb34,hb36]))) (by push_cast [hb26,hb28,hb30,hb32,hb34,hb36]) ?_;push_cast [hb26,hb28,hb30,hb32,hb34,hb36];(repeat refine ao ?_);apply k;clear k;refine ar h hk23 ?_;exact sl (by push_cast [hb6,hb9,hb21,hb25,hb26,hb28,hb30,hb32,hb34,hb36])
              ·replace h:=Au hb36 h;rcases bt (x22.Op == 6) with hb38 | hb38
               ·replace h:=Ao hb38 h;obtain ⟨r39,hr39,h⟩:=Aa h;refine vl fun _ k=>?_;push_cast [hb26,hb28,hb30,hb32,hb34,hb36,hb38];(repeat refine ao ?_);refine ch (H:=[(41,.box 212 [.sl false (s_4.p.Fns.map Al),ri s_4.fn,.sl false (s_4.l.map Ai),.row 36 0 16 0 s_4.in_.length,.row 39 0 1 0 s_4.is.length,ri i_5,rb s_4.safe]),(36,.row 217 16 0 (s_4.in_.map Af)),(39,.row 4 1 0 (s_4.is.map Az))]) (Ctr.loH (Ctr.ren (Bij.swp 2 39 (Bij.swp 1 36 (Bij.swp 0 41 Bij.id))) (By0 hr39) (by push_cast [hb26,hb28,hb30,hb32,hb34,hb36,hb38]) (by push_cast [hb26,hb28,hb30,hb32,hb34,hb36,hb38]))) (by push_cast [hb26,hb28,hb30,hb32,hb34,hb36,hb38]) ?_;push_cast [hb26,hb28,hb30,hb32,hb34,hb36,hb38];(repeat refine ao ?_);apply k;clear k;refine ar h hk23 ?_;exact sl (by push_cast [hb6,hb9,hb21,hb25,hb26,hb28,hb30,hb32,hb34,hb36,hb38])
               ·replace h:=Au hb38 h;rcases bt (x22.Op == 7) with hb40 | hb40
                ·replace h:=Ao hb40 h;obtain ⟨r41,hr41,h⟩:=Aa h;refine vl fun _ k=>?_;push_cast [hb26,hb28,hb30,hb32,hb34,hb36,hb38,hb40];(repeat refine ao ?_);refine ch (H:=[(41,.box 212 [.sl false (s_4.p.Fns.map Al),ri s_4.fn,.sl false (s_4.l.map Ai),.row 36 0 16 0 s_4.in_.length,.row 39 0 1 0 s_4.is.length,ri i_5,rb s_4.safe]),(36,.row 217 16 0 (s_4.in_.map Af)),(39,.row 4 1 0 (s_4.is.map Az))]) (Ctr.loH (Ctr.ren (Bij.swp 2 39 (Bij.swp 1 36 (Bij.swp 0 41 Bij.id))) (Bz0 hr41) (by push_cast [hb26,hb28,hb30,hb32,hb34,hb36,hb38,hb40]) (by push_cast [hb26,hb28,hb30,hb32,hb34,hb36,hb38,hb40]))) (by push_cast [hb26,hb28,hb30,hb32,hb34,hb36,hb38,hb40]) ?_;push_cast [hb26,hb28,hb30,hb32,hb34,hb36,hb38,hb40];(repeat refine ao ?_);apply k;clear k;refine ar h hk23 ?_;exact sl (by push_cast [hb6,hb9,hb21,hb25,hb26,hb28,hb30,hb32,hb34,hb36,hb38,hb40])
                ·replace h:=Au hb40 h;cases h
        ·refine VC.skip ?_;refine ar h hk23 ?_;exact sl (by push_cast [hb6,hb9,hb21,hb25])
       ·rintro s_11 (h : Jn i_5 s_11 = some b20);(try push_cast);unfold Jn at h;refine vs [10,13,64,65,66,93] fun _ k=>?_;push_cast;apply k;clear k;refine vc h (fun hb42 h=>?_) (fun hb42 h=>?_)
        ·refine vs [6,7,8] fun _ k=>?_;push_cast;apply k;clear k;refine VC.ret ?_;replace h:=ol h hf20;replace h:=om h hk19;replace h:=Option.some.inj h;subst h;exact en (by push_cast [hb6,hb9,hb21,hb42])
        ·refine VC.skip ?_;refine vl fun _ k=>?_;push_cast;apply k;clear k;refine bk h ?_;exact sl (by push_cast [hb6,hb9,hb21,hb42])
      ·refine VC.exit ?_;replace h:=ol h hf20;refine am h hk19 ?_;exact sl (by push_cast [hb6,hb9,hb21])
     ·rintro s_10 (h : My s_10 = some r);(try push_cast);unfold My at h;refine vsD [some 95,some 96,some 97,some 98,some 99,some 100,some 101,some 102,some 6,some 7,some 8] [6,7,8] fun _ k=>?_;refine Ch 8 fun _ l=>?_;push_cast;apply l;clear l;simp only [List.drop_succ_cons,List.drop_zero];push_cast;refine ⟨rfl,k _ ?_⟩;clear k;refine VC.ret ?_;replace h:=Option.some.inj h;subst h;refine Cg (Sub.freezeT prog (k:=6) rfl rfl (by push_cast [hb6,hb9] <;> omega) (by decide)) ?_;refine Cg (Sub.freezeT prog (k:=7) rfl rfl (by push_cast [hb6,hb9] <;> omega) (by decide)) ?_;exact en (by push_cast [hb6,hb9])
noncomputable def Nq (i_2 : Int) (i_6 : Bool) : Option ((Int) ⊕ ((Unit) ⊕ (Bool))):=
  cond i_6 (
  some (Sum.inr (Sum.inr false))) (
  some (Sum.inl (IntKind.i64.wrap (i_2 + 1))))
noncomputable def Kh (a0 : Aq) (x1 : Cv) (i_2 : Int) : Option ((Int) ⊕ ((Unit) ⊕ (Bool))):=
  cond (decide (i_2 < (x1.Code.length : Int))) (
  po (idx x1.Code i_2) fun x5=>
  po (
  cond (x5.Op == 1) (
  cond (decide ((IntKind.i64.wrap ((IntKind.i64.wrap (i_2 + x5.Off)) + 1)) ≥ (x1.Code.length : Int))) (
  some true) (
  cond (x5.Op == 6) (
  some (decide ((IntKind.u64.wrap (x5.Imm.toNat : Int)) ≥ (IntKind.u64.wrap (a0.Fns.length : Int))))) (
  some false))) (
  cond (x5.Op == 6) (
  some (decide ((IntKind.u64.wrap (x5.Imm.toNat : Int)) ≥ (IntKind.u64.wrap (a0.Fns.length : Int))))) (
  some false))) (fun x=>Nq i_2 x)) (
  some (Sum.inr (Sum.inl ())))
noncomputable def Ny : Option (Bool):=
  some true
noncomputable def Ix (a0 : Aq) (a1 : Int) : Option (Bool):=
  po (idx a0.Fns a1) fun x1=>
  pm (
  lpU (fun x=>Kh a0 x1 x) 0) (fun x=>Ny)
theorem Ec0 {a0 : Aq} {a1 : Int} {r : Bool} (h : Ix a0 a1 = some r) : Ctr prog 91 [.agg (Ez a0),ri a1] [] (rb r) []:=by
 unfold Ix at h;refine Ctr.ofW Ba func91 rfl call91 0 _ ntmps91 [.tmp 4] rfl rfl rfl (fun B=>?_);refine vs [1,2] fun _ k=>?_;push_cast;apply k;clear k;obtain ⟨x1,hx1,h⟩:=Aa h;replace hx1:=Bh hx1;refine vs [2,5] fun _ k=>?_;push_cast [hx1];(repeat refine ao ?_);apply k;clear k;refine vm h (fun x=>⟨[],[],50,50,0⟩) (fun v2 h hk2=>?_) ?_
 ·refine vs [2,5,14,15,16] fun _ k=>?_;push_cast;apply k;clear k;refine VC.block ?_;refine VC.loopP h (fun x=>⟨[(2,.ref 0 0),(5,.sl false (x1.Code.map Aw)),(14,.sl false (x1.Code.map Aw)),(15,ri (x1.Code.length : Int)),(16,ri x)],[(0,.box 56 [.sl false (a0.Fns.map Al)])],49,50,0⟩) ?_ ?_
  ·exact sl (by push_cast)
  rintro i_2 b3 (h : Kh a0 x1 i_2 = some b3) hf3;(try push_cast);unfold Kh at h;refine vs [2,5,14,15,16,17] fun _ k=>?_;push_cast;apply k;clear k;refine VC.seq ?_;refine vc h (fun hb4 h=>?_) (fun hb4 h=>?_)
  ·refine VC.skip ?_;refine VC.seq ?_;refine VC.block ?_;obtain ⟨x5,hx5,h⟩:=Aa h;replace hx5:=Bh hx5;refine vs [2,5,6,7,14,15,16] fun _ k=>?_;push_cast [hx5];(repeat refine ao ?_);apply k;clear k;refine vj h (fun x=>⟨[(2,.ref 0 0),(5,.sl false (x1.Code.map Aw)),(14,.sl false (x1.Code.map Aw)),(15,ri (x1.Code.length : Int)),(16,ri i_2),(48,rb x)],[(0,.box 56 [.sl false (a0.Fns.map Al)])],84,50,0⟩) (fun v6 h hk6=>?_) ?_
   ·rcases bt (x5.Op == 1) with hb7 | hb7
    ·replace h:=Ao hb7 h;rcases bt (decide ((IntKind.i64.wrap ((IntKind.i64.wrap (i_2 + x5.Off)) + 1)) ≥ (x1.Code.length : Int))) with hb8 | hb8
     ·replace h:=Ao hb8 h;refine vlG [some 21,some 22,some 23,some 24,some 25,some 26,some 27,some 28,some 29,some 30,some 31,some 32,some 33,some 34,some 35,some 36,some 37,some 38,some 39,some 40,some 41,some 42,some 43,some 44,some 45,some 46,some 47,some 48] fun _ k=>?_;refine Ag 8 fun _ l=>?_;push_cast [hb7,hb8];(repeat refine ao ?_);apply l;clear l;simp only [List.drop_succ_cons,List.drop_zero];refine Ag 8 fun _ l=>?_;push_cast [hb7,hb8];(repeat refine ao ?_);apply l;clear l;simp only [List.drop_succ_cons,List.drop_zero];refine Ag 8 fun _ l=>?_;push_cast [hb7,hb8];(repeat refine ao ?_);apply l;clear l;simp only [List.drop_succ_cons,List.drop_zero];push_cast [hb7,hb8];(repeat refine ao ?_);apply k;clear k;refine ar h hk6 ?_;exact sl (by push_cast [hb4,hb7,hb8])
     ·replace h:=Au hb8 h;rcases bt (x5.Op == 6) with hb9 | hb9
      ·replace h:=Ao hb9 h;refine vlG [some 21,some 22,some 23,some 24,some 25,some 26,some 27,some 28,some 29,some 30,some 31,some 32,some 33,some 34,some 35,some 36,some 37,some 38,some 39,some 40,some 41,some 42,some 43,some 44,some 45,some 46,some 47,some 48] fun _ k=>?_;refine Ag 8 fun _ l=>?_;push_cast [hb7,hb8,hb9];(repeat refine ao ?_);apply l;clear l;simp only [List.drop_succ_cons,List.drop_zero];refine Ag 8 fun _ l=>?_;push_cast [hb7,hb8,hb9];(repeat refine ao ?_);apply l;clear l;simp only [List.drop_succ_cons,List.drop_zero];refine Ag 8 fun _ l=>?_;push_cast [hb7,hb8,hb9];(repeat refine ao ?_);apply l;clear l;simp only [List.drop_succ_cons,List.drop_zero];push_cast [hb7,hb8,hb9];(repeat refine ao ?_);apply k;clear k;refine ar h hk6 ?_;exact sl (by push_cast [hb4,hb7,hb8,hb9])
      ·replace h:=Au hb9 h;refine vlG [some 21,some 22,some 23,some 24,some 25,some 26,some 27,some 28,some 29,some 30,some 31,some 32,some 33,some 34,some 35,some 36,some 37,some 38,some 39,some 40,some 41,some 42,some 43,some 44,some 45,some 46,some 47,some 48] fun _ k=>?_;refine Ag 8 fun _ l=>?_;push_cast [hb7,hb8,hb9];(repeat refine ao ?_);apply l;clear l;simp only [List.drop_succ_cons,List.drop_zero];refine Ag 8 fun _ l=>?_;push_cast [hb7,hb8,hb9];(repeat refine ao ?_);apply l;clear l;simp only [List.drop_succ_cons,List.drop_zero];refine Ag 8 fun _ l=>?_;push_cast [hb7,hb8,hb9];(repeat refine ao ?_);apply l;clear l;simp only [List.drop_succ_cons,List.drop_zero];push_cast [hb7,hb8,hb9];(repeat refine ao ?_);apply k;clear k;refine ar h hk6 ?_;exact sl (by push_cast [hb4,hb7,hb8,hb9])
    ·replace h:=Au hb7 h;rcases bt (x5.Op == 6) with hb10 | hb10
     ·replace h:=Ao hb10 h;refine vlG [some 21,some 22,some 23,some 24,some 25,some 26,some 27,some 28,some 29,some 30,some 31,some 32,some 33,some 34,some 35,some 36,some 37,some 38,some 39,some 40,some 41,some 42,some 43,some 44,some 45,some 46,some 47,some 48] fun _ k=>?_;refine Ag 8 fun _ l=>?_;push_cast [hb7,hb10];(repeat refine ao ?_);apply l;clear l;simp only [List.drop_succ_cons,List.drop_zero];refine Ag 8 fun _ l=>?_;push_cast [hb7,hb10];(repeat refine ao ?_);apply l;clear l;simp only [List.drop_succ_cons,List.drop_zero];refine Ag 8 fun _ l=>?_;push_cast [hb7,hb10];(repeat refine ao ?_);apply l;clear l;simp only [List.drop_succ_cons,List.drop_zero];push_cast [hb7,hb10];(repeat refine ao ?_);apply k;clear k;refine ar h hk6 ?_;exact sl (by push_cast [hb4,hb7,hb10])
     ·replace h:=Au hb10 h;refine vlG [some 21,some 22,some 23,some 24,some 25,some 26,some 27,some 28,some 29,some 30,some 31,some 32,some 33,some 34,some 35,some 36,some 37,some 38,some 39,some 40,some 41,some 42,some 43,some 44,some 45,some 46,some 47,some 48] fun _ k=>?_;refine Ag 8 fun _ l=>?_;push_cast [hb7,hb10];(repeat refine ao ?_);apply l;clear l;simp only [List.drop_succ_cons,List.drop_zero];refine Ag 8 fun _ l=>?_;push_cast [hb7,hb10];(repeat refine ao ?_);apply l;clear l;simp only [List.drop_succ_cons,List.drop_zero];refine Ag 8 fun _ l=>?_;push_cast [hb7,hb10];(repeat refine ao ?_);apply l;clear l;simp only [List.drop_succ_cons,List.drop_zero];push_cast [hb7,hb10];(repeat refine ao ?_);apply k;clear k;refine ar h hk6 ?_;exact sl (by push_cast [hb4,hb7,hb10])
   ·rintro i_6 (h : Nq i_2 i_6 = some b3);(try push_cast);unfold Nq at h;refine vc h (fun hb11 h=>?_) (fun hb11 h=>?_)
    ·refine vs [4] fun _ k=>?_;push_cast;apply k;clear k;refine VC.ret ?_;replace h:=ol h hf3;replace h:=om h hk2;replace h:=Option.some.inj h;subst h;exact en (by push_cast [hb4,hb11])
    ·refine VC.skip ?_;refine vl fun _ k=>?_;push_cast;apply k;clear k;refine bk h ?_;exact sl (by push_cast [hb4,hb11])
  ·refine VC.exit ?_;replace h:=ol h hf3;refine am h hk2 ?_;exact sl (by push_cast [hb4])
 ·rintro ⟨⟩ (h : Ny = some r);(try push_cast);unfold Ny at h;refine vs [4] fun _ k=>?_;push_cast;apply k;clear k;refine VC.ret ?_;replace h:=Option.some.inj h;subst h;exact en (by push_cast)
noncomputable def Ib (a0 : Aq) (a1 : (List Ar)) (i_1 : Int) : Option ((Int) ⊕ ((Unit) ⊕ (Int × Int))):=
  cond (decide (i_1 < (maxI 1 (a0.Fns.length : Int)))) (
  po (Ir a0 i_1 a1) fun r4=>
  cond (r4.2.2 != 0) (
  some (Sum.inr (Sum.inr (0,r4.2.2)))) (
  po (Ix a0 i_1) fun r6=>
  cond (!r6) (
  some (Sum.inr (Sum.inr (0,8)))) (
  some (Sum.inl (IntKind.i64.wrap (i_1 + 1)))))) (
  some (Sum.inr (Sum.inl ())))
noncomputable def Hu (a0 : Aq) : Option (Int × Int):=
  po (Iq a0) fun r8=>
  cond (decide (r8 > 2000)) (
  some (0,2)) (
  some (r8,0))
noncomputable def Fa (a0 : Aq) (a1 : (List Ar)) : Option (Int × Int):=
  pm (
  lpU (fun x=>Ib a0 a1 x) 0) (fun x=>Hu a0)
theorem Xp {a0 : Aq} {a1 : (List Ar)} {r : Int × Int} (h : Fa a0 a1 = some r) : Ctr prog 59 [.agg (Ez a0),.sl false (a1.map Ai)] [] (.tup [ri r.1,ri r.2]) []:=by
 unfold Fa at h;refine Ctr.ofW Ba func59 rfl call59 0 _ ntmps59 [.tmp 4,.tmp 5] rfl rfl rfl (fun B=>?_);refine vs [1,2] fun _ k=>?_;push_cast;apply k;clear k;refine vm h (fun x=>⟨[(2,.ref 0 0)],[(0,.box 56 [.sl false (a0.Fns.map Al)])],31,39,0⟩) (fun v1 h hk1=>?_) ?_
 ·refine vs [1,2,14,15] fun _ k=>?_;push_cast;apply k;clear k;refine VC.block ?_;refine VC.loopP h (fun x=>⟨[(1,.sl false (a1.map Ai)),(2,.ref 0 0),(14,ri (maxI 1 (a0.Fns.length : Int))),(15,ri x)],[(0,.box 56 [.sl false (a0.Fns.map Al)])],30,39,0⟩) ?_ ?_
  ·exact sl (by push_cast)
  rintro i_1 b2 (h : Ib a0 a1 i_1 = some b2) hf2;(try push_cast);unfold Ib at h;refine vs [1,2,14,15,16] fun _ k=>?_;push_cast;apply k;clear k;refine VC.seq ?_;refine vc h (fun hb3 h=>?_) (fun hb3 h=>?_)
  ·refine VC.skip ?_;refine VC.seq ?_;refine VC.block ?_;refine vs [1,2,6,14,15] fun _ k=>?_;push_cast;apply k;clear k;refine VC.seq ?_;obtain ⟨r4,hr4,h⟩:=Aa h;refine vs [1,2,6,9,14,15] fun _ k=>?_;refine Ag 8 fun _ l=>?_;push_cast;refine cp (Eg0 hr4) ?_;push_cast;apply l;clear l;simp only [List.drop_succ_cons,List.drop_zero];push_cast;apply k;clear k;refine vs [1,2,6,9,14,15,27] fun _ k=>?_;push_cast;apply k;clear k;refine vc h (fun hb5 h=>?_) (fun hb5 h=>?_)
   ·refine vs [4,5] fun _ k=>?_;push_cast;apply k;clear k;refine VC.ret ?_;replace h:=ol h hf2;replace h:=om h hk1;replace h:=Option.some.inj h;subst h;exact en (by push_cast [hb3,hb5])
   ·refine VC.skip ?_;obtain ⟨r6,hr6,h⟩:=Aa h;refine vs [1,2,14,15,32] fun _ k=>?_;push_cast;refine cp (Ec0 hr6) ?_;push_cast;apply k;clear k;refine vc h (fun hb7 h=>?_) (fun hb7 h=>?_)
    ·refine vs [4,5] fun _ k=>?_;push_cast;apply k;clear k;refine VC.ret ?_;replace h:=ol h hf2;replace h:=om h hk1;replace h:=Option.some.inj h;subst h;exact en (by push_cast [hb3,hb5,hb7])
    ·refine VC.skip ?_;refine vl fun _ k=>?_;push_cast;apply k;clear k;refine bk h ?_;exact sl (by push_cast [hb3,hb5,hb7])
  ·refine VC.exit ?_;replace h:=ol h hf2;refine am h hk1 ?_;exact sl (by push_cast [hb3])
 ·rintro ⟨⟩ (h : Hu a0 = some r);(try push_cast);unfold Hu at h;obtain ⟨r8,hr8,h⟩:=Aa h;refine vs [10] fun _ k=>?_;push_cast;refine cp (Dw0 hr8) ?_;push_cast;apply k;clear k;refine VC.seq ?_;refine vs [10,37] fun _ k=>?_;push_cast;apply k;clear k;refine vc h (fun hb9 h=>?_) (fun hb9 h=>?_)
  ·refine vs [4,5] fun _ k=>?_;push_cast;apply k;clear k;refine VC.ret ?_;replace h:=Option.some.inj h;subst h;exact en (by push_cast [hb9])
  ·refine VC.skip ?_;refine vs [4,5] fun _ k=>?_;push_cast;apply k;clear k;refine VC.ret ?_;replace h:=Option.some.inj h;subst h;exact en (by push_cast [hb9])
abbrev Wk:=Ac
def sfB (w : Wk) (b : Bool) : Wk:=⟨w.p,w.fn,w.l,w.in_,w.is,w.at_,b⟩
theorem sfB_same {w : Wk} {b : Bool} (h : w.safe = b) : sfB w b = w:=by subst h; rfl
theorem sfB_sfB (w : Wk) (b c : Bool) : sfB (sfB w b) c = sfB w c:=rfl
structure WI (p : Aq) (l : List Ar) (n k : Nat) (w : Wk) : Prop where
  p : w.p = p
  l : w.l = l
  in_ : w.in_.length = n
  is : w.is.length = n
  at_ : w.at_ = (k : Int)
theorem WI.sf {p : Aq} {l : List Ar} {n k : Nat} {w : Wk} (h : WI p l n k w) (b : Bool) : WI p l n k (sfB w b):=⟨h.p,h.l,h.in_,h.is,h.at_⟩
section
variable {p : Aq} {l : List Ar} {n k : Nat} {w : Wk}
theorem here_ok (h : WI p l n k w) (hk : k < n) : ∃ s,idx w.in_ w.at_ = some s ∧ Cu w = some (s,w):=by
  obtain ⟨s,e,_⟩:=Ok.idx (l:=w.in_) h.at_ (by rw [h.in_]; exact hk)
  exact ⟨s,e,by unfold Cu; rw [e]; rfl⟩
theorem to_ok (h : WI p l n k w) {a : Int} (ha : 0 ≤ a) (s : Ak) : Ok (Eo w a s) (WI p l n k):=by
  unfold Eo
  refine .cond (fun _=>.mk ⟨h.p,h.l,h.in_,h.is,h.at_⟩) fun hlt=>?_
  have hlt:=of_decide_eq_false hlt
  rw [h.in_] at hlt
  have e : a = ((a.toNat : Nat) : Int):=by omega
  refine .po (Ok.idx (l:=w.is) e (by rw [h.is]; omega)) fun b _=>.cond (fun _=>?_) fun _=>?_
  · exact .po (Ok.idx (l:=w.in_) e (by rw [h.in_]; omega)) fun x _=>.po (sJoin_ok x s) fun y _=>.pl (.mk ⟨h.p,h.l,by simpa using h.in_,h.is,h.at_⟩)
  · exact .po (Ok.idx (l:=w.in_) e (by rw [h.in_]; omega)) fun x _=>.pl (.pl (.mk ⟨h.p,h.l,by simpa using h.in_,by simpa using h.is,h.at_⟩))
theorem then_ok (h : WI p l n k w) (hk : k < n) (hn : n ≤ 64) (s : Ak) : Ok (Dx w s) (WI p l n k):=by
  unfold Dx
  refine .cond (fun _=>.po (to_ok h ?_ s) fun _ hw=>.mk hw) fun _=>.mk h
  rw [h.at_,w1 (by omega)]
  omega
noncomputable def gB (w : Wk) (r : Int) : C128 × Bool:=((idx w.in_ w.at_).bind fun s=>Jv s r).getD (⟨0,0⟩,false)
theorem gB_sf (w : Wk) (b : Bool) (r : Int) : gB (sfB w b) r = gB w r:=rfl
theorem get_ok (h : WI p l n k w) (hk : k < n) (r : Int) : Db w r = some ((gB w r).1,sfB w (w.safe && (gB w r).2)):=by
  obtain ⟨s,e,eh⟩:=here_ok h hk
  obtain ⟨⟨c,b⟩,eg,_⟩:=sGet_ok s r
  have hg : gB w r = (c,b):=by
    unfold gB
    rw [e]
    simp only [Option.bind_some,eg,Option.getD_some]
  unfold Db
  rw [eh,po_of,Ep rfl]
  simp only [eg,po_of,hg,Iw]
  cases w.safe <;> rfl
theorem word_okw (h : WI p l n k w) (hk : k < n) (i : Am) : Ok (Dl w i) fun r=>WI p l n k r.2:=by
  obtain ⟨s,e,eh⟩:=here_ok h hk
  unfold Dl
  rw [eh,po_of,Ep rfl]
  refine .po (sWord_ok s i) fun c _=>.po (P:=WI p l n k) (.cond (fun _=>.mk (h.sf _)) fun _=>.mk (h.sf _)) fun w' hw=>.mk hw
theorem within_ok (h : WI p l n k w) (c : C128) (m : Int) : Ok (Du w c m) (WI p l n k):=by
  unfold Du
  exact .po (Ends_ok c) fun _ _=>.cond (fun _=>.cond (fun _=>.mk (h.sf _)) fun _=>.mk (h.sf _)) fun _=>.mk (h.sf _)
theorem put_okw (h : WI p l n k w) (hk : k < n) (hn : n ≤ 64) (r : Int) (b : C128) : Ok (Es w r b) (WI p l n k):=by
  obtain ⟨s,e,eh⟩:=here_ok h hk
  unfold Es
  rw [eh,po_of,Ep rfl]
  exact .po (sPut_ok s r b) fun x _=>.po (then_ok h hk hn x) fun _ hw=>.mk hw
theorem aluW_ok (h : WI p l n k w) (hk : k < n) (hn : n ≤ 64) (i : Am) : Ok (Jd w i) (WI p l n k):=by
  unfold Jd Lp
  refine .po (Of_ok _ _) fun c _=>.po (word_okw h hk i) fun r hr=>.po (P:=fun x : Wk × C128=>WI p l n k x.1) (.cond (fun _=>?_) fun _=>.mk hr) fun x hx=>?_
  · rw [get_ok hr hk]
    exact .mk (hr.sf _)
  · exact .po (Alu_ok _ _ _) fun y _=>.po (put_okw hx hk hn _ _) fun _ hw=>.mk hw
theorem jump1_ok (h : WI p l n k w) {a : Int} (ha : 0 ≤ a) (c : Int) (x y : C128) (s : Ak) (i : Am) : Ok (De c a x y w s i) fun r=>WI p l n k r.2.2.1 ∧ r.2.2.2.2 = i:=by
  unfold De Jj
  refine .po (Cut_ok _ _ _) fun b _=>.po (P:=fun q : Wk × Bool=>WI p l n k q.1) (.cond (fun _=>.mk h) fun _=>.mk h) fun q hq=>.cond (fun _=>?_) fun _=>.mk ⟨hq,rfl⟩
  exact .po (sPut_ok _ _ _) fun z _=>.po (to_ok hq ha z) fun w' hw=>.mk ⟨hw,rfl⟩
theorem jumpW_ok (h : WI p l n k w) (hk : k < n) (hn : n ≤ 64) {i : Am} (hi : InstOk i) : Ok (Ie w i) (WI p l n k):=by
  have hoff : ∀ w' : Wk,WI p l n k w' → 0 ≤ IntKind.i64.wrap (IntKind.i64.wrap (w'.at_ + i.Off) + 1):=fun w' hw=>by
    have:=hi.off
    rw [hw.at_,wrap_i64 (n:=(k : Int) + i.Off) (by omega) (by omega),wrap_i64 (by omega) (by omega)]
    omega
  have hnx : ∀ w' : Wk,WI p l n k w' → 0 ≤ IntKind.i64.wrap (w'.at_ + 1):=fun w' hw=>by
    rw [hw.at_,w1 (by omega)]
    omega
  obtain ⟨s,e,eh⟩:=here_ok h hk
  unfold Ie
  refine .cond (fun _=>?_) fun _=>?_
  · rw [eh,po_of,Ep rfl]
    exact .po (to_ok h (hoff w h) s) fun _ hw=>.mk hw
  · rw [eh,po_of,Ep rfl,get_ok h hk,po_of]
    refine .po (word_okw (h.sf _) hk i) fun r hr=>.po (jump1_ok hr (hoff _ hr) _ _ _ _ _) fun q hq=>?_
    have fin : ∀ c,Ok (po (De c (IntKind.i64.wrap (q.2.2.1.at_ + 1)) q.1 q.2.1 q.2.2.1 q.2.2.2.1 q.2.2.2.2) fun r=>some r.2.2.1) (WI p l n k):=fun c=>
      .po (jump1_ok hq.1 (hnx _ hq.1) _ _ _ _ _) fun z hz=>.mk hz.1
    exact .cond (fun _=>fin _) fun _=>.cond (fun _=>fin _) fun _=>.cond (fun _=>fin _) fun _=>.cond (fun _=>fin _) fun _=>fin _
theorem ctxW_ok (h : WI p l n k w) (hk : k < n) (hn : n ≤ 64) (i : Am) : Ok (Ha w i) (WI p l n k):=by
  unfold Ha
  exact .po (word_okw h hk i) fun r hr=>.po (within_ok hr _ _) fun v hv=>.po (Of_ok _ _) fun c _=>.po (put_okw hv hk hn _ _) fun _ hw=>.mk hw
theorem loadW_ok (h : WI p l n k w) (hk : k < n) (hn : n ≤ 64) (i : Am) : Ok (Hx w i) (WI p l n k):=by
  unfold Hx
  exact .po (word_okw h hk i) fun r hr=>.po (within_ok hr _ _) fun v hv=>.po (Of_ok _ _) fun c _=>.po (put_okw hv hk hn _ _) fun _ hw=>.mk hw
theorem storeW_ok (h : WI p l n k w) (hk : k < n) (hn : n ≤ 64) (i : Am) : Ok (Hm w i) (WI p l n k):=by
  unfold Hm
  rw [get_ok h hk,po_of]
  refine .po (word_okw (h.sf _) hk i) fun r hr=>.po (within_ok hr _ _) fun v hv=>?_
  obtain ⟨s,e,eh⟩:=here_ok hv hk
  rw [eh,po_of,Ep rfl]
  exact .po (then_ok hv hk hn _) fun _ hw=>.mk hw
noncomputable def gAll (w : Wk) (m : Nat) : Bool:=(List.range m).all fun j=>(gB w ((j + 1 : Nat) : Int)).2
theorem gAll_at {w : Wk} {m j : Nat} (h : gAll w m = true) (hj : j < m) : (gB w ((j + 1 : Nat) : Int)).2 = true:=(List.all_eq_true.1 h) j (List.mem_range.2 hj)
theorem handed_ok (h : WI p l n k w) (hk : k < n) {m : Nat} (hm : m ≤ 100) : Fg w (m : Int) = some (sfB w (w.safe && gAll w m)):=by
  unfold Fg
  have key : Ok (lpU (fun x=>Gy (m : Int) x.1 x.2) (w,0)) fun r=>r = sfB w (w.safe && gAll w m):=by
    refine .lp (fun x=>∃ j : Nat,x.2 = (j : Int) ∧ j ≤ m ∧ x.1 = sfB w (w.safe && gAll w j)) (fun x=>((m : Int) - x.2).toNat) ⟨0,rfl,Nat.zero_le _,by simp [gAll,sfB]⟩ ?_
    rintro ⟨u,i⟩ ⟨j,hj,hjm,hu⟩
    simp only at hj hu
    subst hj
    subst hu
    unfold Gy
    refine .cond (fun hlt=>?_) fun hlt=>?_
    · have hlt:=of_decide_eq_true hlt
      rw [w1 (show j < 1000000 by omega),get_ok (h.sf _) hk,po_of]
      refine .mk ⟨⟨j + 1,rfl,by omega,?_⟩,by simp only; omega⟩
      show sfB (sfB w _) _ = _
      rw [sfB_sfB,gB_sf]
      congr 1
      simp only [sfB,gAll,List.range_succ,List.all_append,List.all_cons,List.all_nil,Bool.and_true,Bool.and_assoc]
    · have hlt:=of_decide_eq_false hlt
      have : j = m:=by omega
      subst this
      exact .mk rfl
  obtain ⟨r,e,rfl⟩:=key
  exact e
theorem hFits_ok (n : Int) (s : Ar) : Ok (Qi n s) fun _=>True:=by
  have hm : Ok (Ee s) fun _=>True:=by
    unfold Ee
    have hin : ∀ a b c,Ok (Gk a b c) fun _=>True:=fun a b c=>by
      unfold Gk Lx
      exact .po (P:=fun _=>True) (.cond (fun _=>.mk trivial) fun _=>.mk trivial) fun _ _=>.mk trivial
    refine .po (P:=fun _=>True) (.cond (fun _=>.mk trivial) fun _=>.mk trivial) fun m _=>?_
    unfold Iz Kw
    exact .po (P:=fun _=>True) (.po (hin _ _ _) fun _ _=>.cond (fun _=>.po (hin _ _ _) fun _ _=>.cond (fun _=>.po (hin _ _ _) fun _ _=>.cond (fun _=>.po (hin _ _ _) fun _ _=>.mk trivial) fun _=>.mk trivial) fun _=>.mk trivial) fun _=>.mk trivial) fun _ _=>.mk trivial
  unfold Qi
  refine .cond (fun _=>?_) fun _=>.po (P:=fun _=>True) (.cond (fun _=>.mk trivial) fun _=>.cond (fun _=>.mk trivial) fun _=>.cond (fun _=>.mk trivial) fun _=>.mk trivial) fun _ _=>?_
  · exact .po (P:=fun _=>True) (.po hm fun _ _=>.cond (fun _=>.mk trivial) fun _=>.mk trivial) fun _ _=>⟨_,rfl,trivial⟩
  · unfold Ph
    exact .cond (fun _=>.po (P:=fun _=>True) (.po hm fun _ _=>.cond (fun _=>.mk trivial) fun _=>.mk trivial) fun _ _=>⟨_,rfl,trivial⟩) fun _=>.mk trivial
theorem u64n {n : Nat} (h : n < 1000000000000) : IntKind.u64.wrap (n : Int) = (n : Int):=by
  rw [IntKind.wrap_u64]
  omega
theorem helpW_ok (h : WI p l n k w) (hk : k < n) (hn : n ≤ 64) (hl : l.length ≤ 100) (i : Am) : Ok (Hv w i) (WI p l n k):=by
  unfold Hv
  rw [args_is,po_of]
  refine .cond (fun _=>.mk (h.sf _)) fun h0=>?_
  have h0 : 0 ≤ argsN (i.Imm.toNat : Int):=by simpa using h0
  obtain ⟨m,hm⟩ : ∃ m : Nat,argsN (i.Imm.toNat : Int) = (m : Int):=⟨_,(Int.toNat_of_nonneg h0).symm⟩
  have hcase : m ≤ 4 ∧ ((i.Imm.toNat : Int) ≠ 4 → 2 ≤ m) ∧ ((i.Imm.toNat : Int) = 0 ∨ (i.Imm.toNat : Int) = 1 → 3 ≤ m):=by
    unfold argsN at hm
    repeat' split at hm
    all_goals omega
  rw [hm]
  have hd : decide ((m : Int) ≥ 0) = true:=by simp
  rw [hd]
  change Ok (po (Fg (sfB w true) (m : Int)) _) _
  rw [handed_ok (h.sf true) hk (by omega),po_of]
  have hW : WI p l n k (sfB (sfB w true) ((sfB w true).safe && gAll (sfB w true) m)):=(h.sf _).sf _
  generalize hw3 : sfB (sfB w true) ((sfB w true).safe && gAll (sfB w true) m) = w3 at hW
  have hall : w3.safe = true → ∀ j,j < m → (gB w3 ((j + 1 : Nat) : Int)).2 = true:=by
    intro hs j hj
    rw [← hw3] at hs ⊢
    simp only [sfB,Bool.true_and] at hs
    have:=gAll_at hs hj
    exact this
  refine .pm (P:=fun r=>match r with | .inl w'=>WI p l n k w' | .inr w'=>WI p l n k w') ?_ (fun w' hw'=>?_) fun _ hw'=>hw'
  · refine .po (P:=fun x : Wk × Bool=>x.1 = w3 ∧ (x.2 = true → w3.safe = true ∧ (i.Imm.toNat : Int) ≠ 4)) (.cond (fun hs=>.mk ⟨rfl,fun q=>⟨hs,by simpa using q⟩⟩) fun _=>.mk ⟨rfl,fun h=>by cases h⟩) ?_
    rintro ⟨x,b⟩ ⟨hx,hb⟩
    simp only at hx hb
    subst hx
    unfold Kx
    refine .cond (fun hbt=>?_) fun _=>.mk hW
    obtain ⟨hs,h4⟩:=hb hbt
    have g1:=hall hs 0 (by have:=hcase.2.1 h4; omega)
    have e1 : Db x 1 = some ((gB x 1).1,x):=by
      rw [get_ok hW hk]
      have : (gB x 1).2 = true:=g1
      rw [this,hs]
      congr 2
      exact sfB_same hs
    rw [e1,po_of,Ep rfl]
    refine .po (Ends_ok _) fun e _=>?_
    refine .po (P:=fun y : Wk=>∃ c,y = sfB x c ∧ (c = true → e.1.toNat < l.length)) ?_ ?_
    · refine .cond (fun _=>.cond (fun hlt=>?_) fun _=>.mk ⟨false,rfl,fun h=>by cases h⟩) fun _=>.mk ⟨false,rfl,fun h=>by cases h⟩
      have hlt:=of_decide_eq_true hlt
      rw [hW.l,w64v,u64n (by omega)] at hlt
      rw [hW.l]
      refine .po (Ok.at_ (l:=l) (n:=e.1.toNat) (by omega)) fun sc _=>.po (hFits_ok _ sc) fun c _=>.mk ⟨c,by unfold sfB; rw [hW.l],fun _=>by omega⟩
    · rintro y ⟨c,rfl,hc⟩
      unfold Jt
      have hY : WI p l n k (sfB x c):=hW.sf c
      refine .cond (fun _=>.mk hY) fun hsafe=>?_
      have hct : c = true:=by simpa [sfB] using hsafe
      subst hct
      have hlt:=hc rfl
      refine .po (P:=fun z : Wk × Bool=>z.1 = sfB x true ∧ (z.2 = true → (i.Imm.toNat : Int) = 0 ∨ (i.Imm.toNat : Int) = 1)) (.cond (fun q=>.mk ⟨rfl,fun _=>.inl (by simpa using q)⟩) fun _=>.mk ⟨rfl,fun q=>.inr (by simpa using q)⟩) ?_
      rintro ⟨z,b2⟩ ⟨hz,hb2⟩
      simp only at hz hb2
      subst hz
      unfold Jw
      refine .cond (fun hbt2=>?_) fun _=>.mk hY
      have g3 : (gB x 3).2 = true:=hall hs 2 (by have:=hcase.2.2 (hb2 hbt2); omega)
      have e3 : Db (sfB x true) 3 = some ((gB x 3).1,sfB x true):=by
        rw [get_ok hY hk,gB_sf,g3]
        rfl
      rw [e3,po_of,Ep rfl]
      have hl2 : (sfB x true).l = l:=hW.l
      rw [hl2]
      exact .po (Ok.at_ (l:=l) hlt) fun sc _=>.po (within_ok hY _ _) fun v hv=>.mk hv
  · unfold Kt
    obtain ⟨s,e,eh⟩:=here_ok hw' hk
    rw [eh,po_of,Ep rfl]
    exact .po (sBack_ok s) fun x _=>.po (then_ok hw' hk hn x) fun _ hv=>.mk hv
theorem callW_ok (h : WI p l n k w) (hk : k < n) (hn : n ≤ 64) (hp : ProgOk p) (i : Am) : Ok (Ii w i) (WI p l n k):=by
  unfold Ii
  refine .po (P:=fun y : Wk=>WI p l n k y ∧ (y.safe = true → i.Imm.toNat < p.Fns.length)) (.cond (fun hlt=>.mk ⟨h.sf _,fun _=>?_⟩) fun _=>.mk ⟨h.sf _,fun q=>by cases q⟩) ?_
  · have hlt:=of_decide_eq_true hlt
    have:=hp.len
    rw [h.p,w64v,u64n (by omega)] at hlt
    omega
  · rintro y ⟨hy,hs⟩
    unfold Kn
    refine .cond (fun _=>.mk hy) fun q=>?_
    have hlt:=hs (by simpa using q)
    rw [hy.p]
    refine .po (Ok.at_ (l:=p.Fns) hlt) fun f hf=>?_
    have ha:=(hp.fns f hf.2).args
    have e : f.Args = ((f.Args.toNat : Nat) : Int):=by omega
    rw [e,handed_ok hy hk (by omega),po_of]
    obtain ⟨s,_,eh⟩:=here_ok (hy.sf (y.safe && gAll y f.Args.toNat)) hk
    rw [eh,po_of,Ep rfl]
    exact .po (sBack_ok s) fun x _=>.po (then_ok (hy.sf _) hk hn x) fun _ hv=>.mk hv
theorem exitW_ok (h : WI p l n k w) (hk : k < n) (i : Am) : Ok (Gf w i) (WI p l n k):=by
  unfold Gf
  rw [get_ok h hk]
  exact .mk (h.sf _)
end
theorem contains_ok {α : Type} {l : List α} {step : Int → Option (Int ⊕ (Unit ⊕ Int))} {q : α → Bool} (hl : l.length ≤ 1048576)
    (hs : ∀ (n : Nat) (a : α),l[n]? = some a → step (n : Int) = some (if q a = true then .inr (.inr (n : Int)) else .inl ((n + 1 : Nat) : Int)))
    (he : step (l.length : Int) = some (.inr (.inl ()))) : Ok (lpU step 0) fun _=>True:=by
  obtain ⟨r,hr,_⟩:=index_any hl hs he
  exact ⟨r,hr,trivial⟩
theorem scMay_ok (s : Ar) : Ok (Ee s) fun _=>True:=by
  unfold Ee
  have hin : ∀ a b c,Ok (Gk a b c) fun _=>True:=fun a b c=>by
    unfold Gk Lx
    exact .po (P:=fun _=>True) (.cond (fun _=>.mk trivial) fun _=>.mk trivial) fun _ _=>.mk trivial
  refine .po (P:=fun _=>True) (.cond (fun _=>.mk trivial) fun _=>.mk trivial) fun m _=>?_
  unfold Iz Kw
  exact .po (P:=fun _=>True) (.po (hin _ _ _) fun _ _=>.cond (fun _=>.po (hin _ _ _) fun _ _=>.cond (fun _=>.po (hin _ _ _) fun _ _=>.cond (fun _=>.po (hin _ _ _) fun _ _=>.mk trivial) fun _=>.mk trivial) fun _=>.mk trivial) fun _=>.mk trivial) fun _ _=>.mk trivial
theorem schemas_ok (l : List Ar) (hl : l.length ≤ 1048576) : Ok (Bg l) fun _=>True:=by
  unfold Bg
  refine .po (P:=fun _=>True) ?_ fun _ _=>.mk trivial
  unfold Bp
  refine .pm (P:=fun _=>True) (contains_ok (l:=l) (q:=fun s=>(Lj s).getD false) hl ?_ ?_) (fun _ _=>⟨_,rfl,trivial⟩) fun _ _=>trivial
  · intro n a ha
    have hlt:=get_lt ha
    obtain ⟨b,hb,_⟩:=scMay_ok a
    have hd : decide ((n : Int) < (l.length : Int)) = true:=by simp; omega
    simp only [Bk,hd,cond_true,idx_nat,ha,po_of,Lj,hb,Option.getD_some,w64 (show n < 9223372036854775807 by omega)]
    cases b <;> rfl
  · have hd : decide ((l.length : Int) < (l.length : Int)) = false:=by simp
    simp only [Bk,hd,cond_false]
theorem shapes_ok (p : Aq) {fn : Int} (l : List Ar) (hfn : 0 ≤ fn) (hl : l.length ≤ 100) : Ok (Ir p fn l) fun r=>r.2.2 = 0 → ProgOk p ∧ fn < (p.Fns.length : Int):=by
  obtain ⟨b,hb,hbp⟩:=progMay_tells p
  unfold Ir
  rw [hb,po_of]
  refine .po (P:=fun c=>c = false → b = true) (.cond (fun h=>.mk fun q=>by rw [h] at q; cases q) fun h=>.cond (fun h2=>.mk fun _=>by simpa using h) fun _=>.po (schemas_ok l (by omega)) fun _ _=>.mk fun _=>by simpa using h) fun c hc=>?_
  unfold Hy
  refine .cond (fun _=>.mk fun q=>absurd (show (1 : Int) = 0 from q) (by decide)) fun hcf=>?_
  have hp:=hbp (hc hcf)
  refine .po (P:=fun c=>c = false → fn < (p.Fns.length : Int)) (.cond (fun h=>.mk fun q=>by rw [h] at q; cases q) fun _=>.mk fun q=>by have:=of_decide_eq_false q; omega) fun d hd=>?_
  unfold Ih
  refine .cond (fun _=>.mk fun q=>absurd (show (3 : Int) = 0 from q) (by decide)) fun hdf=>?_
  have hlt:=hd hdf
  have hfn2 : fn = ((fn.toNat : Nat) : Int):=by omega
  refine .po (Ok.idx (l:=p.Fns) hfn2 (by omega)) fun f hf=>?_
  have hF:=hp.fns f hf.2
  have hlen:=hF.len
  refine .pg (by omega) (.pl (.pg (by omega) (.pl (.po (sNew_ok _) fun s _=>?_))))
  have hW0 : WI p l f.Code.length 0 (Ac.mk p fn l (List.replicate f.Code.length (Ak.mk (A8.mk false false false false false false false false) (A8.mk (C128.mk 0 0) (C128.mk 0 0) (C128.mk 0 0) (C128.mk 0 0) (C128.mk 0 0) (C128.mk 0 0) (C128.mk 0 0) (C128.mk 0 0)))) (List.replicate f.Code.length false) 0 true):=
    ⟨rfl,rfl,List.length_replicate,List.length_replicate,rfl⟩
  refine .po (to_ok hW0 (Int.le_refl 0) s.1) fun w0 hw0=>.po (P:=fun _=>True) (.mk trivial) fun _ _=>?_
  refine .pm (P:=fun _=>True) ?_ (fun _ _=>.mk fun _=>⟨hp,hlt⟩) fun _ _ _=>⟨hp,hlt⟩
  refine .lp (fun x : Wk × Int=>∃ k : Nat,x.2 = (k : Int) ∧ k ≤ f.Code.length ∧ ∃ k',WI p l f.Code.length k' x.1) (fun x=>((f.Code.length : Int) - x.2).toNat) ⟨0,rfl,Nat.zero_le _,0,hw0⟩ ?_
  rintro ⟨w,i⟩ ⟨k,hi,hk,k',hw⟩
  simp only at hi hw
  subst hi
  unfold Hj
  refine .cond (fun hlt2=>?_) fun _=>.mk trivial
  have hlt2:=of_decide_eq_true hlt2
  have hkn : k < f.Code.length:=by omega
  refine .po (Ok.idx (l:=f.Code) rfl hkn) fun c hcd=>?_
  have hI:=hF.code c hcd.2
  have hW : WI p l f.Code.length k (Ac.mk w.p w.fn w.l w.in_ w.is (k : Int) w.safe):=⟨hw.p,hw.l,hw.in_,hw.is,rfl⟩
  refine .po (P:=WI p l f.Code.length k) ?_ fun w' hw'=>?_
  · refine .po (Ok.idx (l:=w.is) rfl (by rw [hw.is]; exact hkn)) fun b _=>.cond (fun _=>?_) fun _=>.mk hW
    refine .cond (fun _=>.po (aluW_ok hW hkn (by omega) c) fun _ h=>.mk h) fun h0=>.cond (fun _=>.po (jumpW_ok hW hkn (by omega) hI) fun _ h=>.mk h) fun h1=>.cond (fun _=>.po (ctxW_ok hW hkn (by omega) c) fun _ h=>.mk h) fun h2=>.cond (fun _=>.po (loadW_ok hW hkn (by omega) c) fun _ h=>.mk h) fun h3=>.cond (fun _=>.po (storeW_ok hW hkn (by omega) c) fun _ h=>.mk h) fun h4=>.cond (fun _=>.po (helpW_ok hW hkn (by omega) hl c) fun _ h=>.mk h) fun h5=>.cond (fun _=>.po (callW_ok hW hkn (by omega) hp c) fun _ h=>.mk h) fun h6=>.cond (fun _=>.po (exitW_ok hW hkn c) fun _ h=>.mk h) fun h7=>?_
    exfalso
    have:=hI.op
    simp only [beq_eq_false_iff_ne,ne_eq] at h0 h1 h2 h3 h4 h5 h6 h7
    omega
  · unfold Jn
    refine .cond (fun _=>.mk trivial) fun _=>.mk ⟨⟨k + 1,w1 (by omega),by omega,k,hw'⟩,?_⟩
    simp only [w1 (show k < 1000000 by omega)]
    omega
theorem inside_ok {p : Aq} (hp : ProgOk p) {fn : Int} (h0 : 0 ≤ fn) (hlt : fn < (p.Fns.length : Int)) : Ok (Ix p fn) fun _=>True:=by
  unfold Ix
  have hfn2 : fn = ((fn.toNat : Nat) : Int):=by omega
  refine .po (Ok.idx (l:=p.Fns) hfn2 (by omega)) fun f hf=>?_
  have hF:=hp.fns f hf.2
  have hlen:=hF.len
  refine .pm (P:=fun _=>True) ?_ (fun _ _=>⟨_,rfl,trivial⟩) fun _ _=>trivial
  refine .lp (fun x=>∃ k : Nat,x = (k : Int) ∧ k ≤ f.Code.length) (fun x=>((f.Code.length : Int) - x).toNat) ⟨0,rfl,Nat.zero_le _⟩ ?_
  rintro i ⟨k,rfl,hk⟩
  unfold Kh
  refine .cond (fun hlt2=>?_) fun _=>.mk trivial
  have hlt2:=of_decide_eq_true hlt2
  refine .po (Ok.idx (l:=f.Code) rfl (by omega)) fun c hcd=>.po (P:=fun _=>True) (.cond (fun _=>.cond (fun _=>.mk trivial) fun _=>.cond (fun _=>.mk trivial) fun _=>.mk trivial) fun _=>.cond (fun _=>.mk trivial) fun _=>.mk trivial) fun b _=>?_
  unfold Nq
  refine .cond (fun _=>.mk trivial) fun _=>.mk ⟨⟨k + 1,w1 (by omega),by omega⟩,?_⟩
  simp only [w1 (show k < 1000000 by omega)]
  omega
theorem cmay_ok {l : List Am} : Ok (Mm l) fun b=>b = true → 0 < l.length ∧ l.length ≤ 64 ∧ ∀ i ∈ l,InstOk i:=by
  unfold Mm Nw
  refine .po (P:=fun b=>b = true → 0 < l.length ∧ l.length ≤ 64 ∧ ∀ i ∈ l,InstOk i) (.cond (fun h1=>.cond (fun h2=>?_) fun _=>.mk fun h=>by cases h) fun _=>.mk fun h=>by cases h) fun b hb=>.mk hb
  have h1:=of_decide_eq_true h1
  have h2:=of_decide_eq_true h2
  unfold Bx Cc
  obtain ⟨r,hr,hq⟩:=index_any (l:=l) (q:=fun i=>!((Jy i).getD false)) (step:=fun x=>Bi l x) (by omega)
    (fun n i hi=>by
      obtain ⟨b,hb,_⟩:=instMay_tells i
      have hlt:=get_lt hi
      have hd : decide ((n : Int) < (l.length : Int)) = true:=by simp; omega
      simp only [Bi,hd,cond_true,idx_nat,hi,po_of,Sa,hb,Option.getD_some,w64 (show n < 9223372036854775807 by omega)]
      cases b <;> rfl)
    (by
      have hd : decide ((l.length : Int) < (l.length : Int)) = false:=by simp
      simp only [Bi,hd,cond_false])
  rw [hr]
  rcases hq with ⟨rfl,hall⟩ | ⟨n,rfl⟩
  · simp only [pm_inl,Cl,po_of]
    refine .mk fun _=>⟨by omega,by omega,fun i hi=>?_⟩
    obtain ⟨b,hb,hok⟩:=instMay_tells i
    have:=hall i hi
    rw [hb] at this
    exact hok (by simpa using this)
  · simp only [pm_inr,po_of]
    have hd : decide ((n : Int) ≥ 0) = true:=decide_eq_true (by omega)
    rw [hd]
    exact .mk fun h=>by cases h
theorem next_ok {l : List Am} (hl : l.length ≤ 64) (hI : ∀ i ∈ l,InstOk i) {k : Nat} (hk : k < l.length) : Ok (Nn l (k : Int)) fun r=>r.length ≤ 2 ∧ ∀ x ∈ r,0 ≤ x:=by
  unfold Nn
  refine .po (Ok.idx (l:=l) rfl hk) fun i hi=>?_
  have ho:=(hI i hi.2).off
  have e1 : IntKind.i64.wrap ((k : Int) + 1) = (k : Int) + 1:=wrap_i64 (by omega) (by omega)
  have e2 : IntKind.i64.wrap (IntKind.i64.wrap ((k : Int) + i.Off) + 1) = (k : Int) + i.Off + 1:=by
    rw [wrap_i64 (n:=(k : Int) + i.Off) (by omega) (by omega),wrap_i64 (by omega) (by omega)]
  refine .cond (fun _=>.mk ⟨by decide,fun x h=>by cases h⟩) fun _=>.po (P:=fun _=>True) (.cond (fun _=>.mk trivial) fun _=>.mk trivial) fun b _=>?_
  unfold Pj
  rw [e2]
  refine .cond (fun _=>.mk ⟨by simp,fun x h=>?_⟩) fun _=>.po (P:=fun _=>True) (.cond (fun _=>.mk trivial) fun _=>.mk trivial) fun b _=>?_
  · simp only [List.mem_singleton] at h
    omega
  unfold Py
  rw [e1,e2]
  refine .cond (fun _=>.mk ⟨by simp,fun x h=>?_⟩) fun _=>.mk ⟨by simp,fun x h=>?_⟩
  · simp only [List.mem_cons,List.not_mem_nil,or_false] at h
    omega
  · simp only [List.mem_singleton] at h
    omega
theorem longest_ok (l : List Am) (cs : List Int) : Ok (Hr l cs) fun _=>True:=by
  unfold Hr
  refine .po cmay_ok fun b hb=>.cond (fun _=>.mk trivial) fun h=>?_
  obtain ⟨h0,h64,hI⟩:=hb (by simpa using h)
  have e0 : IntKind.i64.wrap ((l.length : Int) - 1) = ((l.length - 1 : Nat) : Int):=by
    rw [wrap_i64 (by omega) (by omega)]
    omega
  rw [e0]
  refine .lp (fun x=>∃ k : Nat,x.2 = (k : Int) ∧ k < l.length) (fun x=>x.2.toNat) ⟨_,rfl,by omega⟩ ?_
  rintro ⟨w,i⟩ ⟨k,hi,hk⟩
  simp only at hi
  subst hi
  unfold Fo
  refine .po (P:=fun _ : Int=>True) (.po (next_ok h64 hI hk) fun r hr=>?_) fun m _=>?_
  · refine .lp (fun x=>x.2.1 = r ∧ ∃ j : Nat,x.2.2 = (j : Int) ∧ j ≤ r.length) (fun x=>((r.length : Int) - x.2.2).toNat) ⟨rfl,0,rfl,Nat.zero_le _⟩ ?_
    rintro ⟨y,q,j⟩ ⟨hq,n,hn,hnr⟩
    simp only at hq hn
    subst hq
    subst hn
    unfold Jp
    refine .cond (fun hlt=>?_) fun _=>.mk trivial
    have hlt : (n : Int) < (q.length : Int):=of_decide_eq_true hlt
    have hr2:=hr.1
    refine .po (P:=fun x : Int × List Int=>x.2 = q) (.po (Ok.idx (l:=q) rfl (by omega)) fun x hx=>.cond (fun hc=>.pg ?_ (.mk rfl)) fun _=>.mk rfl) fun x hx=>?_
    · have hc:=of_decide_eq_true hc
      have:=hr.2 x hx.2
      omega
    · unfold Mx
      refine .mk ⟨⟨hx,n + 1,w1 (by omega),by omega⟩,?_⟩
      simp only [w1 (show n < 1000000 by omega)]
      omega
  · unfold Jo
    refine .po (P:=fun _ : Int=>True) (.po (Ok.idx (l:=l) rfl hk) fun c hc=>.po (P:=fun b=>b = true → c.Imm.toNat < cs.length) (.cond (fun _=>.mk fun h=>of_decide_eq_true h) fun _=>.mk fun h=>by cases h) fun b hb=>?_) fun y _=>?_
    · unfold Lt
      refine .cond (fun h=>.po (Ok.at_ (l:=cs) (hb h)) fun z _=>.po (P:=fun _=>True) (.cond (fun _=>.mk trivial) fun _=>.mk trivial) fun b _=>?_) fun _=>.mk trivial
      unfold Lq
      exact .cond (fun _=>.mk trivial) fun _=>.mk trivial
    · unfold Lr
      refine .pg (by omega) (.pl ?_)
      have e1 : IntKind.i64.wrap ((k : Int) - 1) = (k : Int) - 1:=wrap_i64 (by omega) (by omega)
      rw [e1]
      refine .cond (fun hc=>.mk ⟨⟨k - 1,?_,by omega⟩,?_⟩) fun _=>.mk trivial
      · have hc:=of_decide_eq_true hc
        simp only
        omega
      · have hc:=of_decide_eq_true hc
        simp only
        omega
theorem it_ok {α σ ρ : Type} {step : σ → α → Option (σ ⊕ ρ)} (I : σ → Prop) : ∀ (l : List α),(∀ s a,a ∈ l → I s → Ok (step s a) fun r=>match r with | .inl s'=>I s' | .inr _=>False) → ∀ s,I s → Ok (itU step l s) fun r=>match r with | .inl s'=>I s' | .inr _=>False
  | [],_,s,h=>⟨_,rfl,h⟩
  | a :: l,hs,s,h=>by
    obtain ⟨r,e,hr⟩:=hs s a List.mem_cons_self h
    unfold itU
    rw [e]
    cases r with
    | inl s'=>exact it_ok I l (fun s b hb=>hs s b (List.mem_cons_of_mem _ hb)) s' hr
    | inr x=>exact hr.elim
theorem budget_ok (p : Aq) : Ok (Iq p) fun _=>True:=by
  obtain ⟨b,hb,hbp⟩:=progMay_tells p
  unfold Iq
  rw [hb,po_of]
  refine .cond (fun _=>.mk trivial) fun h=>?_
  have hp:=hbp (by simpa using h)
  have hlen:=hp.len
  refine .pg (by omega) (.pl (.po (P:=fun l : List Int=>l.length = p.Fns.length) ?_ fun l hl=>?_))
  · obtain ⟨r,e,hr⟩:=it_ok (step:=fun x u=>Gg p x u) (fun l : List Int=>l.length = p.Fns.length) (backL p.Fns) (fun s a ha hs=>by
      simp only [backL,List.mem_map,List.mem_reverse,List.mem_range] at ha
      obtain ⟨k,hk,rfl⟩:=ha
      unfold Gg
      exact .po (Ok.idx (l:=p.Fns) rfl hk) fun f _=>.po (longest_ok _ _) fun x _=>.po (Ok.idx (l:=s) rfl (by rw [hs]; exact hk)) fun y _=>.pl (.mk (by simpa using hs))) (List.replicate p.Fns.length 0) List.length_replicate
    rw [e]
    cases r with
    | inl l=>exact .mk hr
    | inr x=>exact hr.elim
  · unfold Kb
    exact .po (Ok.at_ (l:=l) (by omega)) fun _ _=>.mk trivial
theorem verify_ok (p : Aq) (l : List Ar) (hl : l.length ≤ 100) (hf : p.Fns.length ≤ 1000) : Ok (Fa p l) fun _=>True:=by
  unfold Fa
  refine .pm (P:=fun _=>True) ?_ (fun _ _=>?_) fun _ _=>trivial
  · refine .lp (fun x=>∃ k : Nat,x = (k : Int) ∧ k ≤ 1000) (fun x=>(1000 - x).toNat) ⟨0,rfl,by omega⟩ ?_
    rintro i ⟨k,rfl,hk⟩
    unfold Ib
    refine .cond (fun hlt=>.po (shapes_ok p l (Int.natCast_nonneg k) hl) fun r hr=>.cond (fun _=>.mk trivial) fun h=>?_) fun _=>.mk trivial
    obtain ⟨hp,hlt2⟩:=hr (by simpa using h)
    refine .po (inside_ok hp (Int.natCast_nonneg k) hlt2) fun b _=>.cond (fun _=>.mk trivial) fun _=>.mk ⟨⟨k + 1,w1 (by omega),by omega⟩,?_⟩
    simp only [w1 (show k < 1000000 by omega)]
    omega
  · unfold Hu
    exact .po (budget_ok p) fun n _=>.cond (fun _=>.mk trivial) fun _=>.mk trivial
noncomputable def Jh (a0 : (List UInt32)) (a1 : (List UInt32)) (i_1 : Int) : Option ((Int) ⊕ ((Unit) ⊕ (Bool))):=
  cond (decide (i_1 < (a0.length : Int))) (
  po (idx a0 i_1) fun x5=>
  po (idx a1 i_1) fun x6=>
  cond ((x5.toNat : Int) != (x6.toNat : Int)) (
  some (Sum.inr (Sum.inr false))) (
  some (Sum.inl (IntKind.i64.wrap (i_1 + 1))))) (
  some (Sum.inr (Sum.inl ())))
noncomputable def Ji : Option (Bool):=
  some true
noncomputable def Gm (a0 : (List UInt32)) (a1 : (List UInt32)) : Option (Bool):=
  cond ((a0.length : Int) != (a1.length : Int)) (
  some false) (
  pm (
  lpU (fun x=>Jh a0 a1 x) 0) (fun x=>Ji))
theorem Jb {a0 : (List UInt32)} {a1 : (List UInt32)} {r : Bool} (h : Gm a0 a1 = some r) : Ctr prog 25 [.sl false (a0.map Ax),.sl false (a1.map Ax)] [] (rb r) []:=by
 unfold Gm at h;refine Ctr.ofW Ba func25 rfl call25 0 _ ntmps25 [.tmp 4] rfl rfl rfl (fun B=>?_);refine vs [0,1] fun _ k=>?_;push_cast;apply k;clear k;refine VC.seq ?_;refine vs [0,1,10] fun _ k=>?_;push_cast;apply k;clear k;refine vc h (fun hb1 h=>?_) (fun hb1 h=>?_)
 ·refine vs [4] fun _ k=>?_;push_cast;apply k;clear k;refine VC.ret ?_;replace h:=Option.some.inj h;subst h;exact en (by push_cast [hb1])
 ·refine VC.skip ?_;refine vm h (fun x=>⟨[],[],27,26,0⟩) (fun v2 h hk2=>?_) ?_
  ·refine vs [0,1,5] fun _ k=>?_;push_cast;apply k;clear k;refine VC.block ?_;refine VC.loopP h (fun x=>⟨[(0,.sl false (a0.map Ax)),(1,.sl false (a1.map Ax)),(5,ri x)],[],23,26,0⟩) ?_ ?_
   ·exact sl (by push_cast [hb1])
   rintro i_1 b3 (h : Jh a0 a1 i_1 = some b3) hf3;(try push_cast);unfold Jh at h;refine VC.seq ?_;refine vs [0,1,5,14] fun _ k=>?_;push_cast;apply k;clear k;refine vc h (fun hb4 h=>?_) (fun hb4 h=>?_)
   ·refine VC.skip ?_;refine VC.seq ?_;refine VC.block ?_;obtain ⟨x5,hx5,h⟩:=Aa h;replace hx5:=Bh hx5;obtain ⟨x6,hx6,h⟩:=Aa h;replace hx6:=Bh hx6;refine vsD [some 17,some 18,some 19,some 20,some 21,some 22,some 23,some 24,some 25] [0,1,5,25] fun _ k=>?_;push_cast [hx5,hx6];(repeat refine ao ?_);refine ⟨rfl,k _ ?_⟩;clear k;refine vc h (fun hb7 h=>?_) (fun hb7 h=>?_)
    ·refine vs [4] fun _ k=>?_;push_cast;apply k;clear k;refine VC.ret ?_;replace h:=ol h hf3;replace h:=om h hk2;replace h:=Option.some.inj h;subst h;exact en (by push_cast [hb1,hb4,hb7])
    ·refine VC.skip ?_;refine vl fun _ k=>?_;push_cast;apply k;clear k;refine bk h ?_;exact sl (by push_cast [hb1,hb4,hb7])
   ·refine VC.exit ?_;replace h:=ol h hf3;refine am h hk2 ?_;exact sl (by push_cast [hb1,hb4])
  ·rintro ⟨⟩ (h : Ji = some r);(try push_cast);unfold Ji at h;refine vs [4] fun _ k=>?_;push_cast;apply k;clear k;refine VC.ret ?_;replace h:=Option.some.inj h;subst h;exact en (by push_cast [hb1])
noncomputable def Pz (i_2 : Bool) : Option (Int):=
  cond i_2 (
  some 1) (
  some 2)
noncomputable def Pm (a0 : Ar) (a1 : Ar) (i_1 : Bool) : Option (Int):=
  cond i_1 (
  some 2) (
  cond ((a0.Kind == a1.Kind) && ((a0.Cap == a1.Cap) && ((a0.Words == a1.Words) && (a0.Ver == a1.Ver)))) (
  some 0) (
  po (
  cond (a0.Kind == a1.Kind) (
  some (a1.Ver == (IntKind.i64.wrap (a0.Ver + 1)))) (
  some false)) (fun x=>Pz x)))
noncomputable def Nl (a0 : Ar) (a1 : Ar) : Option (Int):=
  po (
  po (Ee a0) fun r2=>
  cond (!r2) (
  some (!r2)) (
  po (Ee a1) fun r4=>
  some (!r4))) (fun x=>Pm a0 a1 x)
theorem As0 {a0 : Ar} {a1 : Ar} {r : Int} (h : Nl a0 a1 = some r) : Ctr prog 58 [.agg (Ai a0),.agg (Ai a1)] [] (ri r) []:=by
 unfold Nl at h;refine Ctr.ofW Ba func58 rfl call58 0 _ ntmps58 [.tmp 4] rfl rfl rfl (fun B=>?_);refine vs [2,3] fun _ k=>?_;push_cast;apply k;clear k;refine VC.seq ?_;refine VC.block ?_;refine vj h (fun x=>⟨[(2,.ref 0 0),(3,.ref 1 0),(5,rb x)],[(0,.box 50 (Ai a0)),(1,.box 50 (Ai a1))],11,30,0⟩) (fun v1 h hk1=>?_) ?_
 ·obtain ⟨r2,hr2,h⟩:=Aa h;refine vs [2,3,5] fun _ k=>?_;push_cast;refine cp (Iu hr2) ?_;push_cast;apply k;clear k;refine vc h (fun hb3 h=>?_) (fun hb3 h=>?_)
  ·refine VC.skip ?_;refine ar h hk1 ?_;exact sl (by push_cast [hb3])
  ·obtain ⟨r4,hr4,h⟩:=Aa h;refine vl fun _ k=>?_;push_cast;refine cp (Iu hr4) ?_;push_cast;apply k;clear k;refine ar h hk1 ?_;exact sl (by push_cast [hb3])
 ·rintro i_1 (h : Pm a0 a1 i_1 = some r);(try push_cast);unfold Pm at h;refine vc h (fun hb5 h=>?_) (fun hb5 h=>?_)
  ·refine vs [4] fun _ k=>?_;push_cast;apply k;clear k;refine VC.ret ?_;replace h:=Option.some.inj h;subst h;exact en (by push_cast [hb5])
  ·refine vs [2,3,12] fun _ k=>?_;push_cast;apply k;clear k;refine vc h (fun hb6 h=>?_) (fun hb6 h=>?_)
   ·refine vs [4] fun _ k=>?_;push_cast;apply k;clear k;refine VC.ret ?_;replace h:=Option.some.inj h;subst h;exact en (by push_cast [hb5,hb6])
   ·refine vj h (fun x=>⟨[(16,rb x)],[],29,30,0⟩) (fun v7 h hk7=>?_) ?_
    ·rcases bt (a0.Kind == a1.Kind) with hb8 | hb8
     ·replace h:=Ao hb8 h;refine vlG [some 17,some 18,some 19,some 20,some 21,some 22,some 23,some 24,some 25,some 26,some 27,some 28,some 29,some 16] fun _ k=>?_;refine Ag 8 fun _ l=>?_;push_cast [hb8];(repeat refine ao ?_);apply l;clear l;simp only [List.drop_succ_cons,List.drop_zero];push_cast [hb8];(repeat refine ao ?_);apply k;clear k;refine ar h hk7 ?_;exact sl (by push_cast [hb5,hb6,hb8])
     ·replace h:=Au hb8 h;refine vlG [some 17,some 18,some 19,some 20,some 21,some 22,some 23,some 24,some 25,some 26,some 27,some 28,some 29,some 16] fun _ k=>?_;refine Ag 8 fun _ l=>?_;push_cast [hb8];(repeat refine ao ?_);apply l;clear l;simp only [List.drop_succ_cons,List.drop_zero];push_cast [hb8];(repeat refine ao ?_);apply k;clear k;refine ar h hk7 ?_;exact sl (by push_cast [hb5,hb6,hb8])
    ·rintro i_2 (h : Pz i_2 = some r);(try push_cast);unfold Pz at h;refine vc h (fun hb9 h=>?_) (fun hb9 h=>?_)
     ·refine vs [4] fun _ k=>?_;push_cast;apply k;clear k;refine VC.ret ?_;replace h:=Option.some.inj h;subst h;exact en (by push_cast [hb5,hb6,hb9])
     ·refine VC.skip ?_;refine vs [4] fun _ k=>?_;push_cast;apply k;clear k;refine VC.ret ?_;replace h:=Option.some.inj h;subst h;exact en (by push_cast [hb5,hb6,hb9])
noncomputable def Hg (a2 : Aq) (i_1 : Bool) : Option (Int):=
  cond i_1 (
  some 9) (
  po (Fa a2 []) fun r6=>
  some r6.2)
noncomputable def Kc (a0 : Ar) (a1 : Ar) (a2 : Aq) : Option (Int):=
  po (
  cond (a0.Kind == 3) (
  some true) (
  po (Nl a0 a1) fun r3=>
  cond (r3 != 1) (
  some true) (
  some (decide (a1.Cap < a0.Cap))))) (fun x=>Hg a2 x)
theorem Gv0 {a0 : Ar} {a1 : Ar} {a2 : Aq} {r : Int} (h : Kc a0 a1 a2 = some r) : Ctr prog 23 [.agg (Ai a0),.agg (Ai a1),.agg (Ez a2)] [] (ri r) []:=by
 unfold Kc at h;refine Ctr.ofW Ba func23 rfl call23 0 _ ntmps23 [.tmp 6] rfl rfl rfl (fun B=>?_);refine vs [3,4,5] fun _ k=>?_;push_cast;apply k;clear k;refine VC.seq ?_;refine vj h (fun x=>⟨[(5,.ref 2 0),(24,rb x)],[(2,.box 56 [.sl false (a2.Fns.map Al)])],20,31,0⟩) (fun v1 h hk1=>?_) ?_
 ·rcases bt (a0.Kind == 3) with hb2 | hb2
  ·replace h:=Ao hb2 h;refine vlG [some 9,some 10,some 11,some 12,some 13,some 14,some 15,some 16,some 17,some 18,some 19,some 20,some 21,some 22,some 23,some 24] fun _ k=>?_;refine Ag 8 fun _ l=>?_;push_cast [hb2];(repeat refine ao ?_);apply l;clear l;simp only [List.drop_succ_cons,List.drop_zero];push_cast [hb2];(repeat refine ao ?_);apply k;clear k;refine ar h hk1 ?_;exact sl (by push_cast [hb2])
  ·replace h:=Au hb2 h;obtain ⟨r3,hr3,h⟩:=Aa h;rcases bt (r3 != 1) with hb4 | hb4
   ·replace h:=Ao hb4 h;refine vlG [some 9,some 10,some 11,some 12,some 13,some 14,some 15,some 16,some 17,some 18,some 19,some 20,some 21,some 22,some 23,some 24] fun _ k=>?_;refine Ag 8 fun _ l=>?_;push_cast [hb2,hb4];(repeat refine ao ?_);refine cp (As0 hr3) ?_;push_cast [hb2,hb4];(repeat refine ao ?_);apply l;clear l;simp only [List.drop_succ_cons,List.drop_zero];push_cast [hb2,hb4];(repeat refine ao ?_);apply k;clear k;refine ar h hk1 ?_;exact sl (by push_cast [hb2,hb4])
   ·replace h:=Au hb4 h;refine vlG [some 9,some 10,some 11,some 12,some 13,some 14,some 15,some 16,some 17,some 18,some 19,some 20,some 21,some 22,some 23,some 24] fun _ k=>?_;refine Ag 8 fun _ l=>?_;push_cast [hb2,hb4];(repeat refine ao ?_);refine cp (As0 hr3) ?_;push_cast [hb2,hb4];(repeat refine ao ?_);apply l;clear l;simp only [List.drop_succ_cons,List.drop_zero];push_cast [hb2,hb4];(repeat refine ao ?_);apply k;clear k;refine ar h hk1 ?_;exact sl (by push_cast [hb2,hb4])
 ·rintro i_1 (h : Hg a2 i_1 = some r);(try push_cast);unfold Hg at h;refine vc h (fun hb5 h=>?_) (fun hb5 h=>?_)
  ·refine vs [6] fun _ k=>?_;push_cast;apply k;clear k;refine VC.ret ?_;replace h:=Option.some.inj h;subst h;exact en (by push_cast [hb5])
  ·refine VC.skip ?_;obtain ⟨r6,hr6,h⟩:=Aa h;refine vs [8] fun _ k=>?_;push_cast;refine cp (Xp hr6) ?_;push_cast;apply k;clear k;refine vs [6] fun _ k=>?_;push_cast;apply k;clear k;refine VC.ret ?_;replace h:=Option.some.inj h;subst h;exact en (by push_cast [hb5])
noncomputable def En (a0 : Ap) (a1 : Ar) (a2 : Aq) : Option (Int):=
  po (Lw a0) fun r1=>
  cond (!r1) (
  some 1) (
  po (Kc a0.S a1 a2) fun r3=>
  some r3)
theorem Sl {a0 : Ap} {a1 : Ar} {a2 : Aq} {r : Int} (h : En a0 a1 a2 = some r) : Ctr prog 53 [.agg (Bb a0),.agg (Ai a1),.agg (Ez a2)] [] (ri r) []:=by
 unfold En at h;refine Ctr.ofW Ba func53 rfl call53 0 _ ntmps53 [.tmp 6] rfl rfl rfl (fun B=>?_);refine vs [3,4,5] fun _ k=>?_;push_cast;apply k;clear k;refine VC.seq ?_;obtain ⟨r1,hr1,h⟩:=Aa h;refine vs [3,4,5,9] fun _ k=>?_;push_cast;refine cp (Yc a0 hr1) ?_;push_cast;apply k;clear k;refine vc h (fun hb2 h=>?_) (fun hb2 h=>?_)
 ·refine vs [6] fun _ k=>?_;push_cast;apply k;clear k;refine VC.ret ?_;replace h:=Option.some.inj h;subst h;exact en (by push_cast [hb2])
 ·refine VC.skip ?_;obtain ⟨r3,hr3,h⟩:=Aa h;refine vs [6] fun _ k=>?_;push_cast;refine cp (Gv0 hr3) ?_;push_cast;apply k;clear k;refine VC.ret ?_;replace h:=Option.some.inj h;subst h;exact en (by push_cast [hb2])
noncomputable def Nt (i_6 : Int) (r11 : Jk) (l_16 : (List UInt32)) (i_17 : Bool) : Option (((List UInt32) × Int) ⊕ (((List UInt32)) ⊕ ((List UInt32) × Int))):=
  cond i_17 (
  some (Sum.inr (Sum.inr ([],10)))) (
  po (idx l_16 i_6) fun x15=>
  pl (l_16.set i_6.toNat r11.Ret) fun y16=>
  some (Sum.inl (y16,(IntKind.i64.wrap (i_6 + 1)))))
noncomputable def Mi (a1 : Aq) (a2 : UInt32) (a3 : (List UInt32)) (i_6 : Int) (l_7 : (List UInt32)) (i_8 : UInt32) : Option (((List UInt32) × Int) ⊕ (((List UInt32)) ⊕ ((List UInt32) × Int))):=
  po (a3[0]?) fun x9=>
  pl ((UInt32.ofInt i_6)) fun c10=>
  po (Ja a1 (Bf.mk (A4.mk a2 c10 i_8 x9) [] 0) 2000) fun r11=>
  po (
  cond (r11.Err != 0) (
  some (l_7,true)) (
  some (l_7,((r11.Ret.toNat : Int) == 4294967295)))) (fun x=>Nt i_6 r11 x.1 x.2)
noncomputable def Mg (a0 : Ar) (a1 : Aq) (a2 : UInt32) (a3 : (List UInt32)) (l_5 : (List UInt32)) (i_6 : Int) : Option (((List UInt32) × Int) ⊕ (((List UInt32)) ⊕ ((List UInt32) × Int))):=
  cond (decide (i_6 < a0.Words)) (
  po (
  cond (decide (i_6 < (a3.length : Int))) (
  po (idx a3 i_6) fun x8=>
  some (l_5,x8)) (
  some (l_5,0))) (fun x=>Mi a1 a2 a3 i_6 x.1 x.2)) (
  some (Sum.inr (Sum.inl l_5)))
noncomputable def Rv (l_15 : (List UInt32)) : Option ((List UInt32) × Int):=
  some (l_15,0)
noncomputable def Em (a0 : Ar) (a1 : Aq) (a2 : UInt32) (a3 : (List UInt32)) : Option ((List UInt32) × Int):=
  pg (0 ≤ a0.Words ∧ 4 * a0.Words ≤ 140737488355328) <|
  pl (List.replicate a0.Words.toNat 0) fun y2=>
  pm (
  lpU (fun x=>Mg a0 a1 a2 a3 x.1 x.2) (y2,0)) (fun x=>Rv x)
theorem Xq {a0 : Ar} {a1 : Aq} {a2 : UInt32} {a3 : (List UInt32)} {r : (List UInt32) × Int} (h : Em a0 a1 a2 a3 = some r) : Ctr prog 55 [.agg (Ai a0),.agg (Ez a1),ru a2,.sl false (a3.map Ax)] [] (.tup [.row 0 0 1 0 r.1.length,ri r.2]) [(0,.row 25 1 0 (r.1.map Ax))]:=by
 unfold Em at h;refine Ctr.ofW Ba func55 rfl call55 0 _ ntmps55 [.tmp 8,.tmp 9] rfl rfl rfl (fun B=>?_);refine vs [2,3,4,5] fun _ k=>?_;push_cast;apply k;clear k;obtain ⟨hg1,h⟩:=Bs h;obtain ⟨y2,hy2,h⟩:=Bo h;refine vs [2,3,4,5,10] fun _ k=>?_;push_cast [hg1];(repeat refine ao ?_);apply k;clear k;refine VC.sub (s':=⟨[(2,ru a2),(3,.sl false (a3.map Ax)),(4,.ref 0 0),(5,.ref 1 0),(10,.row 6 0 1 0 y2.length)],[(0,.box 50 (Ai a0)),(1,.box 56 [.sl false (a1.Fns.map Al)]),(6,.row 25 1 0 (y2.map Ax))],8,56,0⟩) (so (by push_cast [hy2])) ?_;refine vm h (fun x=>⟨[(10,.row 6 0 1 0 x.length)],[(6,.row 25 1 0 (x.map Ax))],54,56,0⟩) (fun v3 h hk3=>?_) ?_
 ·refine vs [2,3,5,10,18,19] fun _ k=>?_;push_cast;apply k;clear k;refine VC.block ?_;refine VC.loopP h (fun x=>⟨[(2,ru a2),(3,.sl false (a3.map Ax)),(5,.ref 1 0),(10,.row 6 0 1 0 x.1.length),(18,ri a0.Words),(19,ri x.2)],[(1,.box 56 [.sl false (a1.Fns.map Al)]),(6,.row 25 1 0 (x.1.map Ax))],53,56,0⟩) ?_ ?_
  ·exact sl (by push_cast)
  rintro ⟨l_5,i_6⟩ b4 (h : Mg a0 a1 a2 a3 l_5 i_6 = some b4) hf4;(try push_cast);unfold Mg at h;refine vs [2,3,5,10,18,19,20] fun _ k=>?_;push_cast;apply k;clear k;refine VC.seq ?_;refine vc h (fun hb5 h=>?_) (fun hb5 h=>?_)
  ·refine VC.skip ?_;refine VC.seq ?_;refine VC.block ?_;refine vs [2,3,5,10,11,18,19] fun _ k=>?_;push_cast;apply k;clear k;refine vs [2,3,5,10,11,12,18,19] fun _ k=>?_;push_cast;apply k;clear k;refine vj h (fun x=>⟨[(2,ru a2),(3,.sl false (a3.map Ax)),(5,.ref 1 0),(10,.row 6 0 1 0 x.1.length),(11,ri i_6),(12,ru x.2),(18,ri a0.Words),(19,ri i_6)],[(1,.box 56 [.sl false (a1.Fns.map Al)]),(6,.row 25 1 0 (x.1.map Ax))],66,56,0⟩) (fun v6 h hk6=>?_) ?_
   ·refine vs [2,3,5,10,11,12,18,19,25] fun _ k=>?_;push_cast;apply k;clear k;refine vc h (fun hb7 h=>?_) (fun hb7 h=>?_)
    ·obtain ⟨x8,hx8,h⟩:=Aa h;replace hx8:=Bh hx8;refine vl fun _ k=>?_;push_cast [hx8];(repeat refine ao ?_);apply k;clear k;refine ar h hk6 ?_;exact sl (by push_cast [hb5,hb7])
    ·refine VC.skip ?_;refine ar h hk6 ?_;exact sl (by push_cast [hb5,hb7])
   ·rintro ⟨l_7,i_8⟩ (h : Mi a1 a2 a3 i_6 l_7 i_8 = some b4);(try push_cast);unfold Mi at h;obtain ⟨x9,hx9,h⟩:=Aa h;replace hx9:=gL hx9;obtain ⟨c10,hc10,h⟩:=Bo h;have hc10i : (((UInt32.ofInt i_6)).toNat : Int) = (c10.toNat : Int):=by rw [hc10]
    push_cast at hc10i;obtain ⟨r11,hr11,h⟩:=Aa h;refine vsD [some 30,some 31,some 32,some 33,some 34,some 35,some 36,some 37,some 38,some 39,some 40,some 13,none] [2,3,5,10,11,13,18,19] fun _ k=>?_;refine Ch 8 fun _ l=>?_;push_cast [hx9,hc10i];(repeat refine ao ?_);apply l;clear l;simp only [List.drop_succ_cons,List.drop_zero];push_cast [hx9,hc10i];(repeat refine ao ?_);refine cpD (Gt0 hr11) ?_;push_cast [hx9,hc10i];(repeat refine ao ?_);refine ⟨rfl,k _ ?_⟩;clear k;refine VC.seq ?_;refine vj h (fun x=>⟨[(2,ru a2),(3,.sl false (a3.map Ax)),(5,.ref 1 0),(10,.row 6 0 1 0 x.1.length),(11,ri i_6),(13,.ref 77 0),(18,ri a0.Words),(19,ri i_6),(48,rb x.2)],[(1,.box 56 [.sl false (a1.Fns.map Al)]),(6,.row 25 1 0 (x.1.map Ax)),(77,.box 162 (Xc r11))],87,56,0⟩) (fun v12 h hk12=>?_) ?_
    ·rcases bt (r11.Err != 0) with hb13 | hb13
     ·replace h:=Ao hb13 h;refine vlG [some 41,some 42,some 43,some 44,some 45,some 46,some 47,some 48] fun _ k=>?_;push_cast [hb13];(repeat refine ao ?_);apply k;clear k;refine ar h hk12 ?_;exact sl (by push_cast [hb5,hc10i,hb13])
     ·replace h:=Au hb13 h;refine vlG [some 41,some 42,some 43,some 44,some 45,some 46,some 47,some 48] fun _ k=>?_;push_cast [hb13];(repeat refine ao ?_);apply k;clear k;refine ar h hk12 ?_;exact sl (by push_cast [hb5,hc10i,hb13])
    ·rintro ⟨l_16,i_17⟩ (h : Nt i_6 r11 l_16 i_17 = some b4);(try push_cast);unfold Nt at h;refine vc h (fun hb14 h=>?_) (fun hb14 h=>?_)
     ·refine vs [8,9] fun _ k=>?_;push_cast;apply k;clear k;refine VC.ret ?_;replace h:=ol h hf4;replace h:=om h hk3;replace h:=Option.some.inj h;subst h;refine Cg (so (s':=⟨[(8,.sl true []),(9,ri 10)],[],89,56,0⟩) (by push_cast [hb5,hc10i,hb14])) ?_;refine Cg (Sub.adoptT (k:=8) (e:=25) (sz:=1) rfl) ?_;refine Cg (Sub.renT (k:=8) (i':=0) rfl rfl (Nat.le_of_ble_eq_true rfl) (Nat.le_of_ble_eq_true rfl) rfl) ?_;exact en (by push_cast [hb5,hc10i,hb14])
     ·refine VC.skip ?_;obtain ⟨x15,hx15,h⟩:=Aa h;replace hx15:=Bh hx15;obtain ⟨y16,hy16,h⟩:=Bo h;have hy16l : y16.length = l_16.length:=by rw [hy16,List.length_set]
      refine vl fun _ k=>?_;push_cast [hx15];(repeat refine ao ?_);apply k;clear k;refine vl fun _ k=>?_;push_cast;apply k;clear k;refine bk h ?_;exact sl (by push_cast [hb5,hc10i,hb14,hy16,hy16l])
  ·refine VC.exit ?_;replace h:=ol h hf4;refine am h hk3 ?_;exact sl (by push_cast [hb5])
 ·rintro l_15 (h : Rv l_15 = some r);(try push_cast);unfold Rv at h;refine vs [8,9] fun _ k=>?_;push_cast;apply k;clear k;refine VC.ret ?_;replace h:=Option.some.inj h;subst h;refine Cg (so (s':=⟨[(8,.row 6 0 1 0 l_15.length),(9,ri 0)],[(6,.row 25 1 0 (l_15.map Ax))],57,56,0⟩) (by push_cast)) ?_;refine Cg (Sub.renT (k:=8) (i':=0) rfl rfl (Nat.le_of_ble_eq_true rfl) (Nat.le_of_ble_eq_true rfl) rfl) ?_;exact en (by push_cast)
noncomputable def Mp (a0 : Ap) (a1 : Ar) (a2 : Aq) (s_1 : Ap) (i_2 : Int) : Option ((Ap × Int) ⊕ ((Ap) ⊕ (Ap × Int))):=
  cond (decide (i_2 < (a0.E.length : Int))) (
  po (idx a0.E i_2) fun x9=>
  po (Em a1 a2 x9.Key x9.V) fun r10=>
  cond (r10.2 != 0) (
  some (Sum.inr (Sum.inr ((Ap.mk (Ar.mk 0 0 0 0) [] 0),r10.2)))) (
  pg ((s_1.E.length + 1) * 32 ≤ 140737488355328) <|
  pl (s_1.E ++ ([(Bd.mk x9.Key r10.1)])) fun y13=>
  some (Sum.inl ((Ap.mk s_1.S y13 s_1.Next),(IntKind.i64.wrap (i_2 + 1)))))) (
  some (Sum.inr (Sum.inl s_1)))
noncomputable def Pi (y5 : (List Bd)) (s_5 : Ap) : Option (Ap × Int):=
  pg ((s_5.E.length + y5.length) * 32 ≤ 140737488355328) <|
  pl (s_5.E ++ y5) fun y15=>
  some ((Ap.mk s_5.S y15 s_5.Next),0)
noncomputable def Qg (a0 : Ap) (a1 : Ar) (a2 : Aq) : Option (Ap × Int):=
  po (En a0 a1 a2) fun r1=>
  cond (r1 != 0) (
  some ((Ap.mk (Ar.mk 0 0 0 0) [] 0),r1)) (
  po (Od a1) fun r3=>
  pg (0 ≤ (minI (a0.E.length : Int) (r3.1.E.length : Int)) ∧ (minI (a0.E.length : Int) (r3.1.E.length : Int)) ≤ (r3.1.E.length : Int) ∧ (r3.1.E.length : Int) ≤ (r3.1.E.length : Int)) <|
  pl ((r3.1.E.drop ((minI (a0.E.length : Int) (r3.1.E.length : Int)).toNat))) fun y5=>
  pm (
  lpU (fun x=>Mp a0 a1 a2 x.1 x.2) ((Ap.mk r3.1.S [] r3.1.Next),0)) (fun x=>Pi y5 x))
theorem Fa0 {a0 : Ap} {a1 : Ar} {a2 : Aq} {r : Ap × Int} (h : Qg a0 a1 a2 = some r) : Ctr prog 21 [.agg (Bb a0),.agg (Ai a1),.agg (Ez a2)] [] (.tup [.agg [ri r.1.S.Kind,ri r.1.S.Cap,ri r.1.S.Words,ri r.1.S.Ver,.row 0 0 2 0 r.1.E.length,ru r.1.Next],ri r.2]) [(0,.row 66 2 0 (r.1.E.map Av))]:=by
 unfold Qg at h;refine Ctr.ofW Ba func21 rfl call21 0 _ ntmps21 [.cell 6 53,.tmp 7] rfl rfl rfl (fun B=>?_);refine vs [3,4,5,6] fun _ k=>?_;push_cast;apply k;clear k;refine VC.seq ?_;obtain ⟨r1,hr1,h⟩:=Aa h;refine vs [3,4,5,6,8] fun _ k=>?_;push_cast;refine cp (Sl hr1) ?_;push_cast;apply k;clear k;refine vs [3,4,5,6,8,21] fun _ k=>?_;push_cast;apply k;clear k;refine vc h (fun hb2 h=>?_) (fun hb2 h=>?_)
 ·refine vs [6,7] fun _ k=>?_;push_cast;apply k;clear k;refine VC.ret ?_;replace h:=Option.some.inj h;subst h;refine Cg (so (s':=⟨[(6,.ref 3 0),(7,ri r1)],[(3,.box 53 [ri 0,ri 0,ri 0,ri 0,.sl true [],.raw (.int .u32 0)])],16,77,0⟩) (by push_cast [hb2])) ?_;refine Cg (Sub.adopt (b:=3) (j:=4) (e:=66) (sz:=2) rfl rfl) ?_;refine Cg (Sub.renB (b:=3) (j:=4) (i':=0) rfl rfl rfl (Nat.le_of_ble_eq_true rfl) (Nat.le_of_ble_eq_true rfl) rfl) ?_;exact en (by push_cast [hb2])
 ·refine VC.skip ?_;obtain ⟨r3,hr3,h⟩:=Aa h;refine vs [3,4,5,6,9] fun _ k=>?_;push_cast;refine cp (Cz0 a1 hr3) ?_;push_cast;apply k;clear k;obtain ⟨hg4,h⟩:=Bs h;obtain ⟨y5,hy5,h⟩:=Bo h;refine vs [3,4,5,6,9,11] fun _ k=>?_;refine Ag 8 fun _ l=>?_;push_cast [hg4];(repeat refine ao ?_);apply l;clear l;simp only [List.drop_succ_cons,List.drop_zero];push_cast [hg4];(repeat refine ao ?_);apply k;clear k;refine VC.sub (s':=⟨[(3,.ref 0 0),(4,.ref 1 0),(5,.ref 2 0),(6,.ref 3 0),(9,.ref 17 0),(11,.sl false (y5.map Av))],[(0,.box 53 (Bb a0)),(1,.box 50 (Ai a1)),(2,.box 56 [.sl false (a2.Fns.map Al)]),(3,.box 53 [ri 0,ri 0,ri 0,ri 0,.sl true [],.raw (.int .u32 0)]),(17,.box 53 (Bb r3.1))],31,77,0⟩) (so (by push_cast [hb2,hy5])) ?_;refine vs [3,4,5,6,9,11] fun _ k=>?_;push_cast;apply k;clear k;refine vm h (fun x=>⟨[(6,.ref 3 0),(9,.ref 17 0),(11,.sl false (y5.map Av))],[(3,.box 53 [ri 0,ri 0,ri 0,ri 0,.sl true [],.raw (.int .u32 0)]),(17,.box 53 [ri x.S.Kind,ri x.S.Cap,ri x.S.Words,ri x.S.Ver,.row 63 0 2 0 x.E.length,ru x.Next]),(63,.row 66 2 0 (x.E.map Av))],69,77,0⟩) (fun v6 h hk6=>?_) ?_
  ·refine vs [4,5,6,9,11,41,42,43] fun _ k=>?_;push_cast;apply k;clear k;refine VC.block ?_;refine VC.loopP h (fun x=>⟨[(4,.ref 1 0),(5,.ref 2 0),(6,.ref 3 0),(9,.ref 17 0),(11,.sl false (y5.map Av)),(41,.sl false (a0.E.map Av)),(42,ri (a0.E.length : Int)),(43,ri x.2)],[(1,.box 50 (Ai a1)),(2,.box 56 [.sl false (a2.Fns.map Al)]),(3,.box 53 [ri 0,ri 0,ri 0,ri 0,.sl true [],.raw (.int .u32 0)]),(17,.box 53 [ri x.1.S.Kind,ri x.1.S.Cap,ri x.1.S.Words,ri x.1.S.Ver,.row 63 0 2 0 x.1.E.length,ru x.1.Next]),(63,.row 66 2 0 (x.1.E.map Av))],68,77,0⟩) ?_ ?_
   ·refine Sub.trans (so (s':=⟨[(4,.ref 1 0),(5,.ref 2 0),(6,.ref 3 0),(9,.ref 17 0),(11,.sl false (y5.map Av)),(41,.sl false (a0.E.map Av)),(42,ri (a0.E.length : Int)),(43,ri 0)],[(1,.box 50 (Ai a1)),(2,.box 56 [.sl false (a2.Fns.map Al)]),(3,.box 53 [ri 0,ri 0,ri 0,ri 0,.sl true [],.raw (.int .u32 0)]),(17,.box 53 [ri r3.1.S.Kind,ri r3.1.S.Cap,ri r3.1.S.Words,ri r3.1.S.Ver,.sl true [],ru r3.1.Next])],37,77,0⟩) (by push_cast [hb2])) ?_;refine Sub.trans (Sub.adopt (b:=17) (j:=4) (e:=66) (sz:=2) rfl rfl) ?_;refine Sub.trans (Sub.renB (b:=17) (j:=4) (i':=63) rfl rfl rfl (Nat.le_of_ble_eq_true rfl) (Nat.le_of_ble_eq_true rfl) rfl) ?_;exact so (by push_cast [hb2])
   rintro ⟨s_1,i_2⟩ b7 (h : Mp a0 a1 a2 s_1 i_2 = some b7) hf7;(try push_cast);unfold Mp at h;refine vs [4,5,6,9,11,41,42,43,44] fun _ k=>?_;push_cast;apply k;clear k;refine VC.seq ?_;refine vc h (fun hb8 h=>?_) (fun hb8 h=>?_)
   ·refine VC.skip ?_;refine VC.seq ?_;refine VC.block ?_;obtain ⟨x9,hx9,h⟩:=Aa h;replace hx9:=Bh hx9;refine vs [4,5,6,9,11,13,41,42,43] fun _ k=>?_;push_cast [hx9];(repeat refine ao ?_);apply k;clear k;obtain ⟨r10,hr10,h⟩:=Aa h;refine vs [4,5,6,9,11,13,14,15,41,42,43] fun _ k=>?_;refine Ag 8 fun _ l=>?_;push_cast;refine ch (H:=[]) (Ctr.loH (Ctr.ren (Bij.swp 0 79 Bij.id) (Xq hr10) (by push_cast) (by push_cast))) (by push_cast) ?_;push_cast;apply l;clear l;simp only [List.drop_succ_cons,List.drop_zero];push_cast;apply k;clear k;refine VC.sub (s':=⟨[(4,.ref 1 0),(5,.ref 2 0),(6,.ref 3 0),(9,.ref 17 0),(11,.sl false (y5.map Av)),(13,.ref 71 0),(14,.row 79 0 1 0 r10.1.length),(15,ri r10.2),(41,.sl false (a0.E.map Av)),(42,ri (a0.E.length : Int)),(43,ri i_2)],[(1,.box 50 (Ai a1)),(2,.box 56 [.sl false (a2.Fns.map Al)]),(3,.box 53 [ri 0,ri 0,ri 0,ri 0,.sl true [],.raw (.int .u32 0)]),(17,.box 53 [ri s_1.S.Kind,ri s_1.S.Cap,ri s_1.S.Words,ri s_1.S.Ver,.row 63 0 2 0 s_1.E.length,ru s_1.Next]),(63,.row 66 2 0 (s_1.E.map Av)),(71,.box 66 (Av x9)),(79,.row 25 1 0 (r10.1.map Ax))],85,77,0⟩) (so (by push_cast [hb2,hb8])) ?_;refine VC.seq ?_;refine vs [4,5,6,9,11,13,14,15,41,42,43,58] fun _ k=>?_;push_cast;apply k;clear k;refine vc h (fun hb11 h=>?_) (fun hb11 h=>?_)
    ·refine vs [6,7] fun _ k=>?_;push_cast;apply k;clear k;refine VC.ret ?_;replace h:=ol h hf7;replace h:=om h hk6;replace h:=Option.some.inj h;subst h;refine Cg (so (s':=⟨[(6,.ref 3 0),(7,ri r10.2)],[(3,.box 53 [ri 0,ri 0,ri 0,ri 0,.sl true [],.raw (.int .u32 0)])],91,77,0⟩) (by push_cast [hb2,hb8,hb11])) ?_;refine Cg (Sub.adopt (b:=3) (j:=4) (e:=66) (sz:=2) rfl rfl) ?_;refine Cg (Sub.renB (b:=3) (j:=4) (i':=0) rfl rfl rfl (Nat.le_of_ble_eq_true rfl) (Nat.le_of_ble_eq_true rfl) rfl) ?_;exact en (by push_cast [hb2,hb8,hb11])
    ·refine VC.skip ?_;obtain ⟨hg12,h⟩:=Bs h;obtain ⟨y13,hy13,h⟩:=Bo h;refine vl fun _ k=>?_;push_cast [hg12];(repeat refine ao ?_);apply k;clear k;refine vl fun _ k=>?_;push_cast;apply k;clear k;refine bk h ?_;refine Sub.trans (so (s':=⟨[(4,.ref 1 0),(5,.ref 2 0),(6,.ref 3 0),(9,.ref 17 0),(11,.sl false (y5.map Av)),(41,.sl false (a0.E.map Av)),(42,ri (a0.E.length : Int)),(43,ri (IntKind.i64.wrap (i_2 + 1)))],[(1,.box 50 (Ai a1)),(2,.box 56 [.sl false (a2.Fns.map Al)]),(3,.box 53 [ri 0,ri 0,ri 0,ri 0,.sl true [],.raw (.int .u32 0)]),(17,.box 53 [ri s_1.S.Kind,ri s_1.S.Cap,ri s_1.S.Words,ri s_1.S.Ver,.row 63 1 2 0 y13.length,ru s_1.Next]),(63,.row 66 2 1 (y13.map Av))],99,77,0⟩) (by push_cast [hb2,hb8,hb11,hy13])) ?_;refine Sub.trans (Sub.renB (b:=17) (j:=4) (i':=63) rfl rfl rfl (Nat.le_of_ble_eq_true rfl) (Nat.le_of_ble_eq_true rfl) rfl) ?_;exact so (by push_cast [hb2,hb8,hb11,hy13])
   ·refine VC.exit ?_;replace h:=ol h hf7;refine am h hk6 ?_;exact so (by push_cast [hb2,hb8])
  ·rintro s_5 (h : Pi y5 s_5 = some r);(try push_cast);unfold Pi at h;obtain ⟨hg14,h⟩:=Bs h;obtain ⟨y15,hy15,h⟩:=Bo h;refine vs [6,9] fun _ k=>?_;push_cast [hg14];(repeat refine ao ?_);apply k;clear k;refine VC.sub (s':=⟨[(6,.ref 3 0),(9,.ref 17 0)],[(3,.box 53 [ri 0,ri 0,ri 0,ri 0,.sl true [],.raw (.int .u32 0)]),(17,.box 53 [ri s_5.S.Kind,ri s_5.S.Cap,ri s_5.S.Words,ri s_5.S.Ver,.row 63 1 2 0 y15.length,ru s_5.Next]),(63,.row 66 2 1 (y15.map Av))],75,77,0⟩) (so (by push_cast [hb2,hy15])) ?_;refine vs [6,7] fun _ k=>?_;push_cast;apply k;clear k;refine VC.ret ?_;replace h:=Option.some.inj h;subst h;refine Cg (so (s':=⟨[(6,.ref 3 0),(7,ri 0)],[(3,.box 53 [ri s_5.S.Kind,ri s_5.S.Cap,ri s_5.S.Words,ri s_5.S.Ver,.row 63 1 2 0 y15.length,ru s_5.Next]),(63,.row 66 2 1 (y15.map Av))],78,77,0⟩) (by push_cast [hb2])) ?_;refine Cg (Sub.renB (b:=3) (j:=4) (i':=0) rfl rfl rfl (Nat.le_of_ble_eq_true rfl) (Nat.le_of_ble_eq_true rfl) rfl) ?_;exact en (by push_cast [hb2])
noncomputable def Pg (a0 : Ar) (a1 : Aq) (a2 : UInt32) (a3 : (List UInt32)) (i_1 : Bool) : Option ((List UInt32) × Int):=
  cond i_1 (
  some ([],1)) (
  po (Fa a1 []) fun r5=>
  cond (r5.2 != 0) (
  some ([],r5.2)) (
  po (Em a0 a1 a2 a3) fun r7=>
  some (r7.1,r7.2)))
noncomputable def Sn (a0 : Ar) (a1 : Aq) (a2 : UInt32) (a3 : (List UInt32)) : Option ((List UInt32) × Int):=
  po (
  po (Ee a0) fun r2=>
  cond r2 (
  some ((a3.length : Int) == 0)) (
  some true)) (fun x=>Pg a0 a1 a2 a3 x)
theorem Hb0 {a0 : Ar} {a1 : Aq} {a2 : UInt32} {a3 : (List UInt32)} {r : (List UInt32) × Int} (h : Sn a0 a1 a2 a3 = some r) : Ctr prog 24 [.agg (Ai a0),.agg (Ez a1),ru a2,.sl false (a3.map Ax)] [] (.tup [.row 0 0 1 0 r.1.length,ri r.2]) [(0,.row 25 1 0 (r.1.map Ax))]:=by
 unfold Sn at h;refine Ctr.ofW Ba func24 rfl call24 0 _ ntmps24 [.tmp 8,.tmp 9] rfl rfl rfl (fun B=>?_);refine vs [2,3,4,5] fun _ k=>?_;push_cast;apply k;clear k;refine VC.seq ?_;refine vj h (fun x=>⟨[(2,ru a2),(3,.sl false (a3.map Ax)),(4,.ref 0 0),(5,.ref 1 0),(19,rb x)],[(0,.box 50 (Ai a0)),(1,.box 56 [.sl false (a1.Fns.map Al)])],12,35,0⟩) (fun v1 h hk1=>?_) ?_
 ·obtain ⟨r2,hr2,h⟩:=Aa h;rcases bt r2 with hb3 | hb3
  ·replace h:=Ao hb3 h;refine vlG [some 12,some 13,some 14,some 15,some 16,some 17,some 18,some 19] fun _ k=>?_;push_cast [hb3];(repeat refine ao ?_);refine cp (Iu hr2) ?_;push_cast [hb3];(repeat refine ao ?_);apply k;clear k;refine ar h hk1 ?_;exact sl (by push_cast [hb3])
  ·replace h:=Au hb3 h;refine vlG [some 12,some 13,some 14,some 15,some 16,some 17,some 18,some 19] fun _ k=>?_;push_cast [hb3];(repeat refine ao ?_);refine cp (Iu hr2) ?_;push_cast [hb3];(repeat refine ao ?_);apply k;clear k;refine ar h hk1 ?_;exact sl (by push_cast [hb3])
 ·rintro i_1 (h : Pg a0 a1 a2 a3 i_1 = some r);(try push_cast);unfold Pg at h;refine vc h (fun hb4 h=>?_) (fun hb4 h=>?_)
  ·refine vs [8,9] fun _ k=>?_;push_cast;apply k;clear k;refine VC.ret ?_;replace h:=Option.some.inj h;subst h;refine Cg (so (s':=⟨[(8,.sl true []),(9,ri 1)],[],14,35,0⟩) (by push_cast [hb4])) ?_;refine Cg (Sub.adoptT (k:=8) (e:=25) (sz:=1) rfl) ?_;refine Cg (Sub.renT (k:=8) (i':=0) rfl rfl (Nat.le_of_ble_eq_true rfl) (Nat.le_of_ble_eq_true rfl) rfl) ?_;exact en (by push_cast [hb4])
  ·refine VC.skip ?_;refine VC.seq ?_;obtain ⟨r5,hr5,h⟩:=Aa h;refine vs [2,3,4,5,11] fun _ k=>?_;push_cast;refine cp (Xp hr5) ?_;push_cast;apply k;clear k;refine vs [2,3,4,5,11,26] fun _ k=>?_;push_cast;apply k;clear k;refine vc h (fun hb6 h=>?_) (fun hb6 h=>?_)
   ·refine vs [8,9] fun _ k=>?_;push_cast;apply k;clear k;refine VC.ret ?_;replace h:=Option.some.inj h;subst h;refine Cg (so (s':=⟨[(8,.sl true []),(9,ri r5.2)],[],24,35,0⟩) (by push_cast [hb4,hb6])) ?_;refine Cg (Sub.adoptT (k:=8) (e:=25) (sz:=1) rfl) ?_;refine Cg (Sub.renT (k:=8) (i':=0) rfl rfl (Nat.le_of_ble_eq_true rfl) (Nat.le_of_ble_eq_true rfl) rfl) ?_;exact en (by push_cast [hb4,hb6])
   ·refine VC.skip ?_;obtain ⟨r7,hr7,h⟩:=Aa h;refine vs [8,9] fun _ k=>?_;push_cast;refine ch (H:=[]) (Ctr.loH (Ctr.ren (Bij.swp 0 25 Bij.id) (Xq hr7) (by push_cast) (by push_cast))) (by push_cast) ?_;push_cast;apply k;clear k;refine VC.sub (s':=⟨[(8,.row 25 0 1 0 r7.1.length),(9,ri r7.2)],[(25,.row 25 1 0 (r7.1.map Ax))],30,35,0⟩) (so (by push_cast [hb4,hb6])) ?_;refine VC.ret ?_;replace h:=Option.some.inj h;subst h;refine Cg (so (s':=⟨[(8,.row 25 0 1 0 r7.1.length),(9,ri r7.2)],[(25,.row 25 1 0 (r7.1.map Ax))],30,35,0⟩) (by push_cast [hb4,hb6])) ?_;refine Cg (Sub.renT (k:=8) (i':=0) rfl rfl (Nat.le_of_ble_eq_true rfl) (Nat.le_of_ble_eq_true rfl) rfl) ?_;exact en (by push_cast [hb4,hb6])
noncomputable def Jm (i_1 : Bool) : Option (Bool):=
  some i_1
noncomputable def Gw : Option (Bool):=
  po (Sn (Ar.mk 1 1 3 0) (Aq.mk ([(Cv.mk 0 ([(Am.mk 2 0 0 0 false 0 2),(Am.mk 7 0 0 0 false 0 0)]))])) 7 ([4,5])) fun r1=>
  po (Qg (Ap.mk (Ar.mk 1 1 1 0) ([(Bd.mk 9 ([6]))]) 0) (Ar.mk 1 2 2 1) (Aq.mk ([(Cv.mk 0 ([(Am.mk 2 0 0 0 false 0 2),(Am.mk 7 0 0 0 false 0 0)]))]))) fun r2=>
  po (
  cond (r1.2 == 0) (
  po (Gm r1.1 ([4,5,0])) fun r5=>
  cond r5 (
  cond (r2.2 == 0) (
  cond ((r2.1.E.length : Int) == 1) (
  po (r2.1.E[0]?) fun x9=>
  po (Gm x9.V ([6,0])) fun r10=>
  some r10) (
  some false)) (
  some false)) (
  some false)) (
  some false)) (fun x=>Jm x)
theorem Zf {r : Bool} (h : Gw = some r) : Ctr prog 19 [] [] (rb r) []:=by
 unfold Gw at h;refine Ctr.ofW Ba func19 rfl call19 0 _ ntmps19 [.tmp 0] rfl rfl rfl (fun B=>?_);refine vs [] fun _ k=>?_;push_cast;apply k;clear k;refine vs [1] fun _ k=>?_;push_cast;apply k;clear k;refine VC.sub (s':=⟨[(1,.ref 7 0)],[(5,.row 71 2 0 (([(Cv.mk 0 ([(Am.mk 2 0 0 0 false 0 2),(Am.mk 7 0 0 0 false 0 0)]))]).map Al)),(7,.box 56 [.row 5 0 2 0 1])],9,56,0⟩) (so (by push_cast)) ?_;refine VC.sub (Sub.freeze prog (b:=7) (j:=0) rfl rfl rfl (by push_cast <;> omega) (by decide)) ?_;refine VC.sub (s':=⟨[(1,.ref 7 0)],[(7,.box 56 [.sl false (([(Cv.mk 0 ([(Am.mk 2 0 0 0 false 0 2),(Am.mk 7 0 0 0 false 0 0)]))]).map Al)])],9,56,0⟩) (so (by push_cast)) ?_;obtain ⟨r1,hr1,h⟩:=Aa h;refine vs [1,2,3] fun _ k=>?_;push_cast;refine ch (H:=[(11,.row 25 1 0 (([4,5]).map Ax))]) (Ctr.consume (args0:=[.agg [ri 1,ri 1,ri 3,ri 0],.agg [.sl false (([(Cv.mk 0 ([(Am.mk 2 0 0 0 false 0 2),(Am.mk 7 0 0 0 false 0 0)]))]).map Al)],.raw (.int .u32 7),.sl false (([4,5]).map Ax)]) (Ctr.ren (Bij.swp 0 12 Bij.id) (Hb0 hr1) (by push_cast) (by push_cast)) (by push_cast) rfl) (by push_cast) ?_;push_cast;apply k;clear k;refine VC.sub (s':=⟨[(1,.ref 7 0),(2,.row 12 0 1 0 r1.1.length),(3,ri r1.2)],[(7,.box 56 [.sl false (([(Cv.mk 0 ([(Am.mk 2 0 0 0 false 0 2),(Am.mk 7 0 0 0 false 0 0)]))]).map Al)]),(12,.row 25 1 0 (r1.1.map Ax))],18,56,0⟩) (so (by push_cast)) ?_;obtain ⟨r2,hr2,h⟩:=Aa h;refine vs [2,3,4,5] fun _ k=>?_;refine Ag 8 fun _ l=>?_;push_cast;refine ch (H:=[(21,.row 66 2 0 (([(Bd.mk 9 ([6]))]).map Av))]) (Ctr.consume (args0:=[.agg [ri 1,ri 1,ri 1,ri 0,.sl false (([(Bd.mk 9 ([6]))]).map Av),.raw (.int .u32 0)],.agg [ri 1,ri 2,ri 2,ri 1],.agg [.sl false (([(Cv.mk 0 ([(Am.mk 2 0 0 0 false 0 2),(Am.mk 7 0 0 0 false 0 0)]))]).map Al)]]) (Ctr.ren (Bij.swp 0 25 Bij.id) (Fa0 hr2) (by push_cast) (by push_cast)) (by push_cast) rfl) (by push_cast) ?_;push_cast;apply l;clear l;simp only [List.drop_succ_cons,List.drop_zero];push_cast;apply k;clear k;refine VC.sub (s':=⟨[(2,.row 12 0 1 0 r1.1.length),(3,ri r1.2),(4,.ref 29 0),(5,ri r2.2)],[(12,.row 25 1 0 (r1.1.map Ax)),(25,.row 66 2 0 (r2.1.E.map Av)),(29,.box 53 [ri r2.1.S.Kind,ri r2.1.S.Cap,ri r2.1.S.Words,ri r2.1.S.Ver,.row 25 0 2 0 r2.1.E.length,ru r2.1.Next])],32,56,0⟩) (so (by push_cast)) ?_;refine vj h (fun x=>⟨[(0,rb x)],[],59,56,0⟩) (fun v3 h hk3=>?_) ?_
 ·rcases bt (r1.2 == 0) with hb4 | hb4
  ·replace h:=Ao hb4 h;obtain ⟨r5,hr5,h⟩:=Aa h;rcases bt r5 with hb6 | hb6
   ·replace h:=Ao hb6 h;rcases bt (r2.2 == 0) with hb7 | hb7
    ·replace h:=Ao hb7 h;rcases bt ((r2.1.E.length : Int) == 1) with hb8 | hb8
     ·replace h:=Ao hb8 h;obtain ⟨x9,hx9,h⟩:=Aa h;replace hx9:=gL hx9;obtain ⟨r10,hr10,h⟩:=Aa h;refine vlG [some 30,some 31,some 32,some 33,some 34,some 35,some 36,some 37,some 38,some 39,some 40,some 41,some 42,some 43,some 44,some 45,some 46,some 47,some 48,some 49,some 50,some 51,some 52,some 53,some 54,some 55,some 0] fun _ k=>?_;refine Ag 8 fun _ l=>?_;push_cast [hb4,hb6,hb7,hb8,hx9];(repeat refine ao ?_);refine ch (H:=[(12,.row 25 1 0 (r1.1.map Ax)),(36,.row 25 1 0 (([4,5,0]).map Ax))]) (H':=_) (Ctr.borrow (Jb hr5) (by push_cast [hb4,hb6,hb7,hb8,hx9]) rfl) (by push_cast [hb4,hb6,hb7,hb8,hx9]) ?_;push_cast [hb4,hb6,hb7,hb8,hx9];(repeat refine ao ?_);apply l;clear l;simp only [List.drop_succ_cons,List.drop_zero];refine Ag 8 fun _ l=>?_;push_cast [hb4,hb6,hb7,hb8,hx9];(repeat refine ao ?_);apply l;clear l;simp only [List.drop_succ_cons,List.drop_zero];refine Ag 8 fun _ l=>?_;push_cast [hb4,hb6,hb7,hb8,hx9];(repeat refine ao ?_);apply l;clear l;simp only [List.drop_succ_cons,List.drop_zero];push_cast [hb4,hb6,hb7,hb8,hx9];(repeat refine ao ?_);refine ch (H:=[(55,.row 25 1 0 (([6,0]).map Ax))]) (H':=_) (Ctr.borrow (Jb hr10) (by push_cast [hb4,hb6,hb7,hb8,hx9]) rfl) (by push_cast [hb4,hb6,hb7,hb8,hx9]) ?_;push_cast [hb4,hb6,hb7,hb8,hx9];(repeat refine ao ?_);apply k;clear k;refine ar h hk3 ?_;exact sl (by push_cast [hb4,hb6,hb7,hb8])
     ·replace h:=Au hb8 h;refine vlG [some 30,some 31,some 32,some 33,some 34,some 35,some 36,some 37,some 38,some 39,some 40,some 41,some 42,some 43,some 44,some 45,some 46,some 47,some 48,some 49,some 50,some 51,some 52,some 53,some 54,some 55,some 0] fun _ k=>?_;refine Ag 8 fun _ l=>?_;push_cast [hb4,hb6,hb7,hb8];(repeat refine ao ?_);refine ch (H:=[(12,.row 25 1 0 (r1.1.map Ax)),(36,.row 25 1 0 (([4,5,0]).map Ax))]) (H':=_) (Ctr.borrow (Jb hr5) (by push_cast [hb4,hb6,hb7,hb8]) rfl) (by push_cast [hb4,hb6,hb7,hb8]) ?_;push_cast [hb4,hb6,hb7,hb8];(repeat refine ao ?_);apply l;clear l;simp only [List.drop_succ_cons,List.drop_zero];refine Ag 8 fun _ l=>?_;push_cast [hb4,hb6,hb7,hb8];(repeat refine ao ?_);apply l;clear l;simp only [List.drop_succ_cons,List.drop_zero];refine Ag 8 fun _ l=>?_;push_cast [hb4,hb6,hb7,hb8];(repeat refine ao ?_);apply l;clear l;simp only [List.drop_succ_cons,List.drop_zero];push_cast [hb4,hb6,hb7,hb8];(repeat refine ao ?_);apply k;clear k;refine ar h hk3 ?_;exact sl (by push_cast [hb4,hb6,hb7,hb8])
    ·replace h:=Au hb7 h;refine vlG [some 30,some 31,some 32,some 33,some 34,some 35,some 36,some 37,some 38,some 39,some 40,some 41,some 42,some 43,some 44,some 45,some 46,some 47,some 48,some 49,some 50,some 51,some 52,some 53,some 54,some 55,some 0] fun _ k=>?_;refine Ag 8 fun _ l=>?_;push_cast [hb4,hb6,hb7];(repeat refine ao ?_);refine ch (H:=[(12,.row 25 1 0 (r1.1.map Ax)),(36,.row 25 1 0 (([4,5,0]).map Ax))]) (H':=_) (Ctr.borrow (Jb hr5) (by push_cast [hb4,hb6,hb7]) rfl) (by push_cast [hb4,hb6,hb7]) ?_;push_cast [hb4,hb6,hb7];(repeat refine ao ?_);apply l;clear l;simp only [List.drop_succ_cons,List.drop_zero];refine Ag 8 fun _ l=>?_;push_cast [hb4,hb6,hb7];(repeat refine ao ?_);apply l;clear l;simp only [List.drop_succ_cons,List.drop_zero];refine Ag 8 fun _ l=>?_;push_cast [hb4,hb6,hb7];(repeat refine ao ?_);apply l;clear l;simp only [List.drop_succ_cons,List.drop_zero];push_cast [hb4,hb6,hb7];(repeat refine ao ?_);apply k;clear k;refine ar h hk3 ?_;exact sl (by push_cast [hb4,hb6,hb7])
   ·replace h:=Au hb6 h;refine vlG [some 30,some 31,some 32,some 33,some 34,some 35,some 36,some 37,some 38,some 39,some 40,some 41,some 42,some 43,some 44,some 45,some 46,some 47,some 48,some 49,some 50,some 51,some 52,some 53,some 54,some 55,some 0] fun _ k=>?_;refine Ag 8 fun _ l=>?_;push_cast [hb4,hb6];(repeat refine ao ?_);refine ch (H:=[(12,.row 25 1 0 (r1.1.map Ax)),(36,.row 25 1 0 (([4,5,0]).map Ax))]) (H':=_) (Ctr.borrow (Jb hr5) (by push_cast [hb4,hb6]) rfl) (by push_cast [hb4,hb6]) ?_;push_cast [hb4,hb6];(repeat refine ao ?_);apply l;clear l;simp only [List.drop_succ_cons,List.drop_zero];refine Ag 8 fun _ l=>?_;push_cast [hb4,hb6];(repeat refine ao ?_);apply l;clear l;simp only [List.drop_succ_cons,List.drop_zero];refine Ag 8 fun _ l=>?_;push_cast [hb4,hb6];(repeat refine ao ?_);apply l;clear l;simp only [List.drop_succ_cons,List.drop_zero];push_cast [hb4,hb6];(repeat refine ao ?_);apply k;clear k;refine ar h hk3 ?_;exact sl (by push_cast [hb4,hb6])
  ·replace h:=Au hb4 h;refine vlG [some 30,some 31,some 32,some 33,some 34,some 35,some 36,some 37,some 38,some 39,some 40,some 41,some 42,some 43,some 44,some 45,some 46,some 47,some 48,some 49,some 50,some 51,some 52,some 53,some 54,some 55,some 0] fun _ k=>?_;refine Ag 8 fun _ l=>?_;push_cast [hb4];(repeat refine ao ?_);apply l;clear l;simp only [List.drop_succ_cons,List.drop_zero];refine Ag 8 fun _ l=>?_;push_cast [hb4];(repeat refine ao ?_);apply l;clear l;simp only [List.drop_succ_cons,List.drop_zero];refine Ag 8 fun _ l=>?_;push_cast [hb4];(repeat refine ao ?_);apply l;clear l;simp only [List.drop_succ_cons,List.drop_zero];push_cast [hb4];(repeat refine ao ?_);apply k;clear k;refine ar h hk3 ?_;exact sl (by push_cast [hb4])
 ·rintro i_1 (h : Jm i_1 = some r);(try push_cast);unfold Jm at h;refine VC.ret ?_;replace h:=Option.some.inj h;subst h;exact en (by push_cast)
def itF {σ ρ : Type} (step : σ → Option (σ ⊕ ρ)) (s : σ) : Option ρ:=iterU step 5000 s
def Le {α : Type} (x y : Option α) : Prop:=∀ r,x = some r → y = some r
section
variable {α β γ σ ρ : Type}
theorem Le.refl (x : Option α) : Le x x:=fun _ h=>h
theorem Le.po {x x' : Option α} {k k' : α → Option β} (hx : Le x x') (hk : ∀ a,Le (k a) (k' a)) : Le (po x k) (po x' k'):=by
  intro r h
  obtain ⟨a,h1,h2⟩:=Aa h
  rw [hx a h1]
  exact hk a r h2
theorem Le.pl {x : α} {k k' : α → Option β} (hk : ∀ a,Le (k a) (k' a)) : Le (pl x k) (pl x k'):=hk x
theorem Le.pg {c : Prop} [Decidable c] {k k' : Option β} (hk : Le k k') : Le (pg c k) (pg c k'):=by
  intro r h
  obtain ⟨h1,h2⟩:=Bs h
  rw [Ep h1]
  exact hk r h2
theorem Le.cond {c : Bool} {a a' b b' : Option α} (ha : Le a a') (hb : Le b b') : Le (cond c a b) (cond c a' b'):=by
  cases c
  · exact hb
  · exact ha
theorem Le.pm {x x' : Option (α ⊕ β)} {k k' : α → Option β} (hx : Le x x') (hk : ∀ a,Le (k a) (k' a)) : Le (pm x k) (pm x' k'):=by
  intro r h
  cases hq : x with
  | none=>rw [hq] at h; cases h
  | some v=>
    rw [hx v hq]
    rw [hq] at h
    cases v with
    | inl a=>exact hk a r h
    | inr b=>exact h
theorem Le.pq {x x' : Option (α ⊕ β)} {k k' : α → Option γ} {kr kr' : β → Option γ} (hx : Le x x') (hk : ∀ a,Le (k a) (k' a)) (hr : ∀ a,Le (kr a) (kr' a)) : Le (pq x k kr) (pq x' k' kr'):=by
  intro r h
  cases hq : x with
  | none=>rw [hq] at h; cases h
  | some v=>
    rw [hx v hq]
    rw [hq] at h
    cases v with
    | inl a=>exact hk a r h
    | inr b=>exact hr b r h
theorem Le.iter {st st' : σ → Option (σ ⊕ ρ)} (h : ∀ s,Le (st s) (st' s)) : ∀ (n : Nat) (s : σ) (r : ρ),iterU st n s = some r → iterU st' n s = some r
  | 0,s,r,hr=>by cases hr
  | n + 1,s,r,hr=>by
    simp only [iterU] at hr ⊢
    split at hr
    · cases hr
    · rename_i s' hs
      rw [h s _ hs]
      exact Le.iter h n s' r hr
    · rename_i b hs
      rw [h s _ hs]
      exact hr
theorem Le.lp {st st' : σ → Option (σ ⊕ ρ)} {s : σ} (h : ∀ s,Le (st s) (st' s)) : Le (itF st s) (lpU st' s):=fun r hr=>lpU_some.2 ⟨5000,Le.iter h _ s r hr⟩
theorem Le.itU {st st' : σ → α → Option (σ ⊕ ρ)} {l : List α} {s : σ} (h : ∀ s u,Le (st s u) (st' s u)) : Le (itU st l s) (itU st' l s):=by
  intro r hr
  induction l generalizing s with
  | nil=>exact hr
  | cons u l ih=>
    simp only [Go.Proofs.YtcffmheeofjifaaGreat.itU] at hr ⊢
    split at hr
    · cases hr
    · rename_i s' hs
      rw [h s u _ hs]
      exact ih hr
    · rename_i b hs
      rw [h s u _ hs]
      exact hr
end
noncomputable def Eb (a0 : (List Am)) : Option (Int):=
  pm (
  itF (fun x=>Bl a0 x) 0) (fun x=>Ca)
theorem Lm (a0 : (List Am)) : Le (Eb a0) (Ce a0):=by
  unfold Eb Ce
  repeat' with_reducible first | (intro _) | apply Le.pm | apply Le.lp | exact Le.refl _
noncomputable def Dt (a0 : (List Am)) : Option (Bool):=
  po (Eb a0) fun r1=>
  some (decide (r1 ≥ 0))
theorem Kk (a0 : (List Am)) : Le (Dt a0) (Bn a0):=by
  unfold Dt Bn
  repeat' with_reducible first | (intro _) | apply Lm | apply Le.po | exact Le.refl _
noncomputable def Yb (a0 : Cv) : Option (Bool):=
  po (
  cond (decide (a0.Args ≥ 0)) (
  cond (decide (a0.Args ≤ 4)) (
  cond (decide ((a0.Code.length : Int) > 0)) (
  cond (decide ((a0.Code.length : Int) ≤ 64)) (
  po (Dt a0.Code) fun r6=>
  some (!r6)) (
  some false)) (
  some false)) (
  some false)) (
  some false)) (fun x=>Oz x)
theorem Eo0 (a0 : Cv) : Le (Yb a0) (Lv a0):=by
  unfold Yb Lv
  repeat' with_reducible first | (intro _) | apply Kk | apply Le.po | apply Le.cond | exact Le.refl _
noncomputable def Xh (a0 : Cv) : Option (Bool):=
  po (Yb a0) fun r1=>
  some (!r1)
theorem Dx0 (a0 : Cv) : Le (Xh a0) (Ox a0):=by
  unfold Xh Ox
  repeat' with_reducible first | (intro _) | apply Eo0 | apply Le.po | exact Le.refl _
noncomputable def Ei (a0 : (List Cv)) (i_1 : Int) : Option ((Int) ⊕ ((Unit) ⊕ (Int))):=
  cond (decide (i_1 < (a0.length : Int))) (
  po (idx a0 i_1) fun x4=>
  po (Xh x4) fun r5=>
  cond r5 (
  some (Sum.inr (Sum.inr i_1))) (
  some (Sum.inl (IntKind.i64.wrap (i_1 + 1))))) (
  some (Sum.inr (Sum.inl ())))
theorem Lz (a0 : (List Cv)) (i_1 : Int) : Le (Ei a0 i_1) (Bj a0 i_1):=by
  unfold Ei Bj
  repeat' with_reducible first | (intro _) | apply Dx0 | apply Le.po | apply Le.cond | exact Le.refl _
noncomputable def Er (a0 : (List Cv)) : Option (Int):=
  pm (
  itF (fun x=>Ei a0 x) 0) (fun x=>Cj)
theorem Nd (a0 : (List Cv)) : Le (Er a0) (Cp a0):=by
  unfold Er Cp
  repeat' with_reducible first | (intro _) | apply Lz | apply Le.pm | apply Le.lp | exact Le.refl _
noncomputable def Ej (a0 : (List Cv)) : Option (Bool):=
  po (Er a0) fun r1=>
  some (decide (r1 ≥ 0))
theorem Me (a0 : (List Cv)) : Le (Ej a0) (Bw a0):=by
  unfold Ej Bw
  repeat' with_reducible first | (intro _) | apply Nd | apply Le.po | exact Le.refl _
noncomputable def Wn (a0 : Aq) (i_1 : Bool) : Option (Bool):=
  cond i_1 (
  some false) (
  po (Ej a0.Fns) fun r6=>
  some (!r6))
theorem Di0 (a0 : Aq) (i_1 : Bool) : Le (Wn a0 i_1) (Jg a0 i_1):=by
  unfold Wn Jg
  repeat' with_reducible first | (intro _) | apply Me | apply Le.po | apply Le.cond | exact Le.refl _
noncomputable def Ve (a0 : Aq) : Option (Bool):=
  po (
  cond ((a0.Fns.length : Int) == 0) (
  some true) (
  cond (decide ((a0.Fns.length : Int) > 8)) (
  some true) (
  po (a0.Fns[0]?) fun x4=>
  some (x4.Args != 0)))) (fun x=>Wn a0 x)
theorem Wo (a0 : Aq) : Le (Ve a0) (Iv a0):=by
  unfold Ve Iv
  repeat' with_reducible first | (intro _) | apply Di0 | apply Le.po | apply Le.cond | exact Le.refl _
noncomputable def Di (a0 : (List Ar)) : Option (Int):=
  pm (
  itF (fun x=>Bk a0 x) 0) (fun x=>Cq)
theorem Je (a0 : (List Ar)) : Le (Di a0) (Bp a0):=by
  unfold Di Bp
  repeat' with_reducible first | (intro _) | apply Le.pm | apply Le.lp | exact Le.refl _
noncomputable def Dg (a0 : (List Ar)) : Option (Bool):=
  po (Di a0) fun r1=>
  some (decide (r1 ≥ 0))
theorem Ik (a0 : (List Ar)) : Le (Dg a0) (Bg a0):=by
  unfold Dg Bg
  repeat' with_reducible first | (intro _) | apply Je | apply Le.po | exact Le.refl _
noncomputable def Vs (a0 : Int) (i_1 : Bool) : Option (Ak × Bool):=
  cond i_1 (
  some ((Ak.mk (A8.mk false false false false false false false false) (A8.mk (C128.mk 0 0) (C128.mk 0 0) (C128.mk 0 0) (C128.mk 0 0) (C128.mk 0 0) (C128.mk 0 0) (C128.mk 0 0) (C128.mk 0 0))),false)) (
  po (
  itF (fun x=>Pd a0 x.1 x.2) ((Ak.mk (A8.mk false false false false false false false false) (A8.mk (C128.mk 0 0) (C128.mk 0 0) (C128.mk 0 0) (C128.mk 0 0) (C128.mk 0 0) (C128.mk 0 0) (C128.mk 0 0) (C128.mk 0 0))),0)) (fun x=>Sd x))
theorem Cq0 (a0 : Int) (i_1 : Bool) : Le (Vs a0 i_1) (Ly a0 i_1):=by
  unfold Vs Ly
  repeat' with_reducible first | (intro _) | apply Le.po | apply Le.cond | apply Le.lp | exact Le.refl _
noncomputable def Xw (a0 : Int) : Option (Ak × Bool):=
  po (
  cond (decide (a0 < 0)) (
  some true) (
  some (decide (a0 > 4)))) (fun x=>Vs a0 x)
theorem Ei0 (a0 : Int) : Le (Xw a0) (Oa a0):=by
  unfold Xw Oa
  repeat' with_reducible first | (intro _) | apply Cq0 | apply Le.po | apply Le.cond | exact Le.refl _
noncomputable def Oe (a0 : Ak) : Option (Bool):=
  pm (
  itF (fun x=>Ow a0 x.1 x.2) (a0,0)) (fun x=>Ry a0 x)
theorem Rx (a0 : Ak) : Le (Oe a0) (Gl a0):=by
  unfold Oe Gl
  repeat' with_reducible first | (intro _) | apply Le.pm | apply Le.lp | exact Le.refl _
noncomputable def Vw (a0 : Ak) (a1 : Int) (a2 : C128) : Option (Ak):=
  pm (
  po (Oe a0) fun r2=>
  cond (!r2) (
  some (Sum.inr (Ak.mk (A8.mk false false false false false false false false) (A8.mk (C128.mk 0 0) (C128.mk 0 0) (C128.mk 0 0) (C128.mk 0 0) (C128.mk 0 0) (C128.mk 0 0) (C128.mk 0 0) (C128.mk 0 0))))) (
  po (Nv a1) fun r4=>
  cond (!r4) (
  some (Sum.inr a0)) (
  po (Iy a2) fun r6=>
  cond (!r6) (
  po (Nz) fun r8=>
  some (Sum.inl r8)) (
  some (Sum.inl a2))))) (fun x=>Pf a0 a1 x)
theorem Yw (a0 : Ak) (a1 : Int) (a2 : C128) : Le (Vw a0 a1 a2) (Ip a0 a1 a2):=by
  unfold Vw Ip
  repeat' with_reducible first | (intro _) | apply Rx | apply Le.po | apply Le.cond | apply Le.pm | exact Le.refl _
noncomputable def Sz (a0 : Ak) (a1 : Ak) (s_4 : Ak) (i_5 : Int) (i_6 : Bool) : Option (Ak):=
  cond i_6 (
  pg (0 ≤ i_5 ∧ i_5 < 8) <|
  po (Ni (a0.R.get i_5.toNat) (a1.R.get i_5.toNat)) fun r15=>
  po (Vw s_4 i_5 r15) fun r16=>
  some r16) (
  some s_4)
theorem Bv0 (a0 : Ak) (a1 : Ak) (s_4 : Ak) (i_5 : Int) (i_6 : Bool) : Le (Sz a0 a1 s_4 i_5 i_6) (Jr a0 a1 s_4 i_5 i_6):=by
  unfold Sz Jr
  repeat' with_reducible first | (intro _) | apply Yw | apply Le.po | apply Le.cond | apply Le.pg | exact Le.refl _
noncomputable def Uo (a0 : Ak) (a1 : Ak) (s_4 : Ak) (i_5 : Int) : Option ((Ak × Int) ⊕ (Ak)):=
  cond (decide (i_5 < 8)) (
  po (
  po (
  pg (0 ≤ i_5 ∧ i_5 < 8) <|
  cond (a0.Set.get i_5.toNat) (
  some (a1.Set.get i_5.toNat)) (
  some false)) (fun x=>Sz a0 a1 s_4 i_5 x)) (fun x=>Nr i_5 x)) (
  some (Sum.inr s_4))
theorem Ca0 (a0 : Ak) (a1 : Ak) (s_4 : Ak) (i_5 : Int) : Le (Uo a0 a1 s_4 i_5) (Ku a0 a1 s_4 i_5):=by
  unfold Uo Ku
  repeat' with_reducible first | (intro _) | apply Bv0 | apply Le.po | apply Le.cond | apply Le.pg | exact Le.refl _
noncomputable def Vc (a0 : Ak) (a1 : Ak) (i_1 : Bool) : Option (Ak):=
  cond i_1 (
  some (Ak.mk (A8.mk false false false false false false false false) (A8.mk (C128.mk 0 0) (C128.mk 0 0) (C128.mk 0 0) (C128.mk 0 0) (C128.mk 0 0) (C128.mk 0 0) (C128.mk 0 0) (C128.mk 0 0)))) (
  po (
  itF (fun x=>Uo a0 a1 x.1 x.2) ((Ak.mk (A8.mk false false false false false false false false) (A8.mk (C128.mk 0 0) (C128.mk 0 0) (C128.mk 0 0) (C128.mk 0 0) (C128.mk 0 0) (C128.mk 0 0) (C128.mk 0 0) (C128.mk 0 0))),0)) (fun x=>Qv x))
theorem Cf0 (a0 : Ak) (a1 : Ak) (i_1 : Bool) : Le (Vc a0 a1 i_1) (Kq a0 a1 i_1):=by
  unfold Vc Kq
  repeat' with_reducible first | (intro _) | apply Ca0 | apply Le.po | apply Le.cond | apply Le.lp | exact Le.refl _
noncomputable def Xg (a0 : Ak) (a1 : Ak) : Option (Ak):=
  po (
  po (Oe a0) fun r2=>
  cond r2 (
  po (Oe a1) fun r4=>
  some (!r4)) (
  some true)) (fun x=>Vc a0 a1 x)
theorem Du0 (a0 : Ak) (a1 : Ak) : Le (Xg a0 a1) (Mt a0 a1):=by
  unfold Xg Mt
  repeat' with_reducible first | (intro _) | apply Rx | apply Cf0 | apply Le.po | apply Le.cond | exact Le.refl _
noncomputable def Qd (a0 : Ac) (a1 : Int) (a2 : Ak) : Option (Ac):=
  cond (decide (a1 ≥ (a0.in_.length : Int))) (
  some (Ac.mk a0.p a0.fn a0.l a0.in_ a0.is a0.at_ false)) (
  po (idx a0.is a1) fun x2=>
  cond x2 (
  po (idx a0.in_ a1) fun x4=>
  po (Xg x4 a2) fun r5=>
  pl (a0.in_.set a1.toNat r5) fun y6=>
  some (Ac.mk a0.p a0.fn a0.l y6 a0.is a0.at_ a0.safe)) (
  po (idx a0.in_ a1) fun x7=>
  pl (a0.in_.set a1.toNat a2) fun y8=>
  pl (a0.is.set a1.toNat true) fun y9=>
  some (Ac.mk a0.p a0.fn a0.l y8 y9 a0.at_ a0.safe)))
theorem Vf (a0 : Ac) (a1 : Int) (a2 : Ak) : Le (Qd a0 a1 a2) (Eo a0 a1 a2):=by
  unfold Qd Eo
  repeat' with_reducible first | (intro _) | apply Du0 | apply Le.po | apply Le.cond | apply Le.pl | exact Le.refl _
def Xb (a0 : Ac) (a1 : Am) : Option (Ac):=none
theorem Ar0 (a0 : Ac) (a1 : Am) : Le (Xb a0 a1) (Jd a0 a1):=fun _ h=>by cases h
def Wd (a0 : Ac) (a1 : Am) : Option (Ac):=none
theorem Yn (a0 : Ac) (a1 : Am) : Le (Wd a0 a1) (Ie a0 a1):=fun _ h=>by cases h
noncomputable def Vy (a0 : Ak) (a1 : Int) : Option (C128 × Bool):=
  po (
  po (Oe a0) fun r2=>
  cond r2 (
  po (Nv a1) fun r4=>
  cond r4 (
  pg (0 ≤ a1 ∧ a1 < 8) <|
  some (!(a0.Set.get a1.toNat))) (
  some true)) (
  some true)) (fun x=>Ou a0 a1 x)
theorem Yl (a0 : Ak) (a1 : Int) : Le (Vy a0 a1) (Jv a0 a1):=by
  unfold Vy Jv
  repeat' with_reducible first | (intro _) | apply Rx | apply Le.po | apply Le.cond | apply Le.pg | exact Le.refl _
noncomputable def Um (a0 : Ak) (a1 : Am) (i_1 : Bool) : Option (C128 × Bool):=
  cond i_1 (
  some ((C128.mk 0 0),false)) (
  cond a1.Reg (
  po (Vy a0 a1.Src) fun r7=>
  some (r7.1,r7.2)) (
  po (Io a1.Imm a1.Imm) fun r8=>
  some (r8,true)))
theorem Bx0 (a0 : Ak) (a1 : Am) (i_1 : Bool) : Le (Um a0 a1 i_1) (Lc a0 a1 i_1):=by
  unfold Um Lc
  repeat' with_reducible first | (intro _) | apply Yl | apply Le.po | apply Le.cond | exact Le.refl _
noncomputable def Xj (a0 : Ak) (a1 : Am) : Option (C128 × Bool):=
  po (
  po (Oe a0) fun r2=>
  cond (!r2) (
  some (!r2)) (
  po (Jy a1) fun r4=>
  some (!r4))) (fun x=>Um a0 a1 x)
theorem Dr0 (a0 : Ak) (a1 : Am) : Le (Xj a0 a1) (Mv a0 a1):=by
  unfold Xj Mv
  repeat' with_reducible first | (intro _) | apply Rx | apply Bx0 | apply Le.po | apply Le.cond | exact Le.refl _
noncomputable def Ro (a0 : Ac) (a1 : Am) : Option (C128 × Ac):=
  po (Cu a0) fun r1=>
  pg (r1.2 = a0) <|
  po (Xj r1.1 a1) fun r3=>
  po (
  cond a0.safe (
  some (Ac.mk a0.p a0.fn a0.l a0.in_ a0.is a0.at_ r3.2)) (
  some (Ac.mk a0.p a0.fn a0.l a0.in_ a0.is a0.at_ false))) (fun x=>Kp r3 x)
theorem Yy (a0 : Ac) (a1 : Am) : Le (Ro a0 a1) (Dl a0 a1):=by
  unfold Ro Dl
  repeat' with_reducible first | (intro _) | apply Dr0 | apply Le.po | apply Le.cond | apply Le.pg | exact Le.refl _
noncomputable def Rj (a0 : Ac) (a1 : Ak) : Option (Ac):=
  cond a0.safe (
  po (Qd a0 (IntKind.i64.wrap (a0.at_ + 1)) a1) fun r2=>
  some r2) (
  some a0)
theorem Ym (a0 : Ac) (a1 : Ak) : Le (Rj a0 a1) (Dx a0 a1):=by
  unfold Rj Dx
  repeat' with_reducible first | (intro _) | apply Vf | apply Le.po | apply Le.cond | exact Le.refl _
noncomputable def Sk (a0 : Ac) (a1 : Int) (a2 : C128) : Option (Ac):=
  po (Cu a0) fun r1=>
  pg (r1.2 = a0) <|
  po (Vw r1.1 a1 a2) fun r3=>
  po (Rj a0 r3) fun r4=>
  some r4
theorem An0 (a0 : Ac) (a1 : Int) (a2 : C128) : Le (Sk a0 a1 a2) (Es a0 a1 a2):=by
  unfold Sk Es
  repeat' with_reducible first | (intro _) | apply Yw | apply Ym | apply Le.po | apply Le.pg | exact Le.refl _
noncomputable def Sg (a0 : Ac) (a1 : Am) : Option (Ac):=
  po (Ro a0 a1) fun r1=>
  po (Du r1.2 r1.1 4) fun r2=>
  po (Io 0 4294967295) fun r3=>
  po (Sk r2 a1.Dst r3) fun r4=>
  some r4
theorem Zy (a0 : Ac) (a1 : Am) : Le (Sg a0 a1) (Ha a0 a1):=by
  unfold Sg Ha
  repeat' with_reducible first | (intro _) | apply Yy | apply An0 | apply Le.po | exact Le.refl _
def We (a0 : Ac) (a1 : Am) : Option (Ac):=none
theorem Yf (a0 : Ac) (a1 : Am) : Le (We a0 a1) (Hx a0 a1):=fun _ h=>by cases h
def Vk (a0 : Ac) (a1 : Am) : Option (Ac):=none
theorem Xv (a0 : Ac) (a1 : Am) : Le (Vk a0 a1) (Hm a0 a1):=fun _ h=>by cases h
def Wb (a0 : Ac) (a1 : Am) : Option (Ac):=none
theorem Yj (a0 : Ac) (a1 : Am) : Le (Wb a0 a1) (Hv a0 a1):=fun _ h=>by cases h
def Wi (a0 : Ac) (a1 : Am) : Option (Ac):=none
theorem Yo (a0 : Ac) (a1 : Am) : Le (Wi a0 a1) (Ii a0 a1):=fun _ h=>by cases h
noncomputable def Si (a0 : Ac) (a1 : Int) : Option (C128 × Ac):=
  po (Cu a0) fun r1=>
  pg (r1.2 = a0) <|
  po (Vy r1.1 a1) fun r3=>
  po (
  cond a0.safe (
  some (Ac.mk a0.p a0.fn a0.l a0.in_ a0.is a0.at_ r3.2)) (
  some (Ac.mk a0.p a0.fn a0.l a0.in_ a0.is a0.at_ false))) (fun x=>Iw r3 x)
theorem Zv (a0 : Ac) (a1 : Int) : Le (Si a0 a1) (Db a0 a1):=by
  unfold Si Db
  repeat' with_reducible first | (intro _) | apply Yl | apply Le.po | apply Le.cond | apply Le.pg | exact Le.refl _
noncomputable def Rh (a0 : Ac) (a1 : Am) : Option (Ac):=
  po (Si a0 0) fun r1=>
  some r1.2
theorem Ys (a0 : Ac) (a1 : Am) : Le (Rh a0 a1) (Gf a0 a1):=by
  unfold Rh Gf
  repeat' with_reducible first | (intro _) | apply Zv | apply Le.po | exact Le.refl _
noncomputable def Ql (x10 : Cv) (s_4 : Ac) (i_5 : Int) : Option ((Ac × Int) ⊕ ((Ac) ⊕ ((List Ak) × (List Bool) × Int))):=
  cond (decide (i_5 < (x10.Code.length : Int))) (
  po (idx x10.Code i_5) fun x22=>
  po (
  po (idx s_4.is i_5) fun x24=>
  cond x24 (
  cond (x22.Op == 0) (
  po (Xb (Ac.mk s_4.p s_4.fn s_4.l s_4.in_ s_4.is i_5 s_4.safe) x22) fun r27=>
  some r27) (
  cond (x22.Op == 1) (
  po (Wd (Ac.mk s_4.p s_4.fn s_4.l s_4.in_ s_4.is i_5 s_4.safe) x22) fun r29=>
  some r29) (
  cond (x22.Op == 2) (
  po (Sg (Ac.mk s_4.p s_4.fn s_4.l s_4.in_ s_4.is i_5 s_4.safe) x22) fun r31=>
  some r31) (
  cond (x22.Op == 3) (
  po (We (Ac.mk s_4.p s_4.fn s_4.l s_4.in_ s_4.is i_5 s_4.safe) x22) fun r33=>
  some r33) (
  cond (x22.Op == 4) (
  po (Vk (Ac.mk s_4.p s_4.fn s_4.l s_4.in_ s_4.is i_5 s_4.safe) x22) fun r35=>
  some r35) (
  cond (x22.Op == 5) (
  po (Wb (Ac.mk s_4.p s_4.fn s_4.l s_4.in_ s_4.is i_5 s_4.safe) x22) fun r37=>
  some r37) (
  cond (x22.Op == 6) (
  po (Wi (Ac.mk s_4.p s_4.fn s_4.l s_4.in_ s_4.is i_5 s_4.safe) x22) fun r39=>
  some r39) (
  cond (x22.Op == 7) (
  po (Rh (Ac.mk s_4.p s_4.fn s_4.l s_4.in_ s_4.is i_5 s_4.safe) x22) fun r41=>
  some r41) (
  none))))))))) (
  some (Ac.mk s_4.p s_4.fn s_4.l s_4.in_ s_4.is i_5 s_4.safe))) (fun x=>Jn i_5 x)) (
  some (Sum.inr (Sum.inl s_4)))
theorem Xs (x10 : Cv) (s_4 : Ac) (i_5 : Int) : Le (Ql x10 s_4 i_5) (Hj x10 s_4 i_5):=by
  unfold Ql Hj
  repeat' with_reducible first | (intro _) | apply Ar0 | apply Yn | apply Zy | apply Yf | apply Xv | apply Yj | apply Yo | apply Ys | apply Le.po | apply Le.cond | exact Le.refl _
noncomputable def Rr (a0 : Aq) (a1 : Int) (a2 : (List Ar)) (i_2 : Bool) : Option ((List Ak) × (List Bool) × Int):=
  cond i_2 (
  some ([],[],3)) (
  po (idx a0.Fns a1) fun x10=>
  pg (0 ≤ (x10.Code.length : Int) ∧ 136 * (x10.Code.length : Int) ≤ 140737488355328) <|
  pl (List.replicate x10.Code.length (Ak.mk (A8.mk false false false false false false false false) (A8.mk (C128.mk 0 0) (C128.mk 0 0) (C128.mk 0 0) (C128.mk 0 0) (C128.mk 0 0) (C128.mk 0 0) (C128.mk 0 0) (C128.mk 0 0)))) fun y12=>
  pg (0 ≤ (x10.Code.length : Int) ∧ 1 * (x10.Code.length : Int) ≤ 140737488355328) <|
  pl (List.replicate x10.Code.length false) fun y14=>
  po (Xw x10.Args) fun r15=>
  po (Qd (Ac.mk a0 a1 a2 y12 y14 0 true) 0 r15.1) fun r16=>
  po (some ()) fun r18=>
  pm (
  itF (fun x=>Ql x10 x.1 x.2) (r16,0)) (fun x=>My x))
theorem Yd (a0 : Aq) (a1 : Int) (a2 : (List Ar)) (i_2 : Bool) : Le (Rr a0 a1 a2 i_2) (Ih a0 a1 a2 i_2):=by
  unfold Rr Ih
  repeat' with_reducible first | (intro _) | apply Ei0 | apply Vf | apply Xs | apply Le.po | apply Le.cond | apply Le.pl | apply Le.pg | apply Le.pm | apply Le.lp | exact Le.refl _
noncomputable def Rf (a0 : Aq) (a1 : Int) (a2 : (List Ar)) (i_1 : Bool) : Option ((List Ak) × (List Bool) × Int):=
  cond i_1 (
  some ([],[],1)) (
  po (
  cond (decide (a1 < 0)) (
  some (decide (a1 < 0))) (
  some (decide (a1 ≥ (a0.Fns.length : Int))))) (fun x=>Rr a0 a1 a2 x))
theorem Yg (a0 : Aq) (a1 : Int) (a2 : (List Ar)) (i_1 : Bool) : Le (Rf a0 a1 a2 i_1) (Hy a0 a1 a2 i_1):=by
  unfold Rf Hy
  repeat' with_reducible first | (intro _) | apply Yd | apply Le.po | apply Le.cond | exact Le.refl _
noncomputable def Un (a0 : Aq) (a1 : Int) (a2 : (List Ar)) : Option ((List Ak) × (List Bool) × Int):=
  po (
  po (Ve a0) fun r2=>
  cond (!r2) (
  some (!r2)) (
  cond (decide ((a2.length : Int) > 4)) (
  some (decide ((a2.length : Int) > 4))) (
  po (Dg a2) fun r5=>
  some r5))) (fun x=>Rf a0 a1 a2 x)
theorem Ci0 (a0 : Aq) (a1 : Int) (a2 : (List Ar)) : Le (Un a0 a1 a2) (Ir a0 a1 a2):=by
  unfold Un Ir
  repeat' with_reducible first | (intro _) | apply Wo | apply Ik | apply Yg | apply Le.po | apply Le.cond | exact Le.refl _
noncomputable def Ur (a0 : Aq) (a1 : Int) : Option (Bool):=
  po (idx a0.Fns a1) fun x1=>
  pm (
  itF (fun x=>Kh a0 x1 x) 0) (fun x=>Ny)
theorem Cm0 (a0 : Aq) (a1 : Int) : Le (Ur a0 a1) (Ix a0 a1):=by
  unfold Ur Ix
  repeat' with_reducible first | (intro _) | apply Le.po | apply Le.pm | apply Le.lp | exact Le.refl _
noncomputable def Rk (a0 : Aq) (a1 : (List Ar)) (i_1 : Int) : Option ((Int) ⊕ ((Unit) ⊕ (Int × Int))):=
  cond (decide (i_1 < (maxI 1 (a0.Fns.length : Int)))) (
  po (Un a0 i_1 a1) fun r4=>
  cond (r4.2.2 != 0) (
  some (Sum.inr (Sum.inr (0,r4.2.2)))) (
  po (Ur a0 i_1) fun r6=>
  cond (!r6) (
  some (Sum.inr (Sum.inr (0,8)))) (
  some (Sum.inl (IntKind.i64.wrap (i_1 + 1)))))) (
  some (Sum.inr (Sum.inl ())))
theorem Yk (a0 : Aq) (a1 : (List Ar)) (i_1 : Int) : Le (Rk a0 a1 i_1) (Ib a0 a1 i_1):=by
  unfold Rk Ib
  repeat' with_reducible first | (intro _) | apply Ci0 | apply Cm0 | apply Le.po | apply Le.cond | exact Le.refl _
noncomputable def Dz (a0 : (List Am)) : Option (Int):=
  pm (
  itF (fun x=>Bi a0 x) 0) (fun x=>Cl)
theorem Lh (a0 : (List Am)) : Le (Dz a0) (Cc a0):=by
  unfold Dz Cc
  repeat' with_reducible first | (intro _) | apply Le.pm | apply Le.lp | exact Le.refl _
noncomputable def Dq (a0 : (List Am)) : Option (Bool):=
  po (Dz a0) fun r1=>
  some (decide (r1 ≥ 0))
theorem Jz (a0 : (List Am)) : Le (Dq a0) (Bx a0):=by
  unfold Dq Bx
  repeat' with_reducible first | (intro _) | apply Lh | apply Le.po | exact Le.refl _
noncomputable def Xd (a0 : (List Am)) : Option (Bool):=
  po (
  cond (decide ((a0.length : Int) > 0)) (
  cond (decide ((a0.length : Int) ≤ 64)) (
  po (Dq a0) fun r4=>
  some (!r4)) (
  some false)) (
  some false)) (fun x=>Nw x)
theorem Dp0 (a0 : (List Am)) : Le (Xd a0) (Mm a0):=by
  unfold Xd Mm
  repeat' with_reducible first | (intro _) | apply Jz | apply Le.po | apply Le.cond | exact Le.refl _
noncomputable def Qm (a0 : (List Am)) (a1 : (List Int)) (w_27 : (AN 65)) (i_28 : Int) : Option (((AN 65) × Int) ⊕ (Int)):=
  po (
  po (Nn a0 i_28) fun r5=>
  itF (fun x=>Jp a0 w_27 r5 x.1 x.2.1 x.2.2) (0,r5,0)) (fun x=>Jo a0 a1 w_27 i_28 x)
theorem Xu (a0 : (List Am)) (a1 : (List Int)) (w_27 : (AN 65)) (i_28 : Int) : Le (Qm a0 a1 w_27 i_28) (Fo a0 a1 w_27 i_28):=by
  unfold Qm Fo
  repeat' with_reducible first | (intro _) | apply Le.po | apply Le.lp | exact Le.refl _
noncomputable def Sy (a0 : (List Am)) (a1 : (List Int)) : Option (Int):=
  po (Xd a0) fun r1=>
  cond (!r1) (
  some 0) (
  itF (fun x=>Qm a0 a1 x.1 x.2) ((AN.zero 65),(IntKind.i64.wrap ((a0.length : Int) - 1))))
theorem Bn0 (a0 : (List Am)) (a1 : (List Int)) : Le (Sy a0 a1) (Hr a0 a1):=by
  unfold Sy Hr
  repeat' with_reducible first | (intro _) | apply Dp0 | apply Xu | apply Le.po | apply Le.cond | apply Le.lp | exact Le.refl _
noncomputable def Re (a0 : Aq) (l_4 : (List Int)) (u6 : Int) : Option (((List Int)) ⊕ (Unit)):=
  po (idx a0.Fns u6) fun x8=>
  po (Sy x8.Code l_4) fun r9=>
  po (idx l_4 u6) fun x10=>
  pl (l_4.set u6.toNat r9) fun y11=>
  some (Sum.inl y11)
theorem Yr (a0 : Aq) (l_4 : (List Int)) (u6 : Int) : Le (Re a0 l_4 u6) (Gg a0 l_4 u6):=by
  unfold Re Gg
  repeat' with_reducible first | (intro _) | apply Bn0 | apply Le.po | apply Le.pl | exact Le.refl _
noncomputable def Uq (a0 : Aq) : Option (Int):=
  po (Ve a0) fun r1=>
  cond (!r1) (
  some 0) (
  pg (0 ≤ (a0.Fns.length : Int) ∧ 8 * (a0.Fns.length : Int) ≤ 140737488355328) <|
  pl (List.replicate a0.Fns.length 0) fun y4=>
  po (
  pq (itU (fun x u=>Re a0 x u) (backL a0.Fns) y4) (fun x=>Np x) (fun _=>none)) (fun x=>Kb x))
theorem Ce0 (a0 : Aq) : Le (Uq a0) (Iq a0):=by
  unfold Uq Iq
  repeat' with_reducible first | (intro _) | apply Wo | apply Yr | apply Le.po | apply Le.cond | apply Le.pl | apply Le.pg | apply Le.pq | apply Le.itU | exact Le.refl _
noncomputable def Rs (a0 : Aq) : Option (Int × Int):=
  po (Uq a0) fun r8=>
  cond (decide (r8 > 2000)) (
  some (0,2)) (
  some (r8,0))
theorem Yu (a0 : Aq) : Le (Rs a0) (Hu a0):=by
  unfold Rs Hu
  repeat' with_reducible first | (intro _) | apply Ce0 | apply Le.po | apply Le.cond | exact Le.refl _
noncomputable def Qo (a0 : Aq) (a1 : (List Ar)) : Option (Int × Int):=
  pm (
  itF (fun x=>Rk a0 a1 x) 0) (fun x=>Rs a0)
theorem Wg (a0 : Aq) (a1 : (List Ar)) : Le (Qo a0 a1) (Fa a0 a1):=by
  unfold Qo Fa
  repeat' with_reducible first | (intro _) | apply Yk | apply Yu | apply Le.pm | apply Le.lp | exact Le.refl _
noncomputable def Su (r1 : (List Ap)) (s_18 : Bf) (i_19 : Int) : Option ((Bf × Int) ⊕ (Bf)):=
  cond (decide (i_19 < (r1.length : Int))) (
  po (
  po (idx s_18.T i_19) fun x6=>
  po (Cn x6.E) fun r7=>
  po (
  itF (fun x=>Mu r7 x.1 x.2.1 x.2.2) (s_18,(Ap.mk x6.S r7 x6.Next),0)) (fun x=>Pn i_19 x.1 x.2)) (fun x=>Pv i_19 x)) (
  some (Sum.inr s_18))
theorem Bf0 (r1 : (List Ap)) (s_18 : Bf) (i_19 : Int) : Le (Su r1 s_18 i_19) (Js r1 s_18 i_19):=by
  unfold Su Js
  repeat' with_reducible first | (intro _) | apply Le.po | apply Le.cond | apply Le.lp | exact Le.refl _
def Wc (a0 : Ad) (a0_r : Ae) (a1 : Am) : Option (Ad × Ae):=none
theorem Yp (a0 : Ad) (a0_r : Ae) (a1 : Am) : Le (Wc a0 a0_r a1) (Ht a0 a0_r a1):=fun _ h=>by cases h
def Vj (a0 : Ad) (a0_r : Ae) (a1 : Am) : Option (Ad × Ae):=none
theorem Xt (a0 : Ad) (a0_r : Ae) (a1 : Am) : Le (Vj a0 a0_r a1) (Hl a0 a0_r a1):=fun _ h=>by cases h
def Vh (a0 : Ad) (a0_r : Ae) (a1 : Am) : Option (Ad × Ae):=none
theorem Xz (a0 : Ad) (a0_r : Ae) (a1 : Am) : Le (Vh a0 a0_r a1) (Hn a0 a0_r a1):=fun _ h=>by cases h
def Vi (pf : Ae → Int → (List UInt32) → Option (UInt32 × Ae)) (a0 : Ad) (a0_r : Ae) (a1 : Am) : Option (Ad × Ae):=none
theorem Xx (pf pf2 : Ae → Int → (List UInt32) → Option (UInt32 × Ae)) (hpf : ∀ x0 x1 x2,Le (pf x0 x1 x2) (pf2 x0 x1 x2)) (a0 : Ad) (a0_r : Ae) (a1 : Am) : Le (Vi pf a0 a0_r a1) (Hk pf2 a0 a0_r a1):=fun _ h=>by cases h
noncomputable def Nc (pf : Ae → Int → (List UInt32) → Option (UInt32 × Ae)) (x6 : Cv) (s_10 : Ae) (s_11 : Ad) (i_12 : Bool) : Option ((Ae × Ad) ⊕ (Ae × Ad)):=
  cond i_12 (
  cond (s_10.used == s_10.fuel) (
  po (Da s_10 2) fun r13=>
  some (Sum.inl (r13,s_11))) (
  cond (decide (s_11.at_ ≥ (x6.Code.length : Int))) (
  po (Da (Ae.mk s_10.p s_10.e s_10.fuel (IntKind.i64.wrap (s_10.used + 1)) s_10.err) 10) fun r15=>
  some (Sum.inl (r15,s_11))) (
  po (idx x6.Code s_11.at_) fun x16=>
  cond (x16.Op == 0) (
  po (Wc s_11 (Ae.mk s_10.p s_10.e s_10.fuel (IntKind.i64.wrap (s_10.used + 1)) s_10.err) x16) fun r18=>
  some (Sum.inl (r18.2,(Ad.mk r18.1.fn (IntKind.i64.wrap (r18.1.at_ + 1)) r18.1.regs r18.1.set r18.1.stack r18.1.over)))) (
  cond (x16.Op == 1) (
  po (Vj s_11 (Ae.mk s_10.p s_10.e s_10.fuel (IntKind.i64.wrap (s_10.used + 1)) s_10.err) x16) fun r20=>
  some (Sum.inl (r20.2,(Ad.mk r20.1.fn (IntKind.i64.wrap (r20.1.at_ + 1)) r20.1.regs r20.1.set r20.1.stack r20.1.over)))) (
  cond (x16.Op == 2) (
  po (Dk s_11 (Ae.mk s_10.p s_10.e s_10.fuel (IntKind.i64.wrap (s_10.used + 1)) s_10.err) x16) fun r22=>
  some (Sum.inl (r22.2,(Ad.mk r22.1.fn (IntKind.i64.wrap (r22.1.at_ + 1)) r22.1.regs r22.1.set r22.1.stack r22.1.over)))) (
  cond (x16.Op == 3) (
  po (Dk s_11 (Ae.mk s_10.p s_10.e s_10.fuel (IntKind.i64.wrap (s_10.used + 1)) s_10.err) x16) fun r24=>
  some (Sum.inl (r24.2,(Ad.mk r24.1.fn (IntKind.i64.wrap (r24.1.at_ + 1)) r24.1.regs r24.1.set r24.1.stack r24.1.over)))) (
  cond (x16.Op == 4) (
  po (Dk s_11 (Ae.mk s_10.p s_10.e s_10.fuel (IntKind.i64.wrap (s_10.used + 1)) s_10.err) x16) fun r26=>
  some (Sum.inl (r26.2,(Ad.mk r26.1.fn (IntKind.i64.wrap (r26.1.at_ + 1)) r26.1.regs r26.1.set r26.1.stack r26.1.over)))) (
  cond (x16.Op == 5) (
  po (Vh s_11 (Ae.mk s_10.p s_10.e s_10.fuel (IntKind.i64.wrap (s_10.used + 1)) s_10.err) x16) fun r28=>
  some (Sum.inl (r28.2,(Ad.mk r28.1.fn (IntKind.i64.wrap (r28.1.at_ + 1)) r28.1.regs r28.1.set r28.1.stack r28.1.over)))) (
  cond (x16.Op == 6) (
  po (Vi pf s_11 (Ae.mk s_10.p s_10.e s_10.fuel (IntKind.i64.wrap (s_10.used + 1)) s_10.err) x16) fun r30=>
  some (Sum.inl (r30.2,(Ad.mk r30.1.fn (IntKind.i64.wrap (r30.1.at_ + 1)) r30.1.regs r30.1.set r30.1.stack r30.1.over)))) (
  cond (x16.Op == 7) (
  po (Hh s_11 (Ae.mk s_10.p s_10.e s_10.fuel (IntKind.i64.wrap (s_10.used + 1)) s_10.err) x16) fun r32=>
  some (Sum.inl (r32.2,(Ad.mk r32.1.fn (IntKind.i64.wrap (r32.1.at_ + 1)) r32.1.regs r32.1.set r32.1.stack r32.1.over)))) (
  none))))))))))) (
  some (Sum.inr (s_10,s_11)))
theorem Wx (pf pf2 : Ae → Int → (List UInt32) → Option (UInt32 × Ae)) (hpf : ∀ x0 x1 x2,Le (pf x0 x1 x2) (pf2 x0 x1 x2)) (x6 : Cv) (s_10 : Ae) (s_11 : Ad) (i_12 : Bool) : Le (Nc pf x6 s_10 s_11 i_12) (Cy pf2 x6 s_10 s_11 i_12):=by
  unfold Nc Cy
  repeat' with_reducible first | (intro _) | apply Yp | apply Xt | apply Xz | apply Xx _ _ hpf | apply hpf | apply Le.po | apply Le.cond | exact Le.refl _
noncomputable def Nh (pf : Ae → Int → (List UInt32) → Option (UInt32 × Ae)) (x6 : Cv) (s_10 : Ae) (s_11 : Ad) : Option ((Ae × Ad) ⊕ (Ae × Ad)):=
  po (
  cond (s_10.err == 0) (
  some (!s_11.over)) (
  some false)) (fun x=>Nc pf x6 s_10 s_11 x)
theorem Ws (pf pf2 : Ae → Int → (List UInt32) → Option (UInt32 × Ae)) (hpf : ∀ x0 x1 x2,Le (pf x0 x1 x2) (pf2 x0 x1 x2)) (x6 : Cv) (s_10 : Ae) (s_11 : Ad) : Le (Nh pf x6 s_10 s_11) (Cz pf2 x6 s_10 s_11):=by
  unfold Nh Cz
  repeat' with_reducible first | (intro _) | apply Wx _ _ hpf | apply hpf | apply Le.po | apply Le.cond | exact Le.refl _
noncomputable def Nf (pf : Ae → Int → (List UInt32) → Option (UInt32 × Ae)) (a1 : Int) (s_7 : Ae) (s_8 : Ad) : Option (UInt32 × Ae):=
  po (idx s_7.p.Fns a1) fun x6=>
  po (
  itF (fun x=>Nh pf x6 x.1 x.2) (s_7,s_8)) (fun x=>Jl x.1 x.2)
theorem Wz (pf pf2 : Ae → Int → (List UInt32) → Option (UInt32 × Ae)) (hpf : ∀ x0 x1 x2,Le (pf x0 x1 x2) (pf2 x0 x1 x2)) (a1 : Int) (s_7 : Ae) (s_8 : Ad) : Le (Nf pf a1 s_7 s_8) (Fe pf2 a1 s_7 s_8):=by
  unfold Nf Fe
  repeat' with_reducible first | (intro _) | apply Ws _ _ hpf | apply hpf | apply Le.po | apply Le.lp | exact Le.refl _
noncomputable def Pr (pf : Ae → Int → (List UInt32) → Option (UInt32 × Ae)) (a0 : Ae) (a1 : Int) (a2 : (List UInt32)) : Option (UInt32 × Ae):=
  po (
  itF (fun x=>Dr a2 x.1 x.2.1 x.2.2) (a0,(Ad.mk a1 0 (A8.mk 0 0 0 0 0 0 0 0) (A8.mk false false false false false false false false) (A16.mk 0 0 0 0 0 0 0 0 0 0 0 0 0 0 0 0) false),0)) (fun x=>Nf pf a1 x.1 x.2)
theorem Xm (pf pf2 : Ae → Int → (List UInt32) → Option (UInt32 × Ae)) (hpf : ∀ x0 x1 x2,Le (pf x0 x1 x2) (pf2 x0 x1 x2)) (a0 : Ae) (a1 : Int) (a2 : (List UInt32)) : Le (Pr pf a0 a1 a2) (El pf2 a0 a1 a2):=by
  unfold Pr El
  repeat' with_reducible first | (intro _) | apply Wz _ _ hpf | apply hpf | apply Le.po | apply Le.lp | exact Le.refl _
noncomputable def Rp : Nat → Ae → Int → (List UInt32) → Option (UInt32 × Ae)
  | 0=>fun _ _ _=>none
  | d + 1=>Pr (Rp d)
theorem Ug : ∀ (d : Nat) a0 a1 a2,Le (Rp d a0 a1 a2) (Dw d a0 a1 a2)
  | 0,_,_,_=>Le.refl _
  | d + 1,a0,a1,a2=>Xm _ _ (Ug d) _ _ _
noncomputable def Sh (a0 : Aq) (a1 : Int) (a3 : Int) (a4 : (List UInt32)) (s_58 : Bf) (i_59 : Bool) : Option (Jk):=
  cond i_59 (
  some (Jk.mk 0 s_58 0 3)) (
  po (Rp 9 (Ae.mk a0 s_58 a3 0 0) a1 a4) fun r26=>
  po (
  cond (r26.2.err != 0) (
  some 0) (
  some r26.1)) (fun x=>Oh r26 x))
theorem Ai0 (a0 : Aq) (a1 : Int) (a3 : Int) (a4 : (List UInt32)) (s_58 : Bf) (i_59 : Bool) : Le (Sh a0 a1 a3 a4 s_58 i_59) (Hd a0 a1 a3 a4 s_58 i_59):=by
  unfold Sh Hd
  repeat' with_reducible first | (intro _) | apply Ug | apply Le.po | apply Le.cond | exact Le.refl _
noncomputable def Se (a0 : Aq) (a1 : Int) (a3 : Int) (a4 : (List UInt32)) (s_56 : Bf) (i_57 : Bool) : Option (Jk):=
  cond i_57 (
  some (Jk.mk 0 s_56 0 1)) (
  po (
  cond (decide (a1 < 0)) (
  some (s_56,(decide (a1 < 0)))) (
  cond (decide (a1 ≥ (a0.Fns.length : Int))) (
  some (s_56,(decide (a1 ≥ (a0.Fns.length : Int))))) (
  po (idx a0.Fns a1) fun x24=>
  some (s_56,((a4.length : Int) != x24.Args))))) (fun x=>Sh a0 a1 a3 a4 x.1 x.2))
theorem Zx (a0 : Aq) (a1 : Int) (a3 : Int) (a4 : (List UInt32)) (s_56 : Bf) (i_57 : Bool) : Le (Se a0 a1 a3 a4 s_56 i_57) (Gz a0 a1 a3 a4 s_56 i_57):=by
  unfold Se Gz
  repeat' with_reducible first | (intro _) | apply Ai0 | apply Le.po | apply Le.cond | exact Le.refl _
noncomputable def Ss (a0 : Aq) (a1 : Int) (a3 : Int) (a4 : (List UInt32)) (s_47 : Bf) : Option (Jk):=
  po (
  po (Ve a0) fun r17=>
  cond (!r17) (
  some (s_47,(!r17))) (
  cond (decide (a3 < 0)) (
  some (s_47,(decide (a3 < 0)))) (
  some (s_47,(decide (a3 > 100000)))))) (fun x=>Se a0 a1 a3 a4 x.1 x.2)
theorem Ay0 (a0 : Aq) (a1 : Int) (a3 : Int) (a4 : (List UInt32)) (s_47 : Bf) : Le (Ss a0 a1 a3 a4 s_47) (Hs a0 a1 a3 a4 s_47):=by
  unfold Ss Hs
  repeat' with_reducible first | (intro _) | apply Wo | apply Zx | apply Le.po | apply Le.cond | exact Le.refl _
noncomputable def Wl (a0 : Aq) (a1 : Int) (a2 : Bf) (a3 : Int) (a4 : (List UInt32)) : Option (Jk):=
  po (Df a2.T) fun r1=>
  po (
  itF (fun x=>Su r1 x.1 x.2) ((Bf.mk a2.Ctx r1 a2.Seed),0)) (fun x=>Ss a0 a1 a3 a4 x)
theorem Dh0 (a0 : Aq) (a1 : Int) (a2 : Bf) (a3 : Int) (a4 : (List UInt32)) : Le (Wl a0 a1 a2 a3 a4) (Gi a0 a1 a2 a3 a4):=by
  unfold Wl Gi
  repeat' with_reducible first | (intro _) | apply Bf0 | apply Ay0 | apply Le.po | apply Le.lp | exact Le.refl _
noncomputable def Xf (a0 : Aq) (a1 : Bf) (a2 : Int) : Option (Jk):=
  po (Wl a0 0 a1 a2 []) fun r1=>
  some r1
theorem Ea0 (a0 : Aq) (a1 : Bf) (a2 : Int) : Le (Xf a0 a1 a2) (Ja a0 a1 a2):=by
  unfold Xf Ja
  repeat' with_reducible first | (intro _) | apply Dh0 | apply Le.po | exact Le.refl _
noncomputable def Vm (a1 : Aq) (a2 : UInt32) (a3 : (List UInt32)) (i_6 : Int) (l_7 : (List UInt32)) (i_8 : UInt32) : Option (((List UInt32) × Int) ⊕ (((List UInt32)) ⊕ ((List UInt32) × Int))):=
  po (a3[0]?) fun x9=>
  pl ((UInt32.ofInt i_6)) fun c10=>
  po (Xf a1 (Bf.mk (A4.mk a2 c10 i_8 x9) [] 0) 2000) fun r11=>
  po (
  cond (r11.Err != 0) (
  some (l_7,true)) (
  some (l_7,((r11.Ret.toNat : Int) == 4294967295)))) (fun x=>Nt i_6 r11 x.1 x.2)
theorem Cr0 (a1 : Aq) (a2 : UInt32) (a3 : (List UInt32)) (i_6 : Int) (l_7 : (List UInt32)) (i_8 : UInt32) : Le (Vm a1 a2 a3 i_6 l_7 i_8) (Mi a1 a2 a3 i_6 l_7 i_8):=by
  unfold Vm Mi
  repeat' with_reducible first | (intro _) | apply Ea0 | apply Le.po | apply Le.cond | apply Le.pl | exact Le.refl _
noncomputable def Vn (a0 : Ar) (a1 : Aq) (a2 : UInt32) (a3 : (List UInt32)) (l_5 : (List UInt32)) (i_6 : Int) : Option (((List UInt32) × Int) ⊕ (((List UInt32)) ⊕ ((List UInt32) × Int))):=
  cond (decide (i_6 < a0.Words)) (
  po (
  cond (decide (i_6 < (a3.length : Int))) (
  po (idx a3 i_6) fun x8=>
  some (l_5,x8)) (
  some (l_5,0))) (fun x=>Vm a1 a2 a3 i_6 x.1 x.2)) (
  some (Sum.inr (Sum.inl l_5)))
theorem Cu0 (a0 : Ar) (a1 : Aq) (a2 : UInt32) (a3 : (List UInt32)) (l_5 : (List UInt32)) (i_6 : Int) : Le (Vn a0 a1 a2 a3 l_5 i_6) (Mg a0 a1 a2 a3 l_5 i_6):=by
  unfold Vn Mg
  repeat' with_reducible first | (intro _) | apply Cr0 | apply Le.po | apply Le.cond | exact Le.refl _
noncomputable def Wa (a0 : Ar) (a1 : Aq) (a2 : UInt32) (a3 : (List UInt32)) : Option ((List UInt32) × Int):=
  pg (0 ≤ a0.Words ∧ 4 * a0.Words ≤ 140737488355328) <|
  pl (List.replicate a0.Words.toNat 0) fun y2=>
  pm (
  itF (fun x=>Vn a0 a1 a2 a3 x.1 x.2) (y2,0)) (fun x=>Rv x)
theorem Yv (a0 : Ar) (a1 : Aq) (a2 : UInt32) (a3 : (List UInt32)) : Le (Wa a0 a1 a2 a3) (Em a0 a1 a2 a3):=by
  unfold Wa Em
  repeat' with_reducible first | (intro _) | apply Cu0 | apply Le.pl | apply Le.pg | apply Le.pm | apply Le.lp | exact Le.refl _
noncomputable def Vu (a0 : Ar) (a1 : Aq) (a2 : UInt32) (a3 : (List UInt32)) (i_1 : Bool) : Option ((List UInt32) × Int):=
  cond i_1 (
  some ([],1)) (
  po (Qo a1 []) fun r5=>
  cond (r5.2 != 0) (
  some ([],r5.2)) (
  po (Wa a0 a1 a2 a3) fun r7=>
  some (r7.1,r7.2)))
theorem Cp0 (a0 : Ar) (a1 : Aq) (a2 : UInt32) (a3 : (List UInt32)) (i_1 : Bool) : Le (Vu a0 a1 a2 a3 i_1) (Pg a0 a1 a2 a3 i_1):=by
  unfold Vu Pg
  repeat' with_reducible first | (intro _) | apply Wg | apply Yv | apply Le.po | apply Le.cond | exact Le.refl _
noncomputable def Xy (a0 : Ar) (a1 : Aq) (a2 : UInt32) (a3 : (List UInt32)) : Option ((List UInt32) × Int):=
  po (
  po (Ee a0) fun r2=>
  cond r2 (
  some ((a3.length : Int) == 0)) (
  some true)) (fun x=>Vu a0 a1 a2 a3 x)
theorem Ep0 (a0 : Ar) (a1 : Aq) (a2 : UInt32) (a3 : (List UInt32)) : Le (Xy a0 a1 a2 a3) (Sn a0 a1 a2 a3):=by
  unfold Xy Sn
  repeat' with_reducible first | (intro _) | apply Cp0 | apply Le.po | apply Le.cond | exact Le.refl _
noncomputable def Va (a2 : Aq) (i_1 : Bool) : Option (Int):=
  cond i_1 (
  some 9) (
  po (Qo a2 []) fun r6=>
  some r6.2)
theorem Cb0 (a2 : Aq) (i_1 : Bool) : Le (Va a2 i_1) (Hg a2 i_1):=by
  unfold Va Hg
  repeat' with_reducible first | (intro _) | apply Wg | apply Le.po | apply Le.cond | exact Le.refl _
noncomputable def Xe (a0 : Ar) (a1 : Ar) (a2 : Aq) : Option (Int):=
  po (
  cond (a0.Kind == 3) (
  some true) (
  po (Nl a0 a1) fun r3=>
  cond (r3 != 1) (
  some true) (
  some (decide (a1.Cap < a0.Cap))))) (fun x=>Va a2 x)
theorem Dz0 (a0 : Ar) (a1 : Ar) (a2 : Aq) : Le (Xe a0 a1 a2) (Kc a0 a1 a2):=by
  unfold Xe Kc
  repeat' with_reducible first | (intro _) | apply Cb0 | apply Le.po | apply Le.cond | exact Le.refl _
noncomputable def Xr (a0 : Ap) (a1 : Ar) (a2 : Aq) : Option (Int):=
  po (Lw a0) fun r1=>
  cond (!r1) (
  some 1) (
  po (Xe a0.S a1 a2) fun r3=>
  some r3)
theorem Es0 (a0 : Ap) (a1 : Ar) (a2 : Aq) : Le (Xr a0 a1 a2) (En a0 a1 a2):=by
  unfold Xr En
  repeat' with_reducible first | (intro _) | apply Dz0 | apply Le.po | apply Le.cond | exact Le.refl _
noncomputable def Sv (a0 : Ap) (a1 : Ar) (a2 : Aq) (s_1 : Ap) (i_2 : Int) : Option ((Ap × Int) ⊕ ((Ap) ⊕ (Ap × Int))):=
  cond (decide (i_2 < (a0.E.length : Int))) (
  po (idx a0.E i_2) fun x9=>
  po (Wa a1 a2 x9.Key x9.V) fun r10=>
  cond (r10.2 != 0) (
  some (Sum.inr (Sum.inr ((Ap.mk (Ar.mk 0 0 0 0) [] 0),r10.2)))) (
  pg ((s_1.E.length + 1) * 32 ≤ 140737488355328) <|
  pl (s_1.E ++ ([(Bd.mk x9.Key r10.1)])) fun y13=>
  some (Sum.inl ((Ap.mk s_1.S y13 s_1.Next),(IntKind.i64.wrap (i_2 + 1)))))) (
  some (Sum.inr (Sum.inl s_1)))
theorem Bm0 (a0 : Ap) (a1 : Ar) (a2 : Aq) (s_1 : Ap) (i_2 : Int) : Le (Sv a0 a1 a2 s_1 i_2) (Mp a0 a1 a2 s_1 i_2):=by
  unfold Sv Mp
  repeat' with_reducible first | (intro _) | apply Yv | apply Le.po | apply Le.cond | apply Le.pl | apply Le.pg | exact Le.refl _
noncomputable def Wv (a0 : Ap) (a1 : Ar) (a2 : Aq) : Option (Ap × Int):=
  po (Xr a0 a1 a2) fun r1=>
  cond (r1 != 0) (
  some ((Ap.mk (Ar.mk 0 0 0 0) [] 0),r1)) (
  po (Od a1) fun r3=>
  pg (0 ≤ (minI (a0.E.length : Int) (r3.1.E.length : Int)) ∧ (minI (a0.E.length : Int) (r3.1.E.length : Int)) ≤ (r3.1.E.length : Int) ∧ (r3.1.E.length : Int) ≤ (r3.1.E.length : Int)) <|
  pl ((r3.1.E.drop ((minI (a0.E.length : Int) (r3.1.E.length : Int)).toNat))) fun y5=>
  pm (
  itF (fun x=>Sv a0 a1 a2 x.1 x.2) ((Ap.mk r3.1.S [] r3.1.Next),0)) (fun x=>Pi y5 x))
theorem Dl0 (a0 : Ap) (a1 : Ar) (a2 : Aq) : Le (Wv a0 a1 a2) (Qg a0 a1 a2):=by
  unfold Wv Qg
  repeat' with_reducible first | (intro _) | apply Es0 | apply Bm0 | apply Le.po | apply Le.cond | apply Le.pl | apply Le.pg | apply Le.pm | apply Le.lp | exact Le.refl _
noncomputable def Lu (a0 : (List UInt32)) (a1 : (List UInt32)) : Option (Bool):=
  cond ((a0.length : Int) != (a1.length : Int)) (
  some false) (
  pm (
  itF (fun x=>Jh a0 a1 x) 0) (fun x=>Ji))
theorem Xl (a0 : (List UInt32)) (a1 : (List UInt32)) : Le (Lu a0 a1) (Gm a0 a1):=by
  unfold Lu Gm
  repeat' with_reducible first | (intro _) | apply Le.cond | apply Le.pm | apply Le.lp | exact Le.refl _
noncomputable def Ux : Option (Bool):=
  po (Xy (Ar.mk 1 1 3 0) (Aq.mk ([(Cv.mk 0 ([(Am.mk 2 0 0 0 false 0 2),(Am.mk 7 0 0 0 false 0 0)]))])) 7 ([4,5])) fun r1=>
  po (Wv (Ap.mk (Ar.mk 1 1 1 0) ([(Bd.mk 9 ([6]))]) 0) (Ar.mk 1 2 2 1) (Aq.mk ([(Cv.mk 0 ([(Am.mk 2 0 0 0 false 0 2),(Am.mk 7 0 0 0 false 0 0)]))]))) fun r2=>
  po (
  cond (r1.2 == 0) (
  po (Lu r1.1 ([4,5,0])) fun r5=>
  cond r5 (
  cond (r2.2 == 0) (
  cond ((r2.1.E.length : Int) == 1) (
  po (r2.1.E[0]?) fun x9=>
  po (Lu x9.V ([6,0])) fun r10=>
  some r10) (
  some false)) (
  some false)) (
  some false)) (
  some false)) (fun x=>Jm x)
theorem Xn : Le (Ux) (Gw):=by
  unfold Ux Gw
  repeat' with_reducible first | (intro _) | apply Ep0 | apply Dl0 | apply Xl | apply Le.po | apply Le.cond | exact Le.refl _
theorem awake18 : Gw = some true:=Xn _ (by kernel_rfl)
noncomputable def Lb (a0 : Aq) (i_2 : Bool) (i_3 : Int) (i_4 : Bool) : Option ((Bool × Int) ⊕ (Bool)):=
  cond i_4 (
  po (idx a0.Fns i_3) fun x6=>
  some (Sum.inl ((decide ((x6.Code.length : Int) ≤ 80)),(IntKind.i64.wrap (i_3 + 1))))) (
  some (Sum.inr i_2))
noncomputable def Ig (a0 : Aq) (i_2 : Bool) (i_3 : Int) : Option ((Bool × Int) ⊕ (Bool)):=
  po (
  cond (decide (i_3 < (a0.Fns.length : Int))) (
  some i_2) (
  some false)) (fun x=>Lb a0 i_2 i_3 x)
noncomputable def Ks (i_7 : Bool) : Option (Bool):=
  some i_7
noncomputable def Kf (a0 : Aq) : Option (Bool):=
  po (
  lpU (fun x=>Ig a0 x.1 x.2) ((decide ((a0.Fns.length : Int) ≤ 12)),0)) (fun x=>Ks x)
theorem Rt {a0 : Aq} {r : Bool} (h : Kf a0 = some r) : Ctr prog 52 [.agg (Ez a0)] [] (rb r) []:=by
 unfold Kf at h;refine Ctr.ofW Ba func52 rfl call52 0 _ ntmps52 [.tmp 2] rfl rfl rfl (fun B=>?_);refine vs [1] fun _ k=>?_;push_cast;apply k;clear k;refine vs [1,3] fun _ k=>?_;push_cast;apply k;clear k;refine vj h (fun x=>⟨[(3,rb x)],[],36,28,0⟩) (fun v1 h hk1=>?_) ?_
 ·refine vs [1,3,4] fun _ k=>?_;push_cast;apply k;clear k;refine VC.block ?_;refine VC.loopP h (fun x=>⟨[(1,.ref 0 0),(3,rb x.1),(4,ri x.2)],[(0,.box 56 [.sl false (a0.Fns.map Al)])],28,28,0⟩) ?_ ?_
  ·exact sl (by push_cast)
  rintro ⟨i_2,i_3⟩ b2 (h : Ig a0 i_2 i_3 = some b2) hf2;(try push_cast);unfold Ig at h;refine VC.seq ?_;refine vj h (fun x=>⟨[(1,.ref 0 0),(3,rb i_2),(4,ri i_3),(16,rb x)],[(0,.box 56 [.sl false (a0.Fns.map Al)])],36,28,0⟩) (fun v3 h hk3=>?_) ?_
  ·rcases bt (decide (i_3 < (a0.Fns.length : Int))) with hb4 | hb4
   ·replace h:=Ao hb4 h;refine vlG [some 9,some 10,some 11,some 12,some 13,some 14,some 15,some 16] fun _ k=>?_;push_cast [hb4];(repeat refine ao ?_);apply k;clear k;refine ar h hk3 ?_;exact sl (by push_cast [hb4])
   ·replace h:=Au hb4 h;refine vlG [some 9,some 10,some 11,some 12,some 13,some 14,some 15,some 16] fun _ k=>?_;push_cast [hb4];(repeat refine ao ?_);apply k;clear k;refine ar h hk3 ?_;exact sl (by push_cast [hb4])
  ·rintro i_4 (h : Lb a0 i_2 i_3 i_4 = some b2);(try push_cast);unfold Lb at h;refine vc h (fun hb5 h=>?_) (fun hb5 h=>?_)
   ·refine VC.skip ?_;refine VC.seq ?_;refine VC.block ?_;obtain ⟨x6,hx6,h⟩:=Aa h;replace hx6:=Bh hx6;refine vl fun _ k=>?_;push_cast [hx6];(repeat refine ao ?_);apply k;clear k;refine vl fun _ k=>?_;push_cast;apply k;clear k;refine bk h ?_;exact sl (by push_cast [hb5])
   ·refine VC.exit ?_;replace h:=ol h hf2;refine ar h hk1 ?_;exact sl (by push_cast [hb5])
 ·rintro i_7 (h : Ks i_7 = some r);(try push_cast);unfold Ks at h;refine vs [2] fun _ k=>?_;push_cast;apply k;clear k;refine VC.ret ?_;replace h:=Option.some.inj h;subst h;exact en (by push_cast)
noncomputable def Pa (i_1 : Bool) : Option (Bool):=
  some i_1
noncomputable def Ki (a0 : Aq) (a1 : (List Ap)) (a2 : (List UInt32)) : Option (Bool):=
  po (
  po (Kf a0) fun r2=>
  cond r2 (
  po (Kj a1) fun r4=>
  cond r4 (
  some (decide ((a2.length : Int) ≤ 40))) (
  some false)) (
  some false)) (fun x=>Pa x)
theorem Cd0 {a0 : Aq} {a1 : (List Ap)} {a2 : (List UInt32)} {r : Bool} (h : Ki a0 a1 a2 = some r) : Ctr prog 20 [.agg (Ez a0),.sl false (a1.map Bb),.sl false (a2.map Ax)] [] (rb r) []:=by
 unfold Ki at h;refine Ctr.ofW Ba func20 rfl call20 0 _ ntmps20 [.tmp 6] rfl rfl rfl (fun B=>?_);refine vs [1,2,3] fun _ k=>?_;push_cast;apply k;clear k;refine vj h (fun x=>⟨[(6,rb x)],[],14,18,0⟩) (fun v1 h hk1=>?_) ?_
 ·obtain ⟨r2,hr2,h⟩:=Aa h;rcases bt r2 with hb3 | hb3
  ·replace h:=Ao hb3 h;obtain ⟨r4,hr4,h⟩:=Aa h;rcases bt r4 with hb5 | hb5
   ·replace h:=Ao hb5 h;refine vlG [some 7,some 8,some 9,some 10,some 11,some 12,some 13,some 14,some 15,some 16,some 17,some 6] fun _ k=>?_;refine Ag 8 fun _ l=>?_;push_cast [hb3,hb5];(repeat refine ao ?_);refine cp (Rt hr2) ?_;push_cast [hb3,hb5];(repeat refine ao ?_);refine cp (Wf hr4) ?_;push_cast [hb3,hb5];(repeat refine ao ?_);apply l;clear l;simp only [List.drop_succ_cons,List.drop_zero];push_cast [hb3,hb5];(repeat refine ao ?_);apply k;clear k;refine ar h hk1 ?_;exact sl (by push_cast [hb3,hb5])
   ·replace h:=Au hb5 h;refine vlG [some 7,some 8,some 9,some 10,some 11,some 12,some 13,some 14,some 15,some 16,some 17,some 6] fun _ k=>?_;refine Ag 8 fun _ l=>?_;push_cast [hb3,hb5];(repeat refine ao ?_);refine cp (Rt hr2) ?_;push_cast [hb3,hb5];(repeat refine ao ?_);refine cp (Wf hr4) ?_;push_cast [hb3,hb5];(repeat refine ao ?_);apply l;clear l;simp only [List.drop_succ_cons,List.drop_zero];push_cast [hb3,hb5];(repeat refine ao ?_);apply k;clear k;refine ar h hk1 ?_;exact sl (by push_cast [hb3,hb5])
  ·replace h:=Au hb3 h;refine vlG [some 7,some 8,some 9,some 10,some 11,some 12,some 13,some 14,some 15,some 16,some 17,some 6] fun _ k=>?_;refine Ag 8 fun _ l=>?_;push_cast [hb3];(repeat refine ao ?_);refine cp (Rt hr2) ?_;push_cast [hb3];(repeat refine ao ?_);apply l;clear l;simp only [List.drop_succ_cons,List.drop_zero];push_cast [hb3];(repeat refine ao ?_);apply k;clear k;refine ar h hk1 ?_;exact sl (by push_cast [hb3])
 ·rintro i_1 (h : Pa i_1 = some r);(try push_cast);unfold Pa at h;refine VC.ret ?_;replace h:=Option.some.inj h;subst h;exact en (by push_cast)
theorem idxN {α : Type} {l : List α} {k : Nat} {x : α} (h : l[k]? = some x) : idx l (k : Int) = some x:=by rw [idx_nat,h]
theorem pin (a b c : Int) : Gk a b c = some (inB a b c):=by
  unfold Gk Lx inB
  by_cases h : a ≥ b
  · rw [decide_eq_true h]
    rfl
  · rw [decide_eq_false h]
    rfl
theorem smay (s : Ar) : Ee s = some (toS s).may:=by
  unfold Ee
  have key : ∀ m,Iz s m = some (inB s.Kind 0 3 && inB s.Cap 1 16 && inB s.Words 1 m && inB s.Ver 0 1000):=by
    intro m
    unfold Iz Kw
    simp only [pin,po_of]
    cases inB s.Kind 0 3 <;> cases inB s.Cap 1 16 <;> cases inB s.Words 1 m <;> rfl
  by_cases h : s.Kind = 3
  · have h2 : (s.Kind == 3) = true:=by simpa using h
    rw [h2]
    simp only [cond_true,po_of,key]
    simp [Sch.may,toS,h]
  · have h2 : (s.Kind == 3) = false:=by simpa using h
    rw [h2]
    simp only [cond_false,po_of,key]
    simp [Sch.may,toS,h]
theorem step_all (a b : Ar) : ∃ r,Nl a b = some r ∧ (r = 1 → (toS b).may = true ∧ a.Kind = b.Kind):=by
  unfold Nl
  rw [smay,smay]
  have n2 : (2 : Int) = 1 → False:=by decide
  have n0 : (0 : Int) = 1 → False:=by decide
  cases h1 : (toS a).may with
  | false=>exact ⟨2,rfl,fun h=>(n2 h).elim⟩
  | true=>
    cases h2 : (toS b).may with
    | false=>exact ⟨2,rfl,fun h=>(n2 h).elim⟩
    | true=>
      simp only [po_of,Bool.not_true,cond_false]
      unfold Pm
      simp only [cond_false]
      cases h3 : ((a.Kind == b.Kind) && ((a.Cap == b.Cap) && ((a.Words == b.Words) && (a.Ver == b.Ver)))) with
      | true=>exact ⟨0,rfl,fun h=>(n0 h).elim⟩
      | false=>
        simp only [cond_false]
        cases h4 : (a.Kind == b.Kind) with
        | false=>exact ⟨2,rfl,fun h=>(n2 h).elim⟩
        | true=>
          simp only [cond_true,po_of]
          unfold Pz
          cases (b.Ver == IntKind.i64.wrap (a.Ver + 1)) with
          | true=>exact ⟨1,rfl,fun _=>⟨by first | exact h2 | trivial,by simpa using h4⟩⟩
          | false=>exact ⟨2,rfl,fun h=>(n2 h).elim⟩
def newT (s : Ar) : Ap:=⟨s,if s.Kind = 0 then (List.range s.Cap.toNat).map (fun i=>⟨UInt32.ofNat i,List.replicate s.Words.toNat 0⟩) else [],0⟩
theorem new_is {s : Ar} (h : (toS s).may = true) : Od s = some (newT s,0):=by
  have hnew : Tab.new (toS s) = (⟨toS s,if (toS s).kind = 0 then newEs (toS s).cap.toNat (toS s).words.toNat else [],0⟩,0):=by
    unfold Tab.new
    rw [if_neg (by rw [h]; simp)]
  unfold Od
  rw [hnew]
  congr 1
  unfold newT ofT
  simp only
  by_cases hk : s.Kind = 0
  · rw [if_pos (show (toS s).kind = 0 from hk),if_pos hk]
    simp only [newEs,List.map_map,Prod.mk.injEq,and_true]
    congr 1
    congr 1
    funext i
    simp [Function.comp,ofE,toS]
  · rw [if_neg (show (toS s).kind ≠ 0 from hk),if_neg hk]
    rfl
theorem fits_tells (a b : Ar) {p : Aq} (hf : p.Fns.length ≤ 1000) : ∃ r,Kc a b p = some r ∧ (r = 0 → (toS b).may = true ∧ a.Kind = b.Kind ∧ a.Cap ≤ b.Cap ∧ a.Kind ≠ 3 ∧ ∃ n,Fa p [] = some (n,0)):=by
  unfold Kc
  have n9 : (9 : Int) = 0 → False:=by decide
  have j1 : Hg p true = some 9:=rfl
  obtain ⟨⟨n,e⟩,hv,_⟩:=verify_ok p [] (by decide) hf
  have j0 : Hg p false = some e:=by
    unfold Hg
    simp only [cond_false,hv,po_of]
  cases h1 : (a.Kind == 3) with
  | true=>exact ⟨9,by simp only [cond_true,po_of,j1],fun h=>(n9 h).elim⟩
  | false=>
    obtain ⟨r,hr,hq⟩:=step_all a b
    simp only [cond_false,hr,po_of]
    cases h2 : (r != 1) with
    | true=>exact ⟨9,by simp only [cond_true,po_of,j1],fun h=>(n9 h).elim⟩
    | false=>
      have hr1 : r = 1:=by simpa using h2
      obtain ⟨q1,q2⟩:=hq hr1
      simp only [cond_false,po_of]
      by_cases h3 : b.Cap < a.Cap
      · exact ⟨9,by simp only [decide_eq_true h3,j1],fun h=>(n9 h).elim⟩
      · exact ⟨e,by simp only [decide_eq_false h3,j0],fun h=>⟨q1,q2,by omega,by simpa using h1,n,by rw [hv,h]⟩⟩
structure Good (t : Ap) (s : Ar) (p : Aq) : Prop where
  may : (toT t).may = true
  smay : (toS s).may = true
  kind : t.S.Kind = s.Kind
  ring : t.S.Kind ≠ 3
  cap : t.S.Cap ≤ s.Cap
  ver : ∃ n,Fa p [] = some (n,0)
section
variable {t : Ap} {s : Ar} {p : Aq}
theorem Good.new (g : Good t s p) : Od s = some (newT s,0):=new_is g.smay
theorem Good.words (g : Good t s p) : ∃ W : Nat,s.Words = (W : Int) ∧ 1 ≤ W ∧ W ≤ 4:=by
  have hb:=Sch.may_bounds g.smay
  have c2 : (toS s).words = s.Words:=rfl
  rw [c2] at hb
  exact ⟨s.Words.toNat,by omega,by omega,by omega⟩
theorem Good.caps (g : Good t s p) : 1 ≤ s.Cap ∧ s.Cap ≤ 16:=by
  have hb:=Sch.may_bounds g.smay
  have c1 : (toS s).cap = s.Cap:=rfl
  rw [c1] at hb
  omega
theorem Good.std (g : Good t s p) : (toT t).s.may = true ∧ ((toT t).e.length : Int) ≤ (toT t).s.cap ∧ (toT t).next = 0 ∧ ((toT t).s.kind = 0 → ((toT t).e.length : Int) = (toT t).s.cap ∧ ∀ (i : Nat) (e : Ent),(toT t).e[i]? = some e → e.key = i) ∧
    (∀ e ∈ (toT t).e,(e.v.length : Int) = (toT t).s.words) ∧ (keys (toT t).e).Nodup:=(may_std (show t.S.Kind ≠ 3 from g.ring)).1 g.may
theorem Good.tlen (g : Good t s p) : (t.E.length : Int) ≤ t.S.Cap:=by
  have:=g.std.2.1
  simpa [toT,toS] using this
theorem Good.v (g : Good t s p) {e : Bd} (he : e ∈ t.E) : e.V ≠ []:=by
  intro hn
  have hbt:=Sch.may_bounds (Tab.may_sch g.may)
  have:=g.std.2.2.2.2.1 (toE e) (by simp only [toT]; exact List.mem_map_of_mem he)
  rw [show (toE e).v = [] by simp [toE,hn]] at this
  simp at this
  omega
theorem Good.key0 (g : Good t s p) (h0 : s.Kind = 0) : (t.E.length : Int) = t.S.Cap ∧ ∀ (i : Nat) (e : Bd),t.E[i]? = some e → e.Key.toNat = i:=by
  obtain ⟨q1,q2⟩:=g.std.2.2.2.1 (show t.S.Kind = 0 by rw [g.kind,h0])
  refine ⟨by simpa [toT,toS] using q1,fun i e he=>?_⟩
  exact q2 i (toE e) (by simp [toT,he])
theorem newT_len (g : Good t s p) : ((newT s).E.length : Int) = if s.Kind = 0 then s.Cap else 0:=by
  have:=g.caps
  unfold newT
  by_cases h : s.Kind = 0
  · simp only [if_pos h,List.length_map,List.length_range]
    omega
  · simp only [if_neg h]
    rfl
theorem may_tells (t : Ap) (s : Ar) {p : Aq} (hf : p.Fns.length ≤ 1000) : ∃ r,En t s p = some r ∧ (r = 0 → Good t s p ∧ Kc t.S s p = some 0):=by
  unfold En Lw
  simp only [po_of]
  cases hm : (toT t).may with
  | false=>exact ⟨1,rfl,fun h=>absurd h (by decide)⟩
  | true=>
    obtain ⟨e,he,hq⟩:=fits_tells t.S s hf
    simp only [Bool.not_true,cond_false,he,po_of]
    refine ⟨e,rfl,fun h=>?_⟩
    obtain ⟨q1,q2,q3,q4,q5⟩:=hq h
    exact ⟨⟨hm,q1,q2,q4,q3,q5⟩,by rw [h]⟩
theorem put_tells {W : Nat} (hW : s.Words = (W : Int)) (h1 : 1 ≤ W) (h4 : W ≤ 4) (p : Aq) (key : UInt32) {v : List UInt32} (hv : v ≠ []) :
    Ok (Em s p key v) fun r=>(r.2 = 0 ∧ r.1.length = W) ∨ (r.2 = 10 ∧ r.1 = []):=by
  unfold Em
  rw [hW]
  have hl : 0 < v.length:=List.length_pos_iff.2 hv
  refine .pg (by omega) (.pl ?_)
  refine .pm (P:=fun r=>match r with | .inl l=>l.length = W | .inr r=>r.2 = 10 ∧ r.1 = []) ?_ (fun l h=>.mk (.inl ⟨rfl,h⟩)) fun r h=>.inr h
  refine .lp (fun x=>x.1.length = W ∧ ∃ n : Nat,x.2 = (n : Int) ∧ n ≤ W) (fun x=>((W : Int) - x.2).toNat) ⟨by simp,0,rfl,Nat.zero_le _⟩ ?_
  rintro ⟨l,i⟩ ⟨hll,n,hn,hnW⟩
  simp only at hll hn
  subst hn
  unfold Mg
  rw [hW]
  refine .cond (fun hlt=>?_) fun _=>.mk hll
  have hlt : (n : Int) < (W : Int):=of_decide_eq_true hlt
  refine .po (P:=fun x : List UInt32 × UInt32=>x.1 = l) (.cond (fun h=>.po (Ok.idx (l:=v) rfl (by have:=of_decide_eq_true h; omega)) fun x _=>.mk rfl) fun _=>.mk rfl) ?_
  rintro ⟨l',o⟩ hl'
  simp only at hl'
  subst hl'
  unfold Mi
  refine .po (Ok.at_ (l:=v) hl) fun x0 _=>.pl ?_
  obtain ⟨r,hr,_⟩:=keeps_run (p:=p) (e:=⟨⟨key,UInt32.ofInt (n : Int),o,x0⟩,[],0⟩) (fu:=2000) ⟨rfl⟩
  rw [hr,po_of]
  refine .po (P:=fun x : List UInt32 × Bool=>x.1 = l') (.cond (fun _=>.mk rfl) fun _=>.mk rfl) ?_
  rintro ⟨l2,b⟩ hl2
  simp only at hl2
  subst hl2
  unfold Nt
  refine .cond (fun _=>.mk ⟨rfl,rfl⟩) fun _=>.po (Ok.idx (l:=l2) rfl (by omega)) fun y _=>.pl (.mk ⟨⟨by simpa using hll,n + 1,w1 (by omega),by omega⟩,?_⟩)
  simp only [w1 (show n < 1000000 by omega)]
  omega
structure PutE (t : Ap) (s : Ar) (p : Aq) (n : Nat) (E : List Bd) : Prop where
  len : E.length = n
  at_ : ∀ (j : Nat) (e : Bd),j < n → t.E[j]? = some e → ∃ v,Em s p e.Key e.V = some (v,0) ∧ E[j]? = some ⟨e.Key,v⟩
abbrev zeroT : Ap:=⟨⟨0,0,0,0⟩,[],0⟩
theorem PutE.zero : PutE t s p 0 []:=⟨rfl,fun j e h=>by omega⟩
theorem PutE.succ {n : Nat} {E : List Bd} (h : PutE t s p n E) {e : Bd} (he : t.E[n]? = some e) {v : List UInt32} (hv : Em s p e.Key e.V = some (v,0)) : PutE t s p (n + 1) (E ++ [⟨e.Key,v⟩]):=by
  refine ⟨by simp [h.len],fun j e' hj he'=>?_⟩
  rcases Nat.lt_or_ge j n with hjn | hjn
  · obtain ⟨v',q1,q2⟩:=h.at_ j e' hjn he'
    exact ⟨v',q1,by rw [List.getElem?_append_left (by rw [h.len]; exact hjn)]; exact q2⟩
  · have : j = n:=by omega
    subst this
    rw [he] at he'
    injection he' with he'
    subst he'
    exact ⟨v,hv,by rw [List.getElem?_append_right (by rw [h.len]; exact Nat.le_refl _),h.len]; simp⟩
end
theorem Sub.spare {s : St} {e sz : Nat} : Sub s { s with hp:=Cb s.nx (.row e sz 0 []) s.hp,nx:=s.nx + 1 }:=fun B a w ⟨x,hC⟩=>by
  have hfr : ∀ g,¬ x.dom s.nx g:=fun g hd=>by have:=hC.dom _ _ hd; simp at this
  have st:=Stp.add (w':=w) hC.h hfr (.row e sz 0 []) none 0 rfl rfl rfl (Nat.le_refl _) (fun _ _=>rfl) (fun b hb=>by cases hb) (fun m=>⟨fun i cs h=>by simp at h,.inl ⟨by simp [Cx.put],rfl⟩⟩)
  refine ⟨_,st.h,fun t u ht=>(hC.t t u ht).mono st.mo,hC.n,hC.d.step hC.h st.tr,hC.tr.trans st.tr,hC.mo.trans st.mo,hC.lo,Nat.le_succ_of_le hC.ln,fun id g hd=>?_⟩
  show id < s.nx + 1
  rcases dom_put hd with h | h
  · have:=hC.dom _ _ h
    omega
  · omega
def Cx.reb (x : Cx) (k m G : Nat) : Cx:={ ok:=x.ok,dom:=fun a h=>(x.dom a h ∧ a ≠ k) ∨ (a = m ∧ h = G),β:=fun a=>if a = m then x.β k else x.β a,γ:=fun a=>if a = m then x.γ k else x.γ a }
def off1 (k : Nat) : Nat → Bool:=fun a=>a != k
section
variable {w : World} {x : Cx} {hp : Hp} {k m g sz lo n g0 sz0 : Nat} {rt rt0 : TypeId} {els els0 : List (List AV)}
theorem reb_mo (h : HRel w x hp) (hr : look hp k = some (.row rt sz g els)) (hm : look hp m = some (.row rt0 sz0 g0 els0)) : Mo w (x.only (off1 k)) hp w (x.reb k m (g0 + 1)) (Cb m (.row rt sz (g0 + 1) els) (delA k hp)):=by
  have key : ∀ a h,(x.only (off1 k)).dom a h → a ≠ k:=fun a h hd=>by
    have:=hd.2
    simpa [off1] using this
  have lk : ∀ a,a ≠ m → a ≠ k → look (Cb m (AObj.row rt sz (g0 + 1) els) (delA k hp)) a = look hp a:=fun a h1 h2=>by rw [look_ren,if_neg h1,if_neg h2]
  have lm : look (Cb m (AObj.row rt sz (g0 + 1) els) (delA k hp)) m = some (.row rt sz (g0 + 1) els):=by rw [look_ren,if_pos rfl]
  refine ⟨fun _ h=>h,fun a h hd=>.inl ⟨hd.1,key a h hd⟩,fun _ _=>rfl,fun a hd ⟨t,cs,h⟩=>?_,fun a h1 s hd ⟨t,cs,h2⟩=>?_,fun a hd ⟨t,cs,h⟩=>?_⟩
  · by_cases ha : a = m
    · rw [ha,lm] at h
      cases h
    · rw [lk a ha (key a 0 hd)] at h
      exact ⟨⟨t,cs,h⟩,if_neg ha⟩
  · by_cases ha : a = m
    · subst ha
      rw [lm] at h2
      injection h2 with h2
      injection h2 with _ _ h2 _
      subst h2
      have:=h.gen _ _ _ _ _ _ hm hd.1
      omega
    · rw [lk a ha (key a h1 hd)] at h2
      exact ⟨⟨t,cs,h2⟩,if_neg ha,if_neg ha⟩
  · by_cases ha : a = m
    · rw [ha,lm] at h
      cases h
    · rw [lk a ha (key a 0 hd)] at h
      exact ⟨⟨t,cs,h⟩,if_neg ha⟩
theorem reb_val (hr : look hp k = some (.row rt sz g els)) {v : Value} (h : VRel w x hp (.row k g sz lo n) v) : VRel w (x.reb k m (g0 + 1)) (Cb m (.row rt sz (g0 + 1) els) (delA k hp)) (.row m (g0 + 1) sz lo n) v:=by
  cases h with
  | dat h=>cases h
  | row _ _ _ _ _ A c hid hc hh=>
    refine .row _ _ _ _ _ A c (.inr ⟨rfl,rfl⟩) hc fun _=>?_
    have e1 : (x.reb k m (g0 + 1)).β m = x.β k:=if_pos rfl
    have e2 : (x.reb k m (g0 + 1)).γ m = x.γ k:=if_pos rfl
    rw [e1,e2]
    exact hh ⟨rt,els,hr⟩
theorem reb_h (h : HRel w x hp) (hr : look hp k = some (.row rt sz g els)) (hm : look hp m = some (.row rt0 sz0 g0 els0)) (hmk : m ≠ k) (hfr : ∀ a o,look hp a = some o → a ≠ k → o.inD (off1 k) = true) : HRel w (x.reb k m (g0 + 1)) (Cb m (.row rt sz (g0 + 1) els) (delA k hp)):=by
  have lk : ∀ a o,look (Cb m (AObj.row rt sz (g0 + 1) els) (delA k hp)) a = some o → (a = m ∧ o = .row rt sz (g0 + 1) els) ∨ (a ≠ m ∧ a ≠ k ∧ look hp a = some o):=fun a o hl=>by
    rw [look_ren] at hl
    split at hl
    · rename_i e
      injection hl with hl
      exact .inl ⟨e,hl.symm⟩
    · split at hl
      · cases hl
      · exact .inr ⟨by assumption,by assumption,hl⟩
  have b1 : (x.reb k m (g0 + 1)).β m = x.β k:=if_pos rfl
  have b2 : ∀ a,a ≠ m → (x.reb k m (g0 + 1)).β a = x.β a:=fun a ha=>if_neg ha
  have g2 : ∀ a,a ≠ m → (x.reb k m (g0 + 1)).γ a = x.γ a:=fun a ha=>if_neg ha
  refine ⟨h.okb,fun a o hl=>?_,fun a t s g1 els1 g' hl hd=>?_,fun a t s g1 els1 hl=>?_,fun a o b hl hb=>?_,fun a a' o o' b hl hl' hb hb'=>?_,fun a o hl=>?_⟩
  · rcases lk a o hl with ⟨e,_⟩ | ⟨n1,n2,hl⟩
    · subst e
      exact .inl ⟨h.dom a _ hm,hmk⟩
    · exact .inl ⟨h.dom a o hl,n2⟩
  · rcases lk a _ hl with ⟨e,e2⟩ | ⟨n1,n2,hl⟩
    · cases e2
      subst e
      rcases hd with hd | hd
      · have:=h.gen _ _ _ _ _ _ hm hd.1
        omega
      · omega
    · rcases hd with hd | hd
      · exact h.gen a t s g1 els1 g' hl hd.1
      · exact absurd hd.1 n1
  · rcases lk a _ hl with ⟨e,e2⟩ | ⟨n1,n2,hl⟩
    · cases e2
      exact .inr ⟨e,rfl⟩
    · exact .inl ⟨h.gdm a t s g1 els1 hl,n2⟩
  · rcases lk a o hl with ⟨e,e2⟩ | ⟨n1,n2,hl⟩
    · subst e
      rw [b1] at hb
      exact h.liv k _ b hr hb
    · rw [b2 a n1] at hb
      exact h.liv a o b hl hb
  · rcases lk a o hl with ⟨e,e2⟩ | ⟨n1,n2,hL⟩
    · rcases lk a' o' hl' with ⟨e',_⟩ | ⟨n1',n2',hL'⟩
      · rw [e,e']
      · rw [e,b1] at hb
        rw [b2 a' n1'] at hb'
        exact absurd (h.inj k a' _ o' b hr hL' hb hb').symm n2'
    · rcases lk a' o' hl' with ⟨e',_⟩ | ⟨n1',n2',hL'⟩
      · rw [e',b1] at hb'
        rw [b2 a n1] at hb
        exact absurd (h.inj a k o _ b hL hr hb hb') n2
      · rw [b2 a n1] at hb
        rw [b2 a' n1'] at hb'
        exact h.inj a a' o o' b hL hL' hb hb'
  · rcases lk a o hl with ⟨e,e2⟩ | ⟨n1,n2,hl⟩
    · subst e
      subst e2
      obtain ⟨h1,h2⟩:=h.obj k _ hr
      have e2 : (x.reb k a (g0 + 1)).γ a = x.γ k:=if_pos rfl
      refine ⟨h1,?_⟩
      rw [b1,e2]
      exact h2
    · have h1:=(h.obj a o hl).only_ (H:=hp) (fun _ _ h=>h) (d:=off1 k) (hfr a o hl n2)
      exact h1.mono (reb_mo h hr hm) (b2 a n1) (g2 a n1) (fun _ _=>rfl)
end
theorem Sub.rebB {s : St} {b j k g sz lo n m g0 sz0 : Nat} {t rt rt0 : TypeId} {cs : List AV} {els els0 : List (List AV)} (hb : look s.hp b = some (.box t cs)) (hj : cs[j]? = some (.row k g sz lo n)) (hr : look s.hp k = some (.row rt sz g els)) (hsp : look s.hp m = some (.row rt0 sz0 g0 els0)) (h1 : s.lo ≤ k)
    (hf : ((b != m && m != k) && ((cs.set j .dead).all (AV.in1 (off1 k)) && ((s.tm).all (fun p=>p.2.in3 (off1 k)) && (delA b (delA k s.hp)).all fun p=>p.2.inD (off1 k)))) = true) :
    Sub s { s with hp:=Cb b (.box t (cs.set j (.row m (g0 + 1) sz lo n))) (Cb m (.row rt sz (g0 + 1) els) (delA k s.hp)) }:=fun B a w ⟨x,hC⟩=>by
  simp only [Bool.and_eq_true,bne_iff_ne] at hf
  obtain ⟨⟨hbi,hmk⟩,hcs,htm,hhp⟩:=hf
  have hbid : b ≠ k:=fun e=>by
    rw [e,hr] at hb
    cases hb
  obtain ⟨bb,vs,e1,e2,e3,e4,e5⟩:=hC.h.obj b _ hb
  have hjl:=lt_of_get hj
  have stD:=Stp.boxSet hC.h hb e1 e2 (cs':=cs.set j .dead) (vs':=vs) (by simpa using e3) e4 (fun i u hu=>by
    rw [List.getElem?_set] at hu
    split at hu
    · injection hu with hu
      subst hu
      exact .dead _
    · exact e5 i u hu)
  rw [setRow_self w bb vs t (0,0) e2] at stD
  have hval:=e5 j _ hj
  obtain ⟨hp1,hhp1⟩ : ∃ hp1,hp1 = Cb b (.box t (cs.set j .dead)) s.hp:=⟨_,rfl⟩
  rw [← hhp1] at stD
  have hr1 : look hp1 k = some (.row rt sz g els):=by rw [hhp1,look_setA,if_neg (Ne.symm hbid)]; exact hr
  have hm1 : look hp1 m = some (.row rt0 sz0 g0 els0):=by rw [hhp1,look_setA,if_neg (Ne.symm hbi)]; exact hsp
  have hfr : ∀ a o,look hp1 a = some o → a ≠ k → o.inD (off1 k) = true:=fun a o hl ha=>by
    rw [hhp1,look_setA] at hl
    split at hl
    · rename_i e
      injection hl with hl
      subst hl
      exact hcs
    · rename_i e
      have : look (delA b (delA k s.hp)) a = some o:=by rw [look_delA,if_neg e,look_delA,if_neg ha]; exact hl
      exact look_all hhp this
  have hH:=reb_h stD.h hr1 hm1 hmk hfr
  have hm:=reb_mo stD.h hr1 hm1
  have hlt : ∀ a g,B.x.dom a g → a ≠ k:=fun a g hd=>by
    have:=hC.lo a g hd
    omega
  have hmB : Mo B.w B.x B.hp w (x.only (off1 k)) hp1:=by
    have m1:=hC.mo.trans stD.mo
    refine ⟨m1.ok,fun a g hd=>⟨m1.dom a g hd,by simpa [off1] using hlt a g hd⟩,m1.ag,m1.box,m1.row,m1.mp⟩
  have hm2:=hmB.trans hm
  have hb2 : look (Cb m (AObj.row rt sz (g0 + 1) els) (delA k hp1)) b = some (.box t (cs.set j .dead)):=by
    rw [look_ren,if_neg hbi,if_neg hbid,hhp1,look_setA,if_pos rfl]
  obtain ⟨bb2,vs2,f1,f2,f3,f4,f5⟩:=hH.obj b _ hb2
  have hβ : (x.reb k m (g0 + 1)).β b = x.β b:=if_neg hbi
  have hbb : bb2 = bb:=by
    rw [hβ,e1] at f1
    injection f1 with f1
    exact f1.symm
  subst hbb
  have hvs : vs2 = vs:=by
    rw [e2] at f2
    injection f2 with f2
    cases f2
    rfl
  subst hvs
  have hval1 : VRel w x hp1 (.row k g sz lo n) (vs2.getD j undef):=hval.mono stD.mo
  have st2:=Stp.boxSet hH hb2 f1 f2 (cs':=cs.set j (.row m (g0 + 1) sz lo n)) (vs':=vs2) (by simpa using f3) f4 (fun i u hu=>by
    rw [List.getElem?_set] at hu
    split at hu
    · rename_i e
      injection hu with hu
      subst hu
      rw [← e]
      exact reb_val hr1 hval1
    · rename_i e
      refine f5 i u ?_
      rw [List.getElem?_set,if_neg e]
      exact hu)
  rw [setRow_self w bb2 vs2 t (0,0) f2] at st2
  have hsame : ∀ q,look (Cb b (AObj.box t (cs.set j (.row m (g0 + 1) sz lo n))) (Cb m (AObj.row rt sz (g0 + 1) els) (delA k hp1))) q = look (Cb b (AObj.box t (cs.set j (.row m (g0 + 1) sz lo n))) (Cb m (AObj.row rt sz (g0 + 1) els) (delA k s.hp))) q:=by
    intro q
    by_cases e : q = b
    · simp only [look_setA,if_pos e]
    · simp only [look_setA,if_neg e,look_delA,hhp1]
  have fin : SRel B ⟨s.tm,Cb b (AObj.box t (cs.set j (.row m (g0 + 1) sz lo n))) (Cb m (AObj.row rt sz (g0 + 1) els) (delA k hp1)),s.nx,s.nt,s.lo⟩ a w:=by
    refine ⟨x.reb k m (g0 + 1),st2.h,fun t u ht=>?_,hC.n,hC.d,?_,hm2.trans st2.mo,hC.lo,hC.ln,fun a g hd=>?_⟩
    · exact ((((hC.t t u ht).mono stD.mo).in3_ (look_all htm ht)).mono hm).mono st2.mo
    · have t1 : Tr B.w B.x B.hp w (x.reb k m (g0 + 1)) (Cb m (AObj.row rt sz (g0 + 1) els) (delA k hp1)):=by
        have t0:=hC.tr.trans stD.tr
        refine ⟨t0.os,t0.tape,t0.output,t0.size,t0.keep,t0.okx,fun a o b hl hb=>?_⟩
        rw [look_ren] at hl
        split at hl
        · rename_i e
          subst e
          have hb : (if a = a then x.β k else x.β a) = some b:=hb
          rw [if_pos rfl] at hb
          exact t0.newb k _ b hr1 hb
        · rename_i e
          split at hl
          · cases hl
          · have hb : (if a = m then x.β k else x.β a) = some b:=hb
            rw [if_neg e] at hb
            exact t0.newb a o b hl hb
      exact t1.trans st2.tr
    · rcases hd with hd | hd
      · exact hC.dom a g hd.1
      · have:=hC.dom m 0 (hC.h.dom m _ hsp)
        show a < s.nx
        rw [hd.1]
        exact this
  refine SRel.eqv ?_ fin
  exact ⟨fun _=>rfl,hsame,rfl,rfl,rfl⟩
def AV.lend0F (H : Hp) : AV → AV
  | .dat sz els i off=>.dat sz els i off
  | v=>v.lend0 H
def AV.lendF (H : Hp) : AV → AV
  | .fn f a b=>.fn f (a.map (AV.lend0F H)) (b.map (AV.lend0F H))
  | v=>v.lend1 H
theorem VRel.lend0F (P : Program) {w : World} {x : Cx} {H : Hp} (h : HRel w x H) {u : AV} {v : Value} (hv : VRel w x H u v) : VRel w (x.lent H) [] (u.lend0F H) v:=by
  unfold AV.lend0F
  split
  · rename_i sz els i off
    cases hv with
    | dat h=>cases h
    | datp _ _ _ _ a vals hok hsz hcell hd=>exact VRel.datp (x:=x.lent H) els i off sz a vals (Or.inl hok) hsz hcell (fun cs j u h1 h2=>(hd cs j u h1 h2).mono (fun b hb=>Or.inl hb) (fun _ _=>rfl))
  · exact hv.lend0 P h
theorem VRel.lendF (P : Program) {w : World} {x : Cx} {H : Hp} (h : HRel w x H) {u : AV} {v : Value} (hv : VRel w x H u v) : VRel w (x.lent H) [] (u.lendF H) v:=by
  unfold AV.lendF
  split
  · rename_i f a b
    cases hv with
    | dat h=>cases h
    | fn _ _ _ fs cs hl hl' h1 h2=>
      refine .fn f _ _ fs cs (by simpa using hl) (by simpa using hl') (fun i u hu=>?_) (fun i u hu=>?_)
      · obtain ⟨a,ha,rfl⟩:=map_at hu
        exact (h1 i a ha).lend0F P h
      · obtain ⟨a,ha,rfl⟩:=map_at hu
        exact (h2 i a ha).lend0F P h
  · exact hv.lend1 P h
theorem Ctr.borrowF {P : Program} {f : FuncId} {args args0 : List AV} {H : Hp} {r : AV} (hc : Ctr P f args0 [] r []) (ha : args.map (AV.lendF H) = args0) (hr : r.rawy = true) : Ctr P f args H r H:=by
  refine ⟨hc.1,fun w x vals hx hdom hsz hargs=>?_⟩
  have hx0 : HRel w (x.lent H) []:=by
    refine ⟨fun b hb=>?_,fun id o hl=>by simp [look] at hl,fun id t sz g els g' hl=>by simp [look] at hl,fun id t sz g els hl=>by simp [look] at hl,fun id o b hl=>by simp [look] at hl,fun id id' o o' b hl=>by simp [look] at hl,fun id o hl=>by simp [look] at hl⟩
    rcases hb with h1 | ⟨id,o,h1,h2⟩
    · exact hx.okb b h1
    · exact (hx.liv id o b h1 h2).1
  refine Calls.mono (hc.2 w (x.lent H) vals hx0 (fun id g hd=>False.elim hd) (by rw [← ha]; simpa using hsz) (fun i u hu=>?_)) ?_
  · rw [← ha] at hu
    obtain ⟨a,ha',rfl⟩:=map_at hu
    exact (hargs i a ha').lendF P hx
  · rintro e w' ⟨v,x',e1,st,e3,e4⟩
    have m:=st.mo
    have t:=st.tr
    have hb : ∀ id o b,look H id = some o → x.β id = some b → w'.heap[b]? = w.heap[b]?:=fun id o b h1 h2=>m.ag b (.inr ⟨id,o,h1,h2⟩)
    have mo : Mo w x H w' x H:=⟨fun _ h=>h,fun _ _ h=>h,fun b hb=>m.ag b (.inl hb),fun _ _ h=>⟨h,rfl⟩,fun _ _ _ _ h=>⟨h,rfl,rfl⟩,fun _ _ h=>⟨h,rfl⟩⟩
    refine ⟨v,x,e1,⟨mo,⟨t.os,t.tape,t.output,t.size,fun b hb _=>t.keep b hb (fun id o hl=>by simp [look] at hl),fun b hb=>.inl hb,fun id o b h1 h2=>.inr ⟨id,o,h1,h2⟩⟩,⟨fun b hb=>Nat.lt_of_lt_of_le (hx.okb b hb) t.size,hx.dom,hx.gen,hx.gdm,fun id o b h1 h2=>⟨Nat.lt_of_lt_of_le (hx.liv id o b h1 h2).1 t.size,(hx.liv id o b h1 h2).2⟩,hx.inj,fun id o hl=>(hx.obj id o hl).mono mo rfl rfl (fun b h2=>hb id o b hl h2)⟩⟩,e3.rawy_ hr,fun id g hd=>.inr (hdom id g hd)⟩
attribute [push_cast] AV.lendF AV.lend0F
noncomputable def Rz (a0 : Bd) (a1 : UInt32) : Option (Bool × UInt32):=
  some (((a0.Key.toNat : Int) == (a1.toNat : Int)),a1)
theorem En0 {a0 : Bd} {a1 : UInt32} {r : Bool × UInt32} (h : Rz a0 a1 = some r) : Ctr prog 101 [.agg (Av a0),.ref 0 0] [(0,.box 25 (Ax a1))] (rb r.1) [(0,.box 25 (Ax r.2))]:=by
 unfold Rz at h;refine Ctr.ofW Ba func101 rfl call101 1 _ ntmps101 [.tmp 3] rfl rfl rfl (fun B=>?_);refine vs [1,2] fun _ k=>?_;push_cast;apply k;clear k;refine vs [3] fun _ k=>?_;push_cast;apply k;clear k;refine VC.ret ?_;replace h:=Option.some.inj h;subst h;exact en (by push_cast)
noncomputable def Bq (a0 : (List Bd)) (i_1 : UInt32) (i_2 : Int) : Option ((UInt32 × Int) ⊕ ((UInt32) ⊕ (Int × UInt32))):=
  cond (decide (i_2 < (a0.length : Int))) (
  po (idx a0 i_2) fun x4=>
  po (Rz x4 i_1) fun r5=>
  cond r5.1 (
  some (Sum.inr (Sum.inr (i_2,r5.2)))) (
  some (Sum.inl (r5.2,(IntKind.i64.wrap (i_2 + 1)))))) (
  some (Sum.inr (Sum.inl i_1)))
noncomputable def Dm (i_5 : UInt32) : Option (Int × UInt32):=
  some (-1,i_5)
noncomputable def Bm (a0 : (List Bd)) (a1_c0 : UInt32) : Option (Int × UInt32):=
  pm (
  lpU (fun x=>Bq a0 x.1 x.2) (a1_c0,0)) (fun x=>Dm x)
theorem Ll {a0 : (List Bd)} {a1_c0 : UInt32} {r : Int × UInt32} (h : Bm a0 a1_c0 = some r) : Ctr prog 100 [.sl false (a0.map Av),.fn (.func 101) [] [.ref 0 0]] [(0,.box 25 (Ax a1_c0))] (ri r.1) [(0,.box 25 (Ax r.2))]:=by
 unfold Bm at h;refine Ctr.ofW Ba func100 rfl call100 1 _ ntmps100 [.tmp 4] rfl rfl rfl (fun B=>?_);refine vs [0,1] fun _ k=>?_;push_cast;apply k;clear k;refine vm h (fun x=>⟨[],[(0,.box 25 [ru x])],17,19,1⟩) (fun v1 h hk1=>?_) ?_
 ·refine vs [0,1,7,8] fun _ k=>?_;push_cast;apply k;clear k;refine VC.block ?_;refine VC.loopP h (fun x=>⟨[(0,.sl false (a0.map Av)),(1,.fn (.func 101) [] [.ref 0 0]),(7,ri (a0.length : Int)),(8,ri x.2)],[(0,.box 25 [ru x.1])],16,19,1⟩) ?_ ?_
  ·exact sl (by push_cast)
  rintro ⟨i_1,i_2⟩ b2 (h : Bq a0 i_1 i_2 = some b2) hf2;(try push_cast);unfold Bq at h;refine vs [0,1,7,8,9] fun _ k=>?_;push_cast;apply k;clear k;refine VC.seq ?_;refine vc h (fun hb3 h=>?_) (fun hb3 h=>?_)
  ·refine VC.skip ?_;refine VC.seq ?_;refine VC.block ?_;refine vs [0,1,5,7,8] fun _ k=>?_;push_cast;apply k;clear k;obtain ⟨x4,hx4,h⟩:=Aa h;replace hx4:=Bh hx4;obtain ⟨r5,hr5,h⟩:=Aa h;refine vs [0,1,5,7,8,16] fun _ k=>?_;push_cast [hx4];(repeat refine ao ?_);refine ch (H:=[(0,.box 25 [ru i_1])]) (Ctr.loH (Ctr.ren Bij.id (En0 hr5) (by push_cast [hx4]) (by push_cast [hx4]))) (by push_cast [hx4]) ?_;push_cast [hx4];(repeat refine ao ?_);apply k;clear k;refine VC.sub (s':=⟨[(0,.sl false (a0.map Av)),(1,.fn (.func 101) [] [.ref 0 0]),(5,ri i_2),(7,ri (a0.length : Int)),(8,ri i_2),(16,rb r5.1)],[(0,.box 25 [ru r5.2])],25,19,1⟩) (so (by push_cast [hb3])) ?_;refine vc h (fun hb6 h=>?_) (fun hb6 h=>?_)
   ·refine vs [4] fun _ k=>?_;push_cast;apply k;clear k;refine VC.ret ?_;replace h:=ol h hf2;replace h:=om h hk1;replace h:=Option.some.inj h;subst h;exact en (by push_cast [hb3,hb6])
   ·refine VC.skip ?_;refine vl fun _ k=>?_;push_cast;apply k;clear k;refine bk h ?_;exact sl (by push_cast [hb3,hb6])
  ·refine VC.exit ?_;replace h:=ol h hf2;refine am h hk1 ?_;exact sl (by push_cast [hb3])
 ·rintro i_5 (h : Dm i_5 = some r);(try push_cast);unfold Dm at h;refine vs [4] fun _ k=>?_;push_cast;apply k;clear k;refine VC.ret ?_;replace h:=Option.some.inj h;subst h;exact en (by push_cast)
noncomputable def Dd (a0 : (List Bd)) (a1 : UInt32) : Option (Int):=
  po (Bm a0 a1) fun r1=>
  some r1.1
theorem Rq {a0 : (List Bd)} {a1 : UInt32} {r : Int} (h : Dd a0 a1 = some r) : Ctr prog 64 [.sl false (a0.map Av),ru a1] [] (ri r) []:=by
 unfold Dd at h;refine Ctr.ofW Ba func64 rfl call64 0 _ ntmps64 [.tmp 4] rfl rfl rfl (fun B=>?_);refine vs [0,3] fun _ k=>?_;push_cast;apply k;clear k;obtain ⟨r1,hr1,h⟩:=Aa h;refine vs [4] fun _ k=>?_;push_cast;refine ch (H:=[(0,.box 25 [ru a1])]) (Ctr.loH (Ctr.ren Bij.id (Ll hr1) (by push_cast) (by push_cast))) (by push_cast) ?_;push_cast;apply k;clear k;refine VC.sub (s':=⟨[(4,ri r1.1)],[],6,8,0⟩) (so (by push_cast)) ?_;refine VC.ret ?_;replace h:=Option.some.inj h;subst h;exact en (by push_cast)
noncomputable def Qq (a0 : UInt32) (a1 : Ap) : Option (Bool):=
  po (Dd a1.E a0) fun r1=>
  some (decide (r1 < 0))
theorem Dt0 {a0 : UInt32} {a1 : Ap} {r : Bool} (h : Qq a0 a1 = some r) : Ctr prog 96 [ru a0,.dat 6 [Bb a1] 0 0] [] (rb r) []:=by
 unfold Qq at h;refine Ctr.ofW Ba func96 rfl call96 0 _ ntmps96 [.tmp 3] rfl rfl rfl (fun B=>?_);refine vs [0,1] fun _ k=>?_;push_cast;apply k;clear k;obtain ⟨r1,hr1,h⟩:=Aa h;refine vs [3] fun _ k=>?_;push_cast;refine cp (Rq hr1) ?_;push_cast;apply k;clear k;refine VC.ret ?_;replace h:=Option.some.inj h;subst h;exact en (by push_cast)
noncomputable def Rc (a0 : Bd) (a1 : Ap) : Option (Bool):=
  po (Dd a1.E a0.Key) fun r1=>
  some (decide (r1 < 0))
theorem Dy0 {a0 : Bd} {a1 : Ap} {r : Bool} (h : Rc a0 a1 = some r) : Ctr prog 98 [.agg (Av a0),.dat 6 [Bb a1] 0 0] [] (rb r) []:=by
 unfold Rc at h;refine Ctr.ofW Ba func98 rfl call98 0 _ ntmps98 [.tmp 3] rfl rfl rfl (fun B=>?_);refine vs [1,2] fun _ k=>?_;push_cast;apply k;clear k;obtain ⟨r1,hr1,h⟩:=Aa h;refine vs [3] fun _ k=>?_;push_cast;refine cp (Rq hr1) ?_;push_cast;apply k;clear k;refine VC.ret ?_;replace h:=Option.some.inj h;subst h;exact en (by push_cast)
def Ew (a0 : List Cv) : Option (List Cv):=pg (a0.length * 32 ≤ 140737488355328) (some a0)
theorem Uk {a0 : List Cv} (h : a0.length * 32 ≤ 140737488355328) : Ew a0 = some a0:=Ep h
theorem Vr {a0 : List Cv} {r : List Cv} (h : Ew a0 = some r) : Ctr prog 93 [.sl false (a0.map Al)] [] (.row 0 0 2 0 r.length) [(0,.row 71 2 0 (r.map Al))]:=by
 unfold Ew at h;obtain ⟨hg,h⟩:=Bs h;have hr:=Option.some.inj h;subst hr;refine Ctr.ofW Ba func93 rfl call93 0 _ ntmps93 [.tmp 2] rfl rfl rfl (fun B=>?_);refine VC.seqF Fb [some 2] [0] rfl rfl fun _ k=>?_;push_cast;apply k;clear k;refine VC.seq ?_;refine VC.seqF Fb [some 3,some 4] [0,4] rfl rfl fun _ k=>?_;push_cast;intro bn hbn;apply k;clear k;refine VC.cond rfl rfl (fun hc=>?_) (fun hc=>?_)
 ·have hn : a0 = []:=by
   have:=hbn hc;cases a0 with
   | nil=>rfl
   | cons _ _=>simp at this
  subst hn;refine VC.seqF Fb [some 2] [2] rfl rfl fun _ k=>?_;push_cast;apply k;clear k;refine VC.ret ?_;refine Cg (Sub.adoptT (k:=2) (e:=71) (sz:=2) rfl) ?_;refine Cg (Sub.renT (k:=2) (i':=0) rfl rfl (Nat.le_of_ble_eq_true rfl) (Nat.le_of_ble_eq_true rfl) rfl) ?_;refine endP (Sub.lo _) (Post.ret ?_ ?_ ?_)
  ·push_cast
  ·push_cast
  ·rfl
 ·refine VC.skip ?_;refine VC.seqF Fb [some 5,some 6,some 7,some 2] [2] rfl rfl fun _ k=>?_;push_cast [hg];(repeat refine ao ?_);apply k;clear k;refine VC.ret ?_;refine Cg (Sub.renT (k:=2) (i':=0) rfl rfl (Nat.le_of_ble_eq_true rfl) (Nat.le_of_ble_eq_true rfl) rfl) ?_;refine endP (Sub.lo _) (Post.ret ?_ ?_ ?_)
  ·push_cast
  ·push_cast
  ·rfl
def Ed (a0 : List Am) : Option (List Am):=pg (a0.length * 56 ≤ 140737488355328) (some a0)
theorem Sb {a0 : List Am} (h : a0.length * 56 ≤ 140737488355328) : Ed a0 = some a0:=Ep h
theorem Uc {a0 : List Am} {r : List Am} (h : Ed a0 = some r) : Ctr prog 94 [.sl false (a0.map Aw)] [] (.row 0 0 7 0 r.length) [(0,.row 37 7 0 (r.map Aw))]:=by
 unfold Ed at h;obtain ⟨hg,h⟩:=Bs h;have hr:=Option.some.inj h;subst hr;refine Ctr.ofW Ba func94 rfl call94 0 _ ntmps94 [.tmp 2] rfl rfl rfl (fun B=>?_);refine VC.seqF Fb [some 2] [0] rfl rfl fun _ k=>?_;push_cast;apply k;clear k;refine VC.seq ?_;refine VC.seqF Fb [some 3,some 4] [0,4] rfl rfl fun _ k=>?_;push_cast;intro bn hbn;apply k;clear k;refine VC.cond rfl rfl (fun hc=>?_) (fun hc=>?_)
 ·have hn : a0 = []:=by
   have:=hbn hc;cases a0 with
   | nil=>rfl
   | cons _ _=>simp at this
  subst hn;refine VC.seqF Fb [some 2] [2] rfl rfl fun _ k=>?_;push_cast;apply k;clear k;refine VC.ret ?_;refine Cg (Sub.adoptT (k:=2) (e:=37) (sz:=7) rfl) ?_;refine Cg (Sub.renT (k:=2) (i':=0) rfl rfl (Nat.le_of_ble_eq_true rfl) (Nat.le_of_ble_eq_true rfl) rfl) ?_;refine endP (Sub.lo _) (Post.ret ?_ ?_ ?_)
  ·push_cast
  ·push_cast
  ·rfl
 ·refine VC.skip ?_;refine VC.seqF Fb [some 5,some 6,some 7,some 2] [2] rfl rfl fun _ k=>?_;push_cast [hg];(repeat refine ao ?_);apply k;clear k;refine VC.ret ?_;refine Cg (Sub.renT (k:=2) (i':=0) rfl rfl (Nat.le_of_ble_eq_true rfl) (Nat.le_of_ble_eq_true rfl) rfl) ?_;refine endP (Sub.lo _) (Post.ret ?_ ?_ ?_)
  ·push_cast
  ·push_cast
  ·rfl
noncomputable def Mh (r2 : (List Bd)) (s_1 : Be) (i_2 : Int) : Option ((Be × Int) ⊕ (Be)):=
  cond (decide (i_2 < (r2.length : Int))) (
  po (idx s_1.To.E i_2) fun x6=>
  po (Cw x6.V) fun r7=>
  pl (s_1.To.E.set i_2.toNat (Bd.mk x6.Key r7)) fun y8=>
  some (Sum.inl ((Be.mk s_1.S s_1.P s_1.Done (Ap.mk s_1.To.S y8 s_1.To.Next)),(IntKind.i64.wrap (i_2 + 1))))) (
  some (Sum.inr s_1))
noncomputable def Kv (r9 : (List Cv)) (s_6 : Be) (i_7 : Int) : Option ((Be × Int) ⊕ (Be)):=
  cond (decide (i_7 < (r9.length : Int))) (
  po (idx s_6.P.Fns i_7) fun x13=>
  po (Ed x13.Code) fun r14=>
  pl (s_6.P.Fns.set i_7.toNat (Cv.mk x13.Args r14)) fun y15=>
  some (Sum.inl ((Be.mk s_6.S (Aq.mk y15) s_6.Done s_6.To),(IntKind.i64.wrap (i_7 + 1))))) (
  some (Sum.inr s_6))
noncomputable def Us (s_10 : Be) : Option (Be):=
  some s_10
noncomputable def Rw (s_5 : Be) : Option (Be):=
  po (Ew s_5.P.Fns) fun r9=>
  po (
  lpU (fun x=>Kv r9 x.1 x.2) ((Be.mk s_5.S (Aq.mk r9) s_5.Done s_5.To),0)) (fun x=>Us x)
noncomputable def Qk (a0 : Be) : Option (Be):=
  po (Cw a0.Done) fun r1=>
  po (Cn a0.To.E) fun r2=>
  po (
  lpU (fun x=>Mh r2 x.1 x.2) ((Be.mk a0.S a0.P r1 (Ap.mk a0.To.S r2 a0.To.Next)),0)) (fun x=>Rw x)
theorem Cy0 {a0 : Be} {r : Be} (h : Qk a0 = some r) : Ctr prog 60 [.agg (Ef a0)] [(0,.row 25 1 0 [])] (.agg [ri r.S.Kind,ri r.S.Cap,ri r.S.Words,ri r.S.Ver,.sl false (r.P.Fns.map Al),.row 0 1 1 0 r.Done.length,ri r.To.S.Kind,ri r.To.S.Cap,ri r.To.S.Words,ri r.To.S.Ver,.row 1 0 2 0 r.To.E.length,ru r.To.Next]) [(0,.row 25 1 1 (r.Done.map Ax)),(1,.row 66 2 0 (r.To.E.map Av))]:=by
 unfold Qk at h;refine Ctr.ofW Ba func60 rfl call60 1 _ ntmps60 [.cell 2 75] rfl rfl rfl (fun B=>?_);refine vs [1,2] fun _ k=>?_;push_cast;apply k;clear k;obtain ⟨r1,hr1,h⟩:=Aa h;refine vs [1,2] fun _ k=>?_;refine Ag 8 fun _ l=>?_;push_cast;(repeat refine .intro (by first | omega | rfl) ?_);apply l;clear l;simp only [List.drop_succ_cons,List.drop_zero];push_cast;(repeat refine .intro (by first | omega | rfl) ?_);refine ch (H:=[]) (Ctr.loH (Ctr.ren (Bij.swp 0 12 Bij.id) (Gq hr1) (by push_cast) (by push_cast))) (by push_cast) ?_;push_cast;(repeat refine .intro (by first | omega | rfl) ?_);apply k;clear k;refine VC.sub (s':=⟨[(1,.ref 1 0),(2,.ref 2 0)],[(0,.row 25 1 0 ([].map Ax)),(1,.box 75 [ri a0.S.Kind,ri a0.S.Cap,ri a0.S.Words,ri a0.S.Ver,.sl false (a0.P.Fns.map Al),.row 12 0 1 0 r1.length,ri a0.To.S.Kind,ri a0.To.S.Cap,ri a0.To.S.Words,ri a0.To.S.Ver,.sl false (a0.To.E.map Av),ru a0.To.Next]),(2,.box 75 [ri 0,ri 0,ri 0,ri 0,.sl true [],.sl true [],ri 0,ri 0,ri 0,ri 0,.sl true [],.raw (.int .u32 0)]),(12,.row 25 1 0 (r1.map Ax))],15,69,1⟩) (so (by push_cast)) ?_;obtain ⟨r2,hr2,h⟩:=Aa h;refine vs [1,2] fun _ k=>?_;push_cast;refine ch (H:=[]) (Ctr.loH (Ctr.ren (Bij.swp 0 18 Bij.id) (Hc hr2) (by push_cast) (by push_cast))) (by push_cast) ?_;push_cast;apply k;clear k;refine VC.sub (s':=⟨[(1,.ref 1 0),(2,.ref 2 0)],[(0,.row 25 1 0 ([].map Ax)),(1,.box 75 [ri a0.S.Kind,ri a0.S.Cap,ri a0.S.Words,ri a0.S.Ver,.sl false (a0.P.Fns.map Al),.row 12 0 1 0 r1.length,ri a0.To.S.Kind,ri a0.To.S.Cap,ri a0.To.S.Words,ri a0.To.S.Ver,.row 18 0 2 0 r2.length,ru a0.To.Next]),(2,.box 75 [ri 0,ri 0,ri 0,ri 0,.sl true [],.sl true [],ri 0,ri 0,ri 0,ri 0,.sl true [],.raw (.int .u32 0)]),(12,.row 25 1 0 (r1.map Ax)),(18,.row 66 2 0 (r2.map Av))],22,69,1⟩) (so (by push_cast)) ?_;refine vj h (fun x=>⟨[(1,.ref 1 0),(2,.ref 2 0)],[(0,.row 25 1 0 ([].map Ax)),(1,.box 75 [ri x.S.Kind,ri x.S.Cap,ri x.S.Words,ri x.S.Ver,.sl false (x.P.Fns.map Al),.row 12 0 1 0 x.Done.length,ri x.To.S.Kind,ri x.To.S.Cap,ri x.To.S.Words,ri x.To.S.Ver,.row 18 0 2 0 x.To.E.length,ru x.To.Next]),(2,.box 75 [ri 0,ri 0,ri 0,ri 0,.sl true [],.sl true [],ri 0,ri 0,ri 0,ri 0,.sl true [],.raw (.int .u32 0)]),(12,.row 25 1 0 (x.Done.map Ax)),(18,.row 66 2 0 (x.To.E.map Av))],47,69,1⟩) (fun v3 h hk3=>?_) ?_
 ·refine vs [1,2,26,27,28] fun _ k=>?_;push_cast;apply k;clear k;refine VC.block ?_;refine VC.loopP h (fun x=>⟨[(1,.ref 1 0),(2,.ref 2 0),(26,.row 18 0 2 0 x.1.To.E.length),(27,ri (r2.length : Int)),(28,ri x.2)],[(0,.row 25 1 0 ([].map Ax)),(1,.box 75 [ri x.1.S.Kind,ri x.1.S.Cap,ri x.1.S.Words,ri x.1.S.Ver,.sl false (x.1.P.Fns.map Al),.row 12 0 1 0 x.1.Done.length,ri x.1.To.S.Kind,ri x.1.To.S.Cap,ri x.1.To.S.Words,ri x.1.To.S.Ver,.row 18 0 2 0 x.1.To.E.length,ru x.1.To.Next]),(2,.box 75 [ri 0,ri 0,ri 0,ri 0,.sl true [],.sl true [],ri 0,ri 0,ri 0,ri 0,.sl true [],.raw (.int .u32 0)]),(12,.row 25 1 0 (x.1.Done.map Ax)),(18,.row 66 2 0 (x.1.To.E.map Av))],46,69,1⟩) ?_ ?_
  ·exact so (by push_cast)
  rintro ⟨s_1,i_2⟩ b4 (h : Mh r2 s_1 i_2 = some b4) hf4;(try push_cast);unfold Mh at h;refine vs [1,2,26,27,28,29] fun _ k=>?_;push_cast;apply k;clear k;refine VC.seq ?_;refine vc h (fun hb5 h=>?_) (fun hb5 h=>?_)
  ·refine VC.skip ?_;refine VC.seq ?_;refine VC.block ?_;obtain ⟨x6,hx6,h⟩:=Aa h;replace hx6:=Bh hx6;refine vs [1,2,3,4,26,27,28] fun _ k=>?_;push_cast [hx6];(repeat refine ao ?_);apply k;clear k;obtain ⟨r7,hr7,h⟩:=Aa h;obtain ⟨y8,hy8,h⟩:=Bo h;have hy8l : y8.length = s_1.To.E.length:=by rw [hy8,List.length_set]
   refine vlD [some 33,some 34,some 35,some 36,some 37,some 38,some 39,some 40,some 41,none] fun _ k=>?_;push_cast [hx6];(repeat refine ao ?_);refine chD (H:=[]) (Ctr.loH (Ctr.ren (Bij.swp 0 59 Bij.id) (Gq hr7) (by push_cast [hx6]) (by push_cast [hx6]))) (by push_cast [hx6]) ?_;push_cast [hx6];(repeat refine ao ?_);refine ⟨rfl,k _ ?_⟩;clear k;refine vl fun _ k=>?_;push_cast;apply k;clear k;refine bk h ?_;exact so (by push_cast [hb5,hy8,hy8l])
  ·refine VC.exit ?_;replace h:=ol h hf4;refine ar h hk3 ?_;exact so (by push_cast [hb5])
 ·rintro s_5 (h : Rw s_5 = some r);(try push_cast);unfold Rw at h;obtain ⟨r9,hr9,h⟩:=Aa h;refine vs [1,2] fun _ k=>?_;push_cast;refine ch (H:=[]) (Ctr.loH (Ctr.ren (Bij.swp 0 50 Bij.id) (Vr hr9) (by push_cast) (by push_cast))) (by push_cast) ?_;push_cast;apply k;clear k;refine VC.sub (s':=⟨[(1,.ref 1 0),(2,.ref 2 0)],[(0,.row 25 1 0 ([].map Ax)),(1,.box 75 [ri s_5.S.Kind,ri s_5.S.Cap,ri s_5.S.Words,ri s_5.S.Ver,.row 50 0 2 0 r9.length,.row 12 0 1 0 s_5.Done.length,ri s_5.To.S.Kind,ri s_5.To.S.Cap,ri s_5.To.S.Words,ri s_5.To.S.Ver,.row 18 0 2 0 s_5.To.E.length,ru s_5.To.Next]),(2,.box 75 [ri 0,ri 0,ri 0,ri 0,.sl true [],.sl true [],ri 0,ri 0,ri 0,ri 0,.sl true [],.raw (.int .u32 0)]),(12,.row 25 1 0 (s_5.Done.map Ax)),(18,.row 66 2 0 (s_5.To.E.map Av)),(50,.row 71 2 0 (r9.map Al))],54,69,1⟩) (so (by push_cast)) ?_;refine vj h (fun x=>⟨[(1,.ref 1 0),(2,.ref 2 0)],[(0,.row 25 1 0 ([].map Ax)),(1,.box 75 [ri x.S.Kind,ri x.S.Cap,ri x.S.Words,ri x.S.Ver,.row 50 0 2 0 x.P.Fns.length,.row 12 0 1 0 x.Done.length,ri x.To.S.Kind,ri x.To.S.Cap,ri x.To.S.Words,ri x.To.S.Ver,.row 18 0 2 0 x.To.E.length,ru x.To.Next]),(2,.box 75 [ri 0,ri 0,ri 0,ri 0,.sl true [],.sl true [],ri 0,ri 0,ri 0,ri 0,.sl true [],.raw (.int .u32 0)]),(12,.row 25 1 0 (x.Done.map Ax)),(18,.row 66 2 0 (x.To.E.map Av)),(50,.row 71 2 0 (x.P.Fns.map Al))],79,69,1⟩) (fun v10 h hk10=>?_) ?_
  ·refine vs [1,2,51,52,53] fun _ k=>?_;push_cast;apply k;clear k;refine VC.block ?_;refine VC.loopP h (fun x=>⟨[(1,.ref 1 0),(2,.ref 2 0),(51,.row 50 0 2 0 x.1.P.Fns.length),(52,ri (r9.length : Int)),(53,ri x.2)],[(0,.row 25 1 0 ([].map Ax)),(1,.box 75 [ri x.1.S.Kind,ri x.1.S.Cap,ri x.1.S.Words,ri x.1.S.Ver,.row 50 0 2 0 x.1.P.Fns.length,.row 12 0 1 0 x.1.Done.length,ri x.1.To.S.Kind,ri x.1.To.S.Cap,ri x.1.To.S.Words,ri x.1.To.S.Ver,.row 18 0 2 0 x.1.To.E.length,ru x.1.To.Next]),(2,.box 75 [ri 0,ri 0,ri 0,ri 0,.sl true [],.sl true [],ri 0,ri 0,ri 0,ri 0,.sl true [],.raw (.int .u32 0)]),(12,.row 25 1 0 (x.1.Done.map Ax)),(18,.row 66 2 0 (x.1.To.E.map Av)),(50,.row 71 2 0 (x.1.P.Fns.map Al))],78,69,1⟩) ?_ ?_
   ·exact so (by push_cast)
   rintro ⟨s_6,i_7⟩ b11 (h : Kv r9 s_6 i_7 = some b11) hf11;(try push_cast);unfold Kv at h;refine vs [1,2,51,52,53,54] fun _ k=>?_;push_cast;apply k;clear k;refine VC.seq ?_;refine vc h (fun hb12 h=>?_) (fun hb12 h=>?_)
   ·refine VC.skip ?_;refine VC.seq ?_;refine VC.block ?_;obtain ⟨x13,hx13,h⟩:=Aa h;replace hx13:=Bh hx13;refine vs [1,2,5,6,51,52,53] fun _ k=>?_;push_cast [hx13];(repeat refine ao ?_);apply k;clear k;obtain ⟨r14,hr14,h⟩:=Aa h;obtain ⟨y15,hy15,h⟩:=Bo h;have hy15l : y15.length = s_6.P.Fns.length:=by rw [hy15,List.length_set]
    refine vlD [some 58,some 59,some 60,some 61,some 62,some 63,some 64,some 65,some 66,none] fun _ k=>?_;push_cast [hx13];(repeat refine ao ?_);refine chD (H:=[]) (Ctr.loH (Ctr.ren (Bij.swp 0 91 Bij.id) (Uc hr14) (by push_cast [hx13]) (by push_cast [hx13]))) (by push_cast [hx13]) ?_;push_cast [hx13];(repeat refine ao ?_);refine ⟨rfl,k _ ?_⟩;clear k;refine vl fun _ k=>?_;push_cast;apply k;clear k;refine bk h ?_;exact so (by push_cast [hb12,hy15,hy15l])
   ·refine VC.exit ?_;replace h:=ol h hf11;refine ar h hk10 ?_;exact so (by push_cast [hb12])
  ·rintro s_10 (h : Us s_10 = some r);(try push_cast);unfold Us at h;refine vs [2] fun _ k=>?_;push_cast;apply k;clear k;refine VC.ret ?_;replace h:=Option.some.inj h;subst h;refine Cg (so (s':=⟨[(2,.ref 2 0)],[(0,.row 25 1 0 ([].map Ax)),(2,.box 75 [ri s_10.S.Kind,ri s_10.S.Cap,ri s_10.S.Words,ri s_10.S.Ver,.row 50 0 2 0 s_10.P.Fns.length,.row 12 0 1 0 s_10.Done.length,ri s_10.To.S.Kind,ri s_10.To.S.Cap,ri s_10.To.S.Words,ri s_10.To.S.Ver,.row 18 0 2 0 s_10.To.E.length,ru s_10.To.Next]),(12,.row 25 1 0 (s_10.Done.map Ax)),(18,.row 66 2 0 (s_10.To.E.map Av)),(50,.row 71 2 0 (s_10.P.Fns.map Al))],81,69,1⟩) (by push_cast)) ?_;refine Cg (Sub.freeze prog (b:=2) (j:=4) rfl rfl rfl (by push_cast <;> omega) (by decide)) ?_;refine Cg (Sub.rebB (b:=2) (j:=5) (m:=0) rfl rfl rfl rfl (Nat.le_of_ble_eq_true rfl) rfl) ?_;refine Cg (Sub.renB (b:=2) (j:=10) (i':=1) rfl rfl rfl (Nat.le_of_ble_eq_true rfl) (Nat.le_of_ble_eq_true rfl) rfl) ?_;exact en (by push_cast)
noncomputable def Cr (a0 : (List UInt32)) (a1_c0 : Ap) (i_1 : Int) : Option ((Int) ⊕ ((Unit) ⊕ (Int))):=
  cond (decide (i_1 < (a0.length : Int))) (
  po (idx a0 i_1) fun x4=>
  po (Qq x4 a1_c0) fun r5=>
  cond r5 (
  some (Sum.inr (Sum.inr i_1))) (
  some (Sum.inl (IntKind.i64.wrap (i_1 + 1))))) (
  some (Sum.inr (Sum.inl ())))
noncomputable def Ea : Option (Int):=
  some (-1)
noncomputable def Ci (a0 : (List UInt32)) (a1_c0 : Ap) : Option (Int):=
  pm (
  lpU (fun x=>Cr a0 a1_c0 x) 0) (fun x=>Ea)
theorem Nb {a0 : (List UInt32)} {a1_c0 : Ap} {r : Int} (h : Ci a0 a1_c0 = some r) : Ctr prog 133 [.sl false (a0.map Ax),.fn (.func 96) [] [.dat 6 [Bb a1_c0] 0 0]] [] (ri r) []:=by
 unfold Ci at h;refine Ctr.ofW Ba func133 rfl call133 0 _ ntmps133 [.tmp 4] rfl rfl rfl (fun B=>?_);refine vs [0,1] fun _ k=>?_;push_cast;apply k;clear k;refine vm h (fun x=>⟨[],[],16,19,0⟩) (fun v1 h hk1=>?_) ?_
 ·refine vs [0,1,7,8] fun _ k=>?_;push_cast;apply k;clear k;refine VC.block ?_;refine VC.loopP h (fun x=>⟨[(0,.sl false (a0.map Ax)),(1,.fn (.func 96) [] [.dat 6 [Bb a1_c0] 0 0]),(7,ri (a0.length : Int)),(8,ri x)],[],15,19,0⟩) ?_ ?_
  ·exact sl (by push_cast)
  rintro i_1 b2 (h : Cr a0 a1_c0 i_1 = some b2) hf2;(try push_cast);unfold Cr at h;refine vs [0,1,7,8,9] fun _ k=>?_;push_cast;apply k;clear k;refine VC.seq ?_;refine vc h (fun hb3 h=>?_) (fun hb3 h=>?_)
  ·refine VC.skip ?_;refine VC.seq ?_;refine VC.block ?_;refine vs [0,1,5,7,8] fun _ k=>?_;push_cast;apply k;clear k;obtain ⟨x4,hx4,h⟩:=Aa h;replace hx4:=Bh hx4;obtain ⟨r5,hr5,h⟩:=Aa h;refine vs [0,1,5,7,8,16] fun _ k=>?_;push_cast [hx4];(repeat refine ao ?_);refine cp (Dt0 hr5) ?_;push_cast [hx4];(repeat refine ao ?_);apply k;clear k;refine vc h (fun hb6 h=>?_) (fun hb6 h=>?_)
   ·refine vs [4] fun _ k=>?_;push_cast;apply k;clear k;refine VC.ret ?_;replace h:=ol h hf2;replace h:=om h hk1;replace h:=Option.some.inj h;subst h;exact en (by push_cast [hb3,hb6])
   ·refine VC.skip ?_;refine vl fun _ k=>?_;push_cast;apply k;clear k;refine bk h ?_;exact sl (by push_cast [hb3,hb6])
  ·refine VC.exit ?_;replace h:=ol h hf2;refine am h hk1 ?_;exact sl (by push_cast [hb3])
 ·rintro ⟨⟩ (h : Ea = some r);(try push_cast);unfold Ea at h;refine vs [4] fun _ k=>?_;push_cast;apply k;clear k;refine VC.ret ?_;replace h:=Option.some.inj h;subst h;exact en (by push_cast)
noncomputable def Dh (a0 : (List UInt32)) (a1_c0 : Ap) : Option ((List UInt32)):=
  po (Ci a0 a1_c0) fun r1=>
  cond (r1 == -1) (
  some a0) (
  none)
theorem Mz {a0 : (List UInt32)} {a1_c0 : Ap} {r : (List UInt32)} (h : Dh a0 a1_c0 = some r) : Ctr prog 95 [.row 0 0 1 0 a0.length,.fn (.func 96) [] [.dat 6 [Bb a1_c0] 0 0]] [(0,.row 25 1 0 (a0.map Ax))] (.row 0 0 1 0 r.length) [(0,.row 25 1 0 (r.map Ax))]:=by
 unfold Dh at h;refine Ctr.ofW Ba func95 rfl call95 1 _ ntmps95 [.tmp 4] rfl rfl rfl (fun B=>?_);refine vs [0,1] fun _ k=>?_;push_cast;apply k;clear k;obtain ⟨r1,hr1,h⟩:=Aa h;refine vs [0,1,5] fun _ k=>?_;push_cast;refine ch (H:=[(0,.row 25 1 0 (a0.map Ax))]) (H':=_) (Ctr.borrowF (Nb hr1) (by push_cast) rfl) (by push_cast) ?_;push_cast;apply k;clear k;refine VC.seq ?_;refine vs [0,1,5,12] fun _ k=>?_;push_cast;apply k;clear k;refine vc h (fun hb2 h=>?_) (fun hb2 h=>?_)
 ·refine vs [4] fun _ k=>?_;push_cast;apply k;clear k;refine VC.ret ?_;replace h:=Option.some.inj h;subst h;exact en (by push_cast [hb2])
 ·refine VC.skip ?_;refine VC.seq ?_;cases h
noncomputable def Cf (a0 : (List Bd)) (a1_c0 : Ap) (i_1 : Int) : Option ((Int) ⊕ ((Unit) ⊕ (Int))):=
  cond (decide (i_1 < (a0.length : Int))) (
  po (idx a0 i_1) fun x4=>
  po (Rc x4 a1_c0) fun r5=>
  cond r5 (
  some (Sum.inr (Sum.inr i_1))) (
  some (Sum.inl (IntKind.i64.wrap (i_1 + 1))))) (
  some (Sum.inr (Sum.inl ())))
noncomputable def Dj : Option (Int):=
  some (-1)
noncomputable def Bz (a0 : (List Bd)) (a1_c0 : Ap) : Option (Int):=
  pm (
  lpU (fun x=>Cf a0 a1_c0 x) 0) (fun x=>Dj)
theorem Lf {a0 : (List Bd)} {a1_c0 : Ap} {r : Int} (h : Bz a0 a1_c0 = some r) : Ctr prog 100 [.sl false (a0.map Av),.fn (.func 98) [] [.dat 6 [Bb a1_c0] 0 0]] [] (ri r) []:=by
 unfold Bz at h;refine Ctr.ofW Ba func100 rfl call100 0 _ ntmps100 [.tmp 4] rfl rfl rfl (fun B=>?_);refine vs [0,1] fun _ k=>?_;push_cast;apply k;clear k;refine vm h (fun x=>⟨[],[],16,19,0⟩) (fun v1 h hk1=>?_) ?_
 ·refine vs [0,1,7,8] fun _ k=>?_;push_cast;apply k;clear k;refine VC.block ?_;refine VC.loopP h (fun x=>⟨[(0,.sl false (a0.map Av)),(1,.fn (.func 98) [] [.dat 6 [Bb a1_c0] 0 0]),(7,ri (a0.length : Int)),(8,ri x)],[],15,19,0⟩) ?_ ?_
  ·exact sl (by push_cast)
  rintro i_1 b2 (h : Cf a0 a1_c0 i_1 = some b2) hf2;(try push_cast);unfold Cf at h;refine vs [0,1,7,8,9] fun _ k=>?_;push_cast;apply k;clear k;refine VC.seq ?_;refine vc h (fun hb3 h=>?_) (fun hb3 h=>?_)
  ·refine VC.skip ?_;refine VC.seq ?_;refine VC.block ?_;refine vs [0,1,5,7,8] fun _ k=>?_;push_cast;apply k;clear k;obtain ⟨x4,hx4,h⟩:=Aa h;replace hx4:=Bh hx4;obtain ⟨r5,hr5,h⟩:=Aa h;refine vs [0,1,5,7,8,16] fun _ k=>?_;push_cast [hx4];(repeat refine ao ?_);refine cp (Dy0 hr5) ?_;push_cast [hx4];(repeat refine ao ?_);apply k;clear k;refine vc h (fun hb6 h=>?_) (fun hb6 h=>?_)
   ·refine vs [4] fun _ k=>?_;push_cast;apply k;clear k;refine VC.ret ?_;replace h:=ol h hf2;replace h:=om h hk1;replace h:=Option.some.inj h;subst h;exact en (by push_cast [hb3,hb6])
   ·refine VC.skip ?_;refine vl fun _ k=>?_;push_cast;apply k;clear k;refine bk h ?_;exact sl (by push_cast [hb3,hb6])
  ·refine VC.exit ?_;replace h:=ol h hf2;refine am h hk1 ?_;exact sl (by push_cast [hb3])
 ·rintro ⟨⟩ (h : Dj = some r);(try push_cast);unfold Dj at h;refine vs [4] fun _ k=>?_;push_cast;apply k;clear k;refine VC.ret ?_;replace h:=Option.some.inj h;subst h;exact en (by push_cast)
noncomputable def Dc (a0 : (List Bd)) (a1_c0 : Ap) : Option ((List Bd)):=
  po (Bz a0 a1_c0) fun r1=>
  cond (r1 == -1) (
  some a0) (
  none)
theorem Km {a0 : (List Bd)} {a1_c0 : Ap} {r : (List Bd)} (h : Dc a0 a1_c0 = some r) : Ctr prog 97 [.row 0 0 2 0 a0.length,.fn (.func 98) [] [.dat 6 [Bb a1_c0] 0 0]] [(0,.row 66 2 0 (a0.map Av))] (.row 0 0 2 0 r.length) [(0,.row 66 2 0 (r.map Av))]:=by
 unfold Dc at h;refine Ctr.ofW Ba func97 rfl call97 1 _ ntmps97 [.tmp 4] rfl rfl rfl (fun B=>?_);refine vs [0,1] fun _ k=>?_;push_cast;apply k;clear k;obtain ⟨r1,hr1,h⟩:=Aa h;refine vs [0,1,5] fun _ k=>?_;push_cast;refine ch (H:=[(0,.row 66 2 0 (a0.map Av))]) (H':=_) (Ctr.borrowF (Lf hr1) (by push_cast) rfl) (by push_cast) ?_;push_cast;apply k;clear k;refine VC.seq ?_;refine vs [0,1,5,12] fun _ k=>?_;push_cast;apply k;clear k;refine vc h (fun hb2 h=>?_) (fun hb2 h=>?_)
 ·refine vs [4] fun _ k=>?_;push_cast;apply k;clear k;refine VC.ret ?_;replace h:=Option.some.inj h;subst h;exact en (by push_cast [hb2])
 ·refine VC.skip ?_;refine VC.seq ?_;cases h
noncomputable def Mr (s_1 : Be) : Option (Be):=
  some s_1
noncomputable def Nj (a0 : Be) (a1 : Ap) : Option (Be):=
  po (Qk a0) fun r1=>
  po (Dh r1.Done a1) fun r2=>
  po (
  cond (a1.S.Kind != 0) (
  po (Dc r1.To.E a1) fun r5=>
  some (Be.mk r1.S r1.P r2 (Ap.mk r1.To.S r5 r1.To.Next))) (
  some (Be.mk r1.S r1.P r2 r1.To))) (fun x=>Mr x)
theorem Au0 {a0 : Be} {a1 : Ap} {r : Be} (h : Nj a0 a1 = some r) : Ctr prog 62 [.agg (Ef a0),.agg (Bb a1)] [(0,.row 25 1 0 [])] (.agg [ri r.S.Kind,ri r.S.Cap,ri r.S.Words,ri r.S.Ver,.sl false (r.P.Fns.map Al),.row 0 1 1 0 r.Done.length,ri r.To.S.Kind,ri r.To.S.Cap,ri r.To.S.Words,ri r.To.S.Ver,.row 1 0 2 0 r.To.E.length,ru r.To.Next]) [(0,.row 25 1 1 (r.Done.map Ax)),(1,.row 66 2 0 (r.To.E.map Av))]:=by
 unfold Nj at h;refine Ctr.ofW Ba func62 rfl call62 1 _ ntmps62 [.cell 4 75] rfl rfl rfl (fun B=>?_);refine vs [2,3,4] fun _ k=>?_;push_cast;apply k;clear k;refine VC.sub (Sub.freezeP (k:=3) rfl rfl rfl) ?_;refine VC.sub (s':=⟨[(2,.ref 1 0),(3,.dat 6 [Bb a1] 0 0),(4,.ref 3 0)],[(0,.row 25 1 0 ([].map Ax)),(1,.box 75 (Ef a0)),(3,.box 75 [ri 0,ri 0,ri 0,ri 0,.sl true [],.sl true [],ri 0,ri 0,ri 0,ri 0,.sl true [],.raw (.int .u32 0)])],4,24,1⟩) (so (by push_cast)) ?_;refine VC.sub (Sub.spare (e:=25) (sz:=1)) ?_;refine VC.sub (s':=⟨[(2,.ref 1 0),(3,.dat 6 [Bb a1] 0 0),(4,.ref 3 0)],[(0,.row 25 1 0 ([].map Ax)),(1,.box 75 (Ef a0)),(3,.box 75 [ri 0,ri 0,ri 0,ri 0,.sl true [],.sl true [],ri 0,ri 0,ri 0,ri 0,.sl true [],.raw (.int .u32 0)]),(4,.row 25 1 0 ([].map Ax))],5,24,1⟩) (so (by push_cast)) ?_;obtain ⟨r1,hr1,h⟩:=Aa h;refine vs [2,3,4] fun _ k=>?_;push_cast;refine ch (H:=[(4,.row 25 1 0 ([].map Ax))]) (Ctr.loH (Ctr.ren (Bij.swp 1 6 (Bij.swp 0 4 Bij.id)) (Cy0 hr1) (by push_cast) (by push_cast))) (by push_cast) ?_;push_cast;apply k;clear k;refine VC.sub (s':=⟨[(2,.ref 1 0),(3,.dat 6 [Bb a1] 0 0),(4,.ref 3 0)],[(0,.row 25 1 0 ([].map Ax)),(1,.box 75 [ri r1.S.Kind,ri r1.S.Cap,ri r1.S.Words,ri r1.S.Ver,.sl false (r1.P.Fns.map Al),.row 4 1 1 0 r1.Done.length,ri r1.To.S.Kind,ri r1.To.S.Cap,ri r1.To.S.Words,ri r1.To.S.Ver,.row 6 0 2 0 r1.To.E.length,ru r1.To.Next]),(3,.box 75 [ri 0,ri 0,ri 0,ri 0,.sl true [],.sl true [],ri 0,ri 0,ri 0,ri 0,.sl true [],.raw (.int .u32 0)]),(4,.row 25 1 1 (r1.Done.map Ax)),(6,.row 66 2 0 (r1.To.E.map Av))],8,24,1⟩) (so (by push_cast)) ?_;refine VC.sub (Sub.renB (b:=1) (j:=5) (i':=8) rfl rfl rfl (Nat.le_of_ble_eq_true rfl) (Nat.le_of_ble_eq_true rfl) rfl) ?_;refine VC.sub (s':=⟨[(2,.ref 1 0),(3,.dat 6 [Bb a1] 0 0),(4,.ref 3 0)],[(0,.row 25 1 0 ([].map Ax)),(1,.box 75 [ri r1.S.Kind,ri r1.S.Cap,ri r1.S.Words,ri r1.S.Ver,.sl false (r1.P.Fns.map Al),.row 8 0 1 0 r1.Done.length,ri r1.To.S.Kind,ri r1.To.S.Cap,ri r1.To.S.Words,ri r1.To.S.Ver,.row 6 0 2 0 r1.To.E.length,ru r1.To.Next]),(3,.box 75 [ri 0,ri 0,ri 0,ri 0,.sl true [],.sl true [],ri 0,ri 0,ri 0,ri 0,.sl true [],.raw (.int .u32 0)]),(6,.row 66 2 0 (r1.To.E.map Av)),(8,.row 25 1 0 (r1.Done.map Ax))],9,24,1⟩) (so (by push_cast)) ?_;obtain ⟨r2,hr2,h⟩:=Aa h;refine vs [2,3,4] fun _ k=>?_;push_cast;refine ch (H:=[(8,.row 25 1 0 (r1.Done.map Ax))]) (Ctr.loH (Ctr.ren (Bij.swp 0 8 Bij.id) (Mz hr2) (by push_cast) (by push_cast))) (by push_cast) ?_;push_cast;apply k;clear k;refine VC.sub (s':=⟨[(2,.ref 1 0),(3,.dat 6 [Bb a1] 0 0),(4,.ref 3 0)],[(0,.row 25 1 0 ([].map Ax)),(1,.box 75 [ri r1.S.Kind,ri r1.S.Cap,ri r1.S.Words,ri r1.S.Ver,.sl false (r1.P.Fns.map Al),.row 8 0 1 0 r2.length,ri r1.To.S.Kind,ri r1.To.S.Cap,ri r1.To.S.Words,ri r1.To.S.Ver,.row 6 0 2 0 r1.To.E.length,ru r1.To.Next]),(3,.box 75 [ri 0,ri 0,ri 0,ri 0,.sl true [],.sl true [],ri 0,ri 0,ri 0,ri 0,.sl true [],.raw (.int .u32 0)]),(6,.row 66 2 0 (r1.To.E.map Av)),(8,.row 25 1 0 (r2.map Ax))],15,24,1⟩) (so (by push_cast)) ?_;refine vj h (fun x=>⟨[(2,.ref 1 0),(4,.ref 3 0)],[(0,.row 25 1 0 ([].map Ax)),(1,.box 75 [ri x.S.Kind,ri x.S.Cap,ri x.S.Words,ri x.S.Ver,.sl false (x.P.Fns.map Al),.row 8 0 1 0 x.Done.length,ri x.To.S.Kind,ri x.To.S.Cap,ri x.To.S.Words,ri x.To.S.Ver,.row 6 0 2 0 x.To.E.length,ru x.To.Next]),(3,.box 75 [ri 0,ri 0,ri 0,ri 0,.sl true [],.sl true [],ri 0,ri 0,ri 0,ri 0,.sl true [],.raw (.int .u32 0)]),(6,.row 66 2 0 (x.To.E.map Av)),(8,.row 25 1 0 (x.Done.map Ax))],27,24,1⟩) (fun v3 h hk3=>?_) ?_
 ·refine vs [2,3,4,15] fun _ k=>?_;push_cast;apply k;clear k;refine vc h (fun hb4 h=>?_) (fun hb4 h=>?_)
  ·obtain ⟨r5,hr5,h⟩:=Aa h;refine vl fun _ k=>?_;push_cast;refine ch (H:=[(6,.row 66 2 0 (r1.To.E.map Av))]) (Ctr.loH (Ctr.ren (Bij.swp 0 6 Bij.id) (Km hr5) (by push_cast) (by push_cast))) (by push_cast) ?_;push_cast;apply k;clear k;refine ar h hk3 ?_;exact so (by push_cast [hb4])
  ·refine VC.skip ?_;refine ar h hk3 ?_;exact so (by push_cast [hb4])
 ·rintro s_1 (h : Mr s_1 = some r);(try push_cast);unfold Mr at h;refine vs [4] fun _ k=>?_;push_cast;apply k;clear k;refine VC.ret ?_;replace h:=Option.some.inj h;subst h;refine Cg (so (s':=⟨[(4,.ref 3 0)],[(0,.row 25 1 0 ([].map Ax)),(3,.box 75 [ri s_1.S.Kind,ri s_1.S.Cap,ri s_1.S.Words,ri s_1.S.Ver,.sl false (s_1.P.Fns.map Al),.row 8 0 1 0 s_1.Done.length,ri s_1.To.S.Kind,ri s_1.To.S.Cap,ri s_1.To.S.Words,ri s_1.To.S.Ver,.row 6 0 2 0 s_1.To.E.length,ru s_1.To.Next]),(6,.row 66 2 0 (s_1.To.E.map Av)),(8,.row 25 1 0 (s_1.Done.map Ax))],29,24,1⟩) (by push_cast)) ?_;refine Cg (Sub.rebB (b:=3) (j:=5) (m:=0) rfl rfl rfl rfl (Nat.le_of_ble_eq_true rfl) rfl) ?_;refine Cg (Sub.renB (b:=3) (j:=10) (i':=1) rfl rfl rfl (Nat.le_of_ble_eq_true rfl) (Nat.le_of_ble_eq_true rfl) rfl) ?_;exact en (by push_cast)
noncomputable def Qu (i_1 : Bool) : Option (Bool):=
  some i_1
noncomputable def Oy (a0 : Be) (a1 : Ap) : Option (Bool):=
  po (
  po (En a1 a0.S a0.P) fun r2=>
  cond (r2 == 0) (
  po (Lw a0.To) fun r4=>
  cond r4 (
  some ((a0.To.S.Kind == a0.S.Kind) && ((a0.To.S.Cap == a0.S.Cap) && ((a0.To.S.Words == a0.S.Words) && (a0.To.S.Ver == a0.S.Ver))))) (
  some false)) (
  some false)) (fun x=>Qu x)
theorem Ck0 {a0 : Be} {a1 : Ap} {r : Bool} (h : Oy a0 a1 = some r) : Ctr prog 61 [.agg (Ef a0),.agg (Bb a1)] [] (rb r) []:=by
 unfold Oy at h;refine Ctr.ofW Ba func61 rfl call61 0 _ ntmps61 [.tmp 4] rfl rfl rfl (fun B=>?_);refine vs [2,3] fun _ k=>?_;push_cast;apply k;clear k;refine vj h (fun x=>⟨[(4,rb x)],[],24,25,0⟩) (fun v1 h hk1=>?_) ?_
 ·obtain ⟨r2,hr2,h⟩:=Aa h;rcases bt (r2 == 0) with hb3 | hb3
  ·replace h:=Ao hb3 h;obtain ⟨r4,hr4,h⟩:=Aa h;rcases bt r4 with hb5 | hb5
   ·replace h:=Ao hb5 h;refine vlG [some 5,some 6,some 7,some 8,some 9,some 10,some 11,some 12,some 13,some 14,some 15,some 16,some 17,some 18,some 19,some 20,some 21,some 22,some 23,some 24,some 4] fun _ k=>?_;refine Ag 8 fun _ l=>?_;push_cast [hb3,hb5];(repeat refine ao ?_);refine cp (Sl hr2) ?_;push_cast [hb3,hb5];(repeat refine ao ?_);apply l;clear l;simp only [List.drop_succ_cons,List.drop_zero];refine Ag 8 fun _ l=>?_;push_cast [hb3,hb5];(repeat refine ao ?_);refine cp (Yc a0.To hr4) ?_;push_cast [hb3,hb5];(repeat refine ao ?_);apply l;clear l;simp only [List.drop_succ_cons,List.drop_zero];push_cast [hb3,hb5];(repeat refine ao ?_);apply k;clear k;refine ar h hk1 ?_;exact sl (by push_cast [hb3,hb5])
   ·replace h:=Au hb5 h;refine vlG [some 5,some 6,some 7,some 8,some 9,some 10,some 11,some 12,some 13,some 14,some 15,some 16,some 17,some 18,some 19,some 20,some 21,some 22,some 23,some 24,some 4] fun _ k=>?_;refine Ag 8 fun _ l=>?_;push_cast [hb3,hb5];(repeat refine ao ?_);refine cp (Sl hr2) ?_;push_cast [hb3,hb5];(repeat refine ao ?_);apply l;clear l;simp only [List.drop_succ_cons,List.drop_zero];refine Ag 8 fun _ l=>?_;push_cast [hb3,hb5];(repeat refine ao ?_);refine cp (Yc a0.To hr4) ?_;push_cast [hb3,hb5];(repeat refine ao ?_);apply l;clear l;simp only [List.drop_succ_cons,List.drop_zero];push_cast [hb3,hb5];(repeat refine ao ?_);apply k;clear k;refine ar h hk1 ?_;exact sl (by push_cast [hb3,hb5])
  ·replace h:=Au hb3 h;refine vlG [some 5,some 6,some 7,some 8,some 9,some 10,some 11,some 12,some 13,some 14,some 15,some 16,some 17,some 18,some 19,some 20,some 21,some 22,some 23,some 24,some 4] fun _ k=>?_;refine Ag 8 fun _ l=>?_;push_cast [hb3];(repeat refine ao ?_);refine cp (Sl hr2) ?_;push_cast [hb3];(repeat refine ao ?_);apply l;clear l;simp only [List.drop_succ_cons,List.drop_zero];refine Ag 8 fun _ l=>?_;push_cast [hb3];(repeat refine ao ?_);apply l;clear l;simp only [List.drop_succ_cons,List.drop_zero];push_cast [hb3];(repeat refine ao ?_);apply k;clear k;refine ar h hk1 ?_;exact sl (by push_cast [hb3])
 ·rintro i_1 (h : Qu i_1 = some r);(try push_cast);unfold Qu at h;refine VC.ret ?_;replace h:=Option.some.inj h;subst h;exact en (by push_cast)
noncomputable def Eg (a0 : (List UInt32)) (a1 : UInt32) (i_1 : Int) : Option ((Int) ⊕ ((Unit) ⊕ (Int))):=
  cond (decide (i_1 < (a0.length : Int))) (
  po (idx a0 i_1) fun x4=>
  cond ((a1.toNat : Int) == (x4.toNat : Int)) (
  some (Sum.inr (Sum.inr i_1))) (
  some (Sum.inl (IntKind.i64.wrap (i_1 + 1))))) (
  some (Sum.inr (Sum.inl ())))
noncomputable def Fh : Option (Int):=
  some (-1)
noncomputable def Gs (a0 : (List UInt32)) (a1 : UInt32) : Option (Int):=
  pm (
  lpU (fun x=>Eg a0 a1 x) 0) (fun x=>Fh)
theorem Vq {a0 : (List UInt32)} {a1 : UInt32} {r : Int} (h : Gs a0 a1 = some r) : Ctr prog 99 [.sl false (a0.map Ax),ru a1] [] (ri r) []:=by
 unfold Gs at h;refine Ctr.ofW Ba func99 rfl call99 0 _ ntmps99 [.tmp 4] rfl rfl rfl (fun B=>?_);refine vs [0,1] fun _ k=>?_;push_cast;apply k;clear k;refine vm h (fun x=>⟨[],[],16,19,0⟩) (fun v1 h hk1=>?_) ?_
 ·refine vs [0,1,7,8] fun _ k=>?_;push_cast;apply k;clear k;refine VC.block ?_;refine VC.loopP h (fun x=>⟨[(0,.sl false (a0.map Ax)),(1,ru a1),(7,ri (a0.length : Int)),(8,ri x)],[],15,19,0⟩) ?_ ?_
  ·exact sl (by push_cast)
  rintro i_1 b2 (h : Eg a0 a1 i_1 = some b2) hf2;(try push_cast);unfold Eg at h;refine vs [0,1,7,8,9] fun _ k=>?_;push_cast;apply k;clear k;refine VC.seq ?_;refine vc h (fun hb3 h=>?_) (fun hb3 h=>?_)
  ·refine VC.skip ?_;refine VC.seq ?_;refine VC.block ?_;refine vs [0,1,5,7,8] fun _ k=>?_;push_cast;apply k;clear k;obtain ⟨x4,hx4,h⟩:=Aa h;replace hx4:=Bh hx4;refine vs [0,1,5,7,8,16] fun _ k=>?_;push_cast [hx4];(repeat refine ao ?_);apply k;clear k;refine vc h (fun hb5 h=>?_) (fun hb5 h=>?_)
   ·refine vs [4] fun _ k=>?_;push_cast;apply k;clear k;refine VC.ret ?_;replace h:=ol h hf2;replace h:=om h hk1;replace h:=Option.some.inj h;subst h;exact en (by push_cast [hb3,hb5])
   ·refine VC.skip ?_;refine vl fun _ k=>?_;push_cast;apply k;clear k;refine bk h ?_;exact sl (by push_cast [hb3,hb5])
  ·refine VC.exit ?_;replace h:=ol h hf2;refine am h hk1 ?_;exact sl (by push_cast [hb3])
 ·rintro ⟨⟩ (h : Fh = some r);(try push_cast);unfold Fh at h;refine vs [4] fun _ k=>?_;push_cast;apply k;clear k;refine VC.ret ?_;replace h:=Option.some.inj h;subst h;exact en (by push_cast)
noncomputable def Cd (a0 : (List UInt32)) (a1 : UInt32) : Option (Bool):=
  po (Gs a0 a1) fun r1=>
  some (decide (r1 ≥ 0))
theorem Il {a0 : (List UInt32)} {a1 : UInt32} {r : Bool} (h : Cd a0 a1 = some r) : Ctr prog 63 [.sl false (a0.map Ax),ru a1] [] (rb r) []:=by
 unfold Cd at h;refine Ctr.ofW Ba func63 rfl call63 0 _ ntmps63 [.tmp 4] rfl rfl rfl (fun B=>?_);refine vs [0,1] fun _ k=>?_;push_cast;apply k;clear k;obtain ⟨r1,hr1,h⟩:=Aa h;refine vs [4] fun _ k=>?_;push_cast;refine cp (Vq hr1) ?_;push_cast;apply k;clear k;refine VC.ret ?_;replace h:=Option.some.inj h;subst h;exact en (by push_cast)
end Go.Proofs.YtcffmheeofjifaaGreat
