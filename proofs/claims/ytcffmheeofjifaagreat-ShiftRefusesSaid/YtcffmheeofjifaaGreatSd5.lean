/- Packed texts: WslicesIndexFuncapiFnapiFnprogMay1, WslicesContainsFuncapiFnapiFnprogMay1, WprogMay, WcourseBudget, Wdrydockref01Words, Wschemain, WschemaMay, WschemaStep, WshapeMay, Wshapeall, Wshapein, WshapePut, WshapeJoin, Wverifyworkto, WshapeNew, WverifyShapes1, Wverifyworkhere, WshapeGet, Wverifyworkget, Wverifyworkthen, Wverifyworkput, WshapeWord, Wverifyworkword, Wverifyworkalu, Wverifyworkcall, Wverifyworkwithin, Wverifyworkctx, Wverifyworkexit, Wverifyworkhelp, Wverifyworkjump, Wverifyworkload, Wverifyworkstore, Wverifykinds, WslicesIndexFuncapiSchemaapiSchemaverifyShapes1, WslicesContainsFuncapiSchemaapiSchemaverifyShapes1, WverifyShapes, Wverifyinside, WverifyVerify, WshiftFits, Wshiftmay, Winterprunfail, Winterpframeget, Winterpframeput, Winterpframeword, Winterpframealu, Winterpframecall, Winterpframeexit, Winterpframehelp, Winterpframejump, Winterpframewords, Winterprunframe, WslicesCloneapiEntryapiEntry, WslicesCloneapiTableapiTable, WslicesCloneuint32uint32, WinterpCall, WinterpRun, Wshiftput. -/
import Derived.Test.YtcffmheeofjifaaGreatSd4
set_option linter.unusedVariables false
set_option linter.unusedSimpArgs false
set_option maxHeartbeats 4000000
set_option maxRecDepth 100000
namespace Go.Proofs.YtcffmheeofjifaaGreat
open Go Go.RowKit Go.Proofs.Tryz
noncomputable def p_slices_IndexFunc_api_Fn_api_Fn_prog_May_1_L2 (a0 : (List T_Fn)) (i_1 : Int) : Option ((Int) ⊕ ((Unit) ⊕ (Int))) :=
  cond (decide (i_1 < (a0.length : Int))) (
  po (idx a0 i_1) fun x4 =>
  po (p_prog_May_1 x4) fun r5 =>
  cond r5 (
  some (Sum.inr (Sum.inr i_1))) (
  some (Sum.inl (IntKind.i64.wrap (i_1 + 1))))) (
  some (Sum.inr (Sum.inl ())))
noncomputable def p_slices_IndexFunc_api_Fn_api_Fn_prog_May_1_J1 : Option (Int) :=
  some (-1)
noncomputable def p_slices_IndexFunc_api_Fn_api_Fn_prog_May_1 (a0 : (List T_Fn)) : Option (Int) :=
  pm (
  lpU (fun x => p_slices_IndexFunc_api_Fn_api_Fn_prog_May_1_L2 a0 x) 0) (fun x => p_slices_IndexFunc_api_Fn_api_Fn_prog_May_1_J1)
theorem c_slices_IndexFunc_api_Fn_api_Fn_prog_May_1 {a0 : (List T_Fn)} {r : Int} (h : p_slices_IndexFunc_api_Fn_api_Fn_prog_May_1 a0 = some r) : Ctr prog 145 [.sl false (a0.map enc_Fn), .fn (.func 105) [] []] [] (ri r) [] := by
 unfold p_slices_IndexFunc_api_Fn_api_Fn_prog_May_1 at h; refine Ctr.ofW tabOk func145 rfl call145 0 _ ntmps145 [.tmp 4] rfl rfl rfl (fun B => ?_); refine vs [0, 1] (fun K hK => ?_); push_cast; refine hK _ ?_; clear hK K; refine vm h (fun x => ⟨[], [], 16, 19, 0⟩) (fun v1 h hk1 => ?_) ?_
 ·refine vs [0, 1, 7, 8] (fun K hK => ?_); push_cast; refine hK _ ?_; clear hK K; refine VC.block ?_; refine VC.loopP h (fun x => ⟨[(0, .sl false (a0.map enc_Fn)), (1, .fn (.func 105) [] []), (7, ri (a0.length : Int)), (8, ri x)], [], 15, 19, 0⟩) ?_ ?_
  ·exact sl (by push_cast)
  rintro i_1 b2 (h : p_slices_IndexFunc_api_Fn_api_Fn_prog_May_1_L2 a0 i_1 = some b2) hf2; (try push_cast); unfold p_slices_IndexFunc_api_Fn_api_Fn_prog_May_1_L2 at h; refine vs [0, 1, 7, 8, 9] (fun K hK => ?_); push_cast; refine hK _ ?_; clear hK K; refine VC.seq ?_; refine vc h (fun hb3 h => ?_) (fun hb3 h => ?_)
  ·refine VC.skip ?_; refine VC.seq ?_; refine VC.block ?_; refine vs [0, 1, 5, 7, 8] (fun K hK => ?_); push_cast; refine hK _ ?_; clear hK K; obtain ⟨x4, hx4, h⟩ := po_some h; replace hx4 := idx_some4 hx4; obtain ⟨r5, hr5, h⟩ := po_some h; refine vs [0, 1, 5, 7, 8, 16] (fun K hK => ?_); push_cast [hx4]; (repeat refine .intro (by omega) ?_); refine cp (c_prog_May_1 hr5) ?_; push_cast [hx4]; (repeat refine .intro (by omega) ?_); refine hK _ ?_; clear hK K; refine vc h (fun hb6 h => ?_) (fun hb6 h => ?_)
   ·refine vs [4] (fun K hK => ?_); push_cast; refine hK _ ?_; clear hK K; refine VC.ret ?_; replace h := ol h hf2; replace h := om h hk1; replace h := Option.some.inj h; subst h; exact en (by push_cast [hb3, hb6])
   ·refine VC.skip ?_; refine vl (fun K hK => ?_); push_cast; refine hK _ ?_; clear hK K; refine bk h ?_; exact sl (by push_cast [hb3, hb6])
  ·refine VC.exit ?_; replace h := ol h hf2; refine am h hk1 ?_; exact sl (by push_cast [hb3])
 ·rintro ⟨⟩ (h : p_slices_IndexFunc_api_Fn_api_Fn_prog_May_1_J1 = some r); (try push_cast); unfold p_slices_IndexFunc_api_Fn_api_Fn_prog_May_1_J1 at h; refine vs [4] (fun K hK => ?_); push_cast; refine hK _ ?_; clear hK K; refine VC.ret ?_; replace h := Option.some.inj h; subst h; exact en (by push_cast)
noncomputable def p_slices_ContainsFunc_api_Fn_api_Fn_prog_May_1 (a0 : (List T_Fn)) : Option (Bool) :=
  po (p_slices_IndexFunc_api_Fn_api_Fn_prog_May_1 a0) fun r1 =>
  some (decide (r1 ≥ 0))
theorem c_slices_ContainsFunc_api_Fn_api_Fn_prog_May_1 {a0 : (List T_Fn)} {r : Bool} (h : p_slices_ContainsFunc_api_Fn_api_Fn_prog_May_1 a0 = some r) : Ctr prog 104 [.sl false (a0.map enc_Fn), .fn (.func 105) [] []] [] (rb r) [] := by
 unfold p_slices_ContainsFunc_api_Fn_api_Fn_prog_May_1 at h; refine Ctr.ofW tabOk func104 rfl call104 0 _ ntmps104 [.tmp 4] rfl rfl rfl (fun B => ?_); refine vs [0, 1] (fun K hK => ?_); push_cast; refine hK _ ?_; clear hK K; obtain ⟨r1, hr1, h⟩ := po_some h; refine vs [4] (fun K hK => ?_); push_cast; refine cp (c_slices_IndexFunc_api_Fn_api_Fn_prog_May_1 hr1) ?_; push_cast; refine hK _ ?_; clear hK K; refine VC.ret ?_; replace h := Option.some.inj h; subst h; exact en (by push_cast)
noncomputable def p_prog_May_J1 (a0 : T_Prog) (i_1 : Bool) : Option (Bool) :=
  cond i_1 (
  some false) (
  po (p_slices_ContainsFunc_api_Fn_api_Fn_prog_May_1 a0.Fns) fun r6 =>
  some (!r6))
noncomputable def p_prog_May (a0 : T_Prog) : Option (Bool) :=
  po (
  cond ((a0.Fns.length : Int) == 0) (
  some true) (
  cond (decide ((a0.Fns.length : Int) > 8)) (
  some true) (
  po (a0.Fns[0]?) fun x4 =>
  some (x4.Args != 0)))) (fun x => p_prog_May_J1 a0 x)
theorem c_prog_May {a0 : T_Prog} {r : Bool} (h : p_prog_May a0 = some r) : Ctr prog 67 [.agg (enc_Prog a0)] [] (rb r) [] := by
 unfold p_prog_May at h; refine Ctr.ofW tabOk func67 rfl call67 0 _ ntmps67 [.tmp 2] rfl rfl rfl (fun B => ?_); refine vs [1] (fun K hK => ?_); push_cast; refine hK _ ?_; clear hK K; refine VC.seq ?_; refine vj h (fun x => ⟨[(1, .ref 0 0), (20, rb x)], [(0, .box 56 [.sl false (a0.Fns.map enc_Fn)])], 20, 25, 0⟩) (fun v1 h hk1 => ?_) ?_
 ·rcases Bool.eq_false_or_eq_true ((a0.Fns.length : Int) == 0) with hb2 | hb2
  ·replace h := cond_yes hb2 h; refine vlG [some 3, some 4, some 5, some 6, some 7, some 8, some 9, some 10, some 11, some 12, some 13, some 14, some 15, some 16, some 17, some 18, some 19, some 20] (fun K hK => ?_); refine runOps_cut 8 (fun K2 hK2 => ?_); push_cast [hb2]; (repeat refine .intro (by omega) ?_); refine hK2 _ _ ?_; clear hK2 K2; simp only [List.drop_succ_cons, List.drop_zero]; push_cast [hb2]; (repeat refine .intro (by omega) ?_); refine hK _ ?_; clear hK K; refine ar h hk1 ?_; exact sl (by push_cast [hb2])
  ·replace h := cond_no hb2 h; rcases Bool.eq_false_or_eq_true (decide ((a0.Fns.length : Int) > 8)) with hb3 | hb3
   ·replace h := cond_yes hb3 h; refine vlG [some 3, some 4, some 5, some 6, some 7, some 8, some 9, some 10, some 11, some 12, some 13, some 14, some 15, some 16, some 17, some 18, some 19, some 20] (fun K hK => ?_); refine runOps_cut 8 (fun K2 hK2 => ?_); push_cast [hb2, hb3]; (repeat refine .intro (by omega) ?_); refine hK2 _ _ ?_; clear hK2 K2; simp only [List.drop_succ_cons, List.drop_zero]; push_cast [hb2, hb3]; (repeat refine .intro (by omega) ?_); refine hK _ ?_; clear hK K; refine ar h hk1 ?_; exact sl (by push_cast [hb2, hb3])
   ·replace h := cond_no hb3 h; obtain ⟨x4, hx4, h⟩ := po_some h; replace hx4 := gL hx4; refine vlG [some 3, some 4, some 5, some 6, some 7, some 8, some 9, some 10, some 11, some 12, some 13, some 14, some 15, some 16, some 17, some 18, some 19, some 20] (fun K hK => ?_); refine runOps_cut 8 (fun K2 hK2 => ?_); push_cast [hb2, hb3, hx4]; (repeat refine .intro (by omega) ?_); refine hK2 _ _ ?_; clear hK2 K2; simp only [List.drop_succ_cons, List.drop_zero]; push_cast [hb2, hb3, hx4]; (repeat refine .intro (by omega) ?_); refine hK _ ?_; clear hK K; refine ar h hk1 ?_; exact sl (by push_cast [hb2, hb3])
 ·rintro i_1 (h : p_prog_May_J1 a0 i_1 = some r); (try push_cast); unfold p_prog_May_J1 at h; refine vc h (fun hb5 h => ?_) (fun hb5 h => ?_)
  ·refine vs [2] (fun K hK => ?_); push_cast; refine hK _ ?_; clear hK K; refine VC.ret ?_; replace h := Option.some.inj h; subst h; exact en (by push_cast [hb5])
  ·refine VC.skip ?_; obtain ⟨r6, hr6, h⟩ := po_some h; refine vs [2] (fun K hK => ?_); push_cast; refine cp (c_slices_ContainsFunc_api_Fn_api_Fn_prog_May_1 hr6) ?_; push_cast; refine hK _ ?_; clear hK K; refine VC.ret ?_; replace h := Option.some.inj h; subst h; exact en (by push_cast [hb5])
noncomputable def p_course_Budget_L7 (a0 : T_Prog) (l_4 : (List Int)) (u6 : Int) : Option (((List Int)) ⊕ (Unit)) :=
  po (idx a0.Fns u6) fun x8 =>
  po (p_course_Longest x8.Code l_4) fun r9 =>
  po (idx l_4 u6) fun x10 =>
  pl (l_4.set u6.toNat r9) fun y11 =>
  some (Sum.inl y11)
noncomputable def p_course_Budget_K7 (l_4 : (List Int)) : Option ((List Int)) :=
  some l_4
noncomputable def p_course_Budget_J5 (l_3 : (List Int)) : Option (Int) :=
  po (l_3[0]?) fun x12 =>
  some x12
noncomputable def p_course_Budget (a0 : T_Prog) : Option (Int) :=
  po (p_prog_May a0) fun r1 =>
  cond (!r1) (
  some 0) (
  pg (0 ≤ (a0.Fns.length : Int) ∧ 8 * (a0.Fns.length : Int) ≤ 140737488355328) <|
  pl (List.replicate a0.Fns.length 0) fun y4 =>
  po (
  pq (itU (fun x u => p_course_Budget_L7 a0 x u) (backL a0.Fns) y4) (fun x => p_course_Budget_K7 x) (fun _ => none)) (fun x => p_course_Budget_J5 x))
theorem c_course_Budget {a0 : T_Prog} {r : Int} (h : p_course_Budget a0 = some r) : Ctr prog 92 [.agg (enc_Prog a0)] [] (ri r) [] := by
 unfold p_course_Budget at h; refine Ctr.ofN tabOk func92 rfl call92 0 _ ntmps92 [.tmp 2] rfl rfl rfl (fun B hB => ?_); refine vs [1] (fun K hK => ?_); push_cast; refine hK _ ?_; clear hK K; refine VC.seq ?_; obtain ⟨r1, hr1, h⟩ := po_some h; refine vs [1, 7] (fun K hK => ?_); push_cast; refine cp (c_prog_May hr1) ?_; push_cast; refine hK _ ?_; clear hK K; refine vc h (fun hb2 h => ?_) (fun hb2 h => ?_)
 ·refine vs [2] (fun K hK => ?_); push_cast; refine hK _ ?_; clear hK K; refine VC.ret ?_; replace h := Option.some.inj h; subst h; exact en (by push_cast [hb2])
 ·refine VC.skip ?_; obtain ⟨hg3, h⟩ := pg_some h; obtain ⟨y4, hy4, h⟩ := pl_some h; refine vs [1, 3] (fun K hK => ?_); push_cast [hg3]; (repeat refine .intro (by omega) ?_); refine hK _ ?_; clear hK K; refine VC.sub (s' := ⟨[(1, .ref 0 0), (3, .ref 9 0)], [(0, .box 56 [.sl false (a0.Fns.map enc_Fn)]), (8, .row 3 1 0 (y4.map encI64)), (9, .box 84 [.row 8 0 1 0 y4.length])], 11, 31, 0⟩) (so (by push_cast [hb2, hy4])) ?_; refine vj h (fun x => ⟨[(3, .ref 9 0)], [(8, .row 3 1 0 (x.map encI64)), (9, .box 84 [.row 8 0 1 0 x.length])], 26, 31, 0⟩) (fun v5 h hk5 => ?_) ?_
  ·refine vs [1, 3, 14] (fun K hK => ?_); push_cast; refine cp (c_slices_Backward_api_Fn_api_Fn a0.Fns) ?_; push_cast; refine hK _ ?_; clear hK K; refine VC.block ?_; obtain ⟨b7, hi7, hd7, hx7⟩ := pq_some h; refine VC.sub (s' := ⟨[(1, .ref 0 0), (3, .ref 9 0), (14, .fn (.func 183) [] [.dat 1 [[.sl false (a0.Fns.map enc_Fn)]] 0 0])], (fun x => [(0, .box 56 [.sl false (a0.Fns.map enc_Fn)]), (8, .row 3 1 0 (x.map encI64)), (9, .box 84 [.row 8 0 1 0 x.length])]) y4, 26, 31, 0⟩) ?_ ?_
   ·(try push_cast); exact sl (by push_cast [hb2])
   ·refine VC.rangeP (enc := fun u6 => [ri u6, .dead]) hB hi7 rfl call183 rfl rfl (fun _ => rfl) (it_slices_Backward_api_Fn_api_Fn a0.Fns) (fun x => [(0, .box 56 [.sl false (a0.Fns.map enc_Fn)]), (8, .row 3 1 0 (x.map encI64)), (9, .box 84 [.row 8 0 1 0 x.length])]) (fun (_ : Unit) => []) rfl ?_ ?_ ?_
    ·rintro l_4 u6 c (h : p_course_Budget_L7 a0 l_4 u6 = some c) B2; (try push_cast); unfold p_course_Budget_L7 at h; refine vl (fun K hK => ?_); push_cast; refine hK _ ?_; clear hK K; refine ⟨[(1, .ref 0 0), (3, .ref 9 0), (4, ri u6), (14, .fn (.func 183) [] [.dat 1 [[.sl false (a0.Fns.map enc_Fn)]] 0 0]), (15, ri u6)], so (by push_cast), fun B3 => ?_⟩; (try push_cast); refine VC.block ?_; obtain ⟨x8, hx8, h⟩ := po_some h; replace hx8 := idx_some4 hx8; obtain ⟨r9, hr9, h⟩ := po_some h; obtain ⟨x10, hx10, h⟩ := po_some h; replace hx10 := idx_some4 hx10; obtain ⟨y11, hy11, h⟩ := pl_some h; have hy11l : y11.length = l_4.length := by rw [hy11, List.length_set]
     refine vlD [some 17, some 18, some 19, some 20, some 21, some 22, some 23, some 24, some 25, some 26, some 27, none] (fun K hK => ?_); refine runD_cut 8 (fun K2 hK2 => ?_); push_cast [hx8, hx10]; (repeat refine .intro (by omega) ?_); refine hK2 _ _ _ ?_; clear hK2 K2; simp only [List.drop_succ_cons, List.drop_zero]; push_cast [hx8, hx10]; (repeat refine .intro (by omega) ?_); refine chD (H := [(8, .row 3 1 0 (l_4.map encI64))]) (H' := _) (Ctr.borrow (c_course_Longest hr9) (by push_cast [hx8, hx10]) rfl) (by push_cast [hx8, hx10]) ?_; push_cast [hx8, hx10]; (repeat refine .intro (by omega) ?_); refine ⟨rfl, hK _ ?_⟩; clear hK K; refine ⟨_, (Option.some.inj h).symm, ?_⟩; exact sl (by push_cast [hb2, hy11, hy11l])
    ·rintro l_4 hb; replace h : p_course_Budget_K7 l_4 = some v5 := hd7 _ hb; unfold p_course_Budget_K7 at h; refine ar h hk5 ?_; exact sl (by push_cast [hb2])
    ·intro y hb; cases hx7 _ hb
  ·rintro l_3 (h : p_course_Budget_J5 l_3 = some r); (try push_cast); unfold p_course_Budget_J5 at h; obtain ⟨x12, hx12, h⟩ := po_some h; replace hx12 := gL hx12; refine vs [2] (fun K hK => ?_); push_cast [hx12]; (repeat refine .intro (by omega) ?_); refine hK _ ?_; clear hK K; refine VC.ret ?_; replace h := Option.some.inj h; subst h; exact en (by push_cast [hb2])
noncomputable def p_drydockref01_Words_L3 (a0 : (List UInt32)) (a1 : (List UInt32)) (i_1 : Int) : Option ((Int) ⊕ ((Unit) ⊕ (Bool))) :=
  cond (decide (i_1 < (a0.length : Int))) (
  po (idx a0 i_1) fun x5 =>
  po (idx a1 i_1) fun x6 =>
  cond ((x5.toNat : Int) != (x6.toNat : Int)) (
  some (Sum.inr (Sum.inr false))) (
  some (Sum.inl (IntKind.i64.wrap (i_1 + 1))))) (
  some (Sum.inr (Sum.inl ())))
noncomputable def p_drydockref01_Words_J2 : Option (Bool) :=
  some true
noncomputable def p_drydockref01_Words (a0 : (List UInt32)) (a1 : (List UInt32)) : Option (Bool) :=
  cond ((a0.length : Int) != (a1.length : Int)) (
  some false) (
  pm (
  lpU (fun x => p_drydockref01_Words_L3 a0 a1 x) 0) (fun x => p_drydockref01_Words_J2))
theorem c_drydockref01_Words {a0 : (List UInt32)} {a1 : (List UInt32)} {r : Bool} (h : p_drydockref01_Words a0 a1 = some r) : Ctr prog 25 [.sl false (a0.map encU32), .sl false (a1.map encU32)] [] (rb r) [] := by
 unfold p_drydockref01_Words at h; refine Ctr.ofW tabOk func25 rfl call25 0 _ ntmps25 [.tmp 4] rfl rfl rfl (fun B => ?_); refine vs [0, 1] (fun K hK => ?_); push_cast; refine hK _ ?_; clear hK K; refine VC.seq ?_; refine vs [0, 1, 10] (fun K hK => ?_); push_cast; refine hK _ ?_; clear hK K; refine vc h (fun hb1 h => ?_) (fun hb1 h => ?_)
 ·refine vs [4] (fun K hK => ?_); push_cast; refine hK _ ?_; clear hK K; refine VC.ret ?_; replace h := Option.some.inj h; subst h; exact en (by push_cast [hb1])
 ·refine VC.skip ?_; refine vm h (fun x => ⟨[], [], 27, 26, 0⟩) (fun v2 h hk2 => ?_) ?_
  ·refine vs [0, 1, 5] (fun K hK => ?_); push_cast; refine hK _ ?_; clear hK K; refine VC.block ?_; refine VC.loopP h (fun x => ⟨[(0, .sl false (a0.map encU32)), (1, .sl false (a1.map encU32)), (5, ri x)], [], 23, 26, 0⟩) ?_ ?_
   ·exact sl (by push_cast [hb1])
   rintro i_1 b3 (h : p_drydockref01_Words_L3 a0 a1 i_1 = some b3) hf3; (try push_cast); unfold p_drydockref01_Words_L3 at h; refine VC.seq ?_; refine vs [0, 1, 5, 14] (fun K hK => ?_); push_cast; refine hK _ ?_; clear hK K; refine vc h (fun hb4 h => ?_) (fun hb4 h => ?_)
   ·refine VC.skip ?_; refine VC.seq ?_; refine VC.block ?_; obtain ⟨x5, hx5, h⟩ := po_some h; replace hx5 := idx_some4 hx5; obtain ⟨x6, hx6, h⟩ := po_some h; replace hx6 := idx_some4 hx6; refine vsD [some 17, some 18, some 19, some 20, some 21, some 22, some 23, some 24, some 25] [0, 1, 5, 25] (fun K hK => ?_); push_cast [hx5, hx6]; (repeat refine .intro (by omega) ?_); refine ⟨rfl, hK _ ?_⟩; clear hK K; refine vc h (fun hb7 h => ?_) (fun hb7 h => ?_)
    ·refine vs [4] (fun K hK => ?_); push_cast; refine hK _ ?_; clear hK K; refine VC.ret ?_; replace h := ol h hf3; replace h := om h hk2; replace h := Option.some.inj h; subst h; exact en (by push_cast [hb1, hb4, hb7])
    ·refine VC.skip ?_; refine vl (fun K hK => ?_); push_cast; refine hK _ ?_; clear hK K; refine bk h ?_; exact sl (by push_cast [hb1, hb4, hb7])
   ·refine VC.exit ?_; replace h := ol h hf3; refine am h hk2 ?_; exact sl (by push_cast [hb1, hb4])
  ·rintro ⟨⟩ (h : p_drydockref01_Words_J2 = some r); (try push_cast); unfold p_drydockref01_Words_J2 at h; refine vs [4] (fun K hK => ?_); push_cast; refine hK _ ?_; clear hK K; refine VC.ret ?_; replace h := Option.some.inj h; subst h; exact en (by push_cast [hb1])
noncomputable def p_schema_in_J1 (i_1 : Bool) : Option (Bool) :=
  some i_1
noncomputable def p_schema_in (a0 : Int) (a1 : Int) (a2 : Int) : Option (Bool) :=
  po (
  cond (decide (a0 ≥ a1)) (
  some (decide (a0 ≤ a2))) (
  some false)) (fun x => p_schema_in_J1 x)
theorem c_schema_in {a0 : Int} {a1 : Int} {a2 : Int} {r : Bool} (h : p_schema_in a0 a1 a2 = some r) : Ctr prog 89 [ri a0, ri a1, ri a2] [] (rb r) [] := by
 unfold p_schema_in at h; refine Ctr.ofW tabOk func89 rfl call89 0 _ ntmps89 [.tmp 6] rfl rfl rfl (fun B => ?_); refine vs [0, 1, 2] (fun K hK => ?_); push_cast; refine hK _ ?_; clear hK K; refine vj h (fun x => ⟨[(6, rb x)], [], 10, 15, 0⟩) (fun v1 h hk1 => ?_) ?_
 ·rcases Bool.eq_false_or_eq_true (decide (a0 ≥ a1)) with hb2 | hb2
  ·replace h := cond_yes hb2 h; refine vlG [some 7, some 8, some 9, some 10, some 11, some 12, some 13, some 14, some 6] (fun K hK => ?_); push_cast [hb2]; (repeat refine .intro (by omega) ?_); refine hK _ ?_; clear hK K; refine ar h hk1 ?_; exact sl (by push_cast [hb2])
  ·replace h := cond_no hb2 h; refine vlG [some 7, some 8, some 9, some 10, some 11, some 12, some 13, some 14, some 6] (fun K hK => ?_); push_cast [hb2]; (repeat refine .intro (by omega) ?_); refine hK _ ?_; clear hK K; refine ar h hk1 ?_; exact sl (by push_cast [hb2])
 ·rintro i_1 (h : p_schema_in_J1 i_1 = some r); (try push_cast); unfold p_schema_in_J1 at h; refine VC.ret ?_; replace h := Option.some.inj h; subst h; exact en (by push_cast)
noncomputable def p_schema_May_J3 (i_2 : Bool) : Option (Bool) :=
  some i_2
noncomputable def p_schema_May_J1 (a0 : T_Schema) (i_1 : Int) : Option (Bool) :=
  po (
  po (p_schema_in a0.Kind 0 3) fun r4 =>
  cond r4 (
  po (p_schema_in a0.Cap 1 16) fun r6 =>
  cond r6 (
  po (p_schema_in a0.Words 1 i_1) fun r8 =>
  cond r8 (
  po (p_schema_in a0.Ver 0 1000) fun r10 =>
  some r10) (
  some false)) (
  some false)) (
  some false)) (fun x => p_schema_May_J3 x)
noncomputable def p_schema_May (a0 : T_Schema) : Option (Bool) :=
  po (
  cond (a0.Kind == 3) (
  some 1) (
  some 4)) (fun x => p_schema_May_J1 a0 x)
theorem c_schema_May {a0 : T_Schema} {r : Bool} (h : p_schema_May a0 = some r) : Ctr prog 56 [.agg (enc_Schema a0)] [] (rb r) [] := by
 unfold p_schema_May at h; refine Ctr.ofW tabOk func56 rfl call56 0 _ ntmps56 [.tmp 2] rfl rfl rfl (fun B => ?_); refine vs [1] (fun K hK => ?_); push_cast; refine hK _ ?_; clear hK K; refine vs [1, 3] (fun K hK => ?_); push_cast; refine hK _ ?_; clear hK K; refine vj h (fun x => ⟨[(1, .ref 0 0), (3, ri x)], [(0, .box 50 (enc_Schema a0))], 7, 26, 0⟩) (fun v1 h hk1 => ?_) ?_
 ·refine vs [1, 3, 6] (fun K hK => ?_); push_cast; refine hK _ ?_; clear hK K; refine vc h (fun hb2 h => ?_) (fun hb2 h => ?_)
  ·refine vl (fun K hK => ?_); push_cast; refine hK _ ?_; clear hK K; refine ar h hk1 ?_; exact sl (by push_cast [hb2])
  ·refine VC.skip ?_; refine ar h hk1 ?_; exact sl (by push_cast [hb2])
 ·rintro i_1 (h : p_schema_May_J1 a0 i_1 = some r); (try push_cast); unfold p_schema_May_J1 at h; refine vj h (fun x => ⟨[(2, rb x)], [], 27, 26, 0⟩) (fun v3 h hk3 => ?_) ?_
  ·obtain ⟨r4, hr4, h⟩ := po_some h; rcases Bool.eq_false_or_eq_true r4 with hb5 | hb5
   ·replace h := cond_yes hb5 h; obtain ⟨r6, hr6, h⟩ := po_some h; rcases Bool.eq_false_or_eq_true r6 with hb7 | hb7
    ·replace h := cond_yes hb7 h; obtain ⟨r8, hr8, h⟩ := po_some h; rcases Bool.eq_false_or_eq_true r8 with hb9 | hb9
     ·replace h := cond_yes hb9 h; obtain ⟨r10, hr10, h⟩ := po_some h; refine vlG [some 7, some 8, some 9, some 10, some 11, some 12, some 13, some 14, some 15, some 16, some 17, some 18, some 19, some 20, some 21, some 22, some 23, some 24, some 25, some 2] (fun K hK => ?_); refine runOps_cut 8 (fun K2 hK2 => ?_); push_cast [hb5, hb7, hb9]; (repeat refine .intro (by omega) ?_); refine cp (c_schema_in hr4) ?_; push_cast [hb5, hb7, hb9]; (repeat refine .intro (by omega) ?_); refine cp (c_schema_in hr6) ?_; push_cast [hb5, hb7, hb9]; (repeat refine .intro (by omega) ?_); refine hK2 _ _ ?_; clear hK2 K2; simp only [List.drop_succ_cons, List.drop_zero]; refine runOps_cut 8 (fun K2 hK2 => ?_); push_cast [hb5, hb7, hb9]; (repeat refine .intro (by omega) ?_); refine cp (c_schema_in hr8) ?_; push_cast [hb5, hb7, hb9]; (repeat refine .intro (by omega) ?_); refine hK2 _ _ ?_; clear hK2 K2; simp only [List.drop_succ_cons, List.drop_zero]; push_cast [hb5, hb7, hb9]; (repeat refine .intro (by omega) ?_); refine cp (c_schema_in hr10) ?_; push_cast [hb5, hb7, hb9]; (repeat refine .intro (by omega) ?_); refine hK _ ?_; clear hK K; refine ar h hk3 ?_; exact sl (by push_cast [hb5, hb7, hb9])
     ·replace h := cond_no hb9 h; refine vlG [some 7, some 8, some 9, some 10, some 11, some 12, some 13, some 14, some 15, some 16, some 17, some 18, some 19, some 20, some 21, some 22, some 23, some 24, some 25, some 2] (fun K hK => ?_); refine runOps_cut 8 (fun K2 hK2 => ?_); push_cast [hb5, hb7, hb9]; (repeat refine .intro (by omega) ?_); refine cp (c_schema_in hr4) ?_; push_cast [hb5, hb7, hb9]; (repeat refine .intro (by omega) ?_); refine cp (c_schema_in hr6) ?_; push_cast [hb5, hb7, hb9]; (repeat refine .intro (by omega) ?_); refine hK2 _ _ ?_; clear hK2 K2; simp only [List.drop_succ_cons, List.drop_zero]; refine runOps_cut 8 (fun K2 hK2 => ?_); push_cast [hb5, hb7, hb9]; (repeat refine .intro (by omega) ?_); refine cp (c_schema_in hr8) ?_; push_cast [hb5, hb7, hb9]; (repeat refine .intro (by omega) ?_); refine hK2 _ _ ?_; clear hK2 K2; simp only [List.drop_succ_cons, List.drop_zero]; push_cast [hb5, hb7, hb9]; (repeat refine .intro (by omega) ?_); refine hK _ ?_; clear hK K; refine ar h hk3 ?_; exact sl (by push_cast [hb5, hb7, hb9])
    ·replace h := cond_no hb7 h; refine vlG [some 7, some 8, some 9, some 10, some 11, some 12, some 13, some 14, some 15, some 16, some 17, some 18, some 19, some 20, some 21, some 22, some 23, some 24, some 25, some 2] (fun K hK => ?_); refine runOps_cut 8 (fun K2 hK2 => ?_); push_cast [hb5, hb7]; (repeat refine .intro (by omega) ?_); refine cp (c_schema_in hr4) ?_; push_cast [hb5, hb7]; (repeat refine .intro (by omega) ?_); refine cp (c_schema_in hr6) ?_; push_cast [hb5, hb7]; (repeat refine .intro (by omega) ?_); refine hK2 _ _ ?_; clear hK2 K2; simp only [List.drop_succ_cons, List.drop_zero]; refine runOps_cut 8 (fun K2 hK2 => ?_); push_cast [hb5, hb7]; (repeat refine .intro (by omega) ?_); refine hK2 _ _ ?_; clear hK2 K2; simp only [List.drop_succ_cons, List.drop_zero]; push_cast [hb5, hb7]; (repeat refine .intro (by omega) ?_); refine hK _ ?_; clear hK K; refine ar h hk3 ?_; exact sl (by push_cast [hb5, hb7])
   ·replace h := cond_no hb5 h; refine vlG [some 7, some 8, some 9, some 10, some 11, some 12, some 13, some 14, some 15, some 16, some 17, some 18, some 19, some 20, some 21, some 22, some 23, some 24, some 25, some 2] (fun K hK => ?_); refine runOps_cut 8 (fun K2 hK2 => ?_); push_cast [hb5]; (repeat refine .intro (by omega) ?_); refine cp (c_schema_in hr4) ?_; push_cast [hb5]; (repeat refine .intro (by omega) ?_); refine hK2 _ _ ?_; clear hK2 K2; simp only [List.drop_succ_cons, List.drop_zero]; refine runOps_cut 8 (fun K2 hK2 => ?_); push_cast [hb5]; (repeat refine .intro (by omega) ?_); refine hK2 _ _ ?_; clear hK2 K2; simp only [List.drop_succ_cons, List.drop_zero]; push_cast [hb5]; (repeat refine .intro (by omega) ?_); refine hK _ ?_; clear hK K; refine ar h hk3 ?_; exact sl (by push_cast [hb5])
  ·rintro i_2 (h : p_schema_May_J3 i_2 = some r); (try push_cast); unfold p_schema_May_J3 at h; refine VC.ret ?_; replace h := Option.some.inj h; subst h; exact en (by push_cast)
noncomputable def p_schema_Step_J7 (i_2 : Bool) : Option (Int) :=
  cond i_2 (
  some 1) (
  some 2)
noncomputable def p_schema_Step_J1 (a0 : T_Schema) (a1 : T_Schema) (i_1 : Bool) : Option (Int) :=
  cond i_1 (
  some 2) (
  cond ((a0.Kind == a1.Kind) && ((a0.Cap == a1.Cap) && ((a0.Words == a1.Words) && (a0.Ver == a1.Ver)))) (
  some 0) (
  po (
  cond (a0.Kind == a1.Kind) (
  some (a1.Ver == (IntKind.i64.wrap (a0.Ver + 1)))) (
  some false)) (fun x => p_schema_Step_J7 x)))
noncomputable def p_schema_Step (a0 : T_Schema) (a1 : T_Schema) : Option (Int) :=
  po (
  po (p_schema_May a0) fun r2 =>
  cond (!r2) (
  some (!r2)) (
  po (p_schema_May a1) fun r4 =>
  some (!r4))) (fun x => p_schema_Step_J1 a0 a1 x)
theorem c_schema_Step {a0 : T_Schema} {a1 : T_Schema} {r : Int} (h : p_schema_Step a0 a1 = some r) : Ctr prog 58 [.agg (enc_Schema a0), .agg (enc_Schema a1)] [] (ri r) [] := by
 unfold p_schema_Step at h; refine Ctr.ofW tabOk func58 rfl call58 0 _ ntmps58 [.tmp 4] rfl rfl rfl (fun B => ?_); refine vs [2, 3] (fun K hK => ?_); push_cast; refine hK _ ?_; clear hK K; refine VC.seq ?_; refine VC.block ?_; refine vj h (fun x => ⟨[(2, .ref 0 0), (3, .ref 1 0), (5, rb x)], [(0, .box 50 (enc_Schema a0)), (1, .box 50 (enc_Schema a1))], 11, 30, 0⟩) (fun v1 h hk1 => ?_) ?_
 ·obtain ⟨r2, hr2, h⟩ := po_some h; refine vs [2, 3, 5] (fun K hK => ?_); push_cast; refine cp (c_schema_May hr2) ?_; push_cast; refine hK _ ?_; clear hK K; refine vc h (fun hb3 h => ?_) (fun hb3 h => ?_)
  ·refine VC.skip ?_; refine ar h hk1 ?_; exact sl (by push_cast [hb3])
  ·obtain ⟨r4, hr4, h⟩ := po_some h; refine vl (fun K hK => ?_); push_cast; refine cp (c_schema_May hr4) ?_; push_cast; refine hK _ ?_; clear hK K; refine ar h hk1 ?_; exact sl (by push_cast [hb3])
 ·rintro i_1 (h : p_schema_Step_J1 a0 a1 i_1 = some r); (try push_cast); unfold p_schema_Step_J1 at h; refine vc h (fun hb5 h => ?_) (fun hb5 h => ?_)
  ·refine vs [4] (fun K hK => ?_); push_cast; refine hK _ ?_; clear hK K; refine VC.ret ?_; replace h := Option.some.inj h; subst h; exact en (by push_cast [hb5])
  ·refine vs [2, 3, 12] (fun K hK => ?_); push_cast; refine hK _ ?_; clear hK K; refine vc h (fun hb6 h => ?_) (fun hb6 h => ?_)
   ·refine vs [4] (fun K hK => ?_); push_cast; refine hK _ ?_; clear hK K; refine VC.ret ?_; replace h := Option.some.inj h; subst h; exact en (by push_cast [hb5, hb6])
   ·refine vj h (fun x => ⟨[(16, rb x)], [], 29, 30, 0⟩) (fun v7 h hk7 => ?_) ?_
    ·rcases Bool.eq_false_or_eq_true (a0.Kind == a1.Kind) with hb8 | hb8
     ·replace h := cond_yes hb8 h; refine vlG [some 17, some 18, some 19, some 20, some 21, some 22, some 23, some 24, some 25, some 26, some 27, some 28, some 29, some 16] (fun K hK => ?_); refine runOps_cut 8 (fun K2 hK2 => ?_); push_cast [hb8]; (repeat refine .intro (by omega) ?_); refine hK2 _ _ ?_; clear hK2 K2; simp only [List.drop_succ_cons, List.drop_zero]; push_cast [hb8]; (repeat refine .intro (by omega) ?_); refine hK _ ?_; clear hK K; refine ar h hk7 ?_; exact sl (by push_cast [hb5, hb6, hb8])
     ·replace h := cond_no hb8 h; refine vlG [some 17, some 18, some 19, some 20, some 21, some 22, some 23, some 24, some 25, some 26, some 27, some 28, some 29, some 16] (fun K hK => ?_); refine runOps_cut 8 (fun K2 hK2 => ?_); push_cast [hb8]; (repeat refine .intro (by omega) ?_); refine hK2 _ _ ?_; clear hK2 K2; simp only [List.drop_succ_cons, List.drop_zero]; push_cast [hb8]; (repeat refine .intro (by omega) ?_); refine hK _ ?_; clear hK K; refine ar h hk7 ?_; exact sl (by push_cast [hb5, hb6, hb8])
    ·rintro i_2 (h : p_schema_Step_J7 i_2 = some r); (try push_cast); unfold p_schema_Step_J7 at h; refine vc h (fun hb9 h => ?_) (fun hb9 h => ?_)
     ·refine vs [4] (fun K hK => ?_); push_cast; refine hK _ ?_; clear hK K; refine VC.ret ?_; replace h := Option.some.inj h; subst h; exact en (by push_cast [hb5, hb6, hb9])
     ·refine VC.skip ?_; refine vs [4] (fun K hK => ?_); push_cast; refine hK _ ?_; clear hK K; refine VC.ret ?_; replace h := Option.some.inj h; subst h; exact en (by push_cast [hb5, hb6, hb9])
noncomputable def p_shape_May_J4 (i_3 : Int) (s_4 : T_Shape) : Option ((T_Shape × Int) ⊕ ((T_Shape) ⊕ (Bool))) :=
  some (Sum.inl (s_4, (IntKind.i64.wrap (i_3 + 1))))
noncomputable def p_shape_May_L2 (a0 : T_Shape) (s_2 : T_Shape) (i_3 : Int) : Option ((T_Shape × Int) ⊕ ((T_Shape) ⊕ (Bool))) :=
  cond (decide (i_3 < 8)) (
  pm (
  pg (0 ≤ i_3 ∧ i_3 < 8) <|
  cond (!(a0.Set.get i_3.toNat)) (
  pl (s_2.R.set i_3.toNat (C128.mk 0 0)) fun y7 =>
  some (Sum.inl (T_Shape.mk s_2.Set y7))) (
  po (p_bounds_May (a0.R.get i_3.toNat)) fun r8 =>
  cond (!r8) (
  some (Sum.inr (Sum.inr (Sum.inr false)))) (
  some (Sum.inl s_2)))) (fun x => p_shape_May_J4 i_3 x)) (
  some (Sum.inr (Sum.inl s_2)))
noncomputable def p_shape_May_J1 (a0 : T_Shape) (s_7 : T_Shape) : Option (Bool) :=
  some ((ceq s_7.R.a0 a0.R.a0) && ((ceq s_7.R.a1 a0.R.a1) && ((ceq s_7.R.a2 a0.R.a2) && ((ceq s_7.R.a3 a0.R.a3) && ((ceq s_7.R.a4 a0.R.a4) && ((ceq s_7.R.a5 a0.R.a5) && ((ceq s_7.R.a6 a0.R.a6) && (ceq s_7.R.a7 a0.R.a7))))))))
noncomputable def p_shape_May (a0 : T_Shape) : Option (Bool) :=
  pm (
  lpU (fun x => p_shape_May_L2 a0 x.1 x.2) (a0, 0)) (fun x => p_shape_May_J1 a0 x)
theorem c_shape_May {a0 : T_Shape} {r : Bool} (h : p_shape_May a0 = some r) : Ctr prog 206 [.agg (enc_Shape a0)] [] (rb r) [] := by
 unfold p_shape_May at h; refine Ctr.ofW tabOk func206 rfl call206 0 _ ntmps206 [.tmp 2] rfl rfl rfl (fun B => ?_); refine vs [1] (fun K hK => ?_); push_cast; refine hK _ ?_; clear hK K; refine vs [1, 3] (fun K hK => ?_); push_cast; refine hK _ ?_; clear hK K; refine vm h (fun x => ⟨[(1, .ref 0 0), (3, .ref 3 0)], [(0, .box 217 (enc_Shape a0)), (3, .box 217 (enc_Shape x))], 23, 29, 0⟩) (fun v1 h hk1 => ?_) ?_
 ·refine vs [1, 3, 6] (fun K hK => ?_); push_cast; refine hK _ ?_; clear hK K; refine VC.block ?_; refine VC.loopP h (fun x => ⟨[(1, .ref 0 0), (3, .ref 3 0), (6, ri x.2)], [(0, .box 217 (enc_Shape a0)), (3, .box 217 (enc_Shape x.1))], 22, 29, 0⟩) ?_ ?_
  ·exact sl (by push_cast)
  rintro ⟨s_2, i_3⟩ b2 (h : p_shape_May_L2 a0 s_2 i_3 = some b2) hf2; (try push_cast); unfold p_shape_May_L2 at h; refine vs [1, 3, 6, 7] (fun K hK => ?_); push_cast; refine hK _ ?_; clear hK K; refine VC.seq ?_; refine vc h (fun hb3 h => ?_) (fun hb3 h => ?_)
  ·refine VC.skip ?_; refine vm h (fun x => ⟨[(1, .ref 0 0), (3, .ref 3 0), (6, ri i_3)], [(0, .box 217 (enc_Shape a0)), (3, .box 217 (enc_Shape x))], 36, 29, 0⟩) (fun v4 h hk4 => ?_) ?_
   ·refine VC.block ?_; refine vs [1, 3, 4, 6] (fun K hK => ?_); push_cast; refine hK _ ?_; clear hK K; obtain ⟨hg5, h⟩ := pg_some h; have hg5n : i_3.toNat < 8 := by omega
    refine vs [1, 3, 4, 6, 13] (fun K hK => ?_); push_cast [hg5, hg5n]; (repeat refine .intro (by omega) ?_); refine hK _ ?_; clear hK K; refine vc h (fun hb6 h => ?_) (fun hb6 h => ?_)
    ·obtain ⟨y7, hy7, h⟩ := pl_some h; refine vl (fun K hK => ?_); push_cast [hg5n]; (repeat refine .intro (by omega) ?_); refine hK _ ?_; clear hK K; refine am h hk4 ?_; exact sl (by push_cast [hb3, hb6, hy7])
    ·obtain ⟨r8, hr8, h⟩ := po_some h; refine vs [1, 3, 6, 22] (fun K hK => ?_); push_cast [hg5n]; (repeat refine .intro (by omega) ?_); refine cp (c_bounds_May hr8) ?_; push_cast [hg5n]; (repeat refine .intro (by omega) ?_); refine hK _ ?_; clear hK K; refine vc h (fun hb9 h => ?_) (fun hb9 h => ?_)
     ·refine vs [2] (fun K hK => ?_); push_cast; refine hK _ ?_; clear hK K; refine VC.ret ?_; replace h := om h hk4; replace h := ol h hf2; replace h := om h hk1; replace h := Option.some.inj h; subst h; exact en (by push_cast [hb3, hb6, hb9])
     ·refine VC.skip ?_; refine am h hk4 ?_; exact sl (by push_cast [hb3, hb6, hb9])
   ·rintro s_4 (h : p_shape_May_J4 i_3 s_4 = some b2); (try push_cast); unfold p_shape_May_J4 at h; refine vl (fun K hK => ?_); push_cast; refine hK _ ?_; clear hK K; refine bk h ?_; exact sl (by push_cast [hb3])
  ·refine VC.exit ?_; replace h := ol h hf2; refine am h hk1 ?_; exact sl (by push_cast [hb3])
 ·rintro s_7 (h : p_shape_May_J1 a0 s_7 = some r); (try push_cast); unfold p_shape_May_J1 at h; refine vs [2] (fun K hK => ?_); push_cast; refine hK _ ?_; clear hK K; refine VC.ret ?_; replace h := Option.some.inj h; subst h; exact en (by push_cast)
noncomputable def p_shape_all : Option (C128) :=
  po (p_bounds_Of 0 4294967295) fun r1 =>
  some r1
theorem c_shape_all {r : C128} (h : p_shape_all = some r) : Ctr prog 173 [] [] (.raw (.complex .f64 r.re r.im)) [] := by
 unfold p_shape_all at h; refine Ctr.ofW tabOk func173 rfl call173 0 _ ntmps173 [.tmp 0] rfl rfl rfl (fun B => ?_); refine vs [] (fun K hK => ?_); push_cast; refine hK _ ?_; clear hK K; obtain ⟨r1, hr1, h⟩ := po_some h; refine vs [0] (fun K hK => ?_); push_cast; refine cp (c_bounds_Of hr1) ?_; push_cast; refine hK _ ?_; clear hK K; refine VC.ret ?_; replace h := Option.some.inj h; subst h; exact en (by push_cast)
noncomputable def p_shape_in_J1 (i_1 : Bool) : Option (Bool) :=
  some i_1
noncomputable def p_shape_in (a0 : Int) : Option (Bool) :=
  po (
  cond (decide (a0 ≥ 0)) (
  some (decide (a0 < 8))) (
  some false)) (fun x => p_shape_in_J1 x)
theorem c_shape_in {a0 : Int} {r : Bool} (h : p_shape_in a0 = some r) : Ctr prog 229 [ri a0] [] (rb r) [] := by
 unfold p_shape_in at h; refine Ctr.ofW tabOk func229 rfl call229 0 _ ntmps229 [.tmp 2] rfl rfl rfl (fun B => ?_); refine vs [0] (fun K hK => ?_); push_cast; refine hK _ ?_; clear hK K; refine vj h (fun x => ⟨[(2, rb x)], [], 8, 9, 0⟩) (fun v1 h hk1 => ?_) ?_
 ·rcases Bool.eq_false_or_eq_true (decide (a0 ≥ 0)) with hb2 | hb2
  ·replace h := cond_yes hb2 h; refine vlG [some 3, some 4, some 5, some 6, some 7, some 8, some 2] (fun K hK => ?_); push_cast [hb2]; (repeat refine .intro (by omega) ?_); refine hK _ ?_; clear hK K; refine ar h hk1 ?_; exact sl (by push_cast [hb2])
  ·replace h := cond_no hb2 h; refine vlG [some 3, some 4, some 5, some 6, some 7, some 8, some 2] (fun K hK => ?_); push_cast [hb2]; (repeat refine .intro (by omega) ?_); refine hK _ ?_; clear hK K; refine ar h hk1 ?_; exact sl (by push_cast [hb2])
 ·rintro i_1 (h : p_shape_in_J1 i_1 = some r); (try push_cast); unfold p_shape_in_J1 at h; refine VC.ret ?_; replace h := Option.some.inj h; subst h; exact en (by push_cast)
noncomputable def p_shape_Put_J1 (a0 : T_Shape) (a1 : Int) (i_1 : C128) : Option (T_Shape) :=
  pg (0 ≤ a1 ∧ a1 < 8) <|
  pl (a0.Set.set a1.toNat true) fun y10 =>
  pl (a0.R.set a1.toNat i_1) fun y11 =>
  some (T_Shape.mk y10 y11)
noncomputable def p_shape_Put (a0 : T_Shape) (a1 : Int) (a2 : C128) : Option (T_Shape) :=
  pm (
  po (p_shape_May a0) fun r2 =>
  cond (!r2) (
  some (Sum.inr (T_Shape.mk (A8.mk false false false false false false false false) (A8.mk (C128.mk 0 0) (C128.mk 0 0) (C128.mk 0 0) (C128.mk 0 0) (C128.mk 0 0) (C128.mk 0 0) (C128.mk 0 0) (C128.mk 0 0))))) (
  po (p_shape_in a1) fun r4 =>
  cond (!r4) (
  some (Sum.inr a0)) (
  po (p_bounds_May a2) fun r6 =>
  cond (!r6) (
  po (p_shape_all) fun r8 =>
  some (Sum.inl r8)) (
  some (Sum.inl a2))))) (fun x => p_shape_Put_J1 a0 a1 x)
theorem c_shape_Put {a0 : T_Shape} {a1 : Int} {a2 : C128} {r : T_Shape} (h : p_shape_Put a0 a1 a2 = some r) : Ctr prog 207 [.agg (enc_Shape a0), ri a1, .raw (.complex .f64 a2.re a2.im)] [] (.agg (enc_Shape r)) [] := by
 unfold p_shape_Put at h; refine Ctr.ofW tabOk func207 rfl call207 0 _ ntmps207 [.cell 6 217] rfl rfl rfl (fun B => ?_); refine vs [1, 2, 3, 6] (fun K hK => ?_); push_cast; refine hK _ ?_; clear hK K; refine vm h (fun x => ⟨[(1, ri a1), (2, .raw (.complex .f64 x.re x.im)), (3, .ref 0 0), (6, .ref 1 0)], [(0, .box 217 (enc_Shape a0)), (1, .box 217 (enc_Shape (T_Shape.mk (A8.mk false false false false false false false false) (A8.mk (C128.mk 0 0) (C128.mk 0 0) (C128.mk 0 0) (C128.mk 0 0) (C128.mk 0 0) (C128.mk 0 0) (C128.mk 0 0) (C128.mk 0 0)))))], 16, 30, 0⟩) (fun v1 h hk1 => ?_) ?_
 ·refine VC.block ?_; obtain ⟨r2, hr2, h⟩ := po_some h; refine vs [1, 2, 3, 6, 7] (fun K hK => ?_); push_cast; refine cp (c_shape_May hr2) ?_; push_cast; refine hK _ ?_; clear hK K; refine vc h (fun hb3 h => ?_) (fun hb3 h => ?_)
  ·refine vs [6] (fun K hK => ?_); push_cast; refine hK _ ?_; clear hK K; refine VC.ret ?_; replace h := om h hk1; replace h := Option.some.inj h; subst h; exact en (by push_cast [hb3, encA8])
  ·obtain ⟨r4, hr4, h⟩ := po_some h; refine vs [1, 2, 3, 6, 12] (fun K hK => ?_); push_cast; refine cp (c_shape_in hr4) ?_; push_cast; refine hK _ ?_; clear hK K; refine vc h (fun hb5 h => ?_) (fun hb5 h => ?_)
   ·refine vs [6] (fun K hK => ?_); push_cast; refine hK _ ?_; clear hK K; refine VC.ret ?_; replace h := om h hk1; replace h := Option.some.inj h; subst h; exact en (by push_cast [hb3, hb5, encA8])
   ·obtain ⟨r6, hr6, h⟩ := po_some h; refine vs [1, 2, 3, 6, 17] (fun K hK => ?_); push_cast; refine cp (c_bounds_May hr6) ?_; push_cast; refine hK _ ?_; clear hK K; refine vc h (fun hb7 h => ?_) (fun hb7 h => ?_)
    ·obtain ⟨r8, hr8, h⟩ := po_some h; refine vl (fun K hK => ?_); push_cast; refine cp (c_shape_all hr8) ?_; push_cast; refine hK _ ?_; clear hK K; refine am h hk1 ?_; exact sl (by push_cast [hb3, hb5, hb7])
    ·refine VC.skip ?_; refine am h hk1 ?_; exact sl (by push_cast [hb3, hb5, hb7])
 ·rintro i_1 (h : p_shape_Put_J1 a0 a1 i_1 = some r); (try push_cast); unfold p_shape_Put_J1 at h; obtain ⟨hg9, h⟩ := pg_some h; have hg9n : a1.toNat < 8 := by omega
  obtain ⟨y10, hy10, h⟩ := pl_some h; obtain ⟨y11, hy11, h⟩ := pl_some h; refine vs [3, 6] (fun K hK => ?_); push_cast [hg9, hg9n]; (repeat refine .intro (by omega) ?_); refine hK _ ?_; clear hK K; refine vs [6] (fun K hK => ?_); push_cast; refine hK _ ?_; clear hK K; refine VC.ret ?_; replace h := Option.some.inj h; subst h; exact en (by push_cast [hy10, hy11, encA8])
noncomputable def p_shape_Join_J10 (a0 : T_Shape) (a1 : T_Shape) (s_4 : T_Shape) (i_5 : Int) (i_6 : Bool) : Option (T_Shape) :=
  cond i_6 (
  pg (0 ≤ i_5 ∧ i_5 < 8) <|
  po (p_bounds_Join (a0.R.get i_5.toNat) (a1.R.get i_5.toNat)) fun r15 =>
  po (p_shape_Put s_4 i_5 r15) fun r16 =>
  some r16) (
  some s_4)
noncomputable def p_shape_Join_J9 (i_5 : Int) (s_7 : T_Shape) : Option ((T_Shape × Int) ⊕ (T_Shape)) :=
  some (Sum.inl (s_7, (IntKind.i64.wrap (i_5 + 1))))
noncomputable def p_shape_Join_L7 (a0 : T_Shape) (a1 : T_Shape) (s_4 : T_Shape) (i_5 : Int) : Option ((T_Shape × Int) ⊕ (T_Shape)) :=
  cond (decide (i_5 < 8)) (
  po (
  po (
  pg (0 ≤ i_5 ∧ i_5 < 8) <|
  cond (a0.Set.get i_5.toNat) (
  some (a1.Set.get i_5.toNat)) (
  some false)) (fun x => p_shape_Join_J10 a0 a1 s_4 i_5 x)) (fun x => p_shape_Join_J9 i_5 x)) (
  some (Sum.inr s_4))
noncomputable def p_shape_Join_J6 (s_10 : T_Shape) : Option (T_Shape) :=
  some s_10
noncomputable def p_shape_Join_J1 (a0 : T_Shape) (a1 : T_Shape) (i_1 : Bool) : Option (T_Shape) :=
  cond i_1 (
  some (T_Shape.mk (A8.mk false false false false false false false false) (A8.mk (C128.mk 0 0) (C128.mk 0 0) (C128.mk 0 0) (C128.mk 0 0) (C128.mk 0 0) (C128.mk 0 0) (C128.mk 0 0) (C128.mk 0 0)))) (
  po (
  lpU (fun x => p_shape_Join_L7 a0 a1 x.1 x.2) ((T_Shape.mk (A8.mk false false false false false false false false) (A8.mk (C128.mk 0 0) (C128.mk 0 0) (C128.mk 0 0) (C128.mk 0 0) (C128.mk 0 0) (C128.mk 0 0) (C128.mk 0 0) (C128.mk 0 0))), 0)) (fun x => p_shape_Join_J6 x))
noncomputable def p_shape_Join (a0 : T_Shape) (a1 : T_Shape) : Option (T_Shape) :=
  po (
  po (p_shape_May a0) fun r2 =>
  cond r2 (
  po (p_shape_May a1) fun r4 =>
  some (!r4)) (
  some true)) (fun x => p_shape_Join_J1 a0 a1 x)
theorem c_shape_Join {a0 : T_Shape} {a1 : T_Shape} {r : T_Shape} (h : p_shape_Join a0 a1 = some r) : Ctr prog 174 [.agg (enc_Shape a0), .agg (enc_Shape a1)] [] (.agg (enc_Shape r)) [] := by
 unfold p_shape_Join at h; refine Ctr.ofW tabOk func174 rfl call174 0 _ ntmps174 [.cell 4 217] rfl rfl rfl (fun B => ?_); refine vs [2, 3, 4] (fun K hK => ?_); push_cast; refine hK _ ?_; clear hK K; refine vs [2, 3, 4, 5] (fun K hK => ?_); push_cast; refine hK _ ?_; clear hK K; refine VC.seq ?_; refine vj h (fun x => ⟨[(2, .ref 0 0), (3, .ref 1 0), (4, .ref 2 0), (5, .ref 3 0), (14, rb x)], [(0, .box 217 (enc_Shape a0)), (1, .box 217 (enc_Shape a1)), (2, .box 217 (enc_Shape (T_Shape.mk (A8.mk false false false false false false false false) (A8.mk (C128.mk 0 0) (C128.mk 0 0) (C128.mk 0 0) (C128.mk 0 0) (C128.mk 0 0) (C128.mk 0 0) (C128.mk 0 0) (C128.mk 0 0))))), (3, .box 217 (enc_Shape (T_Shape.mk (A8.mk false false false false false false false false) (A8.mk (C128.mk 0 0) (C128.mk 0 0) (C128.mk 0 0) (C128.mk 0 0) (C128.mk 0 0) (C128.mk 0 0) (C128.mk 0 0) (C128.mk 0 0)))))], 12, 43, 0⟩) (fun v1 h hk1 => ?_) ?_
 ·obtain ⟨r2, hr2, h⟩ := po_some h; rcases Bool.eq_false_or_eq_true r2 with hb3 | hb3
  ·replace h := cond_yes hb3 h; obtain ⟨r4, hr4, h⟩ := po_some h; refine vlG [some 7, some 8, some 9, some 10, some 11, some 12, some 13, some 14] (fun K hK => ?_); push_cast [hb3]; (repeat refine .intro (by omega) ?_); refine cp (c_shape_May hr2) ?_; push_cast [hb3]; (repeat refine .intro (by omega) ?_); refine cp (c_shape_May hr4) ?_; push_cast [hb3]; (repeat refine .intro (by omega) ?_); refine hK _ ?_; clear hK K; refine ar h hk1 ?_; exact sl (by push_cast [hb3])
  ·replace h := cond_no hb3 h; refine vlG [some 7, some 8, some 9, some 10, some 11, some 12, some 13, some 14] (fun K hK => ?_); push_cast [hb3]; (repeat refine .intro (by omega) ?_); refine cp (c_shape_May hr2) ?_; push_cast [hb3]; (repeat refine .intro (by omega) ?_); refine hK _ ?_; clear hK K; refine ar h hk1 ?_; exact sl (by push_cast [hb3])
 ·rintro i_1 (h : p_shape_Join_J1 a0 a1 i_1 = some r); (try push_cast); unfold p_shape_Join_J1 at h; refine vc h (fun hb5 h => ?_) (fun hb5 h => ?_)
  ·refine vs [4] (fun K hK => ?_); push_cast; refine hK _ ?_; clear hK K; refine VC.ret ?_; replace h := Option.some.inj h; subst h; exact en (by push_cast [hb5, encA8])
  ·refine VC.skip ?_; refine vj h (fun x => ⟨[(4, .ref 2 0), (5, .ref 3 0)], [(2, .box 217 (enc_Shape (T_Shape.mk (A8.mk false false false false false false false false) (A8.mk (C128.mk 0 0) (C128.mk 0 0) (C128.mk 0 0) (C128.mk 0 0) (C128.mk 0 0) (C128.mk 0 0) (C128.mk 0 0) (C128.mk 0 0))))), (3, .box 217 (enc_Shape x))], 42, 43, 0⟩) (fun v6 h hk6 => ?_) ?_
   ·refine vs [2, 3, 4, 5, 16] (fun K hK => ?_); push_cast; refine hK _ ?_; clear hK K; refine VC.block ?_; refine VC.loopP h (fun x => ⟨[(2, .ref 0 0), (3, .ref 1 0), (4, .ref 2 0), (5, .ref 3 0), (16, ri x.2)], [(0, .box 217 (enc_Shape a0)), (1, .box 217 (enc_Shape a1)), (2, .box 217 (enc_Shape (T_Shape.mk (A8.mk false false false false false false false false) (A8.mk (C128.mk 0 0) (C128.mk 0 0) (C128.mk 0 0) (C128.mk 0 0) (C128.mk 0 0) (C128.mk 0 0) (C128.mk 0 0) (C128.mk 0 0))))), (3, .box 217 (enc_Shape x.1))], 41, 43, 0⟩) ?_ ?_
    ·exact sl (by push_cast [hb5])
    rintro ⟨s_4, i_5⟩ b7 (h : p_shape_Join_L7 a0 a1 s_4 i_5 = some b7) hf7; (try push_cast); unfold p_shape_Join_L7 at h; refine vs [2, 3, 4, 5, 16, 17] (fun K hK => ?_); push_cast; refine hK _ ?_; clear hK K; refine VC.seq ?_; refine vc h (fun hb8 h => ?_) (fun hb8 h => ?_)
    ·refine VC.skip ?_; refine vj h (fun x => ⟨[(2, .ref 0 0), (3, .ref 1 0), (4, .ref 2 0), (5, .ref 3 0), (16, ri i_5)], [(0, .box 217 (enc_Shape a0)), (1, .box 217 (enc_Shape a1)), (2, .box 217 (enc_Shape (T_Shape.mk (A8.mk false false false false false false false false) (A8.mk (C128.mk 0 0) (C128.mk 0 0) (C128.mk 0 0) (C128.mk 0 0) (C128.mk 0 0) (C128.mk 0 0) (C128.mk 0 0) (C128.mk 0 0))))), (3, .box 217 (enc_Shape x))], 67, 43, 0⟩) (fun v9 h hk9 => ?_) ?_
     ·refine VC.block ?_; refine vs [2, 3, 4, 5, 6, 16] (fun K hK => ?_); push_cast; refine hK _ ?_; clear hK K; refine vj h (fun x => ⟨[(2, .ref 0 0), (3, .ref 1 0), (4, .ref 2 0), (5, .ref 3 0), (6, ri i_5), (16, ri i_5), (28, rb x)], [(0, .box 217 (enc_Shape a0)), (1, .box 217 (enc_Shape a1)), (2, .box 217 (enc_Shape (T_Shape.mk (A8.mk false false false false false false false false) (A8.mk (C128.mk 0 0) (C128.mk 0 0) (C128.mk 0 0) (C128.mk 0 0) (C128.mk 0 0) (C128.mk 0 0) (C128.mk 0 0) (C128.mk 0 0))))), (3, .box 217 (enc_Shape s_4))], 54, 43, 0⟩) (fun v10 h hk10 => ?_) ?_
      ·obtain ⟨hg11, h⟩ := pg_some h; have hg11n : i_5.toNat < 8 := by omega
       rcases Bool.eq_false_or_eq_true (a0.Set.get i_5.toNat) with hb12 | hb12
       ·replace h := cond_yes hb12 h; refine vlG [some 19, some 20, some 21, some 22, some 23, some 24, some 25, some 26, some 27, some 28] (fun K hK => ?_); push_cast [hg11, hg11n, hb12]; (repeat refine .intro (by omega) ?_); refine hK _ ?_; clear hK K; refine ar h hk10 ?_; exact sl (by push_cast [hb5, hb8, hb12])
       ·replace h := cond_no hb12 h; refine vlG [some 19, some 20, some 21, some 22, some 23, some 24, some 25, some 26, some 27, some 28] (fun K hK => ?_); push_cast [hg11, hg11n, hb12]; (repeat refine .intro (by omega) ?_); refine hK _ ?_; clear hK K; refine ar h hk10 ?_; exact sl (by push_cast [hb5, hb8, hb12])
      ·rintro i_6 (h : p_shape_Join_J10 a0 a1 s_4 i_5 i_6 = some v9); (try push_cast); unfold p_shape_Join_J10 at h; refine vc h (fun hb13 h => ?_) (fun hb13 h => ?_)
       ·obtain ⟨hg14, h⟩ := pg_some h; have hg14n : i_5.toNat < 8 := by omega
        obtain ⟨r15, hr15, h⟩ := po_some h; obtain ⟨r16, hr16, h⟩ := po_some h; refine vlD [some 29, some 30, some 31, some 32, some 33, some 34, some 35, some 36, some 37, some 38, some 39, some 40, none] (fun K hK => ?_); refine runD_cut 8 (fun K2 hK2 => ?_); push_cast [hg14, hg14n]; (repeat refine .intro (by omega) ?_); refine hK2 _ _ _ ?_; clear hK2 K2; simp only [List.drop_succ_cons, List.drop_zero]; push_cast [hg14, hg14n]; (repeat refine .intro (by omega) ?_); refine cpD (c_bounds_Join hr15) ?_; push_cast [hg14, hg14n]; (repeat refine .intro (by omega) ?_); refine cpD (c_shape_Put hr16) ?_; push_cast [hg14, hg14n]; (repeat refine .intro (by omega) ?_); refine ⟨rfl, hK _ ?_⟩; clear hK K; refine ar h hk9 ?_; exact sl (by push_cast [hb5, hb8, hb13])
       ·refine VC.skip ?_; refine ar h hk9 ?_; exact sl (by push_cast [hb5, hb8, hb13])
     ·rintro s_7 (h : p_shape_Join_J9 i_5 s_7 = some b7); (try push_cast); unfold p_shape_Join_J9 at h; refine vl (fun K hK => ?_); push_cast; refine hK _ ?_; clear hK K; refine bk h ?_; exact sl (by push_cast [hb5, hb8])
    ·refine VC.exit ?_; replace h := ol h hf7; refine ar h hk6 ?_; exact sl (by push_cast [hb5, hb8])
   ·rintro s_10 (h : p_shape_Join_J6 s_10 = some r); (try push_cast); unfold p_shape_Join_J6 at h; refine vs [4] (fun K hK => ?_); push_cast; refine hK _ ?_; clear hK K; refine VC.ret ?_; replace h := Option.some.inj h; subst h; exact en (by push_cast [hb5, encA8])
noncomputable def p_verify_work_to (a0 : T_verify_work) (a1 : Int) (a2 : T_Shape) : Option (T_verify_work) :=
  cond (decide (a1 ≥ (a0.in_.length : Int))) (
  some (T_verify_work.mk a0.p a0.fn a0.l a0.in_ a0.is a0.at_ false)) (
  po (idx a0.is a1) fun x2 =>
  cond x2 (
  po (idx a0.in_ a1) fun x4 =>
  po (p_shape_Join x4 a2) fun r5 =>
  pl (a0.in_.set a1.toNat r5) fun y6 =>
  some (T_verify_work.mk a0.p a0.fn a0.l y6 a0.is a0.at_ a0.safe)) (
  po (idx a0.in_ a1) fun x7 =>
  pl (a0.in_.set a1.toNat a2) fun y8 =>
  pl (a0.is.set a1.toNat true) fun y9 =>
  some (T_verify_work.mk a0.p a0.fn a0.l y8 y9 a0.at_ a0.safe)))
theorem c_verify_work_to {a0 : T_verify_work} {a1 : Int} {a2 : T_Shape} {r : T_verify_work} (h : p_verify_work_to a0 a1 a2 = some r) : Ctr prog 129 [.ref 0 0, ri a1, .agg (enc_Shape a2)] [(0, .box 212 [.sl false (a0.p.Fns.map enc_Fn), ri a0.fn, .sl false (a0.l.map enc_Schema), .row 1 0 16 0 a0.in_.length, .row 2 0 1 0 a0.is.length, ri a0.at_, rb a0.safe]), (1, .row 217 16 0 (a0.in_.map enc_Shape)), (2, .row 4 1 0 (a0.is.map encBool))] (.tup []) [(0, .box 212 [.sl false (r.p.Fns.map enc_Fn), ri r.fn, .sl false (r.l.map enc_Schema), .row 1 0 16 0 r.in_.length, .row 2 0 1 0 r.is.length, ri r.at_, rb r.safe]), (1, .row 217 16 0 (r.in_.map enc_Shape)), (2, .row 4 1 0 (r.is.map encBool))] := by
 unfold p_verify_work_to at h; refine Ctr.ofW tabOk func129 rfl call129 3 _ ntmps129 [] rfl rfl rfl (fun B => ?_); refine vs [0, 1, 5] (fun K hK => ?_); push_cast; refine hK _ ?_; clear hK K; refine VC.block ?_; refine vs [0, 1, 5, 19] (fun K hK => ?_); push_cast; refine hK _ ?_; clear hK K; refine vc h (fun hb1 h => ?_) (fun hb1 h => ?_)
 ·refine vl (fun K hK => ?_); push_cast; refine hK _ ?_; clear hK K; replace h := Option.some.inj h; subst h; exact eN (by push_cast [hb1])
 ·obtain ⟨x2, hx2, h⟩ := po_some h; replace hx2 := idx_some4 hx2; refine vs [0, 1, 5, 30] (fun K hK => ?_); push_cast [hx2]; (repeat refine .intro (by omega) ?_); refine hK _ ?_; clear hK K; refine vc h (fun hb3 h => ?_) (fun hb3 h => ?_)
  ·obtain ⟨x4, hx4, h⟩ := po_some h; replace hx4 := idx_some4 hx4; obtain ⟨r5, hr5, h⟩ := po_some h; obtain ⟨y6, hy6, h⟩ := pl_some h; have hy6l : y6.length = a0.in_.length := by rw [hy6, List.length_set]
   refine vlD [some 38, some 39, some 40, some 41, some 42, some 43, some 44, some 45, some 46, some 47, some 48, some 49, some 50, some 51, some 52, none] (fun K hK => ?_); refine runD_cut 8 (fun K2 hK2 => ?_); push_cast [hx4]; (repeat refine .intro (by omega) ?_); refine hK2 _ _ _ ?_; clear hK2 K2; simp only [List.drop_succ_cons, List.drop_zero]; push_cast [hx4]; (repeat refine .intro (by omega) ?_); refine cpD (c_shape_Join hr5) ?_; push_cast [hx4]; (repeat refine .intro (by omega) ?_); refine ⟨rfl, hK _ ?_⟩; clear hK K; replace h := Option.some.inj h; subst h; exact eN (by push_cast [hb1, hb3, hy6, hy6l])
  ·obtain ⟨x7, hx7, h⟩ := po_some h; replace hx7 := idx_some4 hx7; obtain ⟨y8, hy8, h⟩ := pl_some h; have hy8l : y8.length = a0.in_.length := by rw [hy8, List.length_set]
   obtain ⟨y9, hy9, h⟩ := pl_some h; have hy9l : y9.length = a0.is.length := by rw [hy9, List.length_set]
   refine vlD [some 6, some 7, some 8, some 9, some 10, some 11, some 12, some 13, some 14, some 15, some 16, some 17, none, some 18, none] (fun K hK => ?_); refine runD_cut 8 (fun K2 hK2 => ?_); push_cast [hx7, hx2]; (repeat refine .intro (by omega) ?_); refine hK2 _ _ _ ?_; clear hK2 K2; simp only [List.drop_succ_cons, List.drop_zero]; push_cast [hx7, hx2]; (repeat refine .intro (by omega) ?_); refine ⟨rfl, hK _ ?_⟩; clear hK K; replace h := Option.some.inj h; subst h; exact eN (by push_cast [hb1, hb3, hy8, hy8l, hy9, hy9l])
noncomputable def p_shape_New_L5 (a0 : Int) (s_2 : T_Shape) (i_3 : Int) : Option ((T_Shape × Int) ⊕ (T_Shape)) :=
  cond (decide (i_3 < a0)) (
  po (p_shape_all) fun r7 =>
  pg (0 ≤ (IntKind.i64.wrap (i_3 + 1)) ∧ (IntKind.i64.wrap (i_3 + 1)) < 8) <|
  pl (s_2.Set.set ((IntKind.i64.wrap (i_3 + 1)).toNat) true) fun y9 =>
  pl (s_2.R.set ((IntKind.i64.wrap (i_3 + 1)).toNat) r7) fun y10 =>
  some (Sum.inl ((T_Shape.mk y9 y10), (IntKind.i64.wrap (i_3 + 1))))) (
  some (Sum.inr s_2))
noncomputable def p_shape_New_J4 (s_6 : T_Shape) : Option (T_Shape × Bool) :=
  some (s_6, true)
noncomputable def p_shape_New_J1 (a0 : Int) (i_1 : Bool) : Option (T_Shape × Bool) :=
  cond i_1 (
  some ((T_Shape.mk (A8.mk false false false false false false false false) (A8.mk (C128.mk 0 0) (C128.mk 0 0) (C128.mk 0 0) (C128.mk 0 0) (C128.mk 0 0) (C128.mk 0 0) (C128.mk 0 0) (C128.mk 0 0))), false)) (
  po (
  lpU (fun x => p_shape_New_L5 a0 x.1 x.2) ((T_Shape.mk (A8.mk false false false false false false false false) (A8.mk (C128.mk 0 0) (C128.mk 0 0) (C128.mk 0 0) (C128.mk 0 0) (C128.mk 0 0) (C128.mk 0 0) (C128.mk 0 0) (C128.mk 0 0))), 0)) (fun x => p_shape_New_J4 x))
noncomputable def p_shape_New (a0 : Int) : Option (T_Shape × Bool) :=
  po (
  cond (decide (a0 < 0)) (
  some true) (
  some (decide (a0 > 4)))) (fun x => p_shape_New_J1 a0 x)
theorem c_shape_New {a0 : Int} {r : T_Shape × Bool} (h : p_shape_New a0 = some r) : Ctr prog 128 [ri a0] [] (.tup [.agg (enc_Shape r.1), rb r.2]) [] := by
 unfold p_shape_New at h; refine Ctr.ofW tabOk func128 rfl call128 0 _ ntmps128 [.cell 2 217, .tmp 3] rfl rfl rfl (fun B => ?_); refine vs [0, 2] (fun K hK => ?_); push_cast; refine hK _ ?_; clear hK K; refine vs [0, 2, 4] (fun K hK => ?_); push_cast; refine hK _ ?_; clear hK K; refine VC.seq ?_; refine vj h (fun x => ⟨[(0, ri a0), (2, .ref 0 0), (4, .ref 2 0), (11, rb x)], [(0, .box 217 (enc_Shape (T_Shape.mk (A8.mk false false false false false false false false) (A8.mk (C128.mk 0 0) (C128.mk 0 0) (C128.mk 0 0) (C128.mk 0 0) (C128.mk 0 0) (C128.mk 0 0) (C128.mk 0 0) (C128.mk 0 0))))), (2, .box 217 (enc_Shape (T_Shape.mk (A8.mk false false false false false false false false) (A8.mk (C128.mk 0 0) (C128.mk 0 0) (C128.mk 0 0) (C128.mk 0 0) (C128.mk 0 0) (C128.mk 0 0) (C128.mk 0 0) (C128.mk 0 0)))))], 9, 28, 0⟩) (fun v1 h hk1 => ?_) ?_
 ·rcases Bool.eq_false_or_eq_true (decide (a0 < 0)) with hb2 | hb2
  ·replace h := cond_yes hb2 h; refine vlG [some 6, some 7, some 8, some 9, some 10, some 11] (fun K hK => ?_); push_cast [hb2]; (repeat refine .intro (by omega) ?_); refine hK _ ?_; clear hK K; refine ar h hk1 ?_; exact sl (by push_cast [hb2])
  ·replace h := cond_no hb2 h; refine vlG [some 6, some 7, some 8, some 9, some 10, some 11] (fun K hK => ?_); push_cast [hb2]; (repeat refine .intro (by omega) ?_); refine hK _ ?_; clear hK K; refine ar h hk1 ?_; exact sl (by push_cast [hb2])
 ·rintro i_1 (h : p_shape_New_J1 a0 i_1 = some r); (try push_cast); unfold p_shape_New_J1 at h; refine vc h (fun hb3 h => ?_) (fun hb3 h => ?_)
  ·refine vs [2, 3] (fun K hK => ?_); push_cast; refine hK _ ?_; clear hK K; refine VC.ret ?_; replace h := Option.some.inj h; subst h; exact en (by push_cast [hb3, encA8])
  ·refine VC.skip ?_; refine vj h (fun x => ⟨[(2, .ref 0 0), (4, .ref 2 0)], [(0, .box 217 (enc_Shape (T_Shape.mk (A8.mk false false false false false false false false) (A8.mk (C128.mk 0 0) (C128.mk 0 0) (C128.mk 0 0) (C128.mk 0 0) (C128.mk 0 0) (C128.mk 0 0) (C128.mk 0 0) (C128.mk 0 0))))), (2, .box 217 (enc_Shape x))], 28, 28, 0⟩) (fun v4 h hk4 => ?_) ?_
   ·refine vs [2, 4, 13, 14] (fun K hK => ?_); push_cast; refine hK _ ?_; clear hK K; refine VC.block ?_; refine VC.loopP h (fun x => ⟨[(2, .ref 0 0), (4, .ref 2 0), (13, ri a0), (14, ri x.2)], [(0, .box 217 (enc_Shape (T_Shape.mk (A8.mk false false false false false false false false) (A8.mk (C128.mk 0 0) (C128.mk 0 0) (C128.mk 0 0) (C128.mk 0 0) (C128.mk 0 0) (C128.mk 0 0) (C128.mk 0 0) (C128.mk 0 0))))), (2, .box 217 (enc_Shape x.1))], 27, 28, 0⟩) ?_ ?_
    ·exact sl (by push_cast [hb3])
    rintro ⟨s_2, i_3⟩ b5 (h : p_shape_New_L5 a0 s_2 i_3 = some b5) hf5; (try push_cast); unfold p_shape_New_L5 at h; refine vs [2, 4, 13, 14, 15] (fun K hK => ?_); push_cast; refine hK _ ?_; clear hK K; refine VC.seq ?_; refine vc h (fun hb6 h => ?_) (fun hb6 h => ?_)
    ·refine VC.skip ?_; refine VC.seq ?_; refine VC.block ?_; refine vs [2, 4, 5, 13, 14] (fun K hK => ?_); push_cast; refine hK _ ?_; clear hK K; obtain ⟨r7, hr7, h⟩ := po_some h; obtain ⟨hg8, h⟩ := pg_some h; have hg8n : (IntKind.i64.wrap (i_3 + 1)).toNat < 8 := by omega
     obtain ⟨y9, hy9, h⟩ := pl_some h; obtain ⟨y10, hy10, h⟩ := pl_some h; refine vlD [some 17, some 18, some 19, some 20, some 21, some 22, some 23, none, some 24, some 25, none] (fun K hK => ?_); refine runD_cut 8 (fun K2 hK2 => ?_); push_cast [hg8, hg8n]; (repeat refine .intro (by omega) ?_); refine cpD (c_shape_all hr7) ?_; push_cast [hg8, hg8n]; (repeat refine .intro (by omega) ?_); refine hK2 _ _ _ ?_; clear hK2 K2; simp only [List.drop_succ_cons, List.drop_zero]; push_cast [hg8, hg8n]; (repeat refine .intro (by omega) ?_); refine ⟨rfl, hK _ ?_⟩; clear hK K; refine vl (fun K hK => ?_); push_cast; refine hK _ ?_; clear hK K; refine bk h ?_; exact sl (by push_cast [hb3, hb6, hy9, hy10])
    ·refine VC.exit ?_; replace h := ol h hf5; refine ar h hk4 ?_; exact sl (by push_cast [hb3, hb6])
   ·rintro s_6 (h : p_shape_New_J4 s_6 = some r); (try push_cast); unfold p_shape_New_J4 at h; refine vs [2, 3] (fun K hK => ?_); push_cast; refine hK _ ?_; clear hK K; refine VC.ret ?_; replace h := Option.some.inj h; subst h; exact en (by push_cast [hb3, encA8])
noncomputable def p_verify_Shapes_1 (a0 : T_Schema) : Option (Bool) :=
  po (p_schema_May a0) fun r1 =>
  some (!r1)
theorem c_verify_Shapes_1 {a0 : T_Schema} {r : Bool} (h : p_verify_Shapes_1 a0 = some r) : Ctr prog 127 [.agg (enc_Schema a0)] [] (rb r) [] := by
 unfold p_verify_Shapes_1 at h; refine Ctr.ofW tabOk func127 rfl call127 0 _ ntmps127 [.tmp 2] rfl rfl rfl (fun B => ?_); refine vs [1] (fun K hK => ?_); push_cast; refine hK _ ?_; clear hK K; obtain ⟨r1, hr1, h⟩ := po_some h; refine vs [2] (fun K hK => ?_); push_cast; refine cp (c_schema_May hr1) ?_; push_cast; refine hK _ ?_; clear hK K; refine VC.ret ?_; replace h := Option.some.inj h; subst h; exact en (by push_cast)
noncomputable def p_verify_work_here (a0 : T_verify_work) : Option (T_Shape × T_verify_work) :=
  po (idx a0.in_ a0.at_) fun x1 =>
  some (x1, a0)
theorem c_verify_work_here {a0 : T_verify_work} {r : T_Shape × T_verify_work} (h : p_verify_work_here a0 = some r) : Ctr prog 213 [.ref 0 0] [(0, .box 212 [.sl false (a0.p.Fns.map enc_Fn), ri a0.fn, .sl false (a0.l.map enc_Schema), .row 1 0 16 0 a0.in_.length, .row 2 0 1 0 a0.is.length, ri a0.at_, rb a0.safe]), (1, .row 217 16 0 (a0.in_.map enc_Shape)), (2, .row 4 1 0 (a0.is.map encBool))] (.agg (enc_Shape r.1)) [(0, .box 212 [.sl false (r.2.p.Fns.map enc_Fn), ri r.2.fn, .sl false (r.2.l.map enc_Schema), .row 1 0 16 0 r.2.in_.length, .row 2 0 1 0 r.2.is.length, ri r.2.at_, rb r.2.safe]), (1, .row 217 16 0 (r.2.in_.map enc_Shape)), (2, .row 4 1 0 (r.2.is.map encBool))] := by
 unfold p_verify_work_here at h; refine Ctr.ofW tabOk func213 rfl call213 3 _ ntmps213 [.cell 2 217] rfl rfl rfl (fun B => ?_); refine vs [0, 2] (fun K hK => ?_); push_cast; refine hK _ ?_; clear hK K; obtain ⟨x1, hx1, h⟩ := po_some h; replace hx1 := idx_some4 hx1; refine vsD [some 3, some 4, some 5, some 6, some 7, some 8, some 9, some 10, some 11, some 12, none] [2] (fun K hK => ?_); refine runD_cut 8 (fun K2 hK2 => ?_); push_cast [hx1]; (repeat refine .intro (by omega) ?_); refine hK2 _ _ _ ?_; clear hK2 K2; simp only [List.drop_succ_cons, List.drop_zero]; push_cast [hx1]; (repeat refine .intro (by omega) ?_); refine ⟨rfl, hK _ ?_⟩; clear hK K; refine VC.ret ?_; replace h := Option.some.inj h; subst h; exact en (by push_cast [encA8])
noncomputable def p_shape_Get_J1 (a0 : T_Shape) (a1 : Int) (i_1 : Bool) : Option (C128 × Bool) :=
  cond i_1 (
  some ((C128.mk 0 0), false)) (
  pg (0 ≤ a1 ∧ a1 < 8) <|
  some ((a0.R.get a1.toNat), true))
noncomputable def p_shape_Get (a0 : T_Shape) (a1 : Int) : Option (C128 × Bool) :=
  po (
  po (p_shape_May a0) fun r2 =>
  cond r2 (
  po (p_shape_in a1) fun r4 =>
  cond r4 (
  pg (0 ≤ a1 ∧ a1 < 8) <|
  some (!(a0.Set.get a1.toNat))) (
  some true)) (
  some true)) (fun x => p_shape_Get_J1 a0 a1 x)
theorem c_shape_Get {a0 : T_Shape} {a1 : Int} {r : C128 × Bool} (h : p_shape_Get a0 a1 = some r) : Ctr prog 232 [.agg (enc_Shape a0), ri a1] [] (.tup [.raw (.complex .f64 r.1.re r.1.im), rb r.2]) [] := by
 unfold p_shape_Get at h; refine Ctr.ofW tabOk func232 rfl call232 0 _ ntmps232 [.tmp 4, .tmp 5] rfl rfl rfl (fun B => ?_); refine vs [1, 2] (fun K hK => ?_); push_cast; refine hK _ ?_; clear hK K; refine VC.seq ?_; refine vj h (fun x => ⟨[(1, ri a1), (2, .ref 0 0), (20, rb x)], [(0, .box 217 (enc_Shape a0))], 18, 25, 0⟩) (fun v1 h hk1 => ?_) ?_
 ·obtain ⟨r2, hr2, h⟩ := po_some h; rcases Bool.eq_false_or_eq_true r2 with hb3 | hb3
  ·replace h := cond_yes hb3 h; obtain ⟨r4, hr4, h⟩ := po_some h; rcases Bool.eq_false_or_eq_true r4 with hb5 | hb5
   ·replace h := cond_yes hb5 h; obtain ⟨hg6, h⟩ := pg_some h; have hg6n : a1.toNat < 8 := by omega
    refine vlG [some 6, some 7, some 8, some 9, some 10, some 11, some 12, some 13, some 14, some 15, some 16, some 17, some 18, some 19, some 20] (fun K hK => ?_); refine runOps_cut 8 (fun K2 hK2 => ?_); push_cast [hb3, hb5, hg6, hg6n]; (repeat refine .intro (by omega) ?_); refine cp (c_shape_May hr2) ?_; push_cast [hb3, hb5, hg6, hg6n]; (repeat refine .intro (by omega) ?_); refine cp (c_shape_in hr4) ?_; push_cast [hb3, hb5, hg6, hg6n]; (repeat refine .intro (by omega) ?_); refine hK2 _ _ ?_; clear hK2 K2; simp only [List.drop_succ_cons, List.drop_zero]; push_cast [hb3, hb5, hg6, hg6n]; (repeat refine .intro (by omega) ?_); refine hK _ ?_; clear hK K; refine ar h hk1 ?_; exact sl (by push_cast [hb3, hb5])
   ·replace h := cond_no hb5 h; refine vlG [some 6, some 7, some 8, some 9, some 10, some 11, some 12, some 13, some 14, some 15, some 16, some 17, some 18, some 19, some 20] (fun K hK => ?_); refine runOps_cut 8 (fun K2 hK2 => ?_); push_cast [hb3, hb5]; (repeat refine .intro (by omega) ?_); refine cp (c_shape_May hr2) ?_; push_cast [hb3, hb5]; (repeat refine .intro (by omega) ?_); refine cp (c_shape_in hr4) ?_; push_cast [hb3, hb5]; (repeat refine .intro (by omega) ?_); refine hK2 _ _ ?_; clear hK2 K2; simp only [List.drop_succ_cons, List.drop_zero]; push_cast [hb3, hb5]; (repeat refine .intro (by omega) ?_); refine hK _ ?_; clear hK K; refine ar h hk1 ?_; exact sl (by push_cast [hb3, hb5])
  ·replace h := cond_no hb3 h; refine vlG [some 6, some 7, some 8, some 9, some 10, some 11, some 12, some 13, some 14, some 15, some 16, some 17, some 18, some 19, some 20] (fun K hK => ?_); refine runOps_cut 8 (fun K2 hK2 => ?_); push_cast [hb3]; (repeat refine .intro (by omega) ?_); refine cp (c_shape_May hr2) ?_; push_cast [hb3]; (repeat refine .intro (by omega) ?_); refine hK2 _ _ ?_; clear hK2 K2; simp only [List.drop_succ_cons, List.drop_zero]; push_cast [hb3]; (repeat refine .intro (by omega) ?_); refine hK _ ?_; clear hK K; refine ar h hk1 ?_; exact sl (by push_cast [hb3])
 ·rintro i_1 (h : p_shape_Get_J1 a0 a1 i_1 = some r); (try push_cast); unfold p_shape_Get_J1 at h; refine vc h (fun hb7 h => ?_) (fun hb7 h => ?_)
  ·refine vs [4, 5] (fun K hK => ?_); push_cast; refine hK _ ?_; clear hK K; refine VC.ret ?_; replace h := Option.some.inj h; subst h; exact en (by push_cast [hb7])
  ·refine VC.skip ?_; obtain ⟨hg8, h⟩ := pg_some h; have hg8n : a1.toNat < 8 := by omega
   refine vs [4, 5] (fun K hK => ?_); push_cast [hg8, hg8n]; (repeat refine .intro (by omega) ?_); refine hK _ ?_; clear hK K; refine VC.ret ?_; replace h := Option.some.inj h; subst h; exact en (by push_cast [hb7])
noncomputable def p_verify_work_get_J4 (r3 : C128 × Bool) (s_1 : T_verify_work) : Option (C128 × T_verify_work) :=
  some (r3.1, s_1)
noncomputable def p_verify_work_get (a0 : T_verify_work) (a1 : Int) : Option (C128 × T_verify_work) :=
  po (p_verify_work_here a0) fun r1 =>
  pg (r1.2 = a0) <|
  po (p_shape_Get r1.1 a1) fun r3 =>
  po (
  cond a0.safe (
  some (T_verify_work.mk a0.p a0.fn a0.l a0.in_ a0.is a0.at_ r3.2)) (
  some (T_verify_work.mk a0.p a0.fn a0.l a0.in_ a0.is a0.at_ false))) (fun x => p_verify_work_get_J4 r3 x)
theorem c_verify_work_get {a0 : T_verify_work} {a1 : Int} {r : C128 × T_verify_work} (h : p_verify_work_get a0 a1 = some r) : Ctr prog 210 [.ref 0 0, ri a1] [(0, .box 212 [.sl false (a0.p.Fns.map enc_Fn), ri a0.fn, .sl false (a0.l.map enc_Schema), .row 1 0 16 0 a0.in_.length, .row 2 0 1 0 a0.is.length, ri a0.at_, rb a0.safe]), (1, .row 217 16 0 (a0.in_.map enc_Shape)), (2, .row 4 1 0 (a0.is.map encBool))] (.raw (.complex .f64 r.1.re r.1.im)) [(0, .box 212 [.sl false (r.2.p.Fns.map enc_Fn), ri r.2.fn, .sl false (r.2.l.map enc_Schema), .row 1 0 16 0 r.2.in_.length, .row 2 0 1 0 r.2.is.length, ri r.2.at_, rb r.2.safe]), (1, .row 217 16 0 (r.2.in_.map enc_Shape)), (2, .row 4 1 0 (r.2.is.map encBool))] := by
 unfold p_verify_work_get at h; refine Ctr.ofW tabOk func210 rfl call210 3 _ ntmps210 [.tmp 4] rfl rfl rfl (fun B => ?_); refine vs [0, 1] (fun K hK => ?_); push_cast; refine hK _ ?_; clear hK K; obtain ⟨r1, hr1, h⟩ := po_some h; obtain ⟨hg2, h⟩ := pg_some h; have qr1 := c_verify_work_here hr1; rw [hg2] at qr1; obtain ⟨r3, hr3, h⟩ := po_some h; refine vs [0, 5, 6] (fun K hK => ?_); push_cast; refine chR (H := [(0, .box 212 [.sl false (a0.p.Fns.map enc_Fn), ri a0.fn, .sl false (a0.l.map enc_Schema), .row 1 0 16 0 a0.in_.length, .row 2 0 1 0 a0.is.length, ri a0.at_, rb a0.safe]), (1, .row 217 16 0 (a0.in_.map enc_Shape)), (2, .row 4 1 0 (a0.is.map encBool))]) (Ctr.loH (Ctr.ren Bij.id (qr1) (by push_cast) (by push_cast))) (by push_cast) (by push_cast) ?_; push_cast; refine cp (c_shape_Get hr3) ?_; push_cast; refine hK _ ?_; clear hK K; refine VC.sub (s' := ⟨[(0, .ref 0 0), (5, .raw (.complex .f64 r3.1.re r3.1.im)), (6, rb r3.2)], [(0, .box 212 [.sl false (a0.p.Fns.map enc_Fn), ri a0.fn, .sl false (a0.l.map enc_Schema), .row 1 0 16 0 a0.in_.length, .row 2 0 1 0 a0.is.length, ri a0.at_, rb a0.safe]), (1, .row 217 16 0 (a0.in_.map enc_Shape)), (2, .row 4 1 0 (a0.is.map encBool))], 13, 25, 3⟩) (so (by push_cast)) ?_; refine vj h (fun x => ⟨[(5, .raw (.complex .f64 r3.1.re r3.1.im))], [(0, .box 212 [.sl false (x.p.Fns.map enc_Fn), ri x.fn, .sl false (x.l.map enc_Schema), .row 1 0 16 0 x.in_.length, .row 2 0 1 0 x.is.length, ri x.at_, rb x.safe]), (1, .row 217 16 0 (x.in_.map enc_Shape)), (2, .row 4 1 0 (x.is.map encBool))], 24, 25, 3⟩) (fun v4 h hk4 => ?_) ?_
 ·rcases Bool.eq_false_or_eq_true a0.safe with hb5 | hb5
  ·replace h := cond_yes hb5 h; refine vlG [some 14, some 15, some 16, some 17, some 18, some 19, some 20, some 21, some 22, some 23, none] (fun K hK => ?_); refine runOps_cut 8 (fun K2 hK2 => ?_); push_cast [hb5]; (repeat refine .intro (by omega) ?_); refine hK2 _ _ ?_; clear hK2 K2; simp only [List.drop_succ_cons, List.drop_zero]; push_cast [hb5]; (repeat refine .intro (by omega) ?_); refine hK _ ?_; clear hK K; refine ar h hk4 ?_; exact sl (by push_cast [hb5])
  ·replace h := cond_no hb5 h; refine vlG [some 14, some 15, some 16, some 17, some 18, some 19, some 20, some 21, some 22, some 23, none] (fun K hK => ?_); refine runOps_cut 8 (fun K2 hK2 => ?_); push_cast [hb5]; (repeat refine .intro (by omega) ?_); refine hK2 _ _ ?_; clear hK2 K2; simp only [List.drop_succ_cons, List.drop_zero]; push_cast [hb5]; (repeat refine .intro (by omega) ?_); refine hK _ ?_; clear hK K; refine ar h hk4 ?_; exact sl (by push_cast [hb5])
 ·rintro s_1 (h : p_verify_work_get_J4 r3 s_1 = some r); (try push_cast); unfold p_verify_work_get_J4 at h; refine vs [4] (fun K hK => ?_); push_cast; refine hK _ ?_; clear hK K; refine VC.ret ?_; replace h := Option.some.inj h; subst h; exact en (by push_cast)
noncomputable def p_verify_work_then (a0 : T_verify_work) (a1 : T_Shape) : Option (T_verify_work) :=
  cond a0.safe (
  po (p_verify_work_to a0 (IntKind.i64.wrap (a0.at_ + 1)) a1) fun r2 =>
  some r2) (
  some a0)
theorem c_verify_work_then {a0 : T_verify_work} {a1 : T_Shape} {r : T_verify_work} (h : p_verify_work_then a0 a1 = some r) : Ctr prog 217 [.ref 0 0, .agg (enc_Shape a1)] [(0, .box 212 [.sl false (a0.p.Fns.map enc_Fn), ri a0.fn, .sl false (a0.l.map enc_Schema), .row 1 0 16 0 a0.in_.length, .row 2 0 1 0 a0.is.length, ri a0.at_, rb a0.safe]), (1, .row 217 16 0 (a0.in_.map enc_Shape)), (2, .row 4 1 0 (a0.is.map encBool))] (.tup []) [(0, .box 212 [.sl false (r.p.Fns.map enc_Fn), ri r.fn, .sl false (r.l.map enc_Schema), .row 1 0 16 0 r.in_.length, .row 2 0 1 0 r.is.length, ri r.at_, rb r.safe]), (1, .row 217 16 0 (r.in_.map enc_Shape)), (2, .row 4 1 0 (r.is.map encBool))] := by
 unfold p_verify_work_then at h; refine Ctr.ofW tabOk func217 rfl call217 3 _ ntmps217 [] rfl rfl rfl (fun B => ?_); refine vs [0, 3] (fun K hK => ?_); push_cast; refine hK _ ?_; clear hK K; refine vs [0, 3, 7] (fun K hK => ?_); push_cast; refine hK _ ?_; clear hK K; refine vc h (fun hb1 h => ?_) (fun hb1 h => ?_)
 ·obtain ⟨r2, hr2, h⟩ := po_some h; refine vlD [some 8, some 9, some 10, some 11, some 12, some 13, some 14, some 15] (fun K hK => ?_); push_cast; refine chD (H := [(0, .box 212 [.sl false (a0.p.Fns.map enc_Fn), ri a0.fn, .sl false (a0.l.map enc_Schema), .row 1 0 16 0 a0.in_.length, .row 2 0 1 0 a0.is.length, ri a0.at_, rb a0.safe]), (1, .row 217 16 0 (a0.in_.map enc_Shape)), (2, .row 4 1 0 (a0.is.map encBool))]) (Ctr.loH (Ctr.ren Bij.id (c_verify_work_to hr2) (by push_cast) (by push_cast))) (by push_cast) ?_; push_cast; refine ⟨rfl, hK _ ?_⟩; clear hK K; replace h := Option.some.inj h; subst h; exact eN (by push_cast [hb1])
 ·refine VC.skip ?_; replace h := Option.some.inj h; subst h; exact eN (by push_cast [hb1])
noncomputable def p_verify_work_put (a0 : T_verify_work) (a1 : Int) (a2 : C128) : Option (T_verify_work) :=
  po (p_verify_work_here a0) fun r1 =>
  pg (r1.2 = a0) <|
  po (p_shape_Put r1.1 a1 a2) fun r3 =>
  po (p_verify_work_then a0 r3) fun r4 =>
  some r4
theorem c_verify_work_put {a0 : T_verify_work} {a1 : Int} {a2 : C128} {r : T_verify_work} (h : p_verify_work_put a0 a1 a2 = some r) : Ctr prog 211 [.ref 0 0, ri a1, .raw (.complex .f64 a2.re a2.im)] [(0, .box 212 [.sl false (a0.p.Fns.map enc_Fn), ri a0.fn, .sl false (a0.l.map enc_Schema), .row 1 0 16 0 a0.in_.length, .row 2 0 1 0 a0.is.length, ri a0.at_, rb a0.safe]), (1, .row 217 16 0 (a0.in_.map enc_Shape)), (2, .row 4 1 0 (a0.is.map encBool))] (.tup []) [(0, .box 212 [.sl false (r.p.Fns.map enc_Fn), ri r.fn, .sl false (r.l.map enc_Schema), .row 1 0 16 0 r.in_.length, .row 2 0 1 0 r.is.length, ri r.at_, rb r.safe]), (1, .row 217 16 0 (r.in_.map enc_Shape)), (2, .row 4 1 0 (r.is.map encBool))] := by
 unfold p_verify_work_put at h; refine Ctr.ofW tabOk func211 rfl call211 3 _ ntmps211 [] rfl rfl rfl (fun B => ?_); obtain ⟨r1, hr1, h⟩ := po_some h; obtain ⟨hg2, h⟩ := pg_some h; have qr1 := c_verify_work_here hr1; rw [hg2] at qr1; obtain ⟨r3, hr3, h⟩ := po_some h; obtain ⟨r4, hr4, h⟩ := po_some h; refine vl (fun K hK => ?_); push_cast; refine chR (H := [(0, .box 212 [.sl false (a0.p.Fns.map enc_Fn), ri a0.fn, .sl false (a0.l.map enc_Schema), .row 1 0 16 0 a0.in_.length, .row 2 0 1 0 a0.is.length, ri a0.at_, rb a0.safe]), (1, .row 217 16 0 (a0.in_.map enc_Shape)), (2, .row 4 1 0 (a0.is.map encBool))]) (Ctr.loH (Ctr.ren Bij.id (qr1) (by push_cast) (by push_cast))) (by push_cast) (by push_cast) ?_; push_cast; refine cp (c_shape_Put hr3) ?_; push_cast; refine ch (H := [(0, .box 212 [.sl false (a0.p.Fns.map enc_Fn), ri a0.fn, .sl false (a0.l.map enc_Schema), .row 1 0 16 0 a0.in_.length, .row 2 0 1 0 a0.is.length, ri a0.at_, rb a0.safe]), (1, .row 217 16 0 (a0.in_.map enc_Shape)), (2, .row 4 1 0 (a0.is.map encBool))]) (Ctr.loH (Ctr.ren Bij.id (c_verify_work_then hr4) (by push_cast) (by push_cast))) (by push_cast) ?_; push_cast; refine hK _ ?_; clear hK K; replace h := Option.some.inj h; subst h; exact eN (by push_cast)
noncomputable def p_shape_Word_J1 (a0 : T_Shape) (a1 : T_Inst) (i_1 : Bool) : Option (C128 × Bool) :=
  cond i_1 (
  some ((C128.mk 0 0), false)) (
  cond a1.Reg (
  po (p_shape_Get a0 a1.Src) fun r7 =>
  some (r7.1, r7.2)) (
  po (p_bounds_Of a1.Imm a1.Imm) fun r8 =>
  some (r8, true)))
noncomputable def p_shape_Word (a0 : T_Shape) (a1 : T_Inst) : Option (C128 × Bool) :=
  po (
  po (p_shape_May a0) fun r2 =>
  cond (!r2) (
  some (!r2)) (
  po (p_inst_May a1) fun r4 =>
  some (!r4))) (fun x => p_shape_Word_J1 a0 a1 x)
theorem c_shape_Word {a0 : T_Shape} {a1 : T_Inst} {r : C128 × Bool} (h : p_shape_Word a0 a1 = some r) : Ctr prog 231 [.agg (enc_Shape a0), .agg (enc_Inst a1)] [] (.tup [.raw (.complex .f64 r.1.re r.1.im), rb r.2]) [] := by
 unfold p_shape_Word at h; refine Ctr.ofW tabOk func231 rfl call231 0 _ ntmps231 [.tmp 4, .tmp 5] rfl rfl rfl (fun B => ?_); refine vs [2, 3] (fun K hK => ?_); push_cast; refine hK _ ?_; clear hK K; refine VC.seq ?_; refine VC.block ?_; refine vj h (fun x => ⟨[(2, .ref 0 0), (3, .ref 1 0), (6, rb x)], [(0, .box 217 (enc_Shape a0)), (1, .box 37 (enc_Inst a1))], 12, 27, 0⟩) (fun v1 h hk1 => ?_) ?_
 ·obtain ⟨r2, hr2, h⟩ := po_some h; refine vs [2, 3, 6] (fun K hK => ?_); push_cast; refine cp (c_shape_May hr2) ?_; push_cast; refine hK _ ?_; clear hK K; refine vc h (fun hb3 h => ?_) (fun hb3 h => ?_)
  ·refine VC.skip ?_; refine ar h hk1 ?_; exact sl (by push_cast [hb3])
  ·obtain ⟨r4, hr4, h⟩ := po_some h; refine vl (fun K hK => ?_); push_cast; refine cp (c_inst_May hr4) ?_; push_cast; refine hK _ ?_; clear hK K; refine ar h hk1 ?_; exact sl (by push_cast [hb3])
 ·rintro i_1 (h : p_shape_Word_J1 a0 a1 i_1 = some r); (try push_cast); unfold p_shape_Word_J1 at h; refine vc h (fun hb5 h => ?_) (fun hb5 h => ?_)
  ·refine vs [4, 5] (fun K hK => ?_); push_cast; refine hK _ ?_; clear hK K; refine VC.ret ?_; replace h := Option.some.inj h; subst h; exact en (by push_cast [hb5])
  ·refine vs [2, 3, 13] (fun K hK => ?_); push_cast; refine hK _ ?_; clear hK K; refine vc h (fun hb6 h => ?_) (fun hb6 h => ?_)
   ·obtain ⟨r7, hr7, h⟩ := po_some h; refine vs [4, 5] (fun K hK => ?_); push_cast; refine cp (c_shape_Get hr7) ?_; push_cast; refine hK _ ?_; clear hK K; refine VC.ret ?_; replace h := Option.some.inj h; subst h; exact en (by push_cast [hb5, hb6])
   ·refine VC.skip ?_; obtain ⟨r8, hr8, h⟩ := po_some h; refine vs [4, 5] (fun K hK => ?_); push_cast; refine cp (c_bounds_Of hr8) ?_; push_cast; refine hK _ ?_; clear hK K; refine VC.ret ?_; replace h := Option.some.inj h; subst h; exact en (by push_cast [hb5, hb6])
noncomputable def p_verify_work_word_J4 (r3 : C128 × Bool) (s_1 : T_verify_work) : Option (C128 × T_verify_work) :=
  some (r3.1, s_1)
noncomputable def p_verify_work_word (a0 : T_verify_work) (a1 : T_Inst) : Option (C128 × T_verify_work) :=
  po (p_verify_work_here a0) fun r1 =>
  pg (r1.2 = a0) <|
  po (p_shape_Word r1.1 a1) fun r3 =>
  po (
  cond a0.safe (
  some (T_verify_work.mk a0.p a0.fn a0.l a0.in_ a0.is a0.at_ r3.2)) (
  some (T_verify_work.mk a0.p a0.fn a0.l a0.in_ a0.is a0.at_ false))) (fun x => p_verify_work_word_J4 r3 x)
theorem c_verify_work_word {a0 : T_verify_work} {a1 : T_Inst} {r : C128 × T_verify_work} (h : p_verify_work_word a0 a1 = some r) : Ctr prog 209 [.ref 0 0, .agg (enc_Inst a1)] [(0, .box 212 [.sl false (a0.p.Fns.map enc_Fn), ri a0.fn, .sl false (a0.l.map enc_Schema), .row 1 0 16 0 a0.in_.length, .row 2 0 1 0 a0.is.length, ri a0.at_, rb a0.safe]), (1, .row 217 16 0 (a0.in_.map enc_Shape)), (2, .row 4 1 0 (a0.is.map encBool))] (.raw (.complex .f64 r.1.re r.1.im)) [(0, .box 212 [.sl false (r.2.p.Fns.map enc_Fn), ri r.2.fn, .sl false (r.2.l.map enc_Schema), .row 1 0 16 0 r.2.in_.length, .row 2 0 1 0 r.2.is.length, ri r.2.at_, rb r.2.safe]), (1, .row 217 16 0 (r.2.in_.map enc_Shape)), (2, .row 4 1 0 (r.2.is.map encBool))] := by
 unfold p_verify_work_word at h; refine Ctr.ofW tabOk func209 rfl call209 3 _ ntmps209 [.tmp 4] rfl rfl rfl (fun B => ?_); refine vs [0, 3] (fun K hK => ?_); push_cast; refine hK _ ?_; clear hK K; obtain ⟨r1, hr1, h⟩ := po_some h; obtain ⟨hg2, h⟩ := pg_some h; have qr1 := c_verify_work_here hr1; rw [hg2] at qr1; obtain ⟨r3, hr3, h⟩ := po_some h; refine vsD [some 8, some 9, some 10, some 11, some 7, some 12, some 13, some 5, some 6] [0, 5, 6] (fun K hK => ?_); push_cast; refine chRD (H := [(0, .box 212 [.sl false (a0.p.Fns.map enc_Fn), ri a0.fn, .sl false (a0.l.map enc_Schema), .row 1 0 16 0 a0.in_.length, .row 2 0 1 0 a0.is.length, ri a0.at_, rb a0.safe]), (1, .row 217 16 0 (a0.in_.map enc_Shape)), (2, .row 4 1 0 (a0.is.map encBool))]) (Ctr.loH (Ctr.ren Bij.id (qr1) (by push_cast) (by push_cast))) (by push_cast) (by push_cast) ?_; push_cast; refine cpD (c_shape_Word hr3) ?_; push_cast; refine ⟨rfl, hK _ ?_⟩; clear hK K; refine VC.sub (s' := ⟨[(0, .ref 0 0), (5, .raw (.complex .f64 r3.1.re r3.1.im)), (6, rb r3.2)], [(0, .box 212 [.sl false (a0.p.Fns.map enc_Fn), ri a0.fn, .sl false (a0.l.map enc_Schema), .row 1 0 16 0 a0.in_.length, .row 2 0 1 0 a0.is.length, ri a0.at_, rb a0.safe]), (1, .row 217 16 0 (a0.in_.map enc_Shape)), (2, .row 4 1 0 (a0.is.map encBool))], 14, 25, 3⟩) (so (by push_cast)) ?_; refine vj h (fun x => ⟨[(5, .raw (.complex .f64 r3.1.re r3.1.im))], [(0, .box 212 [.sl false (x.p.Fns.map enc_Fn), ri x.fn, .sl false (x.l.map enc_Schema), .row 1 0 16 0 x.in_.length, .row 2 0 1 0 x.is.length, ri x.at_, rb x.safe]), (1, .row 217 16 0 (x.in_.map enc_Shape)), (2, .row 4 1 0 (x.is.map encBool))], 25, 25, 3⟩) (fun v4 h hk4 => ?_) ?_
 ·rcases Bool.eq_false_or_eq_true a0.safe with hb5 | hb5
  ·replace h := cond_yes hb5 h; refine vlG [some 14, some 15, some 16, some 17, some 18, some 19, some 20, some 21, some 22, some 23, none] (fun K hK => ?_); refine runOps_cut 8 (fun K2 hK2 => ?_); push_cast [hb5]; (repeat refine .intro (by omega) ?_); refine hK2 _ _ ?_; clear hK2 K2; simp only [List.drop_succ_cons, List.drop_zero]; push_cast [hb5]; (repeat refine .intro (by omega) ?_); refine hK _ ?_; clear hK K; refine ar h hk4 ?_; exact sl (by push_cast [hb5])
  ·replace h := cond_no hb5 h; refine vlG [some 14, some 15, some 16, some 17, some 18, some 19, some 20, some 21, some 22, some 23, none] (fun K hK => ?_); refine runOps_cut 8 (fun K2 hK2 => ?_); push_cast [hb5]; (repeat refine .intro (by omega) ?_); refine hK2 _ _ ?_; clear hK2 K2; simp only [List.drop_succ_cons, List.drop_zero]; push_cast [hb5]; (repeat refine .intro (by omega) ?_); refine hK _ ?_; clear hK K; refine ar h hk4 ?_; exact sl (by push_cast [hb5])
 ·rintro s_1 (h : p_verify_work_word_J4 r3 s_1 = some r); (try push_cast); unfold p_verify_work_word_J4 at h; refine vs [4] (fun K hK => ?_); push_cast; refine hK _ ?_; clear hK K; refine VC.ret ?_; replace h := Option.some.inj h; subst h; exact en (by push_cast)
noncomputable def p_verify_work_alu_J3 (a1 : T_Inst) (r2 : C128 × T_verify_work) (s_1 : T_verify_work) (i_2 : C128) : Option (T_verify_work) :=
  po (p_bounds_Alu a1.Fn i_2 r2.1) fun r6 =>
  po (p_verify_work_put s_1 a1.Dst r6) fun r7 =>
  some r7
noncomputable def p_verify_work_alu (a0 : T_verify_work) (a1 : T_Inst) : Option (T_verify_work) :=
  po (p_bounds_Of 0 4294967295) fun r1 =>
  po (p_verify_work_word a0 a1) fun r2 =>
  po (
  cond (a1.Fn != 0) (
  po (p_verify_work_get r2.2 a1.Dst) fun r5 =>
  some (r5.2, r5.1)) (
  some (r2.2, r1))) (fun x => p_verify_work_alu_J3 a1 r2 x.1 x.2)
theorem c_verify_work_alu {a0 : T_verify_work} {a1 : T_Inst} {r : T_verify_work} (h : p_verify_work_alu a0 a1 = some r) : Ctr prog 175 [.ref 0 0, .agg (enc_Inst a1)] [(0, .box 212 [.sl false (a0.p.Fns.map enc_Fn), ri a0.fn, .sl false (a0.l.map enc_Schema), .row 1 0 16 0 a0.in_.length, .row 2 0 1 0 a0.is.length, ri a0.at_, rb a0.safe]), (1, .row 217 16 0 (a0.in_.map enc_Shape)), (2, .row 4 1 0 (a0.is.map encBool))] (.tup []) [(0, .box 212 [.sl false (r.p.Fns.map enc_Fn), ri r.fn, .sl false (r.l.map enc_Schema), .row 1 0 16 0 r.in_.length, .row 2 0 1 0 r.is.length, ri r.at_, rb r.safe]), (1, .row 217 16 0 (r.in_.map enc_Shape)), (2, .row 4 1 0 (r.is.map encBool))] := by
 unfold p_verify_work_alu at h; refine Ctr.ofW tabOk func175 rfl call175 3 _ ntmps175 [] rfl rfl rfl (fun B => ?_); refine vs [0, 3] (fun K hK => ?_); push_cast; refine hK _ ?_; clear hK K; obtain ⟨r1, hr1, h⟩ := po_some h; obtain ⟨r2, hr2, h⟩ := po_some h; refine vsD [some 6, some 7, some 8, some 9, some 4, some 5] [0, 3, 4, 5] (fun K hK => ?_); push_cast; refine cpD (c_bounds_Of hr1) ?_; push_cast; refine chD (H := [(0, .box 212 [.sl false (a0.p.Fns.map enc_Fn), ri a0.fn, .sl false (a0.l.map enc_Schema), .row 1 0 16 0 a0.in_.length, .row 2 0 1 0 a0.is.length, ri a0.at_, rb a0.safe]), (1, .row 217 16 0 (a0.in_.map enc_Shape)), (2, .row 4 1 0 (a0.is.map encBool))]) (Ctr.loH (Ctr.ren Bij.id (c_verify_work_word hr2) (by push_cast) (by push_cast))) (by push_cast) ?_; push_cast; refine ⟨rfl, hK _ ?_⟩; clear hK K; refine VC.sub (s' := ⟨[(0, .ref 0 0), (3, .ref 3 0), (4, .raw (.complex .f64 r1.re r1.im)), (5, .raw (.complex .f64 r2.1.re r2.1.im))], [(0, .box 212 [.sl false (r2.2.p.Fns.map enc_Fn), ri r2.2.fn, .sl false (r2.2.l.map enc_Schema), .row 1 0 16 0 r2.2.in_.length, .row 2 0 1 0 r2.2.is.length, ri r2.2.at_, rb r2.2.safe]), (1, .row 217 16 0 (r2.2.in_.map enc_Shape)), (2, .row 4 1 0 (r2.2.is.map encBool)), (3, .box 37 (enc_Inst a1))], 10, 26, 3⟩) (so (by push_cast)) ?_; refine vj h (fun x => ⟨[(0, .ref 0 0), (3, .ref 3 0), (4, .raw (.complex .f64 x.2.re x.2.im)), (5, .raw (.complex .f64 r2.1.re r2.1.im))], [(0, .box 212 [.sl false (x.1.p.Fns.map enc_Fn), ri x.1.fn, .sl false (x.1.l.map enc_Schema), .row 1 0 16 0 x.1.in_.length, .row 2 0 1 0 x.1.is.length, ri x.1.at_, rb x.1.safe]), (1, .row 217 16 0 (x.1.in_.map enc_Shape)), (2, .row 4 1 0 (x.1.is.map encBool)), (3, .box 37 (enc_Inst a1))], 18, 26, 3⟩) (fun v3 h hk3 => ?_) ?_
 ·refine vs [0, 3, 4, 5, 12] (fun K hK => ?_); push_cast; refine hK _ ?_; clear hK K; refine vc h (fun hb4 h => ?_) (fun hb4 h => ?_)
  ·obtain ⟨r5, hr5, h⟩ := po_some h; refine vl (fun K hK => ?_); push_cast; refine ch (H := [(0, .box 212 [.sl false (r2.2.p.Fns.map enc_Fn), ri r2.2.fn, .sl false (r2.2.l.map enc_Schema), .row 1 0 16 0 r2.2.in_.length, .row 2 0 1 0 r2.2.is.length, ri r2.2.at_, rb r2.2.safe]), (1, .row 217 16 0 (r2.2.in_.map enc_Shape)), (2, .row 4 1 0 (r2.2.is.map encBool))]) (Ctr.loH (Ctr.ren Bij.id (c_verify_work_get hr5) (by push_cast) (by push_cast))) (by push_cast) ?_; push_cast; refine hK _ ?_; clear hK K; refine ar h hk3 ?_; exact sl (by push_cast [hb4])
  ·refine VC.skip ?_; refine ar h hk3 ?_; exact sl (by push_cast [hb4])
 ·rintro ⟨s_1, i_2⟩ (h : p_verify_work_alu_J3 a1 r2 s_1 i_2 = some r); (try push_cast); unfold p_verify_work_alu_J3 at h; obtain ⟨r6, hr6, h⟩ := po_some h; obtain ⟨r7, hr7, h⟩ := po_some h; refine vlD [some 17, some 18, some 19, some 20, some 21, some 22, some 23, some 24, some 25] (fun K hK => ?_); push_cast; refine cpD (c_bounds_Alu hr6) ?_; push_cast; refine chD (H := [(0, .box 212 [.sl false (s_1.p.Fns.map enc_Fn), ri s_1.fn, .sl false (s_1.l.map enc_Schema), .row 1 0 16 0 s_1.in_.length, .row 2 0 1 0 s_1.is.length, ri s_1.at_, rb s_1.safe]), (1, .row 217 16 0 (s_1.in_.map enc_Shape)), (2, .row 4 1 0 (s_1.is.map encBool))]) (Ctr.loH (Ctr.ren Bij.id (c_verify_work_put hr7) (by push_cast) (by push_cast))) (by push_cast) ?_; push_cast; refine ⟨rfl, hK _ ?_⟩; clear hK K; replace h := Option.some.inj h; subst h; exact eN (by push_cast)
noncomputable def p_verify_work_call (a0 : T_verify_work) (a1 : T_Inst) : Option (T_verify_work) :=
  none
theorem c_verify_work_call {a0 : T_verify_work} {a1 : T_Inst} {r : T_verify_work} (h : p_verify_work_call a0 a1 = some r) : Ctr prog 181 [.ref 0 0, .agg (enc_Inst a1)] [(0, .box 212 [.sl false (a0.p.Fns.map enc_Fn), ri a0.fn, .sl false (a0.l.map enc_Schema), .row 1 0 16 0 a0.in_.length, .row 2 0 1 0 a0.is.length, ri a0.at_, rb a0.safe]), (1, .row 217 16 0 (a0.in_.map enc_Shape)), (2, .row 4 1 0 (a0.is.map encBool))] (.tup []) [(0, .box 212 [.sl false (r.p.Fns.map enc_Fn), ri r.fn, .sl false (r.l.map enc_Schema), .row 1 0 16 0 r.in_.length, .row 2 0 1 0 r.is.length, ri r.at_, rb r.safe]), (1, .row 217 16 0 (r.in_.map enc_Shape)), (2, .row 4 1 0 (r.is.map encBool))] := by
 unfold p_verify_work_call at h; refine Ctr.ofW tabOk func181 rfl call181 3 _ ntmps181 [] rfl rfl rfl (fun B => ?_); cases h
noncomputable def p_verify_work_within (a0 : T_verify_work) (a1 : C128) (a2 : Int) : Option (T_verify_work) :=
  po (p_bounds_Ends a1) fun r1 =>
  cond a0.safe (
  cond r1.2.2 (
  some (T_verify_work.mk a0.p a0.fn a0.l a0.in_ a0.is a0.at_ (decide ((IntKind.u64.wrap (r1.2.1.toNat : Int)) < (IntKind.u64.wrap a2))))) (
  some (T_verify_work.mk a0.p a0.fn a0.l a0.in_ a0.is a0.at_ false))) (
  some (T_verify_work.mk a0.p a0.fn a0.l a0.in_ a0.is a0.at_ false))
theorem c_verify_work_within {a0 : T_verify_work} {a1 : C128} {a2 : Int} {r : T_verify_work} (h : p_verify_work_within a0 a1 a2 = some r) : Ctr prog 216 [.ref 0 0, .raw (.complex .f64 a1.re a1.im), ri a2] [(0, .box 212 [.sl false (a0.p.Fns.map enc_Fn), ri a0.fn, .sl false (a0.l.map enc_Schema), .row 1 0 16 0 a0.in_.length, .row 2 0 1 0 a0.is.length, ri a0.at_, rb a0.safe]), (1, .row 217 16 0 (a0.in_.map enc_Shape)), (2, .row 4 1 0 (a0.is.map encBool))] (.tup []) [(0, .box 212 [.sl false (r.p.Fns.map enc_Fn), ri r.fn, .sl false (r.l.map enc_Schema), .row 1 0 16 0 r.in_.length, .row 2 0 1 0 r.is.length, ri r.at_, rb r.safe]), (1, .row 217 16 0 (r.in_.map enc_Shape)), (2, .row 4 1 0 (r.is.map encBool))] := by
 unfold p_verify_work_within at h; refine Ctr.ofW tabOk func216 rfl call216 3 _ ntmps216 [] rfl rfl rfl (fun B => ?_); obtain ⟨r1, hr1, h⟩ := po_some h; refine vs [0, 2, 7, 8] (fun K hK => ?_); push_cast; refine cp (c_bounds_Ends hr1) ?_; push_cast; refine hK _ ?_; clear hK K; rcases Bool.eq_false_or_eq_true a0.safe with hb2 | hb2
 ·replace h := cond_yes hb2 h; rcases Bool.eq_false_or_eq_true r1.2.2 with hb3 | hb3
  ·replace h := cond_yes hb3 h; refine vlG [some 15, some 16, some 17, some 18, some 19, some 20, some 21, some 22, some 23, some 24, some 25, some 26, some 27, some 28, some 29, some 30, some 31, none] (fun K hK => ?_); refine runOps_cut 8 (fun K2 hK2 => ?_); push_cast [hb2, hb3]; (repeat refine .intro (by omega) ?_); refine hK2 _ _ ?_; clear hK2 K2; simp only [List.drop_succ_cons, List.drop_zero]; push_cast [hb2, hb3]; (repeat refine .intro (by omega) ?_); refine hK _ ?_; clear hK K; replace h := Option.some.inj h; subst h; exact eN (by push_cast [hb2, hb3])
  ·replace h := cond_no hb3 h; refine vlG [some 15, some 16, some 17, some 18, some 19, some 20, some 21, some 22, some 23, some 24, some 25, some 26, some 27, some 28, some 29, some 30, some 31, none] (fun K hK => ?_); refine runOps_cut 8 (fun K2 hK2 => ?_); push_cast [hb2, hb3]; (repeat refine .intro (by omega) ?_); refine hK2 _ _ ?_; clear hK2 K2; simp only [List.drop_succ_cons, List.drop_zero]; push_cast [hb2, hb3]; (repeat refine .intro (by omega) ?_); refine hK _ ?_; clear hK K; replace h := Option.some.inj h; subst h; exact eN (by push_cast [hb2, hb3])
 ·replace h := cond_no hb2 h; refine vlG [some 15, some 16, some 17, some 18, some 19, some 20, some 21, some 22, some 23, some 24, some 25, some 26, some 27, some 28, some 29, some 30, some 31, none] (fun K hK => ?_); refine runOps_cut 8 (fun K2 hK2 => ?_); push_cast [hb2]; (repeat refine .intro (by omega) ?_); refine hK2 _ _ ?_; clear hK2 K2; simp only [List.drop_succ_cons, List.drop_zero]; push_cast [hb2]; (repeat refine .intro (by omega) ?_); refine hK _ ?_; clear hK K; replace h := Option.some.inj h; subst h; exact eN (by push_cast [hb2])
noncomputable def p_verify_work_ctx (a0 : T_verify_work) (a1 : T_Inst) : Option (T_verify_work) :=
  po (p_verify_work_word a0 a1) fun r1 =>
  po (p_verify_work_within r1.2 r1.1 4) fun r2 =>
  po (p_bounds_Of 0 4294967295) fun r3 =>
  po (p_verify_work_put r2 a1.Dst r3) fun r4 =>
  some r4
theorem c_verify_work_ctx {a0 : T_verify_work} {a1 : T_Inst} {r : T_verify_work} (h : p_verify_work_ctx a0 a1 = some r) : Ctr prog 177 [.ref 0 0, .agg (enc_Inst a1)] [(0, .box 212 [.sl false (a0.p.Fns.map enc_Fn), ri a0.fn, .sl false (a0.l.map enc_Schema), .row 1 0 16 0 a0.in_.length, .row 2 0 1 0 a0.is.length, ri a0.at_, rb a0.safe]), (1, .row 217 16 0 (a0.in_.map enc_Shape)), (2, .row 4 1 0 (a0.is.map encBool))] (.tup []) [(0, .box 212 [.sl false (r.p.Fns.map enc_Fn), ri r.fn, .sl false (r.l.map enc_Schema), .row 1 0 16 0 r.in_.length, .row 2 0 1 0 r.is.length, ri r.at_, rb r.safe]), (1, .row 217 16 0 (r.in_.map enc_Shape)), (2, .row 4 1 0 (r.is.map encBool))] := by
 unfold p_verify_work_ctx at h; refine Ctr.ofW tabOk func177 rfl call177 3 _ ntmps177 [] rfl rfl rfl (fun B => ?_); refine vs [0, 3] (fun K hK => ?_); push_cast; refine hK _ ?_; clear hK K; obtain ⟨r1, hr1, h⟩ := po_some h; obtain ⟨r2, hr2, h⟩ := po_some h; refine vs [0, 3] (fun K hK => ?_); push_cast; refine ch (H := [(0, .box 212 [.sl false (a0.p.Fns.map enc_Fn), ri a0.fn, .sl false (a0.l.map enc_Schema), .row 1 0 16 0 a0.in_.length, .row 2 0 1 0 a0.is.length, ri a0.at_, rb a0.safe]), (1, .row 217 16 0 (a0.in_.map enc_Shape)), (2, .row 4 1 0 (a0.is.map encBool))]) (Ctr.loH (Ctr.ren Bij.id (c_verify_work_word hr1) (by push_cast) (by push_cast))) (by push_cast) ?_; push_cast; refine ch (H := [(0, .box 212 [.sl false (r1.2.p.Fns.map enc_Fn), ri r1.2.fn, .sl false (r1.2.l.map enc_Schema), .row 1 0 16 0 r1.2.in_.length, .row 2 0 1 0 r1.2.is.length, ri r1.2.at_, rb r1.2.safe]), (1, .row 217 16 0 (r1.2.in_.map enc_Shape)), (2, .row 4 1 0 (r1.2.is.map encBool))]) (Ctr.loH (Ctr.ren Bij.id (c_verify_work_within hr2) (by push_cast) (by push_cast))) (by push_cast) ?_; push_cast; refine hK _ ?_; clear hK K; refine VC.sub (s' := ⟨[(0, .ref 0 0), (3, .ref 3 0)], [(0, .box 212 [.sl false (r2.p.Fns.map enc_Fn), ri r2.fn, .sl false (r2.l.map enc_Schema), .row 1 0 16 0 r2.in_.length, .row 2 0 1 0 r2.is.length, ri r2.at_, rb r2.safe]), (1, .row 217 16 0 (r2.in_.map enc_Shape)), (2, .row 4 1 0 (r2.is.map encBool)), (3, .box 37 (enc_Inst a1))], 9, 14, 3⟩) (so (by push_cast)) ?_; obtain ⟨r3, hr3, h⟩ := po_some h; obtain ⟨r4, hr4, h⟩ := po_some h; refine vlD [some 9, some 10, some 11, some 12, some 13] (fun K hK => ?_); push_cast; refine cpD (c_bounds_Of hr3) ?_; push_cast; refine chD (H := [(0, .box 212 [.sl false (r2.p.Fns.map enc_Fn), ri r2.fn, .sl false (r2.l.map enc_Schema), .row 1 0 16 0 r2.in_.length, .row 2 0 1 0 r2.is.length, ri r2.at_, rb r2.safe]), (1, .row 217 16 0 (r2.in_.map enc_Shape)), (2, .row 4 1 0 (r2.is.map encBool))]) (Ctr.loH (Ctr.ren Bij.id (c_verify_work_put hr4) (by push_cast) (by push_cast))) (by push_cast) ?_; push_cast; refine ⟨rfl, hK _ ?_⟩; clear hK K; replace h := Option.some.inj h; subst h; exact eN (by push_cast)
noncomputable def p_verify_work_exit (a0 : T_verify_work) (a1 : T_Inst) : Option (T_verify_work) :=
  po (p_verify_work_get a0 0) fun r1 =>
  some r1.2
theorem c_verify_work_exit {a0 : T_verify_work} {a1 : T_Inst} {r : T_verify_work} (h : p_verify_work_exit a0 a1 = some r) : Ctr prog 182 [.ref 0 0, .agg (enc_Inst a1)] [(0, .box 212 [.sl false (a0.p.Fns.map enc_Fn), ri a0.fn, .sl false (a0.l.map enc_Schema), .row 1 0 16 0 a0.in_.length, .row 2 0 1 0 a0.is.length, ri a0.at_, rb a0.safe]), (1, .row 217 16 0 (a0.in_.map enc_Shape)), (2, .row 4 1 0 (a0.is.map encBool))] (.tup []) [(0, .box 212 [.sl false (r.p.Fns.map enc_Fn), ri r.fn, .sl false (r.l.map enc_Schema), .row 1 0 16 0 r.in_.length, .row 2 0 1 0 r.is.length, ri r.at_, rb r.safe]), (1, .row 217 16 0 (r.in_.map enc_Shape)), (2, .row 4 1 0 (r.is.map encBool))] := by
 unfold p_verify_work_exit at h; refine Ctr.ofW tabOk func182 rfl call182 3 _ ntmps182 [] rfl rfl rfl (fun B => ?_); refine vs [0] (fun K hK => ?_); push_cast; refine hK _ ?_; clear hK K; obtain ⟨r1, hr1, h⟩ := po_some h; refine vl (fun K hK => ?_); push_cast; refine ch (H := [(0, .box 212 [.sl false (a0.p.Fns.map enc_Fn), ri a0.fn, .sl false (a0.l.map enc_Schema), .row 1 0 16 0 a0.in_.length, .row 2 0 1 0 a0.is.length, ri a0.at_, rb a0.safe]), (1, .row 217 16 0 (a0.in_.map enc_Shape)), (2, .row 4 1 0 (a0.is.map encBool))]) (Ctr.loH (Ctr.ren Bij.id (c_verify_work_get hr1) (by push_cast) (by push_cast))) (by push_cast) ?_; push_cast; refine hK _ ?_; clear hK K; replace h := Option.some.inj h; subst h; exact eN (by push_cast)
noncomputable def p_verify_work_help (a0 : T_verify_work) (a1 : T_Inst) : Option (T_verify_work) :=
  none
theorem c_verify_work_help {a0 : T_verify_work} {a1 : T_Inst} {r : T_verify_work} (h : p_verify_work_help a0 a1 = some r) : Ctr prog 180 [.ref 0 0, .agg (enc_Inst a1)] [(0, .box 212 [.sl false (a0.p.Fns.map enc_Fn), ri a0.fn, .sl false (a0.l.map enc_Schema), .row 1 0 16 0 a0.in_.length, .row 2 0 1 0 a0.is.length, ri a0.at_, rb a0.safe]), (1, .row 217 16 0 (a0.in_.map enc_Shape)), (2, .row 4 1 0 (a0.is.map encBool))] (.tup []) [(0, .box 212 [.sl false (r.p.Fns.map enc_Fn), ri r.fn, .sl false (r.l.map enc_Schema), .row 1 0 16 0 r.in_.length, .row 2 0 1 0 r.is.length, ri r.at_, rb r.safe]), (1, .row 217 16 0 (r.in_.map enc_Shape)), (2, .row 4 1 0 (r.is.map encBool))] := by
 unfold p_verify_work_help at h; refine Ctr.ofW tabOk func180 rfl call180 3 _ ntmps180 [] rfl rfl rfl (fun B => ?_); cases h
noncomputable def p_verify_work_jump (a0 : T_verify_work) (a1 : T_Inst) : Option (T_verify_work) :=
  none
theorem c_verify_work_jump {a0 : T_verify_work} {a1 : T_Inst} {r : T_verify_work} (h : p_verify_work_jump a0 a1 = some r) : Ctr prog 176 [.ref 0 0, .agg (enc_Inst a1)] [(0, .box 212 [.sl false (a0.p.Fns.map enc_Fn), ri a0.fn, .sl false (a0.l.map enc_Schema), .row 1 0 16 0 a0.in_.length, .row 2 0 1 0 a0.is.length, ri a0.at_, rb a0.safe]), (1, .row 217 16 0 (a0.in_.map enc_Shape)), (2, .row 4 1 0 (a0.is.map encBool))] (.tup []) [(0, .box 212 [.sl false (r.p.Fns.map enc_Fn), ri r.fn, .sl false (r.l.map enc_Schema), .row 1 0 16 0 r.in_.length, .row 2 0 1 0 r.is.length, ri r.at_, rb r.safe]), (1, .row 217 16 0 (r.in_.map enc_Shape)), (2, .row 4 1 0 (r.is.map encBool))] := by
 unfold p_verify_work_jump at h; refine Ctr.ofW tabOk func176 rfl call176 3 _ ntmps176 [] rfl rfl rfl (fun B => ?_); cases h
noncomputable def p_verify_work_load (a0 : T_verify_work) (a1 : T_Inst) : Option (T_verify_work) :=
  none
theorem c_verify_work_load {a0 : T_verify_work} {a1 : T_Inst} {r : T_verify_work} (h : p_verify_work_load a0 a1 = some r) : Ctr prog 178 [.ref 0 0, .agg (enc_Inst a1)] [(0, .box 212 [.sl false (a0.p.Fns.map enc_Fn), ri a0.fn, .sl false (a0.l.map enc_Schema), .row 1 0 16 0 a0.in_.length, .row 2 0 1 0 a0.is.length, ri a0.at_, rb a0.safe]), (1, .row 217 16 0 (a0.in_.map enc_Shape)), (2, .row 4 1 0 (a0.is.map encBool))] (.tup []) [(0, .box 212 [.sl false (r.p.Fns.map enc_Fn), ri r.fn, .sl false (r.l.map enc_Schema), .row 1 0 16 0 r.in_.length, .row 2 0 1 0 r.is.length, ri r.at_, rb r.safe]), (1, .row 217 16 0 (r.in_.map enc_Shape)), (2, .row 4 1 0 (r.is.map encBool))] := by
 unfold p_verify_work_load at h; refine Ctr.ofW tabOk func178 rfl call178 3 _ ntmps178 [] rfl rfl rfl (fun B => ?_); cases h
noncomputable def p_verify_work_store (a0 : T_verify_work) (a1 : T_Inst) : Option (T_verify_work) :=
  none
theorem c_verify_work_store {a0 : T_verify_work} {a1 : T_Inst} {r : T_verify_work} (h : p_verify_work_store a0 a1 = some r) : Ctr prog 179 [.ref 0 0, .agg (enc_Inst a1)] [(0, .box 212 [.sl false (a0.p.Fns.map enc_Fn), ri a0.fn, .sl false (a0.l.map enc_Schema), .row 1 0 16 0 a0.in_.length, .row 2 0 1 0 a0.is.length, ri a0.at_, rb a0.safe]), (1, .row 217 16 0 (a0.in_.map enc_Shape)), (2, .row 4 1 0 (a0.is.map encBool))] (.tup []) [(0, .box 212 [.sl false (r.p.Fns.map enc_Fn), ri r.fn, .sl false (r.l.map enc_Schema), .row 1 0 16 0 r.in_.length, .row 2 0 1 0 r.is.length, ri r.at_, rb r.safe]), (1, .row 217 16 0 (r.in_.map enc_Shape)), (2, .row 4 1 0 (r.is.map encBool))] := by
 unfold p_verify_work_store at h; refine Ctr.ofW tabOk func179 rfl call179 3 _ ntmps179 [] rfl rfl rfl (fun B => ?_); cases h
noncomputable def p_verify_kinds : Option (Unit) :=
  some ()
theorem c_verify_kinds {r : Unit} (h : p_verify_kinds = some r) : Ctr prog 130 [] [] (.mp 1) [(1, .mp [(.int .i64 0, .fn (.func 175) [] []), (.int .i64 1, .fn (.func 176) [] []), (.int .i64 2, .fn (.func 177) [] []), (.int .i64 3, .fn (.func 178) [] []), (.int .i64 4, .fn (.func 179) [] []), (.int .i64 5, .fn (.func 180) [] []), (.int .i64 6, .fn (.func 181) [] []), (.int .i64 7, .fn (.func 182) [] [])] 8)] := by
 unfold p_verify_kinds at h; refine Ctr.ofW tabOk func130 rfl call130 0 _ ntmps130 [.tmp 0] rfl rfl rfl (fun B => ?_); refine vs [] (fun K hK => ?_); push_cast; refine hK _ ?_; clear hK K; refine vs [0] (fun K hK => ?_); refine runOps_cut 8 (fun K2 hK2 => ?_); push_cast; refine hK2 _ _ ?_; clear hK2 K2; simp only [List.drop_succ_cons, List.drop_zero]; push_cast; refine hK _ ?_; clear hK K; refine VC.ret ?_; replace h := Option.some.inj h; subst h; exact en (by push_cast)
noncomputable def p_slices_IndexFunc_api_Schema_api_Schema_verify_Shapes_1_L2 (a0 : (List T_Schema)) (i_1 : Int) : Option ((Int) ⊕ ((Unit) ⊕ (Int))) :=
  cond (decide (i_1 < (a0.length : Int))) (
  po (idx a0 i_1) fun x4 =>
  po (p_verify_Shapes_1 x4) fun r5 =>
  cond r5 (
  some (Sum.inr (Sum.inr i_1))) (
  some (Sum.inl (IntKind.i64.wrap (i_1 + 1))))) (
  some (Sum.inr (Sum.inl ())))
noncomputable def p_slices_IndexFunc_api_Schema_api_Schema_verify_Shapes_1_J1 : Option (Int) :=
  some (-1)
noncomputable def p_slices_IndexFunc_api_Schema_api_Schema_verify_Shapes_1 (a0 : (List T_Schema)) : Option (Int) :=
  pm (
  lpU (fun x => p_slices_IndexFunc_api_Schema_api_Schema_verify_Shapes_1_L2 a0 x) 0) (fun x => p_slices_IndexFunc_api_Schema_api_Schema_verify_Shapes_1_J1)
theorem c_slices_IndexFunc_api_Schema_api_Schema_verify_Shapes_1 {a0 : (List T_Schema)} {r : Int} (h : p_slices_IndexFunc_api_Schema_api_Schema_verify_Shapes_1 a0 = some r) : Ctr prog 172 [.sl false (a0.map enc_Schema), .fn (.func 127) [] []] [] (ri r) [] := by
 unfold p_slices_IndexFunc_api_Schema_api_Schema_verify_Shapes_1 at h; refine Ctr.ofW tabOk func172 rfl call172 0 _ ntmps172 [.tmp 4] rfl rfl rfl (fun B => ?_); refine vs [0, 1] (fun K hK => ?_); push_cast; refine hK _ ?_; clear hK K; refine vm h (fun x => ⟨[], [], 16, 19, 0⟩) (fun v1 h hk1 => ?_) ?_
 ·refine vs [0, 1, 7, 8] (fun K hK => ?_); push_cast; refine hK _ ?_; clear hK K; refine VC.block ?_; refine VC.loopP h (fun x => ⟨[(0, .sl false (a0.map enc_Schema)), (1, .fn (.func 127) [] []), (7, ri (a0.length : Int)), (8, ri x)], [], 15, 19, 0⟩) ?_ ?_
  ·exact sl (by push_cast)
  rintro i_1 b2 (h : p_slices_IndexFunc_api_Schema_api_Schema_verify_Shapes_1_L2 a0 i_1 = some b2) hf2; (try push_cast); unfold p_slices_IndexFunc_api_Schema_api_Schema_verify_Shapes_1_L2 at h; refine vs [0, 1, 7, 8, 9] (fun K hK => ?_); push_cast; refine hK _ ?_; clear hK K; refine VC.seq ?_; refine vc h (fun hb3 h => ?_) (fun hb3 h => ?_)
  ·refine VC.skip ?_; refine VC.seq ?_; refine VC.block ?_; refine vs [0, 1, 5, 7, 8] (fun K hK => ?_); push_cast; refine hK _ ?_; clear hK K; obtain ⟨x4, hx4, h⟩ := po_some h; replace hx4 := idx_some4 hx4; obtain ⟨r5, hr5, h⟩ := po_some h; refine vs [0, 1, 5, 7, 8, 16] (fun K hK => ?_); push_cast [hx4]; (repeat refine .intro (by omega) ?_); refine cp (c_verify_Shapes_1 hr5) ?_; push_cast [hx4]; (repeat refine .intro (by omega) ?_); refine hK _ ?_; clear hK K; refine vc h (fun hb6 h => ?_) (fun hb6 h => ?_)
   ·refine vs [4] (fun K hK => ?_); push_cast; refine hK _ ?_; clear hK K; refine VC.ret ?_; replace h := ol h hf2; replace h := om h hk1; replace h := Option.some.inj h; subst h; exact en (by push_cast [hb3, hb6])
   ·refine VC.skip ?_; refine vl (fun K hK => ?_); push_cast; refine hK _ ?_; clear hK K; refine bk h ?_; exact sl (by push_cast [hb3, hb6])
  ·refine VC.exit ?_; replace h := ol h hf2; refine am h hk1 ?_; exact sl (by push_cast [hb3])
 ·rintro ⟨⟩ (h : p_slices_IndexFunc_api_Schema_api_Schema_verify_Shapes_1_J1 = some r); (try push_cast); unfold p_slices_IndexFunc_api_Schema_api_Schema_verify_Shapes_1_J1 at h; refine vs [4] (fun K hK => ?_); push_cast; refine hK _ ?_; clear hK K; refine VC.ret ?_; replace h := Option.some.inj h; subst h; exact en (by push_cast)
noncomputable def p_slices_ContainsFunc_api_Schema_api_Schema_verify_Shapes_1 (a0 : (List T_Schema)) : Option (Bool) :=
  po (p_slices_IndexFunc_api_Schema_api_Schema_verify_Shapes_1 a0) fun r1 =>
  some (decide (r1 ≥ 0))
theorem c_slices_ContainsFunc_api_Schema_api_Schema_verify_Shapes_1 {a0 : (List T_Schema)} {r : Bool} (h : p_slices_ContainsFunc_api_Schema_api_Schema_verify_Shapes_1 a0 = some r) : Ctr prog 126 [.sl false (a0.map enc_Schema), .fn (.func 127) [] []] [] (rb r) [] := by
 unfold p_slices_ContainsFunc_api_Schema_api_Schema_verify_Shapes_1 at h; refine Ctr.ofW tabOk func126 rfl call126 0 _ ntmps126 [.tmp 4] rfl rfl rfl (fun B => ?_); refine vs [0, 1] (fun K hK => ?_); push_cast; refine hK _ ?_; clear hK K; obtain ⟨r1, hr1, h⟩ := po_some h; refine vs [4] (fun K hK => ?_); push_cast; refine cp (c_slices_IndexFunc_api_Schema_api_Schema_verify_Shapes_1 hr1) ?_; push_cast; refine hK _ ?_; clear hK K; refine VC.ret ?_; replace h := Option.some.inj h; subst h; exact en (by push_cast)
noncomputable def p_verify_Shapes_J23 (i_5 : Int) (s_11 : T_verify_work) : Option ((T_verify_work × Int) ⊕ ((T_verify_work) ⊕ ((List T_Shape) × (List Bool) × Int))) :=
  cond (!s_11.safe) (
  some (Sum.inr (Sum.inr ([], [], 8)))) (
  some (Sum.inl (s_11, (IntKind.i64.wrap (i_5 + 1)))))
noncomputable def p_verify_Shapes_L20 (x10 : T_Fn) (s_4 : T_verify_work) (i_5 : Int) : Option ((T_verify_work × Int) ⊕ ((T_verify_work) ⊕ ((List T_Shape) × (List Bool) × Int))) :=
  cond (decide (i_5 < (x10.Code.length : Int))) (
  po (idx x10.Code i_5) fun x22 =>
  po (
  po (idx s_4.is i_5) fun x24 =>
  cond x24 (
  cond (x22.Op == 0) (
  po (p_verify_work_alu (T_verify_work.mk s_4.p s_4.fn s_4.l s_4.in_ s_4.is i_5 s_4.safe) x22) fun r27 =>
  some r27) (
  cond (x22.Op == 1) (
  po (p_verify_work_jump (T_verify_work.mk s_4.p s_4.fn s_4.l s_4.in_ s_4.is i_5 s_4.safe) x22) fun r29 =>
  some r29) (
  cond (x22.Op == 2) (
  po (p_verify_work_ctx (T_verify_work.mk s_4.p s_4.fn s_4.l s_4.in_ s_4.is i_5 s_4.safe) x22) fun r31 =>
  some r31) (
  cond (x22.Op == 3) (
  po (p_verify_work_load (T_verify_work.mk s_4.p s_4.fn s_4.l s_4.in_ s_4.is i_5 s_4.safe) x22) fun r33 =>
  some r33) (
  cond (x22.Op == 4) (
  po (p_verify_work_store (T_verify_work.mk s_4.p s_4.fn s_4.l s_4.in_ s_4.is i_5 s_4.safe) x22) fun r35 =>
  some r35) (
  cond (x22.Op == 5) (
  po (p_verify_work_help (T_verify_work.mk s_4.p s_4.fn s_4.l s_4.in_ s_4.is i_5 s_4.safe) x22) fun r37 =>
  some r37) (
  cond (x22.Op == 6) (
  po (p_verify_work_call (T_verify_work.mk s_4.p s_4.fn s_4.l s_4.in_ s_4.is i_5 s_4.safe) x22) fun r39 =>
  some r39) (
  cond (x22.Op == 7) (
  po (p_verify_work_exit (T_verify_work.mk s_4.p s_4.fn s_4.l s_4.in_ s_4.is i_5 s_4.safe) x22) fun r41 =>
  some r41) (
  none))))))))) (
  some (T_verify_work.mk s_4.p s_4.fn s_4.l s_4.in_ s_4.is i_5 s_4.safe))) (fun x => p_verify_Shapes_J23 i_5 x)) (
  some (Sum.inr (Sum.inl s_4)))
noncomputable def p_verify_Shapes_J19 (s_10 : T_verify_work) : Option ((List T_Shape) × (List Bool) × Int) :=
  some (s_10.in_, s_10.is, 0)
noncomputable def p_verify_Shapes_J7 (a0 : T_Prog) (a1 : Int) (a2 : (List T_Schema)) (i_2 : Bool) : Option ((List T_Shape) × (List Bool) × Int) :=
  cond i_2 (
  some ([], [], 3)) (
  po (idx a0.Fns a1) fun x10 =>
  pg (0 ≤ (x10.Code.length : Int) ∧ 136 * (x10.Code.length : Int) ≤ 140737488355328) <|
  pl (List.replicate x10.Code.length (T_Shape.mk (A8.mk false false false false false false false false) (A8.mk (C128.mk 0 0) (C128.mk 0 0) (C128.mk 0 0) (C128.mk 0 0) (C128.mk 0 0) (C128.mk 0 0) (C128.mk 0 0) (C128.mk 0 0)))) fun y12 =>
  pg (0 ≤ (x10.Code.length : Int) ∧ 1 * (x10.Code.length : Int) ≤ 140737488355328) <|
  pl (List.replicate x10.Code.length false) fun y14 =>
  po (p_shape_New x10.Args) fun r15 =>
  po (p_verify_work_to (T_verify_work.mk a0 a1 a2 y12 y14 0 true) 0 r15.1) fun r16 =>
  po (some ()) fun r18 =>
  pm (
  lpU (fun x => p_verify_Shapes_L20 x10 x.1 x.2) (r16, 0)) (fun x => p_verify_Shapes_J19 x))
noncomputable def p_verify_Shapes_J1 (a0 : T_Prog) (a1 : Int) (a2 : (List T_Schema)) (i_1 : Bool) : Option ((List T_Shape) × (List Bool) × Int) :=
  cond i_1 (
  some ([], [], 1)) (
  po (
  cond (decide (a1 < 0)) (
  some (decide (a1 < 0))) (
  some (decide (a1 ≥ (a0.Fns.length : Int))))) (fun x => p_verify_Shapes_J7 a0 a1 a2 x))
noncomputable def p_verify_Shapes (a0 : T_Prog) (a1 : Int) (a2 : (List T_Schema)) : Option ((List T_Shape) × (List Bool) × Int) :=
  po (
  po (p_prog_May a0) fun r2 =>
  cond (!r2) (
  some (!r2)) (
  cond (decide ((a2.length : Int) > 4)) (
  some (decide ((a2.length : Int) > 4))) (
  po (p_slices_ContainsFunc_api_Schema_api_Schema_verify_Shapes_1 a2) fun r5 =>
  some r5))) (fun x => p_verify_Shapes_J1 a0 a1 a2 x)
theorem c_verify_Shapes {a0 : T_Prog} {a1 : Int} {a2 : (List T_Schema)} {r : (List T_Shape) × (List Bool) × Int} (h : p_verify_Shapes a0 a1 a2 = some r) : Ctr prog 90 [.agg (enc_Prog a0), ri a1, .sl false (a2.map enc_Schema)] [] (.tup [.sl false (r.1.map enc_Shape), .sl false (r.2.1.map encBool), ri r.2.2]) [] := by
 unfold p_verify_Shapes at h; refine Ctr.ofW tabOk func90 rfl call90 0 _ ntmps90 [.tmp 6, .tmp 7, .tmp 8] rfl rfl rfl (fun B => ?_); refine vs [1, 2, 3] (fun K hK => ?_); push_cast; refine hK _ ?_; clear hK K; refine VC.seq ?_; refine VC.block ?_; refine vj h (fun x => ⟨[(1, ri a1), (2, .sl false (a2.map enc_Schema)), (3, .ref 0 0), (16, rb x)], [(0, .box 56 [.sl false (a0.Fns.map enc_Fn)])], 15, 103, 0⟩) (fun v1 h hk1 => ?_) ?_
 ·obtain ⟨r2, hr2, h⟩ := po_some h; refine vs [1, 2, 3, 16] (fun K hK => ?_); push_cast; refine cp (c_prog_May hr2) ?_; push_cast; refine hK _ ?_; clear hK K; refine vc h (fun hb3 h => ?_) (fun hb3 h => ?_)
  ·refine VC.skip ?_; refine ar h hk1 ?_; exact sl (by push_cast [hb3])
  ·refine vs [1, 2, 3, 16] (fun K hK => ?_); push_cast; refine hK _ ?_; clear hK K; refine vc h (fun hb4 h => ?_) (fun hb4 h => ?_)
   ·refine VC.skip ?_; refine ar h hk1 ?_; exact sl (by push_cast [hb3, hb4])
   ·obtain ⟨r5, hr5, h⟩ := po_some h; refine vl (fun K hK => ?_); push_cast; refine cp (c_slices_ContainsFunc_api_Schema_api_Schema_verify_Shapes_1 hr5) ?_; push_cast; refine hK _ ?_; clear hK K; refine ar h hk1 ?_; exact sl (by push_cast [hb3, hb4])
 ·rintro i_1 (h : p_verify_Shapes_J1 a0 a1 a2 i_1 = some r); (try push_cast); unfold p_verify_Shapes_J1 at h; refine vc h (fun hb6 h => ?_) (fun hb6 h => ?_)
  ·refine vs [6, 7, 8] (fun K hK => ?_); push_cast; refine hK _ ?_; clear hK K; refine VC.ret ?_; replace h := Option.some.inj h; subst h; exact en (by push_cast [hb6])
  ·refine vj h (fun x => ⟨[(1, ri a1), (2, .sl false (a2.map enc_Schema)), (3, .ref 0 0), (25, rb x)], [(0, .box 56 [.sl false (a0.Fns.map enc_Fn)])], 24, 103, 0⟩) (fun v7 h hk7 => ?_) ?_
   ·refine vs [1, 2, 3, 25] (fun K hK => ?_); push_cast; refine hK _ ?_; clear hK K; refine vc h (fun hb8 h => ?_) (fun hb8 h => ?_)
    ·refine VC.skip ?_; refine ar h hk7 ?_; exact sl (by push_cast [hb6, hb8])
    ·refine vl (fun K hK => ?_); push_cast; refine hK _ ?_; clear hK K; refine ar h hk7 ?_; exact sl (by push_cast [hb6, hb8])
   ·rintro i_2 (h : p_verify_Shapes_J7 a0 a1 a2 i_2 = some r); (try push_cast); unfold p_verify_Shapes_J7 at h; refine vc h (fun hb9 h => ?_) (fun hb9 h => ?_)
    ·refine vs [6, 7, 8] (fun K hK => ?_); push_cast; refine hK _ ?_; clear hK K; refine VC.ret ?_; replace h := Option.some.inj h; subst h; exact en (by push_cast [hb6, hb9])
    ·refine VC.skip ?_; obtain ⟨x10, hx10, h⟩ := po_some h; replace hx10 := idx_some4 hx10; refine vs [1, 2, 3, 9] (fun K hK => ?_); push_cast [hx10]; (repeat refine .intro (by omega) ?_); refine hK _ ?_; clear hK K; obtain ⟨hg11, h⟩ := pg_some h; obtain ⟨y12, hy12, h⟩ := pl_some h; obtain ⟨hg13, h⟩ := pg_some h; obtain ⟨y14, hy14, h⟩ := pl_some h; refine vsD [some 39, some 40, some 41, some 42, some 43, some 44, some 45, some 46, some 47, some 48, some 49, some 10] [1, 3, 9, 10] (fun K hK => ?_); refine runD_cut 8 (fun K2 hK2 => ?_); push_cast [hg11, hg13]; (repeat refine .intro (by omega) ?_); refine hK2 _ _ _ ?_; clear hK2 K2; simp only [List.drop_succ_cons, List.drop_zero]; push_cast [hg11, hg13]; (repeat refine .intro (by omega) ?_); refine ⟨rfl, hK _ ?_⟩; clear hK K; refine VC.sub (s' := ⟨[(1, ri a1), (3, .ref 0 0), (9, .sl false (x10.Code.map enc_Inst)), (10, .ref 41 0)], [(0, .box 56 [.sl false (a0.Fns.map enc_Fn)]), (36, .row 217 16 0 (y12.map enc_Shape)), (39, .row 4 1 0 (y14.map encBool)), (41, .box 212 [.sl false (a0.Fns.map enc_Fn), ri a1, .sl false (a2.map enc_Schema), .row 36 0 16 0 y12.length, .row 39 0 1 0 y14.length, ri 0, rb true])], 43, 103, 0⟩) (so (by push_cast [hb6, hb9, hy12, hy14])) ?_; obtain ⟨r15, hr15, h⟩ := po_some h; refine vs [9, 10, 11] (fun K hK => ?_); refine runOps_cut 8 (fun K2 hK2 => ?_); push_cast [hx10]; (repeat refine .intro (by omega) ?_); refine cp (c_shape_New hr15) ?_; push_cast [hx10]; (repeat refine .intro (by omega) ?_); refine hK2 _ _ ?_; clear hK2 K2; simp only [List.drop_succ_cons, List.drop_zero]; push_cast [hx10]; (repeat refine .intro (by omega) ?_); refine hK _ ?_; clear hK K; obtain ⟨r16, hr16, h⟩ := po_some h; refine vs [9, 10] (fun K hK => ?_); push_cast; refine ch (H := [(41, .box 212 [.sl false (a0.Fns.map enc_Fn), ri a1, .sl false (a2.map enc_Schema), .row 36 0 16 0 y12.length, .row 39 0 1 0 y14.length, ri 0, rb true]), (36, .row 217 16 0 (y12.map enc_Shape)), (39, .row 4 1 0 (y14.map encBool))]) (Ctr.loH (Ctr.ren (Bij.swp 2 39 (Bij.swp 1 36 (Bij.swp 0 41 Bij.id))) (c_verify_work_to hr16) (by push_cast) (by push_cast))) (by push_cast) ?_; push_cast; refine hK _ ?_; clear hK K; refine VC.sub (s' := ⟨[(9, .sl false (x10.Code.map enc_Inst)), (10, .ref 41 0)], [(36, .row 217 16 0 (r16.in_.map enc_Shape)), (39, .row 4 1 0 (r16.is.map encBool)), (41, .box 212 [.sl false (r16.p.Fns.map enc_Fn), ri r16.fn, .sl false (r16.l.map enc_Schema), .row 36 0 16 0 r16.in_.length, .row 39 0 1 0 r16.is.length, ri r16.at_, rb r16.safe])], 59, 103, 0⟩) (so (by push_cast [hb6, hb9])) ?_; obtain ⟨r18, hr18, h⟩ := po_some h; refine vs [9, 10, 13] (fun K hK => ?_); push_cast; refine ch (H := []) (Ctr.ren (Bij.swp 1 59 Bij.id) (c_verify_kinds hr18) (by push_cast) (by push_cast)) (by push_cast) ?_; push_cast; refine hK _ ?_; clear hK K; refine VC.sub (s' := ⟨[(9, .sl false (x10.Code.map enc_Inst)), (10, .ref 41 0), (13, .mp 59)], [(36, .row 217 16 0 (r16.in_.map enc_Shape)), (39, .row 4 1 0 (r16.is.map encBool)), (41, .box 212 [.sl false (r16.p.Fns.map enc_Fn), ri r16.fn, .sl false (r16.l.map enc_Schema), .row 36 0 16 0 r16.in_.length, .row 39 0 1 0 r16.is.length, ri r16.at_, rb r16.safe]), (59, .mp [(.int .i64 0, .fn (.func 175) [] []), (.int .i64 1, .fn (.func 176) [] []), (.int .i64 2, .fn (.func 177) [] []), (.int .i64 3, .fn (.func 178) [] []), (.int .i64 4, .fn (.func 179) [] []), (.int .i64 5, .fn (.func 180) [] []), (.int .i64 6, .fn (.func 181) [] []), (.int .i64 7, .fn (.func 182) [] [])] 8)], 61, 103, 0⟩) (so (by push_cast [hb6, hb9])) ?_; refine vm h (fun x => ⟨[(10, .ref 41 0)], [(36, .row 217 16 0 (x.in_.map enc_Shape)), (39, .row 4 1 0 (x.is.map encBool)), (41, .box 212 [.sl false (x.p.Fns.map enc_Fn), ri x.fn, .sl false (x.l.map enc_Schema), .row 36 0 16 0 x.in_.length, .row 39 0 1 0 x.is.length, ri x.at_, rb x.safe])], 98, 103, 0⟩) (fun v19 h hk19 => ?_) ?_
     ·refine vs [10, 13, 64, 65, 66] (fun K hK => ?_); push_cast; refine hK _ ?_; clear hK K; refine VC.block ?_; refine VC.loopP h (fun x => ⟨[(10, .ref 41 0), (13, .mp 59), (64, .sl false (x10.Code.map enc_Inst)), (65, ri (x10.Code.length : Int)), (66, ri x.2)], [(36, .row 217 16 0 (x.1.in_.map enc_Shape)), (39, .row 4 1 0 (x.1.is.map encBool)), (41, .box 212 [.sl false (x.1.p.Fns.map enc_Fn), ri x.1.fn, .sl false (x.1.l.map enc_Schema), .row 36 0 16 0 x.1.in_.length, .row 39 0 1 0 x.1.is.length, ri x.1.at_, rb x.1.safe]), (59, .mp [(.int .i64 0, .fn (.func 175) [] []), (.int .i64 1, .fn (.func 176) [] []), (.int .i64 2, .fn (.func 177) [] []), (.int .i64 3, .fn (.func 178) [] []), (.int .i64 4, .fn (.func 179) [] []), (.int .i64 5, .fn (.func 180) [] []), (.int .i64 6, .fn (.func 181) [] []), (.int .i64 7, .fn (.func 182) [] [])] 8)], 97, 103, 0⟩) ?_ ?_
      ·exact sl (by push_cast [hb6, hb9])
      rintro ⟨s_4, i_5⟩ b20 (h : p_verify_Shapes_L20 x10 s_4 i_5 = some b20) hf20; (try push_cast); unfold p_verify_Shapes_L20 at h; refine vs [10, 13, 64, 65, 66, 67] (fun K hK => ?_); push_cast; refine hK _ ?_; clear hK K; refine VC.seq ?_; refine vc h (fun hb21 h => ?_) (fun hb21 h => ?_)
      ·refine VC.skip ?_; refine VC.seq ?_; refine VC.block ?_; obtain ⟨x22, hx22, h⟩ := po_some h; replace hx22 := idx_some4 hx22; refine vs [10, 13, 14, 15, 64, 65, 66] (fun K hK => ?_); push_cast [hx22]; (repeat refine .intro (by omega) ?_); refine hK _ ?_; clear hK K; refine vj h (fun x => ⟨[(10, .ref 41 0), (13, .mp 59), (64, .sl false (x10.Code.map enc_Inst)), (65, ri (x10.Code.length : Int)), (66, ri i_5)], [(36, .row 217 16 0 (x.in_.map enc_Shape)), (39, .row 4 1 0 (x.is.map encBool)), (41, .box 212 [.sl false (x.p.Fns.map enc_Fn), ri x.fn, .sl false (x.l.map enc_Schema), .row 36 0 16 0 x.in_.length, .row 39 0 1 0 x.is.length, ri x.at_, rb x.safe]), (59, .mp [(.int .i64 0, .fn (.func 175) [] []), (.int .i64 1, .fn (.func 176) [] []), (.int .i64 2, .fn (.func 177) [] []), (.int .i64 3, .fn (.func 178) [] []), (.int .i64 4, .fn (.func 179) [] []), (.int .i64 5, .fn (.func 180) [] []), (.int .i64 6, .fn (.func 181) [] []), (.int .i64 7, .fn (.func 182) [] [])] 8)], 123, 103, 0⟩) (fun v23 h hk23 => ?_) ?_
       ·refine vs [10, 13, 14, 15, 64, 65, 66] (fun K hK => ?_); push_cast; refine hK _ ?_; clear hK K; obtain ⟨x24, hx24, h⟩ := po_some h; replace hx24 := idx_some4 hx24; refine vs [10, 13, 15, 64, 65, 66, 81] (fun K hK => ?_); push_cast [hx24]; (repeat refine .intro (by omega) ?_); refine hK _ ?_; clear hK K; refine vc h (fun hb25 h => ?_) (fun hb25 h => ?_)
        ·rcases Bool.eq_false_or_eq_true (x22.Op == 0) with hb26 | hb26
         ·replace h := cond_yes hb26 h; obtain ⟨r27, hr27, h⟩ := po_some h; refine vl (fun K hK => ?_); push_cast [hb26]; (repeat refine .intro (by omega) ?_); refine ch (H := [(41, .box 212 [.sl false (s_4.p.Fns.map enc_Fn), ri s_4.fn, .sl false (s_4.l.map enc_Schema), .row 36 0 16 0 s_4.in_.length, .row 39 0 1 0 s_4.is.length, ri i_5, rb s_4.safe]), (36, .row 217 16 0 (s_4.in_.map enc_Shape)), (39, .row 4 1 0 (s_4.is.map encBool))]) (Ctr.loH (Ctr.ren (Bij.swp 2 39 (Bij.swp 1 36 (Bij.swp 0 41 Bij.id))) (c_verify_work_alu hr27) (by push_cast [hb26]) (by push_cast [hb26]))) (by push_cast [hb26]) ?_; push_cast [hb26]; (repeat refine .intro (by omega) ?_); refine hK _ ?_; clear hK K; refine ar h hk23 ?_; exact sl (by push_cast [hb6, hb9, hb21, hb25, hb26])
         ·replace h := cond_no hb26 h; rcases Bool.eq_false_or_eq_true (x22.Op == 1) with hb28 | hb28
          ·replace h := cond_yes hb28 h; obtain ⟨r29, hr29, h⟩ := po_some h; refine vl (fun K hK => ?_); push_cast [hb26, hb28]; (repeat refine .intro (by omega) ?_); refine ch (H := [(41, .box 212 [.sl false (s_4.p.Fns.map enc_Fn), ri s_4.fn, .sl false (s_4.l.map enc_Schema), .row 36 0 16 0 s_4.in_.length, .row 39 0 1 0 s_4.is.length, ri i_5, rb s_4.safe]), (36, .row 217 16 0 (s_4.in_.map enc_Shape)), (39, .row 4 1 0 (s_4.is.map encBool))]) (Ctr.loH (Ctr.ren (Bij.swp 2 39 (Bij.swp 1 36 (Bij.swp 0 41 Bij.id))) (c_verify_work_jump hr29) (by push_cast [hb26, hb28]) (by push_cast [hb26, hb28]))) (by push_cast [hb26, hb28]) ?_; push_cast [hb26, hb28]; (repeat refine .intro (by omega) ?_); refine hK _ ?_; clear hK K; refine ar h hk23 ?_; exact sl (by push_cast [hb6, hb9, hb21, hb25, hb26, hb28])
          ·replace h := cond_no hb28 h; rcases Bool.eq_false_or_eq_true (x22.Op == 2) with hb30 | hb30
           ·replace h := cond_yes hb30 h; obtain ⟨r31, hr31, h⟩ := po_some h; refine vl (fun K hK => ?_); push_cast [hb26, hb28, hb30]; (repeat refine .intro (by omega) ?_); refine ch (H := [(41, .box 212 [.sl false (s_4.p.Fns.map enc_Fn), ri s_4.fn, .sl false (s_4.l.map enc_Schema), .row 36 0 16 0 s_4.in_.length, .row 39 0 1 0 s_4.is.length, ri i_5, rb s_4.safe]), (36, .row 217 16 0 (s_4.in_.map enc_Shape)), (39, .row 4 1 0 (s_4.is.map encBool))]) (Ctr.loH (Ctr.ren (Bij.swp 2 39 (Bij.swp 1 36 (Bij.swp 0 41 Bij.id))) (c_verify_work_ctx hr31) (by push_cast [hb26, hb28, hb30]) (by push_cast [hb26, hb28, hb30]))) (by push_cast [hb26, hb28, hb30]) ?_; push_cast [hb26, hb28, hb30]; (repeat refine .intro (by omega) ?_); refine hK _ ?_; clear hK K; refine ar h hk23 ?_; exact sl (by push_cast [hb6, hb9, hb21, hb25, hb26, hb28, hb30])
           ·replace h := cond_no hb30 h; rcases Bool.eq_false_or_eq_true (x22.Op == 3) with hb32 | hb32
            ·replace h := cond_yes hb32 h; obtain ⟨r33, hr33, h⟩ := po_some h; refine vl (fun K hK => ?_); push_cast [hb26, hb28, hb30, hb32]; (repeat refine .intro (by omega) ?_); refine ch (H := [(41, .box 212 [.sl false (s_4.p.Fns.map enc_Fn), ri s_4.fn, .sl false (s_4.l.map enc_Schema), .row 36 0 16 0 s_4.in_.length, .row 39 0 1 0 s_4.is.length, ri i_5, rb s_4.safe]), (36, .row 217 16 0 (s_4.in_.map enc_Shape)), (39, .row 4 1 0 (s_4.is.map encBool))]) (Ctr.loH (Ctr.ren (Bij.swp 2 39 (Bij.swp 1 36 (Bij.swp 0 41 Bij.id))) (c_verify_work_load hr33) (by push_cast [hb26, hb28, hb30, hb32]) (by push_cast [hb26, hb28, hb30, hb32]))) (by push_cast [hb26, hb28, hb30, hb32]) ?_; push_cast [hb26, hb28, hb30, hb32]; (repeat refine .intro (by omega) ?_); refine hK _ ?_; clear hK K; refine ar h hk23 ?_; exact sl (by push_cast [hb6, hb9, hb21, hb25, hb26, hb28, hb30, hb32])
            ·replace h := cond_no hb32 h; rcases Bool.eq_false_or_eq_true (x22.Op == 4) with hb34 | hb34
             ·replace h := cond_yes hb34 h; obtain ⟨r35, hr35, h⟩ := po_some h; refine vl (fun K hK => ?_); push_cast [hb26, hb28, hb30, hb32, hb34]; (repeat refine .intro (by omega) ?_); refine ch (H := [(41, .box 212 [.sl false (s_4.p.Fns.map enc_Fn), ri s_4.fn, .sl false (s_4.l.map enc_Schema), .row 36 0 16 0 s_4.in_.length, .row 39 0 1 0 s_4.is.length, ri i_5, rb s_4.safe]), (36, .row 217 16 0 (s_4.in_.map enc_Shape)), (39, .row 4 1 0 (s_4.is.map encBool))]) (Ctr.loH (Ctr.ren (Bij.swp 2 39 (Bij.swp 1 36 (Bij.swp 0 41 Bij.id))) (c_verify_work_store hr35) (by push_cast [hb26, hb28, hb30, hb32, hb34]) (by push_cast [hb26, hb28, hb30, hb32, hb34]))) (by push_cast [hb26, hb28, hb30, hb32, hb34]) ?_; push_cast [hb26, hb28, hb30, hb32, hb34]; (repeat refine .intro (by omega) ?_); refine hK _ ?_; clear hK K; refine ar h hk23 ?_; exact sl (by push_cast [hb6, hb9, hb21, hb25, hb26, hb28, hb30, hb32, hb34])
             ·replace h := cond_no hb34 h; rcases Bool.eq_false_or_eq_true (x22.Op == 5) with hb36 | hb36
              ·replace h := cond_yes hb36 h; obtain ⟨r37, hr37, h⟩ := po_some h; refine vl (fun K hK => ?_); push_cast [hb26, hb28, hb30, hb32, hb34, hb36]; (repeat refine .intro (by omega) ?_); refine ch (H := [(41, .box 212 [.sl false (s_4.p.Fns.map enc_Fn), ri s_4.fn, .sl false (s_4.l.map enc_Schema), .row 36 0 16 0 s_4.in_.length, .row 39 0 1 0 s_4.is.length, ri i_5, rb s_4.safe]), (36, .row 217 16 0 (s_4.in_.map enc_Shape)), (39, .row 4 1 0 (s_4.is.map encBool))]) (Ctr.loH (Ctr.ren (Bij.swp 2 39 (Bij.swp 1 36 (Bij.swp 0 41 Bij.id))) (c_verify_work_help hr37) (by push_cast [hb26, hb28, hb30, hb32, hb34, hb36]) (by push_cast [hb26, hb28, hb30, hb32, hb34, hb36]))) (by push_cast [hb26, hb28, hb30, hb32, hb34, hb36]) ?_; push_cast [hb26, hb28, hb30, hb32, hb34, hb36]; (repeat refine .intro (by omega) ?_); refine hK _ ?_; clear hK K; refine ar h hk23 ?_; exact sl (by push_cast [hb6, hb9, hb21, hb25, hb26, hb28, hb30, hb32, hb34, hb36])
              ·replace h := cond_no hb36 h; rcases Bool.eq_false_or_eq_true (x22.Op == 6) with hb38 | hb38
               ·replace h := cond_yes hb38 h; obtain ⟨r39, hr39, h⟩ := po_some h; refine vl (fun K hK => ?_); push_cast [hb26, hb28, hb30, hb32, hb34, hb36, hb38]; (repeat refine .intro (by omega) ?_); refine ch (H := [(41, .box 212 [.sl false (s_4.p.Fns.map enc_Fn), ri s_4.fn, .sl false (s_4.l.map enc_Schema), .row 36 0 16 0 s_4.in_.length, .row 39 0 1 0 s_4.is.length, ri i_5, rb s_4.safe]), (36, .row 217 16 0 (s_4.in_.map enc_Shape)), (39, .row 4 1 0 (s_4.is.map encBool))]) (Ctr.loH (Ctr.ren (Bij.swp 2 39 (Bij.swp 1 36 (Bij.swp 0 41 Bij.id))) (c_verify_work_call hr39) (by push_cast [hb26, hb28, hb30, hb32, hb34, hb36, hb38]) (by push_cast [hb26, hb28, hb30, hb32, hb34, hb36, hb38]))) (by push_cast [hb26, hb28, hb30, hb32, hb34, hb36, hb38]) ?_; push_cast [hb26, hb28, hb30, hb32, hb34, hb36, hb38]; (repeat refine .intro (by omega) ?_); refine hK _ ?_; clear hK K; refine ar h hk23 ?_; exact sl (by push_cast [hb6, hb9, hb21, hb25, hb26, hb28, hb30, hb32, hb34, hb36, hb38])
               ·replace h := cond_no hb38 h; rcases Bool.eq_false_or_eq_true (x22.Op == 7) with hb40 | hb40
                ·replace h := cond_yes hb40 h; obtain ⟨r41, hr41, h⟩ := po_some h; refine vl (fun K hK => ?_); push_cast [hb26, hb28, hb30, hb32, hb34, hb36, hb38, hb40]; (repeat refine .intro (by omega) ?_); refine ch (H := [(41, .box 212 [.sl false (s_4.p.Fns.map enc_Fn), ri s_4.fn, .sl false (s_4.l.map enc_Schema), .row 36 0 16 0 s_4.in_.length, .row 39 0 1 0 s_4.is.length, ri i_5, rb s_4.safe]), (36, .row 217 16 0 (s_4.in_.map enc_Shape)), (39, .row 4 1 0 (s_4.is.map encBool))]) (Ctr.loH (Ctr.ren (Bij.swp 2 39 (Bij.swp 1 36 (Bij.swp 0 41 Bij.id))) (c_verify_work_exit hr41) (by push_cast [hb26, hb28, hb30, hb32, hb34, hb36, hb38, hb40]) (by push_cast [hb26, hb28, hb30, hb32, hb34, hb36, hb38, hb40]))) (by push_cast [hb26, hb28, hb30, hb32, hb34, hb36, hb38, hb40]) ?_; push_cast [hb26, hb28, hb30, hb32, hb34, hb36, hb38, hb40]; (repeat refine .intro (by omega) ?_); refine hK _ ?_; clear hK K; refine ar h hk23 ?_; exact sl (by push_cast [hb6, hb9, hb21, hb25, hb26, hb28, hb30, hb32, hb34, hb36, hb38, hb40])
                ·replace h := cond_no hb40 h; cases h
        ·refine VC.skip ?_; refine ar h hk23 ?_; exact sl (by push_cast [hb6, hb9, hb21, hb25])
       ·rintro s_11 (h : p_verify_Shapes_J23 i_5 s_11 = some b20); (try push_cast); unfold p_verify_Shapes_J23 at h; refine vs [10, 13, 64, 65, 66, 93] (fun K hK => ?_); push_cast; refine hK _ ?_; clear hK K; refine vc h (fun hb42 h => ?_) (fun hb42 h => ?_)
        ·refine vs [6, 7, 8] (fun K hK => ?_); push_cast; refine hK _ ?_; clear hK K; refine VC.ret ?_; replace h := ol h hf20; replace h := om h hk19; replace h := Option.some.inj h; subst h; exact en (by push_cast [hb6, hb9, hb21, hb42])
        ·refine VC.skip ?_; refine vl (fun K hK => ?_); push_cast; refine hK _ ?_; clear hK K; refine bk h ?_; exact sl (by push_cast [hb6, hb9, hb21, hb42])
      ·refine VC.exit ?_; replace h := ol h hf20; refine am h hk19 ?_; exact sl (by push_cast [hb6, hb9, hb21])
     ·rintro s_10 (h : p_verify_Shapes_J19 s_10 = some r); (try push_cast); unfold p_verify_Shapes_J19 at h; refine vsD [some 95, some 96, some 97, some 98, some 99, some 100, some 101, some 102, some 6, some 7, some 8] [6, 7, 8] (fun K hK => ?_); refine runD_cut 8 (fun K2 hK2 => ?_); push_cast; refine hK2 _ _ _ ?_; clear hK2 K2; simp only [List.drop_succ_cons, List.drop_zero]; push_cast; refine ⟨rfl, hK _ ?_⟩; clear hK K; refine VC.ret ?_; replace h := Option.some.inj h; subst h; refine endS (Sub.freezeT prog (k := 6) rfl rfl (by push_cast [hb6, hb9] <;> omega) (by decide)) ?_; refine endS (Sub.freezeT prog (k := 7) rfl rfl (by push_cast [hb6, hb9] <;> omega) (by decide)) ?_; exact en (by push_cast [hb6, hb9])
noncomputable def p_verify_inside_J6 (i_2 : Int) (i_6 : Bool) : Option ((Int) ⊕ ((Unit) ⊕ (Bool))) :=
  cond i_6 (
  some (Sum.inr (Sum.inr false))) (
  some (Sum.inl (IntKind.i64.wrap (i_2 + 1))))
noncomputable def p_verify_inside_L3 (a0 : T_Prog) (x1 : T_Fn) (i_2 : Int) : Option ((Int) ⊕ ((Unit) ⊕ (Bool))) :=
  cond (decide (i_2 < (x1.Code.length : Int))) (
  po (idx x1.Code i_2) fun x5 =>
  po (
  cond (x5.Op == 1) (
  cond (decide ((IntKind.i64.wrap ((IntKind.i64.wrap (i_2 + x5.Off)) + 1)) ≥ (x1.Code.length : Int))) (
  some true) (
  cond (x5.Op == 6) (
  some (decide ((IntKind.u64.wrap (x5.Imm.toNat : Int)) ≥ (IntKind.u64.wrap (a0.Fns.length : Int))))) (
  some false))) (
  cond (x5.Op == 6) (
  some (decide ((IntKind.u64.wrap (x5.Imm.toNat : Int)) ≥ (IntKind.u64.wrap (a0.Fns.length : Int))))) (
  some false))) (fun x => p_verify_inside_J6 i_2 x)) (
  some (Sum.inr (Sum.inl ())))
noncomputable def p_verify_inside_J2 : Option (Bool) :=
  some true
noncomputable def p_verify_inside (a0 : T_Prog) (a1 : Int) : Option (Bool) :=
  po (idx a0.Fns a1) fun x1 =>
  pm (
  lpU (fun x => p_verify_inside_L3 a0 x1 x) 0) (fun x => p_verify_inside_J2)
theorem c_verify_inside {a0 : T_Prog} {a1 : Int} {r : Bool} (h : p_verify_inside a0 a1 = some r) : Ctr prog 91 [.agg (enc_Prog a0), ri a1] [] (rb r) [] := by
 unfold p_verify_inside at h; refine Ctr.ofW tabOk func91 rfl call91 0 _ ntmps91 [.tmp 4] rfl rfl rfl (fun B => ?_); refine vs [1, 2] (fun K hK => ?_); push_cast; refine hK _ ?_; clear hK K; obtain ⟨x1, hx1, h⟩ := po_some h; replace hx1 := idx_some4 hx1; refine vs [2, 5] (fun K hK => ?_); push_cast [hx1]; (repeat refine .intro (by omega) ?_); refine hK _ ?_; clear hK K; refine vm h (fun x => ⟨[], [], 50, 50, 0⟩) (fun v2 h hk2 => ?_) ?_
 ·refine vs [2, 5, 14, 15, 16] (fun K hK => ?_); push_cast; refine hK _ ?_; clear hK K; refine VC.block ?_; refine VC.loopP h (fun x => ⟨[(2, .ref 0 0), (5, .sl false (x1.Code.map enc_Inst)), (14, .sl false (x1.Code.map enc_Inst)), (15, ri (x1.Code.length : Int)), (16, ri x)], [(0, .box 56 [.sl false (a0.Fns.map enc_Fn)])], 49, 50, 0⟩) ?_ ?_
  ·exact sl (by push_cast)
  rintro i_2 b3 (h : p_verify_inside_L3 a0 x1 i_2 = some b3) hf3; (try push_cast); unfold p_verify_inside_L3 at h; refine vs [2, 5, 14, 15, 16, 17] (fun K hK => ?_); push_cast; refine hK _ ?_; clear hK K; refine VC.seq ?_; refine vc h (fun hb4 h => ?_) (fun hb4 h => ?_)
  ·refine VC.skip ?_; refine VC.seq ?_; refine VC.block ?_; obtain ⟨x5, hx5, h⟩ := po_some h; replace hx5 := idx_some4 hx5; refine vs [2, 5, 6, 7, 14, 15, 16] (fun K hK => ?_); push_cast [hx5]; (repeat refine .intro (by omega) ?_); refine hK _ ?_; clear hK K; refine vj h (fun x => ⟨[(2, .ref 0 0), (5, .sl false (x1.Code.map enc_Inst)), (14, .sl false (x1.Code.map enc_Inst)), (15, ri (x1.Code.length : Int)), (16, ri i_2), (48, rb x)], [(0, .box 56 [.sl false (a0.Fns.map enc_Fn)])], 84, 50, 0⟩) (fun v6 h hk6 => ?_) ?_
   ·rcases Bool.eq_false_or_eq_true (x5.Op == 1) with hb7 | hb7
    ·replace h := cond_yes hb7 h; rcases Bool.eq_false_or_eq_true (decide ((IntKind.i64.wrap ((IntKind.i64.wrap (i_2 + x5.Off)) + 1)) ≥ (x1.Code.length : Int))) with hb8 | hb8
     ·replace h := cond_yes hb8 h; refine vlG [some 21, some 22, some 23, some 24, some 25, some 26, some 27, some 28, some 29, some 30, some 31, some 32, some 33, some 34, some 35, some 36, some 37, some 38, some 39, some 40, some 41, some 42, some 43, some 44, some 45, some 46, some 47, some 48] (fun K hK => ?_); refine runOps_cut 8 (fun K2 hK2 => ?_); push_cast [hb7, hb8]; (repeat refine .intro (by omega) ?_); refine hK2 _ _ ?_; clear hK2 K2; simp only [List.drop_succ_cons, List.drop_zero]; refine runOps_cut 8 (fun K2 hK2 => ?_); push_cast [hb7, hb8]; (repeat refine .intro (by omega) ?_); refine hK2 _ _ ?_; clear hK2 K2; simp only [List.drop_succ_cons, List.drop_zero]; refine runOps_cut 8 (fun K2 hK2 => ?_); push_cast [hb7, hb8]; (repeat refine .intro (by omega) ?_); refine hK2 _ _ ?_; clear hK2 K2; simp only [List.drop_succ_cons, List.drop_zero]; push_cast [hb7, hb8]; (repeat refine .intro (by omega) ?_); refine hK _ ?_; clear hK K; refine ar h hk6 ?_; exact sl (by push_cast [hb4, hb7, hb8])
     ·replace h := cond_no hb8 h; rcases Bool.eq_false_or_eq_true (x5.Op == 6) with hb9 | hb9
      ·replace h := cond_yes hb9 h; refine vlG [some 21, some 22, some 23, some 24, some 25, some 26, some 27, some 28, some 29, some 30, some 31, some 32, some 33, some 34, some 35, some 36, some 37, some 38, some 39, some 40, some 41, some 42, some 43, some 44, some 45, some 46, some 47, some 48] (fun K hK => ?_); refine runOps_cut 8 (fun K2 hK2 => ?_); push_cast [hb7, hb8, hb9]; (repeat refine .intro (by omega) ?_); refine hK2 _ _ ?_; clear hK2 K2; simp only [List.drop_succ_cons, List.drop_zero]; refine runOps_cut 8 (fun K2 hK2 => ?_); push_cast [hb7, hb8, hb9]; (repeat refine .intro (by omega) ?_); refine hK2 _ _ ?_; clear hK2 K2; simp only [List.drop_succ_cons, List.drop_zero]; refine runOps_cut 8 (fun K2 hK2 => ?_); push_cast [hb7, hb8, hb9]; (repeat refine .intro (by omega) ?_); refine hK2 _ _ ?_; clear hK2 K2; simp only [List.drop_succ_cons, List.drop_zero]; push_cast [hb7, hb8, hb9]; (repeat refine .intro (by omega) ?_); refine hK _ ?_; clear hK K; refine ar h hk6 ?_; exact sl (by push_cast [hb4, hb7, hb8, hb9])
      ·replace h := cond_no hb9 h; refine vlG [some 21, some 22, some 23, some 24, some 25, some 26, some 27, some 28, some 29, some 30, some 31, some 32, some 33, some 34, some 35, some 36, some 37, some 38, some 39, some 40, some 41, some 42, some 43, some 44, some 45, some 46, some 47, some 48] (fun K hK => ?_); refine runOps_cut 8 (fun K2 hK2 => ?_); push_cast [hb7, hb8, hb9]; (repeat refine .intro (by omega) ?_); refine hK2 _ _ ?_; clear hK2 K2; simp only [List.drop_succ_cons, List.drop_zero]; refine runOps_cut 8 (fun K2 hK2 => ?_); push_cast [hb7, hb8, hb9]; (repeat refine .intro (by omega) ?_); refine hK2 _ _ ?_; clear hK2 K2; simp only [List.drop_succ_cons, List.drop_zero]; refine runOps_cut 8 (fun K2 hK2 => ?_); push_cast [hb7, hb8, hb9]; (repeat refine .intro (by omega) ?_); refine hK2 _ _ ?_; clear hK2 K2; simp only [List.drop_succ_cons, List.drop_zero]; push_cast [hb7, hb8, hb9]; (repeat refine .intro (by omega) ?_); refine hK _ ?_; clear hK K; refine ar h hk6 ?_; exact sl (by push_cast [hb4, hb7, hb8, hb9])
    ·replace h := cond_no hb7 h; rcases Bool.eq_false_or_eq_true (x5.Op == 6) with hb10 | hb10
     ·replace h := cond_yes hb10 h; refine vlG [some 21, some 22, some 23, some 24, some 25, some 26, some 27, some 28, some 29, some 30, some 31, some 32, some 33, some 34, some 35, some 36, some 37, some 38, some 39, some 40, some 41, some 42, some 43, some 44, some 45, some 46, some 47, some 48] (fun K hK => ?_); refine runOps_cut 8 (fun K2 hK2 => ?_); push_cast [hb7, hb10]; (repeat refine .intro (by omega) ?_); refine hK2 _ _ ?_; clear hK2 K2; simp only [List.drop_succ_cons, List.drop_zero]; refine runOps_cut 8 (fun K2 hK2 => ?_); push_cast [hb7, hb10]; (repeat refine .intro (by omega) ?_); refine hK2 _ _ ?_; clear hK2 K2; simp only [List.drop_succ_cons, List.drop_zero]; refine runOps_cut 8 (fun K2 hK2 => ?_); push_cast [hb7, hb10]; (repeat refine .intro (by omega) ?_); refine hK2 _ _ ?_; clear hK2 K2; simp only [List.drop_succ_cons, List.drop_zero]; push_cast [hb7, hb10]; (repeat refine .intro (by omega) ?_); refine hK _ ?_; clear hK K; refine ar h hk6 ?_; exact sl (by push_cast [hb4, hb7, hb10])
     ·replace h := cond_no hb10 h; refine vlG [some 21, some 22, some 23, some 24, some 25, some 26, some 27, some 28, some 29, some 30, some 31, some 32, some 33, some 34, some 35, some 36, some 37, some 38, some 39, some 40, some 41, some 42, some 43, some 44, some 45, some 46, some 47, some 48] (fun K hK => ?_); refine runOps_cut 8 (fun K2 hK2 => ?_); push_cast [hb7, hb10]; (repeat refine .intro (by omega) ?_); refine hK2 _ _ ?_; clear hK2 K2; simp only [List.drop_succ_cons, List.drop_zero]; refine runOps_cut 8 (fun K2 hK2 => ?_); push_cast [hb7, hb10]; (repeat refine .intro (by omega) ?_); refine hK2 _ _ ?_; clear hK2 K2; simp only [List.drop_succ_cons, List.drop_zero]; refine runOps_cut 8 (fun K2 hK2 => ?_); push_cast [hb7, hb10]; (repeat refine .intro (by omega) ?_); refine hK2 _ _ ?_; clear hK2 K2; simp only [List.drop_succ_cons, List.drop_zero]; push_cast [hb7, hb10]; (repeat refine .intro (by omega) ?_); refine hK _ ?_; clear hK K; refine ar h hk6 ?_; exact sl (by push_cast [hb4, hb7, hb10])
   ·rintro i_6 (h : p_verify_inside_J6 i_2 i_6 = some b3); (try push_cast); unfold p_verify_inside_J6 at h; refine vc h (fun hb11 h => ?_) (fun hb11 h => ?_)
    ·refine vs [4] (fun K hK => ?_); push_cast; refine hK _ ?_; clear hK K; refine VC.ret ?_; replace h := ol h hf3; replace h := om h hk2; replace h := Option.some.inj h; subst h; exact en (by push_cast [hb4, hb11])
    ·refine VC.skip ?_; refine vl (fun K hK => ?_); push_cast; refine hK _ ?_; clear hK K; refine bk h ?_; exact sl (by push_cast [hb4, hb11])
  ·refine VC.exit ?_; replace h := ol h hf3; refine am h hk2 ?_; exact sl (by push_cast [hb4])
 ·rintro ⟨⟩ (h : p_verify_inside_J2 = some r); (try push_cast); unfold p_verify_inside_J2 at h; refine vs [4] (fun K hK => ?_); push_cast; refine hK _ ?_; clear hK K; refine VC.ret ?_; replace h := Option.some.inj h; subst h; exact en (by push_cast)
noncomputable def p_verify_Verify_L2 (a0 : T_Prog) (a1 : (List T_Schema)) (i_1 : Int) : Option ((Int) ⊕ ((Unit) ⊕ (Int × Int))) :=
  cond (decide (i_1 < (maxI 1 (a0.Fns.length : Int)))) (
  po (p_verify_Shapes a0 i_1 a1) fun r4 =>
  cond (r4.2.2 != 0) (
  some (Sum.inr (Sum.inr (0, r4.2.2)))) (
  po (p_verify_inside a0 i_1) fun r6 =>
  cond (!r6) (
  some (Sum.inr (Sum.inr (0, 8)))) (
  some (Sum.inl (IntKind.i64.wrap (i_1 + 1)))))) (
  some (Sum.inr (Sum.inl ())))
noncomputable def p_verify_Verify_J1 (a0 : T_Prog) : Option (Int × Int) :=
  po (p_course_Budget a0) fun r8 =>
  cond (decide (r8 > 2000)) (
  some (0, 2)) (
  some (r8, 0))
noncomputable def p_verify_Verify (a0 : T_Prog) (a1 : (List T_Schema)) : Option (Int × Int) :=
  pm (
  lpU (fun x => p_verify_Verify_L2 a0 a1 x) 0) (fun x => p_verify_Verify_J1 a0)
theorem c_verify_Verify {a0 : T_Prog} {a1 : (List T_Schema)} {r : Int × Int} (h : p_verify_Verify a0 a1 = some r) : Ctr prog 59 [.agg (enc_Prog a0), .sl false (a1.map enc_Schema)] [] (.tup [ri r.1, ri r.2]) [] := by
 unfold p_verify_Verify at h; refine Ctr.ofW tabOk func59 rfl call59 0 _ ntmps59 [.tmp 4, .tmp 5] rfl rfl rfl (fun B => ?_); refine vs [1, 2] (fun K hK => ?_); push_cast; refine hK _ ?_; clear hK K; refine vm h (fun x => ⟨[(2, .ref 0 0)], [(0, .box 56 [.sl false (a0.Fns.map enc_Fn)])], 31, 39, 0⟩) (fun v1 h hk1 => ?_) ?_
 ·refine vs [1, 2, 14, 15] (fun K hK => ?_); push_cast; refine hK _ ?_; clear hK K; refine VC.block ?_; refine VC.loopP h (fun x => ⟨[(1, .sl false (a1.map enc_Schema)), (2, .ref 0 0), (14, ri (maxI 1 (a0.Fns.length : Int))), (15, ri x)], [(0, .box 56 [.sl false (a0.Fns.map enc_Fn)])], 30, 39, 0⟩) ?_ ?_
  ·exact sl (by push_cast)
  rintro i_1 b2 (h : p_verify_Verify_L2 a0 a1 i_1 = some b2) hf2; (try push_cast); unfold p_verify_Verify_L2 at h; refine vs [1, 2, 14, 15, 16] (fun K hK => ?_); push_cast; refine hK _ ?_; clear hK K; refine VC.seq ?_; refine vc h (fun hb3 h => ?_) (fun hb3 h => ?_)
  ·refine VC.skip ?_; refine VC.seq ?_; refine VC.block ?_; refine vs [1, 2, 6, 14, 15] (fun K hK => ?_); push_cast; refine hK _ ?_; clear hK K; refine VC.seq ?_; obtain ⟨r4, hr4, h⟩ := po_some h; refine vs [1, 2, 6, 9, 14, 15] (fun K hK => ?_); refine runOps_cut 8 (fun K2 hK2 => ?_); push_cast; refine cp (c_verify_Shapes hr4) ?_; push_cast; refine hK2 _ _ ?_; clear hK2 K2; simp only [List.drop_succ_cons, List.drop_zero]; push_cast; refine hK _ ?_; clear hK K; refine vs [1, 2, 6, 9, 14, 15, 27] (fun K hK => ?_); push_cast; refine hK _ ?_; clear hK K; refine vc h (fun hb5 h => ?_) (fun hb5 h => ?_)
   ·refine vs [4, 5] (fun K hK => ?_); push_cast; refine hK _ ?_; clear hK K; refine VC.ret ?_; replace h := ol h hf2; replace h := om h hk1; replace h := Option.some.inj h; subst h; exact en (by push_cast [hb3, hb5])
   ·refine VC.skip ?_; obtain ⟨r6, hr6, h⟩ := po_some h; refine vs [1, 2, 14, 15, 32] (fun K hK => ?_); push_cast; refine cp (c_verify_inside hr6) ?_; push_cast; refine hK _ ?_; clear hK K; refine vc h (fun hb7 h => ?_) (fun hb7 h => ?_)
    ·refine vs [4, 5] (fun K hK => ?_); push_cast; refine hK _ ?_; clear hK K; refine VC.ret ?_; replace h := ol h hf2; replace h := om h hk1; replace h := Option.some.inj h; subst h; exact en (by push_cast [hb3, hb5, hb7])
    ·refine VC.skip ?_; refine vl (fun K hK => ?_); push_cast; refine hK _ ?_; clear hK K; refine bk h ?_; exact sl (by push_cast [hb3, hb5, hb7])
  ·refine VC.exit ?_; replace h := ol h hf2; refine am h hk1 ?_; exact sl (by push_cast [hb3])
 ·rintro ⟨⟩ (h : p_verify_Verify_J1 a0 = some r); (try push_cast); unfold p_verify_Verify_J1 at h; obtain ⟨r8, hr8, h⟩ := po_some h; refine vs [10] (fun K hK => ?_); push_cast; refine cp (c_course_Budget hr8) ?_; push_cast; refine hK _ ?_; clear hK K; refine VC.seq ?_; refine vs [10, 37] (fun K hK => ?_); push_cast; refine hK _ ?_; clear hK K; refine vc h (fun hb9 h => ?_) (fun hb9 h => ?_)
  ·refine vs [4, 5] (fun K hK => ?_); push_cast; refine hK _ ?_; clear hK K; refine VC.ret ?_; replace h := Option.some.inj h; subst h; exact en (by push_cast [hb9])
  ·refine VC.skip ?_; refine vs [4, 5] (fun K hK => ?_); push_cast; refine hK _ ?_; clear hK K; refine VC.ret ?_; replace h := Option.some.inj h; subst h; exact en (by push_cast [hb9])
noncomputable def p_shift_Fits_J1 (a2 : T_Prog) (i_1 : Bool) : Option (Int) :=
  cond i_1 (
  some 9) (
  po (p_verify_Verify a2 []) fun r6 =>
  some r6.2)
noncomputable def p_shift_Fits (a0 : T_Schema) (a1 : T_Schema) (a2 : T_Prog) : Option (Int) :=
  po (
  cond (a0.Kind == 3) (
  some true) (
  po (p_schema_Step a0 a1) fun r3 =>
  cond (r3 != 1) (
  some true) (
  some (decide (a1.Cap < a0.Cap))))) (fun x => p_shift_Fits_J1 a2 x)
theorem c_shift_Fits {a0 : T_Schema} {a1 : T_Schema} {a2 : T_Prog} {r : Int} (h : p_shift_Fits a0 a1 a2 = some r) : Ctr prog 23 [.agg (enc_Schema a0), .agg (enc_Schema a1), .agg (enc_Prog a2)] [] (ri r) [] := by
 unfold p_shift_Fits at h; refine Ctr.ofW tabOk func23 rfl call23 0 _ ntmps23 [.tmp 6] rfl rfl rfl (fun B => ?_); refine vs [3, 4, 5] (fun K hK => ?_); push_cast; refine hK _ ?_; clear hK K; refine VC.seq ?_; refine vj h (fun x => ⟨[(5, .ref 2 0), (24, rb x)], [(2, .box 56 [.sl false (a2.Fns.map enc_Fn)])], 20, 31, 0⟩) (fun v1 h hk1 => ?_) ?_
 ·rcases Bool.eq_false_or_eq_true (a0.Kind == 3) with hb2 | hb2
  ·replace h := cond_yes hb2 h; refine vlG [some 9, some 10, some 11, some 12, some 13, some 14, some 15, some 16, some 17, some 18, some 19, some 20, some 21, some 22, some 23, some 24] (fun K hK => ?_); refine runOps_cut 8 (fun K2 hK2 => ?_); push_cast [hb2]; (repeat refine .intro (by omega) ?_); refine hK2 _ _ ?_; clear hK2 K2; simp only [List.drop_succ_cons, List.drop_zero]; push_cast [hb2]; (repeat refine .intro (by omega) ?_); refine hK _ ?_; clear hK K; refine ar h hk1 ?_; exact sl (by push_cast [hb2])
  ·replace h := cond_no hb2 h; obtain ⟨r3, hr3, h⟩ := po_some h; rcases Bool.eq_false_or_eq_true (r3 != 1) with hb4 | hb4
   ·replace h := cond_yes hb4 h; refine vlG [some 9, some 10, some 11, some 12, some 13, some 14, some 15, some 16, some 17, some 18, some 19, some 20, some 21, some 22, some 23, some 24] (fun K hK => ?_); refine runOps_cut 8 (fun K2 hK2 => ?_); push_cast [hb2, hb4]; (repeat refine .intro (by omega) ?_); refine cp (c_schema_Step hr3) ?_; push_cast [hb2, hb4]; (repeat refine .intro (by omega) ?_); refine hK2 _ _ ?_; clear hK2 K2; simp only [List.drop_succ_cons, List.drop_zero]; push_cast [hb2, hb4]; (repeat refine .intro (by omega) ?_); refine hK _ ?_; clear hK K; refine ar h hk1 ?_; exact sl (by push_cast [hb2, hb4])
   ·replace h := cond_no hb4 h; refine vlG [some 9, some 10, some 11, some 12, some 13, some 14, some 15, some 16, some 17, some 18, some 19, some 20, some 21, some 22, some 23, some 24] (fun K hK => ?_); refine runOps_cut 8 (fun K2 hK2 => ?_); push_cast [hb2, hb4]; (repeat refine .intro (by omega) ?_); refine cp (c_schema_Step hr3) ?_; push_cast [hb2, hb4]; (repeat refine .intro (by omega) ?_); refine hK2 _ _ ?_; clear hK2 K2; simp only [List.drop_succ_cons, List.drop_zero]; push_cast [hb2, hb4]; (repeat refine .intro (by omega) ?_); refine hK _ ?_; clear hK K; refine ar h hk1 ?_; exact sl (by push_cast [hb2, hb4])
 ·rintro i_1 (h : p_shift_Fits_J1 a2 i_1 = some r); (try push_cast); unfold p_shift_Fits_J1 at h; refine vc h (fun hb5 h => ?_) (fun hb5 h => ?_)
  ·refine vs [6] (fun K hK => ?_); push_cast; refine hK _ ?_; clear hK K; refine VC.ret ?_; replace h := Option.some.inj h; subst h; exact en (by push_cast [hb5])
  ·refine VC.skip ?_; obtain ⟨r6, hr6, h⟩ := po_some h; refine vs [8] (fun K hK => ?_); push_cast; refine cp (c_verify_Verify hr6) ?_; push_cast; refine hK _ ?_; clear hK K; refine vs [6] (fun K hK => ?_); push_cast; refine hK _ ?_; clear hK K; refine VC.ret ?_; replace h := Option.some.inj h; subst h; exact en (by push_cast [hb5])
noncomputable def p_shift_may (a0 : T_Table) (a1 : T_Schema) (a2 : T_Prog) : Option (Int) :=
  po (p_table_May a0) fun r1 =>
  cond (!r1) (
  some 1) (
  po (p_shift_Fits a0.S a1 a2) fun r3 =>
  some r3)
theorem c_shift_may {a0 : T_Table} {a1 : T_Schema} {a2 : T_Prog} {r : Int} (h : p_shift_may a0 a1 a2 = some r) : Ctr prog 53 [.agg (enc_Table a0), .agg (enc_Schema a1), .agg (enc_Prog a2)] [] (ri r) [] := by
 unfold p_shift_may at h; refine Ctr.ofW tabOk func53 rfl call53 0 _ ntmps53 [.tmp 6] rfl rfl rfl (fun B => ?_); refine vs [3, 4, 5] (fun K hK => ?_); push_cast; refine hK _ ?_; clear hK K; refine VC.seq ?_; obtain ⟨r1, hr1, h⟩ := po_some h; refine vs [3, 4, 5, 9] (fun K hK => ?_); push_cast; refine cp (c_table_May a0 hr1) ?_; push_cast; refine hK _ ?_; clear hK K; refine vc h (fun hb2 h => ?_) (fun hb2 h => ?_)
 ·refine vs [6] (fun K hK => ?_); push_cast; refine hK _ ?_; clear hK K; refine VC.ret ?_; replace h := Option.some.inj h; subst h; exact en (by push_cast [hb2])
 ·refine VC.skip ?_; obtain ⟨r3, hr3, h⟩ := po_some h; refine vs [6] (fun K hK => ?_); push_cast; refine cp (c_shift_Fits hr3) ?_; push_cast; refine hK _ ?_; clear hK K; refine VC.ret ?_; replace h := Option.some.inj h; subst h; exact en (by push_cast [hb2])
noncomputable def p_interp_run_fail (a0 : T_interp_run) (a1 : Int) : Option (T_interp_run) :=
  cond (a0.err == 0) (
  some (T_interp_run.mk a0.p a0.e a0.fuel a0.used a1)) (
  some a0)
theorem c_interp_run_fail {a0 : T_interp_run} {a1 : Int} {r : T_interp_run} (h : p_interp_run_fail a0 a1 = some r) : Ctr prog 204 [.ref 0 0, ri a1] [(0, .box 259 (enc_interp_run a0))] (.tup []) [(0, .box 259 (enc_interp_run r))] := by
 unfold p_interp_run_fail at h; refine Ctr.ofW tabOk func204 rfl call204 1 _ ntmps204 [] rfl rfl rfl (fun B => ?_); refine vs [0, 1, 8] (fun K hK => ?_); push_cast; refine hK _ ?_; clear hK K; refine vc h (fun hb1 h => ?_) (fun hb1 h => ?_)
 ·refine vl (fun K hK => ?_); push_cast; refine hK _ ?_; clear hK K; replace h := Option.some.inj h; subst h; exact eN (by push_cast [hb1])
 ·refine VC.skip ?_; replace h := Option.some.inj h; subst h; exact eN (by push_cast [hb1])
noncomputable def p_interp_frame_get_J1 (a0 : T_interp_frame) (a1 : Int) (s_1 : T_interp_run) : Option (UInt32 × T_interp_frame × T_interp_run) :=
  pg (0 ≤ a1 ∧ a1 < 8) <|
  some ((a0.regs.get a1.toNat), a0, s_1)
noncomputable def p_interp_frame_get (a0 : T_interp_frame) (a0_r : T_interp_run) (a1 : Int) : Option (UInt32 × T_interp_frame × T_interp_run) :=
  po (
  pg (0 ≤ a1 ∧ a1 < 8) <|
  cond (!(a0.set.get a1.toNat)) (
  po (p_interp_run_fail a0_r 10) fun r4 =>
  some r4) (
  some a0_r)) (fun x => p_interp_frame_get_J1 a0 a1 x)
theorem c_interp_frame_get {a0 : T_interp_frame} {a0_r : T_interp_run} {a1 : Int} {r : UInt32 × T_interp_frame × T_interp_run} (h : p_interp_frame_get a0 a0_r a1 = some r) : Ctr prog 224 [.ref 0 0, ri a1] [(0, .box 283 (enc_interp_frame a0 (.ref 1 0))), (1, .box 259 (enc_interp_run a0_r))] (ru r.1) [(0, .box 283 (enc_interp_frame r.2.1 (.ref 1 0))), (1, .box 259 (enc_interp_run r.2.2))] := by
 unfold p_interp_frame_get at h; refine Ctr.ofW tabOk func224 rfl call224 2 _ ntmps224 [.tmp 4] rfl rfl rfl (fun B => ?_); refine vs [0, 1] (fun K hK => ?_); push_cast; refine hK _ ?_; clear hK K; refine vj h (fun x => ⟨[(0, .ref 0 0), (1, ri a1)], [(0, .box 283 (enc_interp_frame a0 (.ref 1 0))), (1, .box 259 (enc_interp_run x))], 15, 23, 2⟩) (fun v1 h hk1 => ?_) ?_
 ·obtain ⟨hg2, h⟩ := pg_some h; have hg2n : a1.toNat < 8 := by omega
  refine vs [0, 1, 11] (fun K hK => ?_); push_cast [hg2, hg2n]; (repeat refine .intro (by omega) ?_); refine hK _ ?_; clear hK K; refine vc h (fun hb3 h => ?_) (fun hb3 h => ?_)
  ·obtain ⟨r4, hr4, h⟩ := po_some h; refine vl (fun K hK => ?_); push_cast; refine ch (H := [(1, .box 259 (enc_interp_run a0_r))]) (Ctr.loH (Ctr.ren (Bij.swp 0 1 Bij.id) (c_interp_run_fail hr4) (by push_cast) (by push_cast))) (by push_cast) ?_; push_cast; refine hK _ ?_; clear hK K; refine ar h hk1 ?_; exact sl (by push_cast [hb3])
  ·refine VC.skip ?_; refine ar h hk1 ?_; exact sl (by push_cast [hb3])
 ·rintro s_1 (h : p_interp_frame_get_J1 a0 a1 s_1 = some r); (try push_cast); unfold p_interp_frame_get_J1 at h; obtain ⟨hg5, h⟩ := pg_some h; have hg5n : a1.toNat < 8 := by omega
  refine vs [4] (fun K hK => ?_); push_cast [hg5, hg5n]; (repeat refine .intro (by omega) ?_); refine hK _ ?_; clear hK K; refine VC.ret ?_; replace h := Option.some.inj h; subst h; exact en (by push_cast)
noncomputable def p_interp_frame_put (a0 : T_interp_frame) (a0_r : T_interp_run) (a1 : Int) (a2 : UInt32) : Option (T_interp_frame × T_interp_run) :=
  pg (0 ≤ a1 ∧ a1 < 8) <|
  pl (a0.regs.set a1.toNat a2) fun y2 =>
  pl (a0.set.set a1.toNat true) fun y3 =>
  some ((T_interp_frame.mk a0.fn a0.at_ y2 y3 a0.stack a0.over), a0_r)
theorem c_interp_frame_put {a0 : T_interp_frame} {a0_r : T_interp_run} {a1 : Int} {a2 : UInt32} {r : T_interp_frame × T_interp_run} (h : p_interp_frame_put a0 a0_r a1 a2 = some r) : Ctr prog 197 [.ref 0 0, ri a1, ru a2] [(0, .box 283 (enc_interp_frame a0 (.ref 1 0))), (1, .box 259 (enc_interp_run a0_r))] (.tup []) [(0, .box 283 (enc_interp_frame r.1 (.ref 1 0))), (1, .box 259 (enc_interp_run r.2))] := by
 unfold p_interp_frame_put at h; refine Ctr.ofW tabOk func197 rfl call197 2 _ ntmps197 [] rfl rfl rfl (fun B => ?_); obtain ⟨hg1, h⟩ := pg_some h; have hg1n : a1.toNat < 8 := by omega
 obtain ⟨y2, hy2, h⟩ := pl_some h; obtain ⟨y3, hy3, h⟩ := pl_some h; refine vlD [some 6, some 7, some 8, some 9, some 10, some 11, some 12, some 13, none, some 14, some 15, some 16, none] (fun K hK => ?_); refine runD_cut 8 (fun K2 hK2 => ?_); push_cast [hg1, hg1n]; (repeat refine .intro (by omega) ?_); refine hK2 _ _ _ ?_; clear hK2 K2; simp only [List.drop_succ_cons, List.drop_zero]; push_cast [hg1, hg1n]; (repeat refine .intro (by omega) ?_); refine ⟨rfl, hK _ ?_⟩; clear hK K; replace h := Option.some.inj h; subst h; exact eN (by push_cast [hy2, hy3])
noncomputable def p_interp_frame_word (a0 : T_interp_frame) (a0_r : T_interp_run) (a1 : T_Inst) : Option (UInt32 × T_interp_frame × T_interp_run) :=
  cond a1.Reg (
  po (p_interp_frame_get a0 a0_r a1.Src) fun r2 =>
  some (r2.1, r2.2.1, r2.2.2)) (
  some (a1.Imm, a0, a0_r))
theorem c_interp_frame_word {a0 : T_interp_frame} {a0_r : T_interp_run} {a1 : T_Inst} {r : UInt32 × T_interp_frame × T_interp_run} (h : p_interp_frame_word a0 a0_r a1 = some r) : Ctr prog 223 [.ref 0 0, .agg (enc_Inst a1)] [(0, .box 283 (enc_interp_frame a0 (.ref 1 0))), (1, .box 259 (enc_interp_run a0_r))] (ru r.1) [(0, .box 283 (enc_interp_frame r.2.1 (.ref 1 0))), (1, .box 259 (enc_interp_run r.2.2))] := by
 unfold p_interp_frame_word at h; refine Ctr.ofW tabOk func223 rfl call223 2 _ ntmps223 [.tmp 4] rfl rfl rfl (fun B => ?_); refine vs [0, 3] (fun K hK => ?_); push_cast; refine hK _ ?_; clear hK K; refine VC.seq ?_; refine vs [0, 3, 6] (fun K hK => ?_); push_cast; refine hK _ ?_; clear hK K; refine vc h (fun hb1 h => ?_) (fun hb1 h => ?_)
 ·obtain ⟨r2, hr2, h⟩ := po_some h; refine vs [4] (fun K hK => ?_); push_cast; refine ch (H := [(0, .box 283 (enc_interp_frame a0 (.ref 1 0))), (1, .box 259 (enc_interp_run a0_r))]) (Ctr.loH (Ctr.ren Bij.id (c_interp_frame_get hr2) (by push_cast) (by push_cast))) (by push_cast) ?_; push_cast; refine hK _ ?_; clear hK K; refine VC.sub (s' := ⟨[(4, ru r2.1)], [(0, .box 283 (enc_interp_frame r2.2.1 (.ref 1 0))), (1, .box 259 (enc_interp_run r2.2.2))], 11, 13, 2⟩) (so (by push_cast [hb1])) ?_; refine VC.ret ?_; replace h := Option.some.inj h; subst h; exact en (by push_cast [hb1])
 ·refine VC.skip ?_; refine vs [4] (fun K hK => ?_); push_cast; refine hK _ ?_; clear hK K; refine VC.ret ?_; replace h := Option.some.inj h; subst h; exact en (by push_cast [hb1])
noncomputable def p_interp_frame_alu_J2 (a1 : T_Inst) (r1 : UInt32 × T_interp_frame × T_interp_run) (s_1 : T_interp_frame) (s_2 : T_interp_run) (i_3 : UInt32) : Option (T_interp_frame × T_interp_run) :=
  po (p_alu_Do a1.Fn i_3 r1.1) fun r5 =>
  po (p_interp_frame_put s_1 s_2 a1.Dst r5.1) fun r6 =>
  some (r6.1, r6.2)
noncomputable def p_interp_frame_alu (a0 : T_interp_frame) (a0_r : T_interp_run) (a1 : T_Inst) : Option (T_interp_frame × T_interp_run) :=
  po (p_interp_frame_word a0 a0_r a1) fun r1 =>
  po (
  cond (a1.Fn != 0) (
  po (p_interp_frame_get r1.2.1 r1.2.2 a1.Dst) fun r4 =>
  some (r4.2.1, r4.2.2, r4.1)) (
  some (r1.2.1, r1.2.2, 0))) (fun x => p_interp_frame_alu_J2 a1 r1 x.1 x.2.1 x.2.2)
theorem c_interp_frame_alu {a0 : T_interp_frame} {a0_r : T_interp_run} {a1 : T_Inst} {r : T_interp_frame × T_interp_run} (h : p_interp_frame_alu a0 a0_r a1 = some r) : Ctr prog 198 [.ref 0 0, .agg (enc_Inst a1)] [(0, .box 283 (enc_interp_frame a0 (.ref 1 0))), (1, .box 259 (enc_interp_run a0_r))] (.tup []) [(0, .box 283 (enc_interp_frame r.1 (.ref 1 0))), (1, .box 259 (enc_interp_run r.2))] := by
 unfold p_interp_frame_alu at h; refine Ctr.ofW tabOk func198 rfl call198 2 _ ntmps198 [] rfl rfl rfl (fun B => ?_); refine vs [0, 3] (fun K hK => ?_); push_cast; refine hK _ ?_; clear hK K; obtain ⟨r1, hr1, h⟩ := po_some h; refine vs [0, 3, 4] (fun K hK => ?_); push_cast; refine ch (H := [(0, .box 283 (enc_interp_frame a0 (.ref 1 0))), (1, .box 259 (enc_interp_run a0_r))]) (Ctr.loH (Ctr.ren Bij.id (c_interp_frame_word hr1) (by push_cast) (by push_cast))) (by push_cast) ?_; push_cast; refine hK _ ?_; clear hK K; refine VC.sub (s' := ⟨[(0, .ref 0 0), (3, .ref 2 0), (4, ru r1.1)], [(0, .box 283 (enc_interp_frame r1.2.1 (.ref 1 0))), (1, .box 259 (enc_interp_run r1.2.2)), (2, .box 37 (enc_Inst a1))], 7, 31, 2⟩) (so (by push_cast)) ?_; refine vs [0, 3, 4, 5] (fun K hK => ?_); push_cast; refine hK _ ?_; clear hK K; refine vj h (fun x => ⟨[(0, .ref 0 0), (3, .ref 2 0), (4, ru r1.1), (5, ru x.2.2)], [(0, .box 283 (enc_interp_frame x.1 (.ref 1 0))), (1, .box 259 (enc_interp_run x.2.1)), (2, .box 37 (enc_Inst a1))], 16, 31, 2⟩) (fun v2 h hk2 => ?_) ?_
 ·refine vs [0, 3, 4, 5, 13] (fun K hK => ?_); push_cast; refine hK _ ?_; clear hK K; refine vc h (fun hb3 h => ?_) (fun hb3 h => ?_)
  ·obtain ⟨r4, hr4, h⟩ := po_some h; refine vl (fun K hK => ?_); push_cast; refine ch (H := [(0, .box 283 (enc_interp_frame r1.2.1 (.ref 1 0))), (1, .box 259 (enc_interp_run r1.2.2))]) (Ctr.loH (Ctr.ren Bij.id (c_interp_frame_get hr4) (by push_cast) (by push_cast))) (by push_cast) ?_; push_cast; refine hK _ ?_; clear hK K; refine ar h hk2 ?_; exact sl (by push_cast [hb3])
  ·refine VC.skip ?_; refine ar h hk2 ?_; exact sl (by push_cast [hb3])
 ·rintro ⟨s_1, s_2, i_3⟩ (h : p_interp_frame_alu_J2 a1 r1 s_1 s_2 i_3 = some r); (try push_cast); unfold p_interp_frame_alu_J2 at h; obtain ⟨r5, hr5, h⟩ := po_some h; refine vs [0, 3, 6] (fun K hK => ?_); push_cast; refine cp (c_alu_Do hr5) ?_; push_cast; refine hK _ ?_; clear hK K; obtain ⟨r6, hr6, h⟩ := po_some h; refine vl (fun K hK => ?_); push_cast; refine ch (H := [(0, .box 283 (enc_interp_frame s_1 (.ref 1 0))), (1, .box 259 (enc_interp_run s_2))]) (Ctr.loH (Ctr.ren Bij.id (c_interp_frame_put hr6) (by push_cast) (by push_cast))) (by push_cast) ?_; push_cast; refine hK _ ?_; clear hK K; replace h := Option.some.inj h; subst h; exact eN (by push_cast)
noncomputable def p_interp_frame_call (a0 : T_interp_frame) (a0_r : T_interp_run) (a1 : T_Inst) : Option (T_interp_frame × T_interp_run) :=
  none
theorem c_interp_frame_call {a0 : T_interp_frame} {a0_r : T_interp_run} {a1 : T_Inst} {r : T_interp_frame × T_interp_run} (h : p_interp_frame_call a0 a0_r a1 = some r) : Ctr prog 202 [.ref 0 0, .agg (enc_Inst a1)] [(0, .box 283 (enc_interp_frame a0 (.ref 1 0))), (1, .box 259 (enc_interp_run a0_r))] (.tup []) [(0, .box 283 (enc_interp_frame r.1 (.ref 1 0))), (1, .box 259 (enc_interp_run r.2))] := by
 unfold p_interp_frame_call at h; refine Ctr.ofW tabOk func202 rfl call202 2 _ ntmps202 [] rfl rfl rfl (fun B => ?_); cases h
noncomputable def p_interp_frame_exit (a0 : T_interp_frame) (a0_r : T_interp_run) (a1 : T_Inst) : Option (T_interp_frame × T_interp_run) :=
  po (p_interp_frame_get a0 a0_r 0) fun r1 =>
  some ((T_interp_frame.mk r1.2.1.fn r1.2.1.at_ r1.2.1.regs r1.2.1.set r1.2.1.stack true), r1.2.2)
theorem c_interp_frame_exit {a0 : T_interp_frame} {a0_r : T_interp_run} {a1 : T_Inst} {r : T_interp_frame × T_interp_run} (h : p_interp_frame_exit a0 a0_r a1 = some r) : Ctr prog 203 [.ref 0 0, .agg (enc_Inst a1)] [(0, .box 283 (enc_interp_frame a0 (.ref 1 0))), (1, .box 259 (enc_interp_run a0_r))] (.tup []) [(0, .box 283 (enc_interp_frame r.1 (.ref 1 0))), (1, .box 259 (enc_interp_run r.2))] := by
 unfold p_interp_frame_exit at h; refine Ctr.ofW tabOk func203 rfl call203 2 _ ntmps203 [] rfl rfl rfl (fun B => ?_); refine vs [0] (fun K hK => ?_); push_cast; refine hK _ ?_; clear hK K; obtain ⟨r1, hr1, h⟩ := po_some h; refine vs [0] (fun K hK => ?_); push_cast; refine ch (H := [(0, .box 283 (enc_interp_frame a0 (.ref 1 0))), (1, .box 259 (enc_interp_run a0_r))]) (Ctr.loH (Ctr.ren Bij.id (c_interp_frame_get hr1) (by push_cast) (by push_cast))) (by push_cast) ?_; push_cast; refine hK _ ?_; clear hK K; refine VC.sub (s' := ⟨[(0, .ref 0 0)], [(0, .box 283 (enc_interp_frame r1.2.1 (.ref 1 0))), (1, .box 259 (enc_interp_run r1.2.2))], 5, 9, 2⟩) (so (by push_cast)) ?_; refine vl (fun K hK => ?_); push_cast; refine hK _ ?_; clear hK K; replace h := Option.some.inj h; subst h; exact eN (by push_cast)
noncomputable def p_interp_frame_help (a0 : T_interp_frame) (a0_r : T_interp_run) (a1 : T_Inst) : Option (T_interp_frame × T_interp_run) :=
  none
theorem c_interp_frame_help {a0 : T_interp_frame} {a0_r : T_interp_run} {a1 : T_Inst} {r : T_interp_frame × T_interp_run} (h : p_interp_frame_help a0 a0_r a1 = some r) : Ctr prog 201 [.ref 0 0, .agg (enc_Inst a1)] [(0, .box 283 (enc_interp_frame a0 (.ref 1 0))), (1, .box 259 (enc_interp_run a0_r))] (.tup []) [(0, .box 283 (enc_interp_frame r.1 (.ref 1 0))), (1, .box 259 (enc_interp_run r.2))] := by
 unfold p_interp_frame_help at h; refine Ctr.ofW tabOk func201 rfl call201 2 _ ntmps201 [] rfl rfl rfl (fun B => ?_); cases h
noncomputable def p_interp_frame_jump (a0 : T_interp_frame) (a0_r : T_interp_run) (a1 : T_Inst) : Option (T_interp_frame × T_interp_run) :=
  none
theorem c_interp_frame_jump {a0 : T_interp_frame} {a0_r : T_interp_run} {a1 : T_Inst} {r : T_interp_frame × T_interp_run} (h : p_interp_frame_jump a0 a0_r a1 = some r) : Ctr prog 199 [.ref 0 0, .agg (enc_Inst a1)] [(0, .box 283 (enc_interp_frame a0 (.ref 1 0))), (1, .box 259 (enc_interp_run a0_r))] (.tup []) [(0, .box 283 (enc_interp_frame r.1 (.ref 1 0))), (1, .box 259 (enc_interp_run r.2))] := by
 unfold p_interp_frame_jump at h; refine Ctr.ofW tabOk func199 rfl call199 2 _ ntmps199 [] rfl rfl rfl (fun B => ?_); cases h
noncomputable def p_interp_frame_words (a0 : T_interp_frame) (a0_r : T_interp_run) (a1 : T_Inst) : Option (T_interp_frame × T_interp_run) :=
  pg (0 ≤ 0 ∧ 0 ≤ 16 ∧ 16 ≤ 16) <|
  po (p_interp_frame_word a0 a0_r a1) fun r2 =>
  cond (a1.Op == 2) (
  pg (0 ≤ 0 ∧ 0 ≤ 4 ∧ 4 ≤ 4) <|
  cond (decide ((IntKind.u64.wrap (r2.1.toNat : Int)) ≥ 4)) (
  po (p_interp_run_fail r2.2.2 10) fun r6 =>
  some (r2.2.1, r6)) (
  pg (r2.1.toNat < 4) <|
  pl ((r2.2.2.e.Ctx.get r2.1.toNat)) fun c8 =>
  po (p_interp_frame_put r2.2.1 r2.2.2 a1.Dst c8) fun r9 =>
  some (r9.1, r9.2))) (
  cond (a1.Op == 3) (
  cond (decide ((IntKind.u64.wrap (r2.1.toNat : Int)) ≥ 16)) (
  po (p_interp_run_fail r2.2.2 10) fun r12 =>
  some (r2.2.1, r12)) (
  pg (r2.1.toNat < 16) <|
  pl ((r2.2.1.stack.get r2.1.toNat)) fun c14 =>
  po (p_interp_frame_put r2.2.1 r2.2.2 a1.Dst c14) fun r15 =>
  some (r15.1, r15.2))) (
  cond (a1.Op == 4) (
  po (p_interp_frame_get r2.2.1 r2.2.2 a1.Dst) fun r17 =>
  cond (decide ((IntKind.u64.wrap (r2.1.toNat : Int)) ≥ 16)) (
  po (p_interp_run_fail r17.2.2 10) fun r19 =>
  some (r17.2.1, r19)) (
  pg (r2.1.toNat < 16) <|
  pl (r17.2.1.stack.set r2.1.toNat r17.1) fun y21 =>
  some ((T_interp_frame.mk r17.2.1.fn r17.2.1.at_ r17.2.1.regs r17.2.1.set y21 r17.2.1.over), r17.2.2))) (
  some (r2.2.1, r2.2.2))))
theorem c_interp_frame_words {a0 : T_interp_frame} {a0_r : T_interp_run} {a1 : T_Inst} {r : T_interp_frame × T_interp_run} (h : p_interp_frame_words a0 a0_r a1 = some r) : Ctr prog 200 [.ref 0 0, .agg (enc_Inst a1)] [(0, .box 283 (enc_interp_frame a0 (.ref 1 0))), (1, .box 259 (enc_interp_run a0_r))] (.tup []) [(0, .box 283 (enc_interp_frame r.1 (.ref 1 0))), (1, .box 259 (enc_interp_run r.2))] := by
 unfold p_interp_frame_words at h; refine Ctr.ofW tabOk func200 rfl call200 2 _ ntmps200 [] rfl rfl rfl (fun B => ?_); refine vs [0, 3] (fun K hK => ?_); push_cast; refine hK _ ?_; clear hK K; obtain ⟨hg1, h⟩ := pg_some h; refine vs [0, 3, 4] (fun K hK => ?_); push_cast [hg1]; (repeat refine .intro (by omega) ?_); refine hK _ ?_; clear hK K; refine VC.sub (s' := ⟨[(0, .ref 0 0), (3, .ref 2 0), (4, .bsl 0 19 16)], [(0, .box 283 (enc_interp_frame a0 (.ref 1 0))), (1, .box 259 (enc_interp_run a0_r)), (2, .box 37 (enc_Inst a1))], 8, 68, 2⟩) (so (by push_cast)) ?_; obtain ⟨r2, hr2, h⟩ := po_some h; refine vs [0, 3, 4, 5] (fun K hK => ?_); push_cast; refine ch (H := [(0, .box 283 (enc_interp_frame a0 (.ref 1 0))), (1, .box 259 (enc_interp_run a0_r))]) (Ctr.loH (Ctr.ren Bij.id (c_interp_frame_word hr2) (by push_cast) (by push_cast))) (by push_cast) ?_; push_cast; refine hK _ ?_; clear hK K; refine VC.sub (s' := ⟨[(0, .ref 0 0), (3, .ref 2 0), (4, .bsl 0 19 16), (5, ru r2.1)], [(0, .box 283 (enc_interp_frame r2.2.1 (.ref 1 0))), (1, .box 259 (enc_interp_run r2.2.2)), (2, .box 37 (enc_Inst a1))], 12, 68, 2⟩) (so (by push_cast)) ?_; refine vs [0, 3, 4, 5, 15] (fun K hK => ?_); push_cast; refine hK _ ?_; clear hK K; refine VC.block ?_; refine VC.seq ?_; refine VC.block ?_; refine VC.seq ?_; refine VC.block ?_; refine VC.seq ?_; refine VC.block ?_; refine VC.seq ?_; refine VC.seq ?_; refine vs [0, 3, 4, 5, 15, 16] (fun K hK => ?_); push_cast; refine hK _ ?_; clear hK K; refine vc h (fun hb3 h => ?_) (fun hb3 h => ?_)
 ·refine VC.exit ?_; obtain ⟨hg4, h⟩ := pg_some h; refine vl (fun K hK => ?_); push_cast [hg4]; (repeat refine .intro (by omega) ?_); refine hK _ ?_; clear hK K; refine VC.seq ?_; refine VC.seq ?_; refine vs [0, 3, 4, 5, 35] (fun K hK => ?_); push_cast; refine hK _ ?_; clear hK K; refine vc h (fun hb5 h => ?_) (fun hb5 h => ?_)
  ·obtain ⟨r6, hr6, h⟩ := po_some h; refine vs [] (fun K hK => ?_); push_cast; refine ch (H := [(1, .box 259 (enc_interp_run r2.2.2))]) (Ctr.loH (Ctr.ren (Bij.swp 0 1 Bij.id) (c_interp_run_fail hr6) (by push_cast) (by push_cast))) (by push_cast) ?_; push_cast; refine hK _ ?_; clear hK K; refine VC.sub (s' := ⟨[], [(0, .box 283 (enc_interp_frame r2.2.1 (.ref 1 0))), (1, .box 259 (enc_interp_run r6))], 36, 68, 2⟩) (so (by push_cast [hb3, hb5])) ?_; refine VC.ret ?_; replace h := Option.some.inj h; subst h; exact en (by push_cast [hb3, hb5])
  ·refine VC.skip ?_; obtain ⟨hg7, h⟩ := pg_some h; obtain ⟨c8, hc8, h⟩ := pl_some h; have hc8i : (((r2.2.2.e.Ctx.get r2.1.toNat)).toNat : Int) = (c8.toNat : Int) := by rw [hc8]
   push_cast at hc8i; obtain ⟨r9, hr9, h⟩ := po_some h; refine vlD [some 41, some 42, some 43, some 44, some 45, some 46, some 47, some 48] (fun K hK => ?_); push_cast [hg7, hc8i]; (repeat refine .intro (by omega) ?_); refine chD (H := [(0, .box 283 (enc_interp_frame r2.2.1 (.ref 1 0))), (1, .box 259 (enc_interp_run r2.2.2))]) (Ctr.loH (Ctr.ren Bij.id (c_interp_frame_put hr9) (by push_cast [hg7, hc8i]) (by push_cast [hg7, hc8i]))) (by push_cast [hg7, hc8i]) ?_; push_cast [hg7, hc8i]; (repeat refine .intro (by omega) ?_); refine ⟨rfl, hK _ ?_⟩; clear hK K; refine VC.exit ?_; replace h := Option.some.inj h; subst h; exact eN (by push_cast [hb3, hb5, hc8i])
 ·refine VC.skip ?_; refine VC.seq ?_; refine vs [0, 3, 4, 5, 15, 18] (fun K hK => ?_); push_cast; refine hK _ ?_; clear hK K; refine vc h (fun hb10 h => ?_) (fun hb10 h => ?_)
  ·refine VC.exit ?_; refine VC.seq ?_; refine VC.seq ?_; refine vs [0, 3, 4, 5, 35] (fun K hK => ?_); push_cast; refine hK _ ?_; clear hK K; refine vc h (fun hb11 h => ?_) (fun hb11 h => ?_)
   ·obtain ⟨r12, hr12, h⟩ := po_some h; refine vs [] (fun K hK => ?_); push_cast; refine ch (H := [(1, .box 259 (enc_interp_run r2.2.2))]) (Ctr.loH (Ctr.ren (Bij.swp 0 1 Bij.id) (c_interp_run_fail hr12) (by push_cast) (by push_cast))) (by push_cast) ?_; push_cast; refine hK _ ?_; clear hK K; refine VC.sub (s' := ⟨[], [(0, .box 283 (enc_interp_frame r2.2.1 (.ref 1 0))), (1, .box 259 (enc_interp_run r12))], 29, 68, 2⟩) (so (by push_cast [hb3, hb10, hb11])) ?_; refine VC.ret ?_; replace h := Option.some.inj h; subst h; exact en (by push_cast [hb3, hb10, hb11])
   ·refine VC.skip ?_; obtain ⟨hg13, h⟩ := pg_some h; obtain ⟨c14, hc14, h⟩ := pl_some h; have hc14i : (((r2.2.1.stack.get r2.1.toNat)).toNat : Int) = (c14.toNat : Int) := by rw [hc14]
    push_cast at hc14i; obtain ⟨r15, hr15, h⟩ := po_some h; refine vlD [some 41, some 42, some 43, some 44, some 45, some 46, some 47, some 48] (fun K hK => ?_); push_cast [hg13, hc14i]; (repeat refine .intro (by omega) ?_); refine chD (H := [(0, .box 283 (enc_interp_frame r2.2.1 (.ref 1 0))), (1, .box 259 (enc_interp_run r2.2.2))]) (Ctr.loH (Ctr.ren Bij.id (c_interp_frame_put hr15) (by push_cast [hg13, hc14i]) (by push_cast [hg13, hc14i]))) (by push_cast [hg13, hc14i]) ?_; push_cast [hg13, hc14i]; (repeat refine .intro (by omega) ?_); refine ⟨rfl, hK _ ?_⟩; clear hK K; refine VC.exit ?_; replace h := Option.some.inj h; subst h; exact eN (by push_cast [hb3, hb10, hb11, hc14i])
  ·refine VC.skip ?_; refine vs [0, 3, 4, 5, 20] (fun K hK => ?_); push_cast; refine hK _ ?_; clear hK K; refine vc h (fun hb16 h => ?_) (fun hb16 h => ?_)
   ·refine VC.exit ?_; refine VC.seq ?_; obtain ⟨r17, hr17, h⟩ := po_some h; refine vs [0, 4, 5, 6] (fun K hK => ?_); push_cast; refine ch (H := [(0, .box 283 (enc_interp_frame r2.2.1 (.ref 1 0))), (1, .box 259 (enc_interp_run r2.2.2))]) (Ctr.loH (Ctr.ren Bij.id (c_interp_frame_get hr17) (by push_cast) (by push_cast))) (by push_cast) ?_; push_cast; refine hK _ ?_; clear hK K; refine VC.sub (s' := ⟨[(0, .ref 0 0), (4, .bsl 0 19 16), (5, ru r2.1), (6, ru r17.1)], [(0, .box 283 (enc_interp_frame r17.2.1 (.ref 1 0))), (1, .box 259 (enc_interp_run r17.2.2))], 25, 68, 2⟩) (so (by push_cast [hb3, hb10, hb16])) ?_; refine VC.seq ?_; refine vs [0, 4, 5, 6, 58] (fun K hK => ?_); push_cast; refine hK _ ?_; clear hK K; refine vc h (fun hb18 h => ?_) (fun hb18 h => ?_)
    ·obtain ⟨r19, hr19, h⟩ := po_some h; refine vs [] (fun K hK => ?_); push_cast; refine ch (H := [(1, .box 259 (enc_interp_run r17.2.2))]) (Ctr.loH (Ctr.ren (Bij.swp 0 1 Bij.id) (c_interp_run_fail hr19) (by push_cast) (by push_cast))) (by push_cast) ?_; push_cast; refine hK _ ?_; clear hK K; refine VC.sub (s' := ⟨[], [(0, .box 283 (enc_interp_frame r17.2.1 (.ref 1 0))), (1, .box 259 (enc_interp_run r19))], 36, 68, 2⟩) (so (by push_cast [hb3, hb10, hb16, hb18])) ?_; refine VC.ret ?_; replace h := Option.some.inj h; subst h; exact en (by push_cast [hb3, hb10, hb16, hb18])
    ·refine VC.skip ?_; obtain ⟨hg20, h⟩ := pg_some h; obtain ⟨y21, hy21, h⟩ := pl_some h; refine vl (fun K hK => ?_); push_cast [hg20]; (repeat refine .intro (by omega) ?_); refine hK _ ?_; clear hK K; refine VC.exit ?_; replace h := Option.some.inj h; subst h; exact eN (by push_cast [hb3, hb10, hb16, hb18, hy21])
   ·refine VC.skip ?_; refine VC.exit ?_; replace h := Option.some.inj h; subst h; exact eN (by push_cast [hb3, hb10, hb16])
noncomputable def p_interp_run_frame_L2 (a2 : (List UInt32)) (s_1 : T_interp_run) (s_2 : T_interp_frame) (i_3 : Int) : Option ((T_interp_run × T_interp_frame × Int) ⊕ (T_interp_run × T_interp_frame)) :=
  cond (decide (i_3 < (a2.length : Int))) (
  po (idx a2 i_3) fun x4 =>
  po (p_interp_frame_put s_2 s_1 (IntKind.i64.wrap (i_3 + 1)) x4) fun r5 =>
  some (Sum.inl (r5.2, r5.1, (IntKind.i64.wrap (i_3 + 1))))) (
  some (Sum.inr (s_1, s_2)))
noncomputable def p_interp_run_frame_J9 (x6 : T_Fn) (s_10 : T_interp_run) (s_11 : T_interp_frame) (i_12 : Bool) : Option ((T_interp_run × T_interp_frame) ⊕ (T_interp_run × T_interp_frame)) :=
  cond i_12 (
  cond (s_10.used == s_10.fuel) (
  po (p_interp_run_fail s_10 2) fun r13 =>
  some (Sum.inl (r13, s_11))) (
  cond (decide (s_11.at_ ≥ (x6.Code.length : Int))) (
  po (p_interp_run_fail (T_interp_run.mk s_10.p s_10.e s_10.fuel (IntKind.i64.wrap (s_10.used + 1)) s_10.err) 10) fun r15 =>
  some (Sum.inl (r15, s_11))) (
  po (idx x6.Code s_11.at_) fun x16 =>
  cond (x16.Op == 0) (
  po (p_interp_frame_alu s_11 (T_interp_run.mk s_10.p s_10.e s_10.fuel (IntKind.i64.wrap (s_10.used + 1)) s_10.err) x16) fun r18 =>
  some (Sum.inl (r18.2, (T_interp_frame.mk r18.1.fn (IntKind.i64.wrap (r18.1.at_ + 1)) r18.1.regs r18.1.set r18.1.stack r18.1.over)))) (
  cond (x16.Op == 1) (
  po (p_interp_frame_jump s_11 (T_interp_run.mk s_10.p s_10.e s_10.fuel (IntKind.i64.wrap (s_10.used + 1)) s_10.err) x16) fun r20 =>
  some (Sum.inl (r20.2, (T_interp_frame.mk r20.1.fn (IntKind.i64.wrap (r20.1.at_ + 1)) r20.1.regs r20.1.set r20.1.stack r20.1.over)))) (
  cond (x16.Op == 2) (
  po (p_interp_frame_words s_11 (T_interp_run.mk s_10.p s_10.e s_10.fuel (IntKind.i64.wrap (s_10.used + 1)) s_10.err) x16) fun r22 =>
  some (Sum.inl (r22.2, (T_interp_frame.mk r22.1.fn (IntKind.i64.wrap (r22.1.at_ + 1)) r22.1.regs r22.1.set r22.1.stack r22.1.over)))) (
  cond (x16.Op == 3) (
  po (p_interp_frame_words s_11 (T_interp_run.mk s_10.p s_10.e s_10.fuel (IntKind.i64.wrap (s_10.used + 1)) s_10.err) x16) fun r24 =>
  some (Sum.inl (r24.2, (T_interp_frame.mk r24.1.fn (IntKind.i64.wrap (r24.1.at_ + 1)) r24.1.regs r24.1.set r24.1.stack r24.1.over)))) (
  cond (x16.Op == 4) (
  po (p_interp_frame_words s_11 (T_interp_run.mk s_10.p s_10.e s_10.fuel (IntKind.i64.wrap (s_10.used + 1)) s_10.err) x16) fun r26 =>
  some (Sum.inl (r26.2, (T_interp_frame.mk r26.1.fn (IntKind.i64.wrap (r26.1.at_ + 1)) r26.1.regs r26.1.set r26.1.stack r26.1.over)))) (
  cond (x16.Op == 5) (
  po (p_interp_frame_help s_11 (T_interp_run.mk s_10.p s_10.e s_10.fuel (IntKind.i64.wrap (s_10.used + 1)) s_10.err) x16) fun r28 =>
  some (Sum.inl (r28.2, (T_interp_frame.mk r28.1.fn (IntKind.i64.wrap (r28.1.at_ + 1)) r28.1.regs r28.1.set r28.1.stack r28.1.over)))) (
  cond (x16.Op == 6) (
  po (p_interp_frame_call s_11 (T_interp_run.mk s_10.p s_10.e s_10.fuel (IntKind.i64.wrap (s_10.used + 1)) s_10.err) x16) fun r30 =>
  some (Sum.inl (r30.2, (T_interp_frame.mk r30.1.fn (IntKind.i64.wrap (r30.1.at_ + 1)) r30.1.regs r30.1.set r30.1.stack r30.1.over)))) (
  cond (x16.Op == 7) (
  po (p_interp_frame_exit s_11 (T_interp_run.mk s_10.p s_10.e s_10.fuel (IntKind.i64.wrap (s_10.used + 1)) s_10.err) x16) fun r32 =>
  some (Sum.inl (r32.2, (T_interp_frame.mk r32.1.fn (IntKind.i64.wrap (r32.1.at_ + 1)) r32.1.regs r32.1.set r32.1.stack r32.1.over)))) (
  none))))))))))) (
  some (Sum.inr (s_10, s_11)))
noncomputable def p_interp_run_frame_L8 (x6 : T_Fn) (s_10 : T_interp_run) (s_11 : T_interp_frame) : Option ((T_interp_run × T_interp_frame) ⊕ (T_interp_run × T_interp_frame)) :=
  po (
  cond (s_10.err == 0) (
  some (!s_11.over)) (
  some false)) (fun x => p_interp_run_frame_J9 x6 s_10 s_11 x)
noncomputable def p_interp_run_frame_J7 (s_15 : T_interp_run) (s_16 : T_interp_frame) : Option (UInt32 × T_interp_run) :=
  some (s_16.regs.a0, s_15)
noncomputable def p_interp_run_frame_J1 (a1 : Int) (s_7 : T_interp_run) (s_8 : T_interp_frame) : Option (UInt32 × T_interp_run) :=
  po (idx s_7.p.Fns a1) fun x6 =>
  po (
  lpU (fun x => p_interp_run_frame_L8 x6 x.1 x.2) (s_7, s_8)) (fun x => p_interp_run_frame_J7 x.1 x.2)
noncomputable def p_interp_run_frame (a0 : T_interp_run) (a1 : Int) (a2 : (List UInt32)) : Option (UInt32 × T_interp_run) :=
  po (
  lpU (fun x => p_interp_run_frame_L2 a2 x.1 x.2.1 x.2.2) (a0, (T_interp_frame.mk a1 0 (A8.mk 0 0 0 0 0 0 0 0) (A8.mk false false false false false false false false) (A16.mk 0 0 0 0 0 0 0 0 0 0 0 0 0 0 0 0) false), 0)) (fun x => p_interp_run_frame_J1 a1 x.1 x.2)
theorem c_interp_run_frame {a0 : T_interp_run} {a1 : Int} {a2 : (List UInt32)} {r : UInt32 × T_interp_run} (h : p_interp_run_frame a0 a1 a2 = some r) : Ctr prog 171 [.ref 0 0, ri a1, .sl false (a2.map encU32)] [(0, .box 259 (enc_interp_run a0))] (ru r.1) [(0, .box 259 (enc_interp_run r.2))] := by
 unfold p_interp_run_frame at h; refine Ctr.ofW tabOk func171 rfl call171 1 _ ntmps171 [.tmp 6] rfl rfl rfl (fun B => ?_); refine vs [0, 1, 2] (fun K hK => ?_); push_cast (maxSteps := 9000000) [-partsQ]; refine hK _ ?_; clear hK K; refine vs [0, 1, 2, 7] (fun K hK => ?_); push_cast (maxSteps := 9000000) [-partsQ]; refine hK _ ?_; clear hK K; refine VC.sub (s' := ⟨[(0, .ref 0 0), (1, ri a1), (2, .sl false (a2.map encU32)), (7, .ref 5 0)], [(0, .box 259 (enc_interp_run a0)), (5, .box 283 (enc_interp_frame (T_interp_frame.mk a1 0 (A8.mk 0 0 0 0 0 0 0 0) (A8.mk false false false false false false false false) (A16.mk 0 0 0 0 0 0 0 0 0 0 0 0 0 0 0 0) false) (.ref 0 0)))], 7, 114, 1⟩) (so (by push_cast (maxSteps := 9000000) [-partsQ, enc_interp_frame])) ?_; refine vj h (fun x => ⟨[(0, .ref 0 0), (1, ri a1), (7, .ref 5 0)], [(0, .box 259 (enc_interp_run x.1)), (5, .box 283 (enc_interp_frame x.2 (.ref 0 0)))], 24, 114, 1⟩) (fun v1 h hk1 => ?_) ?_
 ·as_aux_lemma =>
   refine vs [0, 1, 7, 17, 18, 19] (fun K hK => ?_); push_cast (maxSteps := 9000000) [-partsQ]; refine hK _ ?_; clear hK K; refine VC.block ?_; refine VC.loopP h (fun x => ⟨[(0, .ref 0 0), (1, ri a1), (7, .ref 5 0), (17, .sl false (a2.map encU32)), (18, ri (a2.length : Int)), (19, ri x.2.2)], [(0, .box 259 (enc_interp_run x.1)), (5, .box 283 (enc_interp_frame x.2.1 (.ref 0 0)))], 23, 114, 1⟩) ?_ ?_
   ·exact sl (by push_cast (maxSteps := 9000000) [-partsQ])
   rintro ⟨s_1, s_2, i_3⟩ b2 (h : p_interp_run_frame_L2 a2 s_1 s_2 i_3 = some b2) hf2; (try push_cast (maxSteps := 9000000) [-partsQ]); unfold p_interp_run_frame_L2 at h; refine vs [0, 1, 7, 17, 18, 19, 20] (fun K hK => ?_); push_cast (maxSteps := 9000000) [-partsQ]; refine hK _ ?_; clear hK K; refine VC.seq ?_; refine vc h (fun hb3 h => ?_) (fun hb3 h => ?_)
   ·refine VC.skip ?_; refine VC.seq ?_; refine VC.block ?_; obtain ⟨x4, hx4, h⟩ := po_some h; replace hx4 := idx_some4 hx4; refine vs [0, 1, 7, 8, 9, 17, 18, 19] (fun K hK => ?_); push_cast (maxSteps := 9000000) [-partsQ, hx4]; (repeat refine .intro (by omega) ?_); refine hK _ ?_; clear hK K; obtain ⟨r5, hr5, h⟩ := po_some h; refine vl (fun K hK => ?_); push_cast (maxSteps := 9000000) [-partsQ]; refine ch (H := [(5, .box 283 (enc_interp_frame s_2 (.ref 0 0))), (0, .box 259 (enc_interp_run s_1))]) (Ctr.loH (Ctr.ren (Bij.swp 1 0 (Bij.swp 0 5 Bij.id)) (c_interp_frame_put hr5) (by push_cast (maxSteps := 9000000) [-partsQ]) (by push_cast (maxSteps := 9000000) [-partsQ]))) (by push_cast (maxSteps := 9000000) [-partsQ]) ?_; push_cast (maxSteps := 9000000) [-partsQ]; refine hK _ ?_; clear hK K; refine vl (fun K hK => ?_); push_cast (maxSteps := 9000000) [-partsQ]; refine hK _ ?_; clear hK K; refine bk h ?_; exact sl (by push_cast (maxSteps := 9000000) [-partsQ, hb3])
   ·refine VC.exit ?_; replace h := ol h hf2; refine ar h hk1 ?_; exact sl (by push_cast (maxSteps := 9000000) [-partsQ, hb3])
 ·as_aux_lemma =>
   rintro ⟨s_7, s_8⟩ (h : p_interp_run_frame_J1 a1 s_7 s_8 = some r); (try push_cast (maxSteps := 9000000) [-partsQ]); unfold p_interp_run_frame_J1 at h; refine vs [0, 1, 7, 10] (fun K hK => ?_); push_cast (maxSteps := 9000000) [-partsQ]; refine hK _ ?_; clear hK K; obtain ⟨x6, hx6, h⟩ := po_some h; replace hx6 := idx_some4 hx6; refine vs [0, 7, 10, 11] (fun K hK => ?_); push_cast (maxSteps := 9000000) [-partsQ, hx6]; (repeat refine .intro (by omega) ?_); refine hK _ ?_; clear hK K; refine vj h (fun x => ⟨[(7, .ref 5 0)], [(0, .box 259 (enc_interp_run x.1)), (5, .box 283 (enc_interp_frame x.2 (.ref 0 0)))], 111, 114, 1⟩) (fun v7 h hk7 => ?_) ?_
   ·as_aux_lemma =>
     refine VC.block ?_; refine VC.loopP h (fun x => ⟨[(0, .ref 0 0), (7, .ref 5 0), (10, .ref 25 0), (11, .sl false (x6.Code.map enc_Inst))], [(0, .box 259 (enc_interp_run x.1)), (5, .box 283 (enc_interp_frame x.2 (.ref 0 0))), (25, .box 286 [.fn (.func 198) [] [], .fn (.func 199) [] [], .fn (.func 200) [] [], .fn (.func 200) [] [], .fn (.func 200) [] [], .fn (.func 201) [] [], .fn (.func 202) [] [], .fn (.func 203) [] []])], 99, 114, 1⟩) ?_ ?_
     ·exact sl (by push_cast (maxSteps := 9000000) [-partsQ])
     rintro ⟨s_10, s_11⟩ b8 (h : p_interp_run_frame_L8 x6 s_10 s_11 = some b8) hf8; (try push_cast (maxSteps := 9000000) [-partsQ]); unfold p_interp_run_frame_L8 at h; refine VC.seq ?_; refine vj h (fun x => ⟨[(0, .ref 0 0), (7, .ref 5 0), (10, .ref 25 0), (11, .sl false (x6.Code.map enc_Inst)), (51, rb x)], [(0, .box 259 (enc_interp_run s_10)), (5, .box 283 (enc_interp_frame s_11 (.ref 0 0))), (25, .box 286 [.fn (.func 198) [] [], .fn (.func 199) [] [], .fn (.func 200) [] [], .fn (.func 200) [] [], .fn (.func 200) [] [], .fn (.func 201) [] [], .fn (.func 202) [] [], .fn (.func 203) [] []])], 111, 114, 1⟩) (fun v9 h hk9 => ?_) ?_
     ·as_aux_lemma =>
       rcases Bool.eq_false_or_eq_true (s_10.err == 0) with hb10 | hb10
       ·replace h := cond_yes hb10 h; refine vlG [some 40, some 41, some 42, some 43, some 44, some 45, some 46, some 47, some 48, some 49, some 50, some 51] (fun K hK => ?_); refine runOps_cut 8 (fun K2 hK2 => ?_); push_cast (maxSteps := 9000000) [-partsQ, hb10]; (repeat refine .intro (by omega) ?_); refine hK2 _ _ ?_; clear hK2 K2; simp only [List.drop_succ_cons, List.drop_zero]; push_cast (maxSteps := 9000000) [-partsQ, hb10]; (repeat refine .intro (by omega) ?_); refine hK _ ?_; clear hK K; refine ar h hk9 ?_; exact sl (by push_cast (maxSteps := 9000000) [-partsQ, hb10])
       ·replace h := cond_no hb10 h; refine vlG [some 40, some 41, some 42, some 43, some 44, some 45, some 46, some 47, some 48, some 49, some 50, some 51] (fun K hK => ?_); refine runOps_cut 8 (fun K2 hK2 => ?_); push_cast (maxSteps := 9000000) [-partsQ, hb10]; (repeat refine .intro (by omega) ?_); refine hK2 _ _ ?_; clear hK2 K2; simp only [List.drop_succ_cons, List.drop_zero]; push_cast (maxSteps := 9000000) [-partsQ, hb10]; (repeat refine .intro (by omega) ?_); refine hK _ ?_; clear hK K; refine ar h hk9 ?_; exact sl (by push_cast (maxSteps := 9000000) [-partsQ, hb10])
     ·as_aux_lemma =>
       rintro i_12 (h : p_interp_run_frame_J9 x6 s_10 s_11 i_12 = some b8); (try push_cast (maxSteps := 9000000) [-partsQ]); unfold p_interp_run_frame_J9 at h; refine vc h (fun hb11 h => ?_) (fun hb11 h => ?_)
       ·refine VC.skip ?_; refine VC.block ?_; refine VC.seq ?_; refine VC.block ?_; refine vsD [some 53, some 54, some 55, some 56, some 57, some 58, some 59, some 60, some 61, some 52] [0, 7, 10, 11, 52] (fun K hK => ?_); push_cast (maxSteps := 9000000) [-partsQ]; refine ⟨rfl, hK _ ?_⟩; clear hK K; refine vc h (fun hb12 h => ?_) (fun hb12 h => ?_)
        ·obtain ⟨r13, hr13, h⟩ := po_some h; refine vs [0, 7, 10, 11] (fun K hK => ?_); push_cast (maxSteps := 9000000) [-partsQ]; refine ch (H := [(0, .box 259 (enc_interp_run s_10))]) (Ctr.loH (Ctr.ren Bij.id (c_interp_run_fail hr13) (by push_cast (maxSteps := 9000000) [-partsQ]) (by push_cast (maxSteps := 9000000) [-partsQ]))) (by push_cast (maxSteps := 9000000) [-partsQ]) ?_; push_cast (maxSteps := 9000000) [-partsQ]; refine hK _ ?_; clear hK K; refine VC.sub (s' := ⟨[(0, .ref 0 0), (7, .ref 5 0), (10, .ref 25 0), (11, .sl false (x6.Code.map enc_Inst))], [(0, .box 259 (enc_interp_run r13)), (5, .box 283 (enc_interp_frame s_11 (.ref 0 0))), (25, .box 286 [.fn (.func 198) [] [], .fn (.func 199) [] [], .fn (.func 200) [] [], .fn (.func 200) [] [], .fn (.func 200) [] [], .fn (.func 201) [] [], .fn (.func 202) [] [], .fn (.func 203) [] []])], 123, 114, 1⟩) (so (by push_cast (maxSteps := 9000000) [-partsQ, hb11, hb12])) ?_; refine VC.exit ?_; refine bk h ?_; exact sl (by push_cast (maxSteps := 9000000) [-partsQ, hb11, hb12])
        ·refine vs [0, 7, 10, 11, 64] (fun K hK => ?_); push_cast (maxSteps := 9000000) [-partsQ]; refine hK _ ?_; clear hK K; refine vc h (fun hb14 h => ?_) (fun hb14 h => ?_)
         ·refine vs [0, 7, 10, 11] (fun K hK => ?_); push_cast (maxSteps := 9000000) [-partsQ]; refine hK _ ?_; clear hK K; obtain ⟨r15, hr15, h⟩ := po_some h; refine vs [0, 7, 10, 11] (fun K hK => ?_); push_cast (maxSteps := 9000000) [-partsQ]; refine ch (H := [(0, .box 259 (enc_interp_run (T_interp_run.mk s_10.p s_10.e s_10.fuel (IntKind.i64.wrap (s_10.used + 1)) s_10.err)))]) (Ctr.loH (Ctr.ren Bij.id (c_interp_run_fail hr15) (by push_cast (maxSteps := 9000000) [-partsQ]) (by push_cast (maxSteps := 9000000) [-partsQ]))) (by push_cast (maxSteps := 9000000) [-partsQ]) ?_; push_cast (maxSteps := 9000000) [-partsQ]; refine hK _ ?_; clear hK K; refine VC.sub (s' := ⟨[(0, .ref 0 0), (7, .ref 5 0), (10, .ref 25 0), (11, .sl false (x6.Code.map enc_Inst))], [(0, .box 259 (enc_interp_run r15)), (5, .box 283 (enc_interp_frame s_11 (.ref 0 0))), (25, .box 286 [.fn (.func 198) [] [], .fn (.func 199) [] [], .fn (.func 200) [] [], .fn (.func 200) [] [], .fn (.func 200) [] [], .fn (.func 201) [] [], .fn (.func 202) [] [], .fn (.func 203) [] []])], 139, 114, 1⟩) (so (by push_cast (maxSteps := 9000000) [-partsQ, hb11, hb12, hb14])) ?_; refine VC.exit ?_; refine bk h ?_; exact sl (by push_cast (maxSteps := 9000000) [-partsQ, hb11, hb12, hb14])
         ·refine VC.skip ?_; obtain ⟨x16, hx16, h⟩ := po_some h; replace hx16 := idx_some4 hx16; refine vs [0, 7, 10, 11, 12] (fun K hK => ?_); push_cast (maxSteps := 9000000) [-partsQ, hx16]; (repeat refine .intro (by omega) ?_); refine hK _ ?_; clear hK K; refine vs [0, 7, 10, 11, 12] (fun K hK => ?_); push_cast (maxSteps := 9000000) [-partsQ]; refine hK _ ?_; clear hK K; rcases Bool.eq_false_or_eq_true (x16.Op == 0) with hb17 | hb17
          ·as_aux_lemma =>
            replace h := cond_yes hb17 h; have hb17e : x16.Op = 0 := by simpa using hb17
            have hb17n : x16.Op.toNat = 0 := by omega
            obtain ⟨r18, hr18, h⟩ := po_some h; refine vsD [some 95, some 96, some 97, some 98, some 99, some 100, some 101] [0, 7, 10, 11] (fun K hK => ?_); push_cast (maxSteps := 9000000) [-partsQ, hb17n]; (repeat refine .intro (by omega) ?_); refine chD (H := [(5, .box 283 (enc_interp_frame s_11 (.ref 0 0))), (0, .box 259 (enc_interp_run (T_interp_run.mk s_10.p s_10.e s_10.fuel (IntKind.i64.wrap (s_10.used + 1)) s_10.err)))]) (Ctr.loH (Ctr.ren (Bij.swp 1 0 (Bij.swp 0 5 Bij.id)) (c_interp_frame_alu hr18) (by push_cast (maxSteps := 9000000) [-partsQ, hb17n]) (by push_cast (maxSteps := 9000000) [-partsQ, hb17n]))) (by push_cast (maxSteps := 9000000) [-partsQ, hb17n]) ?_; push_cast (maxSteps := 9000000) [-partsQ, hb17n]; (repeat refine .intro (by omega) ?_); refine ⟨rfl, hK _ ?_⟩; clear hK K; refine VC.sub (s' := ⟨[(0, .ref 0 0), (7, .ref 5 0), (10, .ref 25 0), (11, .sl false (x6.Code.map enc_Inst))], [(0, .box 259 (enc_interp_run r18.2)), (5, .box 283 (enc_interp_frame r18.1 (.ref 0 0))), (25, .box 286 [.fn (.func 198) [] [], .fn (.func 199) [] [], .fn (.func 200) [] [], .fn (.func 200) [] [], .fn (.func 200) [] [], .fn (.func 201) [] [], .fn (.func 202) [] [], .fn (.func 203) [] []])], 153, 114, 1⟩) (so (by push_cast (maxSteps := 9000000) [-partsQ, hb11, hb12, hb14])) ?_; refine vl (fun K hK => ?_); push_cast (maxSteps := 9000000) [-partsQ]; refine hK _ ?_; clear hK K; refine bk h ?_; exact sl (by push_cast (maxSteps := 9000000) [-partsQ, hb11, hb12, hb14])
          ·replace h := cond_no hb17 h; rcases Bool.eq_false_or_eq_true (x16.Op == 1) with hb19 | hb19
           ·as_aux_lemma =>
             replace h := cond_yes hb19 h; have hb19e : x16.Op = 1 := by simpa using hb19
             have hb19n : x16.Op.toNat = 1 := by omega
             obtain ⟨r20, hr20, h⟩ := po_some h; refine vsD [some 95, some 96, some 97, some 98, some 99, some 100, some 101] [0, 7, 10, 11] (fun K hK => ?_); push_cast (maxSteps := 9000000) [-partsQ, hb19n]; (repeat refine .intro (by omega) ?_); refine chD (H := [(5, .box 283 (enc_interp_frame s_11 (.ref 0 0))), (0, .box 259 (enc_interp_run (T_interp_run.mk s_10.p s_10.e s_10.fuel (IntKind.i64.wrap (s_10.used + 1)) s_10.err)))]) (Ctr.loH (Ctr.ren (Bij.swp 1 0 (Bij.swp 0 5 Bij.id)) (c_interp_frame_jump hr20) (by push_cast (maxSteps := 9000000) [-partsQ, hb19n]) (by push_cast (maxSteps := 9000000) [-partsQ, hb19n]))) (by push_cast (maxSteps := 9000000) [-partsQ, hb19n]) ?_; push_cast (maxSteps := 9000000) [-partsQ, hb19n]; (repeat refine .intro (by omega) ?_); refine ⟨rfl, hK _ ?_⟩; clear hK K; refine VC.sub (s' := ⟨[(0, .ref 0 0), (7, .ref 5 0), (10, .ref 25 0), (11, .sl false (x6.Code.map enc_Inst))], [(0, .box 259 (enc_interp_run r20.2)), (5, .box 283 (enc_interp_frame r20.1 (.ref 0 0))), (25, .box 286 [.fn (.func 198) [] [], .fn (.func 199) [] [], .fn (.func 200) [] [], .fn (.func 200) [] [], .fn (.func 200) [] [], .fn (.func 201) [] [], .fn (.func 202) [] [], .fn (.func 203) [] []])], 153, 114, 1⟩) (so (by push_cast (maxSteps := 9000000) [-partsQ, hb11, hb12, hb14])) ?_; refine vl (fun K hK => ?_); push_cast (maxSteps := 9000000) [-partsQ]; refine hK _ ?_; clear hK K; refine bk h ?_; exact sl (by push_cast (maxSteps := 9000000) [-partsQ, hb11, hb12, hb14])
           ·replace h := cond_no hb19 h; rcases Bool.eq_false_or_eq_true (x16.Op == 2) with hb21 | hb21
            ·as_aux_lemma =>
              replace h := cond_yes hb21 h; have hb21e : x16.Op = 2 := by simpa using hb21
              have hb21n : x16.Op.toNat = 2 := by omega
              obtain ⟨r22, hr22, h⟩ := po_some h; refine vsD [some 95, some 96, some 97, some 98, some 99, some 100, some 101] [0, 7, 10, 11] (fun K hK => ?_); push_cast (maxSteps := 9000000) [-partsQ, hb21n]; (repeat refine .intro (by omega) ?_); refine chD (H := [(5, .box 283 (enc_interp_frame s_11 (.ref 0 0))), (0, .box 259 (enc_interp_run (T_interp_run.mk s_10.p s_10.e s_10.fuel (IntKind.i64.wrap (s_10.used + 1)) s_10.err)))]) (Ctr.loH (Ctr.ren (Bij.swp 1 0 (Bij.swp 0 5 Bij.id)) (c_interp_frame_words hr22) (by push_cast (maxSteps := 9000000) [-partsQ, hb21n]) (by push_cast (maxSteps := 9000000) [-partsQ, hb21n]))) (by push_cast (maxSteps := 9000000) [-partsQ, hb21n]) ?_; push_cast (maxSteps := 9000000) [-partsQ, hb21n]; (repeat refine .intro (by omega) ?_); refine ⟨rfl, hK _ ?_⟩; clear hK K; refine VC.sub (s' := ⟨[(0, .ref 0 0), (7, .ref 5 0), (10, .ref 25 0), (11, .sl false (x6.Code.map enc_Inst))], [(0, .box 259 (enc_interp_run r22.2)), (5, .box 283 (enc_interp_frame r22.1 (.ref 0 0))), (25, .box 286 [.fn (.func 198) [] [], .fn (.func 199) [] [], .fn (.func 200) [] [], .fn (.func 200) [] [], .fn (.func 200) [] [], .fn (.func 201) [] [], .fn (.func 202) [] [], .fn (.func 203) [] []])], 153, 114, 1⟩) (so (by push_cast (maxSteps := 9000000) [-partsQ, hb11, hb12, hb14])) ?_; refine vl (fun K hK => ?_); push_cast (maxSteps := 9000000) [-partsQ]; refine hK _ ?_; clear hK K; refine bk h ?_; exact sl (by push_cast (maxSteps := 9000000) [-partsQ, hb11, hb12, hb14])
            ·replace h := cond_no hb21 h; rcases Bool.eq_false_or_eq_true (x16.Op == 3) with hb23 | hb23
             ·as_aux_lemma =>
               replace h := cond_yes hb23 h; have hb23e : x16.Op = 3 := by simpa using hb23
               have hb23n : x16.Op.toNat = 3 := by omega
               obtain ⟨r24, hr24, h⟩ := po_some h; refine vsD [some 95, some 96, some 97, some 98, some 99, some 100, some 101] [0, 7, 10, 11] (fun K hK => ?_); push_cast (maxSteps := 9000000) [-partsQ, hb23n]; (repeat refine .intro (by omega) ?_); refine chD (H := [(5, .box 283 (enc_interp_frame s_11 (.ref 0 0))), (0, .box 259 (enc_interp_run (T_interp_run.mk s_10.p s_10.e s_10.fuel (IntKind.i64.wrap (s_10.used + 1)) s_10.err)))]) (Ctr.loH (Ctr.ren (Bij.swp 1 0 (Bij.swp 0 5 Bij.id)) (c_interp_frame_words hr24) (by push_cast (maxSteps := 9000000) [-partsQ, hb23n]) (by push_cast (maxSteps := 9000000) [-partsQ, hb23n]))) (by push_cast (maxSteps := 9000000) [-partsQ, hb23n]) ?_; push_cast (maxSteps := 9000000) [-partsQ, hb23n]; (repeat refine .intro (by omega) ?_); refine ⟨rfl, hK _ ?_⟩; clear hK K; refine VC.sub (s' := ⟨[(0, .ref 0 0), (7, .ref 5 0), (10, .ref 25 0), (11, .sl false (x6.Code.map enc_Inst))], [(0, .box 259 (enc_interp_run r24.2)), (5, .box 283 (enc_interp_frame r24.1 (.ref 0 0))), (25, .box 286 [.fn (.func 198) [] [], .fn (.func 199) [] [], .fn (.func 200) [] [], .fn (.func 200) [] [], .fn (.func 200) [] [], .fn (.func 201) [] [], .fn (.func 202) [] [], .fn (.func 203) [] []])], 153, 114, 1⟩) (so (by push_cast (maxSteps := 9000000) [-partsQ, hb11, hb12, hb14])) ?_; refine vl (fun K hK => ?_); push_cast (maxSteps := 9000000) [-partsQ]; refine hK _ ?_; clear hK K; refine bk h ?_; exact sl (by push_cast (maxSteps := 9000000) [-partsQ, hb11, hb12, hb14])
             ·replace h := cond_no hb23 h; rcases Bool.eq_false_or_eq_true (x16.Op == 4) with hb25 | hb25
              ·as_aux_lemma =>
                replace h := cond_yes hb25 h; have hb25e : x16.Op = 4 := by simpa using hb25
                have hb25n : x16.Op.toNat = 4 := by omega
                obtain ⟨r26, hr26, h⟩ := po_some h; refine vsD [some 95, some 96, some 97, some 98, some 99, some 100, some 101] [0, 7, 10, 11] (fun K hK => ?_); push_cast (maxSteps := 9000000) [-partsQ, hb25n]; (repeat refine .intro (by omega) ?_); refine chD (H := [(5, .box 283 (enc_interp_frame s_11 (.ref 0 0))), (0, .box 259 (enc_interp_run (T_interp_run.mk s_10.p s_10.e s_10.fuel (IntKind.i64.wrap (s_10.used + 1)) s_10.err)))]) (Ctr.loH (Ctr.ren (Bij.swp 1 0 (Bij.swp 0 5 Bij.id)) (c_interp_frame_words hr26) (by push_cast (maxSteps := 9000000) [-partsQ, hb25n]) (by push_cast (maxSteps := 9000000) [-partsQ, hb25n]))) (by push_cast (maxSteps := 9000000) [-partsQ, hb25n]) ?_; push_cast (maxSteps := 9000000) [-partsQ, hb25n]; (repeat refine .intro (by omega) ?_); refine ⟨rfl, hK _ ?_⟩; clear hK K; refine VC.sub (s' := ⟨[(0, .ref 0 0), (7, .ref 5 0), (10, .ref 25 0), (11, .sl false (x6.Code.map enc_Inst))], [(0, .box 259 (enc_interp_run r26.2)), (5, .box 283 (enc_interp_frame r26.1 (.ref 0 0))), (25, .box 286 [.fn (.func 198) [] [], .fn (.func 199) [] [], .fn (.func 200) [] [], .fn (.func 200) [] [], .fn (.func 200) [] [], .fn (.func 201) [] [], .fn (.func 202) [] [], .fn (.func 203) [] []])], 153, 114, 1⟩) (so (by push_cast (maxSteps := 9000000) [-partsQ, hb11, hb12, hb14])) ?_; refine vl (fun K hK => ?_); push_cast (maxSteps := 9000000) [-partsQ]; refine hK _ ?_; clear hK K; refine bk h ?_; exact sl (by push_cast (maxSteps := 9000000) [-partsQ, hb11, hb12, hb14])
              ·replace h := cond_no hb25 h; rcases Bool.eq_false_or_eq_true (x16.Op == 5) with hb27 | hb27
               ·as_aux_lemma =>
                 replace h := cond_yes hb27 h; have hb27e : x16.Op = 5 := by simpa using hb27
                 have hb27n : x16.Op.toNat = 5 := by omega
                 obtain ⟨r28, hr28, h⟩ := po_some h; refine vsD [some 95, some 96, some 97, some 98, some 99, some 100, some 101] [0, 7, 10, 11] (fun K hK => ?_); push_cast (maxSteps := 9000000) [-partsQ, hb27n]; (repeat refine .intro (by omega) ?_); refine chD (H := [(5, .box 283 (enc_interp_frame s_11 (.ref 0 0))), (0, .box 259 (enc_interp_run (T_interp_run.mk s_10.p s_10.e s_10.fuel (IntKind.i64.wrap (s_10.used + 1)) s_10.err)))]) (Ctr.loH (Ctr.ren (Bij.swp 1 0 (Bij.swp 0 5 Bij.id)) (c_interp_frame_help hr28) (by push_cast (maxSteps := 9000000) [-partsQ, hb27n]) (by push_cast (maxSteps := 9000000) [-partsQ, hb27n]))) (by push_cast (maxSteps := 9000000) [-partsQ, hb27n]) ?_; push_cast (maxSteps := 9000000) [-partsQ, hb27n]; (repeat refine .intro (by omega) ?_); refine ⟨rfl, hK _ ?_⟩; clear hK K; refine VC.sub (s' := ⟨[(0, .ref 0 0), (7, .ref 5 0), (10, .ref 25 0), (11, .sl false (x6.Code.map enc_Inst))], [(0, .box 259 (enc_interp_run r28.2)), (5, .box 283 (enc_interp_frame r28.1 (.ref 0 0))), (25, .box 286 [.fn (.func 198) [] [], .fn (.func 199) [] [], .fn (.func 200) [] [], .fn (.func 200) [] [], .fn (.func 200) [] [], .fn (.func 201) [] [], .fn (.func 202) [] [], .fn (.func 203) [] []])], 153, 114, 1⟩) (so (by push_cast (maxSteps := 9000000) [-partsQ, hb11, hb12, hb14])) ?_; refine vl (fun K hK => ?_); push_cast (maxSteps := 9000000) [-partsQ]; refine hK _ ?_; clear hK K; refine bk h ?_; exact sl (by push_cast (maxSteps := 9000000) [-partsQ, hb11, hb12, hb14])
               ·replace h := cond_no hb27 h; rcases Bool.eq_false_or_eq_true (x16.Op == 6) with hb29 | hb29
                ·as_aux_lemma =>
                  replace h := cond_yes hb29 h; have hb29e : x16.Op = 6 := by simpa using hb29
                  have hb29n : x16.Op.toNat = 6 := by omega
                  obtain ⟨r30, hr30, h⟩ := po_some h; refine vsD [some 95, some 96, some 97, some 98, some 99, some 100, some 101] [0, 7, 10, 11] (fun K hK => ?_); push_cast (maxSteps := 9000000) [-partsQ, hb29n]; (repeat refine .intro (by omega) ?_); refine chD (H := [(5, .box 283 (enc_interp_frame s_11 (.ref 0 0))), (0, .box 259 (enc_interp_run (T_interp_run.mk s_10.p s_10.e s_10.fuel (IntKind.i64.wrap (s_10.used + 1)) s_10.err)))]) (Ctr.loH (Ctr.ren (Bij.swp 1 0 (Bij.swp 0 5 Bij.id)) (c_interp_frame_call hr30) (by push_cast (maxSteps := 9000000) [-partsQ, hb29n]) (by push_cast (maxSteps := 9000000) [-partsQ, hb29n]))) (by push_cast (maxSteps := 9000000) [-partsQ, hb29n]) ?_; push_cast (maxSteps := 9000000) [-partsQ, hb29n]; (repeat refine .intro (by omega) ?_); refine ⟨rfl, hK _ ?_⟩; clear hK K; refine VC.sub (s' := ⟨[(0, .ref 0 0), (7, .ref 5 0), (10, .ref 25 0), (11, .sl false (x6.Code.map enc_Inst))], [(0, .box 259 (enc_interp_run r30.2)), (5, .box 283 (enc_interp_frame r30.1 (.ref 0 0))), (25, .box 286 [.fn (.func 198) [] [], .fn (.func 199) [] [], .fn (.func 200) [] [], .fn (.func 200) [] [], .fn (.func 200) [] [], .fn (.func 201) [] [], .fn (.func 202) [] [], .fn (.func 203) [] []])], 153, 114, 1⟩) (so (by push_cast (maxSteps := 9000000) [-partsQ, hb11, hb12, hb14])) ?_; refine vl (fun K hK => ?_); push_cast (maxSteps := 9000000) [-partsQ]; refine hK _ ?_; clear hK K; refine bk h ?_; exact sl (by push_cast (maxSteps := 9000000) [-partsQ, hb11, hb12, hb14])
                ·replace h := cond_no hb29 h; rcases Bool.eq_false_or_eq_true (x16.Op == 7) with hb31 | hb31
                 ·as_aux_lemma =>
                   replace h := cond_yes hb31 h; have hb31e : x16.Op = 7 := by simpa using hb31
                   have hb31n : x16.Op.toNat = 7 := by omega
                   obtain ⟨r32, hr32, h⟩ := po_some h; refine vsD [some 95, some 96, some 97, some 98, some 99, some 100, some 101] [0, 7, 10, 11] (fun K hK => ?_); push_cast (maxSteps := 9000000) [-partsQ, hb31n]; (repeat refine .intro (by omega) ?_); refine chD (H := [(5, .box 283 (enc_interp_frame s_11 (.ref 0 0))), (0, .box 259 (enc_interp_run (T_interp_run.mk s_10.p s_10.e s_10.fuel (IntKind.i64.wrap (s_10.used + 1)) s_10.err)))]) (Ctr.loH (Ctr.ren (Bij.swp 1 0 (Bij.swp 0 5 Bij.id)) (c_interp_frame_exit hr32) (by push_cast (maxSteps := 9000000) [-partsQ, hb31n]) (by push_cast (maxSteps := 9000000) [-partsQ, hb31n]))) (by push_cast (maxSteps := 9000000) [-partsQ, hb31n]) ?_; push_cast (maxSteps := 9000000) [-partsQ, hb31n]; (repeat refine .intro (by omega) ?_); refine ⟨rfl, hK _ ?_⟩; clear hK K; refine VC.sub (s' := ⟨[(0, .ref 0 0), (7, .ref 5 0), (10, .ref 25 0), (11, .sl false (x6.Code.map enc_Inst))], [(0, .box 259 (enc_interp_run r32.2)), (5, .box 283 (enc_interp_frame r32.1 (.ref 0 0))), (25, .box 286 [.fn (.func 198) [] [], .fn (.func 199) [] [], .fn (.func 200) [] [], .fn (.func 200) [] [], .fn (.func 200) [] [], .fn (.func 201) [] [], .fn (.func 202) [] [], .fn (.func 203) [] []])], 153, 114, 1⟩) (so (by push_cast (maxSteps := 9000000) [-partsQ, hb11, hb12, hb14])) ?_; refine vl (fun K hK => ?_); push_cast (maxSteps := 9000000) [-partsQ]; refine hK _ ?_; clear hK K; refine bk h ?_; exact sl (by push_cast (maxSteps := 9000000) [-partsQ, hb11, hb12, hb14])
                 ·replace h := cond_no hb31 h; cases h
       ·refine VC.exit ?_; replace h := ol h hf8; refine ar h hk7 ?_; exact sl (by push_cast (maxSteps := 9000000) [-partsQ, hb11])
   ·as_aux_lemma =>
     rintro ⟨s_15, s_16⟩ (h : p_interp_run_frame_J7 s_15 s_16 = some r); (try push_cast (maxSteps := 9000000) [-partsQ]); unfold p_interp_run_frame_J7 at h; refine vs [6] (fun K hK => ?_); push_cast (maxSteps := 9000000) [-partsQ]; refine hK _ ?_; clear hK K; refine VC.ret ?_; replace h := Option.some.inj h; subst h; exact en (by push_cast (maxSteps := 9000000) [-partsQ])
def p_slices_Clone_api_Entry_api_Entry (a0 : List T_Entry) : Option (List T_Entry) := pg (a0.length * 32 ≤ 140737488355328) (some a0)
theorem p_slices_Clone_api_Entry_api_Entry_of {a0 : List T_Entry} (h : a0.length * 32 ≤ 140737488355328) : p_slices_Clone_api_Entry_api_Entry a0 = some a0 := pg_of h
theorem c_slices_Clone_api_Entry_api_Entry {a0 : List T_Entry} {r : List T_Entry} (h : p_slices_Clone_api_Entry_api_Entry a0 = some r) : Ctr prog 78 [.sl false (a0.map enc_Entry)] [] (.row 0 0 2 0 r.length) [(0, .row 66 2 0 (r.map enc_Entry))] := by
 unfold p_slices_Clone_api_Entry_api_Entry at h; obtain ⟨hg, h⟩ := pg_some h; have hr := Option.some.inj h; subst hr; refine Ctr.ofW tabOk func78 rfl call78 0 _ ntmps78 [.tmp 2] rfl rfl rfl (fun B => ?_); refine VC.seqF tabOkF [some 2] [0] rfl rfl (fun K hK => ?_); push_cast; refine hK _ ?_; clear hK K; refine VC.seq ?_; refine VC.seqF tabOkF [some 3, some 4] [0, 4] rfl rfl (fun K hK => ?_); push_cast; intro bn hbn; refine hK _ ?_; clear hK K; refine VC.cond rfl rfl (fun hc => ?_) (fun hc => ?_)
 ·have hn : a0 = [] := by
   have := hbn hc; cases a0 with
   | nil => rfl
   | cons _ _ => simp at this
  subst hn; refine VC.seqF tabOkF [some 2] [2] rfl rfl (fun K hK => ?_); push_cast; refine hK _ ?_; clear hK K; refine VC.ret ?_; refine endS (Sub.adoptT (k := 2) (e := 66) (sz := 2) rfl) ?_; refine endS (Sub.renT (k := 2) (i' := 0) rfl rfl (Nat.le_of_ble_eq_true rfl) (Nat.le_of_ble_eq_true rfl) rfl) ?_; refine endP (Sub.lo _) (Post.ret ?_ ?_ ?_)
  ·push_cast
  ·push_cast
  ·rfl
 ·refine VC.skip ?_; refine VC.seqF tabOkF [some 5, some 6, some 7, some 2] [2] rfl rfl (fun K hK => ?_); push_cast [hg]; (repeat refine .intro (by omega) ?_); refine hK _ ?_; clear hK K; refine VC.ret ?_; refine endS (Sub.renT (k := 2) (i' := 0) rfl rfl (Nat.le_of_ble_eq_true rfl) (Nat.le_of_ble_eq_true rfl) rfl) ?_; refine endP (Sub.lo _) (Post.ret ?_ ?_ ?_)
  ·push_cast
  ·push_cast
  ·rfl
def p_slices_Clone_api_Table_api_Table (a0 : List T_Table) : Option (List T_Table) := pg (a0.length * 64 ≤ 140737488355328) (some a0)
theorem c_slices_Clone_api_Table_api_Table {a0 : List T_Table} {r : List T_Table} (h : p_slices_Clone_api_Table_api_Table a0 = some r) : Ctr prog 77 [.sl false (a0.map enc_Table)] [] (.row 0 0 6 0 r.length) [(0, .row 53 6 0 (r.map enc_Table))] := by
 unfold p_slices_Clone_api_Table_api_Table at h; obtain ⟨hg, h⟩ := pg_some h; have hr := Option.some.inj h; subst hr; refine Ctr.ofW tabOk func77 rfl call77 0 _ ntmps77 [.tmp 2] rfl rfl rfl (fun B => ?_); refine VC.seqF tabOkF [some 2] [0] rfl rfl (fun K hK => ?_); push_cast; refine hK _ ?_; clear hK K; refine VC.seq ?_; refine VC.seqF tabOkF [some 3, some 4] [0, 4] rfl rfl (fun K hK => ?_); push_cast; intro bn hbn; refine hK _ ?_; clear hK K; refine VC.cond rfl rfl (fun hc => ?_) (fun hc => ?_)
 ·have hn : a0 = [] := by
   have := hbn hc; cases a0 with
   | nil => rfl
   | cons _ _ => simp at this
  subst hn; refine VC.seqF tabOkF [some 2] [2] rfl rfl (fun K hK => ?_); push_cast; refine hK _ ?_; clear hK K; refine VC.ret ?_; refine endS (Sub.adoptT (k := 2) (e := 53) (sz := 6) rfl) ?_; refine endS (Sub.renT (k := 2) (i' := 0) rfl rfl (Nat.le_of_ble_eq_true rfl) (Nat.le_of_ble_eq_true rfl) rfl) ?_; refine endP (Sub.lo _) (Post.ret ?_ ?_ ?_)
  ·push_cast
  ·push_cast
  ·rfl
 ·refine VC.skip ?_; refine VC.seqF tabOkF [some 5, some 6, some 7, some 2] [2] rfl rfl (fun K hK => ?_); push_cast [hg]; (repeat refine .intro (by omega) ?_); refine hK _ ?_; clear hK K; refine VC.ret ?_; refine endS (Sub.renT (k := 2) (i' := 0) rfl rfl (Nat.le_of_ble_eq_true rfl) (Nat.le_of_ble_eq_true rfl) rfl) ?_; refine endP (Sub.lo _) (Post.ret ?_ ?_ ?_)
  ·push_cast
  ·push_cast
  ·rfl
def p_slices_Clone_uint32_uint32 (a0 : List UInt32) : Option (List UInt32) := pg (a0.length * 4 ≤ 140737488355328) (some a0)
theorem p_slices_Clone_uint32_uint32_of {a0 : List UInt32} (h : a0.length * 4 ≤ 140737488355328) : p_slices_Clone_uint32_uint32 a0 = some a0 := pg_of h
theorem c_slices_Clone_uint32_uint32 {a0 : List UInt32} {r : List UInt32} (h : p_slices_Clone_uint32_uint32 a0 = some r) : Ctr prog 79 [.sl false (a0.map encU32)] [] (.row 0 0 1 0 r.length) [(0, .row 25 1 0 (r.map encU32))] := by
 unfold p_slices_Clone_uint32_uint32 at h; obtain ⟨hg, h⟩ := pg_some h; have hr := Option.some.inj h; subst hr; refine Ctr.ofW tabOk func79 rfl call79 0 _ ntmps79 [.tmp 2] rfl rfl rfl (fun B => ?_); refine VC.seqF tabOkF [some 2] [0] rfl rfl (fun K hK => ?_); push_cast; refine hK _ ?_; clear hK K; refine VC.seq ?_; refine VC.seqF tabOkF [some 3, some 4] [0, 4] rfl rfl (fun K hK => ?_); push_cast; intro bn hbn; refine hK _ ?_; clear hK K; refine VC.cond rfl rfl (fun hc => ?_) (fun hc => ?_)
 ·have hn : a0 = [] := by
   have := hbn hc; cases a0 with
   | nil => rfl
   | cons _ _ => simp at this
  subst hn; refine VC.seqF tabOkF [some 2] [2] rfl rfl (fun K hK => ?_); push_cast; refine hK _ ?_; clear hK K; refine VC.ret ?_; refine endS (Sub.adoptT (k := 2) (e := 25) (sz := 1) rfl) ?_; refine endS (Sub.renT (k := 2) (i' := 0) rfl rfl (Nat.le_of_ble_eq_true rfl) (Nat.le_of_ble_eq_true rfl) rfl) ?_; refine endP (Sub.lo _) (Post.ret ?_ ?_ ?_)
  ·push_cast
  ·push_cast
  ·rfl
 ·refine VC.skip ?_; refine VC.seqF tabOkF [some 5, some 6, some 7, some 2] [2] rfl rfl (fun K hK => ?_); push_cast [hg]; (repeat refine .intro (by omega) ?_); refine hK _ ?_; clear hK K; refine VC.ret ?_; refine endS (Sub.renT (k := 2) (i' := 0) rfl rfl (Nat.le_of_ble_eq_true rfl) (Nat.le_of_ble_eq_true rfl) rfl) ?_; refine endP (Sub.lo _) (Post.ret ?_ ?_ ?_)
  ·push_cast
  ·push_cast
  ·rfl
noncomputable def p_interp_Call_L9 (r7 : (List T_Entry)) (s_48 : T_Env) (s_49 : T_Table) (i_50 : Int) : Option ((T_Env × T_Table × Int) ⊕ (T_Env × T_Table)) :=
  cond (decide (i_50 < (r7.length : Int))) (
  po (idx s_49.E i_50) fun x11 =>
  po (p_slices_Clone_uint32_uint32 x11.V) fun r12 =>
  pl (s_49.E.set i_50.toNat (T_Entry.mk x11.Key r12)) fun y13 =>
  some (Sum.inl (s_48, (T_Table.mk s_49.S y13 s_49.Next), (IntKind.i64.wrap (i_50 + 1))))) (
  some (Sum.inr (s_48, s_49)))
noncomputable def p_interp_Call_J8 (i_19 : Int) (s_54 : T_Env) (s_55 : T_Table) : Option (T_Env) :=
  po (idx s_54.T i_19) fun x14 =>
  pl (s_54.T.set i_19.toNat s_55) fun y15 =>
  some (T_Env.mk s_54.Ctx y15 s_54.Seed)
noncomputable def p_interp_Call_J5 (i_19 : Int) (s_28 : T_Env) : Option ((T_Env × Int) ⊕ (T_Env)) :=
  some (Sum.inl (s_28, (IntKind.i64.wrap (i_19 + 1))))
noncomputable def p_interp_Call_L3 (r1 : (List T_Table)) (s_18 : T_Env) (i_19 : Int) : Option ((T_Env × Int) ⊕ (T_Env)) :=
  cond (decide (i_19 < (r1.length : Int))) (
  po (
  po (idx s_18.T i_19) fun x6 =>
  po (p_slices_Clone_api_Entry_api_Entry x6.E) fun r7 =>
  po (
  lpU (fun x => p_interp_Call_L9 r7 x.1 x.2.1 x.2.2) (s_18, (T_Table.mk x6.S r7 x6.Next), 0)) (fun x => p_interp_Call_J8 i_19 x.1 x.2)) (fun x => p_interp_Call_J5 i_19 x)) (
  some (Sum.inr s_18))
noncomputable def p_interp_Call_J27 (r26 : UInt32 × T_interp_run) (i_60 : UInt32) : Option (T_Ran) :=
  some (T_Ran.mk i_60 r26.2.e r26.2.used r26.2.err)
noncomputable def p_interp_Call_J21 (a0 : T_Prog) (a1 : Int) (a3 : Int) (a4 : (List UInt32)) (s_58 : T_Env) (i_59 : Bool) : Option (T_Ran) :=
  cond i_59 (
  some (T_Ran.mk 0 s_58 0 3)) (
  po (p_interp_run_frame (T_interp_run.mk a0 s_58 a3 0 0) a1 a4) fun r26 =>
  po (
  cond (r26.2.err != 0) (
  some 0) (
  some r26.1)) (fun x => p_interp_Call_J27 r26 x))
noncomputable def p_interp_Call_J16 (a0 : T_Prog) (a1 : Int) (a3 : Int) (a4 : (List UInt32)) (s_56 : T_Env) (i_57 : Bool) : Option (T_Ran) :=
  cond i_57 (
  some (T_Ran.mk 0 s_56 0 1)) (
  po (
  cond (decide (a1 < 0)) (
  some (s_56, (decide (a1 < 0)))) (
  cond (decide (a1 ≥ (a0.Fns.length : Int))) (
  some (s_56, (decide (a1 ≥ (a0.Fns.length : Int))))) (
  po (idx a0.Fns a1) fun x24 =>
  some (s_56, ((a4.length : Int) != x24.Args))))) (fun x => p_interp_Call_J21 a0 a1 a3 a4 x.1 x.2))
noncomputable def p_interp_Call_J2 (a0 : T_Prog) (a1 : Int) (a3 : Int) (a4 : (List UInt32)) (s_47 : T_Env) : Option (T_Ran) :=
  po (
  po (p_prog_May a0) fun r17 =>
  cond (!r17) (
  some (s_47, (!r17))) (
  cond (decide (a3 < 0)) (
  some (s_47, (decide (a3 < 0)))) (
  some (s_47, (decide (a3 > 100000)))))) (fun x => p_interp_Call_J16 a0 a1 a3 a4 x.1 x.2)
noncomputable def p_interp_Call (a0 : T_Prog) (a1 : Int) (a2 : T_Env) (a3 : Int) (a4 : (List UInt32)) : Option (T_Ran) :=
  po (p_slices_Clone_api_Table_api_Table a2.T) fun r1 =>
  po (
  lpU (fun x => p_interp_Call_L3 r1 x.1 x.2) ((T_Env.mk a2.Ctx r1 a2.Seed), 0)) (fun x => p_interp_Call_J2 a0 a1 a3 a4 x)
theorem c_interp_Call {a0 : T_Prog} {a1 : Int} {a2 : T_Env} {a3 : Int} {a4 : (List UInt32)} {r : T_Ran} (h : p_interp_Call a0 a1 a2 a3 a4 = some r) : Ctr prog 125 [.agg (enc_Prog a0), ri a1, .agg (enc_Env a2), ri a3, .sl false (a4.map encU32)] [] (.agg (enc_Ran r)) [] := by
 unfold p_interp_Call at h; refine Ctr.ofW tabOk func125 rfl call125 0 _ ntmps125 [.cell 10 162] rfl rfl rfl (fun B => ?_); refine vs [1, 3, 4, 5, 7, 10] (fun K hK => ?_); push_cast; refine hK _ ?_; clear hK K; obtain ⟨r1, hr1, h⟩ := po_some h; refine vs [1, 3, 4, 5, 7, 10] (fun K hK => ?_); push_cast; refine ch (H := []) (Ctr.loH (Ctr.ren (Bij.swp 0 5 Bij.id) (c_slices_Clone_api_Table_api_Table hr1) (by push_cast) (by push_cast))) (by push_cast) ?_; push_cast; refine hK _ ?_; clear hK K; refine VC.sub (s' := ⟨[(1, ri a1), (3, ri a3), (4, .sl false (a4.map encU32)), (5, .ref 0 0), (7, .ref 1 0), (10, .ref 2 0)], [(0, .box 56 [.sl false (a0.Fns.map enc_Fn)]), (1, .box 29 [ru a2.Ctx.a0, ru a2.Ctx.a1, ru a2.Ctx.a2, ru a2.Ctx.a3, .row 5 0 6 0 r1.length, ru a2.Seed]), (2, .box 162 [.raw (.int .u32 0), .raw (.int .u32 0), .raw (.int .u32 0), .raw (.int .u32 0), .raw (.int .u32 0), .sl true [], .raw (.int .u32 0), ri 0, ri 0]), (5, .row 53 6 0 (r1.map enc_Table))], 8, 114, 0⟩) (so (by push_cast)) ?_; refine vj h (fun x => ⟨[(1, ri a1), (3, ri a3), (4, .sl false (a4.map encU32)), (5, .ref 0 0), (7, .ref 1 0), (10, .ref 2 0)], [(0, .box 56 [.sl false (a0.Fns.map enc_Fn)]), (1, .box 29 [ru x.Ctx.a0, ru x.Ctx.a1, ru x.Ctx.a2, ru x.Ctx.a3, .row 5 0 6 0 x.T.length, ru x.Seed]), (2, .box 162 [.raw (.int .u32 0), .raw (.int .u32 0), .raw (.int .u32 0), .raw (.int .u32 0), .raw (.int .u32 0), .sl true [], .raw (.int .u32 0), ri 0, ri 0]), (5, .row 53 6 0 (x.T.map enc_Table))], 56, 114, 0⟩) (fun v2 h hk2 => ?_) ?_
 ·refine vs [1, 3, 4, 5, 7, 10, 21, 22, 23] (fun K hK => ?_); push_cast; refine hK _ ?_; clear hK K; refine VC.block ?_; refine VC.loopP h (fun x => ⟨[(1, ri a1), (3, ri a3), (4, .sl false (a4.map encU32)), (5, .ref 0 0), (7, .ref 1 0), (10, .ref 2 0), (21, .row 5 0 6 0 x.1.T.length), (22, ri (r1.length : Int)), (23, ri x.2)], [(0, .box 56 [.sl false (a0.Fns.map enc_Fn)]), (1, .box 29 [ru x.1.Ctx.a0, ru x.1.Ctx.a1, ru x.1.Ctx.a2, ru x.1.Ctx.a3, .row 5 0 6 0 x.1.T.length, ru x.1.Seed]), (2, .box 162 [.raw (.int .u32 0), .raw (.int .u32 0), .raw (.int .u32 0), .raw (.int .u32 0), .raw (.int .u32 0), .sl true [], .raw (.int .u32 0), ri 0, ri 0]), (5, .row 53 6 0 (x.1.T.map enc_Table))], 55, 114, 0⟩) ?_ ?_
  ·exact so (by push_cast)
  rintro ⟨s_18, i_19⟩ b3 (h : p_interp_Call_L3 r1 s_18 i_19 = some b3) hf3; (try push_cast); unfold p_interp_Call_L3 at h; refine vs [1, 3, 4, 5, 7, 10, 21, 22, 23, 24] (fun K hK => ?_); push_cast; refine hK _ ?_; clear hK K; refine VC.seq ?_; refine vc h (fun hb4 h => ?_) (fun hb4 h => ?_)
  ·refine VC.skip ?_; refine vj h (fun x => ⟨[(1, ri a1), (3, ri a3), (4, .sl false (a4.map encU32)), (5, .ref 0 0), (7, .ref 1 0), (10, .ref 2 0), (21, .row 5 0 6 0 x.T.length), (22, ri (r1.length : Int)), (23, ri i_19)], [(0, .box 56 [.sl false (a0.Fns.map enc_Fn)]), (1, .box 29 [ru x.Ctx.a0, ru x.Ctx.a1, ru x.Ctx.a2, ru x.Ctx.a3, .row 5 0 6 0 x.T.length, ru x.Seed]), (2, .box 162 [.raw (.int .u32 0), .raw (.int .u32 0), .raw (.int .u32 0), .raw (.int .u32 0), .raw (.int .u32 0), .sl true [], .raw (.int .u32 0), ri 0, ri 0]), (5, .row 53 6 0 (x.T.map enc_Table))], 96, 114, 0⟩) (fun v5 h hk5 => ?_) ?_
   ·refine VC.block ?_; obtain ⟨x6, hx6, h⟩ := po_some h; replace hx6 := idx_some4 hx6; refine vs [1, 3, 4, 5, 7, 10, 11, 12, 21, 22, 23] (fun K hK => ?_); push_cast [hx6]; (repeat refine .intro (by omega) ?_); refine hK _ ?_; clear hK K; obtain ⟨r7, hr7, h⟩ := po_some h; refine vs [1, 3, 4, 5, 7, 10, 11, 12, 21, 22, 23] (fun K hK => ?_); push_cast; refine ch (H := []) (Ctr.loH (Ctr.ren (Bij.swp 0 64 Bij.id) (c_slices_Clone_api_Entry_api_Entry hr7) (by push_cast) (by push_cast))) (by push_cast) ?_; push_cast; refine hK _ ?_; clear hK K; refine VC.sub (s' := ⟨[(1, ri a1), (3, ri a3), (4, .sl false (a4.map encU32)), (5, .ref 0 0), (7, .ref 1 0), (10, .ref 2 0), (11, ri i_19), (12, .ref 59 0), (21, .row 5 0 6 0 s_18.T.length), (22, ri (r1.length : Int)), (23, ri i_19)], [(0, .box 56 [.sl false (a0.Fns.map enc_Fn)]), (1, .box 29 [ru s_18.Ctx.a0, ru s_18.Ctx.a1, ru s_18.Ctx.a2, ru s_18.Ctx.a3, .row 5 0 6 0 s_18.T.length, ru s_18.Seed]), (2, .box 162 [.raw (.int .u32 0), .raw (.int .u32 0), .raw (.int .u32 0), .raw (.int .u32 0), .raw (.int .u32 0), .sl true [], .raw (.int .u32 0), ri 0, ri 0]), (5, .row 53 6 0 (s_18.T.map enc_Table)), (59, .box 53 [ri x6.S.Kind, ri x6.S.Cap, ri x6.S.Words, ri x6.S.Ver, .row 64 0 2 0 r7.length, ru x6.Next]), (64, .row 66 2 0 (r7.map enc_Entry))], 67, 114, 0⟩) (so (by push_cast [hb4])) ?_; refine vj h (fun x => ⟨[(1, ri a1), (3, ri a3), (4, .sl false (a4.map encU32)), (5, .ref 0 0), (7, .ref 1 0), (10, .ref 2 0), (11, ri i_19), (12, .ref 59 0), (21, .row 5 0 6 0 x.1.T.length), (22, ri (r1.length : Int)), (23, ri i_19)], [(0, .box 56 [.sl false (a0.Fns.map enc_Fn)]), (1, .box 29 [ru x.1.Ctx.a0, ru x.1.Ctx.a1, ru x.1.Ctx.a2, ru x.1.Ctx.a3, .row 5 0 6 0 x.1.T.length, ru x.1.Seed]), (2, .box 162 [.raw (.int .u32 0), .raw (.int .u32 0), .raw (.int .u32 0), .raw (.int .u32 0), .raw (.int .u32 0), .sl true [], .raw (.int .u32 0), ri 0, ri 0]), (5, .row 53 6 0 (x.1.T.map enc_Table)), (59, .box 53 [ri x.2.S.Kind, ri x.2.S.Cap, ri x.2.S.Words, ri x.2.S.Ver, .row 64 0 2 0 x.2.E.length, ru x.2.Next]), (64, .row 66 2 0 (x.2.E.map enc_Entry))], 90, 114, 0⟩) (fun v8 h hk8 => ?_) ?_
    ·refine vs [1, 3, 4, 5, 7, 10, 11, 12, 21, 22, 23, 34, 35] (fun K hK => ?_); push_cast; refine hK _ ?_; clear hK K; refine VC.block ?_; refine VC.loopP h (fun x => ⟨[(1, ri a1), (3, ri a3), (4, .sl false (a4.map encU32)), (5, .ref 0 0), (7, .ref 1 0), (10, .ref 2 0), (11, ri i_19), (12, .ref 59 0), (21, .row 5 0 6 0 x.1.T.length), (22, ri (r1.length : Int)), (23, ri i_19), (34, ri (r7.length : Int)), (35, ri x.2.2)], [(0, .box 56 [.sl false (a0.Fns.map enc_Fn)]), (1, .box 29 [ru x.1.Ctx.a0, ru x.1.Ctx.a1, ru x.1.Ctx.a2, ru x.1.Ctx.a3, .row 5 0 6 0 x.1.T.length, ru x.1.Seed]), (2, .box 162 [.raw (.int .u32 0), .raw (.int .u32 0), .raw (.int .u32 0), .raw (.int .u32 0), .raw (.int .u32 0), .sl true [], .raw (.int .u32 0), ri 0, ri 0]), (5, .row 53 6 0 (x.1.T.map enc_Table)), (59, .box 53 [ri x.2.1.S.Kind, ri x.2.1.S.Cap, ri x.2.1.S.Words, ri x.2.1.S.Ver, .row 64 0 2 0 x.2.1.E.length, ru x.2.1.Next]), (64, .row 66 2 0 (x.2.1.E.map enc_Entry))], 89, 114, 0⟩) ?_ ?_
     ·exact so (by push_cast [hb4])
     rintro ⟨s_48, s_49, i_50⟩ b9 (h : p_interp_Call_L9 r7 s_48 s_49 i_50 = some b9) hf9; (try push_cast); unfold p_interp_Call_L9 at h; refine vs [1, 3, 4, 5, 7, 10, 11, 12, 21, 22, 23, 34, 35, 36] (fun K hK => ?_); push_cast; refine hK _ ?_; clear hK K; refine VC.seq ?_; refine vc h (fun hb10 h => ?_) (fun hb10 h => ?_)
     ·refine VC.skip ?_; refine VC.seq ?_; refine VC.block ?_; refine vs [1, 3, 4, 5, 7, 10, 11, 12, 13, 21, 22, 23, 34, 35] (fun K hK => ?_); push_cast; refine hK _ ?_; clear hK K; obtain ⟨x11, hx11, h⟩ := po_some h; replace hx11 := idx_some4 hx11; obtain ⟨r12, hr12, h⟩ := po_some h; obtain ⟨y13, hy13, h⟩ := pl_some h; have hy13l : y13.length = s_49.E.length := by rw [hy13, List.length_set]
      refine vlD [some 38, some 39, some 40, some 41, some 42, some 43, some 44, some 45, some 46, some 47, some 48, some 49, none] (fun K hK => ?_); refine runD_cut 8 (fun K2 hK2 => ?_); push_cast [hx11]; (repeat refine .intro (by omega) ?_); refine hK2 _ _ _ ?_; clear hK2 K2; simp only [List.drop_succ_cons, List.drop_zero]; push_cast [hx11]; (repeat refine .intro (by omega) ?_); refine chD (H := []) (Ctr.loH (Ctr.ren (Bij.swp 0 101 Bij.id) (c_slices_Clone_uint32_uint32 hr12) (by push_cast [hx11]) (by push_cast [hx11]))) (by push_cast [hx11]) ?_; push_cast [hx11]; (repeat refine .intro (by omega) ?_); refine ⟨rfl, hK _ ?_⟩; clear hK K; refine vl (fun K hK => ?_); push_cast; refine hK _ ?_; clear hK K; refine bk h ?_; exact so (by push_cast [hb4, hb10, hy13, hy13l])
     ·refine VC.exit ?_; replace h := ol h hf9; refine ar h hk8 ?_; exact so (by push_cast [hb4, hb10])
    ·rintro ⟨s_54, s_55⟩ (h : p_interp_Call_J8 i_19 s_54 s_55 = some v5); (try push_cast); unfold p_interp_Call_J8 at h; obtain ⟨x14, hx14, h⟩ := po_some h; replace hx14 := idx_some4 hx14; obtain ⟨y15, hy15, h⟩ := pl_some h; have hy15l : y15.length = s_54.T.length := by rw [hy15, List.length_set]
     refine vl (fun K hK => ?_); push_cast [hx14]; (repeat refine .intro (by omega) ?_); refine hK _ ?_; clear hK K; refine ar h hk5 ?_; exact so (by push_cast [hb4, hy15, hy15l])
   ·rintro s_28 (h : p_interp_Call_J5 i_19 s_28 = some b3); (try push_cast); unfold p_interp_Call_J5 at h; refine vl (fun K hK => ?_); push_cast; refine hK _ ?_; clear hK K; refine bk h ?_; exact so (by push_cast [hb4])
  ·refine VC.exit ?_; replace h := ol h hf3; refine ar h hk2 ?_; exact so (by push_cast [hb4])
 ·rintro s_47 (h : p_interp_Call_J2 a0 a1 a3 a4 s_47 = some r); (try push_cast); unfold p_interp_Call_J2 at h; refine VC.seq ?_; refine VC.block ?_; refine vj h (fun x => ⟨[(1, ri a1), (3, ri a3), (4, .sl false (a4.map encU32)), (5, .ref 0 0), (7, .ref 1 0), (10, .ref 2 0), (57, rb x.2)], [(0, .box 56 [.sl false (a0.Fns.map enc_Fn)]), (1, .box 29 [ru x.1.Ctx.a0, ru x.1.Ctx.a1, ru x.1.Ctx.a2, ru x.1.Ctx.a3, .row 5 0 6 0 x.1.T.length, ru x.1.Seed]), (2, .box 162 [.raw (.int .u32 0), .raw (.int .u32 0), .raw (.int .u32 0), .raw (.int .u32 0), .raw (.int .u32 0), .sl true [], .raw (.int .u32 0), ri 0, ri 0]), (5, .row 53 6 0 (x.1.T.map enc_Table))], 66, 114, 0⟩) (fun v16 h hk16 => ?_) ?_
  ·obtain ⟨r17, hr17, h⟩ := po_some h; refine vs [1, 3, 4, 5, 7, 10, 57] (fun K hK => ?_); push_cast; refine cp (c_prog_May hr17) ?_; push_cast; refine hK _ ?_; clear hK K; refine vc h (fun hb18 h => ?_) (fun hb18 h => ?_)
   ·refine VC.skip ?_; refine ar h hk16 ?_; exact so (by push_cast [hb18])
   ·refine vs [1, 3, 4, 5, 7, 10, 57] (fun K hK => ?_); push_cast; refine hK _ ?_; clear hK K; refine vc h (fun hb19 h => ?_) (fun hb19 h => ?_)
    ·refine VC.skip ?_; refine ar h hk16 ?_; exact so (by push_cast [hb18, hb19])
    ·refine vl (fun K hK => ?_); push_cast; refine hK _ ?_; clear hK K; refine ar h hk16 ?_; exact so (by push_cast [hb18, hb19])
  ·rintro ⟨s_56, i_57⟩ (h : p_interp_Call_J16 a0 a1 a3 a4 s_56 i_57 = some r); (try push_cast); unfold p_interp_Call_J16 at h; refine vc h (fun hb20 h => ?_) (fun hb20 h => ?_)
   ·refine vs [10] (fun K hK => ?_); push_cast; refine hK _ ?_; clear hK K; refine VC.ret ?_; replace h := Option.some.inj h; subst h; refine endS (Sub.freeze prog (b := 2) (j := 5) rfl rfl rfl (by push_cast [hb20] <;> omega) (by decide)) ?_; exact en (by push_cast [hb20])
   ·refine vj h (fun x => ⟨[(1, ri a1), (3, ri a3), (4, .sl false (a4.map encU32)), (5, .ref 0 0), (7, .ref 1 0), (10, .ref 2 0), (67, rb x.2)], [(0, .box 56 [.sl false (a0.Fns.map enc_Fn)]), (1, .box 29 [ru x.1.Ctx.a0, ru x.1.Ctx.a1, ru x.1.Ctx.a2, ru x.1.Ctx.a3, .row 5 0 6 0 x.1.T.length, ru x.1.Seed]), (2, .box 162 [.raw (.int .u32 0), .raw (.int .u32 0), .raw (.int .u32 0), .raw (.int .u32 0), .raw (.int .u32 0), .sl true [], .raw (.int .u32 0), ri 0, ri 0]), (5, .row 53 6 0 (x.1.T.map enc_Table))], 85, 114, 0⟩) (fun v21 h hk21 => ?_) ?_
    ·refine vs [1, 3, 4, 5, 7, 10, 67] (fun K hK => ?_); push_cast; refine hK _ ?_; clear hK K; refine vc h (fun hb22 h => ?_) (fun hb22 h => ?_)
     ·refine VC.skip ?_; refine ar h hk21 ?_; exact so (by push_cast [hb20, hb22])
     ·refine vs [1, 3, 4, 5, 7, 10, 67] (fun K hK => ?_); push_cast; refine hK _ ?_; clear hK K; refine vc h (fun hb23 h => ?_) (fun hb23 h => ?_)
      ·refine VC.skip ?_; refine ar h hk21 ?_; exact so (by push_cast [hb20, hb22, hb23])
      ·obtain ⟨x24, hx24, h⟩ := po_some h; replace hx24 := idx_some4 hx24; refine vl (fun K hK => ?_); push_cast [hx24]; (repeat refine .intro (by omega) ?_); refine hK _ ?_; clear hK K; refine ar h hk21 ?_; exact so (by push_cast [hb20, hb22, hb23])
    ·rintro ⟨s_58, i_59⟩ (h : p_interp_Call_J21 a0 a1 a3 a4 s_58 i_59 = some r); (try push_cast); unfold p_interp_Call_J21 at h; refine vc h (fun hb25 h => ?_) (fun hb25 h => ?_)
     ·refine vs [10] (fun K hK => ?_); push_cast; refine hK _ ?_; clear hK K; refine VC.ret ?_; replace h := Option.some.inj h; subst h; refine endS (Sub.freeze prog (b := 2) (j := 5) rfl rfl rfl (by push_cast [hb20, hb25] <;> omega) (by decide)) ?_; exact en (by push_cast [hb20, hb25])
     ·refine VC.skip ?_; refine vs [1, 4, 10, 14] (fun K hK => ?_); push_cast; refine hK _ ?_; clear hK K; refine VC.sub (Sub.freeze prog (b := 89) (j := 5) rfl rfl rfl (by push_cast [hb20, hb25] <;> omega) (by decide)) ?_; refine VC.sub (s' := ⟨[(1, ri a1), (4, .sl false (a4.map encU32)), (10, .ref 2 0), (14, .ref 89 0)], [(2, .box 162 [.raw (.int .u32 0), .raw (.int .u32 0), .raw (.int .u32 0), .raw (.int .u32 0), .raw (.int .u32 0), .sl true [], .raw (.int .u32 0), ri 0, ri 0]), (89, .box 259 (enc_interp_run (T_interp_run.mk a0 s_58 a3 0 0)))], 91, 114, 0⟩) (so (by push_cast [hb20, hb25])) ?_; obtain ⟨r26, hr26, h⟩ := po_some h; refine vs [10, 14, 15] (fun K hK => ?_); push_cast; refine ch (H := [(89, .box 259 (enc_interp_run (T_interp_run.mk a0 s_58 a3 0 0)))]) (Ctr.loH (Ctr.ren (Bij.swp 0 89 Bij.id) (c_interp_run_frame hr26) (by push_cast) (by push_cast))) (by push_cast) ?_; push_cast; refine hK _ ?_; clear hK K; refine VC.sub (s' := ⟨[(10, .ref 2 0), (14, .ref 89 0), (15, ru r26.1)], [(2, .box 162 [.raw (.int .u32 0), .raw (.int .u32 0), .raw (.int .u32 0), .raw (.int .u32 0), .raw (.int .u32 0), .sl true [], .raw (.int .u32 0), ri 0, ri 0]), (89, .box 259 (enc_interp_run r26.2))], 96, 114, 0⟩) (so (by push_cast [hb20, hb25])) ?_; refine vj h (fun x => ⟨[(10, .ref 2 0), (14, .ref 89 0), (15, ru x)], [(2, .box 162 [.raw (.int .u32 0), .raw (.int .u32 0), .raw (.int .u32 0), .raw (.int .u32 0), .raw (.int .u32 0), .sl true [], .raw (.int .u32 0), ri 0, ri 0]), (89, .box 259 (enc_interp_run r26.2))], 102, 114, 0⟩) (fun v27 h hk27 => ?_) ?_
      ·refine vs [10, 14, 15, 99] (fun K hK => ?_); push_cast; refine hK _ ?_; clear hK K; refine vc h (fun hb28 h => ?_) (fun hb28 h => ?_)
       ·refine vl (fun K hK => ?_); push_cast; refine hK _ ?_; clear hK K; refine ar h hk27 ?_; exact so (by push_cast [hb20, hb25, hb28])
       ·refine VC.skip ?_; refine ar h hk27 ?_; exact so (by push_cast [hb20, hb25, hb28])
      ·rintro i_60 (h : p_interp_Call_J27 r26 i_60 = some r); (try push_cast); unfold p_interp_Call_J27 at h; refine vsD [some 100, some 101, some 102, some 103, some 104, some 105, some 106, some 107, some 108, some 109, some 110, some 111, some 112, some 113, none] [10] (fun K hK => ?_); refine runD_cut 8 (fun K2 hK2 => ?_); push_cast; refine hK2 _ _ _ ?_; clear hK2 K2; simp only [List.drop_succ_cons, List.drop_zero]; push_cast; refine ⟨rfl, hK _ ?_⟩; clear hK K; refine VC.ret ?_; replace h := Option.some.inj h; subst h; exact en (by push_cast [hb20, hb25])
noncomputable def p_interp_Run (a0 : T_Prog) (a1 : T_Env) (a2 : Int) : Option (T_Ran) :=
  po (p_interp_Call a0 0 a1 a2 []) fun r1 =>
  some r1
theorem c_interp_Run {a0 : T_Prog} {a1 : T_Env} {a2 : Int} {r : T_Ran} (h : p_interp_Run a0 a1 a2 = some r) : Ctr prog 88 [.agg (enc_Prog a0), .agg (enc_Env a1), ri a2] [] (.agg (enc_Ran r)) [] := by
 unfold p_interp_Run at h; refine Ctr.ofW tabOk func88 rfl call88 0 _ ntmps88 [.cell 6 162] rfl rfl rfl (fun B => ?_); refine vs [2, 3, 4, 6] (fun K hK => ?_); push_cast; refine hK _ ?_; clear hK K; obtain ⟨r1, hr1, h⟩ := po_some h; refine vs [6] (fun K hK => ?_); push_cast; refine cp (c_interp_Call hr1) ?_; push_cast; refine hK _ ?_; clear hK K; refine VC.ret ?_; replace h := Option.some.inj h; subst h; exact en (by push_cast)
noncomputable def p_shift_put_J12 (i_6 : Int) (r11 : T_Ran) (l_16 : (List UInt32)) (i_17 : Bool) : Option (((List UInt32) × Int) ⊕ (((List UInt32)) ⊕ ((List UInt32) × Int))) :=
  cond i_17 (
  some (Sum.inr (Sum.inr ([], 10)))) (
  po (idx l_16 i_6) fun x15 =>
  pl (l_16.set i_6.toNat r11.Ret) fun y16 =>
  some (Sum.inl (y16, (IntKind.i64.wrap (i_6 + 1)))))
noncomputable def p_shift_put_J6 (a1 : T_Prog) (a2 : UInt32) (a3 : (List UInt32)) (i_6 : Int) (l_7 : (List UInt32)) (i_8 : UInt32) : Option (((List UInt32) × Int) ⊕ (((List UInt32)) ⊕ ((List UInt32) × Int))) :=
  po (a3[0]?) fun x9 =>
  pl ((UInt32.ofInt i_6)) fun c10 =>
  po (p_interp_Run a1 (T_Env.mk (A4.mk a2 c10 i_8 x9) [] 0) 2000) fun r11 =>
  po (
  cond (r11.Err != 0) (
  some (l_7, true)) (
  some (l_7, ((r11.Ret.toNat : Int) == 4294967295)))) (fun x => p_shift_put_J12 i_6 r11 x.1 x.2)
noncomputable def p_shift_put_L4 (a0 : T_Schema) (a1 : T_Prog) (a2 : UInt32) (a3 : (List UInt32)) (l_5 : (List UInt32)) (i_6 : Int) : Option (((List UInt32) × Int) ⊕ (((List UInt32)) ⊕ ((List UInt32) × Int))) :=
  cond (decide (i_6 < a0.Words)) (
  po (
  cond (decide (i_6 < (a3.length : Int))) (
  po (idx a3 i_6) fun x8 =>
  some (l_5, x8)) (
  some (l_5, 0))) (fun x => p_shift_put_J6 a1 a2 a3 i_6 x.1 x.2)) (
  some (Sum.inr (Sum.inl l_5)))
noncomputable def p_shift_put_J3 (l_15 : (List UInt32)) : Option ((List UInt32) × Int) :=
  some (l_15, 0)
noncomputable def p_shift_put (a0 : T_Schema) (a1 : T_Prog) (a2 : UInt32) (a3 : (List UInt32)) : Option ((List UInt32) × Int) :=
  pg (0 ≤ a0.Words ∧ 4 * a0.Words ≤ 140737488355328) <|
  pl (List.replicate a0.Words.toNat 0) fun y2 =>
  pm (
  lpU (fun x => p_shift_put_L4 a0 a1 a2 a3 x.1 x.2) (y2, 0)) (fun x => p_shift_put_J3 x)
theorem c_shift_put {a0 : T_Schema} {a1 : T_Prog} {a2 : UInt32} {a3 : (List UInt32)} {r : (List UInt32) × Int} (h : p_shift_put a0 a1 a2 a3 = some r) : Ctr prog 55 [.agg (enc_Schema a0), .agg (enc_Prog a1), ru a2, .sl false (a3.map encU32)] [] (.tup [.row 0 0 1 0 r.1.length, ri r.2]) [(0, .row 25 1 0 (r.1.map encU32))] := by
 unfold p_shift_put at h; refine Ctr.ofW tabOk func55 rfl call55 0 _ ntmps55 [.tmp 8, .tmp 9] rfl rfl rfl (fun B => ?_); refine vs [2, 3, 4, 5] (fun K hK => ?_); push_cast; refine hK _ ?_; clear hK K; obtain ⟨hg1, h⟩ := pg_some h; obtain ⟨y2, hy2, h⟩ := pl_some h; refine vs [2, 3, 4, 5, 10] (fun K hK => ?_); push_cast [hg1]; (repeat refine .intro (by omega) ?_); refine hK _ ?_; clear hK K; refine VC.sub (s' := ⟨[(2, ru a2), (3, .sl false (a3.map encU32)), (4, .ref 0 0), (5, .ref 1 0), (10, .row 6 0 1 0 y2.length)], [(0, .box 50 (enc_Schema a0)), (1, .box 56 [.sl false (a1.Fns.map enc_Fn)]), (6, .row 25 1 0 (y2.map encU32))], 8, 56, 0⟩) (so (by push_cast [hy2])) ?_; refine vm h (fun x => ⟨[(10, .row 6 0 1 0 x.length)], [(6, .row 25 1 0 (x.map encU32))], 54, 56, 0⟩) (fun v3 h hk3 => ?_) ?_
 ·refine vs [2, 3, 5, 10, 18, 19] (fun K hK => ?_); push_cast; refine hK _ ?_; clear hK K; refine VC.block ?_; refine VC.loopP h (fun x => ⟨[(2, ru a2), (3, .sl false (a3.map encU32)), (5, .ref 1 0), (10, .row 6 0 1 0 x.1.length), (18, ri a0.Words), (19, ri x.2)], [(1, .box 56 [.sl false (a1.Fns.map enc_Fn)]), (6, .row 25 1 0 (x.1.map encU32))], 53, 56, 0⟩) ?_ ?_
  ·exact sl (by push_cast)
  rintro ⟨l_5, i_6⟩ b4 (h : p_shift_put_L4 a0 a1 a2 a3 l_5 i_6 = some b4) hf4; (try push_cast); unfold p_shift_put_L4 at h; refine vs [2, 3, 5, 10, 18, 19, 20] (fun K hK => ?_); push_cast; refine hK _ ?_; clear hK K; refine VC.seq ?_; refine vc h (fun hb5 h => ?_) (fun hb5 h => ?_)
  ·refine VC.skip ?_; refine VC.seq ?_; refine VC.block ?_; refine vs [2, 3, 5, 10, 11, 18, 19] (fun K hK => ?_); push_cast; refine hK _ ?_; clear hK K; refine vs [2, 3, 5, 10, 11, 12, 18, 19] (fun K hK => ?_); push_cast; refine hK _ ?_; clear hK K; refine vj h (fun x => ⟨[(2, ru a2), (3, .sl false (a3.map encU32)), (5, .ref 1 0), (10, .row 6 0 1 0 x.1.length), (11, ri i_6), (12, ru x.2), (18, ri a0.Words), (19, ri i_6)], [(1, .box 56 [.sl false (a1.Fns.map enc_Fn)]), (6, .row 25 1 0 (x.1.map encU32))], 66, 56, 0⟩) (fun v6 h hk6 => ?_) ?_
   ·refine vs [2, 3, 5, 10, 11, 12, 18, 19, 25] (fun K hK => ?_); push_cast; refine hK _ ?_; clear hK K; refine vc h (fun hb7 h => ?_) (fun hb7 h => ?_)
    ·obtain ⟨x8, hx8, h⟩ := po_some h; replace hx8 := idx_some4 hx8; refine vl (fun K hK => ?_); push_cast [hx8]; (repeat refine .intro (by omega) ?_); refine hK _ ?_; clear hK K; refine ar h hk6 ?_; exact sl (by push_cast [hb5, hb7])
    ·refine VC.skip ?_; refine ar h hk6 ?_; exact sl (by push_cast [hb5, hb7])
   ·rintro ⟨l_7, i_8⟩ (h : p_shift_put_J6 a1 a2 a3 i_6 l_7 i_8 = some b4); (try push_cast); unfold p_shift_put_J6 at h; obtain ⟨x9, hx9, h⟩ := po_some h; replace hx9 := gL hx9; obtain ⟨c10, hc10, h⟩ := pl_some h; have hc10i : (((UInt32.ofInt i_6)).toNat : Int) = (c10.toNat : Int) := by rw [hc10]
    push_cast at hc10i; obtain ⟨r11, hr11, h⟩ := po_some h; refine vsD [some 30, some 31, some 32, some 33, some 34, some 35, some 36, some 37, some 38, some 39, some 40, some 13, none] [2, 3, 5, 10, 11, 13, 18, 19] (fun K hK => ?_); refine runD_cut 8 (fun K2 hK2 => ?_); push_cast [hx9, hc10i]; (repeat refine .intro (by omega) ?_); refine hK2 _ _ _ ?_; clear hK2 K2; simp only [List.drop_succ_cons, List.drop_zero]; push_cast [hx9, hc10i]; (repeat refine .intro (by omega) ?_); refine cpD (c_interp_Run hr11) ?_; push_cast [hx9, hc10i]; (repeat refine .intro (by omega) ?_); refine ⟨rfl, hK _ ?_⟩; clear hK K; refine VC.seq ?_; refine vj h (fun x => ⟨[(2, ru a2), (3, .sl false (a3.map encU32)), (5, .ref 1 0), (10, .row 6 0 1 0 x.1.length), (11, ri i_6), (13, .ref 77 0), (18, ri a0.Words), (19, ri i_6), (48, rb x.2)], [(1, .box 56 [.sl false (a1.Fns.map enc_Fn)]), (6, .row 25 1 0 (x.1.map encU32)), (77, .box 162 (enc_Ran r11))], 87, 56, 0⟩) (fun v12 h hk12 => ?_) ?_
    ·rcases Bool.eq_false_or_eq_true (r11.Err != 0) with hb13 | hb13
     ·replace h := cond_yes hb13 h; refine vlG [some 41, some 42, some 43, some 44, some 45, some 46, some 47, some 48] (fun K hK => ?_); push_cast [hb13]; (repeat refine .intro (by omega) ?_); refine hK _ ?_; clear hK K; refine ar h hk12 ?_; exact sl (by push_cast [hb5, hc10i, hb13])
     ·replace h := cond_no hb13 h; refine vlG [some 41, some 42, some 43, some 44, some 45, some 46, some 47, some 48] (fun K hK => ?_); push_cast [hb13]; (repeat refine .intro (by omega) ?_); refine hK _ ?_; clear hK K; refine ar h hk12 ?_; exact sl (by push_cast [hb5, hc10i, hb13])
    ·rintro ⟨l_16, i_17⟩ (h : p_shift_put_J12 i_6 r11 l_16 i_17 = some b4); (try push_cast); unfold p_shift_put_J12 at h; refine vc h (fun hb14 h => ?_) (fun hb14 h => ?_)
     ·refine vs [8, 9] (fun K hK => ?_); push_cast; refine hK _ ?_; clear hK K; refine VC.ret ?_; replace h := ol h hf4; replace h := om h hk3; replace h := Option.some.inj h; subst h; refine endS (so (s' := ⟨[(8, .sl true []), (9, ri 10)], [], 89, 56, 0⟩) (by push_cast [hb5, hc10i, hb14])) ?_; refine endS (Sub.adoptT (k := 8) (e := 25) (sz := 1) rfl) ?_; refine endS (Sub.renT (k := 8) (i' := 0) rfl rfl (Nat.le_of_ble_eq_true rfl) (Nat.le_of_ble_eq_true rfl) rfl) ?_; exact en (by push_cast [hb5, hc10i, hb14])
     ·refine VC.skip ?_; obtain ⟨x15, hx15, h⟩ := po_some h; replace hx15 := idx_some4 hx15; obtain ⟨y16, hy16, h⟩ := pl_some h; have hy16l : y16.length = l_16.length := by rw [hy16, List.length_set]
      refine vl (fun K hK => ?_); push_cast [hx15]; (repeat refine .intro (by omega) ?_); refine hK _ ?_; clear hK K; refine vl (fun K hK => ?_); push_cast; refine hK _ ?_; clear hK K; refine bk h ?_; exact sl (by push_cast [hb5, hc10i, hb14, hy16, hy16l])
  ·refine VC.exit ?_; replace h := ol h hf4; refine am h hk3 ?_; exact sl (by push_cast [hb5])
 ·rintro l_15 (h : p_shift_put_J3 l_15 = some r); (try push_cast); unfold p_shift_put_J3 at h; refine vs [8, 9] (fun K hK => ?_); push_cast; refine hK _ ?_; clear hK K; refine VC.ret ?_; replace h := Option.some.inj h; subst h; refine endS (so (s' := ⟨[(8, .row 6 0 1 0 l_15.length), (9, ri 0)], [(6, .row 25 1 0 (l_15.map encU32))], 57, 56, 0⟩) (by push_cast)) ?_; refine endS (Sub.renT (k := 8) (i' := 0) rfl rfl (Nat.le_of_ble_eq_true rfl) (Nat.le_of_ble_eq_true rfl) rfl) ?_; exact en (by push_cast)
end Go.Proofs.YtcffmheeofjifaaGreat
