/-
  PROVED: the statement InterpSame of the given seat: whatever the program, the environment and the words, drydocklaw07.InterpSame returns true, and what was handed in reads as it did.
  Conditions: none beyond the statement's own.
-/
import Derived.Test.YtkhanhhingicpaaJb3
import Derived.Test.YtkhanhhingicpaaRows
set_option linter.unusedVariables false
set_option linter.unusedSimpArgs false
set_option maxHeartbeats 4000000
set_option maxRecDepth 100000
namespace Go.Proofs.Ytkhanhhingicpaa
open Go Go.RowKit Go.Proofs.Try
noncomputable def p_drydockref03_Own_L2 (a0 : T_Prog) (s_1 : T_Prog) (i_2 : Int) : Option ((T_Prog × Int) ⊕ (T_Prog)) :=
  cond (decide (i_2 < (a0.Fns.length : Int))) (
  po (idx a0.Fns i_2) fun x4 =>
  pg (x4.Code.length * 56 ≤ 140737488355328) <|
  pg ((s_1.Fns.length + 1) * 32 ≤ 140737488355328) <|
  pl (s_1.Fns ++ ([x4])) fun y7 =>
  some (Sum.inl ((T_Prog.mk y7), (IntKind.i64.wrap (i_2 + 1))))) (
  some (Sum.inr s_1))
noncomputable def p_drydockref03_Own_J1 (s_5 : T_Prog) : Option (T_Prog) :=
  some s_5
noncomputable def p_drydockref03_Own (a0 : T_Prog) : Option (T_Prog) :=
  po (
  lpU (fun x => p_drydockref03_Own_L2 a0 x.1 x.2) ((T_Prog.mk []), 0)) (fun x => p_drydockref03_Own_J1 x)
theorem c_drydockref03_Own (a0 : T_Prog) {r : T_Prog} (h : p_drydockref03_Own a0 = some r) : Ctr prog 49 [.agg (enc_Prog a0)] [] (.agg [.row 0 0 2 0 r.Fns.length]) [(0, .row 74 2 0 (r.Fns.map enc_Fn))] := by
 unfold p_drydockref03_Own at h;refine Ctr.ofW tabOk func49 rfl call49 0 _ ntmps49 [.cell 2 64] rfl rfl rfl (fun B => ?_);refine VC.seqF tabOkF [some 1,some 2] [1,2] rfl rfl (fun K hK => ?_);push_cast;(repeat refine .intro (by omega) ?_);refine hK _ ?_;clear hK K;refine VC.seqF tabOkF [some 3] [1,2,3] rfl rfl (fun K hK => ?_);push_cast;(repeat refine .intro (by omega) ?_);refine hK _ ?_;clear hK K;obtain ⟨v1,h,hk1⟩ := po_some h;refine VC.seqJ (X := T_Prog) (fun x => p_drydockref03_Own_J1 x = some r) (fun x => ⟨[(2,.ref 1 0),(3,.ref 2 0)],[(1,.box 64 [.sl true []]),(2,.box 64 [.row 26 0 2 0 x.Fns.length]),(26,.row 74 2 0 (x.Fns.map enc_Fn))],37,32,0⟩) ?_ ?_
 ·refine VC.seqF tabOkF [some 4] [1,2,3,4] rfl rfl (fun K hK => ?_);push_cast;(repeat refine .intro (by omega) ?_);refine hK _ ?_;clear hK K;refine VC.block ?_;refine VC.loopP h (fun x => ⟨[(1,.ref 0 0),(2,.ref 1 0),(3,.ref 2 0),(4,.raw (.int .i64 x.2))],[(0,.box 64 [.sl false (a0.Fns.map enc_Fn)]),(1,.box 64 [.sl true []]),(2,.box 64 [.row 26 0 2 0 x.1.Fns.length]),(26,.row 74 2 0 (x.1.Fns.map enc_Fn))],32,32,0⟩) ?_ ?_
  ·refine Sub.trans (Sub.of (s' := ⟨[(1,.ref 0 0),(2,.ref 1 0),(3,.ref 2 0),(4,.raw (.int .i64 0))],[(0,.box 64 [.sl false (a0.Fns.map enc_Fn)]),(1,.box 64 [.sl true []]),(2,.box 64 [.sl true []])],4,32,0⟩) (by push_cast) (by push_cast) ⟨rfl,rfl,Nat.le_of_ble_eq_true rfl⟩ rfl) ?_;refine Sub.trans (Sub.adopt (b := 2) (j := 0) (e := 74) (sz := 2) rfl rfl) ?_;refine Sub.trans (Sub.renB (b := 2) (j := 0) (i' := 26) rfl rfl rfl (Nat.le_of_ble_eq_true rfl) (Nat.le_of_ble_eq_true rfl) rfl) ?_;refine sof ?_ ?_ rfl rfl
   ·push_cast
   ·push_cast
  rintro ⟨s_1,i_2⟩ b2 h hf2;replace h : p_drydockref03_Own_L2 a0 s_1 i_2 = some b2 := h;(try push_cast);unfold p_drydockref03_Own_L2 at h;refine VC.seq ?_;refine VC.seqF tabOkF [some 5,some 6,some 7,some 8,some 9] [1,2,3,4,9] rfl rfl (fun K hK => ?_);push_cast;(repeat refine .intro (by omega) ?_);refine hK _ ?_;clear hK K;refine VC.cond rfl rfl (fun hc3 => ?_) (fun hc3 => ?_)
  ·have hb3 : (decide (i_2 < (a0.Fns.length : Int))) = true := by simpa using hc3
   replace h := cond_yes hb3 h;refine VC.skip ?_;refine VC.seq ?_;refine VC.block ?_;obtain ⟨x4,hx4,h⟩ := po_some h;obtain ⟨hx41,hx42,hx43,hx44⟩ := idx_some4 hx4;obtain ⟨hg5,h⟩ := pg_some h;obtain ⟨hg6,h⟩ := pg_some h;obtain ⟨y7,hy7,h⟩ := pl_some h;refine VC.lastFD tabOkF hmixO [some 12,some 13,some 14,some 15,some 16,some 17,some 18,some 19,some 20,some 21,some 22,some 23,some 24,some 25,some 26,some 27,some 28,some 29,some 30,none] rfl rfl rfl (fun K hK => ?_);refine runD_cut 8 (fun K2 hK2 => ?_);push_cast [hb3,hx41,hx42,hx43,hx44,hg5,hg6];(repeat refine .intro (by omega) ?_);refine hK2 _ _ _ ?_;clear hK2 K2;simp only [List.drop_succ_cons,List.drop_zero];refine runD_cut 8 (fun K2 hK2 => ?_);push_cast [hb3,hx41,hx42,hx43,hx44,hg5,hg6];(repeat refine .intro (by omega) ?_);refine hK2 _ _ _ ?_;clear hK2 K2;simp only [List.drop_succ_cons,List.drop_zero];push_cast [hb3,hx41,hx42,hx43,hx44,hg5,hg6];(repeat refine .intro (by omega) ?_);refine ⟨rfl,hK _ ?_⟩;clear hK K;refine VC.lastF tabOkF [some 10,some 11,some 4] rfl rfl (fun K hK => ?_);push_cast [hb3,hx41,hx42,hx43,hx44,hg5,hg6];(repeat refine .intro (by omega) ?_);refine hK _ ?_;clear hK K;refine Exists.intro (((T_Prog.mk y7),(IntKind.i64.wrap (i_2 + 1)))) (And.intro (Option.some.inj h).symm ?_);refine Sub.trans (Sub.of (s' := ⟨[(1,.ref 0 0),(2,.ref 1 0),(3,.ref 2 0),(4,.raw (.int .i64 (IntKind.i64.wrap (i_2 + 1))))],[(0,.box 64 [.sl false (a0.Fns.map enc_Fn)]),(1,.box 64 [.sl true []]),(2,.box 64 [.row 26 1 2 0 y7.length]),(26,.row 74 2 1 (y7.map enc_Fn))],60,32,0⟩) (by push_cast [hb3,hy7]) (by push_cast [hb3,hy7]) ⟨rfl,rfl,Nat.le_of_ble_eq_true rfl⟩ rfl) ?_;refine Sub.trans (Sub.renB (b := 2) (j := 0) (i' := 26) rfl rfl rfl (Nat.le_of_ble_eq_true rfl) (Nat.le_of_ble_eq_true rfl) rfl) ?_;refine sof ?_ ?_ rfl rfl
   ·push_cast [hb3,hy7]
   ·push_cast [hb3,hy7]
  ·have hb3 : (decide (i_2 < (a0.Fns.length : Int))) = false := by simpa using hc3
   replace h := cond_no hb3 h;refine VC.exit ?_;replace h := congrArg some (hf2 _ (Option.some.inj h).symm);have hv := Option.some.inj h;rw [← hv] at hk1;refine Exists.intro (s_1) (And.intro hk1 ?_);refine sof ?_ ?_ rfl rfl
   ·push_cast [hb3]
   ·push_cast [hb3]
 ·rintro s_5 h;replace h : p_drydockref03_Own_J1 s_5 = some r := h;(try push_cast);unfold p_drydockref03_Own_J1 at h;refine VC.seqF tabOkF [some 31,none] [2] rfl rfl (fun K hK => ?_);push_cast;(repeat refine .intro (by omega) ?_);refine hK _ ?_;clear hK K;refine VC.ret ?_;have hr := Option.some.inj h;subst hr;refine endS (Sub.of (s' := ⟨[(2,.ref 1 0)],[(1,.box 64 [.row 26 0 2 0 s_5.Fns.length]),(26,.row 74 2 0 (s_5.Fns.map enc_Fn))],39,32,0⟩) (by push_cast) (by push_cast) ⟨rfl,rfl,Nat.le_of_ble_eq_true rfl⟩ rfl) ?_;refine endS (Sub.renB (b := 1) (j := 0) (i' := 0) rfl rfl rfl (Nat.le_of_ble_eq_true rfl) (Nat.le_of_ble_eq_true rfl) rfl) ?_;refine endP (Sub.lo _) (Post.ret ?_ ?_ ?_)
  ·push_cast
  ·push_cast
  ·rfl
noncomputable def p_drydockref05_Own_L2 (a0 : T_Table) (s_1 : T_Table) (i_2 : Int) : Option ((T_Table × Int) ⊕ (T_Table)) :=
  cond (decide (i_2 < (a0.E.length : Int))) (
  po (idx a0.E i_2) fun x4 =>
  pg (x4.V.length * 4 ≤ 140737488355328) <|
  pg ((s_1.E.length + 1) * 32 ≤ 140737488355328) <|
  pl (s_1.E ++ ([x4])) fun y7 =>
  some (Sum.inl ((T_Table.mk s_1.S y7 s_1.Next), (IntKind.i64.wrap (i_2 + 1))))) (
  some (Sum.inr s_1))
noncomputable def p_drydockref05_Own_J1 (s_5 : T_Table) : Option (T_Table) :=
  some s_5
noncomputable def p_drydockref05_Own (a0 : T_Table) : Option (T_Table) :=
  po (
  lpU (fun x => p_drydockref05_Own_L2 a0 x.1 x.2) ((T_Table.mk a0.S [] a0.Next), 0)) (fun x => p_drydockref05_Own_J1 x)
theorem c_drydockref05_Own (a0 : T_Table) {r : T_Table} (h : p_drydockref05_Own a0 = some r) : Ctr prog 16 [.agg (enc_Table a0)] [] (.agg [.raw (.int .i64 r.S.Kind), .raw (.int .i64 r.S.Cap), .raw (.int .i64 r.S.Words), .raw (.int .i64 r.S.Ver), .row 0 0 2 0 r.E.length, .raw (.int .u32 (r.Next.toNat : Int))]) [(0, .row 41 2 0 (r.E.map enc_Entry))] := by
 unfold p_drydockref05_Own at h;refine Ctr.ofW tabOk func16 rfl call16 0 _ ntmps16 [.cell 2 27] rfl rfl rfl (fun B => ?_);refine VC.seqF tabOkF [some 1,some 2] [1,2] rfl rfl (fun K hK => ?_);push_cast;(repeat refine .intro (by omega) ?_);refine hK _ ?_;clear hK K;refine VC.seqF tabOkF [some 5,some 6,some 7,some 8,some 9,some 3,none] [1,2,3] rfl rfl (fun K hK => ?_);push_cast;(repeat refine .intro (by omega) ?_);refine hK _ ?_;clear hK K;obtain ⟨v1,h,hk1⟩ := po_some h;refine VC.seqJ (X := T_Table) (fun x => p_drydockref05_Own_J1 x = some r) (fun x => ⟨[(2,.ref 1 0),(3,.ref 7 0)],[(1,.box 27 [.raw (.int .i64 0),.raw (.int .i64 0),.raw (.int .i64 0),.raw (.int .i64 0),.sl true [],.raw (.int .u32 0)]),(7,.box 27 [.raw (.int .i64 x.S.Kind),.raw (.int .i64 x.S.Cap),.raw (.int .i64 x.S.Words),.raw (.int .i64 x.S.Ver),.row 32 0 2 0 x.E.length,.raw (.int .u32 (x.Next.toNat : Int))]),(32,.row 41 2 0 (x.E.map enc_Entry))],43,37,0⟩) ?_ ?_
 ·refine VC.seqF tabOkF [some 4] [1,2,3,4] rfl rfl (fun K hK => ?_);push_cast;(repeat refine .intro (by omega) ?_);refine hK _ ?_;clear hK K;refine VC.block ?_;refine VC.loopP h (fun x => ⟨[(1,.ref 0 0),(2,.ref 1 0),(3,.ref 7 0),(4,.raw (.int .i64 x.2))],[(0,.box 27 [.raw (.int .i64 a0.S.Kind),.raw (.int .i64 a0.S.Cap),.raw (.int .i64 a0.S.Words),.raw (.int .i64 a0.S.Ver),.sl false (a0.E.map enc_Entry),.raw (.int .u32 (a0.Next.toNat : Int))]),(1,.box 27 [.raw (.int .i64 0),.raw (.int .i64 0),.raw (.int .i64 0),.raw (.int .i64 0),.sl true [],.raw (.int .u32 0)]),(7,.box 27 [.raw (.int .i64 x.1.S.Kind),.raw (.int .i64 x.1.S.Cap),.raw (.int .i64 x.1.S.Words),.raw (.int .i64 x.1.S.Ver),.row 32 0 2 0 x.1.E.length,.raw (.int .u32 (x.1.Next.toNat : Int))]),(32,.row 41 2 0 (x.1.E.map enc_Entry))],38,37,0⟩) ?_ ?_
  ·refine Sub.trans (Sub.of (s' := ⟨[(1,.ref 0 0),(2,.ref 1 0),(3,.ref 7 0),(4,.raw (.int .i64 0))],[(0,.box 27 [.raw (.int .i64 a0.S.Kind),.raw (.int .i64 a0.S.Cap),.raw (.int .i64 a0.S.Words),.raw (.int .i64 a0.S.Ver),.sl false (a0.E.map enc_Entry),.raw (.int .u32 (a0.Next.toNat : Int))]),(1,.box 27 [.raw (.int .i64 0),.raw (.int .i64 0),.raw (.int .i64 0),.raw (.int .i64 0),.sl true [],.raw (.int .u32 0)]),(7,.box 27 [.raw (.int .i64 a0.S.Kind),.raw (.int .i64 a0.S.Cap),.raw (.int .i64 a0.S.Words),.raw (.int .i64 a0.S.Ver),.sl true [],.raw (.int .u32 (a0.Next.toNat : Int))])],10,37,0⟩) (by push_cast) (by push_cast) ⟨rfl,rfl,Nat.le_of_ble_eq_true rfl⟩ rfl) ?_;refine Sub.trans (Sub.adopt (b := 7) (j := 4) (e := 41) (sz := 2) rfl rfl) ?_;refine Sub.trans (Sub.renB (b := 7) (j := 4) (i' := 32) rfl rfl rfl (Nat.le_of_ble_eq_true rfl) (Nat.le_of_ble_eq_true rfl) rfl) ?_;refine sof ?_ ?_ rfl rfl
   ·push_cast
   ·push_cast
  rintro ⟨s_1,i_2⟩ b2 h hf2;replace h : p_drydockref05_Own_L2 a0 s_1 i_2 = some b2 := h;(try push_cast);unfold p_drydockref05_Own_L2 at h;refine VC.seq ?_;refine VC.seqF tabOkF [some 10,some 11,some 12,some 13,some 14] [1,2,3,4,14] rfl rfl (fun K hK => ?_);push_cast;(repeat refine .intro (by omega) ?_);refine hK _ ?_;clear hK K;refine VC.cond rfl rfl (fun hc3 => ?_) (fun hc3 => ?_)
  ·have hb3 : (decide (i_2 < (a0.E.length : Int))) = true := by simpa using hc3
   replace h := cond_yes hb3 h;refine VC.skip ?_;refine VC.seq ?_;refine VC.block ?_;obtain ⟨x4,hx4,h⟩ := po_some h;obtain ⟨hx41,hx42,hx43,hx44⟩ := idx_some4 hx4;obtain ⟨hg5,h⟩ := pg_some h;obtain ⟨hg6,h⟩ := pg_some h;obtain ⟨y7,hy7,h⟩ := pl_some h;refine VC.lastFD tabOkF hmixO [some 17,some 18,some 19,some 20,some 21,some 22,some 23,some 24,some 25,some 26,some 27,some 28,some 29,some 30,some 31,some 32,some 33,some 34,some 35,none] rfl rfl rfl (fun K hK => ?_);refine runD_cut 8 (fun K2 hK2 => ?_);push_cast [hb3,hx41,hx42,hx43,hx44,hg5,hg6];(repeat refine .intro (by omega) ?_);refine hK2 _ _ _ ?_;clear hK2 K2;simp only [List.drop_succ_cons,List.drop_zero];refine runD_cut 8 (fun K2 hK2 => ?_);push_cast [hb3,hx41,hx42,hx43,hx44,hg5,hg6];(repeat refine .intro (by omega) ?_);refine hK2 _ _ _ ?_;clear hK2 K2;simp only [List.drop_succ_cons,List.drop_zero];push_cast [hb3,hx41,hx42,hx43,hx44,hg5,hg6];(repeat refine .intro (by omega) ?_);refine ⟨rfl,hK _ ?_⟩;clear hK K;refine VC.lastF tabOkF [some 15,some 16,some 4] rfl rfl (fun K hK => ?_);push_cast [hb3,hx41,hx42,hx43,hx44,hg5,hg6];(repeat refine .intro (by omega) ?_);refine hK _ ?_;clear hK K;refine Exists.intro (((T_Table.mk s_1.S y7 s_1.Next),(IntKind.i64.wrap (i_2 + 1)))) (And.intro (Option.some.inj h).symm ?_);refine Sub.trans (Sub.of (s' := ⟨[(1,.ref 0 0),(2,.ref 1 0),(3,.ref 7 0),(4,.raw (.int .i64 (IntKind.i64.wrap (i_2 + 1))))],[(0,.box 27 [.raw (.int .i64 a0.S.Kind),.raw (.int .i64 a0.S.Cap),.raw (.int .i64 a0.S.Words),.raw (.int .i64 a0.S.Ver),.sl false (a0.E.map enc_Entry),.raw (.int .u32 (a0.Next.toNat : Int))]),(1,.box 27 [.raw (.int .i64 0),.raw (.int .i64 0),.raw (.int .i64 0),.raw (.int .i64 0),.sl true [],.raw (.int .u32 0)]),(7,.box 27 [.raw (.int .i64 s_1.S.Kind),.raw (.int .i64 s_1.S.Cap),.raw (.int .i64 s_1.S.Words),.raw (.int .i64 s_1.S.Ver),.row 32 1 2 0 y7.length,.raw (.int .u32 (s_1.Next.toNat : Int))]),(32,.row 41 2 1 (y7.map enc_Entry))],66,37,0⟩) (by push_cast [hb3,hy7]) (by push_cast [hb3,hy7]) ⟨rfl,rfl,Nat.le_of_ble_eq_true rfl⟩ rfl) ?_;refine Sub.trans (Sub.renB (b := 7) (j := 4) (i' := 32) rfl rfl rfl (Nat.le_of_ble_eq_true rfl) (Nat.le_of_ble_eq_true rfl) rfl) ?_;refine sof ?_ ?_ rfl rfl
   ·push_cast [hb3,hy7]
   ·push_cast [hb3,hy7]
  ·have hb3 : (decide (i_2 < (a0.E.length : Int))) = false := by simpa using hc3
   replace h := cond_no hb3 h;refine VC.exit ?_;replace h := congrArg some (hf2 _ (Option.some.inj h).symm);have hv := Option.some.inj h;rw [← hv] at hk1;refine Exists.intro (s_1) (And.intro hk1 ?_);refine sof ?_ ?_ rfl rfl
   ·push_cast [hb3]
   ·push_cast [hb3]
 ·rintro s_5 h;replace h : p_drydockref05_Own_J1 s_5 = some r := h;(try push_cast);unfold p_drydockref05_Own_J1 at h;refine VC.seqF tabOkF [some 36,none] [2] rfl rfl (fun K hK => ?_);push_cast;(repeat refine .intro (by omega) ?_);refine hK _ ?_;clear hK K;refine VC.ret ?_;have hr := Option.some.inj h;subst hr;refine endS (Sub.of (s' := ⟨[(2,.ref 1 0)],[(1,.box 27 [.raw (.int .i64 s_5.S.Kind),.raw (.int .i64 s_5.S.Cap),.raw (.int .i64 s_5.S.Words),.raw (.int .i64 s_5.S.Ver),.row 32 0 2 0 s_5.E.length,.raw (.int .u32 (s_5.Next.toNat : Int))]),(32,.row 41 2 0 (s_5.E.map enc_Entry))],45,37,0⟩) (by push_cast) (by push_cast) ⟨rfl,rfl,Nat.le_of_ble_eq_true rfl⟩ rfl) ?_;refine endS (Sub.renB (b := 1) (j := 4) (i' := 0) rfl rfl rfl (Nat.le_of_ble_eq_true rfl) (Nat.le_of_ble_eq_true rfl) rfl) ?_;refine endP (Sub.lo _) (Post.ret ?_ ?_ ?_)
  ·push_cast
  ·push_cast
  ·rfl
noncomputable def p_drydockref05_Each_L2 (a0 : (List T_Table)) (l_1 : (List T_Table)) (i_2 : Int) : Option (((List T_Table) × Int) ⊕ ((List T_Table))) :=
  cond (decide (i_2 < (a0.length : Int))) (
  po (idx a0 i_2) fun x4 =>
  po (p_drydockref05_Own x4) fun r5 =>
  pg ((l_1.length + 1) * 64 ≤ 140737488355328) <|
  pl (l_1 ++ ([r5])) fun y7 =>
  some (Sum.inl (y7, (IntKind.i64.wrap (i_2 + 1))))) (
  some (Sum.inr l_1))
noncomputable def p_drydockref05_Each_J1 (l_5 : (List T_Table)) : Option ((List T_Table)) :=
  some l_5
noncomputable def p_drydockref05_Each (a0 : (List T_Table)) : Option ((List T_Table)) :=
  po (
  lpU (fun x => p_drydockref05_Each_L2 a0 x.1 x.2) ([], 0)) (fun x => p_drydockref05_Each_J1 x)
theorem c_drydockref05_Each (a0 : (List T_Table)) {r : (List T_Table)} (h : p_drydockref05_Each a0 = some r) : Ctr prog 65 [.sl false (a0.map enc_Table)] [] (.row 0 0 6 0 r.length) [(0, .row 27 6 0 (r.map enc_Table))] := by
 unfold p_drydockref05_Each at h;refine Ctr.ofW tabOk func65 rfl call65 0 _ ntmps65 [.tmp 2] rfl rfl rfl (fun B => ?_);refine VC.seqF tabOkF [some 2] [0] rfl rfl (fun K hK => ?_);push_cast;(repeat refine .intro (by omega) ?_);refine hK _ ?_;clear hK K;refine VC.seqF tabOkF [some 3] [0,3] rfl rfl (fun K hK => ?_);push_cast;(repeat refine .intro (by omega) ?_);refine hK _ ?_;clear hK K;obtain ⟨v1,h,hk1⟩ := po_some h;refine VC.seqJ (X := (List T_Table)) (fun x => p_drydockref05_Each_J1 x = some r) (fun x => ⟨[(3,.row 14 0 6 0 x.length)],[(14,.row 27 6 0 (x.map enc_Table))],23,20,0⟩) ?_ ?_
 ·refine VC.seqF tabOkF [some 4] [0,3,4] rfl rfl (fun K hK => ?_);push_cast;(repeat refine .intro (by omega) ?_);refine hK _ ?_;clear hK K;refine VC.block ?_;refine VC.loopP h (fun x => ⟨[(0,.sl false (a0.map enc_Table)),(3,.row 14 0 6 0 x.1.length),(4,.raw (.int .i64 x.2))],[(14,.row 27 6 0 (x.1.map enc_Table))],19,20,0⟩) ?_ ?_
  ·refine Sub.trans (Sub.of (s' := ⟨[(0,.sl false (a0.map enc_Table)),(3,.sl true []),(4,.raw (.int .i64 0))],[],3,20,0⟩) (by push_cast) (by push_cast) ⟨rfl,rfl,Nat.le_of_ble_eq_true rfl⟩ rfl) ?_;refine Sub.trans (Sub.adoptT (k := 3) (e := 27) (sz := 6) rfl) ?_;refine Sub.trans (Sub.renT (k := 3) (i' := 14) rfl rfl (Nat.le_of_ble_eq_true rfl) (Nat.le_of_ble_eq_true rfl) rfl) ?_;refine slo ?_ ?_ rfl rfl
   ·push_cast
   ·push_cast
  rintro ⟨l_1,i_2⟩ b2 h hf2;replace h : p_drydockref05_Each_L2 a0 l_1 i_2 = some b2 := h;(try push_cast);unfold p_drydockref05_Each_L2 at h;refine VC.seq ?_;refine VC.seqF tabOkF [some 5,some 6,some 7,some 8] [0,3,4,8] rfl rfl (fun K hK => ?_);push_cast;(repeat refine .intro (by omega) ?_);refine hK _ ?_;clear hK K;refine VC.cond rfl rfl (fun hc3 => ?_) (fun hc3 => ?_)
  ·have hb3 : (decide (i_2 < (a0.length : Int))) = true := by simpa using hc3
   replace h := cond_yes hb3 h;refine VC.skip ?_;refine VC.seq ?_;refine VC.block ?_;obtain ⟨x4,hx4,h⟩ := po_some h;obtain ⟨hx41,hx42,hx43,hx44⟩ := idx_some4 hx4;obtain ⟨r5,hr5,h⟩ := po_some h;obtain ⟨hg6,h⟩ := pg_some h;obtain ⟨y7,hy7,h⟩ := pl_some h;refine VC.lastF tabOkF [some 11,some 12,some 13,some 14,some 15,some 16,some 17,some 18,some 3] rfl rfl (fun K hK => ?_);push_cast [hb3,hx41,hx42,hx43,hx44,hg6];(repeat refine .intro (by omega) ?_);refine callH (H := []) (Ctr.loH (Ctr.ren (Bij.swp 0 28 Bij.id) (c_drydockref05_Own x4 hr5) (by push_cast [hb3,hx41,hx42,hx43,hx44,hg6]) (by push_cast [hb3,hx41,hx42,hx43,hx44,hg6]))) (by push_cast [hb3,hx41,hx42,hx43,hx44,hg6]) rfl rfl rfl ?_;push_cast [hb3,hx41,hx42,hx43,hx44,hg6];(repeat refine .intro (by omega) ?_);refine hK _ ?_;clear hK K;refine VC.lastF tabOkF [some 9,some 10,some 4] rfl rfl (fun K hK => ?_);push_cast [hb3,hx41,hx42,hx43,hx44,hg6];(repeat refine .intro (by omega) ?_);refine hK _ ?_;clear hK K;refine Exists.intro ((y7,(IntKind.i64.wrap (i_2 + 1)))) (And.intro (Option.some.inj h).symm ?_);refine Sub.trans (Sub.of (s' := ⟨[(0,.sl false (a0.map enc_Table)),(3,.row 14 1 6 0 y7.length),(4,.raw (.int .i64 (IntKind.i64.wrap (i_2 + 1))))],[(14,.row 27 6 1 (y7.map enc_Table))],35,20,0⟩) (by push_cast [hb3,hy7]) (by push_cast [hb3,hy7]) ⟨rfl,rfl,Nat.le_of_ble_eq_true rfl⟩ rfl) ?_;refine Sub.trans (Sub.renT (k := 3) (i' := 14) rfl rfl (Nat.le_of_ble_eq_true rfl) (Nat.le_of_ble_eq_true rfl) rfl) ?_;refine slo ?_ ?_ rfl rfl
   ·push_cast [hb3,hy7]
   ·push_cast [hb3,hy7]
  ·have hb3 : (decide (i_2 < (a0.length : Int))) = false := by simpa using hc3
   replace h := cond_no hb3 h;refine VC.exit ?_;replace h := congrArg some (hf2 _ (Option.some.inj h).symm);have hv := Option.some.inj h;rw [← hv] at hk1;refine Exists.intro (l_1) (And.intro hk1 ?_);refine slo ?_ ?_ rfl rfl
   ·push_cast [hb3]
   ·push_cast [hb3]
 ·rintro l_5 h;replace h : p_drydockref05_Each_J1 l_5 = some r := h;(try push_cast);unfold p_drydockref05_Each_J1 at h;refine VC.seqF tabOkF [some 19,some 2] [2] rfl rfl (fun K hK => ?_);push_cast;(repeat refine .intro (by omega) ?_);refine hK _ ?_;clear hK K;refine VC.ret ?_;have hr := Option.some.inj h;subst hr;refine endS (Sub.of (s' := ⟨[(2,.row 14 0 6 0 l_5.length)],[(14,.row 27 6 0 (l_5.map enc_Table))],25,20,0⟩) (by push_cast) (by push_cast) ⟨rfl,rfl,Nat.le_of_ble_eq_true rfl⟩ rfl) ?_;refine endS (Sub.renT (k := 2) (i' := 0) rfl rfl (Nat.le_of_ble_eq_true rfl) (Nat.le_of_ble_eq_true rfl) rfl) ?_;refine endP (Sub.lo _) (Post.ret ?_ ?_ ?_)
  ·push_cast
  ·push_cast
  ·rfl
noncomputable def p_drydockref06_Own (a0 : T_Env) : Option (T_Env) :=
  po (p_drydockref05_Each a0.T) fun r1 =>
  some (T_Env.mk a0.Ctx r1 a0.Seed)
theorem c_drydockref06_Own (a0 : T_Env) {r : T_Env} (h : p_drydockref06_Own a0 = some r) : Ctr prog 34 [.agg (enc_Env a0)] [] (.agg [.raw (.int .u32 (r.Ctx.a0.toNat : Int)), .raw (.int .u32 (r.Ctx.a1.toNat : Int)), .raw (.int .u32 (r.Ctx.a2.toNat : Int)), .raw (.int .u32 (r.Ctx.a3.toNat : Int)), .row 0 0 6 0 r.T.length, .raw (.int .u32 (r.Seed.toNat : Int))]) [(0, .row 27 6 0 (r.T.map enc_Table))] := by
 unfold p_drydockref06_Own at h;refine Ctr.ofW tabOk func34 rfl call34 0 _ ntmps34 [.cell 2 49] rfl rfl rfl (fun B => ?_);refine VC.seqF tabOkF [some 1,some 2] [1,2] rfl rfl (fun K hK => ?_);push_cast;(repeat refine .intro (by omega) ?_);refine hK _ ?_;clear hK K;refine VC.seqF tabOkF [some 4,some 3,none] [1,2,3] rfl rfl (fun K hK => ?_);push_cast;(repeat refine .intro (by omega) ?_);refine hK _ ?_;clear hK K;obtain ⟨r1,hr1,h⟩ := po_some h;refine VC.seqF tabOkF [some 5,some 6,some 7,some 8,none] [2,3] rfl rfl (fun K hK => ?_);push_cast;(repeat refine .intro (by omega) ?_);refine callH (H := []) (Ctr.loH (Ctr.ren (Bij.swp 0 7 Bij.id) (c_drydockref05_Each a0.T hr1) (by push_cast) (by push_cast))) (by push_cast) rfl rfl rfl ?_;push_cast;(repeat refine .intro (by omega) ?_);refine hK _ ?_;clear hK K;refine VC.sub (s' := ⟨[(2,.ref 1 0),(3,.ref 3 0)],[(1,.box 49 [.raw (.int .u32 0),.raw (.int .u32 0),.raw (.int .u32 0),.raw (.int .u32 0),.sl true [],.raw (.int .u32 0)]),(3,.box 49 [.raw (.int .u32 (a0.Ctx.a0.toNat : Int)),.raw (.int .u32 (a0.Ctx.a1.toNat : Int)),.raw (.int .u32 (a0.Ctx.a2.toNat : Int)),.raw (.int .u32 (a0.Ctx.a3.toNat : Int)),.row 7 0 6 0 r1.length,.raw (.int .u32 (a0.Seed.toNat : Int))]),(7,.row 27 6 0 (r1.map enc_Table))],10,10,0⟩) (sof ?_ ?_ rfl rfl) ?_
 ·push_cast
 ·push_cast
 refine VC.seqF tabOkF [some 9,none] [2] rfl rfl (fun K hK => ?_);push_cast;(repeat refine .intro (by omega) ?_);refine hK _ ?_;clear hK K;refine VC.ret ?_;have hr := Option.some.inj h;subst hr;refine endS (Sub.of (s' := ⟨[(2,.ref 1 0)],[(1,.box 49 [.raw (.int .u32 (a0.Ctx.a0.toNat : Int)),.raw (.int .u32 (a0.Ctx.a1.toNat : Int)),.raw (.int .u32 (a0.Ctx.a2.toNat : Int)),.raw (.int .u32 (a0.Ctx.a3.toNat : Int)),.row 7 0 6 0 r1.length,.raw (.int .u32 (a0.Seed.toNat : Int))]),(7,.row 27 6 0 (r1.map enc_Table))],12,10,0⟩) (by push_cast) (by push_cast) ⟨rfl,rfl,Nat.le_of_ble_eq_true rfl⟩ rfl) ?_;refine endS (Sub.renB (b := 1) (j := 4) (i' := 0) rfl rfl rfl (Nat.le_of_ble_eq_true rfl) (Nat.le_of_ble_eq_true rfl) rfl) ?_;refine endP (Sub.lo _) (Post.ret ?_ ?_ ?_)
 ·push_cast
 ·push_cast
 ·rfl
noncomputable def p_drydocklaw07_InterpSame_L16 (a0 : T_Prog) (i_4 : Int) (i_5 : Int) : Option ((Int) ⊕ ((Unit) ⊕ ((Int) ⊕ ((Unit) ⊕ (Bool))))) :=
  po (idx a0.Fns i_4) fun x17 =>
  cond (decide (i_5 < (x17.Code.length : Int))) (
  po (idx x17.Code i_5) fun x19 =>
  cond (x19.Op == 2) (
  some (Sum.inr (Sum.inr (Sum.inr (Sum.inr true))))) (
  some (Sum.inl (IntKind.i64.wrap (i_5 + 1))))) (
  some (Sum.inr (Sum.inl ())))
noncomputable def p_drydocklaw07_InterpSame_J15 (i_4 : Int) : Option ((Int) ⊕ ((Unit) ⊕ (Bool))) :=
  some (Sum.inl (IntKind.i64.wrap (i_4 + 1)))
noncomputable def p_drydocklaw07_InterpSame_L13 (a0 : T_Prog) (i_4 : Int) : Option ((Int) ⊕ ((Unit) ⊕ (Bool))) :=
  cond (decide (i_4 < (a0.Fns.length : Int))) (
  pm (
  lpU (fun x => p_drydocklaw07_InterpSame_L16 a0 i_4 x) 0) (fun x => p_drydocklaw07_InterpSame_J15 i_4)) (
  some (Sum.inr (Sum.inl ())))
noncomputable def p_drydocklaw07_InterpSame_J12 (a0 : T_Prog) (a1 : T_Env) (a2 : (A4 UInt32)) (r6 : T_Ran) : Option (Bool) :=
  po (p_interp_Run a0 (T_Env.mk a2 a1.T a1.Seed) 500) fun r21 =>
  po (p_drydockref07_Same r6 (T_Ran.mk r21.Ret (T_Env.mk r6.E.Ctx r21.E.T r21.E.Seed) r21.Used r21.Err)) fun r22 =>
  some r22
noncomputable def p_drydocklaw07_InterpSame_J3 (a0 : T_Prog) (a1 : T_Env) (a2 : (A4 UInt32)) (r1 : Bool) (i_1 : Bool) : Option (Bool) :=
  cond i_1 (
  some r1) (
  po (p_interp_Run a0 a1 500) fun r6 =>
  po (p_drydockref03_Own a0) fun r7 =>
  po (p_drydockref06_Own a1) fun r8 =>
  po (p_interp_Run r7 r8 500) fun r9 =>
  po (p_drydockref07_Same r6 r9) fun r10 =>
  cond (!r10) (
  some false) (
  pm (
  lpU (fun x => p_drydocklaw07_InterpSame_L13 a0 x) 0) (fun x => p_drydocklaw07_InterpSame_J12 a0 a1 a2 r6)))
noncomputable def p_drydocklaw07_InterpSame (a0 : T_Prog) (a1 : T_Env) (a2 : (A4 UInt32)) : Option (Bool) :=
  po (p_drydocklaw07_awake) fun r1 =>
  po (p_drydocklaw07_few a0 a1) fun r2 =>
  po (
  cond r1 (
  some (!r2)) (
  some true)) (fun x => p_drydocklaw07_InterpSame_J3 a0 a1 a2 r1 x)
theorem c_drydocklaw07_InterpSame (a0 : T_Prog) (a1 : T_Env) (a2 : (A4 UInt32)) {r : Bool} (h : p_drydocklaw07_InterpSame a0 a1 a2 = some r) : Ctr prog 12 [.agg (enc_Prog a0), .agg (enc_Env a1), .agg ((encA4 encU32) a2)] [] (.raw (.bool r)) [] := by
 unfold p_drydocklaw07_InterpSame at h;refine Ctr.ofW tabOk func12 rfl call12 0 _ ntmps12 [.tmp 6] rfl rfl rfl (fun B => ?_);refine VC.seqF tabOkF [some 3,some 4,some 5,some 6] [3,4,5] rfl rfl (fun K hK => ?_);push_cast;(repeat refine .intro (by omega) ?_);refine hK _ ?_;clear hK K;obtain ⟨r1,hr1,h⟩ := po_some h;refine VC.seqF tabOkF [some 15,some 7] [3,4,5,7] rfl rfl (fun K hK => ?_);push_cast;(repeat refine .intro (by omega) ?_);refine callP (Ctr.lo (c_drydocklaw07_awake  hr1)) rfl ?_;push_cast;(repeat refine .intro (by omega) ?_);refine hK _ ?_;clear hK K;obtain ⟨r2,hr2,h⟩ := po_some h;refine VC.seqF tabOkF [some 16,some 17,some 18,some 8] [3,4,5,7,8] rfl rfl (fun K hK => ?_);push_cast;(repeat refine .intro (by omega) ?_);refine callP (Ctr.lo (c_drydocklaw07_few a0 a1 hr2)) rfl ?_;push_cast;(repeat refine .intro (by omega) ?_);refine hK _ ?_;clear hK K;refine VC.seq ?_;obtain ⟨v3,h,hk3⟩ := po_some h;refine VC.seqJ (X := Bool) (fun x => p_drydocklaw07_InterpSame_J3 a0 a1 a2 r1 x = some r) (fun x => ⟨[(3,.ref 0 0),(4,.ref 1 0),(5,.ref 2 0),(7,.raw (.bool r1)),(24,.raw (.bool x))],[(0,.box 64 [.sl false (a0.Fns.map enc_Fn)]),(1,.box 49 [.raw (.int .u32 (a1.Ctx.a0.toNat : Int)),.raw (.int .u32 (a1.Ctx.a1.toNat : Int)),.raw (.int .u32 (a1.Ctx.a2.toNat : Int)),.raw (.int .u32 (a1.Ctx.a3.toNat : Int)),.sl false (a1.T.map enc_Table),.raw (.int .u32 (a1.Seed.toNat : Int))]),(2,.box 47 [.raw (.int .u32 (a2.a0.toNat : Int)),.raw (.int .u32 (a2.a1.toNat : Int)),.raw (.int .u32 (a2.a2.toNat : Int)),.raw (.int .u32 (a2.a3.toNat : Int))])],16,81,0⟩) ?_ ?_
 ·rcases Bool.eq_false_or_eq_true r1 with hb4 | hb4
  ·replace h := cond_yes hb4 h;refine VC.lastF tabOkF [some 19,some 20,some 21,some 22,some 23,some 24] rfl rfl (fun K hK => ?_);push_cast [hb4];(repeat refine .intro (by omega) ?_);refine hK _ ?_;clear hK K;have hv := Option.some.inj h;rw [← hv] at hk3;refine Exists.intro ((!r2)) (And.intro hk3 ?_);refine slo ?_ ?_ rfl rfl
   ·push_cast [hb4]
   ·push_cast [hb4]
  ·replace h := cond_no hb4 h;refine VC.lastF tabOkF [some 19,some 20,some 21,some 22,some 23,some 24] rfl rfl (fun K hK => ?_);push_cast [hb4];(repeat refine .intro (by omega) ?_);refine hK _ ?_;clear hK K;have hv := Option.some.inj h;rw [← hv] at hk3;refine Exists.intro (true) (And.intro hk3 ?_);refine slo ?_ ?_ rfl rfl
   ·push_cast [hb4]
   ·push_cast [hb4]
 ·rintro i_1 h;replace h : p_drydocklaw07_InterpSame_J3 a0 a1 a2 r1 i_1 = some r := h;(try push_cast);unfold p_drydocklaw07_InterpSame_J3 at h;refine VC.cond rfl rfl (fun hc5 => ?_) (fun hc5 => ?_)
  ·have hb5 : i_1 = true := by simpa using hc5
   replace h := cond_yes hb5 h;refine VC.seqF tabOkF [some 25,some 6] [6] rfl rfl (fun K hK => ?_);push_cast [hb5];(repeat refine .intro (by omega) ?_);refine hK _ ?_;clear hK K;refine VC.ret ?_;have hr := Option.some.inj h;subst hr;refine endP (Sub.lo _) (Post.ret ?_ ?_ ?_)
   ·push_cast [hb5]
   ·push_cast [hb5]
   ·rfl
  ·have hb5 : i_1 = false := by simpa using hc5
   replace h := cond_no hb5 h;refine VC.skip ?_;obtain ⟨r6,hr6,h⟩ := po_some h;refine VC.seqF tabOkF [some 26,some 27,some 28,some 9,none] [3,4,5,9] rfl rfl (fun K hK => ?_);push_cast [hb5];(repeat refine .intro (by omega) ?_);refine callP (Ctr.lo (c_interp_Run a0 a1 500 hr6)) rfl ?_;push_cast [hb5];(repeat refine .intro (by omega) ?_);refine hK _ ?_;clear hK K;obtain ⟨r7,hr7,h⟩ := po_some h;obtain ⟨r8,hr8,h⟩ := po_some h;obtain ⟨r9,hr9,h⟩ := po_some h;refine VC.seqFD tabOkF hmixO [some 29,some 30,some 31,some 32,some 33,some 10,none] [3,4,5,9,10] rfl rfl rfl (fun K hK => ?_);push_cast [hb5];(repeat refine .intro (by omega) ?_);refine callHD (H := []) (Ctr.loH (Ctr.ren (Bij.swp 0 22 Bij.id) (c_drydockref03_Own a0 hr7) (by push_cast [hb5]) (by push_cast [hb5]))) (by push_cast [hb5]) rfl rfl rfl ?_;push_cast [hb5];(repeat refine .intro (by omega) ?_);refine callHD (H := []) (Ctr.loH (Ctr.ren (Bij.swp 0 24 Bij.id) (c_drydockref06_Own a1 hr8) (by push_cast [hb5]) (by push_cast [hb5]))) (by push_cast [hb5]) rfl rfl rfl ?_;push_cast [hb5];(repeat refine .intro (by omega) ?_);refine callHD (H := [(22,.row 74 2 0 (r7.Fns.map enc_Fn)),(24,.row 27 6 0 (r8.T.map enc_Table))]) (Ctr.consume (args0 := [.agg [.sl false (r7.Fns.map enc_Fn)],.agg [.raw (.int .u32 (r8.Ctx.a0.toNat : Int)),.raw (.int .u32 (r8.Ctx.a1.toNat : Int)),.raw (.int .u32 (r8.Ctx.a2.toNat : Int)),.raw (.int .u32 (r8.Ctx.a3.toNat : Int)),.sl false (r8.T.map enc_Table),.raw (.int .u32 (r8.Seed.toNat : Int))],.raw (.int .i64 500)]) (c_interp_Run r7 r8 500 hr9) (by push_cast [hb5]) rfl) (by push_cast [hb5]) rfl rfl rfl ?_;push_cast [hb5];(repeat refine .intro (by omega) ?_);refine ⟨rfl,hK _ ?_⟩;clear hK K;refine VC.sub (s' := ⟨[(3,.ref 0 0),(4,.ref 1 0),(5,.ref 2 0),(9,.ref 19 0),(10,.ref 26 0)],[(0,.box 64 [.sl false (a0.Fns.map enc_Fn)]),(1,.box 49 [.raw (.int .u32 (a1.Ctx.a0.toNat : Int)),.raw (.int .u32 (a1.Ctx.a1.toNat : Int)),.raw (.int .u32 (a1.Ctx.a2.toNat : Int)),.raw (.int .u32 (a1.Ctx.a3.toNat : Int)),.sl false (a1.T.map enc_Table),.raw (.int .u32 (a1.Seed.toNat : Int))]),(2,.box 47 [.raw (.int .u32 (a2.a0.toNat : Int)),.raw (.int .u32 (a2.a1.toNat : Int)),.raw (.int .u32 (a2.a2.toNat : Int)),.raw (.int .u32 (a2.a3.toNat : Int))]),(19,.box 67 [.raw (.int .u32 (r6.Ret.toNat : Int)),.raw (.int .u32 (r6.E.Ctx.a0.toNat : Int)),.raw (.int .u32 (r6.E.Ctx.a1.toNat : Int)),.raw (.int .u32 (r6.E.Ctx.a2.toNat : Int)),.raw (.int .u32 (r6.E.Ctx.a3.toNat : Int)),.sl false (r6.E.T.map enc_Table),.raw (.int .u32 (r6.E.Seed.toNat : Int)),.raw (.int .i64 r6.Used),.raw (.int .i64 r6.Err)]),(26,.box 67 [.raw (.int .u32 (r9.Ret.toNat : Int)),.raw (.int .u32 (r9.E.Ctx.a0.toNat : Int)),.raw (.int .u32 (r9.E.Ctx.a1.toNat : Int)),.raw (.int .u32 (r9.E.Ctx.a2.toNat : Int)),.raw (.int .u32 (r9.E.Ctx.a3.toNat : Int)),.sl false (r9.E.T.map enc_Table),.raw (.int .u32 (r9.E.Seed.toNat : Int)),.raw (.int .i64 r9.Used),.raw (.int .i64 r9.Err)])],28,81,0⟩) (sof ?_ ?_ rfl rfl) ?_
   ·push_cast [hb5]
   ·push_cast [hb5]
   refine VC.seq ?_;obtain ⟨r10,hr10,h⟩ := po_some h;refine VC.seqF tabOkF [some 34,some 35,some 36,some 37] [3,4,5,9,37] rfl rfl (fun K hK => ?_);push_cast [hb5];(repeat refine .intro (by omega) ?_);refine callP (Ctr.lo (c_drydockref07_Same r6 r9 hr10)) rfl ?_;push_cast [hb5];(repeat refine .intro (by omega) ?_);refine hK _ ?_;clear hK K;refine VC.cond rfl rfl (fun hc11 => ?_) (fun hc11 => ?_)
   ·have hb11 : (!r10) = true := by simpa using hc11
    replace h := cond_yes hb11 h;refine VC.seqF tabOkF [some 6] [6] rfl rfl (fun K hK => ?_);push_cast [hb5,hb11];(repeat refine .intro (by omega) ?_);refine hK _ ?_;clear hK K;refine VC.ret ?_;have hr := Option.some.inj h;subst hr;refine endP (Sub.lo _) (Post.ret ?_ ?_ ?_)
    ·push_cast [hb5,hb11]
    ·push_cast [hb5,hb11]
    ·rfl
   ·have hb11 : (!r10) = false := by simpa using hc11
    replace h := cond_no hb11 h;refine VC.skip ?_;obtain ⟨v12,h,hk12⟩ := pm_some h;refine VC.seqJ (X := Unit) (fun x => p_drydocklaw07_InterpSame_J12 a0 a1 a2 r6 = some r) (fun x => ⟨[(3,.ref 0 0),(4,.ref 1 0),(5,.ref 2 0),(9,.ref 19 0)],[(0,.box 64 [.sl false (a0.Fns.map enc_Fn)]),(1,.box 49 [.raw (.int .u32 (a1.Ctx.a0.toNat : Int)),.raw (.int .u32 (a1.Ctx.a1.toNat : Int)),.raw (.int .u32 (a1.Ctx.a2.toNat : Int)),.raw (.int .u32 (a1.Ctx.a3.toNat : Int)),.sl false (a1.T.map enc_Table),.raw (.int .u32 (a1.Seed.toNat : Int))]),(2,.box 47 [.raw (.int .u32 (a2.a0.toNat : Int)),.raw (.int .u32 (a2.a1.toNat : Int)),.raw (.int .u32 (a2.a2.toNat : Int)),.raw (.int .u32 (a2.a3.toNat : Int))]),(19,.box 67 [.raw (.int .u32 (r6.Ret.toNat : Int)),.raw (.int .u32 (r6.E.Ctx.a0.toNat : Int)),.raw (.int .u32 (r6.E.Ctx.a1.toNat : Int)),.raw (.int .u32 (r6.E.Ctx.a2.toNat : Int)),.raw (.int .u32 (r6.E.Ctx.a3.toNat : Int)),.sl false (r6.E.T.map enc_Table),.raw (.int .u32 (r6.E.Seed.toNat : Int)),.raw (.int .i64 r6.Used),.raw (.int .i64 r6.Err)])],79,81,0⟩) ?_ ?_
    ·refine VC.seqF tabOkF [some 11] [3,4,5,9,11] rfl rfl (fun K hK => ?_);push_cast [hb5,hb11];(repeat refine .intro (by omega) ?_);refine hK _ ?_;clear hK K;refine VC.block ?_;refine VC.loopP h (fun x => ⟨[(3,.ref 0 0),(4,.ref 1 0),(5,.ref 2 0),(9,.ref 19 0),(11,.raw (.int .i64 x))],[(0,.box 64 [.sl false (a0.Fns.map enc_Fn)]),(1,.box 49 [.raw (.int .u32 (a1.Ctx.a0.toNat : Int)),.raw (.int .u32 (a1.Ctx.a1.toNat : Int)),.raw (.int .u32 (a1.Ctx.a2.toNat : Int)),.raw (.int .u32 (a1.Ctx.a3.toNat : Int)),.sl false (a1.T.map enc_Table),.raw (.int .u32 (a1.Seed.toNat : Int))]),(2,.box 47 [.raw (.int .u32 (a2.a0.toNat : Int)),.raw (.int .u32 (a2.a1.toNat : Int)),.raw (.int .u32 (a2.a2.toNat : Int)),.raw (.int .u32 (a2.a3.toNat : Int))]),(19,.box 67 [.raw (.int .u32 (r6.Ret.toNat : Int)),.raw (.int .u32 (r6.E.Ctx.a0.toNat : Int)),.raw (.int .u32 (r6.E.Ctx.a1.toNat : Int)),.raw (.int .u32 (r6.E.Ctx.a2.toNat : Int)),.raw (.int .u32 (r6.E.Ctx.a3.toNat : Int)),.sl false (r6.E.T.map enc_Table),.raw (.int .u32 (r6.E.Seed.toNat : Int)),.raw (.int .i64 r6.Used),.raw (.int .i64 r6.Err)])],74,81,0⟩) ?_ ?_
     ·refine slo ?_ ?_ rfl rfl
      ·push_cast [hb5,hb11]
      ·push_cast [hb5,hb11]
     rintro i_4 b13 h hf13;replace h : p_drydocklaw07_InterpSame_L13 a0 i_4 = some b13 := h;(try push_cast);unfold p_drydocklaw07_InterpSame_L13 at h;refine VC.seq ?_;refine VC.seqF tabOkF [some 38,some 39,some 40,some 41,some 42] [3,4,5,9,11,42] rfl rfl (fun K hK => ?_);push_cast [hb5,hb11];(repeat refine .intro (by omega) ?_);refine hK _ ?_;clear hK K;refine VC.cond rfl rfl (fun hc14 => ?_) (fun hc14 => ?_)
     ·have hb14 : (decide (i_4 < (a0.Fns.length : Int))) = true := by simpa using hc14
      replace h := cond_yes hb14 h;refine VC.skip ?_;obtain ⟨v15,h,hk15⟩ := pm_some h;refine VC.seqJ (X := Unit) (fun x => p_drydocklaw07_InterpSame_J15 i_4 = some b13) (fun x => ⟨[(3,.ref 0 0),(4,.ref 1 0),(5,.ref 2 0),(9,.ref 19 0),(11,.raw (.int .i64 i_4))],[(0,.box 64 [.sl false (a0.Fns.map enc_Fn)]),(1,.box 49 [.raw (.int .u32 (a1.Ctx.a0.toNat : Int)),.raw (.int .u32 (a1.Ctx.a1.toNat : Int)),.raw (.int .u32 (a1.Ctx.a2.toNat : Int)),.raw (.int .u32 (a1.Ctx.a3.toNat : Int)),.sl false (a1.T.map enc_Table),.raw (.int .u32 (a1.Seed.toNat : Int))]),(2,.box 47 [.raw (.int .u32 (a2.a0.toNat : Int)),.raw (.int .u32 (a2.a1.toNat : Int)),.raw (.int .u32 (a2.a2.toNat : Int)),.raw (.int .u32 (a2.a3.toNat : Int))]),(19,.box 67 [.raw (.int .u32 (r6.Ret.toNat : Int)),.raw (.int .u32 (r6.E.Ctx.a0.toNat : Int)),.raw (.int .u32 (r6.E.Ctx.a1.toNat : Int)),.raw (.int .u32 (r6.E.Ctx.a2.toNat : Int)),.raw (.int .u32 (r6.E.Ctx.a3.toNat : Int)),.sl false (r6.E.T.map enc_Table),.raw (.int .u32 (r6.E.Seed.toNat : Int)),.raw (.int .i64 r6.Used),.raw (.int .i64 r6.Err)])],112,81,0⟩) ?_ ?_
      ·refine VC.block ?_;refine VC.seqF tabOkF [some 12] [3,4,5,9,11,12] rfl rfl (fun K hK => ?_);push_cast [hb5,hb11,hb14];(repeat refine .intro (by omega) ?_);refine hK _ ?_;clear hK K;refine VC.block ?_;refine VC.loopP h (fun x => ⟨[(3,.ref 0 0),(4,.ref 1 0),(5,.ref 2 0),(9,.ref 19 0),(11,.raw (.int .i64 i_4)),(12,.raw (.int .i64 x))],[(0,.box 64 [.sl false (a0.Fns.map enc_Fn)]),(1,.box 49 [.raw (.int .u32 (a1.Ctx.a0.toNat : Int)),.raw (.int .u32 (a1.Ctx.a1.toNat : Int)),.raw (.int .u32 (a1.Ctx.a2.toNat : Int)),.raw (.int .u32 (a1.Ctx.a3.toNat : Int)),.sl false (a1.T.map enc_Table),.raw (.int .u32 (a1.Seed.toNat : Int))]),(2,.box 47 [.raw (.int .u32 (a2.a0.toNat : Int)),.raw (.int .u32 (a2.a1.toNat : Int)),.raw (.int .u32 (a2.a2.toNat : Int)),.raw (.int .u32 (a2.a3.toNat : Int))]),(19,.box 67 [.raw (.int .u32 (r6.Ret.toNat : Int)),.raw (.int .u32 (r6.E.Ctx.a0.toNat : Int)),.raw (.int .u32 (r6.E.Ctx.a1.toNat : Int)),.raw (.int .u32 (r6.E.Ctx.a2.toNat : Int)),.raw (.int .u32 (r6.E.Ctx.a3.toNat : Int)),.sl false (r6.E.T.map enc_Table),.raw (.int .u32 (r6.E.Seed.toNat : Int)),.raw (.int .i64 r6.Used),.raw (.int .i64 r6.Err)])],103,81,0⟩) ?_ ?_
       ·refine slo ?_ ?_ rfl rfl
        ·push_cast [hb5,hb11,hb14]
        ·push_cast [hb5,hb11,hb14]
       rintro i_5 b16 h hf16;replace h : p_drydocklaw07_InterpSame_L16 a0 i_4 i_5 = some b16 := h;(try push_cast);unfold p_drydocklaw07_InterpSame_L16 at h;refine VC.seq ?_;obtain ⟨x17,hx17,h⟩ := po_some h;obtain ⟨hx171,hx172,hx173,hx174⟩ := idx_some4 hx17;refine VC.seqF tabOkF [some 45,some 46,some 47,some 48,some 49,some 50,some 51,some 52,some 53] [3,4,5,9,11,12,53] rfl rfl (fun K hK => ?_);push_cast [hb5,hb11,hb14,hx171,hx172,hx173,hx174];(repeat refine .intro (by omega) ?_);refine hK _ ?_;clear hK K;refine VC.cond rfl rfl (fun hc18 => ?_) (fun hc18 => ?_)
       ·have hb18 : (decide (i_5 < (x17.Code.length : Int))) = true := by simpa using hc18
        replace h := cond_yes hb18 h;refine VC.skip ?_;refine VC.seq ?_;refine VC.block ?_;obtain ⟨x19,hx19,h⟩ := po_some h;obtain ⟨hx191,hx192,hx193,hx194⟩ := idx_some4 hx19;refine VC.seqF tabOkF [some 56,some 57,some 58,some 59,some 60,some 61,some 62,some 63,some 64,some 65,some 66] [3,4,5,9,11,12,66] rfl rfl (fun K hK => ?_);refine runOps_cut 8 (fun K2 hK2 => ?_);push_cast [hb5,hb11,hb14,hx171,hx172,hx173,hx174,hb18,hx191,hx192,hx193,hx194];(repeat refine .intro (by omega) ?_);refine hK2 _ _ ?_;clear hK2 K2;simp only [List.drop_succ_cons,List.drop_zero];push_cast [hb5,hb11,hb14,hx171,hx172,hx173,hx174,hb18,hx191,hx192,hx193,hx194];(repeat refine .intro (by omega) ?_);refine hK _ ?_;clear hK K;refine VC.cond rfl rfl (fun hc20 => ?_) (fun hc20 => ?_)
        ·have hb20 : (x19.Op == 2) = true := by simpa using hc20
         replace h := cond_yes hb20 h;refine VC.seqF tabOkF [some 6] [6] rfl rfl (fun K hK => ?_);push_cast [hb5,hb11,hb14,hx171,hx172,hx173,hx174,hb18,hx191,hx192,hx193,hx194,hb20];(repeat refine .intro (by omega) ?_);refine hK _ ?_;clear hK K;refine VC.ret ?_;replace h := congrArg some (hf16 _ (Option.some.inj h).symm);have hv := Option.some.inj h;rw [← hv] at hk15;replace h : some (Sum.inr (Sum.inr true)) = some b13 := hk15;replace h := congrArg some (hf13 _ (Option.some.inj h).symm);have hv := Option.some.inj h;rw [← hv] at hk12;replace h : some true = some r := hk12;have hr := Option.some.inj h;subst hr;refine endP (Sub.lo _) (Post.ret ?_ ?_ ?_)
         ·push_cast [hb5,hb11,hb14,hb18,hb20]
         ·push_cast [hb5,hb11,hb14,hb18,hb20]
         ·rfl
        ·have hb20 : (x19.Op == 2) = false := by simpa using hc20
         replace h := cond_no hb20 h;refine VC.skip ?_;refine VC.lastF tabOkF [some 54,some 55,some 12] rfl rfl (fun K hK => ?_);push_cast [hb5,hb11,hb14,hx171,hx172,hx173,hx174,hb18,hx191,hx192,hx193,hx194,hb20];(repeat refine .intro (by omega) ?_);refine hK _ ?_;clear hK K;refine Exists.intro ((IntKind.i64.wrap (i_5 + 1))) (And.intro (Option.some.inj h).symm ?_);refine slo ?_ ?_ rfl rfl
         ·push_cast [hb5,hb11,hb14,hb18,hb20]
         ·push_cast [hb5,hb11,hb14,hb18,hb20]
       ·have hb18 : (decide (i_5 < (x17.Code.length : Int))) = false := by simpa using hc18
        replace h := cond_no hb18 h;refine VC.exit ?_;replace h := congrArg some (hf16 _ (Option.some.inj h).symm);have hv := Option.some.inj h;rw [← hv] at hk15;refine Exists.intro (()) (And.intro hk15 ?_);refine slo ?_ ?_ rfl rfl
        ·push_cast [hb5,hb11,hb14,hb18]
        ·push_cast [hb5,hb11,hb14,hb18]
      ·rintro ⟨⟩ h;replace h : p_drydocklaw07_InterpSame_J15 i_4 = some b13 := h;(try push_cast);unfold p_drydocklaw07_InterpSame_J15 at h;refine VC.lastF tabOkF [some 43,some 44,some 11] rfl rfl (fun K hK => ?_);push_cast [hb5,hb11,hb14];(repeat refine .intro (by omega) ?_);refine hK _ ?_;clear hK K;refine Exists.intro ((IntKind.i64.wrap (i_4 + 1))) (And.intro (Option.some.inj h).symm ?_);refine slo ?_ ?_ rfl rfl
       ·push_cast [hb5,hb11,hb14]
       ·push_cast [hb5,hb11,hb14]
     ·have hb14 : (decide (i_4 < (a0.Fns.length : Int))) = false := by simpa using hc14
      replace h := cond_no hb14 h;refine VC.exit ?_;replace h := congrArg some (hf13 _ (Option.some.inj h).symm);have hv := Option.some.inj h;rw [← hv] at hk12;refine Exists.intro (()) (And.intro hk12 ?_);refine slo ?_ ?_ rfl rfl
      ·push_cast [hb5,hb11,hb14]
      ·push_cast [hb5,hb11,hb14]
    ·rintro ⟨⟩ h;replace h : p_drydocklaw07_InterpSame_J12 a0 a1 a2 r6 = some r := h;(try push_cast);unfold p_drydocklaw07_InterpSame_J12 at h;refine VC.seqF tabOkF [some 67,some 13,none] [3,5,9,13] rfl rfl (fun K hK => ?_);push_cast [hb5,hb11];(repeat refine .intro (by omega) ?_);refine hK _ ?_;clear hK K;refine VC.seqF tabOkF [some 68,some 69,none] [3,9,13] rfl rfl (fun K hK => ?_);push_cast [hb5,hb11];(repeat refine .intro (by omega) ?_);refine hK _ ?_;clear hK K;obtain ⟨r21,hr21,h⟩ := po_some h;refine VC.seqF tabOkF [some 70,some 71,some 72,some 14,none] [9,14] rfl rfl (fun K hK => ?_);push_cast [hb5,hb11];(repeat refine .intro (by omega) ?_);refine callP (Ctr.lo (c_interp_Run a0 (T_Env.mk a2 a1.T a1.Seed) 500 hr21)) rfl ?_;push_cast [hb5,hb11];(repeat refine .intro (by omega) ?_);refine hK _ ?_;clear hK K;refine VC.seqF tabOkF [some 73,some 74,some 75,some 76,some 77,none] [9,14] rfl rfl (fun K hK => ?_);push_cast [hb5,hb11];(repeat refine .intro (by omega) ?_);refine hK _ ?_;clear hK K;obtain ⟨r22,hr22,h⟩ := po_some h;refine VC.seqF tabOkF [some 78,some 79,some 80,some 6] [6] rfl rfl (fun K hK => ?_);push_cast [hb5,hb11];(repeat refine .intro (by omega) ?_);refine callP (Ctr.lo (c_drydockref07_Same r6 (T_Ran.mk r21.Ret (T_Env.mk r6.E.Ctx r21.E.T r21.E.Seed) r21.Used r21.Err) hr22)) rfl ?_;push_cast [hb5,hb11];(repeat refine .intro (by omega) ?_);refine hK _ ?_;clear hK K;refine VC.ret ?_;have hr := Option.some.inj h;subst hr;refine endP (Sub.lo _) (Post.ret ?_ ?_ ?_)
     ·push_cast [hb5,hb11]
     ·push_cast [hb5,hb11]
     ·rfl
theorem few03c (p : T_Prog) : ∃ b, p_drydockref03_Few p = some b ∧ (b = true → FewP p) := by
  obtain ⟨r, h1, h2⟩ := lp_inv (step := fun x => p_drydockref03_Few_L2 p x.1 x.2) (fun s => (s.1 = true → p.Fns.length ≤ 12) ∧ ∃ n : Nat, s.2 = (n : Int) ∧ n ≤ p.Fns.length ∧ (s.1 = true → ∀ j f, j < n → p.Fns[j]? = some f → f.Code.length ≤ 80)) (fun s => ((p.Fns.length : Int) - s.2).toNat) (fun r => r = true → FewP p) (by
    rintro ⟨b, i⟩ ⟨h1, n, h2, h3, h4⟩
    simp only at h1 h2 h4
    subst h2
    simp only [p_drydockref03_Few_L2]
    by_cases hlt : n < p.Fns.length
    · have hd : decide ((n : Int) < (p.Fns.length : Int)) = true := by simp; omega
      rw [hd]
      cases b with
      | true =>
        left
        have hn := h1 rfl
        have hg := List.getElem?_eq_getElem hlt
        simp only [cond_true, po_of, p_drydockref03_Few_J3, idx_nat, hg, w64 (show n < 9223372036854775807 by omega)]
        refine ⟨_, rfl, ⟨fun _ => hn, n + 1, rfl, by omega, fun hq j f hj hf => ?_⟩, by simp only; omega⟩
        rcases Nat.lt_or_ge j n with hjn | hjn
        · exact h4 rfl j f hjn hf
        · have : j = n := by omega
          subst this
          rw [hg] at hf
          injection hf with hf
          subst hf
          have := of_decide_eq_true hq
          omega
      | false =>
        right
        exact ⟨false, rfl, fun h => by cases h⟩
    · have hd : decide ((n : Int) < (p.Fns.length : Int)) = false := by simp; omega
      rw [hd]
      right
      refine ⟨b, rfl, fun hb => ⟨h1 hb, fun f hf => ?_⟩⟩
      obtain ⟨j, hj⟩ := List.mem_iff_getElem?.1 hf
      exact h4 hb j f (by have := get_lt hj; omega) hj) (decide ((p.Fns.length : Int) ≤ 12), 0) ⟨fun h => by simp at h; omega, 0, rfl, Nat.zero_le _, fun _ j f hj => by omega⟩
  exact ⟨r, by simp only [p_drydockref03_Few, h1, po_of, p_drydockref03_Few_J1], h2⟩
theorem few7c (p : T_Prog) (e : T_Env) : ∃ b, p_drydocklaw07_few p e = some b ∧ (b = true → FewL e.T ∧ FewP p) := by
  obtain ⟨b, h1, h2⟩ := few03c p
  obtain ⟨c, h3, h4⟩ := few_tells e.T
  unfold p_drydocklaw07_few
  rw [h1]
  cases b with
  | true => exact ⟨c, by simp only [po_of, cond_true, h3, p_drydocklaw07_few_J1], fun q => ⟨h4 q, h2 rfl⟩⟩
  | false => exact ⟨false, rfl, fun h => by cases h⟩
theorem take_next {α : Type} {l : List α} {n : Nat} (h : n < l.length) : l.take n ++ [l[n]] = l.take (n + 1) := by
  rw [List.take_add_one, List.getElem?_eq_getElem h]
  rfl
theorem own03 {p : T_Prog} (h : FewP p) : p_drydockref03_Own p = some p := by
  have h12 := h.len
  obtain ⟨r, h1, h2⟩ := lp_inv (step := fun x => p_drydockref03_Own_L2 p x.1 x.2) (fun s => ∃ n : Nat, n ≤ p.Fns.length ∧ s = (⟨p.Fns.take n⟩, (n : Int))) (fun s => ((p.Fns.length : Int) - s.2).toNat) (fun r => r = p) (by
    rintro s ⟨n, h3, rfl⟩
    simp only [p_drydockref03_Own_L2]
    by_cases hlt : n < p.Fns.length
    · left
      have hd : decide ((n : Int) < (p.Fns.length : Int)) = true := by simp; omega
      have hg := List.getElem?_eq_getElem hlt
      have hc := h.code _ (List.getElem_mem hlt)
      have hl : (p.Fns.take n).length ≤ 12 := by rw [List.length_take]; omega
      simp only [hd, cond_true, idx_nat, hg, po_of, w64 (show n < 9223372036854775807 by omega)]
      rw [pg_of (by omega), pg_of (by omega)]
      simp only [pl, take_next hlt]
      exact ⟨_, rfl, ⟨n + 1, by omega, rfl⟩, by simp only; omega⟩
    · right
      have hd : decide ((n : Int) < (p.Fns.length : Int)) = false := by simp; omega
      simp only [hd, cond_false]
      refine ⟨_, rfl, ?_⟩
      rw [List.take_of_length_le (by omega)]) (⟨[]⟩, 0) ⟨0, Nat.zero_le _, rfl⟩
  subst h2
  simp only [p_drydockref03_Own, h1, po_of, p_drydockref03_Own_J1]
theorem own05 {t : T_Table} (h1 : t.E.length ≤ 1048576) (h2 : ∀ e ∈ t.E, e.V.length ≤ 1048576) : p_drydockref05_Own t = some t := by
  obtain ⟨r, h3, h4⟩ := lp_inv (step := fun x => p_drydockref05_Own_L2 t x.1 x.2) (fun s => ∃ n : Nat, n ≤ t.E.length ∧ s = (⟨t.S, t.E.take n, t.Next⟩, (n : Int))) (fun s => ((t.E.length : Int) - s.2).toNat) (fun r => r = t) (by
    rintro s ⟨n, h3, rfl⟩
    simp only [p_drydockref05_Own_L2]
    by_cases hlt : n < t.E.length
    · left
      have hd : decide ((n : Int) < (t.E.length : Int)) = true := by simp; omega
      have hg := List.getElem?_eq_getElem hlt
      have hc := h2 _ (List.getElem_mem hlt)
      have hl : (t.E.take n).length ≤ 1048576 := by rw [List.length_take]; omega
      simp only [hd, cond_true, idx_nat, hg, po_of, w64 (show n < 9223372036854775807 by omega)]
      rw [pg_of (by omega), pg_of (by omega)]
      simp only [pl, take_next hlt]
      exact ⟨_, rfl, ⟨n + 1, by omega, rfl⟩, by simp only; omega⟩
    · right
      have hd : decide ((n : Int) < (t.E.length : Int)) = false := by simp; omega
      simp only [hd, cond_false]
      refine ⟨_, rfl, ?_⟩
      rw [List.take_of_length_le (by omega)]) (⟨t.S, [], t.Next⟩, 0) ⟨0, Nat.zero_le _, rfl⟩
  subst h4
  simp only [p_drydockref05_Own, h3, po_of, p_drydockref05_Own_J1]
theorem own06 {e : T_Env} (h : Fits e.T) : p_drydockref06_Own e = some e := by
  have hlen := h.len
  obtain ⟨r, h3, h4⟩ := lp_inv (step := fun x => p_drydockref05_Each_L2 e.T x.1 x.2) (fun s => ∃ n : Nat, n ≤ e.T.length ∧ s = (e.T.take n, (n : Int))) (fun s => ((e.T.length : Int) - s.2).toNat) (fun r => r = e.T) (by
    rintro s ⟨n, h3, rfl⟩
    simp only [p_drydockref05_Each_L2]
    by_cases hlt : n < e.T.length
    · left
      have hd : decide ((n : Int) < (e.T.length : Int)) = true := by simp; omega
      have hg := List.getElem?_eq_getElem hlt
      have hm := List.getElem_mem hlt
      have hl : (e.T.take n).length ≤ 1048576 := by rw [List.length_take]; omega
      simp only [hd, cond_true, idx_nat, hg, po_of, own05 (h.e _ hm) (h.v _ hm), w64 (show n < 9223372036854775807 by omega)]
      rw [pg_of (by omega)]
      simp only [pl, take_next hlt]
      exact ⟨_, rfl, ⟨n + 1, by omega, rfl⟩, by simp only; omega⟩
    · right
      have hd : decide ((n : Int) < (e.T.length : Int)) = false := by simp; omega
      simp only [hd, cond_false]
      refine ⟨_, rfl, ?_⟩
      rw [List.take_of_length_le (by omega)]) ([], 0) ⟨0, Nat.zero_le _, rfl⟩
  subst h4
  simp only [p_drydockref06_Own, p_drydockref05_Each, h3, po_of, p_drydockref05_Each_J1]
theorem reads16 {p : T_Prog} {n : Nat} {f : T_Fn} (hf : p.Fns[n]? = some f) (hl : f.Code.length ≤ 80) :
    lpU (fun x => p_drydocklaw07_InterpSame_L16 p (n : Int) x) 0 = some (.inr (.inr (.inr true))) ∨ (lpU (fun x => p_drydocklaw07_InterpSame_L16 p (n : Int) x) 0 = some (.inl ()) ∧ ∀ i ∈ f.Code, i.Op ≠ 2) := by
  obtain ⟨r, h1, h2⟩ := lp_inv (step := fun x => p_drydocklaw07_InterpSame_L16 p (n : Int) x) (fun s => ∃ j : Nat, s = (j : Int) ∧ j ≤ f.Code.length ∧ ∀ (k : Nat) (i : T_Inst), k < j → f.Code[k]? = some i → i.Op ≠ 2) (fun s => ((f.Code.length : Int) - s).toNat) (fun r => r = .inr (.inr (.inr true)) ∨ (r = .inl () ∧ ∀ i ∈ f.Code, i.Op ≠ 2)) (by
    rintro s ⟨j, rfl, h3, h4⟩
    simp only [p_drydocklaw07_InterpSame_L16, idx_nat, hf, po_of]
    by_cases hlt : j < f.Code.length
    · have hd : decide ((j : Int) < (f.Code.length : Int)) = true := by simp; omega
      have hg := List.getElem?_eq_getElem hlt
      simp only [hd, cond_true, hg, po_of, w64 (show j < 9223372036854775807 by omega)]
      by_cases h5 : (f.Code[j]).Op = 2
      · right
        have d : ((f.Code[j]).Op == 2) = true := by simpa using h5
        rw [d]
        exact ⟨_, rfl, .inl rfl⟩
      · left
        have d : ((f.Code[j]).Op == 2) = false := by simpa using h5
        rw [d]
        refine ⟨_, rfl, ⟨j + 1, rfl, by omega, fun k i hk hi => ?_⟩, by omega⟩
        rcases Nat.lt_or_ge k j with hkj | hkj
        · exact h4 k i hkj hi
        · have : k = j := by omega
          subst this
          rw [hg] at hi
          injection hi with hi
          subst hi
          exact h5
    · right
      have hd : decide ((j : Int) < (f.Code.length : Int)) = false := by simp; omega
      simp only [hd, cond_false]
      refine ⟨_, rfl, .inr ⟨rfl, fun i hi => ?_⟩⟩
      obtain ⟨k, hk⟩ := List.mem_iff_getElem?.1 hi
      exact h4 k i (by have := get_lt hk; omega) hk) 0 ⟨0, rfl, Nat.zero_le _, fun k i hk => by omega⟩
  rcases h2 with rfl | ⟨rfl, h3⟩
  · exact .inl h1
  · exact .inr ⟨h1, h3⟩
theorem reads13 {p : T_Prog} (h : FewP p) :
    lpU (fun x => p_drydocklaw07_InterpSame_L13 p x) 0 = some (.inr true) ∨ (lpU (fun x => p_drydocklaw07_InterpSame_L13 p x) 0 = some (.inl ()) ∧ ∀ f ∈ p.Fns, ∀ i ∈ f.Code, i.Op ≠ 2) := by
  have h12 := h.len
  obtain ⟨r, h1, h2⟩ := lp_inv (step := fun x => p_drydocklaw07_InterpSame_L13 p x) (fun s => ∃ n : Nat, s = (n : Int) ∧ n ≤ p.Fns.length ∧ ∀ (k : Nat) (f : T_Fn), k < n → p.Fns[k]? = some f → ∀ i ∈ f.Code, i.Op ≠ 2) (fun s => ((p.Fns.length : Int) - s).toNat) (fun r => r = .inr true ∨ (r = .inl () ∧ ∀ f ∈ p.Fns, ∀ i ∈ f.Code, i.Op ≠ 2)) (by
    rintro s ⟨n, rfl, h3, h4⟩
    simp only [p_drydocklaw07_InterpSame_L13]
    by_cases hlt : n < p.Fns.length
    · have hd : decide ((n : Int) < (p.Fns.length : Int)) = true := by simp; omega
      have hg := List.getElem?_eq_getElem hlt
      simp only [hd, cond_true]
      rcases reads16 hg (h.code _ (List.getElem_mem hlt)) with h5 | ⟨h5, h6⟩
      · right
        rw [h5]
        exact ⟨_, rfl, .inl rfl⟩
      · left
        rw [h5]
        simp only [pm_inl, p_drydocklaw07_InterpSame_J15, w64 (show n < 9223372036854775807 by omega)]
        refine ⟨_, rfl, ⟨n + 1, rfl, by omega, fun k f hk hf => ?_⟩, by omega⟩
        rcases Nat.lt_or_ge k n with hkn | hkn
        · exact h4 k f hkn hf
        · have : k = n := by omega
          subst this
          rw [hg] at hf
          injection hf with hf
          subst hf
          exact h6
    · right
      have hd : decide ((n : Int) < (p.Fns.length : Int)) = false := by simp; omega
      simp only [hd, cond_false]
      refine ⟨_, rfl, .inr ⟨rfl, fun f hf => ?_⟩⟩
      obtain ⟨k, hk⟩ := List.mem_iff_getElem?.1 hf
      exact h4 k f (by have := get_lt hk; omega) hk) 0 ⟨0, rfl, Nat.zero_le _, fun k f hk => by omega⟩
  rcases h2 with rfl | ⟨rfl, h3⟩
  · exact .inl h1
  · exact .inr ⟨h1, h3⟩
theorem same_true (p : T_Prog) (e : T_Env) (ctx : A4 UInt32) : p_drydocklaw07_InterpSame p e ctx = some true := by
  obtain ⟨b, hb1, hb2⟩ := few7c p e
  unfold p_drydocklaw07_InterpSame
  simp only [awake7, hb1, po_of, cond_true]
  have up : p_drydocklaw07_InterpSame_J3 p e ctx true true = some true := rfl
  cases b with
  | false => exact up
  | true =>
    obtain ⟨hL, hP⟩ := hb2 rfl
    have hF := hL.fits
    have hF2 : Fits (T_Env.mk ctx e.T e.Seed).T := hF
    obtain ⟨c, hc1, hc2⟩ := progMay_tells p
    -- what both runs come to
    obtain ⟨x, hx1, hx2, hx3⟩ : ∃ x : T_Ran, p_interp_Run p e 500 = some x ∧ x.E.T.length ≤ 1048576 ∧ ((∀ f ∈ p.Fns, ∀ i ∈ f.Code, i.Op ≠ 2) → p_interp_Run p (T_Env.mk ctx e.T e.Seed) 500 = some ⟨x.Ret, ⟨ctx, x.E.T, x.E.Seed⟩, x.Used, x.Err⟩) := by
      rw [runI hc1 hc2 hF, runI hc1 hc2 hF2]
      by_cases h : c = true ∧ (0 : Int) ≤ 500 ∧ (500 : Int) ≤ 100000
      · rw [if_pos h, if_pos h]
        have hp := hc2 h.1
        have hpre := preI hp hF (fu := 500) h.2 (fn := 0) ⟨Int.le_refl _, by have := hp.len; omega⟩ (a := []) (by decide)
        obtain ⟨v, r, q1, q2⟩ := frame_tells hp 9 (lenI hp) _ _ hpre
        rw [q1]
        refine ⟨_, rfl, q2.e.fits.len, fun hno => ?_⟩
        obtain ⟨v', r', g1, g2, _⟩ := frame_sim hp (g := fun _ => ctx) (k := 0) (m := 0) (Int.le_refl _) (Int.le_refl _) (.inr hno) 9 (lenI hp) _ _ hpre (by show (500 : Int) + 0 + 0 ≤ 1000000; decide)
        rw [q1] at g1
        injection g1 with g1
        injection g1 with g3 g4
        subst g3
        subst g4
        have e1 : tau (fun _ => ctx) 0 0 ⟨p, e, 500, 0, 0⟩ = ⟨p, ⟨ctx, e.T, e.Seed⟩, 500, 0, 0⟩ := rfl
        have g5 := g2 (.inr rfl)
        rw [e1] at g5
        rw [g5]
        simp only [po_of, ranOf, tau, gE, Int.add_zero]
      · rw [if_neg h, if_neg h]
        exact ⟨_, rfl, hF.len, fun _ => rfl⟩
    simp only [cond_true, Bool.not_true, po_of, p_drydocklaw07_InterpSame_J3, cond_false, hx1, own03 hP, own06 hF, same7 hx2]
    rcases reads13 hP with h1 | ⟨h1, h2⟩
    · rw [h1]
      rfl
    · rw [h1]
      simp only [pm_inl, p_drydocklaw07_InterpSame_J12, hx3 h2, po_of]
      show po (p_drydockref07_Same x x) (fun r22 => some r22) = some true
      rw [same7 hx2]
      rfl
/-
  PROVED: the statement InterpSame of the given seat: whatever the program, the environment and the words, drydocklaw07.InterpSame returns true, and what was handed in reads as it did.
  Conditions: none beyond the statement's own.
-/
open Go Go.ChangeShapes Go.WideShapes Go.ChangeAt Go.RowKit Go.Proofs.Try
theorem o_3 {H : Type} {enc : TypeId × Value → H} {w : World} {base : Nat} {spare : Nat → Bool} {held : Bool} {fuel : Nat} {cs : List Value} {x : DataW H × List MemPlace} (h : DataW.trod enc prog w base spare held fuel 3 cs = some x) : ∃ a : Int, DRels w (okW w) (encI64 a) cs:= oI64 underlying3 h
theorem o_4 {H : Type} {enc : TypeId × Value → H} {w : World} {base : Nat} {spare : Nat → Bool} {held : Bool} {fuel : Nat} {cs : List Value} {x : DataW H × List MemPlace} (h : DataW.trod enc prog w base spare held fuel 4 cs = some x) : ∃ a : Bool, DRels w (okW w) (encBool a) cs:= oBool underlying4 h
theorem o_25 {H : Type} {enc : TypeId × Value → H} {w : World} {base : Nat} {spare : Nat → Bool} {held : Bool} {fuel : Nat} {cs : List Value} {x : DataW H × List MemPlace} (h : DataW.trod enc prog w base spare held fuel 25 cs = some x) : ∃ a : UInt32, DRels w (okW w) (encU32 a) cs:= oU32 underlying25 h
theorem o_76 {H : Type} {enc : TypeId × Value → H} {w : World} {base : Nat} {spare : Nat → Bool} {held : Bool} {fuel : Nat} {cs : List Value} {x : DataW H × List MemPlace} (h : DataW.trod enc prog w base spare held fuel 76 cs = some x) : ∃ a : T_Inst, DRels w (okW w) (enc_Inst a) cs := by
  obtain ⟨xs, m, _, _, hl, hxl, hg⟩ := DataW.trod_struct underlying76 h
  have hl : cs.length = 7 := hl.trans (by kernel_rfl)
  replace hxl : xs.length = 7 := hxl
  have e0 : prog.cellsOf 3 = 1 := by kernel_rfl
  have h0 : DataW.trod enc prog w base spare held m 3 ((cs.drop 0).take (prog.cellsOf 3)) = xs[0]? := hg 0 _ rfl
  simp only [e0, Nat.reduceMul] at h0
  obtain ⟨b0, r0⟩ := o_3 (h0.trans (List.getElem?_eq_getElem (by omega)))
  have e1 : prog.cellsOf 3 = 1 := by kernel_rfl
  have h1 : DataW.trod enc prog w base spare held m 3 ((cs.drop 1).take (prog.cellsOf 3)) = xs[1]? := hg 1 _ rfl
  simp only [e1, Nat.reduceMul] at h1
  obtain ⟨b1, r1⟩ := o_3 (h1.trans (List.getElem?_eq_getElem (by omega)))
  have e2 : prog.cellsOf 3 = 1 := by kernel_rfl
  have h2 : DataW.trod enc prog w base spare held m 3 ((cs.drop 2).take (prog.cellsOf 3)) = xs[2]? := hg 2 _ rfl
  simp only [e2, Nat.reduceMul] at h2
  obtain ⟨b2, r2⟩ := o_3 (h2.trans (List.getElem?_eq_getElem (by omega)))
  have e3 : prog.cellsOf 3 = 1 := by kernel_rfl
  have h3 : DataW.trod enc prog w base spare held m 3 ((cs.drop 3).take (prog.cellsOf 3)) = xs[3]? := hg 3 _ rfl
  simp only [e3, Nat.reduceMul] at h3
  obtain ⟨b3, r3⟩ := o_3 (h3.trans (List.getElem?_eq_getElem (by omega)))
  have e4 : prog.cellsOf 4 = 1 := by kernel_rfl
  have h4 : DataW.trod enc prog w base spare held m 4 ((cs.drop 4).take (prog.cellsOf 4)) = xs[4]? := hg 4 _ rfl
  simp only [e4, Nat.reduceMul] at h4
  obtain ⟨b4, r4⟩ := o_4 (h4.trans (List.getElem?_eq_getElem (by omega)))
  have e5 : prog.cellsOf 3 = 1 := by kernel_rfl
  have h5 : DataW.trod enc prog w base spare held m 3 ((cs.drop 5).take (prog.cellsOf 3)) = xs[5]? := hg 5 _ rfl
  simp only [e5, Nat.reduceMul] at h5
  obtain ⟨b5, r5⟩ := o_3 (h5.trans (List.getElem?_eq_getElem (by omega)))
  have e6 : prog.cellsOf 25 = 1 := by kernel_rfl
  have h6 : DataW.trod enc prog w base spare held m 25 ((cs.drop 6).take (prog.cellsOf 25)) = xs[6]? := hg 6 _ rfl
  simp only [e6, Nat.reduceMul] at h6
  obtain ⟨b6, r6⟩ := o_25 (h6.trans (List.getElem?_eq_getElem (by omega)))
  have r := (DRels.cat (DRels.cat (DRels.cat (DRels.cat (DRels.cat (DRels.cat r0 r1) r2) r3) r4) r5) r6)
  refine ⟨T_Inst.mk b0 b1 b2 b3 b4 b5 b6, ?_⟩
  have hf := full hl
  rw [← hf]
  exact r
theorem o_72 {H : Type} {enc : TypeId × Value → H} {w : World} {base : Nat} {spare : Nat → Bool} {held : Bool} {fuel : Nat} {cs : List Value} {x : DataW H × List MemPlace} (h : DataW.trod enc prog w base spare held fuel 72 cs = some x) : ∃ a : (List T_Inst), DRels w (okW w) ((encL enc_Inst) a) cs:= oSl (f := enc_Inst) (sz := 7) underlying72 (by kernel_rfl) (by decide) (fun _ => rfl) (fun _ _ _ h => o_76 h) h
theorem o_74 {H : Type} {enc : TypeId × Value → H} {w : World} {base : Nat} {spare : Nat → Bool} {held : Bool} {fuel : Nat} {cs : List Value} {x : DataW H × List MemPlace} (h : DataW.trod enc prog w base spare held fuel 74 cs = some x) : ∃ a : T_Fn, DRels w (okW w) (enc_Fn a) cs := by
  obtain ⟨xs, m, _, _, hl, hxl, hg⟩ := DataW.trod_struct underlying74 h
  have hl : cs.length = 2 := hl.trans (by kernel_rfl)
  replace hxl : xs.length = 2 := hxl
  have e0 : prog.cellsOf 3 = 1 := by kernel_rfl
  have h0 : DataW.trod enc prog w base spare held m 3 ((cs.drop 0).take (prog.cellsOf 3)) = xs[0]? := hg 0 _ rfl
  simp only [e0, Nat.reduceMul] at h0
  obtain ⟨b0, r0⟩ := o_3 (h0.trans (List.getElem?_eq_getElem (by omega)))
  have e1 : prog.cellsOf 72 = 1 := by kernel_rfl
  have h1 : DataW.trod enc prog w base spare held m 72 ((cs.drop 1).take (prog.cellsOf 72)) = xs[1]? := hg 1 _ rfl
  simp only [e1, Nat.reduceMul] at h1
  obtain ⟨b1, r1⟩ := o_72 (h1.trans (List.getElem?_eq_getElem (by omega)))
  have r := (DRels.cat r0 r1)
  refine ⟨T_Fn.mk b0 b1, ?_⟩
  have hf := full hl
  rw [← hf]
  exact r
theorem o_62 {H : Type} {enc : TypeId × Value → H} {w : World} {base : Nat} {spare : Nat → Bool} {held : Bool} {fuel : Nat} {cs : List Value} {x : DataW H × List MemPlace} (h : DataW.trod enc prog w base spare held fuel 62 cs = some x) : ∃ a : (List T_Fn), DRels w (okW w) ((encL enc_Fn) a) cs:= oSl (f := enc_Fn) (sz := 2) underlying62 (by kernel_rfl) (by decide) (fun _ => rfl) (fun _ _ _ h => o_74 h) h
theorem o_64 {H : Type} {enc : TypeId × Value → H} {w : World} {base : Nat} {spare : Nat → Bool} {held : Bool} {fuel : Nat} {cs : List Value} {x : DataW H × List MemPlace} (h : DataW.trod enc prog w base spare held fuel 64 cs = some x) : ∃ a : T_Prog, DRels w (okW w) (enc_Prog a) cs := by
  obtain ⟨xs, m, _, _, hl, hxl, hg⟩ := DataW.trod_struct underlying64 h
  have hl : cs.length = 1 := hl.trans (by kernel_rfl)
  replace hxl : xs.length = 1 := hxl
  have e0 : prog.cellsOf 62 = 1 := by kernel_rfl
  have h0 : DataW.trod enc prog w base spare held m 62 ((cs.drop 0).take (prog.cellsOf 62)) = xs[0]? := hg 0 _ rfl
  simp only [e0, Nat.reduceMul] at h0
  obtain ⟨b0, r0⟩ := o_62 (h0.trans (List.getElem?_eq_getElem (by omega)))
  have r := r0
  refine ⟨T_Prog.mk b0, ?_⟩
  have hf := full hl
  rw [← hf]
  exact r
theorem o_47 {H : Type} {enc : TypeId × Value → H} {w : World} {base : Nat} {spare : Nat → Bool} {held : Bool} {fuel : Nat} {cs : List Value} {x : DataW H × List MemPlace} (h : DataW.trod enc prog w base spare held fuel 47 cs = some x) : ∃ a : (A4 UInt32), DRels w (okW w) ((encA4 encU32) a) cs := by
  obtain ⟨xs, m, _, _, hl, hxl, hg⟩ := DataW.trod_array underlying47 h
  have hl : cs.length = 4 := hl.trans (by kernel_rfl)
  replace hxl : xs.length = 4 := hxl
  have e0 : prog.cellsOf 25 = 1 := by kernel_rfl
  have h0 := hg 0 (by decide)
  simp only [e0, Nat.reduceMul] at h0
  obtain ⟨b0, r0⟩ := o_25 (h0.trans (List.getElem?_eq_getElem (by omega)))
  have e1 : prog.cellsOf 25 = 1 := by kernel_rfl
  have h1 := hg 1 (by decide)
  simp only [e1, Nat.reduceMul] at h1
  obtain ⟨b1, r1⟩ := o_25 (h1.trans (List.getElem?_eq_getElem (by omega)))
  have e2 : prog.cellsOf 25 = 1 := by kernel_rfl
  have h2 := hg 2 (by decide)
  simp only [e2, Nat.reduceMul] at h2
  obtain ⟨b2, r2⟩ := o_25 (h2.trans (List.getElem?_eq_getElem (by omega)))
  have e3 : prog.cellsOf 25 = 1 := by kernel_rfl
  have h3 := hg 3 (by decide)
  simp only [e3, Nat.reduceMul] at h3
  obtain ⟨b3, r3⟩ := o_25 (h3.trans (List.getElem?_eq_getElem (by omega)))
  have r := (DRels.cat (DRels.cat (DRels.cat r0 r1) r2) r3)
  refine ⟨A4.mk b0 b1 b2 b3, ?_⟩
  have hf := full hl
  rw [← hf]
  exact r
theorem o_23 {H : Type} {enc : TypeId × Value → H} {w : World} {base : Nat} {spare : Nat → Bool} {held : Bool} {fuel : Nat} {cs : List Value} {x : DataW H × List MemPlace} (h : DataW.trod enc prog w base spare held fuel 23 cs = some x) : ∃ a : T_Schema, DRels w (okW w) (enc_Schema a) cs := by
  obtain ⟨xs, m, _, _, hl, hxl, hg⟩ := DataW.trod_struct underlying23 h
  have hl : cs.length = 4 := hl.trans (by kernel_rfl)
  replace hxl : xs.length = 4 := hxl
  have e0 : prog.cellsOf 3 = 1 := by kernel_rfl
  have h0 : DataW.trod enc prog w base spare held m 3 ((cs.drop 0).take (prog.cellsOf 3)) = xs[0]? := hg 0 _ rfl
  simp only [e0, Nat.reduceMul] at h0
  obtain ⟨b0, r0⟩ := o_3 (h0.trans (List.getElem?_eq_getElem (by omega)))
  have e1 : prog.cellsOf 3 = 1 := by kernel_rfl
  have h1 : DataW.trod enc prog w base spare held m 3 ((cs.drop 1).take (prog.cellsOf 3)) = xs[1]? := hg 1 _ rfl
  simp only [e1, Nat.reduceMul] at h1
  obtain ⟨b1, r1⟩ := o_3 (h1.trans (List.getElem?_eq_getElem (by omega)))
  have e2 : prog.cellsOf 3 = 1 := by kernel_rfl
  have h2 : DataW.trod enc prog w base spare held m 3 ((cs.drop 2).take (prog.cellsOf 3)) = xs[2]? := hg 2 _ rfl
  simp only [e2, Nat.reduceMul] at h2
  obtain ⟨b2, r2⟩ := o_3 (h2.trans (List.getElem?_eq_getElem (by omega)))
  have e3 : prog.cellsOf 3 = 1 := by kernel_rfl
  have h3 : DataW.trod enc prog w base spare held m 3 ((cs.drop 3).take (prog.cellsOf 3)) = xs[3]? := hg 3 _ rfl
  simp only [e3, Nat.reduceMul] at h3
  obtain ⟨b3, r3⟩ := o_3 (h3.trans (List.getElem?_eq_getElem (by omega)))
  have r := (DRels.cat (DRels.cat (DRels.cat r0 r1) r2) r3)
  refine ⟨T_Schema.mk b0 b1 b2 b3, ?_⟩
  have hf := full hl
  rw [← hf]
  exact r
theorem o_39 {H : Type} {enc : TypeId × Value → H} {w : World} {base : Nat} {spare : Nat → Bool} {held : Bool} {fuel : Nat} {cs : List Value} {x : DataW H × List MemPlace} (h : DataW.trod enc prog w base spare held fuel 39 cs = some x) : ∃ a : (List UInt32), DRels w (okW w) ((encL encU32) a) cs:= oSl (f := encU32) (sz := 1) underlying39 (by kernel_rfl) (by decide) (fun _ => rfl) (fun _ _ _ h => o_25 h) h
theorem o_41 {H : Type} {enc : TypeId × Value → H} {w : World} {base : Nat} {spare : Nat → Bool} {held : Bool} {fuel : Nat} {cs : List Value} {x : DataW H × List MemPlace} (h : DataW.trod enc prog w base spare held fuel 41 cs = some x) : ∃ a : T_Entry, DRels w (okW w) (enc_Entry a) cs := by
  obtain ⟨xs, m, _, _, hl, hxl, hg⟩ := DataW.trod_struct underlying41 h
  have hl : cs.length = 2 := hl.trans (by kernel_rfl)
  replace hxl : xs.length = 2 := hxl
  have e0 : prog.cellsOf 25 = 1 := by kernel_rfl
  have h0 : DataW.trod enc prog w base spare held m 25 ((cs.drop 0).take (prog.cellsOf 25)) = xs[0]? := hg 0 _ rfl
  simp only [e0, Nat.reduceMul] at h0
  obtain ⟨b0, r0⟩ := o_25 (h0.trans (List.getElem?_eq_getElem (by omega)))
  have e1 : prog.cellsOf 39 = 1 := by kernel_rfl
  have h1 : DataW.trod enc prog w base spare held m 39 ((cs.drop 1).take (prog.cellsOf 39)) = xs[1]? := hg 1 _ rfl
  simp only [e1, Nat.reduceMul] at h1
  obtain ⟨b1, r1⟩ := o_39 (h1.trans (List.getElem?_eq_getElem (by omega)))
  have r := (DRels.cat r0 r1)
  refine ⟨T_Entry.mk b0 b1, ?_⟩
  have hf := full hl
  rw [← hf]
  exact r
theorem o_24 {H : Type} {enc : TypeId × Value → H} {w : World} {base : Nat} {spare : Nat → Bool} {held : Bool} {fuel : Nat} {cs : List Value} {x : DataW H × List MemPlace} (h : DataW.trod enc prog w base spare held fuel 24 cs = some x) : ∃ a : (List T_Entry), DRels w (okW w) ((encL enc_Entry) a) cs:= oSl (f := enc_Entry) (sz := 2) underlying24 (by kernel_rfl) (by decide) (fun _ => rfl) (fun _ _ _ h => o_41 h) h
theorem o_27 {H : Type} {enc : TypeId × Value → H} {w : World} {base : Nat} {spare : Nat → Bool} {held : Bool} {fuel : Nat} {cs : List Value} {x : DataW H × List MemPlace} (h : DataW.trod enc prog w base spare held fuel 27 cs = some x) : ∃ a : T_Table, DRels w (okW w) (enc_Table a) cs := by
  obtain ⟨xs, m, _, _, hl, hxl, hg⟩ := DataW.trod_struct underlying27 h
  have hl : cs.length = 6 := hl.trans (by kernel_rfl)
  replace hxl : xs.length = 3 := hxl
  have e0 : prog.cellsOf 23 = 4 := by kernel_rfl
  have h0 : DataW.trod enc prog w base spare held m 23 ((cs.drop 0).take (prog.cellsOf 23)) = xs[0]? := hg 0 _ rfl
  simp only [e0, Nat.reduceMul] at h0
  obtain ⟨b0, r0⟩ := o_23 (h0.trans (List.getElem?_eq_getElem (by omega)))
  have e1 : prog.cellsOf 24 = 1 := by kernel_rfl
  have h1 : DataW.trod enc prog w base spare held m 24 ((cs.drop 4).take (prog.cellsOf 24)) = xs[1]? := hg 1 _ rfl
  simp only [e1, Nat.reduceMul] at h1
  obtain ⟨b1, r1⟩ := o_24 (h1.trans (List.getElem?_eq_getElem (by omega)))
  have e2 : prog.cellsOf 25 = 1 := by kernel_rfl
  have h2 : DataW.trod enc prog w base spare held m 25 ((cs.drop 5).take (prog.cellsOf 25)) = xs[2]? := hg 2 _ rfl
  simp only [e2, Nat.reduceMul] at h2
  obtain ⟨b2, r2⟩ := o_25 (h2.trans (List.getElem?_eq_getElem (by omega)))
  have r := (DRels.cat (DRels.cat r0 r1) r2)
  refine ⟨T_Table.mk b0 b1 b2, ?_⟩
  have hf := full hl
  rw [← hf]
  exact r
theorem o_38 {H : Type} {enc : TypeId × Value → H} {w : World} {base : Nat} {spare : Nat → Bool} {held : Bool} {fuel : Nat} {cs : List Value} {x : DataW H × List MemPlace} (h : DataW.trod enc prog w base spare held fuel 38 cs = some x) : ∃ a : (List T_Table), DRels w (okW w) ((encL enc_Table) a) cs:= oSl (f := enc_Table) (sz := 6) underlying38 (by kernel_rfl) (by decide) (fun _ => rfl) (fun _ _ _ h => o_27 h) h
theorem o_49 {H : Type} {enc : TypeId × Value → H} {w : World} {base : Nat} {spare : Nat → Bool} {held : Bool} {fuel : Nat} {cs : List Value} {x : DataW H × List MemPlace} (h : DataW.trod enc prog w base spare held fuel 49 cs = some x) : ∃ a : T_Env, DRels w (okW w) (enc_Env a) cs := by
  obtain ⟨xs, m, _, _, hl, hxl, hg⟩ := DataW.trod_struct underlying49 h
  have hl : cs.length = 6 := hl.trans (by kernel_rfl)
  replace hxl : xs.length = 3 := hxl
  have e0 : prog.cellsOf 47 = 4 := by kernel_rfl
  have h0 : DataW.trod enc prog w base spare held m 47 ((cs.drop 0).take (prog.cellsOf 47)) = xs[0]? := hg 0 _ rfl
  simp only [e0, Nat.reduceMul] at h0
  obtain ⟨b0, r0⟩ := o_47 (h0.trans (List.getElem?_eq_getElem (by omega)))
  have e1 : prog.cellsOf 38 = 1 := by kernel_rfl
  have h1 : DataW.trod enc prog w base spare held m 38 ((cs.drop 4).take (prog.cellsOf 38)) = xs[1]? := hg 1 _ rfl
  simp only [e1, Nat.reduceMul] at h1
  obtain ⟨b1, r1⟩ := o_38 (h1.trans (List.getElem?_eq_getElem (by omega)))
  have e2 : prog.cellsOf 25 = 1 := by kernel_rfl
  have h2 : DataW.trod enc prog w base spare held m 25 ((cs.drop 5).take (prog.cellsOf 25)) = xs[2]? := hg 2 _ rfl
  simp only [e2, Nat.reduceMul] at h2
  obtain ⟨b2, r2⟩ := o_25 (h2.trans (List.getElem?_eq_getElem (by omega)))
  have r := (DRels.cat (DRels.cat r0 r1) r2)
  refine ⟨T_Env.mk b0 b1 b2, ?_⟩
  have hf := full hl
  rw [← hf]
  exact r
theorem interpSameOwn : ownKnob Try.prog.godebug = none := by kernel_rfl
theorem interpSameLaid : laidOutB Try.prog = true := by kernel_rfl
set_option maxRecDepth 100000 in
theorem interpSame_lifted (os : Os) (started : os.Started) (H : Type) (enc : TypeId × Value → H) :
    ReturnsInHanded {} Try.checked os 12 .any (Rows.interpSameSpec.pre6 enc Try.prog Try.f12 Rows.interpSameRow.domain false) (Rows.interpSameSpec.post enc Try.prog Try.f12 false true false false) := by
  refine returnsInHanded_of_change (C := Try.checked) interpSameOwn started (by kernel_rfl) Try.func12
    (ChangeSpec.witness6 (enc := enc) (C := Try.checked) false ⟨#[], #[.agg #[.slice none 0 0], .agg #[.int .u32 0, .int .u32 0, .int .u32 0, .int .u32 0, .slice none 0 0, .int .u32 0], .agg #[.int .u32 0, .int .u32 0, .int .u32 0, .int .u32 0]], []⟩ 8 (by kernel_rfl) (by kernel_rfl) (by kernel_rfl) (by kernel_rfl)) ?_
  intro W base args ds gs before hval0 hW _ _
  have hval : ∀ (j : Nat) t v, Try.f12.params[j]? = some t → args[j]? = some v → Value.okWide Try.prog W .any base t v := hval0
  have hW' := hW
  obtain ⟨p, q, hA0, hV, rfl, hfz, hnd⟩ := hW
  have hA : DataW.TrodAll enc Try.prog W 0 (fun _ => true) true Try.f12.params.toList args.toList ds p := hA0
  rw [Try.params12] at hA hval
  obtain ⟨l⟩ := args
  obtain ⟨v0, l0, d0, ds0, p0, q0, rfl, rfl, _, h0, hA1⟩ := trodAll_cons hA
  obtain ⟨v1, l1, d1, ds1, p1, q1, rfl, rfl, _, h1, hA2⟩ := trodAll_cons hA1
  obtain ⟨v2, l2, d2, ds2, p2, q2, rfl, rfl, _, h2, hA3⟩ := trodAll_cons hA2
  obtain ⟨rfl, rfl, _⟩ := trodAll_nil hA3
  obtain ⟨rfl, rfl⟩ := trodVars_none hV
  obtain ⟨cs0, rfl, _⟩ := okWide_struct underlying64 (hval 0 _ v0 rfl rfl)
  obtain ⟨fuel0, hf0⟩ := h0
  obtain ⟨a0, r0⟩ := o_64 hf0
  obtain ⟨cs1, rfl, _⟩ := okWide_struct underlying49 (hval 1 _ v1 rfl rfl)
  obtain ⟨fuel1, hf1⟩ := h1
  obtain ⟨a1, r1⟩ := o_49 hf1
  obtain ⟨cs2, rfl⟩ := okWide_arr underlying47 (hval 2 _ v2 rfl rfl)
  obtain ⟨fuel2, hf2⟩ := h2
  obtain ⟨a2, r2⟩ := o_47 hf2
  refine (Ctr.law (c_drydocklaw07_InterpSame a0 a1 a2 (same_true a0 a1 a2)) rfl (VRels.of1 (.cons (arg_agg r0) (.cons (arg_agg r1) (.cons (arg_agg r2) (.nil)))))).mono fun e W' ⟨he, hw⟩ => ?_
  subst he
  exact ⟨_, rfl, post_law interpSameLaid hW' rfl rfl (by kernel_rfl) rfl rfl rfl hw⟩
theorem interpSame_holds : Rows.InterpSameSaid :=
  OpenClaim.holds_of_wide 12 Try.f12 rfl rfl rfl rfl rfl rfl rfl ⟨rfl, rfl, rfl, rfl, rfl⟩ rfl rfl rfl rfl rfl (by kernel_rfl) Try.func12 (by kernel_rfl)
    (of_decide_eq_true (by kernel_rfl)) (by unfold Func.isWrapper; first | (rw [if_pos (by decide +kernel)]; kernel_rfl) | (rw [if_neg (by decide +kernel)]; exact ⟨rfl, rfl⟩))
    (fun os started H enc _ => interpSame_lifted os started H enc)
end Go.Proofs.Ytkhanhhingicpaa
