/-
  PROVED: the statement ShiftRefuses of the given seat: whatever the map and the schema, drydocklaw18.ShiftRefuses returns true, and what was handed in reads as it did.
  Conditions: none beyond the statement's own.
-/
import Derived.Test.YtcffmheeofjifaaGreatSd5
import Derived.Lib.Hide
import Derived.ProofKit
import Derived.Deep.Slices
import Derived.OpenShut
import Derived.Test.YtcffmheeofjifaaGreatRows
set_option linter.unusedVariables false
set_option linter.unusedSimpArgs false
set_option maxHeartbeats 4000000
set_option maxRecDepth 100000
namespace Go.Proofs.YtcffmheeofjifaaGreat
open Go Go.RowKit Go.Proofs.Tryz
noncomputable def p_shift_Image_L7 (a0 : T_Table) (a1 : T_Schema) (a2 : T_Prog) (s_1 : T_Table) (i_2 : Int) : Option ((T_Table × Int) ⊕ ((T_Table) ⊕ (T_Table × Int))) :=
  cond (decide (i_2 < (a0.E.length : Int))) (
  po (idx a0.E i_2) fun x9 =>
  po (p_shift_put a1 a2 x9.Key x9.V) fun r10 =>
  cond (r10.2 != 0) (
  some (Sum.inr (Sum.inr ((T_Table.mk (T_Schema.mk 0 0 0 0) [] 0), r10.2)))) (
  pg ((s_1.E.length + 1) * 32 ≤ 140737488355328) <|
  pl (s_1.E ++ ([(T_Entry.mk x9.Key r10.1)])) fun y13 =>
  some (Sum.inl ((T_Table.mk s_1.S y13 s_1.Next), (IntKind.i64.wrap (i_2 + 1)))))) (
  some (Sum.inr (Sum.inl s_1)))
noncomputable def p_shift_Image_J6 (y5 : (List T_Entry)) (s_5 : T_Table) : Option (T_Table × Int) :=
  pg ((s_5.E.length + y5.length) * 32 ≤ 140737488355328) <|
  pl (s_5.E ++ y5) fun y15 =>
  some ((T_Table.mk s_5.S y15 s_5.Next), 0)
noncomputable def p_shift_Image (a0 : T_Table) (a1 : T_Schema) (a2 : T_Prog) : Option (T_Table × Int) :=
  po (p_shift_may a0 a1 a2) fun r1 =>
  cond (r1 != 0) (
  some ((T_Table.mk (T_Schema.mk 0 0 0 0) [] 0), r1)) (
  po (p_table_New a1) fun r3 =>
  pg (0 ≤ (minI (a0.E.length : Int) (r3.1.E.length : Int)) ∧ (minI (a0.E.length : Int) (r3.1.E.length : Int)) ≤ (r3.1.E.length : Int) ∧ (r3.1.E.length : Int) ≤ (r3.1.E.length : Int)) <|
  pl ((r3.1.E.drop ((minI (a0.E.length : Int) (r3.1.E.length : Int)).toNat))) fun y5 =>
  pm (
  lpU (fun x => p_shift_Image_L7 a0 a1 a2 x.1 x.2) ((T_Table.mk r3.1.S [] r3.1.Next), 0)) (fun x => p_shift_Image_J6 y5 x))
theorem c_shift_Image {a0 : T_Table} {a1 : T_Schema} {a2 : T_Prog} {r : T_Table × Int} (h : p_shift_Image a0 a1 a2 = some r) : Ctr prog 21 [.agg (enc_Table a0), .agg (enc_Schema a1), .agg (enc_Prog a2)] [] (.tup [.agg [ri r.1.S.Kind, ri r.1.S.Cap, ri r.1.S.Words, ri r.1.S.Ver, .row 0 0 2 0 r.1.E.length, ru r.1.Next], ri r.2]) [(0, .row 66 2 0 (r.1.E.map enc_Entry))] := by
 unfold p_shift_Image at h; refine Ctr.ofW tabOk func21 rfl call21 0 _ ntmps21 [.cell 6 53, .tmp 7] rfl rfl rfl (fun B => ?_); refine vs [3, 4, 5, 6] (fun K hK => ?_); push_cast; refine hK _ ?_; clear hK K; refine VC.seq ?_; obtain ⟨r1, hr1, h⟩ := po_some h; refine vs [3, 4, 5, 6, 8] (fun K hK => ?_); push_cast; refine cp (c_shift_may hr1) ?_; push_cast; refine hK _ ?_; clear hK K; refine vs [3, 4, 5, 6, 8, 21] (fun K hK => ?_); push_cast; refine hK _ ?_; clear hK K; refine vc h (fun hb2 h => ?_) (fun hb2 h => ?_)
 ·refine vs [6, 7] (fun K hK => ?_); push_cast; refine hK _ ?_; clear hK K; refine VC.ret ?_; replace h := Option.some.inj h; subst h; refine endS (so (s' := ⟨[(6, .ref 3 0), (7, ri r1)], [(3, .box 53 [ri 0, ri 0, ri 0, ri 0, .sl true [], .raw (.int .u32 0)])], 16, 77, 0⟩) (by push_cast [hb2])) ?_; refine endS (Sub.adopt (b := 3) (j := 4) (e := 66) (sz := 2) rfl rfl) ?_; refine endS (Sub.renB (b := 3) (j := 4) (i' := 0) rfl rfl rfl (Nat.le_of_ble_eq_true rfl) (Nat.le_of_ble_eq_true rfl) rfl) ?_; exact en (by push_cast [hb2])
 ·refine VC.skip ?_; obtain ⟨r3, hr3, h⟩ := po_some h; refine vs [3, 4, 5, 6, 9] (fun K hK => ?_); push_cast; refine cp (c_table_New a1 hr3) ?_; push_cast; refine hK _ ?_; clear hK K; obtain ⟨hg4, h⟩ := pg_some h; obtain ⟨y5, hy5, h⟩ := pl_some h; refine vs [3, 4, 5, 6, 9, 11] (fun K hK => ?_); refine runOps_cut 8 (fun K2 hK2 => ?_); push_cast [hg4]; (repeat refine .intro (by omega) ?_); refine hK2 _ _ ?_; clear hK2 K2; simp only [List.drop_succ_cons, List.drop_zero]; push_cast [hg4]; (repeat refine .intro (by omega) ?_); refine hK _ ?_; clear hK K; refine VC.sub (s' := ⟨[(3, .ref 0 0), (4, .ref 1 0), (5, .ref 2 0), (6, .ref 3 0), (9, .ref 17 0), (11, .sl false (y5.map enc_Entry))], [(0, .box 53 (enc_Table a0)), (1, .box 50 (enc_Schema a1)), (2, .box 56 [.sl false (a2.Fns.map enc_Fn)]), (3, .box 53 [ri 0, ri 0, ri 0, ri 0, .sl true [], .raw (.int .u32 0)]), (17, .box 53 (enc_Table r3.1))], 31, 77, 0⟩) (so (by push_cast [hb2, hy5])) ?_; refine vs [3, 4, 5, 6, 9, 11] (fun K hK => ?_); push_cast; refine hK _ ?_; clear hK K; refine vm h (fun x => ⟨[(6, .ref 3 0), (9, .ref 17 0), (11, .sl false (y5.map enc_Entry))], [(3, .box 53 [ri 0, ri 0, ri 0, ri 0, .sl true [], .raw (.int .u32 0)]), (17, .box 53 [ri x.S.Kind, ri x.S.Cap, ri x.S.Words, ri x.S.Ver, .row 63 0 2 0 x.E.length, ru x.Next]), (63, .row 66 2 0 (x.E.map enc_Entry))], 69, 77, 0⟩) (fun v6 h hk6 => ?_) ?_
  ·refine vs [4, 5, 6, 9, 11, 41, 42, 43] (fun K hK => ?_); push_cast; refine hK _ ?_; clear hK K; refine VC.block ?_; refine VC.loopP h (fun x => ⟨[(4, .ref 1 0), (5, .ref 2 0), (6, .ref 3 0), (9, .ref 17 0), (11, .sl false (y5.map enc_Entry)), (41, .sl false (a0.E.map enc_Entry)), (42, ri (a0.E.length : Int)), (43, ri x.2)], [(1, .box 50 (enc_Schema a1)), (2, .box 56 [.sl false (a2.Fns.map enc_Fn)]), (3, .box 53 [ri 0, ri 0, ri 0, ri 0, .sl true [], .raw (.int .u32 0)]), (17, .box 53 [ri x.1.S.Kind, ri x.1.S.Cap, ri x.1.S.Words, ri x.1.S.Ver, .row 63 0 2 0 x.1.E.length, ru x.1.Next]), (63, .row 66 2 0 (x.1.E.map enc_Entry))], 68, 77, 0⟩) ?_ ?_
   ·refine Sub.trans (so (s' := ⟨[(4, .ref 1 0), (5, .ref 2 0), (6, .ref 3 0), (9, .ref 17 0), (11, .sl false (y5.map enc_Entry)), (41, .sl false (a0.E.map enc_Entry)), (42, ri (a0.E.length : Int)), (43, ri 0)], [(1, .box 50 (enc_Schema a1)), (2, .box 56 [.sl false (a2.Fns.map enc_Fn)]), (3, .box 53 [ri 0, ri 0, ri 0, ri 0, .sl true [], .raw (.int .u32 0)]), (17, .box 53 [ri r3.1.S.Kind, ri r3.1.S.Cap, ri r3.1.S.Words, ri r3.1.S.Ver, .sl true [], ru r3.1.Next])], 37, 77, 0⟩) (by push_cast [hb2])) ?_; refine Sub.trans (Sub.adopt (b := 17) (j := 4) (e := 66) (sz := 2) rfl rfl) ?_; refine Sub.trans (Sub.renB (b := 17) (j := 4) (i' := 63) rfl rfl rfl (Nat.le_of_ble_eq_true rfl) (Nat.le_of_ble_eq_true rfl) rfl) ?_; exact so (by push_cast [hb2])
   rintro ⟨s_1, i_2⟩ b7 (h : p_shift_Image_L7 a0 a1 a2 s_1 i_2 = some b7) hf7; (try push_cast); unfold p_shift_Image_L7 at h; refine vs [4, 5, 6, 9, 11, 41, 42, 43, 44] (fun K hK => ?_); push_cast; refine hK _ ?_; clear hK K; refine VC.seq ?_; refine vc h (fun hb8 h => ?_) (fun hb8 h => ?_)
   ·refine VC.skip ?_; refine VC.seq ?_; refine VC.block ?_; obtain ⟨x9, hx9, h⟩ := po_some h; replace hx9 := idx_some4 hx9; refine vs [4, 5, 6, 9, 11, 13, 41, 42, 43] (fun K hK => ?_); push_cast [hx9]; (repeat refine .intro (by omega) ?_); refine hK _ ?_; clear hK K; obtain ⟨r10, hr10, h⟩ := po_some h; refine vs [4, 5, 6, 9, 11, 13, 14, 15, 41, 42, 43] (fun K hK => ?_); refine runOps_cut 8 (fun K2 hK2 => ?_); push_cast; refine ch (H := []) (Ctr.loH (Ctr.ren (Bij.swp 0 79 Bij.id) (c_shift_put hr10) (by push_cast) (by push_cast))) (by push_cast) ?_; push_cast; refine hK2 _ _ ?_; clear hK2 K2; simp only [List.drop_succ_cons, List.drop_zero]; push_cast; refine hK _ ?_; clear hK K; refine VC.sub (s' := ⟨[(4, .ref 1 0), (5, .ref 2 0), (6, .ref 3 0), (9, .ref 17 0), (11, .sl false (y5.map enc_Entry)), (13, .ref 71 0), (14, .row 79 0 1 0 r10.1.length), (15, ri r10.2), (41, .sl false (a0.E.map enc_Entry)), (42, ri (a0.E.length : Int)), (43, ri i_2)], [(1, .box 50 (enc_Schema a1)), (2, .box 56 [.sl false (a2.Fns.map enc_Fn)]), (3, .box 53 [ri 0, ri 0, ri 0, ri 0, .sl true [], .raw (.int .u32 0)]), (17, .box 53 [ri s_1.S.Kind, ri s_1.S.Cap, ri s_1.S.Words, ri s_1.S.Ver, .row 63 0 2 0 s_1.E.length, ru s_1.Next]), (63, .row 66 2 0 (s_1.E.map enc_Entry)), (71, .box 66 (enc_Entry x9)), (79, .row 25 1 0 (r10.1.map encU32))], 85, 77, 0⟩) (so (by push_cast [hb2, hb8])) ?_; refine VC.seq ?_; refine vs [4, 5, 6, 9, 11, 13, 14, 15, 41, 42, 43, 58] (fun K hK => ?_); push_cast; refine hK _ ?_; clear hK K; refine vc h (fun hb11 h => ?_) (fun hb11 h => ?_)
    ·refine vs [6, 7] (fun K hK => ?_); push_cast; refine hK _ ?_; clear hK K; refine VC.ret ?_; replace h := ol h hf7; replace h := om h hk6; replace h := Option.some.inj h; subst h; refine endS (so (s' := ⟨[(6, .ref 3 0), (7, ri r10.2)], [(3, .box 53 [ri 0, ri 0, ri 0, ri 0, .sl true [], .raw (.int .u32 0)])], 91, 77, 0⟩) (by push_cast [hb2, hb8, hb11])) ?_; refine endS (Sub.adopt (b := 3) (j := 4) (e := 66) (sz := 2) rfl rfl) ?_; refine endS (Sub.renB (b := 3) (j := 4) (i' := 0) rfl rfl rfl (Nat.le_of_ble_eq_true rfl) (Nat.le_of_ble_eq_true rfl) rfl) ?_; exact en (by push_cast [hb2, hb8, hb11])
    ·refine VC.skip ?_; obtain ⟨hg12, h⟩ := pg_some h; obtain ⟨y13, hy13, h⟩ := pl_some h; refine vl (fun K hK => ?_); push_cast [hg12]; (repeat refine .intro (by omega) ?_); refine hK _ ?_; clear hK K; refine vl (fun K hK => ?_); push_cast; refine hK _ ?_; clear hK K; refine bk h ?_; refine Sub.trans (so (s' := ⟨[(4, .ref 1 0), (5, .ref 2 0), (6, .ref 3 0), (9, .ref 17 0), (11, .sl false (y5.map enc_Entry)), (41, .sl false (a0.E.map enc_Entry)), (42, ri (a0.E.length : Int)), (43, ri (IntKind.i64.wrap (i_2 + 1)))], [(1, .box 50 (enc_Schema a1)), (2, .box 56 [.sl false (a2.Fns.map enc_Fn)]), (3, .box 53 [ri 0, ri 0, ri 0, ri 0, .sl true [], .raw (.int .u32 0)]), (17, .box 53 [ri s_1.S.Kind, ri s_1.S.Cap, ri s_1.S.Words, ri s_1.S.Ver, .row 63 1 2 0 y13.length, ru s_1.Next]), (63, .row 66 2 1 (y13.map enc_Entry))], 99, 77, 0⟩) (by push_cast [hb2, hb8, hb11, hy13])) ?_; refine Sub.trans (Sub.renB (b := 17) (j := 4) (i' := 63) rfl rfl rfl (Nat.le_of_ble_eq_true rfl) (Nat.le_of_ble_eq_true rfl) rfl) ?_; exact so (by push_cast [hb2, hb8, hb11, hy13])
   ·refine VC.exit ?_; replace h := ol h hf7; refine am h hk6 ?_; exact so (by push_cast [hb2, hb8])
  ·rintro s_5 (h : p_shift_Image_J6 y5 s_5 = some r); (try push_cast); unfold p_shift_Image_J6 at h; obtain ⟨hg14, h⟩ := pg_some h; obtain ⟨y15, hy15, h⟩ := pl_some h; refine vs [6, 9] (fun K hK => ?_); push_cast [hg14]; (repeat refine .intro (by omega) ?_); refine hK _ ?_; clear hK K; refine VC.sub (s' := ⟨[(6, .ref 3 0), (9, .ref 17 0)], [(3, .box 53 [ri 0, ri 0, ri 0, ri 0, .sl true [], .raw (.int .u32 0)]), (17, .box 53 [ri s_5.S.Kind, ri s_5.S.Cap, ri s_5.S.Words, ri s_5.S.Ver, .row 63 1 2 0 y15.length, ru s_5.Next]), (63, .row 66 2 1 (y15.map enc_Entry))], 75, 77, 0⟩) (so (by push_cast [hb2, hy15])) ?_; refine vs [6, 7] (fun K hK => ?_); push_cast; refine hK _ ?_; clear hK K; refine VC.ret ?_; replace h := Option.some.inj h; subst h; refine endS (so (s' := ⟨[(6, .ref 3 0), (7, ri 0)], [(3, .box 53 [ri s_5.S.Kind, ri s_5.S.Cap, ri s_5.S.Words, ri s_5.S.Ver, .row 63 1 2 0 y15.length, ru s_5.Next]), (63, .row 66 2 1 (y15.map enc_Entry))], 78, 77, 0⟩) (by push_cast [hb2])) ?_; refine endS (Sub.renB (b := 3) (j := 4) (i' := 0) rfl rfl rfl (Nat.le_of_ble_eq_true rfl) (Nat.le_of_ble_eq_true rfl) rfl) ?_; exact en (by push_cast [hb2])
noncomputable def p_shift_One_J1 (a0 : T_Schema) (a1 : T_Prog) (a2 : UInt32) (a3 : (List UInt32)) (i_1 : Bool) : Option ((List UInt32) × Int) :=
  cond i_1 (
  some ([], 1)) (
  po (p_verify_Verify a1 []) fun r5 =>
  cond (r5.2 != 0) (
  some ([], r5.2)) (
  po (p_shift_put a0 a1 a2 a3) fun r7 =>
  some (r7.1, r7.2)))
noncomputable def p_shift_One (a0 : T_Schema) (a1 : T_Prog) (a2 : UInt32) (a3 : (List UInt32)) : Option ((List UInt32) × Int) :=
  po (
  po (p_schema_May a0) fun r2 =>
  cond r2 (
  some ((a3.length : Int) == 0)) (
  some true)) (fun x => p_shift_One_J1 a0 a1 a2 a3 x)
theorem c_shift_One {a0 : T_Schema} {a1 : T_Prog} {a2 : UInt32} {a3 : (List UInt32)} {r : (List UInt32) × Int} (h : p_shift_One a0 a1 a2 a3 = some r) : Ctr prog 24 [.agg (enc_Schema a0), .agg (enc_Prog a1), ru a2, .sl false (a3.map encU32)] [] (.tup [.row 0 0 1 0 r.1.length, ri r.2]) [(0, .row 25 1 0 (r.1.map encU32))] := by
 unfold p_shift_One at h; refine Ctr.ofW tabOk func24 rfl call24 0 _ ntmps24 [.tmp 8, .tmp 9] rfl rfl rfl (fun B => ?_); refine vs [2, 3, 4, 5] (fun K hK => ?_); push_cast; refine hK _ ?_; clear hK K; refine VC.seq ?_; refine vj h (fun x => ⟨[(2, ru a2), (3, .sl false (a3.map encU32)), (4, .ref 0 0), (5, .ref 1 0), (19, rb x)], [(0, .box 50 (enc_Schema a0)), (1, .box 56 [.sl false (a1.Fns.map enc_Fn)])], 12, 35, 0⟩) (fun v1 h hk1 => ?_) ?_
 ·obtain ⟨r2, hr2, h⟩ := po_some h; rcases Bool.eq_false_or_eq_true r2 with hb3 | hb3
  ·replace h := cond_yes hb3 h; refine vlG [some 12, some 13, some 14, some 15, some 16, some 17, some 18, some 19] (fun K hK => ?_); push_cast [hb3]; (repeat refine .intro (by omega) ?_); refine cp (c_schema_May hr2) ?_; push_cast [hb3]; (repeat refine .intro (by omega) ?_); refine hK _ ?_; clear hK K; refine ar h hk1 ?_; exact sl (by push_cast [hb3])
  ·replace h := cond_no hb3 h; refine vlG [some 12, some 13, some 14, some 15, some 16, some 17, some 18, some 19] (fun K hK => ?_); push_cast [hb3]; (repeat refine .intro (by omega) ?_); refine cp (c_schema_May hr2) ?_; push_cast [hb3]; (repeat refine .intro (by omega) ?_); refine hK _ ?_; clear hK K; refine ar h hk1 ?_; exact sl (by push_cast [hb3])
 ·rintro i_1 (h : p_shift_One_J1 a0 a1 a2 a3 i_1 = some r); (try push_cast); unfold p_shift_One_J1 at h; refine vc h (fun hb4 h => ?_) (fun hb4 h => ?_)
  ·refine vs [8, 9] (fun K hK => ?_); push_cast; refine hK _ ?_; clear hK K; refine VC.ret ?_; replace h := Option.some.inj h; subst h; refine endS (so (s' := ⟨[(8, .sl true []), (9, ri 1)], [], 14, 35, 0⟩) (by push_cast [hb4])) ?_; refine endS (Sub.adoptT (k := 8) (e := 25) (sz := 1) rfl) ?_; refine endS (Sub.renT (k := 8) (i' := 0) rfl rfl (Nat.le_of_ble_eq_true rfl) (Nat.le_of_ble_eq_true rfl) rfl) ?_; exact en (by push_cast [hb4])
  ·refine VC.skip ?_; refine VC.seq ?_; obtain ⟨r5, hr5, h⟩ := po_some h; refine vs [2, 3, 4, 5, 11] (fun K hK => ?_); push_cast; refine cp (c_verify_Verify hr5) ?_; push_cast; refine hK _ ?_; clear hK K; refine vs [2, 3, 4, 5, 11, 26] (fun K hK => ?_); push_cast; refine hK _ ?_; clear hK K; refine vc h (fun hb6 h => ?_) (fun hb6 h => ?_)
   ·refine vs [8, 9] (fun K hK => ?_); push_cast; refine hK _ ?_; clear hK K; refine VC.ret ?_; replace h := Option.some.inj h; subst h; refine endS (so (s' := ⟨[(8, .sl true []), (9, ri r5.2)], [], 24, 35, 0⟩) (by push_cast [hb4, hb6])) ?_; refine endS (Sub.adoptT (k := 8) (e := 25) (sz := 1) rfl) ?_; refine endS (Sub.renT (k := 8) (i' := 0) rfl rfl (Nat.le_of_ble_eq_true rfl) (Nat.le_of_ble_eq_true rfl) rfl) ?_; exact en (by push_cast [hb4, hb6])
   ·refine VC.skip ?_; obtain ⟨r7, hr7, h⟩ := po_some h; refine vs [8, 9] (fun K hK => ?_); push_cast; refine ch (H := []) (Ctr.loH (Ctr.ren (Bij.swp 0 25 Bij.id) (c_shift_put hr7) (by push_cast) (by push_cast))) (by push_cast) ?_; push_cast; refine hK _ ?_; clear hK K; refine VC.sub (s' := ⟨[(8, .row 25 0 1 0 r7.1.length), (9, ri r7.2)], [(25, .row 25 1 0 (r7.1.map encU32))], 30, 35, 0⟩) (so (by push_cast [hb4, hb6])) ?_; refine VC.ret ?_; replace h := Option.some.inj h; subst h; refine endS (so (s' := ⟨[(8, .row 25 0 1 0 r7.1.length), (9, ri r7.2)], [(25, .row 25 1 0 (r7.1.map encU32))], 30, 35, 0⟩) (by push_cast [hb4, hb6])) ?_; refine endS (Sub.renT (k := 8) (i' := 0) rfl rfl (Nat.le_of_ble_eq_true rfl) (Nat.le_of_ble_eq_true rfl) rfl) ?_; exact en (by push_cast [hb4, hb6])
noncomputable def p_drydocklaw18_awake_J3 (i_1 : Bool) : Option (Bool) :=
  some i_1
noncomputable def p_drydocklaw18_awake : Option (Bool) :=
  po (p_shift_One (T_Schema.mk 1 1 3 0) (T_Prog.mk ([(T_Fn.mk 0 ([(T_Inst.mk 2 0 0 0 false 0 2), (T_Inst.mk 7 0 0 0 false 0 0)]))])) 7 ([4, 5])) fun r1 =>
  po (p_shift_Image (T_Table.mk (T_Schema.mk 1 1 1 0) ([(T_Entry.mk 9 ([6]))]) 0) (T_Schema.mk 1 2 2 1) (T_Prog.mk ([(T_Fn.mk 0 ([(T_Inst.mk 2 0 0 0 false 0 2), (T_Inst.mk 7 0 0 0 false 0 0)]))]))) fun r2 =>
  po (
  cond (r1.2 == 0) (
  po (p_drydockref01_Words r1.1 ([4, 5, 0])) fun r5 =>
  cond r5 (
  cond (r2.2 == 0) (
  cond ((r2.1.E.length : Int) == 1) (
  po (r2.1.E[0]?) fun x9 =>
  po (p_drydockref01_Words x9.V ([6, 0])) fun r10 =>
  some r10) (
  some false)) (
  some false)) (
  some false)) (
  some false)) (fun x => p_drydocklaw18_awake_J3 x)
theorem c_drydocklaw18_awake {r : Bool} (h : p_drydocklaw18_awake = some r) : Ctr prog 19 [] [] (rb r) [] := by
 unfold p_drydocklaw18_awake at h; refine Ctr.ofW tabOk func19 rfl call19 0 _ ntmps19 [.tmp 0] rfl rfl rfl (fun B => ?_); refine vs [] (fun K hK => ?_); push_cast; refine hK _ ?_; clear hK K; refine vs [1] (fun K hK => ?_); push_cast; refine hK _ ?_; clear hK K; refine VC.sub (s' := ⟨[(1, .ref 7 0)], [(5, .row 71 2 0 (([(T_Fn.mk 0 ([(T_Inst.mk 2 0 0 0 false 0 2), (T_Inst.mk 7 0 0 0 false 0 0)]))]).map enc_Fn)), (7, .box 56 [.row 5 0 2 0 1])], 9, 56, 0⟩) (so (by push_cast)) ?_; refine VC.sub (Sub.freeze prog (b := 7) (j := 0) rfl rfl rfl (by push_cast <;> omega) (by decide)) ?_; refine VC.sub (s' := ⟨[(1, .ref 7 0)], [(7, .box 56 [.sl false (([(T_Fn.mk 0 ([(T_Inst.mk 2 0 0 0 false 0 2), (T_Inst.mk 7 0 0 0 false 0 0)]))]).map enc_Fn)])], 9, 56, 0⟩) (so (by push_cast)) ?_; obtain ⟨r1, hr1, h⟩ := po_some h; refine vs [1, 2, 3] (fun K hK => ?_); push_cast; refine ch (H := [(11, .row 25 1 0 (([4, 5]).map encU32))]) (Ctr.consume (args0 := [.agg [ri 1, ri 1, ri 3, ri 0], .agg [.sl false (([(T_Fn.mk 0 ([(T_Inst.mk 2 0 0 0 false 0 2), (T_Inst.mk 7 0 0 0 false 0 0)]))]).map enc_Fn)], .raw (.int .u32 7), .sl false (([4, 5]).map encU32)]) (Ctr.ren (Bij.swp 0 12 Bij.id) (c_shift_One hr1) (by push_cast) (by push_cast)) (by push_cast) rfl) (by push_cast) ?_; push_cast; refine hK _ ?_; clear hK K; refine VC.sub (s' := ⟨[(1, .ref 7 0), (2, .row 12 0 1 0 r1.1.length), (3, ri r1.2)], [(7, .box 56 [.sl false (([(T_Fn.mk 0 ([(T_Inst.mk 2 0 0 0 false 0 2), (T_Inst.mk 7 0 0 0 false 0 0)]))]).map enc_Fn)]), (12, .row 25 1 0 (r1.1.map encU32))], 18, 56, 0⟩) (so (by push_cast)) ?_; obtain ⟨r2, hr2, h⟩ := po_some h; refine vs [2, 3, 4, 5] (fun K hK => ?_); refine runOps_cut 8 (fun K2 hK2 => ?_); push_cast; refine ch (H := [(21, .row 66 2 0 (([(T_Entry.mk 9 ([6]))]).map enc_Entry))]) (Ctr.consume (args0 := [.agg [ri 1, ri 1, ri 1, ri 0, .sl false (([(T_Entry.mk 9 ([6]))]).map enc_Entry), .raw (.int .u32 0)], .agg [ri 1, ri 2, ri 2, ri 1], .agg [.sl false (([(T_Fn.mk 0 ([(T_Inst.mk 2 0 0 0 false 0 2), (T_Inst.mk 7 0 0 0 false 0 0)]))]).map enc_Fn)]]) (Ctr.ren (Bij.swp 0 25 Bij.id) (c_shift_Image hr2) (by push_cast) (by push_cast)) (by push_cast) rfl) (by push_cast) ?_; push_cast; refine hK2 _ _ ?_; clear hK2 K2; simp only [List.drop_succ_cons, List.drop_zero]; push_cast; refine hK _ ?_; clear hK K; refine VC.sub (s' := ⟨[(2, .row 12 0 1 0 r1.1.length), (3, ri r1.2), (4, .ref 29 0), (5, ri r2.2)], [(12, .row 25 1 0 (r1.1.map encU32)), (25, .row 66 2 0 (r2.1.E.map enc_Entry)), (29, .box 53 [ri r2.1.S.Kind, ri r2.1.S.Cap, ri r2.1.S.Words, ri r2.1.S.Ver, .row 25 0 2 0 r2.1.E.length, ru r2.1.Next])], 32, 56, 0⟩) (so (by push_cast)) ?_; refine vj h (fun x => ⟨[(0, rb x)], [], 59, 56, 0⟩) (fun v3 h hk3 => ?_) ?_
 ·rcases Bool.eq_false_or_eq_true (r1.2 == 0) with hb4 | hb4
  ·replace h := cond_yes hb4 h; obtain ⟨r5, hr5, h⟩ := po_some h; rcases Bool.eq_false_or_eq_true r5 with hb6 | hb6
   ·replace h := cond_yes hb6 h; rcases Bool.eq_false_or_eq_true (r2.2 == 0) with hb7 | hb7
    ·replace h := cond_yes hb7 h; rcases Bool.eq_false_or_eq_true ((r2.1.E.length : Int) == 1) with hb8 | hb8
     ·replace h := cond_yes hb8 h; obtain ⟨x9, hx9, h⟩ := po_some h; replace hx9 := gL hx9; obtain ⟨r10, hr10, h⟩ := po_some h; refine vlG [some 30, some 31, some 32, some 33, some 34, some 35, some 36, some 37, some 38, some 39, some 40, some 41, some 42, some 43, some 44, some 45, some 46, some 47, some 48, some 49, some 50, some 51, some 52, some 53, some 54, some 55, some 0] (fun K hK => ?_); refine runOps_cut 8 (fun K2 hK2 => ?_); push_cast [hb4, hb6, hb7, hb8, hx9]; (repeat refine .intro (by omega) ?_); refine ch (H := [(12, .row 25 1 0 (r1.1.map encU32)), (36, .row 25 1 0 (([4, 5, 0]).map encU32))]) (H' := _) (Ctr.borrow (c_drydockref01_Words hr5) (by push_cast [hb4, hb6, hb7, hb8, hx9]) rfl) (by push_cast [hb4, hb6, hb7, hb8, hx9]) ?_; push_cast [hb4, hb6, hb7, hb8, hx9]; (repeat refine .intro (by omega) ?_); refine hK2 _ _ ?_; clear hK2 K2; simp only [List.drop_succ_cons, List.drop_zero]; refine runOps_cut 8 (fun K2 hK2 => ?_); push_cast [hb4, hb6, hb7, hb8, hx9]; (repeat refine .intro (by omega) ?_); refine hK2 _ _ ?_; clear hK2 K2; simp only [List.drop_succ_cons, List.drop_zero]; refine runOps_cut 8 (fun K2 hK2 => ?_); push_cast [hb4, hb6, hb7, hb8, hx9]; (repeat refine .intro (by omega) ?_); refine hK2 _ _ ?_; clear hK2 K2; simp only [List.drop_succ_cons, List.drop_zero]; push_cast [hb4, hb6, hb7, hb8, hx9]; (repeat refine .intro (by omega) ?_); refine ch (H := [(55, .row 25 1 0 (([6, 0]).map encU32))]) (H' := _) (Ctr.borrow (c_drydockref01_Words hr10) (by push_cast [hb4, hb6, hb7, hb8, hx9]) rfl) (by push_cast [hb4, hb6, hb7, hb8, hx9]) ?_; push_cast [hb4, hb6, hb7, hb8, hx9]; (repeat refine .intro (by omega) ?_); refine hK _ ?_; clear hK K; refine ar h hk3 ?_; exact sl (by push_cast [hb4, hb6, hb7, hb8])
     ·replace h := cond_no hb8 h; refine vlG [some 30, some 31, some 32, some 33, some 34, some 35, some 36, some 37, some 38, some 39, some 40, some 41, some 42, some 43, some 44, some 45, some 46, some 47, some 48, some 49, some 50, some 51, some 52, some 53, some 54, some 55, some 0] (fun K hK => ?_); refine runOps_cut 8 (fun K2 hK2 => ?_); push_cast [hb4, hb6, hb7, hb8]; (repeat refine .intro (by omega) ?_); refine ch (H := [(12, .row 25 1 0 (r1.1.map encU32)), (36, .row 25 1 0 (([4, 5, 0]).map encU32))]) (H' := _) (Ctr.borrow (c_drydockref01_Words hr5) (by push_cast [hb4, hb6, hb7, hb8]) rfl) (by push_cast [hb4, hb6, hb7, hb8]) ?_; push_cast [hb4, hb6, hb7, hb8]; (repeat refine .intro (by omega) ?_); refine hK2 _ _ ?_; clear hK2 K2; simp only [List.drop_succ_cons, List.drop_zero]; refine runOps_cut 8 (fun K2 hK2 => ?_); push_cast [hb4, hb6, hb7, hb8]; (repeat refine .intro (by omega) ?_); refine hK2 _ _ ?_; clear hK2 K2; simp only [List.drop_succ_cons, List.drop_zero]; refine runOps_cut 8 (fun K2 hK2 => ?_); push_cast [hb4, hb6, hb7, hb8]; (repeat refine .intro (by omega) ?_); refine hK2 _ _ ?_; clear hK2 K2; simp only [List.drop_succ_cons, List.drop_zero]; push_cast [hb4, hb6, hb7, hb8]; (repeat refine .intro (by omega) ?_); refine hK _ ?_; clear hK K; refine ar h hk3 ?_; exact sl (by push_cast [hb4, hb6, hb7, hb8])
    ·replace h := cond_no hb7 h; refine vlG [some 30, some 31, some 32, some 33, some 34, some 35, some 36, some 37, some 38, some 39, some 40, some 41, some 42, some 43, some 44, some 45, some 46, some 47, some 48, some 49, some 50, some 51, some 52, some 53, some 54, some 55, some 0] (fun K hK => ?_); refine runOps_cut 8 (fun K2 hK2 => ?_); push_cast [hb4, hb6, hb7]; (repeat refine .intro (by omega) ?_); refine ch (H := [(12, .row 25 1 0 (r1.1.map encU32)), (36, .row 25 1 0 (([4, 5, 0]).map encU32))]) (H' := _) (Ctr.borrow (c_drydockref01_Words hr5) (by push_cast [hb4, hb6, hb7]) rfl) (by push_cast [hb4, hb6, hb7]) ?_; push_cast [hb4, hb6, hb7]; (repeat refine .intro (by omega) ?_); refine hK2 _ _ ?_; clear hK2 K2; simp only [List.drop_succ_cons, List.drop_zero]; refine runOps_cut 8 (fun K2 hK2 => ?_); push_cast [hb4, hb6, hb7]; (repeat refine .intro (by omega) ?_); refine hK2 _ _ ?_; clear hK2 K2; simp only [List.drop_succ_cons, List.drop_zero]; refine runOps_cut 8 (fun K2 hK2 => ?_); push_cast [hb4, hb6, hb7]; (repeat refine .intro (by omega) ?_); refine hK2 _ _ ?_; clear hK2 K2; simp only [List.drop_succ_cons, List.drop_zero]; push_cast [hb4, hb6, hb7]; (repeat refine .intro (by omega) ?_); refine hK _ ?_; clear hK K; refine ar h hk3 ?_; exact sl (by push_cast [hb4, hb6, hb7])
   ·replace h := cond_no hb6 h; refine vlG [some 30, some 31, some 32, some 33, some 34, some 35, some 36, some 37, some 38, some 39, some 40, some 41, some 42, some 43, some 44, some 45, some 46, some 47, some 48, some 49, some 50, some 51, some 52, some 53, some 54, some 55, some 0] (fun K hK => ?_); refine runOps_cut 8 (fun K2 hK2 => ?_); push_cast [hb4, hb6]; (repeat refine .intro (by omega) ?_); refine ch (H := [(12, .row 25 1 0 (r1.1.map encU32)), (36, .row 25 1 0 (([4, 5, 0]).map encU32))]) (H' := _) (Ctr.borrow (c_drydockref01_Words hr5) (by push_cast [hb4, hb6]) rfl) (by push_cast [hb4, hb6]) ?_; push_cast [hb4, hb6]; (repeat refine .intro (by omega) ?_); refine hK2 _ _ ?_; clear hK2 K2; simp only [List.drop_succ_cons, List.drop_zero]; refine runOps_cut 8 (fun K2 hK2 => ?_); push_cast [hb4, hb6]; (repeat refine .intro (by omega) ?_); refine hK2 _ _ ?_; clear hK2 K2; simp only [List.drop_succ_cons, List.drop_zero]; refine runOps_cut 8 (fun K2 hK2 => ?_); push_cast [hb4, hb6]; (repeat refine .intro (by omega) ?_); refine hK2 _ _ ?_; clear hK2 K2; simp only [List.drop_succ_cons, List.drop_zero]; push_cast [hb4, hb6]; (repeat refine .intro (by omega) ?_); refine hK _ ?_; clear hK K; refine ar h hk3 ?_; exact sl (by push_cast [hb4, hb6])
  ·replace h := cond_no hb4 h; refine vlG [some 30, some 31, some 32, some 33, some 34, some 35, some 36, some 37, some 38, some 39, some 40, some 41, some 42, some 43, some 44, some 45, some 46, some 47, some 48, some 49, some 50, some 51, some 52, some 53, some 54, some 55, some 0] (fun K hK => ?_); refine runOps_cut 8 (fun K2 hK2 => ?_); push_cast [hb4]; (repeat refine .intro (by omega) ?_); refine hK2 _ _ ?_; clear hK2 K2; simp only [List.drop_succ_cons, List.drop_zero]; refine runOps_cut 8 (fun K2 hK2 => ?_); push_cast [hb4]; (repeat refine .intro (by omega) ?_); refine hK2 _ _ ?_; clear hK2 K2; simp only [List.drop_succ_cons, List.drop_zero]; refine runOps_cut 8 (fun K2 hK2 => ?_); push_cast [hb4]; (repeat refine .intro (by omega) ?_); refine hK2 _ _ ?_; clear hK2 K2; simp only [List.drop_succ_cons, List.drop_zero]; push_cast [hb4]; (repeat refine .intro (by omega) ?_); refine hK _ ?_; clear hK K; refine ar h hk3 ?_; exact sl (by push_cast [hb4])
 ·rintro i_1 (h : p_drydocklaw18_awake_J3 i_1 = some r); (try push_cast); unfold p_drydocklaw18_awake_J3 at h; refine VC.ret ?_; replace h := Option.some.inj h; subst h; exact en (by push_cast)
def itF {σ ρ : Type} (step : σ → Option (σ ⊕ ρ)) (s : σ) : Option ρ := iterU step 5000 s
def Le {α : Type} (x y : Option α) : Prop := ∀ r, x = some r → y = some r
section
variable {α β γ σ ρ : Type}
theorem Le.refl (x : Option α) : Le x x := fun _ h => h
theorem Le.po {x x' : Option α} {k k' : α → Option β} (hx : Le x x') (hk : ∀ a, Le (k a) (k' a)) : Le (po x k) (po x' k') := by
  intro r h
  obtain ⟨a, h1, h2⟩ := po_some h
  rw [hx a h1]
  exact hk a r h2
theorem Le.pl {x : α} {k k' : α → Option β} (hk : ∀ a, Le (k a) (k' a)) : Le (pl x k) (pl x k') := hk x
theorem Le.pg {c : Prop} [Decidable c] {k k' : Option β} (hk : Le k k') : Le (pg c k) (pg c k') := by
  intro r h
  obtain ⟨h1, h2⟩ := pg_some h
  rw [pg_of h1]
  exact hk r h2
theorem Le.cond {c : Bool} {a a' b b' : Option α} (ha : Le a a') (hb : Le b b') : Le (cond c a b) (cond c a' b') := by
  cases c
  · exact hb
  · exact ha
theorem Le.pm {x x' : Option (α ⊕ β)} {k k' : α → Option β} (hx : Le x x') (hk : ∀ a, Le (k a) (k' a)) : Le (pm x k) (pm x' k') := by
  intro r h
  cases hq : x with
  | none => rw [hq] at h; cases h
  | some v =>
    rw [hx v hq]
    rw [hq] at h
    cases v with
    | inl a => exact hk a r h
    | inr b => exact h
theorem Le.pq {x x' : Option (α ⊕ β)} {k k' : α → Option γ} {kr kr' : β → Option γ} (hx : Le x x') (hk : ∀ a, Le (k a) (k' a)) (hr : ∀ a, Le (kr a) (kr' a)) : Le (pq x k kr) (pq x' k' kr') := by
  intro r h
  cases hq : x with
  | none => rw [hq] at h; cases h
  | some v =>
    rw [hx v hq]
    rw [hq] at h
    cases v with
    | inl a => exact hk a r h
    | inr b => exact hr b r h
theorem Le.iter {st st' : σ → Option (σ ⊕ ρ)} (h : ∀ s, Le (st s) (st' s)) : ∀ (n : Nat) (s : σ) (r : ρ), iterU st n s = some r → iterU st' n s = some r
  | 0, s, r, hr => by cases hr
  | n + 1, s, r, hr => by
    simp only [iterU] at hr ⊢
    split at hr
    · cases hr
    · rename_i s' hs
      rw [h s _ hs]
      exact Le.iter h n s' r hr
    · rename_i b hs
      rw [h s _ hs]
      exact hr
theorem Le.lp {st st' : σ → Option (σ ⊕ ρ)} {s : σ} (h : ∀ s, Le (st s) (st' s)) : Le (itF st s) (lpU st' s) := fun r hr => lpU_some.2 ⟨5000, Le.iter h _ s r hr⟩
theorem Le.itU {st st' : σ → α → Option (σ ⊕ ρ)} {l : List α} {s : σ} (h : ∀ s u, Le (st s u) (st' s u)) : Le (itU st l s) (itU st' l s) := by
  intro r hr
  induction l generalizing s with
  | nil => exact hr
  | cons u l ih =>
    simp only [Go.Proofs.YtcffmheeofjifaaGreat.itU] at hr ⊢
    split at hr
    · cases hr
    · rename_i s' hs
      rw [h s u _ hs]
      exact ih hr
    · rename_i b hs
      rw [h s u _ hs]
      exact hr
end
noncomputable def q_slices_IndexFunc_api_Inst_api_Inst_prog_fine_1 (a0 : (List T_Inst)) : Option (Int) :=
  pm (
  itF (fun x => p_slices_IndexFunc_api_Inst_api_Inst_prog_fine_1_L2 a0 x) 0) (fun x => p_slices_IndexFunc_api_Inst_api_Inst_prog_fine_1_J1)
theorem q_slices_IndexFunc_api_Inst_api_Inst_prog_fine_1_le (a0 : (List T_Inst)) : Le (q_slices_IndexFunc_api_Inst_api_Inst_prog_fine_1 a0) (p_slices_IndexFunc_api_Inst_api_Inst_prog_fine_1 a0) := by
  unfold q_slices_IndexFunc_api_Inst_api_Inst_prog_fine_1 p_slices_IndexFunc_api_Inst_api_Inst_prog_fine_1
  repeat' with_reducible first | (intro _) | apply Le.po | apply Le.cond | apply Le.pl | apply Le.pg | apply Le.pm | apply Le.pq | apply Le.lp | apply Le.itU | exact Le.refl _
noncomputable def q_slices_ContainsFunc_api_Inst_api_Inst_prog_fine_1 (a0 : (List T_Inst)) : Option (Bool) :=
  po (q_slices_IndexFunc_api_Inst_api_Inst_prog_fine_1 a0) fun r1 =>
  some (decide (r1 ≥ 0))
theorem q_slices_ContainsFunc_api_Inst_api_Inst_prog_fine_1_le (a0 : (List T_Inst)) : Le (q_slices_ContainsFunc_api_Inst_api_Inst_prog_fine_1 a0) (p_slices_ContainsFunc_api_Inst_api_Inst_prog_fine_1 a0) := by
  unfold q_slices_ContainsFunc_api_Inst_api_Inst_prog_fine_1 p_slices_ContainsFunc_api_Inst_api_Inst_prog_fine_1
  repeat' with_reducible first | (intro _) | apply q_slices_IndexFunc_api_Inst_api_Inst_prog_fine_1_le | apply Le.po | apply Le.cond | apply Le.pl | apply Le.pg | apply Le.pm | apply Le.pq | apply Le.lp | apply Le.itU | exact Le.refl _
noncomputable def q_prog_fine (a0 : T_Fn) : Option (Bool) :=
  po (
  cond (decide (a0.Args ≥ 0)) (
  cond (decide (a0.Args ≤ 4)) (
  cond (decide ((a0.Code.length : Int) > 0)) (
  cond (decide ((a0.Code.length : Int) ≤ 64)) (
  po (q_slices_ContainsFunc_api_Inst_api_Inst_prog_fine_1 a0.Code) fun r6 =>
  some (!r6)) (
  some false)) (
  some false)) (
  some false)) (
  some false)) (fun x => p_prog_fine_J1 x)
theorem q_prog_fine_le (a0 : T_Fn) : Le (q_prog_fine a0) (p_prog_fine a0) := by
  unfold q_prog_fine p_prog_fine
  repeat' with_reducible first | (intro _) | apply q_slices_ContainsFunc_api_Inst_api_Inst_prog_fine_1_le | apply Le.po | apply Le.cond | apply Le.pl | apply Le.pg | apply Le.pm | apply Le.pq | apply Le.lp | apply Le.itU | exact Le.refl _
noncomputable def q_prog_May_1 (a0 : T_Fn) : Option (Bool) :=
  po (q_prog_fine a0) fun r1 =>
  some (!r1)
theorem q_prog_May_1_le (a0 : T_Fn) : Le (q_prog_May_1 a0) (p_prog_May_1 a0) := by
  unfold q_prog_May_1 p_prog_May_1
  repeat' with_reducible first | (intro _) | apply q_prog_fine_le | apply Le.po | apply Le.cond | apply Le.pl | apply Le.pg | apply Le.pm | apply Le.pq | apply Le.lp | apply Le.itU | exact Le.refl _
noncomputable def q_slices_IndexFunc_api_Fn_api_Fn_prog_May_1_L2 (a0 : (List T_Fn)) (i_1 : Int) : Option ((Int) ⊕ ((Unit) ⊕ (Int))) :=
  cond (decide (i_1 < (a0.length : Int))) (
  po (idx a0 i_1) fun x4 =>
  po (q_prog_May_1 x4) fun r5 =>
  cond r5 (
  some (Sum.inr (Sum.inr i_1))) (
  some (Sum.inl (IntKind.i64.wrap (i_1 + 1))))) (
  some (Sum.inr (Sum.inl ())))
theorem q_slices_IndexFunc_api_Fn_api_Fn_prog_May_1_L2_le (a0 : (List T_Fn)) (i_1 : Int) : Le (q_slices_IndexFunc_api_Fn_api_Fn_prog_May_1_L2 a0 i_1) (p_slices_IndexFunc_api_Fn_api_Fn_prog_May_1_L2 a0 i_1) := by
  unfold q_slices_IndexFunc_api_Fn_api_Fn_prog_May_1_L2 p_slices_IndexFunc_api_Fn_api_Fn_prog_May_1_L2
  repeat' with_reducible first | (intro _) | apply q_prog_May_1_le | apply Le.po | apply Le.cond | apply Le.pl | apply Le.pg | apply Le.pm | apply Le.pq | apply Le.lp | apply Le.itU | exact Le.refl _
noncomputable def q_slices_IndexFunc_api_Fn_api_Fn_prog_May_1 (a0 : (List T_Fn)) : Option (Int) :=
  pm (
  itF (fun x => q_slices_IndexFunc_api_Fn_api_Fn_prog_May_1_L2 a0 x) 0) (fun x => p_slices_IndexFunc_api_Fn_api_Fn_prog_May_1_J1)
theorem q_slices_IndexFunc_api_Fn_api_Fn_prog_May_1_le (a0 : (List T_Fn)) : Le (q_slices_IndexFunc_api_Fn_api_Fn_prog_May_1 a0) (p_slices_IndexFunc_api_Fn_api_Fn_prog_May_1 a0) := by
  unfold q_slices_IndexFunc_api_Fn_api_Fn_prog_May_1 p_slices_IndexFunc_api_Fn_api_Fn_prog_May_1
  repeat' with_reducible first | (intro _) | apply q_slices_IndexFunc_api_Fn_api_Fn_prog_May_1_L2_le | apply Le.po | apply Le.cond | apply Le.pl | apply Le.pg | apply Le.pm | apply Le.pq | apply Le.lp | apply Le.itU | exact Le.refl _
noncomputable def q_slices_ContainsFunc_api_Fn_api_Fn_prog_May_1 (a0 : (List T_Fn)) : Option (Bool) :=
  po (q_slices_IndexFunc_api_Fn_api_Fn_prog_May_1 a0) fun r1 =>
  some (decide (r1 ≥ 0))
theorem q_slices_ContainsFunc_api_Fn_api_Fn_prog_May_1_le (a0 : (List T_Fn)) : Le (q_slices_ContainsFunc_api_Fn_api_Fn_prog_May_1 a0) (p_slices_ContainsFunc_api_Fn_api_Fn_prog_May_1 a0) := by
  unfold q_slices_ContainsFunc_api_Fn_api_Fn_prog_May_1 p_slices_ContainsFunc_api_Fn_api_Fn_prog_May_1
  repeat' with_reducible first | (intro _) | apply q_slices_IndexFunc_api_Fn_api_Fn_prog_May_1_le | apply Le.po | apply Le.cond | apply Le.pl | apply Le.pg | apply Le.pm | apply Le.pq | apply Le.lp | apply Le.itU | exact Le.refl _
noncomputable def q_prog_May_J1 (a0 : T_Prog) (i_1 : Bool) : Option (Bool) :=
  cond i_1 (
  some false) (
  po (q_slices_ContainsFunc_api_Fn_api_Fn_prog_May_1 a0.Fns) fun r6 =>
  some (!r6))
theorem q_prog_May_J1_le (a0 : T_Prog) (i_1 : Bool) : Le (q_prog_May_J1 a0 i_1) (p_prog_May_J1 a0 i_1) := by
  unfold q_prog_May_J1 p_prog_May_J1
  repeat' with_reducible first | (intro _) | apply q_slices_ContainsFunc_api_Fn_api_Fn_prog_May_1_le | apply Le.po | apply Le.cond | apply Le.pl | apply Le.pg | apply Le.pm | apply Le.pq | apply Le.lp | apply Le.itU | exact Le.refl _
noncomputable def q_prog_May (a0 : T_Prog) : Option (Bool) :=
  po (
  cond ((a0.Fns.length : Int) == 0) (
  some true) (
  cond (decide ((a0.Fns.length : Int) > 8)) (
  some true) (
  po (a0.Fns[0]?) fun x4 =>
  some (x4.Args != 0)))) (fun x => q_prog_May_J1 a0 x)
theorem q_prog_May_le (a0 : T_Prog) : Le (q_prog_May a0) (p_prog_May a0) := by
  unfold q_prog_May p_prog_May
  repeat' with_reducible first | (intro _) | apply q_prog_May_J1_le | apply Le.po | apply Le.cond | apply Le.pl | apply Le.pg | apply Le.pm | apply Le.pq | apply Le.lp | apply Le.itU | exact Le.refl _
noncomputable def q_slices_IndexFunc_api_Schema_api_Schema_verify_Shapes_1 (a0 : (List T_Schema)) : Option (Int) :=
  pm (
  itF (fun x => p_slices_IndexFunc_api_Schema_api_Schema_verify_Shapes_1_L2 a0 x) 0) (fun x => p_slices_IndexFunc_api_Schema_api_Schema_verify_Shapes_1_J1)
theorem q_slices_IndexFunc_api_Schema_api_Schema_verify_Shapes_1_le (a0 : (List T_Schema)) : Le (q_slices_IndexFunc_api_Schema_api_Schema_verify_Shapes_1 a0) (p_slices_IndexFunc_api_Schema_api_Schema_verify_Shapes_1 a0) := by
  unfold q_slices_IndexFunc_api_Schema_api_Schema_verify_Shapes_1 p_slices_IndexFunc_api_Schema_api_Schema_verify_Shapes_1
  repeat' with_reducible first | (intro _) | apply Le.po | apply Le.cond | apply Le.pl | apply Le.pg | apply Le.pm | apply Le.pq | apply Le.lp | apply Le.itU | exact Le.refl _
noncomputable def q_slices_ContainsFunc_api_Schema_api_Schema_verify_Shapes_1 (a0 : (List T_Schema)) : Option (Bool) :=
  po (q_slices_IndexFunc_api_Schema_api_Schema_verify_Shapes_1 a0) fun r1 =>
  some (decide (r1 ≥ 0))
theorem q_slices_ContainsFunc_api_Schema_api_Schema_verify_Shapes_1_le (a0 : (List T_Schema)) : Le (q_slices_ContainsFunc_api_Schema_api_Schema_verify_Shapes_1 a0) (p_slices_ContainsFunc_api_Schema_api_Schema_verify_Shapes_1 a0) := by
  unfold q_slices_ContainsFunc_api_Schema_api_Schema_verify_Shapes_1 p_slices_ContainsFunc_api_Schema_api_Schema_verify_Shapes_1
  repeat' with_reducible first | (intro _) | apply q_slices_IndexFunc_api_Schema_api_Schema_verify_Shapes_1_le | apply Le.po | apply Le.cond | apply Le.pl | apply Le.pg | apply Le.pm | apply Le.pq | apply Le.lp | apply Le.itU | exact Le.refl _
noncomputable def q_shape_New_J1 (a0 : Int) (i_1 : Bool) : Option (T_Shape × Bool) :=
  cond i_1 (
  some ((T_Shape.mk (A8.mk false false false false false false false false) (A8.mk (C128.mk 0 0) (C128.mk 0 0) (C128.mk 0 0) (C128.mk 0 0) (C128.mk 0 0) (C128.mk 0 0) (C128.mk 0 0) (C128.mk 0 0))), false)) (
  po (
  itF (fun x => p_shape_New_L5 a0 x.1 x.2) ((T_Shape.mk (A8.mk false false false false false false false false) (A8.mk (C128.mk 0 0) (C128.mk 0 0) (C128.mk 0 0) (C128.mk 0 0) (C128.mk 0 0) (C128.mk 0 0) (C128.mk 0 0) (C128.mk 0 0))), 0)) (fun x => p_shape_New_J4 x))
theorem q_shape_New_J1_le (a0 : Int) (i_1 : Bool) : Le (q_shape_New_J1 a0 i_1) (p_shape_New_J1 a0 i_1) := by
  unfold q_shape_New_J1 p_shape_New_J1
  repeat' with_reducible first | (intro _) | apply Le.po | apply Le.cond | apply Le.pl | apply Le.pg | apply Le.pm | apply Le.pq | apply Le.lp | apply Le.itU | exact Le.refl _
noncomputable def q_shape_New (a0 : Int) : Option (T_Shape × Bool) :=
  po (
  cond (decide (a0 < 0)) (
  some true) (
  some (decide (a0 > 4)))) (fun x => q_shape_New_J1 a0 x)
theorem q_shape_New_le (a0 : Int) : Le (q_shape_New a0) (p_shape_New a0) := by
  unfold q_shape_New p_shape_New
  repeat' with_reducible first | (intro _) | apply q_shape_New_J1_le | apply Le.po | apply Le.cond | apply Le.pl | apply Le.pg | apply Le.pm | apply Le.pq | apply Le.lp | apply Le.itU | exact Le.refl _
noncomputable def q_shape_May (a0 : T_Shape) : Option (Bool) :=
  pm (
  itF (fun x => p_shape_May_L2 a0 x.1 x.2) (a0, 0)) (fun x => p_shape_May_J1 a0 x)
theorem q_shape_May_le (a0 : T_Shape) : Le (q_shape_May a0) (p_shape_May a0) := by
  unfold q_shape_May p_shape_May
  repeat' with_reducible first | (intro _) | apply Le.po | apply Le.cond | apply Le.pl | apply Le.pg | apply Le.pm | apply Le.pq | apply Le.lp | apply Le.itU | exact Le.refl _
noncomputable def q_shape_Put (a0 : T_Shape) (a1 : Int) (a2 : C128) : Option (T_Shape) :=
  pm (
  po (q_shape_May a0) fun r2 =>
  cond (!r2) (
  some (Sum.inr (T_Shape.mk (A8.mk false false false false false false false false) (A8.mk (C128.mk 0 0) (C128.mk 0 0) (C128.mk 0 0) (C128.mk 0 0) (C128.mk 0 0) (C128.mk 0 0) (C128.mk 0 0) (C128.mk 0 0))))) (
  po (p_shape_in a1) fun r4 =>
  cond (!r4) (
  some (Sum.inr a0)) (
  po (p_bounds_May a2) fun r6 =>
  cond (!r6) (
  po (p_shape_all) fun r8 =>
  some (Sum.inl r8)) (
  some (Sum.inl a2))))) (fun x => p_shape_Put_J1 a0 a1 x)
theorem q_shape_Put_le (a0 : T_Shape) (a1 : Int) (a2 : C128) : Le (q_shape_Put a0 a1 a2) (p_shape_Put a0 a1 a2) := by
  unfold q_shape_Put p_shape_Put
  repeat' with_reducible first | (intro _) | apply q_shape_May_le | apply Le.po | apply Le.cond | apply Le.pl | apply Le.pg | apply Le.pm | apply Le.pq | apply Le.lp | apply Le.itU | exact Le.refl _
noncomputable def q_shape_Join_J10 (a0 : T_Shape) (a1 : T_Shape) (s_4 : T_Shape) (i_5 : Int) (i_6 : Bool) : Option (T_Shape) :=
  cond i_6 (
  pg (0 ≤ i_5 ∧ i_5 < 8) <|
  po (p_bounds_Join (a0.R.get i_5.toNat) (a1.R.get i_5.toNat)) fun r15 =>
  po (q_shape_Put s_4 i_5 r15) fun r16 =>
  some r16) (
  some s_4)
theorem q_shape_Join_J10_le (a0 : T_Shape) (a1 : T_Shape) (s_4 : T_Shape) (i_5 : Int) (i_6 : Bool) : Le (q_shape_Join_J10 a0 a1 s_4 i_5 i_6) (p_shape_Join_J10 a0 a1 s_4 i_5 i_6) := by
  unfold q_shape_Join_J10 p_shape_Join_J10
  repeat' with_reducible first | (intro _) | apply q_shape_Put_le | apply Le.po | apply Le.cond | apply Le.pl | apply Le.pg | apply Le.pm | apply Le.pq | apply Le.lp | apply Le.itU | exact Le.refl _
noncomputable def q_shape_Join_L7 (a0 : T_Shape) (a1 : T_Shape) (s_4 : T_Shape) (i_5 : Int) : Option ((T_Shape × Int) ⊕ (T_Shape)) :=
  cond (decide (i_5 < 8)) (
  po (
  po (
  pg (0 ≤ i_5 ∧ i_5 < 8) <|
  cond (a0.Set.get i_5.toNat) (
  some (a1.Set.get i_5.toNat)) (
  some false)) (fun x => q_shape_Join_J10 a0 a1 s_4 i_5 x)) (fun x => p_shape_Join_J9 i_5 x)) (
  some (Sum.inr s_4))
theorem q_shape_Join_L7_le (a0 : T_Shape) (a1 : T_Shape) (s_4 : T_Shape) (i_5 : Int) : Le (q_shape_Join_L7 a0 a1 s_4 i_5) (p_shape_Join_L7 a0 a1 s_4 i_5) := by
  unfold q_shape_Join_L7 p_shape_Join_L7
  repeat' with_reducible first | (intro _) | apply q_shape_Join_J10_le | apply Le.po | apply Le.cond | apply Le.pl | apply Le.pg | apply Le.pm | apply Le.pq | apply Le.lp | apply Le.itU | exact Le.refl _
noncomputable def q_shape_Join_J1 (a0 : T_Shape) (a1 : T_Shape) (i_1 : Bool) : Option (T_Shape) :=
  cond i_1 (
  some (T_Shape.mk (A8.mk false false false false false false false false) (A8.mk (C128.mk 0 0) (C128.mk 0 0) (C128.mk 0 0) (C128.mk 0 0) (C128.mk 0 0) (C128.mk 0 0) (C128.mk 0 0) (C128.mk 0 0)))) (
  po (
  itF (fun x => q_shape_Join_L7 a0 a1 x.1 x.2) ((T_Shape.mk (A8.mk false false false false false false false false) (A8.mk (C128.mk 0 0) (C128.mk 0 0) (C128.mk 0 0) (C128.mk 0 0) (C128.mk 0 0) (C128.mk 0 0) (C128.mk 0 0) (C128.mk 0 0))), 0)) (fun x => p_shape_Join_J6 x))
theorem q_shape_Join_J1_le (a0 : T_Shape) (a1 : T_Shape) (i_1 : Bool) : Le (q_shape_Join_J1 a0 a1 i_1) (p_shape_Join_J1 a0 a1 i_1) := by
  unfold q_shape_Join_J1 p_shape_Join_J1
  repeat' with_reducible first | (intro _) | apply q_shape_Join_L7_le | apply Le.po | apply Le.cond | apply Le.pl | apply Le.pg | apply Le.pm | apply Le.pq | apply Le.lp | apply Le.itU | exact Le.refl _
noncomputable def q_shape_Join (a0 : T_Shape) (a1 : T_Shape) : Option (T_Shape) :=
  po (
  po (q_shape_May a0) fun r2 =>
  cond r2 (
  po (q_shape_May a1) fun r4 =>
  some (!r4)) (
  some true)) (fun x => q_shape_Join_J1 a0 a1 x)
theorem q_shape_Join_le (a0 : T_Shape) (a1 : T_Shape) : Le (q_shape_Join a0 a1) (p_shape_Join a0 a1) := by
  unfold q_shape_Join p_shape_Join
  repeat' with_reducible first | (intro _) | apply q_shape_May_le | apply q_shape_Join_J1_le | apply Le.po | apply Le.cond | apply Le.pl | apply Le.pg | apply Le.pm | apply Le.pq | apply Le.lp | apply Le.itU | exact Le.refl _
noncomputable def q_verify_work_to (a0 : T_verify_work) (a1 : Int) (a2 : T_Shape) : Option (T_verify_work) :=
  cond (decide (a1 ≥ (a0.in_.length : Int))) (
  some (T_verify_work.mk a0.p a0.fn a0.l a0.in_ a0.is a0.at_ false)) (
  po (idx a0.is a1) fun x2 =>
  cond x2 (
  po (idx a0.in_ a1) fun x4 =>
  po (q_shape_Join x4 a2) fun r5 =>
  pl (a0.in_.set a1.toNat r5) fun y6 =>
  some (T_verify_work.mk a0.p a0.fn a0.l y6 a0.is a0.at_ a0.safe)) (
  po (idx a0.in_ a1) fun x7 =>
  pl (a0.in_.set a1.toNat a2) fun y8 =>
  pl (a0.is.set a1.toNat true) fun y9 =>
  some (T_verify_work.mk a0.p a0.fn a0.l y8 y9 a0.at_ a0.safe)))
theorem q_verify_work_to_le (a0 : T_verify_work) (a1 : Int) (a2 : T_Shape) : Le (q_verify_work_to a0 a1 a2) (p_verify_work_to a0 a1 a2) := by
  unfold q_verify_work_to p_verify_work_to
  repeat' with_reducible first | (intro _) | apply q_shape_Join_le | apply Le.po | apply Le.cond | apply Le.pl | apply Le.pg | apply Le.pm | apply Le.pq | apply Le.lp | apply Le.itU | exact Le.refl _
noncomputable def q_shape_Get (a0 : T_Shape) (a1 : Int) : Option (C128 × Bool) :=
  po (
  po (q_shape_May a0) fun r2 =>
  cond r2 (
  po (p_shape_in a1) fun r4 =>
  cond r4 (
  pg (0 ≤ a1 ∧ a1 < 8) <|
  some (!(a0.Set.get a1.toNat))) (
  some true)) (
  some true)) (fun x => p_shape_Get_J1 a0 a1 x)
theorem q_shape_Get_le (a0 : T_Shape) (a1 : Int) : Le (q_shape_Get a0 a1) (p_shape_Get a0 a1) := by
  unfold q_shape_Get p_shape_Get
  repeat' with_reducible first | (intro _) | apply q_shape_May_le | apply Le.po | apply Le.cond | apply Le.pl | apply Le.pg | apply Le.pm | apply Le.pq | apply Le.lp | apply Le.itU | exact Le.refl _
noncomputable def q_shape_Word_J1 (a0 : T_Shape) (a1 : T_Inst) (i_1 : Bool) : Option (C128 × Bool) :=
  cond i_1 (
  some ((C128.mk 0 0), false)) (
  cond a1.Reg (
  po (q_shape_Get a0 a1.Src) fun r7 =>
  some (r7.1, r7.2)) (
  po (p_bounds_Of a1.Imm a1.Imm) fun r8 =>
  some (r8, true)))
theorem q_shape_Word_J1_le (a0 : T_Shape) (a1 : T_Inst) (i_1 : Bool) : Le (q_shape_Word_J1 a0 a1 i_1) (p_shape_Word_J1 a0 a1 i_1) := by
  unfold q_shape_Word_J1 p_shape_Word_J1
  repeat' with_reducible first | (intro _) | apply q_shape_Get_le | apply Le.po | apply Le.cond | apply Le.pl | apply Le.pg | apply Le.pm | apply Le.pq | apply Le.lp | apply Le.itU | exact Le.refl _
noncomputable def q_shape_Word (a0 : T_Shape) (a1 : T_Inst) : Option (C128 × Bool) :=
  po (
  po (q_shape_May a0) fun r2 =>
  cond (!r2) (
  some (!r2)) (
  po (p_inst_May a1) fun r4 =>
  some (!r4))) (fun x => q_shape_Word_J1 a0 a1 x)
theorem q_shape_Word_le (a0 : T_Shape) (a1 : T_Inst) : Le (q_shape_Word a0 a1) (p_shape_Word a0 a1) := by
  unfold q_shape_Word p_shape_Word
  repeat' with_reducible first | (intro _) | apply q_shape_May_le | apply q_shape_Word_J1_le | apply Le.po | apply Le.cond | apply Le.pl | apply Le.pg | apply Le.pm | apply Le.pq | apply Le.lp | apply Le.itU | exact Le.refl _
noncomputable def q_verify_work_word (a0 : T_verify_work) (a1 : T_Inst) : Option (C128 × T_verify_work) :=
  po (p_verify_work_here a0) fun r1 =>
  pg (r1.2 = a0) <|
  po (q_shape_Word r1.1 a1) fun r3 =>
  po (
  cond a0.safe (
  some (T_verify_work.mk a0.p a0.fn a0.l a0.in_ a0.is a0.at_ r3.2)) (
  some (T_verify_work.mk a0.p a0.fn a0.l a0.in_ a0.is a0.at_ false))) (fun x => p_verify_work_word_J4 r3 x)
theorem q_verify_work_word_le (a0 : T_verify_work) (a1 : T_Inst) : Le (q_verify_work_word a0 a1) (p_verify_work_word a0 a1) := by
  unfold q_verify_work_word p_verify_work_word
  repeat' with_reducible first | (intro _) | apply q_shape_Word_le | apply Le.po | apply Le.cond | apply Le.pl | apply Le.pg | apply Le.pm | apply Le.pq | apply Le.lp | apply Le.itU | exact Le.refl _
noncomputable def q_verify_work_get (a0 : T_verify_work) (a1 : Int) : Option (C128 × T_verify_work) :=
  po (p_verify_work_here a0) fun r1 =>
  pg (r1.2 = a0) <|
  po (q_shape_Get r1.1 a1) fun r3 =>
  po (
  cond a0.safe (
  some (T_verify_work.mk a0.p a0.fn a0.l a0.in_ a0.is a0.at_ r3.2)) (
  some (T_verify_work.mk a0.p a0.fn a0.l a0.in_ a0.is a0.at_ false))) (fun x => p_verify_work_get_J4 r3 x)
theorem q_verify_work_get_le (a0 : T_verify_work) (a1 : Int) : Le (q_verify_work_get a0 a1) (p_verify_work_get a0 a1) := by
  unfold q_verify_work_get p_verify_work_get
  repeat' with_reducible first | (intro _) | apply q_shape_Get_le | apply Le.po | apply Le.cond | apply Le.pl | apply Le.pg | apply Le.pm | apply Le.pq | apply Le.lp | apply Le.itU | exact Le.refl _
noncomputable def q_bounds_power (a0 : UInt64) (a1 : UInt64) : Option (UInt64) :=
  po (
  itF (fun x => p_bounds_power_L2 a0 a1 x) 1) (fun x => p_bounds_power_J1 x)
theorem q_bounds_power_le (a0 : UInt64) (a1 : UInt64) : Le (q_bounds_power a0 a1) (p_bounds_power a0 a1) := by
  unfold q_bounds_power p_bounds_power
  repeat' with_reducible first | (intro _) | apply Le.po | apply Le.cond | apply Le.pl | apply Le.pg | apply Le.pm | apply Le.pq | apply Le.lp | apply Le.itU | exact Le.refl _
noncomputable def q_bounds_rules_8 (a0 : T_bounds_span) (a1 : T_bounds_span) : Option (T_bounds_span) :=
  po (q_bounds_power a0.high a1.high) fun r1 =>
  some (T_bounds_span.mk (max64 a0.low a1.low) (r1 - 1))
theorem q_bounds_rules_8_le (a0 : T_bounds_span) (a1 : T_bounds_span) : Le (q_bounds_rules_8 a0 a1) (p_bounds_rules_8 a0 a1) := by
  unfold q_bounds_rules_8 p_bounds_rules_8
  repeat' with_reducible first | (intro _) | apply q_bounds_power_le | apply Le.po | apply Le.cond | apply Le.pl | apply Le.pg | apply Le.pm | apply Le.pq | apply Le.lp | apply Le.itU | exact Le.refl _
noncomputable def q_bounds_rules_9 (a0 : T_bounds_span) (a1 : T_bounds_span) : Option (T_bounds_span) :=
  po (q_bounds_power a0.high a1.high) fun r1 =>
  some (T_bounds_span.mk 0 (r1 - 1))
theorem q_bounds_rules_9_le (a0 : T_bounds_span) (a1 : T_bounds_span) : Le (q_bounds_rules_9 a0 a1) (p_bounds_rules_9 a0 a1) := by
  unfold q_bounds_rules_9 p_bounds_rules_9
  repeat' with_reducible first | (intro _) | apply q_bounds_power_le | apply Le.po | apply Le.cond | apply Le.pl | apply Le.pg | apply Le.pm | apply Le.pq | apply Le.lp | apply Le.itU | exact Le.refl _
noncomputable def q_bounds_Alu_J1 (a0 : Int) (a1 : C128) (a2 : C128) (i_1 : Bool) : Option (C128) :=
  cond i_1 (
  po (p_bounds_fit 1 0) fun r4 =>
  po (p_bounds_span_told r4) fun r5 =>
  some r5) (
  po (some ()) fun r7 =>
  cond (a0 == 0) (
  po (p_bounds_of a1) fun r9 =>
  po (p_bounds_of a2) fun r10 =>
  po (p_bounds_rules_1 r9 r10) fun r11 =>
  po (p_bounds_span_told r11) fun r12 =>
  some r12) (
  cond (a0 == 1) (
  po (p_bounds_of a1) fun r14 =>
  po (p_bounds_of a2) fun r15 =>
  po (p_bounds_rules_2 r14 r15) fun r16 =>
  po (p_bounds_span_told r16) fun r17 =>
  some r17) (
  cond (a0 == 2) (
  po (p_bounds_of a1) fun r19 =>
  po (p_bounds_of a2) fun r20 =>
  po (p_bounds_rules_3 r19 r20) fun r21 =>
  po (p_bounds_span_told r21) fun r22 =>
  some r22) (
  cond (a0 == 3) (
  po (p_bounds_of a1) fun r24 =>
  po (p_bounds_of a2) fun r25 =>
  po (p_bounds_rules_4 r24 r25) fun r26 =>
  po (p_bounds_span_told r26) fun r27 =>
  some r27) (
  cond (a0 == 4) (
  po (p_bounds_of a1) fun r29 =>
  po (p_bounds_of a2) fun r30 =>
  po (p_bounds_rules_5 r29 r30) fun r31 =>
  po (p_bounds_span_told r31) fun r32 =>
  some r32) (
  cond (a0 == 5) (
  po (p_bounds_of a1) fun r34 =>
  po (p_bounds_of a2) fun r35 =>
  po (p_bounds_rules_6 r34 r35) fun r36 =>
  po (p_bounds_span_told r36) fun r37 =>
  some r37) (
  cond (a0 == 6) (
  po (p_bounds_of a1) fun r39 =>
  po (p_bounds_of a2) fun r40 =>
  po (p_bounds_rules_7 r39 r40) fun r41 =>
  po (p_bounds_span_told r41) fun r42 =>
  some r42) (
  cond (a0 == 7) (
  po (p_bounds_of a1) fun r44 =>
  po (p_bounds_of a2) fun r45 =>
  po (q_bounds_rules_8 r44 r45) fun r46 =>
  po (p_bounds_span_told r46) fun r47 =>
  some r47) (
  cond (a0 == 8) (
  po (p_bounds_of a1) fun r49 =>
  po (p_bounds_of a2) fun r50 =>
  po (q_bounds_rules_9 r49 r50) fun r51 =>
  po (p_bounds_span_told r51) fun r52 =>
  some r52) (
  cond (a0 == 9) (
  po (p_bounds_of a1) fun r54 =>
  po (p_bounds_of a2) fun r55 =>
  po (p_bounds_rules_10 r54 r55) fun r56 =>
  po (p_bounds_span_told r56) fun r57 =>
  some r57) (
  cond (a0 == 10) (
  po (p_bounds_of a1) fun r59 =>
  po (p_bounds_of a2) fun r60 =>
  po (p_bounds_rules_11 r59 r60) fun r61 =>
  po (p_bounds_span_told r61) fun r62 =>
  some r62) (
  none))))))))))))
theorem q_bounds_Alu_J1_le (a0 : Int) (a1 : C128) (a2 : C128) (i_1 : Bool) : Le (q_bounds_Alu_J1 a0 a1 a2 i_1) (p_bounds_Alu_J1 a0 a1 a2 i_1) := by
  unfold q_bounds_Alu_J1 p_bounds_Alu_J1
  repeat' with_reducible first | (intro _) | apply q_bounds_rules_8_le | apply q_bounds_rules_9_le | apply Le.po | apply Le.cond | apply Le.pl | apply Le.pg | apply Le.pm | apply Le.pq | apply Le.lp | apply Le.itU | exact Le.refl _
noncomputable def q_bounds_Alu (a0 : Int) (a1 : C128) (a2 : C128) : Option (C128) :=
  po (
  cond (decide (a0 < 0)) (
  some true) (
  some (decide (a0 ≥ 11)))) (fun x => q_bounds_Alu_J1 a0 a1 a2 x)
theorem q_bounds_Alu_le (a0 : Int) (a1 : C128) (a2 : C128) : Le (q_bounds_Alu a0 a1 a2) (p_bounds_Alu a0 a1 a2) := by
  unfold q_bounds_Alu p_bounds_Alu
  repeat' with_reducible first | (intro _) | apply q_bounds_Alu_J1_le | apply Le.po | apply Le.cond | apply Le.pl | apply Le.pg | apply Le.pm | apply Le.pq | apply Le.lp | apply Le.itU | exact Le.refl _
noncomputable def q_verify_work_then (a0 : T_verify_work) (a1 : T_Shape) : Option (T_verify_work) :=
  cond a0.safe (
  po (q_verify_work_to a0 (IntKind.i64.wrap (a0.at_ + 1)) a1) fun r2 =>
  some r2) (
  some a0)
theorem q_verify_work_then_le (a0 : T_verify_work) (a1 : T_Shape) : Le (q_verify_work_then a0 a1) (p_verify_work_then a0 a1) := by
  unfold q_verify_work_then p_verify_work_then
  repeat' with_reducible first | (intro _) | apply q_verify_work_to_le | apply Le.po | apply Le.cond | apply Le.pl | apply Le.pg | apply Le.pm | apply Le.pq | apply Le.lp | apply Le.itU | exact Le.refl _
noncomputable def q_verify_work_put (a0 : T_verify_work) (a1 : Int) (a2 : C128) : Option (T_verify_work) :=
  po (p_verify_work_here a0) fun r1 =>
  pg (r1.2 = a0) <|
  po (q_shape_Put r1.1 a1 a2) fun r3 =>
  po (q_verify_work_then a0 r3) fun r4 =>
  some r4
theorem q_verify_work_put_le (a0 : T_verify_work) (a1 : Int) (a2 : C128) : Le (q_verify_work_put a0 a1 a2) (p_verify_work_put a0 a1 a2) := by
  unfold q_verify_work_put p_verify_work_put
  repeat' with_reducible first | (intro _) | apply q_shape_Put_le | apply q_verify_work_then_le | apply Le.po | apply Le.cond | apply Le.pl | apply Le.pg | apply Le.pm | apply Le.pq | apply Le.lp | apply Le.itU | exact Le.refl _
noncomputable def q_verify_work_alu_J3 (a1 : T_Inst) (r2 : C128 × T_verify_work) (s_1 : T_verify_work) (i_2 : C128) : Option (T_verify_work) :=
  po (q_bounds_Alu a1.Fn i_2 r2.1) fun r6 =>
  po (q_verify_work_put s_1 a1.Dst r6) fun r7 =>
  some r7
theorem q_verify_work_alu_J3_le (a1 : T_Inst) (r2 : C128 × T_verify_work) (s_1 : T_verify_work) (i_2 : C128) : Le (q_verify_work_alu_J3 a1 r2 s_1 i_2) (p_verify_work_alu_J3 a1 r2 s_1 i_2) := by
  unfold q_verify_work_alu_J3 p_verify_work_alu_J3
  repeat' with_reducible first | (intro _) | apply q_bounds_Alu_le | apply q_verify_work_put_le | apply Le.po | apply Le.cond | apply Le.pl | apply Le.pg | apply Le.pm | apply Le.pq | apply Le.lp | apply Le.itU | exact Le.refl _
noncomputable def q_verify_work_alu (a0 : T_verify_work) (a1 : T_Inst) : Option (T_verify_work) :=
  po (p_bounds_Of 0 4294967295) fun r1 =>
  po (q_verify_work_word a0 a1) fun r2 =>
  po (
  cond (a1.Fn != 0) (
  po (q_verify_work_get r2.2 a1.Dst) fun r5 =>
  some (r5.2, r5.1)) (
  some (r2.2, r1))) (fun x => q_verify_work_alu_J3 a1 r2 x.1 x.2)
theorem q_verify_work_alu_le (a0 : T_verify_work) (a1 : T_Inst) : Le (q_verify_work_alu a0 a1) (p_verify_work_alu a0 a1) := by
  unfold q_verify_work_alu p_verify_work_alu
  repeat' with_reducible first | (intro _) | apply q_verify_work_word_le | apply q_verify_work_get_le | apply q_verify_work_alu_J3_le | apply Le.po | apply Le.cond | apply Le.pl | apply Le.pg | apply Le.pm | apply Le.pq | apply Le.lp | apply Le.itU | exact Le.refl _
noncomputable def q_verify_work_ctx (a0 : T_verify_work) (a1 : T_Inst) : Option (T_verify_work) :=
  po (q_verify_work_word a0 a1) fun r1 =>
  po (p_verify_work_within r1.2 r1.1 4) fun r2 =>
  po (p_bounds_Of 0 4294967295) fun r3 =>
  po (q_verify_work_put r2 a1.Dst r3) fun r4 =>
  some r4
theorem q_verify_work_ctx_le (a0 : T_verify_work) (a1 : T_Inst) : Le (q_verify_work_ctx a0 a1) (p_verify_work_ctx a0 a1) := by
  unfold q_verify_work_ctx p_verify_work_ctx
  repeat' with_reducible first | (intro _) | apply q_verify_work_word_le | apply q_verify_work_put_le | apply Le.po | apply Le.cond | apply Le.pl | apply Le.pg | apply Le.pm | apply Le.pq | apply Le.lp | apply Le.itU | exact Le.refl _
noncomputable def q_verify_work_exit (a0 : T_verify_work) (a1 : T_Inst) : Option (T_verify_work) :=
  po (q_verify_work_get a0 0) fun r1 =>
  some r1.2
theorem q_verify_work_exit_le (a0 : T_verify_work) (a1 : T_Inst) : Le (q_verify_work_exit a0 a1) (p_verify_work_exit a0 a1) := by
  unfold q_verify_work_exit p_verify_work_exit
  repeat' with_reducible first | (intro _) | apply q_verify_work_get_le | apply Le.po | apply Le.cond | apply Le.pl | apply Le.pg | apply Le.pm | apply Le.pq | apply Le.lp | apply Le.itU | exact Le.refl _
noncomputable def q_verify_Shapes_L20 (x10 : T_Fn) (s_4 : T_verify_work) (i_5 : Int) : Option ((T_verify_work × Int) ⊕ ((T_verify_work) ⊕ ((List T_Shape) × (List Bool) × Int))) :=
  cond (decide (i_5 < (x10.Code.length : Int))) (
  po (idx x10.Code i_5) fun x22 =>
  po (
  po (idx s_4.is i_5) fun x24 =>
  cond x24 (
  cond (x22.Op == 0) (
  po (q_verify_work_alu (T_verify_work.mk s_4.p s_4.fn s_4.l s_4.in_ s_4.is i_5 s_4.safe) x22) fun r27 =>
  some r27) (
  cond (x22.Op == 1) (
  po (p_verify_work_jump (T_verify_work.mk s_4.p s_4.fn s_4.l s_4.in_ s_4.is i_5 s_4.safe) x22) fun r29 =>
  some r29) (
  cond (x22.Op == 2) (
  po (q_verify_work_ctx (T_verify_work.mk s_4.p s_4.fn s_4.l s_4.in_ s_4.is i_5 s_4.safe) x22) fun r31 =>
  some r31) (
  cond (x22.Op == 3) (
  po (p_verify_work_load (T_verify_work.mk s_4.p s_4.fn s_4.l s_4.in_ s_4.is i_5 s_4.safe) x22) fun r33 =>
  some r33) (
  cond (x22.Op == 4) (
  po (p_verify_work_store (T_verify_work.mk s_4.p s_4.fn s_4.l s_4.in_ s_4.is i_5 s_4.safe) x22) fun r35 =>
  some r35) (
  cond (x22.Op == 5) (
  po (p_verify_work_help (T_verify_work.mk s_4.p s_4.fn s_4.l s_4.in_ s_4.is i_5 s_4.safe) x22) fun r37 =>
  some r37) (
  cond (x22.Op == 6) (
  po (p_verify_work_call (T_verify_work.mk s_4.p s_4.fn s_4.l s_4.in_ s_4.is i_5 s_4.safe) x22) fun r39 =>
  some r39) (
  cond (x22.Op == 7) (
  po (q_verify_work_exit (T_verify_work.mk s_4.p s_4.fn s_4.l s_4.in_ s_4.is i_5 s_4.safe) x22) fun r41 =>
  some r41) (
  none))))))))) (
  some (T_verify_work.mk s_4.p s_4.fn s_4.l s_4.in_ s_4.is i_5 s_4.safe))) (fun x => p_verify_Shapes_J23 i_5 x)) (
  some (Sum.inr (Sum.inl s_4)))
theorem q_verify_Shapes_L20_le (x10 : T_Fn) (s_4 : T_verify_work) (i_5 : Int) : Le (q_verify_Shapes_L20 x10 s_4 i_5) (p_verify_Shapes_L20 x10 s_4 i_5) := by
  unfold q_verify_Shapes_L20 p_verify_Shapes_L20
  repeat' with_reducible first | (intro _) | apply q_verify_work_alu_le | apply q_verify_work_ctx_le | apply q_verify_work_exit_le | apply Le.po | apply Le.cond | apply Le.pl | apply Le.pg | apply Le.pm | apply Le.pq | apply Le.lp | apply Le.itU | exact Le.refl _
noncomputable def q_verify_Shapes_J7 (a0 : T_Prog) (a1 : Int) (a2 : (List T_Schema)) (i_2 : Bool) : Option ((List T_Shape) × (List Bool) × Int) :=
  cond i_2 (
  some ([], [], 3)) (
  po (idx a0.Fns a1) fun x10 =>
  pg (0 ≤ (x10.Code.length : Int) ∧ 136 * (x10.Code.length : Int) ≤ 140737488355328) <|
  pl (List.replicate x10.Code.length (T_Shape.mk (A8.mk false false false false false false false false) (A8.mk (C128.mk 0 0) (C128.mk 0 0) (C128.mk 0 0) (C128.mk 0 0) (C128.mk 0 0) (C128.mk 0 0) (C128.mk 0 0) (C128.mk 0 0)))) fun y12 =>
  pg (0 ≤ (x10.Code.length : Int) ∧ 1 * (x10.Code.length : Int) ≤ 140737488355328) <|
  pl (List.replicate x10.Code.length false) fun y14 =>
  po (q_shape_New x10.Args) fun r15 =>
  po (q_verify_work_to (T_verify_work.mk a0 a1 a2 y12 y14 0 true) 0 r15.1) fun r16 =>
  po (some ()) fun r18 =>
  pm (
  itF (fun x => q_verify_Shapes_L20 x10 x.1 x.2) (r16, 0)) (fun x => p_verify_Shapes_J19 x))
theorem q_verify_Shapes_J7_le (a0 : T_Prog) (a1 : Int) (a2 : (List T_Schema)) (i_2 : Bool) : Le (q_verify_Shapes_J7 a0 a1 a2 i_2) (p_verify_Shapes_J7 a0 a1 a2 i_2) := by
  unfold q_verify_Shapes_J7 p_verify_Shapes_J7
  repeat' with_reducible first | (intro _) | apply q_shape_New_le | apply q_verify_work_to_le | apply q_verify_Shapes_L20_le | apply Le.po | apply Le.cond | apply Le.pl | apply Le.pg | apply Le.pm | apply Le.pq | apply Le.lp | apply Le.itU | exact Le.refl _
noncomputable def q_verify_Shapes_J1 (a0 : T_Prog) (a1 : Int) (a2 : (List T_Schema)) (i_1 : Bool) : Option ((List T_Shape) × (List Bool) × Int) :=
  cond i_1 (
  some ([], [], 1)) (
  po (
  cond (decide (a1 < 0)) (
  some (decide (a1 < 0))) (
  some (decide (a1 ≥ (a0.Fns.length : Int))))) (fun x => q_verify_Shapes_J7 a0 a1 a2 x))
theorem q_verify_Shapes_J1_le (a0 : T_Prog) (a1 : Int) (a2 : (List T_Schema)) (i_1 : Bool) : Le (q_verify_Shapes_J1 a0 a1 a2 i_1) (p_verify_Shapes_J1 a0 a1 a2 i_1) := by
  unfold q_verify_Shapes_J1 p_verify_Shapes_J1
  repeat' with_reducible first | (intro _) | apply q_verify_Shapes_J7_le | apply Le.po | apply Le.cond | apply Le.pl | apply Le.pg | apply Le.pm | apply Le.pq | apply Le.lp | apply Le.itU | exact Le.refl _
noncomputable def q_verify_Shapes (a0 : T_Prog) (a1 : Int) (a2 : (List T_Schema)) : Option ((List T_Shape) × (List Bool) × Int) :=
  po (
  po (q_prog_May a0) fun r2 =>
  cond (!r2) (
  some (!r2)) (
  cond (decide ((a2.length : Int) > 4)) (
  some (decide ((a2.length : Int) > 4))) (
  po (q_slices_ContainsFunc_api_Schema_api_Schema_verify_Shapes_1 a2) fun r5 =>
  some r5))) (fun x => q_verify_Shapes_J1 a0 a1 a2 x)
theorem q_verify_Shapes_le (a0 : T_Prog) (a1 : Int) (a2 : (List T_Schema)) : Le (q_verify_Shapes a0 a1 a2) (p_verify_Shapes a0 a1 a2) := by
  unfold q_verify_Shapes p_verify_Shapes
  repeat' with_reducible first | (intro _) | apply q_prog_May_le | apply q_slices_ContainsFunc_api_Schema_api_Schema_verify_Shapes_1_le | apply q_verify_Shapes_J1_le | apply Le.po | apply Le.cond | apply Le.pl | apply Le.pg | apply Le.pm | apply Le.pq | apply Le.lp | apply Le.itU | exact Le.refl _
noncomputable def q_verify_inside (a0 : T_Prog) (a1 : Int) : Option (Bool) :=
  po (idx a0.Fns a1) fun x1 =>
  pm (
  itF (fun x => p_verify_inside_L3 a0 x1 x) 0) (fun x => p_verify_inside_J2)
theorem q_verify_inside_le (a0 : T_Prog) (a1 : Int) : Le (q_verify_inside a0 a1) (p_verify_inside a0 a1) := by
  unfold q_verify_inside p_verify_inside
  repeat' with_reducible first | (intro _) | apply Le.po | apply Le.cond | apply Le.pl | apply Le.pg | apply Le.pm | apply Le.pq | apply Le.lp | apply Le.itU | exact Le.refl _
noncomputable def q_verify_Verify_L2 (a0 : T_Prog) (a1 : (List T_Schema)) (i_1 : Int) : Option ((Int) ⊕ ((Unit) ⊕ (Int × Int))) :=
  cond (decide (i_1 < (maxI 1 (a0.Fns.length : Int)))) (
  po (q_verify_Shapes a0 i_1 a1) fun r4 =>
  cond (r4.2.2 != 0) (
  some (Sum.inr (Sum.inr (0, r4.2.2)))) (
  po (q_verify_inside a0 i_1) fun r6 =>
  cond (!r6) (
  some (Sum.inr (Sum.inr (0, 8)))) (
  some (Sum.inl (IntKind.i64.wrap (i_1 + 1)))))) (
  some (Sum.inr (Sum.inl ())))
theorem q_verify_Verify_L2_le (a0 : T_Prog) (a1 : (List T_Schema)) (i_1 : Int) : Le (q_verify_Verify_L2 a0 a1 i_1) (p_verify_Verify_L2 a0 a1 i_1) := by
  unfold q_verify_Verify_L2 p_verify_Verify_L2
  repeat' with_reducible first | (intro _) | apply q_verify_Shapes_le | apply q_verify_inside_le | apply Le.po | apply Le.cond | apply Le.pl | apply Le.pg | apply Le.pm | apply Le.pq | apply Le.lp | apply Le.itU | exact Le.refl _
noncomputable def q_slices_IndexFunc_api_Inst_api_Inst_course_may_1 (a0 : (List T_Inst)) : Option (Int) :=
  pm (
  itF (fun x => p_slices_IndexFunc_api_Inst_api_Inst_course_may_1_L2 a0 x) 0) (fun x => p_slices_IndexFunc_api_Inst_api_Inst_course_may_1_J1)
theorem q_slices_IndexFunc_api_Inst_api_Inst_course_may_1_le (a0 : (List T_Inst)) : Le (q_slices_IndexFunc_api_Inst_api_Inst_course_may_1 a0) (p_slices_IndexFunc_api_Inst_api_Inst_course_may_1 a0) := by
  unfold q_slices_IndexFunc_api_Inst_api_Inst_course_may_1 p_slices_IndexFunc_api_Inst_api_Inst_course_may_1
  repeat' with_reducible first | (intro _) | apply Le.po | apply Le.cond | apply Le.pl | apply Le.pg | apply Le.pm | apply Le.pq | apply Le.lp | apply Le.itU | exact Le.refl _
noncomputable def q_slices_ContainsFunc_api_Inst_api_Inst_course_may_1 (a0 : (List T_Inst)) : Option (Bool) :=
  po (q_slices_IndexFunc_api_Inst_api_Inst_course_may_1 a0) fun r1 =>
  some (decide (r1 ≥ 0))
theorem q_slices_ContainsFunc_api_Inst_api_Inst_course_may_1_le (a0 : (List T_Inst)) : Le (q_slices_ContainsFunc_api_Inst_api_Inst_course_may_1 a0) (p_slices_ContainsFunc_api_Inst_api_Inst_course_may_1 a0) := by
  unfold q_slices_ContainsFunc_api_Inst_api_Inst_course_may_1 p_slices_ContainsFunc_api_Inst_api_Inst_course_may_1
  repeat' with_reducible first | (intro _) | apply q_slices_IndexFunc_api_Inst_api_Inst_course_may_1_le | apply Le.po | apply Le.cond | apply Le.pl | apply Le.pg | apply Le.pm | apply Le.pq | apply Le.lp | apply Le.itU | exact Le.refl _
noncomputable def q_course_may (a0 : (List T_Inst)) : Option (Bool) :=
  po (
  cond (decide ((a0.length : Int) > 0)) (
  cond (decide ((a0.length : Int) ≤ 64)) (
  po (q_slices_ContainsFunc_api_Inst_api_Inst_course_may_1 a0) fun r4 =>
  some (!r4)) (
  some false)) (
  some false)) (fun x => p_course_may_J1 x)
theorem q_course_may_le (a0 : (List T_Inst)) : Le (q_course_may a0) (p_course_may a0) := by
  unfold q_course_may p_course_may
  repeat' with_reducible first | (intro _) | apply q_slices_ContainsFunc_api_Inst_api_Inst_course_may_1_le | apply Le.po | apply Le.cond | apply Le.pl | apply Le.pg | apply Le.pm | apply Le.pq | apply Le.lp | apply Le.itU | exact Le.refl _
noncomputable def q_course_Longest_L3 (a0 : (List T_Inst)) (a1 : (List Int)) (w_27 : (AN 65)) (i_28 : Int) : Option (((AN 65) × Int) ⊕ (Int)) :=
  po (
  po (p_course_next a0 i_28) fun r5 =>
  itF (fun x => p_course_Longest_L6 a0 w_27 r5 x.1 x.2.1 x.2.2) (0, r5, 0)) (fun x => p_course_Longest_J4 a0 a1 w_27 i_28 x)
theorem q_course_Longest_L3_le (a0 : (List T_Inst)) (a1 : (List Int)) (w_27 : (AN 65)) (i_28 : Int) : Le (q_course_Longest_L3 a0 a1 w_27 i_28) (p_course_Longest_L3 a0 a1 w_27 i_28) := by
  unfold q_course_Longest_L3 p_course_Longest_L3
  repeat' with_reducible first | (intro _) | apply Le.po | apply Le.cond | apply Le.pl | apply Le.pg | apply Le.pm | apply Le.pq | apply Le.lp | apply Le.itU | exact Le.refl _
noncomputable def q_course_Longest (a0 : (List T_Inst)) (a1 : (List Int)) : Option (Int) :=
  po (q_course_may a0) fun r1 =>
  cond (!r1) (
  some 0) (
  itF (fun x => q_course_Longest_L3 a0 a1 x.1 x.2) ((AN.zero 65), (IntKind.i64.wrap ((a0.length : Int) - 1))))
theorem q_course_Longest_le (a0 : (List T_Inst)) (a1 : (List Int)) : Le (q_course_Longest a0 a1) (p_course_Longest a0 a1) := by
  unfold q_course_Longest p_course_Longest
  repeat' with_reducible first | (intro _) | apply q_course_may_le | apply q_course_Longest_L3_le | apply Le.po | apply Le.cond | apply Le.pl | apply Le.pg | apply Le.pm | apply Le.pq | apply Le.lp | apply Le.itU | exact Le.refl _
noncomputable def q_course_Budget_L7 (a0 : T_Prog) (l_4 : (List Int)) (u6 : Int) : Option (((List Int)) ⊕ (Unit)) :=
  po (idx a0.Fns u6) fun x8 =>
  po (q_course_Longest x8.Code l_4) fun r9 =>
  po (idx l_4 u6) fun x10 =>
  pl (l_4.set u6.toNat r9) fun y11 =>
  some (Sum.inl y11)
theorem q_course_Budget_L7_le (a0 : T_Prog) (l_4 : (List Int)) (u6 : Int) : Le (q_course_Budget_L7 a0 l_4 u6) (p_course_Budget_L7 a0 l_4 u6) := by
  unfold q_course_Budget_L7 p_course_Budget_L7
  repeat' with_reducible first | (intro _) | apply q_course_Longest_le | apply Le.po | apply Le.cond | apply Le.pl | apply Le.pg | apply Le.pm | apply Le.pq | apply Le.lp | apply Le.itU | exact Le.refl _
noncomputable def q_course_Budget (a0 : T_Prog) : Option (Int) :=
  po (q_prog_May a0) fun r1 =>
  cond (!r1) (
  some 0) (
  pg (0 ≤ (a0.Fns.length : Int) ∧ 8 * (a0.Fns.length : Int) ≤ 140737488355328) <|
  pl (List.replicate a0.Fns.length 0) fun y4 =>
  po (
  pq (itU (fun x u => q_course_Budget_L7 a0 x u) (backL a0.Fns) y4) (fun x => p_course_Budget_K7 x) (fun _ => none)) (fun x => p_course_Budget_J5 x))
theorem q_course_Budget_le (a0 : T_Prog) : Le (q_course_Budget a0) (p_course_Budget a0) := by
  unfold q_course_Budget p_course_Budget
  repeat' with_reducible first | (intro _) | apply q_prog_May_le | apply q_course_Budget_L7_le | apply Le.po | apply Le.cond | apply Le.pl | apply Le.pg | apply Le.pm | apply Le.pq | apply Le.lp | apply Le.itU | exact Le.refl _
noncomputable def q_verify_Verify_J1 (a0 : T_Prog) : Option (Int × Int) :=
  po (q_course_Budget a0) fun r8 =>
  cond (decide (r8 > 2000)) (
  some (0, 2)) (
  some (r8, 0))
theorem q_verify_Verify_J1_le (a0 : T_Prog) : Le (q_verify_Verify_J1 a0) (p_verify_Verify_J1 a0) := by
  unfold q_verify_Verify_J1 p_verify_Verify_J1
  repeat' with_reducible first | (intro _) | apply q_course_Budget_le | apply Le.po | apply Le.cond | apply Le.pl | apply Le.pg | apply Le.pm | apply Le.pq | apply Le.lp | apply Le.itU | exact Le.refl _
noncomputable def q_verify_Verify (a0 : T_Prog) (a1 : (List T_Schema)) : Option (Int × Int) :=
  pm (
  itF (fun x => q_verify_Verify_L2 a0 a1 x) 0) (fun x => q_verify_Verify_J1 a0)
theorem q_verify_Verify_le (a0 : T_Prog) (a1 : (List T_Schema)) : Le (q_verify_Verify a0 a1) (p_verify_Verify a0 a1) := by
  unfold q_verify_Verify p_verify_Verify
  repeat' with_reducible first | (intro _) | apply q_verify_Verify_L2_le | apply q_verify_Verify_J1_le | apply Le.po | apply Le.cond | apply Le.pl | apply Le.pg | apply Le.pm | apply Le.pq | apply Le.lp | apply Le.itU | exact Le.refl _
noncomputable def q_interp_Call_L3 (r1 : (List T_Table)) (s_18 : T_Env) (i_19 : Int) : Option ((T_Env × Int) ⊕ (T_Env)) :=
  cond (decide (i_19 < (r1.length : Int))) (
  po (
  po (idx s_18.T i_19) fun x6 =>
  po (p_slices_Clone_api_Entry_api_Entry x6.E) fun r7 =>
  po (
  itF (fun x => p_interp_Call_L9 r7 x.1 x.2.1 x.2.2) (s_18, (T_Table.mk x6.S r7 x6.Next), 0)) (fun x => p_interp_Call_J8 i_19 x.1 x.2)) (fun x => p_interp_Call_J5 i_19 x)) (
  some (Sum.inr s_18))
theorem q_interp_Call_L3_le (r1 : (List T_Table)) (s_18 : T_Env) (i_19 : Int) : Le (q_interp_Call_L3 r1 s_18 i_19) (p_interp_Call_L3 r1 s_18 i_19) := by
  unfold q_interp_Call_L3 p_interp_Call_L3
  repeat' with_reducible first | (intro _) | apply Le.po | apply Le.cond | apply Le.pl | apply Le.pg | apply Le.pm | apply Le.pq | apply Le.lp | apply Le.itU | exact Le.refl _
noncomputable def q_interp_run_frame_J1 (a1 : Int) (s_7 : T_interp_run) (s_8 : T_interp_frame) : Option (UInt32 × T_interp_run) :=
  po (idx s_7.p.Fns a1) fun x6 =>
  po (
  itF (fun x => p_interp_run_frame_L8 x6 x.1 x.2) (s_7, s_8)) (fun x => p_interp_run_frame_J7 x.1 x.2)
theorem q_interp_run_frame_J1_le (a1 : Int) (s_7 : T_interp_run) (s_8 : T_interp_frame) : Le (q_interp_run_frame_J1 a1 s_7 s_8) (p_interp_run_frame_J1 a1 s_7 s_8) := by
  unfold q_interp_run_frame_J1 p_interp_run_frame_J1
  repeat' with_reducible first | (intro _) | apply Le.po | apply Le.cond | apply Le.pl | apply Le.pg | apply Le.pm | apply Le.pq | apply Le.lp | apply Le.itU | exact Le.refl _
noncomputable def q_interp_run_frame (a0 : T_interp_run) (a1 : Int) (a2 : (List UInt32)) : Option (UInt32 × T_interp_run) :=
  po (
  itF (fun x => p_interp_run_frame_L2 a2 x.1 x.2.1 x.2.2) (a0, (T_interp_frame.mk a1 0 (A8.mk 0 0 0 0 0 0 0 0) (A8.mk false false false false false false false false) (A16.mk 0 0 0 0 0 0 0 0 0 0 0 0 0 0 0 0) false), 0)) (fun x => q_interp_run_frame_J1 a1 x.1 x.2)
theorem q_interp_run_frame_le (a0 : T_interp_run) (a1 : Int) (a2 : (List UInt32)) : Le (q_interp_run_frame a0 a1 a2) (p_interp_run_frame a0 a1 a2) := by
  unfold q_interp_run_frame p_interp_run_frame
  repeat' with_reducible first | (intro _) | apply q_interp_run_frame_J1_le | apply Le.po | apply Le.cond | apply Le.pl | apply Le.pg | apply Le.pm | apply Le.pq | apply Le.lp | apply Le.itU | exact Le.refl _
noncomputable def q_interp_Call_J21 (a0 : T_Prog) (a1 : Int) (a3 : Int) (a4 : (List UInt32)) (s_58 : T_Env) (i_59 : Bool) : Option (T_Ran) :=
  cond i_59 (
  some (T_Ran.mk 0 s_58 0 3)) (
  po (q_interp_run_frame (T_interp_run.mk a0 s_58 a3 0 0) a1 a4) fun r26 =>
  po (
  cond (r26.2.err != 0) (
  some 0) (
  some r26.1)) (fun x => p_interp_Call_J27 r26 x))
theorem q_interp_Call_J21_le (a0 : T_Prog) (a1 : Int) (a3 : Int) (a4 : (List UInt32)) (s_58 : T_Env) (i_59 : Bool) : Le (q_interp_Call_J21 a0 a1 a3 a4 s_58 i_59) (p_interp_Call_J21 a0 a1 a3 a4 s_58 i_59) := by
  unfold q_interp_Call_J21 p_interp_Call_J21
  repeat' with_reducible first | (intro _) | apply q_interp_run_frame_le | apply Le.po | apply Le.cond | apply Le.pl | apply Le.pg | apply Le.pm | apply Le.pq | apply Le.lp | apply Le.itU | exact Le.refl _
noncomputable def q_interp_Call_J16 (a0 : T_Prog) (a1 : Int) (a3 : Int) (a4 : (List UInt32)) (s_56 : T_Env) (i_57 : Bool) : Option (T_Ran) :=
  cond i_57 (
  some (T_Ran.mk 0 s_56 0 1)) (
  po (
  cond (decide (a1 < 0)) (
  some (s_56, (decide (a1 < 0)))) (
  cond (decide (a1 ≥ (a0.Fns.length : Int))) (
  some (s_56, (decide (a1 ≥ (a0.Fns.length : Int))))) (
  po (idx a0.Fns a1) fun x24 =>
  some (s_56, ((a4.length : Int) != x24.Args))))) (fun x => q_interp_Call_J21 a0 a1 a3 a4 x.1 x.2))
theorem q_interp_Call_J16_le (a0 : T_Prog) (a1 : Int) (a3 : Int) (a4 : (List UInt32)) (s_56 : T_Env) (i_57 : Bool) : Le (q_interp_Call_J16 a0 a1 a3 a4 s_56 i_57) (p_interp_Call_J16 a0 a1 a3 a4 s_56 i_57) := by
  unfold q_interp_Call_J16 p_interp_Call_J16
  repeat' with_reducible first | (intro _) | apply q_interp_Call_J21_le | apply Le.po | apply Le.cond | apply Le.pl | apply Le.pg | apply Le.pm | apply Le.pq | apply Le.lp | apply Le.itU | exact Le.refl _
noncomputable def q_interp_Call_J2 (a0 : T_Prog) (a1 : Int) (a3 : Int) (a4 : (List UInt32)) (s_47 : T_Env) : Option (T_Ran) :=
  po (
  po (q_prog_May a0) fun r17 =>
  cond (!r17) (
  some (s_47, (!r17))) (
  cond (decide (a3 < 0)) (
  some (s_47, (decide (a3 < 0)))) (
  some (s_47, (decide (a3 > 100000)))))) (fun x => q_interp_Call_J16 a0 a1 a3 a4 x.1 x.2)
theorem q_interp_Call_J2_le (a0 : T_Prog) (a1 : Int) (a3 : Int) (a4 : (List UInt32)) (s_47 : T_Env) : Le (q_interp_Call_J2 a0 a1 a3 a4 s_47) (p_interp_Call_J2 a0 a1 a3 a4 s_47) := by
  unfold q_interp_Call_J2 p_interp_Call_J2
  repeat' with_reducible first | (intro _) | apply q_prog_May_le | apply q_interp_Call_J16_le | apply Le.po | apply Le.cond | apply Le.pl | apply Le.pg | apply Le.pm | apply Le.pq | apply Le.lp | apply Le.itU | exact Le.refl _
noncomputable def q_interp_Call (a0 : T_Prog) (a1 : Int) (a2 : T_Env) (a3 : Int) (a4 : (List UInt32)) : Option (T_Ran) :=
  po (p_slices_Clone_api_Table_api_Table a2.T) fun r1 =>
  po (
  itF (fun x => q_interp_Call_L3 r1 x.1 x.2) ((T_Env.mk a2.Ctx r1 a2.Seed), 0)) (fun x => q_interp_Call_J2 a0 a1 a3 a4 x)
theorem q_interp_Call_le (a0 : T_Prog) (a1 : Int) (a2 : T_Env) (a3 : Int) (a4 : (List UInt32)) : Le (q_interp_Call a0 a1 a2 a3 a4) (p_interp_Call a0 a1 a2 a3 a4) := by
  unfold q_interp_Call p_interp_Call
  repeat' with_reducible first | (intro _) | apply q_interp_Call_L3_le | apply q_interp_Call_J2_le | apply Le.po | apply Le.cond | apply Le.pl | apply Le.pg | apply Le.pm | apply Le.pq | apply Le.lp | apply Le.itU | exact Le.refl _
noncomputable def q_interp_Run (a0 : T_Prog) (a1 : T_Env) (a2 : Int) : Option (T_Ran) :=
  po (q_interp_Call a0 0 a1 a2 []) fun r1 =>
  some r1
theorem q_interp_Run_le (a0 : T_Prog) (a1 : T_Env) (a2 : Int) : Le (q_interp_Run a0 a1 a2) (p_interp_Run a0 a1 a2) := by
  unfold q_interp_Run p_interp_Run
  repeat' with_reducible first | (intro _) | apply q_interp_Call_le | apply Le.po | apply Le.cond | apply Le.pl | apply Le.pg | apply Le.pm | apply Le.pq | apply Le.lp | apply Le.itU | exact Le.refl _
noncomputable def q_shift_put_J6 (a1 : T_Prog) (a2 : UInt32) (a3 : (List UInt32)) (i_6 : Int) (l_7 : (List UInt32)) (i_8 : UInt32) : Option (((List UInt32) × Int) ⊕ (((List UInt32)) ⊕ ((List UInt32) × Int))) :=
  po (a3[0]?) fun x9 =>
  pl ((UInt32.ofInt i_6)) fun c10 =>
  po (q_interp_Run a1 (T_Env.mk (A4.mk a2 c10 i_8 x9) [] 0) 2000) fun r11 =>
  po (
  cond (r11.Err != 0) (
  some (l_7, true)) (
  some (l_7, ((r11.Ret.toNat : Int) == 4294967295)))) (fun x => p_shift_put_J12 i_6 r11 x.1 x.2)
theorem q_shift_put_J6_le (a1 : T_Prog) (a2 : UInt32) (a3 : (List UInt32)) (i_6 : Int) (l_7 : (List UInt32)) (i_8 : UInt32) : Le (q_shift_put_J6 a1 a2 a3 i_6 l_7 i_8) (p_shift_put_J6 a1 a2 a3 i_6 l_7 i_8) := by
  unfold q_shift_put_J6 p_shift_put_J6
  repeat' with_reducible first | (intro _) | apply q_interp_Run_le | apply Le.po | apply Le.cond | apply Le.pl | apply Le.pg | apply Le.pm | apply Le.pq | apply Le.lp | apply Le.itU | exact Le.refl _
noncomputable def q_shift_put_L4 (a0 : T_Schema) (a1 : T_Prog) (a2 : UInt32) (a3 : (List UInt32)) (l_5 : (List UInt32)) (i_6 : Int) : Option (((List UInt32) × Int) ⊕ (((List UInt32)) ⊕ ((List UInt32) × Int))) :=
  cond (decide (i_6 < a0.Words)) (
  po (
  cond (decide (i_6 < (a3.length : Int))) (
  po (idx a3 i_6) fun x8 =>
  some (l_5, x8)) (
  some (l_5, 0))) (fun x => q_shift_put_J6 a1 a2 a3 i_6 x.1 x.2)) (
  some (Sum.inr (Sum.inl l_5)))
theorem q_shift_put_L4_le (a0 : T_Schema) (a1 : T_Prog) (a2 : UInt32) (a3 : (List UInt32)) (l_5 : (List UInt32)) (i_6 : Int) : Le (q_shift_put_L4 a0 a1 a2 a3 l_5 i_6) (p_shift_put_L4 a0 a1 a2 a3 l_5 i_6) := by
  unfold q_shift_put_L4 p_shift_put_L4
  repeat' with_reducible first | (intro _) | apply q_shift_put_J6_le | apply Le.po | apply Le.cond | apply Le.pl | apply Le.pg | apply Le.pm | apply Le.pq | apply Le.lp | apply Le.itU | exact Le.refl _
noncomputable def q_shift_put (a0 : T_Schema) (a1 : T_Prog) (a2 : UInt32) (a3 : (List UInt32)) : Option ((List UInt32) × Int) :=
  pg (0 ≤ a0.Words ∧ 4 * a0.Words ≤ 140737488355328) <|
  pl (List.replicate a0.Words.toNat 0) fun y2 =>
  pm (
  itF (fun x => q_shift_put_L4 a0 a1 a2 a3 x.1 x.2) (y2, 0)) (fun x => p_shift_put_J3 x)
theorem q_shift_put_le (a0 : T_Schema) (a1 : T_Prog) (a2 : UInt32) (a3 : (List UInt32)) : Le (q_shift_put a0 a1 a2 a3) (p_shift_put a0 a1 a2 a3) := by
  unfold q_shift_put p_shift_put
  repeat' with_reducible first | (intro _) | apply q_shift_put_L4_le | apply Le.po | apply Le.cond | apply Le.pl | apply Le.pg | apply Le.pm | apply Le.pq | apply Le.lp | apply Le.itU | exact Le.refl _
noncomputable def q_shift_One_J1 (a0 : T_Schema) (a1 : T_Prog) (a2 : UInt32) (a3 : (List UInt32)) (i_1 : Bool) : Option ((List UInt32) × Int) :=
  cond i_1 (
  some ([], 1)) (
  po (q_verify_Verify a1 []) fun r5 =>
  cond (r5.2 != 0) (
  some ([], r5.2)) (
  po (q_shift_put a0 a1 a2 a3) fun r7 =>
  some (r7.1, r7.2)))
theorem q_shift_One_J1_le (a0 : T_Schema) (a1 : T_Prog) (a2 : UInt32) (a3 : (List UInt32)) (i_1 : Bool) : Le (q_shift_One_J1 a0 a1 a2 a3 i_1) (p_shift_One_J1 a0 a1 a2 a3 i_1) := by
  unfold q_shift_One_J1 p_shift_One_J1
  repeat' with_reducible first | (intro _) | apply q_verify_Verify_le | apply q_shift_put_le | apply Le.po | apply Le.cond | apply Le.pl | apply Le.pg | apply Le.pm | apply Le.pq | apply Le.lp | apply Le.itU | exact Le.refl _
noncomputable def q_shift_One (a0 : T_Schema) (a1 : T_Prog) (a2 : UInt32) (a3 : (List UInt32)) : Option ((List UInt32) × Int) :=
  po (
  po (p_schema_May a0) fun r2 =>
  cond r2 (
  some ((a3.length : Int) == 0)) (
  some true)) (fun x => q_shift_One_J1 a0 a1 a2 a3 x)
theorem q_shift_One_le (a0 : T_Schema) (a1 : T_Prog) (a2 : UInt32) (a3 : (List UInt32)) : Le (q_shift_One a0 a1 a2 a3) (p_shift_One a0 a1 a2 a3) := by
  unfold q_shift_One p_shift_One
  repeat' with_reducible first | (intro _) | apply q_shift_One_J1_le | apply Le.po | apply Le.cond | apply Le.pl | apply Le.pg | apply Le.pm | apply Le.pq | apply Le.lp | apply Le.itU | exact Le.refl _
noncomputable def q_shift_Fits_J1 (a2 : T_Prog) (i_1 : Bool) : Option (Int) :=
  cond i_1 (
  some 9) (
  po (q_verify_Verify a2 []) fun r6 =>
  some r6.2)
theorem q_shift_Fits_J1_le (a2 : T_Prog) (i_1 : Bool) : Le (q_shift_Fits_J1 a2 i_1) (p_shift_Fits_J1 a2 i_1) := by
  unfold q_shift_Fits_J1 p_shift_Fits_J1
  repeat' with_reducible first | (intro _) | apply q_verify_Verify_le | apply Le.po | apply Le.cond | apply Le.pl | apply Le.pg | apply Le.pm | apply Le.pq | apply Le.lp | apply Le.itU | exact Le.refl _
noncomputable def q_shift_Fits (a0 : T_Schema) (a1 : T_Schema) (a2 : T_Prog) : Option (Int) :=
  po (
  cond (a0.Kind == 3) (
  some true) (
  po (p_schema_Step a0 a1) fun r3 =>
  cond (r3 != 1) (
  some true) (
  some (decide (a1.Cap < a0.Cap))))) (fun x => q_shift_Fits_J1 a2 x)
theorem q_shift_Fits_le (a0 : T_Schema) (a1 : T_Schema) (a2 : T_Prog) : Le (q_shift_Fits a0 a1 a2) (p_shift_Fits a0 a1 a2) := by
  unfold q_shift_Fits p_shift_Fits
  repeat' with_reducible first | (intro _) | apply q_shift_Fits_J1_le | apply Le.po | apply Le.cond | apply Le.pl | apply Le.pg | apply Le.pm | apply Le.pq | apply Le.lp | apply Le.itU | exact Le.refl _
noncomputable def q_shift_may (a0 : T_Table) (a1 : T_Schema) (a2 : T_Prog) : Option (Int) :=
  po (p_table_May a0) fun r1 =>
  cond (!r1) (
  some 1) (
  po (q_shift_Fits a0.S a1 a2) fun r3 =>
  some r3)
theorem q_shift_may_le (a0 : T_Table) (a1 : T_Schema) (a2 : T_Prog) : Le (q_shift_may a0 a1 a2) (p_shift_may a0 a1 a2) := by
  unfold q_shift_may p_shift_may
  repeat' with_reducible first | (intro _) | apply q_shift_Fits_le | apply Le.po | apply Le.cond | apply Le.pl | apply Le.pg | apply Le.pm | apply Le.pq | apply Le.lp | apply Le.itU | exact Le.refl _
noncomputable def q_shift_Image_L7 (a0 : T_Table) (a1 : T_Schema) (a2 : T_Prog) (s_1 : T_Table) (i_2 : Int) : Option ((T_Table × Int) ⊕ ((T_Table) ⊕ (T_Table × Int))) :=
  cond (decide (i_2 < (a0.E.length : Int))) (
  po (idx a0.E i_2) fun x9 =>
  po (q_shift_put a1 a2 x9.Key x9.V) fun r10 =>
  cond (r10.2 != 0) (
  some (Sum.inr (Sum.inr ((T_Table.mk (T_Schema.mk 0 0 0 0) [] 0), r10.2)))) (
  pg ((s_1.E.length + 1) * 32 ≤ 140737488355328) <|
  pl (s_1.E ++ ([(T_Entry.mk x9.Key r10.1)])) fun y13 =>
  some (Sum.inl ((T_Table.mk s_1.S y13 s_1.Next), (IntKind.i64.wrap (i_2 + 1)))))) (
  some (Sum.inr (Sum.inl s_1)))
theorem q_shift_Image_L7_le (a0 : T_Table) (a1 : T_Schema) (a2 : T_Prog) (s_1 : T_Table) (i_2 : Int) : Le (q_shift_Image_L7 a0 a1 a2 s_1 i_2) (p_shift_Image_L7 a0 a1 a2 s_1 i_2) := by
  unfold q_shift_Image_L7 p_shift_Image_L7
  repeat' with_reducible first | (intro _) | apply q_shift_put_le | apply Le.po | apply Le.cond | apply Le.pl | apply Le.pg | apply Le.pm | apply Le.pq | apply Le.lp | apply Le.itU | exact Le.refl _
noncomputable def q_shift_Image (a0 : T_Table) (a1 : T_Schema) (a2 : T_Prog) : Option (T_Table × Int) :=
  po (q_shift_may a0 a1 a2) fun r1 =>
  cond (r1 != 0) (
  some ((T_Table.mk (T_Schema.mk 0 0 0 0) [] 0), r1)) (
  po (p_table_New a1) fun r3 =>
  pg (0 ≤ (minI (a0.E.length : Int) (r3.1.E.length : Int)) ∧ (minI (a0.E.length : Int) (r3.1.E.length : Int)) ≤ (r3.1.E.length : Int) ∧ (r3.1.E.length : Int) ≤ (r3.1.E.length : Int)) <|
  pl ((r3.1.E.drop ((minI (a0.E.length : Int) (r3.1.E.length : Int)).toNat))) fun y5 =>
  pm (
  itF (fun x => q_shift_Image_L7 a0 a1 a2 x.1 x.2) ((T_Table.mk r3.1.S [] r3.1.Next), 0)) (fun x => p_shift_Image_J6 y5 x))
theorem q_shift_Image_le (a0 : T_Table) (a1 : T_Schema) (a2 : T_Prog) : Le (q_shift_Image a0 a1 a2) (p_shift_Image a0 a1 a2) := by
  unfold q_shift_Image p_shift_Image
  repeat' with_reducible first | (intro _) | apply q_shift_may_le | apply q_shift_Image_L7_le | apply Le.po | apply Le.cond | apply Le.pl | apply Le.pg | apply Le.pm | apply Le.pq | apply Le.lp | apply Le.itU | exact Le.refl _
noncomputable def q_drydockref01_Words (a0 : (List UInt32)) (a1 : (List UInt32)) : Option (Bool) :=
  cond ((a0.length : Int) != (a1.length : Int)) (
  some false) (
  pm (
  itF (fun x => p_drydockref01_Words_L3 a0 a1 x) 0) (fun x => p_drydockref01_Words_J2))
theorem q_drydockref01_Words_le (a0 : (List UInt32)) (a1 : (List UInt32)) : Le (q_drydockref01_Words a0 a1) (p_drydockref01_Words a0 a1) := by
  unfold q_drydockref01_Words p_drydockref01_Words
  repeat' with_reducible first | (intro _) | apply Le.po | apply Le.cond | apply Le.pl | apply Le.pg | apply Le.pm | apply Le.pq | apply Le.lp | apply Le.itU | exact Le.refl _
noncomputable def q_drydocklaw18_awake : Option (Bool) :=
  po (q_shift_One (T_Schema.mk 1 1 3 0) (T_Prog.mk ([(T_Fn.mk 0 ([(T_Inst.mk 2 0 0 0 false 0 2), (T_Inst.mk 7 0 0 0 false 0 0)]))])) 7 ([4, 5])) fun r1 =>
  po (q_shift_Image (T_Table.mk (T_Schema.mk 1 1 1 0) ([(T_Entry.mk 9 ([6]))]) 0) (T_Schema.mk 1 2 2 1) (T_Prog.mk ([(T_Fn.mk 0 ([(T_Inst.mk 2 0 0 0 false 0 2), (T_Inst.mk 7 0 0 0 false 0 0)]))]))) fun r2 =>
  po (
  cond (r1.2 == 0) (
  po (q_drydockref01_Words r1.1 ([4, 5, 0])) fun r5 =>
  cond r5 (
  cond (r2.2 == 0) (
  cond ((r2.1.E.length : Int) == 1) (
  po (r2.1.E[0]?) fun x9 =>
  po (q_drydockref01_Words x9.V ([6, 0])) fun r10 =>
  some r10) (
  some false)) (
  some false)) (
  some false)) (
  some false)) (fun x => p_drydocklaw18_awake_J3 x)
theorem q_drydocklaw18_awake_le : Le (q_drydocklaw18_awake) (p_drydocklaw18_awake) := by
  unfold q_drydocklaw18_awake p_drydocklaw18_awake
  repeat' with_reducible first | (intro _) | apply q_shift_One_le | apply q_shift_Image_le | apply q_drydockref01_Words_le | apply Le.po | apply Le.cond | apply Le.pl | apply Le.pg | apply Le.pm | apply Le.pq | apply Le.lp | apply Le.itU | exact Le.refl _
def P1 : T_Prog := ⟨[⟨0, [⟨0, 0, 0, 0, false, 0, 4294967295⟩, ⟨7, 0, 0, 0, false, 0, 0⟩]⟩]⟩
theorem ver1 : p_verify_Verify P1 [] = some (2, 0) := q_verify_Verify_le _ _ _ (by kernel_rfl)
theorem run1 (k n o v : UInt32) : p_interp_Run P1 ⟨⟨k, n, o, v⟩, [], 0⟩ 2000 = some ⟨4294967295, ⟨⟨k, n, o, v⟩, [], 0⟩, 2, 0⟩ := q_interp_Run_le _ _ _ _ (by kernel_rfl)
theorem awake18 : p_drydocklaw18_awake = some true := q_drydocklaw18_awake_le _ (by kernel_rfl)
noncomputable def p_drydockref03_Few_J3 (a0 : T_Prog) (i_2 : Bool) (i_3 : Int) (i_4 : Bool) : Option ((Bool × Int) ⊕ (Bool)) :=
  cond i_4 (
  po (idx a0.Fns i_3) fun x6 =>
  some (Sum.inl ((decide ((x6.Code.length : Int) ≤ 80)), (IntKind.i64.wrap (i_3 + 1))))) (
  some (Sum.inr i_2))
noncomputable def p_drydockref03_Few_L2 (a0 : T_Prog) (i_2 : Bool) (i_3 : Int) : Option ((Bool × Int) ⊕ (Bool)) :=
  po (
  cond (decide (i_3 < (a0.Fns.length : Int))) (
  some i_2) (
  some false)) (fun x => p_drydockref03_Few_J3 a0 i_2 i_3 x)
noncomputable def p_drydockref03_Few_J1 (i_7 : Bool) : Option (Bool) :=
  some i_7
noncomputable def p_drydockref03_Few (a0 : T_Prog) : Option (Bool) :=
  po (
  lpU (fun x => p_drydockref03_Few_L2 a0 x.1 x.2) ((decide ((a0.Fns.length : Int) ≤ 12)), 0)) (fun x => p_drydockref03_Few_J1 x)
theorem c_drydockref03_Few {a0 : T_Prog} {r : Bool} (h : p_drydockref03_Few a0 = some r) : Ctr prog 52 [.agg (enc_Prog a0)] [] (rb r) [] := by
 unfold p_drydockref03_Few at h; refine Ctr.ofW tabOk func52 rfl call52 0 _ ntmps52 [.tmp 2] rfl rfl rfl (fun B => ?_); refine vs [1] (fun K hK => ?_); push_cast; refine hK _ ?_; clear hK K; refine vs [1, 3] (fun K hK => ?_); push_cast; refine hK _ ?_; clear hK K; refine vj h (fun x => ⟨[(3, rb x)], [], 36, 28, 0⟩) (fun v1 h hk1 => ?_) ?_
 ·refine vs [1, 3, 4] (fun K hK => ?_); push_cast; refine hK _ ?_; clear hK K; refine VC.block ?_; refine VC.loopP h (fun x => ⟨[(1, .ref 0 0), (3, rb x.1), (4, ri x.2)], [(0, .box 56 [.sl false (a0.Fns.map enc_Fn)])], 28, 28, 0⟩) ?_ ?_
  ·exact sl (by push_cast)
  rintro ⟨i_2, i_3⟩ b2 (h : p_drydockref03_Few_L2 a0 i_2 i_3 = some b2) hf2; (try push_cast); unfold p_drydockref03_Few_L2 at h; refine VC.seq ?_; refine vj h (fun x => ⟨[(1, .ref 0 0), (3, rb i_2), (4, ri i_3), (16, rb x)], [(0, .box 56 [.sl false (a0.Fns.map enc_Fn)])], 36, 28, 0⟩) (fun v3 h hk3 => ?_) ?_
  ·rcases Bool.eq_false_or_eq_true (decide (i_3 < (a0.Fns.length : Int))) with hb4 | hb4
   ·replace h := cond_yes hb4 h; refine vlG [some 9, some 10, some 11, some 12, some 13, some 14, some 15, some 16] (fun K hK => ?_); push_cast [hb4]; (repeat refine .intro (by omega) ?_); refine hK _ ?_; clear hK K; refine ar h hk3 ?_; exact sl (by push_cast [hb4])
   ·replace h := cond_no hb4 h; refine vlG [some 9, some 10, some 11, some 12, some 13, some 14, some 15, some 16] (fun K hK => ?_); push_cast [hb4]; (repeat refine .intro (by omega) ?_); refine hK _ ?_; clear hK K; refine ar h hk3 ?_; exact sl (by push_cast [hb4])
  ·rintro i_4 (h : p_drydockref03_Few_J3 a0 i_2 i_3 i_4 = some b2); (try push_cast); unfold p_drydockref03_Few_J3 at h; refine vc h (fun hb5 h => ?_) (fun hb5 h => ?_)
   ·refine VC.skip ?_; refine VC.seq ?_; refine VC.block ?_; obtain ⟨x6, hx6, h⟩ := po_some h; replace hx6 := idx_some4 hx6; refine vl (fun K hK => ?_); push_cast [hx6]; (repeat refine .intro (by omega) ?_); refine hK _ ?_; clear hK K; refine vl (fun K hK => ?_); push_cast; refine hK _ ?_; clear hK K; refine bk h ?_; exact sl (by push_cast [hb5])
   ·refine VC.exit ?_; replace h := ol h hf2; refine ar h hk1 ?_; exact sl (by push_cast [hb5])
 ·rintro i_7 (h : p_drydockref03_Few_J1 i_7 = some r); (try push_cast); unfold p_drydockref03_Few_J1 at h; refine vs [2] (fun K hK => ?_); push_cast; refine hK _ ?_; clear hK K; refine VC.ret ?_; replace h := Option.some.inj h; subst h; exact en (by push_cast)
noncomputable def p_drydockref05_Few_J9 (x7 : T_Table) (i_41 : Bool) (i_42 : Int) (i_43 : Bool) : Option ((Bool × Int) ⊕ (Bool)) :=
  cond i_43 (
  po (idx x7.E i_42) fun x12 =>
  some (Sum.inl ((decide ((x12.V.length : Int) ≤ 6)), (IntKind.i64.wrap (i_42 + 1))))) (
  some (Sum.inr i_41))
noncomputable def p_drydockref05_Few_L8 (x7 : T_Table) (i_41 : Bool) (i_42 : Int) : Option ((Bool × Int) ⊕ (Bool)) :=
  po (
  cond (decide (i_42 < (x7.E.length : Int))) (
  some i_41) (
  some false)) (fun x => p_drydockref05_Few_J9 x7 i_41 i_42 x)
noncomputable def p_drydockref05_Few_J6 (i_16 : Int) (i_24 : Bool) : Option ((Bool × Int) ⊕ (Bool)) :=
  some (Sum.inl (i_24, (IntKind.i64.wrap (i_16 + 1))))
noncomputable def p_drydockref05_Few_J3 (a0 : (List T_Table)) (i_15 : Bool) (i_16 : Int) (i_17 : Bool) : Option ((Bool × Int) ⊕ (Bool)) :=
  cond i_17 (
  po (
  po (idx a0 i_16) fun x7 =>
  lpU (fun x => p_drydockref05_Few_L8 x7 x.1 x.2) ((decide ((x7.E.length : Int) ≤ 20)), 0)) (fun x => p_drydockref05_Few_J6 i_16 x)) (
  some (Sum.inr i_15))
noncomputable def p_drydockref05_Few_L2 (a0 : (List T_Table)) (i_15 : Bool) (i_16 : Int) : Option ((Bool × Int) ⊕ (Bool)) :=
  po (
  cond (decide (i_16 < (a0.length : Int))) (
  some i_15) (
  some false)) (fun x => p_drydockref05_Few_J3 a0 i_15 i_16 x)
noncomputable def p_drydockref05_Few_J1 (i_39 : Bool) : Option (Bool) :=
  some i_39
noncomputable def p_drydockref05_Few (a0 : (List T_Table)) : Option (Bool) :=
  po (
  lpU (fun x => p_drydockref05_Few_L2 a0 x.1 x.2) ((decide ((a0.length : Int) ≤ 6)), 0)) (fun x => p_drydockref05_Few_J1 x)
theorem c_drydockref05_Few {a0 : (List T_Table)} {r : Bool} (h : p_drydockref05_Few a0 = some r) : Ctr prog 13 [.sl false (a0.map enc_Table)] [] (rb r) [] := by
 unfold p_drydockref05_Few at h; refine Ctr.ofW tabOk func13 rfl call13 0 _ ntmps13 [.tmp 2] rfl rfl rfl (fun B => ?_); refine vs [0] (fun K hK => ?_); push_cast; refine hK _ ?_; clear hK K; refine vs [0, 3] (fun K hK => ?_); push_cast; refine hK _ ?_; clear hK K; refine vj h (fun x => ⟨[(3, rb x)], [], 69, 50, 0⟩) (fun v1 h hk1 => ?_) ?_
 ·refine vs [0, 3, 4] (fun K hK => ?_); push_cast; refine hK _ ?_; clear hK K; refine VC.block ?_; refine VC.loopP h (fun x => ⟨[(0, .sl false (a0.map enc_Table)), (3, rb x.1), (4, ri x.2)], [], 62, 50, 0⟩) ?_ ?_
  ·exact sl (by push_cast)
  rintro ⟨i_15, i_16⟩ b2 (h : p_drydockref05_Few_L2 a0 i_15 i_16 = some b2) hf2; (try push_cast); unfold p_drydockref05_Few_L2 at h; refine VC.seq ?_; refine vj h (fun x => ⟨[(0, .sl false (a0.map enc_Table)), (3, rb i_15), (4, ri i_16), (15, rb x)], [], 69, 50, 0⟩) (fun v3 h hk3 => ?_) ?_
  ·rcases Bool.eq_false_or_eq_true (decide (i_16 < (a0.length : Int))) with hb4 | hb4
   ·replace h := cond_yes hb4 h; refine vlG [some 9, some 10, some 11, some 12, some 13, some 14, some 15] (fun K hK => ?_); push_cast [hb4]; (repeat refine .intro (by omega) ?_); refine hK _ ?_; clear hK K; refine ar h hk3 ?_; exact sl (by push_cast [hb4])
   ·replace h := cond_no hb4 h; refine vlG [some 9, some 10, some 11, some 12, some 13, some 14, some 15] (fun K hK => ?_); push_cast [hb4]; (repeat refine .intro (by omega) ?_); refine hK _ ?_; clear hK K; refine ar h hk3 ?_; exact sl (by push_cast [hb4])
  ·rintro i_17 (h : p_drydockref05_Few_J3 a0 i_15 i_16 i_17 = some b2); (try push_cast); unfold p_drydockref05_Few_J3 at h; refine vc h (fun hb5 h => ?_) (fun hb5 h => ?_)
   ·refine VC.skip ?_; refine vj h (fun x => ⟨[(0, .sl false (a0.map enc_Table)), (3, rb x), (4, ri i_16)], [], 115, 50, 0⟩) (fun v6 h hk6 => ?_) ?_
    ·refine VC.block ?_; obtain ⟨x7, hx7, h⟩ := po_some h; replace hx7 := idx_some4 hx7; refine vs [0, 3, 4] (fun K hK => ?_); push_cast [hx7]; (repeat refine .intro (by omega) ?_); refine hK _ ?_; clear hK K; refine vs [0, 3, 4, 5] (fun K hK => ?_); push_cast; refine hK _ ?_; clear hK K; refine VC.block ?_; refine VC.loopP h (fun x => ⟨[(0, .sl false (a0.map enc_Table)), (3, rb x.1), (4, ri i_16), (5, ri x.2)], [], 104, 50, 0⟩) ?_ ?_
     ·exact sl (by push_cast [hb5])
     rintro ⟨i_41, i_42⟩ b8 (h : p_drydockref05_Few_L8 x7 i_41 i_42 = some b8) hf8; (try push_cast); unfold p_drydockref05_Few_L8 at h; refine VC.seq ?_; refine vj h (fun x => ⟨[(0, .sl false (a0.map enc_Table)), (3, rb i_41), (4, ri i_16), (5, ri i_42), (35, rb x)], [], 115, 50, 0⟩) (fun v9 h hk9 => ?_) ?_
     ·rcases Bool.eq_false_or_eq_true (decide (i_42 < (x7.E.length : Int))) with hb10 | hb10
      ·replace h := cond_yes hb10 h; refine vlG [some 25, some 26, some 27, some 28, some 29, some 30, some 31, some 32, some 33, some 34, some 35] (fun K hK => ?_); refine runOps_cut 8 (fun K2 hK2 => ?_); push_cast [hb10, hx7]; (repeat refine .intro (by omega) ?_); refine hK2 _ _ ?_; clear hK2 K2; simp only [List.drop_succ_cons, List.drop_zero]; push_cast [hb10, hx7]; (repeat refine .intro (by omega) ?_); refine hK _ ?_; clear hK K; refine ar h hk9 ?_; exact sl (by push_cast [hb5, hb10])
      ·replace h := cond_no hb10 h; refine vlG [some 25, some 26, some 27, some 28, some 29, some 30, some 31, some 32, some 33, some 34, some 35] (fun K hK => ?_); refine runOps_cut 8 (fun K2 hK2 => ?_); push_cast [hb10, hx7]; (repeat refine .intro (by omega) ?_); refine hK2 _ _ ?_; clear hK2 K2; simp only [List.drop_succ_cons, List.drop_zero]; push_cast [hb10, hx7]; (repeat refine .intro (by omega) ?_); refine hK _ ?_; clear hK K; refine ar h hk9 ?_; exact sl (by push_cast [hb5, hb10])
     ·rintro i_43 (h : p_drydockref05_Few_J9 x7 i_41 i_42 i_43 = some b8); (try push_cast); unfold p_drydockref05_Few_J9 at h; refine vc h (fun hb11 h => ?_) (fun hb11 h => ?_)
      ·refine VC.skip ?_; refine VC.seq ?_; refine VC.block ?_; obtain ⟨x12, hx12, h⟩ := po_some h; replace hx12 := idx_some4 hx12; refine vl (fun K hK => ?_); refine runOps_cut 8 (fun K2 hK2 => ?_); push_cast [hx12, hx7]; (repeat refine .intro (by omega) ?_); refine hK2 _ _ ?_; clear hK2 K2; simp only [List.drop_succ_cons, List.drop_zero]; push_cast [hx12, hx7]; (repeat refine .intro (by omega) ?_); refine hK _ ?_; clear hK K; refine vl (fun K hK => ?_); push_cast; refine hK _ ?_; clear hK K; refine bk h ?_; exact sl (by push_cast [hb5, hb11])
      ·refine VC.exit ?_; replace h := ol h hf8; refine ar h hk6 ?_; exact sl (by push_cast [hb5, hb11])
    ·rintro i_24 (h : p_drydockref05_Few_J6 i_16 i_24 = some b2); (try push_cast); unfold p_drydockref05_Few_J6 at h; refine vl (fun K hK => ?_); push_cast; refine hK _ ?_; clear hK K; refine bk h ?_; exact sl (by push_cast [hb5])
   ·refine VC.exit ?_; replace h := ol h hf2; refine ar h hk1 ?_; exact sl (by push_cast [hb5])
 ·rintro i_39 (h : p_drydockref05_Few_J1 i_39 = some r); (try push_cast); unfold p_drydockref05_Few_J1 at h; refine vs [2] (fun K hK => ?_); push_cast; refine hK _ ?_; clear hK K; refine VC.ret ?_; replace h := Option.some.inj h; subst h; exact en (by push_cast)
noncomputable def p_drydocklaw18_few_J1 (i_1 : Bool) : Option (Bool) :=
  some i_1
noncomputable def p_drydocklaw18_few (a0 : T_Prog) (a1 : (List T_Table)) (a2 : (List UInt32)) : Option (Bool) :=
  po (
  po (p_drydockref03_Few a0) fun r2 =>
  cond r2 (
  po (p_drydockref05_Few a1) fun r4 =>
  cond r4 (
  some (decide ((a2.length : Int) ≤ 40))) (
  some false)) (
  some false)) (fun x => p_drydocklaw18_few_J1 x)
theorem c_drydocklaw18_few {a0 : T_Prog} {a1 : (List T_Table)} {a2 : (List UInt32)} {r : Bool} (h : p_drydocklaw18_few a0 a1 a2 = some r) : Ctr prog 20 [.agg (enc_Prog a0), .sl false (a1.map enc_Table), .sl false (a2.map encU32)] [] (rb r) [] := by
 unfold p_drydocklaw18_few at h; refine Ctr.ofW tabOk func20 rfl call20 0 _ ntmps20 [.tmp 6] rfl rfl rfl (fun B => ?_); refine vs [1, 2, 3] (fun K hK => ?_); push_cast; refine hK _ ?_; clear hK K; refine vj h (fun x => ⟨[(6, rb x)], [], 14, 18, 0⟩) (fun v1 h hk1 => ?_) ?_
 ·obtain ⟨r2, hr2, h⟩ := po_some h; rcases Bool.eq_false_or_eq_true r2 with hb3 | hb3
  ·replace h := cond_yes hb3 h; obtain ⟨r4, hr4, h⟩ := po_some h; rcases Bool.eq_false_or_eq_true r4 with hb5 | hb5
   ·replace h := cond_yes hb5 h; refine vlG [some 7, some 8, some 9, some 10, some 11, some 12, some 13, some 14, some 15, some 16, some 17, some 6] (fun K hK => ?_); refine runOps_cut 8 (fun K2 hK2 => ?_); push_cast [hb3, hb5]; (repeat refine .intro (by omega) ?_); refine cp (c_drydockref03_Few hr2) ?_; push_cast [hb3, hb5]; (repeat refine .intro (by omega) ?_); refine cp (c_drydockref05_Few hr4) ?_; push_cast [hb3, hb5]; (repeat refine .intro (by omega) ?_); refine hK2 _ _ ?_; clear hK2 K2; simp only [List.drop_succ_cons, List.drop_zero]; push_cast [hb3, hb5]; (repeat refine .intro (by omega) ?_); refine hK _ ?_; clear hK K; refine ar h hk1 ?_; exact sl (by push_cast [hb3, hb5])
   ·replace h := cond_no hb5 h; refine vlG [some 7, some 8, some 9, some 10, some 11, some 12, some 13, some 14, some 15, some 16, some 17, some 6] (fun K hK => ?_); refine runOps_cut 8 (fun K2 hK2 => ?_); push_cast [hb3, hb5]; (repeat refine .intro (by omega) ?_); refine cp (c_drydockref03_Few hr2) ?_; push_cast [hb3, hb5]; (repeat refine .intro (by omega) ?_); refine cp (c_drydockref05_Few hr4) ?_; push_cast [hb3, hb5]; (repeat refine .intro (by omega) ?_); refine hK2 _ _ ?_; clear hK2 K2; simp only [List.drop_succ_cons, List.drop_zero]; push_cast [hb3, hb5]; (repeat refine .intro (by omega) ?_); refine hK _ ?_; clear hK K; refine ar h hk1 ?_; exact sl (by push_cast [hb3, hb5])
  ·replace h := cond_no hb3 h; refine vlG [some 7, some 8, some 9, some 10, some 11, some 12, some 13, some 14, some 15, some 16, some 17, some 6] (fun K hK => ?_); refine runOps_cut 8 (fun K2 hK2 => ?_); push_cast [hb3]; (repeat refine .intro (by omega) ?_); refine cp (c_drydockref03_Few hr2) ?_; push_cast [hb3]; (repeat refine .intro (by omega) ?_); refine hK2 _ _ ?_; clear hK2 K2; simp only [List.drop_succ_cons, List.drop_zero]; push_cast [hb3]; (repeat refine .intro (by omega) ?_); refine hK _ ?_; clear hK K; refine ar h hk1 ?_; exact sl (by push_cast [hb3])
 ·rintro i_1 (h : p_drydocklaw18_few_J1 i_1 = some r); (try push_cast); unfold p_drydocklaw18_few_J1 at h; refine VC.ret ?_; replace h := Option.some.inj h; subst h; exact en (by push_cast)
def p_slices_Clone_api_Fn_api_Fn (a0 : List T_Fn) : Option (List T_Fn) := pg (a0.length * 32 ≤ 140737488355328) (some a0)
theorem c_slices_Clone_api_Fn_api_Fn {a0 : List T_Fn} {r : List T_Fn} (h : p_slices_Clone_api_Fn_api_Fn a0 = some r) : Ctr prog 93 [.sl false (a0.map enc_Fn)] [] (.row 0 0 2 0 r.length) [(0, .row 71 2 0 (r.map enc_Fn))] := by
 unfold p_slices_Clone_api_Fn_api_Fn at h; obtain ⟨hg, h⟩ := pg_some h; have hr := Option.some.inj h; subst hr; refine Ctr.ofW tabOk func93 rfl call93 0 _ ntmps93 [.tmp 2] rfl rfl rfl (fun B => ?_); refine VC.seqF tabOkF [some 2] [0] rfl rfl (fun K hK => ?_); push_cast; refine hK _ ?_; clear hK K; refine VC.seq ?_; refine VC.seqF tabOkF [some 3, some 4] [0, 4] rfl rfl (fun K hK => ?_); push_cast; intro bn hbn; refine hK _ ?_; clear hK K; refine VC.cond rfl rfl (fun hc => ?_) (fun hc => ?_)
 ·have hn : a0 = [] := by
   have := hbn hc; cases a0 with
   | nil => rfl
   | cons _ _ => simp at this
  subst hn; refine VC.seqF tabOkF [some 2] [2] rfl rfl (fun K hK => ?_); push_cast; refine hK _ ?_; clear hK K; refine VC.ret ?_; refine endS (Sub.adoptT (k := 2) (e := 71) (sz := 2) rfl) ?_; refine endS (Sub.renT (k := 2) (i' := 0) rfl rfl (Nat.le_of_ble_eq_true rfl) (Nat.le_of_ble_eq_true rfl) rfl) ?_; refine endP (Sub.lo _) (Post.ret ?_ ?_ ?_)
  ·push_cast
  ·push_cast
  ·rfl
 ·refine VC.skip ?_; refine VC.seqF tabOkF [some 5, some 6, some 7, some 2] [2] rfl rfl (fun K hK => ?_); push_cast [hg]; (repeat refine .intro (by omega) ?_); refine hK _ ?_; clear hK K; refine VC.ret ?_; refine endS (Sub.renT (k := 2) (i' := 0) rfl rfl (Nat.le_of_ble_eq_true rfl) (Nat.le_of_ble_eq_true rfl) rfl) ?_; refine endP (Sub.lo _) (Post.ret ?_ ?_ ?_)
  ·push_cast
  ·push_cast
  ·rfl
def p_slices_Clone_api_Inst_api_Inst (a0 : List T_Inst) : Option (List T_Inst) := pg (a0.length * 56 ≤ 140737488355328) (some a0)
theorem c_slices_Clone_api_Inst_api_Inst {a0 : List T_Inst} {r : List T_Inst} (h : p_slices_Clone_api_Inst_api_Inst a0 = some r) : Ctr prog 94 [.sl false (a0.map enc_Inst)] [] (.row 0 0 7 0 r.length) [(0, .row 37 7 0 (r.map enc_Inst))] := by
 unfold p_slices_Clone_api_Inst_api_Inst at h; obtain ⟨hg, h⟩ := pg_some h; have hr := Option.some.inj h; subst hr; refine Ctr.ofW tabOk func94 rfl call94 0 _ ntmps94 [.tmp 2] rfl rfl rfl (fun B => ?_); refine VC.seqF tabOkF [some 2] [0] rfl rfl (fun K hK => ?_); push_cast; refine hK _ ?_; clear hK K; refine VC.seq ?_; refine VC.seqF tabOkF [some 3, some 4] [0, 4] rfl rfl (fun K hK => ?_); push_cast; intro bn hbn; refine hK _ ?_; clear hK K; refine VC.cond rfl rfl (fun hc => ?_) (fun hc => ?_)
 ·have hn : a0 = [] := by
   have := hbn hc; cases a0 with
   | nil => rfl
   | cons _ _ => simp at this
  subst hn; refine VC.seqF tabOkF [some 2] [2] rfl rfl (fun K hK => ?_); push_cast; refine hK _ ?_; clear hK K; refine VC.ret ?_; refine endS (Sub.adoptT (k := 2) (e := 37) (sz := 7) rfl) ?_; refine endS (Sub.renT (k := 2) (i' := 0) rfl rfl (Nat.le_of_ble_eq_true rfl) (Nat.le_of_ble_eq_true rfl) rfl) ?_; refine endP (Sub.lo _) (Post.ret ?_ ?_ ?_)
  ·push_cast
  ·push_cast
  ·rfl
 ·refine VC.skip ?_; refine VC.seqF tabOkF [some 5, some 6, some 7, some 2] [2] rfl rfl (fun K hK => ?_); push_cast [hg]; (repeat refine .intro (by omega) ?_); refine hK _ ?_; clear hK K; refine VC.ret ?_; refine endS (Sub.renT (k := 2) (i' := 0) rfl rfl (Nat.le_of_ble_eq_true rfl) (Nat.le_of_ble_eq_true rfl) rfl) ?_; refine endP (Sub.lo _) (Post.ret ?_ ?_ ?_)
  ·push_cast
  ·push_cast
  ·rfl
noncomputable def p_shift_own_L4 (r2 : (List T_Entry)) (s_1 : T_Shift) (i_2 : Int) : Option ((T_Shift × Int) ⊕ (T_Shift)) :=
  cond (decide (i_2 < (r2.length : Int))) (
  po (idx s_1.To.E i_2) fun x6 =>
  po (p_slices_Clone_uint32_uint32 x6.V) fun r7 =>
  pl (s_1.To.E.set i_2.toNat (T_Entry.mk x6.Key r7)) fun y8 =>
  some (Sum.inl ((T_Shift.mk s_1.S s_1.P s_1.Done (T_Table.mk s_1.To.S y8 s_1.To.Next)), (IntKind.i64.wrap (i_2 + 1))))) (
  some (Sum.inr s_1))
noncomputable def p_shift_own_L11 (r9 : (List T_Fn)) (s_6 : T_Shift) (i_7 : Int) : Option ((T_Shift × Int) ⊕ (T_Shift)) :=
  cond (decide (i_7 < (r9.length : Int))) (
  po (idx s_6.P.Fns i_7) fun x13 =>
  po (p_slices_Clone_api_Inst_api_Inst x13.Code) fun r14 =>
  pl (s_6.P.Fns.set i_7.toNat (T_Fn.mk x13.Args r14)) fun y15 =>
  some (Sum.inl ((T_Shift.mk s_6.S (T_Prog.mk y15) s_6.Done s_6.To), (IntKind.i64.wrap (i_7 + 1))))) (
  some (Sum.inr s_6))
noncomputable def p_shift_own_J10 (s_10 : T_Shift) : Option (T_Shift) :=
  some s_10
noncomputable def p_shift_own_J3 (s_5 : T_Shift) : Option (T_Shift) :=
  po (p_slices_Clone_api_Fn_api_Fn s_5.P.Fns) fun r9 =>
  po (
  lpU (fun x => p_shift_own_L11 r9 x.1 x.2) ((T_Shift.mk s_5.S (T_Prog.mk r9) s_5.Done s_5.To), 0)) (fun x => p_shift_own_J10 x)
noncomputable def p_shift_own (a0 : T_Shift) : Option (T_Shift) :=
  po (p_slices_Clone_uint32_uint32 a0.Done) fun r1 =>
  po (p_slices_Clone_api_Entry_api_Entry a0.To.E) fun r2 =>
  po (
  lpU (fun x => p_shift_own_L4 r2 x.1 x.2) ((T_Shift.mk a0.S a0.P r1 (T_Table.mk a0.To.S r2 a0.To.Next)), 0)) (fun x => p_shift_own_J3 x)
theorem c_shift_own {a0 : T_Shift} {r : T_Shift} (h : p_shift_own a0 = some r) : Ctr prog 60 [.agg (enc_Shift a0)] [] (.agg (enc_Shift r)) [] := by
 unfold p_shift_own at h; refine Ctr.ofW tabOk func60 rfl call60 0 _ ntmps60 [.cell 2 75] rfl rfl rfl (fun B => ?_); refine vs [1, 2] (fun K hK => ?_); push_cast; refine hK _ ?_; clear hK K; obtain ⟨r1, hr1, h⟩ := po_some h; refine vs [1, 2] (fun K hK => ?_); refine runOps_cut 8 (fun K2 hK2 => ?_); push_cast; (repeat refine .intro (by first | omega | rfl) ?_); refine hK2 _ _ ?_; clear hK2 K2; simp only [List.drop_succ_cons, List.drop_zero]; push_cast; (repeat refine .intro (by first | omega | rfl) ?_); refine ch (H := []) (Ctr.loH (Ctr.ren (Bij.swp 0 11 Bij.id) (c_slices_Clone_uint32_uint32 hr1) (by push_cast) (by push_cast))) (by push_cast) ?_; push_cast; (repeat refine .intro (by first | omega | rfl) ?_); refine hK _ ?_; clear hK K; refine VC.sub (s' := ⟨[(1, .ref 0 0), (2, .ref 1 0)], [(0, .box 75 [ri a0.S.Kind, ri a0.S.Cap, ri a0.S.Words, ri a0.S.Ver, .sl false (a0.P.Fns.map enc_Fn), .row 11 0 1 0 r1.length, ri a0.To.S.Kind, ri a0.To.S.Cap, ri a0.To.S.Words, ri a0.To.S.Ver, .sl false (a0.To.E.map enc_Entry), ru a0.To.Next]), (1, .box 75 [ri 0, ri 0, ri 0, ri 0, .sl true [], .sl true [], ri 0, ri 0, ri 0, ri 0, .sl true [], .raw (.int .u32 0)]), (11, .row 25 1 0 (r1.map encU32))], 14, 69, 0⟩) (so (by push_cast)) ?_; obtain ⟨r2, hr2, h⟩ := po_some h; refine vs [1, 2] (fun K hK => ?_); push_cast; refine ch (H := []) (Ctr.loH (Ctr.ren (Bij.swp 0 17 Bij.id) (c_slices_Clone_api_Entry_api_Entry hr2) (by push_cast) (by push_cast))) (by push_cast) ?_; push_cast; refine hK _ ?_; clear hK K; refine VC.sub (s' := ⟨[(1, .ref 0 0), (2, .ref 1 0)], [(0, .box 75 [ri a0.S.Kind, ri a0.S.Cap, ri a0.S.Words, ri a0.S.Ver, .sl false (a0.P.Fns.map enc_Fn), .row 11 0 1 0 r1.length, ri a0.To.S.Kind, ri a0.To.S.Cap, ri a0.To.S.Words, ri a0.To.S.Ver, .row 17 0 2 0 r2.length, ru a0.To.Next]), (1, .box 75 [ri 0, ri 0, ri 0, ri 0, .sl true [], .sl true [], ri 0, ri 0, ri 0, ri 0, .sl true [], .raw (.int .u32 0)]), (11, .row 25 1 0 (r1.map encU32)), (17, .row 66 2 0 (r2.map enc_Entry))], 21, 69, 0⟩) (so (by push_cast)) ?_; refine vj h (fun x => ⟨[(1, .ref 0 0), (2, .ref 1 0)], [(0, .box 75 [ri x.S.Kind, ri x.S.Cap, ri x.S.Words, ri x.S.Ver, .sl false (x.P.Fns.map enc_Fn), .row 11 0 1 0 x.Done.length, ri x.To.S.Kind, ri x.To.S.Cap, ri x.To.S.Words, ri x.To.S.Ver, .row 17 0 2 0 x.To.E.length, ru x.To.Next]), (1, .box 75 [ri 0, ri 0, ri 0, ri 0, .sl true [], .sl true [], ri 0, ri 0, ri 0, ri 0, .sl true [], .raw (.int .u32 0)]), (11, .row 25 1 0 (x.Done.map encU32)), (17, .row 66 2 0 (x.To.E.map enc_Entry))], 46, 69, 0⟩) (fun v3 h hk3 => ?_) ?_
 ·refine vs [1, 2, 26, 27, 28] (fun K hK => ?_); push_cast; refine hK _ ?_; clear hK K; refine VC.block ?_; refine VC.loopP h (fun x => ⟨[(1, .ref 0 0), (2, .ref 1 0), (26, .row 17 0 2 0 x.1.To.E.length), (27, ri (r2.length : Int)), (28, ri x.2)], [(0, .box 75 [ri x.1.S.Kind, ri x.1.S.Cap, ri x.1.S.Words, ri x.1.S.Ver, .sl false (x.1.P.Fns.map enc_Fn), .row 11 0 1 0 x.1.Done.length, ri x.1.To.S.Kind, ri x.1.To.S.Cap, ri x.1.To.S.Words, ri x.1.To.S.Ver, .row 17 0 2 0 x.1.To.E.length, ru x.1.To.Next]), (1, .box 75 [ri 0, ri 0, ri 0, ri 0, .sl true [], .sl true [], ri 0, ri 0, ri 0, ri 0, .sl true [], .raw (.int .u32 0)]), (11, .row 25 1 0 (x.1.Done.map encU32)), (17, .row 66 2 0 (x.1.To.E.map enc_Entry))], 45, 69, 0⟩) ?_ ?_
  ·exact so (by push_cast)
  rintro ⟨s_1, i_2⟩ b4 (h : p_shift_own_L4 r2 s_1 i_2 = some b4) hf4; (try push_cast); unfold p_shift_own_L4 at h; refine vs [1, 2, 26, 27, 28, 29] (fun K hK => ?_); push_cast; refine hK _ ?_; clear hK K; refine VC.seq ?_; refine vc h (fun hb5 h => ?_) (fun hb5 h => ?_)
  ·refine VC.skip ?_; refine VC.seq ?_; refine VC.block ?_; obtain ⟨x6, hx6, h⟩ := po_some h; replace hx6 := idx_some4 hx6; refine vs [1, 2, 3, 4, 26, 27, 28] (fun K hK => ?_); push_cast [hx6]; (repeat refine .intro (by omega) ?_); refine hK _ ?_; clear hK K; obtain ⟨r7, hr7, h⟩ := po_some h; obtain ⟨y8, hy8, h⟩ := pl_some h; have hy8l : y8.length = s_1.To.E.length := by rw [hy8, List.length_set]
   refine vlD [some 33, some 34, some 35, some 36, some 37, some 38, some 39, some 40, some 41, none] (fun K hK => ?_); push_cast [hx6]; (repeat refine .intro (by omega) ?_); refine chD (H := []) (Ctr.loH (Ctr.ren (Bij.swp 0 58 Bij.id) (c_slices_Clone_uint32_uint32 hr7) (by push_cast [hx6]) (by push_cast [hx6]))) (by push_cast [hx6]) ?_; push_cast [hx6]; (repeat refine .intro (by omega) ?_); refine ⟨rfl, hK _ ?_⟩; clear hK K; refine vl (fun K hK => ?_); push_cast; refine hK _ ?_; clear hK K; refine bk h ?_; exact so (by push_cast [hb5, hy8, hy8l])
  ·refine VC.exit ?_; replace h := ol h hf4; refine ar h hk3 ?_; exact so (by push_cast [hb5])
 ·rintro s_5 (h : p_shift_own_J3 s_5 = some r); (try push_cast); unfold p_shift_own_J3 at h; obtain ⟨r9, hr9, h⟩ := po_some h; refine vs [1, 2] (fun K hK => ?_); push_cast; refine ch (H := []) (Ctr.loH (Ctr.ren (Bij.swp 0 49 Bij.id) (c_slices_Clone_api_Fn_api_Fn hr9) (by push_cast) (by push_cast))) (by push_cast) ?_; push_cast; refine hK _ ?_; clear hK K; refine VC.sub (s' := ⟨[(1, .ref 0 0), (2, .ref 1 0)], [(0, .box 75 [ri s_5.S.Kind, ri s_5.S.Cap, ri s_5.S.Words, ri s_5.S.Ver, .row 49 0 2 0 r9.length, .row 11 0 1 0 s_5.Done.length, ri s_5.To.S.Kind, ri s_5.To.S.Cap, ri s_5.To.S.Words, ri s_5.To.S.Ver, .row 17 0 2 0 s_5.To.E.length, ru s_5.To.Next]), (1, .box 75 [ri 0, ri 0, ri 0, ri 0, .sl true [], .sl true [], ri 0, ri 0, ri 0, ri 0, .sl true [], .raw (.int .u32 0)]), (11, .row 25 1 0 (s_5.Done.map encU32)), (17, .row 66 2 0 (s_5.To.E.map enc_Entry)), (49, .row 71 2 0 (r9.map enc_Fn))], 53, 69, 0⟩) (so (by push_cast)) ?_; refine vj h (fun x => ⟨[(1, .ref 0 0), (2, .ref 1 0)], [(0, .box 75 [ri x.S.Kind, ri x.S.Cap, ri x.S.Words, ri x.S.Ver, .row 49 0 2 0 x.P.Fns.length, .row 11 0 1 0 x.Done.length, ri x.To.S.Kind, ri x.To.S.Cap, ri x.To.S.Words, ri x.To.S.Ver, .row 17 0 2 0 x.To.E.length, ru x.To.Next]), (1, .box 75 [ri 0, ri 0, ri 0, ri 0, .sl true [], .sl true [], ri 0, ri 0, ri 0, ri 0, .sl true [], .raw (.int .u32 0)]), (11, .row 25 1 0 (x.Done.map encU32)), (17, .row 66 2 0 (x.To.E.map enc_Entry)), (49, .row 71 2 0 (x.P.Fns.map enc_Fn))], 78, 69, 0⟩) (fun v10 h hk10 => ?_) ?_
  ·refine vs [1, 2, 51, 52, 53] (fun K hK => ?_); push_cast; refine hK _ ?_; clear hK K; refine VC.block ?_; refine VC.loopP h (fun x => ⟨[(1, .ref 0 0), (2, .ref 1 0), (51, .row 49 0 2 0 x.1.P.Fns.length), (52, ri (r9.length : Int)), (53, ri x.2)], [(0, .box 75 [ri x.1.S.Kind, ri x.1.S.Cap, ri x.1.S.Words, ri x.1.S.Ver, .row 49 0 2 0 x.1.P.Fns.length, .row 11 0 1 0 x.1.Done.length, ri x.1.To.S.Kind, ri x.1.To.S.Cap, ri x.1.To.S.Words, ri x.1.To.S.Ver, .row 17 0 2 0 x.1.To.E.length, ru x.1.To.Next]), (1, .box 75 [ri 0, ri 0, ri 0, ri 0, .sl true [], .sl true [], ri 0, ri 0, ri 0, ri 0, .sl true [], .raw (.int .u32 0)]), (11, .row 25 1 0 (x.1.Done.map encU32)), (17, .row 66 2 0 (x.1.To.E.map enc_Entry)), (49, .row 71 2 0 (x.1.P.Fns.map enc_Fn))], 77, 69, 0⟩) ?_ ?_
   ·exact so (by push_cast)
   rintro ⟨s_6, i_7⟩ b11 (h : p_shift_own_L11 r9 s_6 i_7 = some b11) hf11; (try push_cast); unfold p_shift_own_L11 at h; refine vs [1, 2, 51, 52, 53, 54] (fun K hK => ?_); push_cast; refine hK _ ?_; clear hK K; refine VC.seq ?_; refine vc h (fun hb12 h => ?_) (fun hb12 h => ?_)
   ·refine VC.skip ?_; refine VC.seq ?_; refine VC.block ?_; obtain ⟨x13, hx13, h⟩ := po_some h; replace hx13 := idx_some4 hx13; refine vs [1, 2, 5, 6, 51, 52, 53] (fun K hK => ?_); push_cast [hx13]; (repeat refine .intro (by omega) ?_); refine hK _ ?_; clear hK K; obtain ⟨r14, hr14, h⟩ := po_some h; obtain ⟨y15, hy15, h⟩ := pl_some h; have hy15l : y15.length = s_6.P.Fns.length := by rw [hy15, List.length_set]
    refine vlD [some 58, some 59, some 60, some 61, some 62, some 63, some 64, some 65, some 66, none] (fun K hK => ?_); push_cast [hx13]; (repeat refine .intro (by omega) ?_); refine chD (H := []) (Ctr.loH (Ctr.ren (Bij.swp 0 90 Bij.id) (c_slices_Clone_api_Inst_api_Inst hr14) (by push_cast [hx13]) (by push_cast [hx13]))) (by push_cast [hx13]) ?_; push_cast [hx13]; (repeat refine .intro (by omega) ?_); refine ⟨rfl, hK _ ?_⟩; clear hK K; refine vl (fun K hK => ?_); push_cast; refine hK _ ?_; clear hK K; refine bk h ?_; exact so (by push_cast [hb12, hy15, hy15l])
   ·refine VC.exit ?_; replace h := ol h hf11; refine ar h hk10 ?_; exact so (by push_cast [hb12])
  ·rintro s_10 (h : p_shift_own_J10 s_10 = some r); (try push_cast); unfold p_shift_own_J10 at h; refine vs [2] (fun K hK => ?_); push_cast; refine hK _ ?_; clear hK K; refine VC.ret ?_; replace h := Option.some.inj h; subst h; refine endS (Sub.freeze prog (b := 1) (j := 4) rfl rfl rfl (by push_cast <;> omega) (by decide)) ?_; refine endS (Sub.freeze prog (b := 1) (j := 5) rfl rfl rfl (by push_cast <;> omega) (by decide)) ?_; refine endS (Sub.freeze prog (b := 1) (j := 10) rfl rfl rfl (by push_cast <;> omega) (by decide)) ?_; exact en (by push_cast)
noncomputable def p_shift_New (a0 : T_Table) (a1 : T_Schema) (a2 : T_Prog) : Option (T_Shift × Int) :=
  po (p_shift_may a0 a1 a2) fun r1 =>
  cond (r1 != 0) (
  some ((T_Shift.mk (T_Schema.mk 0 0 0 0) (T_Prog.mk []) [] (T_Table.mk (T_Schema.mk 0 0 0 0) [] 0)), r1)) (
  po (p_table_New a1) fun r3 =>
  po (p_shift_own (T_Shift.mk a1 a2 [] r3.1)) fun r4 =>
  some (r4, 0))
theorem c_shift_New {a0 : T_Table} {a1 : T_Schema} {a2 : T_Prog} {r : T_Shift × Int} (h : p_shift_New a0 a1 a2 = some r) : Ctr prog 27 [.agg (enc_Table a0), .agg (enc_Schema a1), .agg (enc_Prog a2)] [] (.tup [.agg (enc_Shift r.1), ri r.2]) [] := by
 unfold p_shift_New at h; refine Ctr.ofW tabOk func27 rfl call27 0 _ ntmps27 [.cell 6 75, .tmp 7] rfl rfl rfl (fun B => ?_); refine vs [3, 4, 5, 6] (fun K hK => ?_); push_cast; refine hK _ ?_; clear hK K; refine VC.seq ?_; obtain ⟨r1, hr1, h⟩ := po_some h; refine vs [4, 5, 6, 8] (fun K hK => ?_); push_cast; refine cp (c_shift_may hr1) ?_; push_cast; refine hK _ ?_; clear hK K; refine vs [4, 5, 6, 8, 16] (fun K hK => ?_); push_cast; refine hK _ ?_; clear hK K; refine vc h (fun hb2 h => ?_) (fun hb2 h => ?_)
 ·refine vs [6, 7] (fun K hK => ?_); push_cast; refine hK _ ?_; clear hK K; refine VC.ret ?_; replace h := Option.some.inj h; subst h; exact en (by push_cast [hb2])
 ·refine VC.skip ?_; obtain ⟨r3, hr3, h⟩ := po_some h; refine vs [4, 5, 6, 9] (fun K hK => ?_); push_cast; refine cp (c_table_New a1 hr3) ?_; push_cast; refine hK _ ?_; clear hK K; obtain ⟨r4, hr4, h⟩ := po_some h; refine vs [6, 7] (fun K hK => ?_); push_cast; refine cp (c_shift_own hr4) ?_; push_cast; refine hK _ ?_; clear hK K; refine VC.ret ?_; replace h := Option.some.inj h; subst h; exact en (by push_cast [hb2])
noncomputable def p_shift_find_1 (a0 : T_Entry) (a1 : UInt32) : Option (Bool × UInt32) :=
  some (((a0.Key.toNat : Int) == (a1.toNat : Int)), a1)
theorem c_shift_find_1 {a0 : T_Entry} {a1 : UInt32} {r : Bool × UInt32} (h : p_shift_find_1 a0 a1 = some r) : Ctr prog 101 [.agg (enc_Entry a0), .ref 0 0] [(0, .box 25 (encU32 a1))] (rb r.1) [(0, .box 25 (encU32 r.2))] := by
 unfold p_shift_find_1 at h; refine Ctr.ofW tabOk func101 rfl call101 1 _ ntmps101 [.tmp 3] rfl rfl rfl (fun B => ?_); refine vs [1, 2] (fun K hK => ?_); push_cast; refine hK _ ?_; clear hK K; refine vs [3] (fun K hK => ?_); push_cast; refine hK _ ?_; clear hK K; refine VC.ret ?_; replace h := Option.some.inj h; subst h; exact en (by push_cast)
noncomputable def p_slices_IndexFunc_api_Entry_api_Entry_shift_find_1_L2 (a0 : (List T_Entry)) (i_1 : UInt32) (i_2 : Int) : Option ((UInt32 × Int) ⊕ ((UInt32) ⊕ (Int × UInt32))) :=
  cond (decide (i_2 < (a0.length : Int))) (
  po (idx a0 i_2) fun x4 =>
  po (p_shift_find_1 x4 i_1) fun r5 =>
  cond r5.1 (
  some (Sum.inr (Sum.inr (i_2, r5.2)))) (
  some (Sum.inl (r5.2, (IntKind.i64.wrap (i_2 + 1)))))) (
  some (Sum.inr (Sum.inl i_1)))
noncomputable def p_slices_IndexFunc_api_Entry_api_Entry_shift_find_1_J1 (i_5 : UInt32) : Option (Int × UInt32) :=
  some (-1, i_5)
noncomputable def p_slices_IndexFunc_api_Entry_api_Entry_shift_find_1 (a0 : (List T_Entry)) (a1_c0 : UInt32) : Option (Int × UInt32) :=
  pm (
  lpU (fun x => p_slices_IndexFunc_api_Entry_api_Entry_shift_find_1_L2 a0 x.1 x.2) (a1_c0, 0)) (fun x => p_slices_IndexFunc_api_Entry_api_Entry_shift_find_1_J1 x)
theorem c_slices_IndexFunc_api_Entry_api_Entry_shift_find_1 {a0 : (List T_Entry)} {a1_c0 : UInt32} {r : Int × UInt32} (h : p_slices_IndexFunc_api_Entry_api_Entry_shift_find_1 a0 a1_c0 = some r) : Ctr prog 100 [.sl false (a0.map enc_Entry), .fn (.func 101) [] [.ref 0 0]] [(0, .box 25 (encU32 a1_c0))] (ri r.1) [(0, .box 25 (encU32 r.2))] := by
 unfold p_slices_IndexFunc_api_Entry_api_Entry_shift_find_1 at h; refine Ctr.ofW tabOk func100 rfl call100 1 _ ntmps100 [.tmp 4] rfl rfl rfl (fun B => ?_); refine vs [0, 1] (fun K hK => ?_); push_cast; refine hK _ ?_; clear hK K; refine vm h (fun x => ⟨[], [(0, .box 25 [ru x])], 17, 19, 1⟩) (fun v1 h hk1 => ?_) ?_
 ·refine vs [0, 1, 7, 8] (fun K hK => ?_); push_cast; refine hK _ ?_; clear hK K; refine VC.block ?_; refine VC.loopP h (fun x => ⟨[(0, .sl false (a0.map enc_Entry)), (1, .fn (.func 101) [] [.ref 0 0]), (7, ri (a0.length : Int)), (8, ri x.2)], [(0, .box 25 [ru x.1])], 16, 19, 1⟩) ?_ ?_
  ·exact sl (by push_cast)
  rintro ⟨i_1, i_2⟩ b2 (h : p_slices_IndexFunc_api_Entry_api_Entry_shift_find_1_L2 a0 i_1 i_2 = some b2) hf2; (try push_cast); unfold p_slices_IndexFunc_api_Entry_api_Entry_shift_find_1_L2 at h; refine vs [0, 1, 7, 8, 9] (fun K hK => ?_); push_cast; refine hK _ ?_; clear hK K; refine VC.seq ?_; refine vc h (fun hb3 h => ?_) (fun hb3 h => ?_)
  ·refine VC.skip ?_; refine VC.seq ?_; refine VC.block ?_; refine vs [0, 1, 5, 7, 8] (fun K hK => ?_); push_cast; refine hK _ ?_; clear hK K; obtain ⟨x4, hx4, h⟩ := po_some h; replace hx4 := idx_some4 hx4; obtain ⟨r5, hr5, h⟩ := po_some h; refine vs [0, 1, 5, 7, 8, 16] (fun K hK => ?_); push_cast [hx4]; (repeat refine .intro (by omega) ?_); refine ch (H := [(0, .box 25 [ru i_1])]) (Ctr.loH (Ctr.ren Bij.id (c_shift_find_1 hr5) (by push_cast [hx4]) (by push_cast [hx4]))) (by push_cast [hx4]) ?_; push_cast [hx4]; (repeat refine .intro (by omega) ?_); refine hK _ ?_; clear hK K; refine VC.sub (s' := ⟨[(0, .sl false (a0.map enc_Entry)), (1, .fn (.func 101) [] [.ref 0 0]), (5, ri i_2), (7, ri (a0.length : Int)), (8, ri i_2), (16, rb r5.1)], [(0, .box 25 [ru r5.2])], 25, 19, 1⟩) (so (by push_cast [hb3])) ?_; refine vc h (fun hb6 h => ?_) (fun hb6 h => ?_)
   ·refine vs [4] (fun K hK => ?_); push_cast; refine hK _ ?_; clear hK K; refine VC.ret ?_; replace h := ol h hf2; replace h := om h hk1; replace h := Option.some.inj h; subst h; exact en (by push_cast [hb3, hb6])
   ·refine VC.skip ?_; refine vl (fun K hK => ?_); push_cast; refine hK _ ?_; clear hK K; refine bk h ?_; exact sl (by push_cast [hb3, hb6])
  ·refine VC.exit ?_; replace h := ol h hf2; refine am h hk1 ?_; exact sl (by push_cast [hb3])
 ·rintro i_5 (h : p_slices_IndexFunc_api_Entry_api_Entry_shift_find_1_J1 i_5 = some r); (try push_cast); unfold p_slices_IndexFunc_api_Entry_api_Entry_shift_find_1_J1 at h; refine vs [4] (fun K hK => ?_); push_cast; refine hK _ ?_; clear hK K; refine VC.ret ?_; replace h := Option.some.inj h; subst h; exact en (by push_cast)
noncomputable def p_shift_find (a0 : (List T_Entry)) (a1 : UInt32) : Option (Int) :=
  po (p_slices_IndexFunc_api_Entry_api_Entry_shift_find_1 a0 a1) fun r1 =>
  some r1.1
theorem c_shift_find {a0 : (List T_Entry)} {a1 : UInt32} {r : Int} (h : p_shift_find a0 a1 = some r) : Ctr prog 64 [.sl false (a0.map enc_Entry), ru a1] [] (ri r) [] := by
 unfold p_shift_find at h; refine Ctr.ofW tabOk func64 rfl call64 0 _ ntmps64 [.tmp 4] rfl rfl rfl (fun B => ?_); refine vs [0, 3] (fun K hK => ?_); push_cast; refine hK _ ?_; clear hK K; obtain ⟨r1, hr1, h⟩ := po_some h; refine vs [4] (fun K hK => ?_); push_cast; refine ch (H := [(0, .box 25 [ru a1])]) (Ctr.loH (Ctr.ren Bij.id (c_slices_IndexFunc_api_Entry_api_Entry_shift_find_1 hr1) (by push_cast) (by push_cast))) (by push_cast) ?_; push_cast; refine hK _ ?_; clear hK K; refine VC.sub (s' := ⟨[(4, ri r1.1)], [], 6, 8, 0⟩) (so (by push_cast)) ?_; refine VC.ret ?_; replace h := Option.some.inj h; subst h; exact en (by push_cast)
noncomputable def p_shift_clean_1 (a0 : UInt32) (a1 : T_Table) : Option (Bool × T_Table) :=
  po (p_shift_find a1.E a0) fun r1 =>
  some ((decide (r1 < 0)), a1)
theorem c_shift_clean_1 {a0 : UInt32} {a1 : T_Table} {r : Bool × T_Table} (h : p_shift_clean_1 a0 a1 = some r) : Ctr prog 96 [ru a0, .ref 0 0] [(0, .box 53 (enc_Table a1))] (rb r.1) [(0, .box 53 (enc_Table r.2))] := by
 unfold p_shift_clean_1 at h; refine Ctr.ofW tabOk func96 rfl call96 1 _ ntmps96 [.tmp 3] rfl rfl rfl (fun B => ?_); refine vs [0, 1] (fun K hK => ?_); push_cast; refine hK _ ?_; clear hK K; obtain ⟨r1, hr1, h⟩ := po_some h; refine vs [3] (fun K hK => ?_); push_cast; refine cp (c_shift_find hr1) ?_; push_cast; refine hK _ ?_; clear hK K; refine VC.ret ?_; replace h := Option.some.inj h; subst h; exact en (by push_cast)
noncomputable def p_shift_clean_2 (a0 : T_Entry) (a1 : T_Table) : Option (Bool × T_Table) :=
  po (p_shift_find a1.E a0.Key) fun r1 =>
  some ((decide (r1 < 0)), a1)
theorem c_shift_clean_2 {a0 : T_Entry} {a1 : T_Table} {r : Bool × T_Table} (h : p_shift_clean_2 a0 a1 = some r) : Ctr prog 98 [.agg (enc_Entry a0), .ref 0 0] [(0, .box 53 (enc_Table a1))] (rb r.1) [(0, .box 53 (enc_Table r.2))] := by
 unfold p_shift_clean_2 at h; refine Ctr.ofW tabOk func98 rfl call98 1 _ ntmps98 [.tmp 3] rfl rfl rfl (fun B => ?_); refine vs [1, 2] (fun K hK => ?_); push_cast; refine hK _ ?_; clear hK K; obtain ⟨r1, hr1, h⟩ := po_some h; refine vs [3] (fun K hK => ?_); push_cast; refine cp (c_shift_find hr1) ?_; push_cast; refine hK _ ?_; clear hK K; refine VC.ret ?_; replace h := Option.some.inj h; subst h; exact en (by push_cast)
noncomputable def p_slices_IndexFunc_uint32_uint32_shift_clean_1_L2 (a0 : (List UInt32)) (s_1 : T_Table) (i_2 : Int) : Option ((T_Table × Int) ⊕ ((T_Table) ⊕ (Int × T_Table))) :=
  cond (decide (i_2 < (a0.length : Int))) (
  po (idx a0 i_2) fun x4 =>
  po (p_shift_clean_1 x4 s_1) fun r5 =>
  cond r5.1 (
  some (Sum.inr (Sum.inr (i_2, r5.2)))) (
  some (Sum.inl (r5.2, (IntKind.i64.wrap (i_2 + 1)))))) (
  some (Sum.inr (Sum.inl s_1)))
noncomputable def p_slices_IndexFunc_uint32_uint32_shift_clean_1_J1 (s_5 : T_Table) : Option (Int × T_Table) :=
  some (-1, s_5)
noncomputable def p_slices_IndexFunc_uint32_uint32_shift_clean_1 (a0 : (List UInt32)) (a1_c0 : T_Table) : Option (Int × T_Table) :=
  pm (
  lpU (fun x => p_slices_IndexFunc_uint32_uint32_shift_clean_1_L2 a0 x.1 x.2) (a1_c0, 0)) (fun x => p_slices_IndexFunc_uint32_uint32_shift_clean_1_J1 x)
theorem c_slices_IndexFunc_uint32_uint32_shift_clean_1 {a0 : (List UInt32)} {a1_c0 : T_Table} {r : Int × T_Table} (h : p_slices_IndexFunc_uint32_uint32_shift_clean_1 a0 a1_c0 = some r) : Ctr prog 133 [.sl false (a0.map encU32), .fn (.func 96) [] [.ref 0 0]] [(0, .box 53 (enc_Table a1_c0))] (ri r.1) [(0, .box 53 (enc_Table r.2))] := by
 unfold p_slices_IndexFunc_uint32_uint32_shift_clean_1 at h; refine Ctr.ofW tabOk func133 rfl call133 1 _ ntmps133 [.tmp 4] rfl rfl rfl (fun B => ?_); refine vs [0, 1] (fun K hK => ?_); push_cast; refine hK _ ?_; clear hK K; refine vm h (fun x => ⟨[], [(0, .box 53 (enc_Table x))], 17, 19, 1⟩) (fun v1 h hk1 => ?_) ?_
 ·refine vs [0, 1, 7, 8] (fun K hK => ?_); push_cast; refine hK _ ?_; clear hK K; refine VC.block ?_; refine VC.loopP h (fun x => ⟨[(0, .sl false (a0.map encU32)), (1, .fn (.func 96) [] [.ref 0 0]), (7, ri (a0.length : Int)), (8, ri x.2)], [(0, .box 53 (enc_Table x.1))], 16, 19, 1⟩) ?_ ?_
  ·exact sl (by push_cast)
  rintro ⟨s_1, i_2⟩ b2 (h : p_slices_IndexFunc_uint32_uint32_shift_clean_1_L2 a0 s_1 i_2 = some b2) hf2; (try push_cast); unfold p_slices_IndexFunc_uint32_uint32_shift_clean_1_L2 at h; refine vs [0, 1, 7, 8, 9] (fun K hK => ?_); push_cast; refine hK _ ?_; clear hK K; refine VC.seq ?_; refine vc h (fun hb3 h => ?_) (fun hb3 h => ?_)
  ·refine VC.skip ?_; refine VC.seq ?_; refine VC.block ?_; refine vs [0, 1, 5, 7, 8] (fun K hK => ?_); push_cast; refine hK _ ?_; clear hK K; obtain ⟨x4, hx4, h⟩ := po_some h; replace hx4 := idx_some4 hx4; obtain ⟨r5, hr5, h⟩ := po_some h; refine vs [0, 1, 5, 7, 8, 16] (fun K hK => ?_); push_cast [hx4]; (repeat refine .intro (by omega) ?_); refine ch (H := [(0, .box 53 (enc_Table s_1))]) (Ctr.loH (Ctr.ren Bij.id (c_shift_clean_1 hr5) (by push_cast [hx4]) (by push_cast [hx4]))) (by push_cast [hx4]) ?_; push_cast [hx4]; (repeat refine .intro (by omega) ?_); refine hK _ ?_; clear hK K; refine VC.sub (s' := ⟨[(0, .sl false (a0.map encU32)), (1, .fn (.func 96) [] [.ref 0 0]), (5, ri i_2), (7, ri (a0.length : Int)), (8, ri i_2), (16, rb r5.1)], [(0, .box 53 (enc_Table r5.2))], 25, 19, 1⟩) (so (by push_cast [hb3])) ?_; refine vc h (fun hb6 h => ?_) (fun hb6 h => ?_)
   ·refine vs [4] (fun K hK => ?_); push_cast; refine hK _ ?_; clear hK K; refine VC.ret ?_; replace h := ol h hf2; replace h := om h hk1; replace h := Option.some.inj h; subst h; exact en (by push_cast [hb3, hb6])
   ·refine VC.skip ?_; refine vl (fun K hK => ?_); push_cast; refine hK _ ?_; clear hK K; refine bk h ?_; exact sl (by push_cast [hb3, hb6])
  ·refine VC.exit ?_; replace h := ol h hf2; refine am h hk1 ?_; exact sl (by push_cast [hb3])
 ·rintro s_5 (h : p_slices_IndexFunc_uint32_uint32_shift_clean_1_J1 s_5 = some r); (try push_cast); unfold p_slices_IndexFunc_uint32_uint32_shift_clean_1_J1 at h; refine vs [4] (fun K hK => ?_); push_cast; refine hK _ ?_; clear hK K; refine VC.ret ?_; replace h := Option.some.inj h; subst h; exact en (by push_cast)
noncomputable def p_slices_DeleteFunc_uint32_uint32_shift_clean_1 (a0 : (List UInt32)) (a1_c0 : T_Table) : Option ((List UInt32) × T_Table) :=
  po (p_slices_IndexFunc_uint32_uint32_shift_clean_1 a0 a1_c0) fun r1 =>
  cond (r1.1 == -1) (
  some (a0, r1.2)) (
  none)
theorem c_slices_DeleteFunc_uint32_uint32_shift_clean_1 {a0 : (List UInt32)} {a1_c0 : T_Table} {r : (List UInt32) × T_Table} (h : p_slices_DeleteFunc_uint32_uint32_shift_clean_1 a0 a1_c0 = some r) : Ctr prog 95 [.sl false (a0.map encU32), .fn (.func 96) [] [.ref 0 0]] [(0, .box 53 (enc_Table a1_c0))] (.sl false (r.1.map encU32)) [(0, .box 53 (enc_Table r.2))] := by
 unfold p_slices_DeleteFunc_uint32_uint32_shift_clean_1 at h; refine Ctr.ofW tabOk func95 rfl call95 1 _ ntmps95 [.tmp 4] rfl rfl rfl (fun B => ?_); refine vs [0, 1] (fun K hK => ?_); push_cast; refine hK _ ?_; clear hK K; obtain ⟨r1, hr1, h⟩ := po_some h; refine vs [0, 1, 5] (fun K hK => ?_); push_cast; refine ch (H := [(0, .box 53 (enc_Table a1_c0))]) (Ctr.loH (Ctr.ren Bij.id (c_slices_IndexFunc_uint32_uint32_shift_clean_1 hr1) (by push_cast) (by push_cast))) (by push_cast) ?_; push_cast; refine hK _ ?_; clear hK K; refine VC.sub (s' := ⟨[(0, .sl false (a0.map encU32)), (1, .fn (.func 96) [] [.ref 0 0]), (5, ri r1.1)], [(0, .box 53 (enc_Table r1.2))], 6, 42, 1⟩) (so (by push_cast)) ?_; refine VC.seq ?_; refine vs [0, 1, 5, 12] (fun K hK => ?_); push_cast; refine hK _ ?_; clear hK K; refine vc h (fun hb2 h => ?_) (fun hb2 h => ?_)
 ·refine vs [4] (fun K hK => ?_); push_cast; refine hK _ ?_; clear hK K; refine VC.ret ?_; replace h := Option.some.inj h; subst h; exact en (by push_cast [hb2])
 ·refine VC.skip ?_; refine VC.seq ?_; cases h
noncomputable def p_slices_IndexFunc_api_Entry_api_Entry_shift_clean_2_L2 (a0 : (List T_Entry)) (s_1 : T_Table) (i_2 : Int) : Option ((T_Table × Int) ⊕ ((T_Table) ⊕ (Int × T_Table))) :=
  cond (decide (i_2 < (a0.length : Int))) (
  po (idx a0 i_2) fun x4 =>
  po (p_shift_clean_2 x4 s_1) fun r5 =>
  cond r5.1 (
  some (Sum.inr (Sum.inr (i_2, r5.2)))) (
  some (Sum.inl (r5.2, (IntKind.i64.wrap (i_2 + 1)))))) (
  some (Sum.inr (Sum.inl s_1)))
noncomputable def p_slices_IndexFunc_api_Entry_api_Entry_shift_clean_2_J1 (s_5 : T_Table) : Option (Int × T_Table) :=
  some (-1, s_5)
noncomputable def p_slices_IndexFunc_api_Entry_api_Entry_shift_clean_2 (a0 : (List T_Entry)) (a1_c0 : T_Table) : Option (Int × T_Table) :=
  pm (
  lpU (fun x => p_slices_IndexFunc_api_Entry_api_Entry_shift_clean_2_L2 a0 x.1 x.2) (a1_c0, 0)) (fun x => p_slices_IndexFunc_api_Entry_api_Entry_shift_clean_2_J1 x)
theorem c_slices_IndexFunc_api_Entry_api_Entry_shift_clean_2 {a0 : (List T_Entry)} {a1_c0 : T_Table} {r : Int × T_Table} (h : p_slices_IndexFunc_api_Entry_api_Entry_shift_clean_2 a0 a1_c0 = some r) : Ctr prog 100 [.sl false (a0.map enc_Entry), .fn (.func 98) [] [.ref 0 0]] [(0, .box 53 (enc_Table a1_c0))] (ri r.1) [(0, .box 53 (enc_Table r.2))] := by
 unfold p_slices_IndexFunc_api_Entry_api_Entry_shift_clean_2 at h; refine Ctr.ofW tabOk func100 rfl call100 1 _ ntmps100 [.tmp 4] rfl rfl rfl (fun B => ?_); refine vs [0, 1] (fun K hK => ?_); push_cast; refine hK _ ?_; clear hK K; refine vm h (fun x => ⟨[], [(0, .box 53 (enc_Table x))], 17, 19, 1⟩) (fun v1 h hk1 => ?_) ?_
 ·refine vs [0, 1, 7, 8] (fun K hK => ?_); push_cast; refine hK _ ?_; clear hK K; refine VC.block ?_; refine VC.loopP h (fun x => ⟨[(0, .sl false (a0.map enc_Entry)), (1, .fn (.func 98) [] [.ref 0 0]), (7, ri (a0.length : Int)), (8, ri x.2)], [(0, .box 53 (enc_Table x.1))], 16, 19, 1⟩) ?_ ?_
  ·exact sl (by push_cast)
  rintro ⟨s_1, i_2⟩ b2 (h : p_slices_IndexFunc_api_Entry_api_Entry_shift_clean_2_L2 a0 s_1 i_2 = some b2) hf2; (try push_cast); unfold p_slices_IndexFunc_api_Entry_api_Entry_shift_clean_2_L2 at h; refine vs [0, 1, 7, 8, 9] (fun K hK => ?_); push_cast; refine hK _ ?_; clear hK K; refine VC.seq ?_; refine vc h (fun hb3 h => ?_) (fun hb3 h => ?_)
  ·refine VC.skip ?_; refine VC.seq ?_; refine VC.block ?_; refine vs [0, 1, 5, 7, 8] (fun K hK => ?_); push_cast; refine hK _ ?_; clear hK K; obtain ⟨x4, hx4, h⟩ := po_some h; replace hx4 := idx_some4 hx4; obtain ⟨r5, hr5, h⟩ := po_some h; refine vs [0, 1, 5, 7, 8, 16] (fun K hK => ?_); push_cast [hx4]; (repeat refine .intro (by omega) ?_); refine ch (H := [(0, .box 53 (enc_Table s_1))]) (Ctr.loH (Ctr.ren Bij.id (c_shift_clean_2 hr5) (by push_cast [hx4]) (by push_cast [hx4]))) (by push_cast [hx4]) ?_; push_cast [hx4]; (repeat refine .intro (by omega) ?_); refine hK _ ?_; clear hK K; refine VC.sub (s' := ⟨[(0, .sl false (a0.map enc_Entry)), (1, .fn (.func 98) [] [.ref 0 0]), (5, ri i_2), (7, ri (a0.length : Int)), (8, ri i_2), (16, rb r5.1)], [(0, .box 53 (enc_Table r5.2))], 25, 19, 1⟩) (so (by push_cast [hb3])) ?_; refine vc h (fun hb6 h => ?_) (fun hb6 h => ?_)
   ·refine vs [4] (fun K hK => ?_); push_cast; refine hK _ ?_; clear hK K; refine VC.ret ?_; replace h := ol h hf2; replace h := om h hk1; replace h := Option.some.inj h; subst h; exact en (by push_cast [hb3, hb6])
   ·refine VC.skip ?_; refine vl (fun K hK => ?_); push_cast; refine hK _ ?_; clear hK K; refine bk h ?_; exact sl (by push_cast [hb3, hb6])
  ·refine VC.exit ?_; replace h := ol h hf2; refine am h hk1 ?_; exact sl (by push_cast [hb3])
 ·rintro s_5 (h : p_slices_IndexFunc_api_Entry_api_Entry_shift_clean_2_J1 s_5 = some r); (try push_cast); unfold p_slices_IndexFunc_api_Entry_api_Entry_shift_clean_2_J1 at h; refine vs [4] (fun K hK => ?_); push_cast; refine hK _ ?_; clear hK K; refine VC.ret ?_; replace h := Option.some.inj h; subst h; exact en (by push_cast)
noncomputable def p_slices_DeleteFunc_api_Entry_api_Entry_shift_clean_2 (a0 : (List T_Entry)) (a1_c0 : T_Table) : Option ((List T_Entry) × T_Table) :=
  po (p_slices_IndexFunc_api_Entry_api_Entry_shift_clean_2 a0 a1_c0) fun r1 =>
  cond (r1.1 == -1) (
  some (a0, r1.2)) (
  none)
theorem c_slices_DeleteFunc_api_Entry_api_Entry_shift_clean_2 {a0 : (List T_Entry)} {a1_c0 : T_Table} {r : (List T_Entry) × T_Table} (h : p_slices_DeleteFunc_api_Entry_api_Entry_shift_clean_2 a0 a1_c0 = some r) : Ctr prog 97 [.sl false (a0.map enc_Entry), .fn (.func 98) [] [.ref 0 0]] [(0, .box 53 (enc_Table a1_c0))] (.sl false (r.1.map enc_Entry)) [(0, .box 53 (enc_Table r.2))] := by
 unfold p_slices_DeleteFunc_api_Entry_api_Entry_shift_clean_2 at h; refine Ctr.ofW tabOk func97 rfl call97 1 _ ntmps97 [.tmp 4] rfl rfl rfl (fun B => ?_); refine vs [0, 1] (fun K hK => ?_); push_cast; refine hK _ ?_; clear hK K; obtain ⟨r1, hr1, h⟩ := po_some h; refine vs [0, 1, 5] (fun K hK => ?_); push_cast; refine ch (H := [(0, .box 53 (enc_Table a1_c0))]) (Ctr.loH (Ctr.ren Bij.id (c_slices_IndexFunc_api_Entry_api_Entry_shift_clean_2 hr1) (by push_cast) (by push_cast))) (by push_cast) ?_; push_cast; refine hK _ ?_; clear hK K; refine VC.sub (s' := ⟨[(0, .sl false (a0.map enc_Entry)), (1, .fn (.func 98) [] [.ref 0 0]), (5, ri r1.1)], [(0, .box 53 (enc_Table r1.2))], 6, 42, 1⟩) (so (by push_cast)) ?_; refine VC.seq ?_; refine vs [0, 1, 5, 12] (fun K hK => ?_); push_cast; refine hK _ ?_; clear hK K; refine vc h (fun hb2 h => ?_) (fun hb2 h => ?_)
 ·refine vs [4] (fun K hK => ?_); push_cast; refine hK _ ?_; clear hK K; refine VC.ret ?_; replace h := Option.some.inj h; subst h; exact en (by push_cast [hb2])
 ·refine VC.skip ?_; refine VC.seq ?_; cases h
noncomputable def p_shift_clean_J3 (s_1 : T_Shift) : Option (T_Shift) :=
  some s_1
noncomputable def p_shift_clean (a0 : T_Shift) (a1 : T_Table) : Option (T_Shift) :=
  po (p_shift_own a0) fun r1 =>
  po (p_slices_DeleteFunc_uint32_uint32_shift_clean_1 r1.Done a1) fun r2 =>
  po (
  cond (r2.2.S.Kind != 0) (
  po (p_slices_DeleteFunc_api_Entry_api_Entry_shift_clean_2 r1.To.E r2.2) fun r5 =>
  some (T_Shift.mk r1.S r1.P r2.1 (T_Table.mk r1.To.S r5.1 r1.To.Next))) (
  some (T_Shift.mk r1.S r1.P r2.1 r1.To))) (fun x => p_shift_clean_J3 x)
theorem c_shift_clean {a0 : T_Shift} {a1 : T_Table} {r : T_Shift} (h : p_shift_clean a0 a1 = some r) : Ctr prog 62 [.agg (enc_Shift a0), .agg (enc_Table a1)] [] (.agg (enc_Shift r)) [] := by
 unfold p_shift_clean at h; refine Ctr.ofW tabOk func62 rfl call62 0 _ ntmps62 [.cell 4 75] rfl rfl rfl (fun B => ?_); refine vs [2, 3, 4] (fun K hK => ?_); push_cast; refine hK _ ?_; clear hK K; obtain ⟨r1, hr1, h⟩ := po_some h; refine vs [2, 3, 4] (fun K hK => ?_); push_cast; refine cp (c_shift_own hr1) ?_; push_cast; refine hK _ ?_; clear hK K; obtain ⟨r2, hr2, h⟩ := po_some h; refine vs [2, 3, 4] (fun K hK => ?_); push_cast; refine ch (H := [(1, .box 53 (enc_Table a1))]) (Ctr.loH (Ctr.ren (Bij.swp 0 1 Bij.id) (c_slices_DeleteFunc_uint32_uint32_shift_clean_1 hr2) (by push_cast) (by push_cast))) (by push_cast) ?_; push_cast; refine hK _ ?_; clear hK K; refine VC.sub (s' := ⟨[(2, .ref 0 0), (3, .ref 1 0), (4, .ref 2 0)], [(0, .box 75 (enc_Shift (T_Shift.mk r1.S r1.P r2.1 r1.To))), (1, .box 53 (enc_Table r2.2)), (2, .box 75 [ri 0, ri 0, ri 0, ri 0, .sl true [], .sl true [], ri 0, ri 0, ri 0, ri 0, .sl true [], .raw (.int .u32 0)])], 12, 24, 0⟩) (so (by push_cast)) ?_; refine vj h (fun x => ⟨[(2, .ref 0 0), (4, .ref 2 0)], [(0, .box 75 (enc_Shift x)), (2, .box 75 [ri 0, ri 0, ri 0, ri 0, .sl true [], .sl true [], ri 0, ri 0, ri 0, ri 0, .sl true [], .raw (.int .u32 0)])], 24, 24, 0⟩) (fun v3 h hk3 => ?_) ?_
 ·refine vs [2, 3, 4, 15] (fun K hK => ?_); push_cast; refine hK _ ?_; clear hK K; refine vc h (fun hb4 h => ?_) (fun hb4 h => ?_)
  ·obtain ⟨r5, hr5, h⟩ := po_some h; refine vl (fun K hK => ?_); push_cast; refine ch (H := [(1, .box 53 (enc_Table r2.2))]) (Ctr.loH (Ctr.ren (Bij.swp 0 1 Bij.id) (c_slices_DeleteFunc_api_Entry_api_Entry_shift_clean_2 hr5) (by push_cast) (by push_cast))) (by push_cast) ?_; push_cast; refine hK _ ?_; clear hK K; refine ar h hk3 ?_; exact so (by push_cast [hb4])
  ·refine VC.skip ?_; refine ar h hk3 ?_; exact so (by push_cast [hb4])
 ·rintro s_1 (h : p_shift_clean_J3 s_1 = some r); (try push_cast); unfold p_shift_clean_J3 at h; refine vs [4] (fun K hK => ?_); push_cast; refine hK _ ?_; clear hK K; refine VC.ret ?_; replace h := Option.some.inj h; subst h; exact en (by push_cast)
noncomputable def p_shift_fits_J1 (i_1 : Bool) : Option (Bool) :=
  some i_1
noncomputable def p_shift_fits (a0 : T_Shift) (a1 : T_Table) : Option (Bool) :=
  po (
  po (p_shift_may a1 a0.S a0.P) fun r2 =>
  cond (r2 == 0) (
  po (p_table_May a0.To) fun r4 =>
  cond r4 (
  some ((a0.To.S.Kind == a0.S.Kind) && ((a0.To.S.Cap == a0.S.Cap) && ((a0.To.S.Words == a0.S.Words) && (a0.To.S.Ver == a0.S.Ver))))) (
  some false)) (
  some false)) (fun x => p_shift_fits_J1 x)
theorem c_shift_fits {a0 : T_Shift} {a1 : T_Table} {r : Bool} (h : p_shift_fits a0 a1 = some r) : Ctr prog 61 [.agg (enc_Shift a0), .agg (enc_Table a1)] [] (rb r) [] := by
 unfold p_shift_fits at h; refine Ctr.ofW tabOk func61 rfl call61 0 _ ntmps61 [.tmp 4] rfl rfl rfl (fun B => ?_); refine vs [2, 3] (fun K hK => ?_); push_cast; refine hK _ ?_; clear hK K; refine vj h (fun x => ⟨[(4, rb x)], [], 24, 25, 0⟩) (fun v1 h hk1 => ?_) ?_
 ·obtain ⟨r2, hr2, h⟩ := po_some h; rcases Bool.eq_false_or_eq_true (r2 == 0) with hb3 | hb3
  ·replace h := cond_yes hb3 h; obtain ⟨r4, hr4, h⟩ := po_some h; rcases Bool.eq_false_or_eq_true r4 with hb5 | hb5
   ·replace h := cond_yes hb5 h; refine vlG [some 5, some 6, some 7, some 8, some 9, some 10, some 11, some 12, some 13, some 14, some 15, some 16, some 17, some 18, some 19, some 20, some 21, some 22, some 23, some 24, some 4] (fun K hK => ?_); refine runOps_cut 8 (fun K2 hK2 => ?_); push_cast [hb3, hb5]; (repeat refine .intro (by omega) ?_); refine cp (c_shift_may hr2) ?_; push_cast [hb3, hb5]; (repeat refine .intro (by omega) ?_); refine hK2 _ _ ?_; clear hK2 K2; simp only [List.drop_succ_cons, List.drop_zero]; refine runOps_cut 8 (fun K2 hK2 => ?_); push_cast [hb3, hb5]; (repeat refine .intro (by omega) ?_); refine cp (c_table_May a0.To hr4) ?_; push_cast [hb3, hb5]; (repeat refine .intro (by omega) ?_); refine hK2 _ _ ?_; clear hK2 K2; simp only [List.drop_succ_cons, List.drop_zero]; push_cast [hb3, hb5]; (repeat refine .intro (by omega) ?_); refine hK _ ?_; clear hK K; refine ar h hk1 ?_; exact sl (by push_cast [hb3, hb5])
   ·replace h := cond_no hb5 h; refine vlG [some 5, some 6, some 7, some 8, some 9, some 10, some 11, some 12, some 13, some 14, some 15, some 16, some 17, some 18, some 19, some 20, some 21, some 22, some 23, some 24, some 4] (fun K hK => ?_); refine runOps_cut 8 (fun K2 hK2 => ?_); push_cast [hb3, hb5]; (repeat refine .intro (by omega) ?_); refine cp (c_shift_may hr2) ?_; push_cast [hb3, hb5]; (repeat refine .intro (by omega) ?_); refine hK2 _ _ ?_; clear hK2 K2; simp only [List.drop_succ_cons, List.drop_zero]; refine runOps_cut 8 (fun K2 hK2 => ?_); push_cast [hb3, hb5]; (repeat refine .intro (by omega) ?_); refine cp (c_table_May a0.To hr4) ?_; push_cast [hb3, hb5]; (repeat refine .intro (by omega) ?_); refine hK2 _ _ ?_; clear hK2 K2; simp only [List.drop_succ_cons, List.drop_zero]; push_cast [hb3, hb5]; (repeat refine .intro (by omega) ?_); refine hK _ ?_; clear hK K; refine ar h hk1 ?_; exact sl (by push_cast [hb3, hb5])
  ·replace h := cond_no hb3 h; refine vlG [some 5, some 6, some 7, some 8, some 9, some 10, some 11, some 12, some 13, some 14, some 15, some 16, some 17, some 18, some 19, some 20, some 21, some 22, some 23, some 24, some 4] (fun K hK => ?_); refine runOps_cut 8 (fun K2 hK2 => ?_); push_cast [hb3]; (repeat refine .intro (by omega) ?_); refine cp (c_shift_may hr2) ?_; push_cast [hb3]; (repeat refine .intro (by omega) ?_); refine hK2 _ _ ?_; clear hK2 K2; simp only [List.drop_succ_cons, List.drop_zero]; refine runOps_cut 8 (fun K2 hK2 => ?_); push_cast [hb3]; (repeat refine .intro (by omega) ?_); refine hK2 _ _ ?_; clear hK2 K2; simp only [List.drop_succ_cons, List.drop_zero]; push_cast [hb3]; (repeat refine .intro (by omega) ?_); refine hK _ ?_; clear hK K; refine ar h hk1 ?_; exact sl (by push_cast [hb3])
 ·rintro i_1 (h : p_shift_fits_J1 i_1 = some r); (try push_cast); unfold p_shift_fits_J1 at h; refine VC.ret ?_; replace h := Option.some.inj h; subst h; exact en (by push_cast)
noncomputable def p_slices_Index_uint32_uint32_L2 (a0 : (List UInt32)) (a1 : UInt32) (i_1 : Int) : Option ((Int) ⊕ ((Unit) ⊕ (Int))) :=
  cond (decide (i_1 < (a0.length : Int))) (
  po (idx a0 i_1) fun x4 =>
  cond ((a1.toNat : Int) == (x4.toNat : Int)) (
  some (Sum.inr (Sum.inr i_1))) (
  some (Sum.inl (IntKind.i64.wrap (i_1 + 1))))) (
  some (Sum.inr (Sum.inl ())))
noncomputable def p_slices_Index_uint32_uint32_J1 : Option (Int) :=
  some (-1)
noncomputable def p_slices_Index_uint32_uint32 (a0 : (List UInt32)) (a1 : UInt32) : Option (Int) :=
  pm (
  lpU (fun x => p_slices_Index_uint32_uint32_L2 a0 a1 x) 0) (fun x => p_slices_Index_uint32_uint32_J1)
theorem c_slices_Index_uint32_uint32 {a0 : (List UInt32)} {a1 : UInt32} {r : Int} (h : p_slices_Index_uint32_uint32 a0 a1 = some r) : Ctr prog 99 [.sl false (a0.map encU32), ru a1] [] (ri r) [] := by
 unfold p_slices_Index_uint32_uint32 at h; refine Ctr.ofW tabOk func99 rfl call99 0 _ ntmps99 [.tmp 4] rfl rfl rfl (fun B => ?_); refine vs [0, 1] (fun K hK => ?_); push_cast; refine hK _ ?_; clear hK K; refine vm h (fun x => ⟨[], [], 16, 19, 0⟩) (fun v1 h hk1 => ?_) ?_
 ·refine vs [0, 1, 7, 8] (fun K hK => ?_); push_cast; refine hK _ ?_; clear hK K; refine VC.block ?_; refine VC.loopP h (fun x => ⟨[(0, .sl false (a0.map encU32)), (1, ru a1), (7, ri (a0.length : Int)), (8, ri x)], [], 15, 19, 0⟩) ?_ ?_
  ·exact sl (by push_cast)
  rintro i_1 b2 (h : p_slices_Index_uint32_uint32_L2 a0 a1 i_1 = some b2) hf2; (try push_cast); unfold p_slices_Index_uint32_uint32_L2 at h; refine vs [0, 1, 7, 8, 9] (fun K hK => ?_); push_cast; refine hK _ ?_; clear hK K; refine VC.seq ?_; refine vc h (fun hb3 h => ?_) (fun hb3 h => ?_)
  ·refine VC.skip ?_; refine VC.seq ?_; refine VC.block ?_; refine vs [0, 1, 5, 7, 8] (fun K hK => ?_); push_cast; refine hK _ ?_; clear hK K; obtain ⟨x4, hx4, h⟩ := po_some h; replace hx4 := idx_some4 hx4; refine vs [0, 1, 5, 7, 8, 16] (fun K hK => ?_); push_cast [hx4]; (repeat refine .intro (by omega) ?_); refine hK _ ?_; clear hK K; refine vc h (fun hb5 h => ?_) (fun hb5 h => ?_)
   ·refine vs [4] (fun K hK => ?_); push_cast; refine hK _ ?_; clear hK K; refine VC.ret ?_; replace h := ol h hf2; replace h := om h hk1; replace h := Option.some.inj h; subst h; exact en (by push_cast [hb3, hb5])
   ·refine VC.skip ?_; refine vl (fun K hK => ?_); push_cast; refine hK _ ?_; clear hK K; refine bk h ?_; exact sl (by push_cast [hb3, hb5])
  ·refine VC.exit ?_; replace h := ol h hf2; refine am h hk1 ?_; exact sl (by push_cast [hb3])
 ·rintro ⟨⟩ (h : p_slices_Index_uint32_uint32_J1 = some r); (try push_cast); unfold p_slices_Index_uint32_uint32_J1 at h; refine vs [4] (fun K hK => ?_); push_cast; refine hK _ ?_; clear hK K; refine VC.ret ?_; replace h := Option.some.inj h; subst h; exact en (by push_cast)
noncomputable def p_slices_Contains_uint32_uint32 (a0 : (List UInt32)) (a1 : UInt32) : Option (Bool) :=
  po (p_slices_Index_uint32_uint32 a0 a1) fun r1 =>
  some (decide (r1 ≥ 0))
theorem c_slices_Contains_uint32_uint32 {a0 : (List UInt32)} {a1 : UInt32} {r : Bool} (h : p_slices_Contains_uint32_uint32 a0 a1 = some r) : Ctr prog 63 [.sl false (a0.map encU32), ru a1] [] (rb r) [] := by
 unfold p_slices_Contains_uint32_uint32 at h; refine Ctr.ofW tabOk func63 rfl call63 0 _ ntmps63 [.tmp 4] rfl rfl rfl (fun B => ?_); refine vs [0, 1] (fun K hK => ?_); push_cast; refine hK _ ?_; clear hK K; obtain ⟨r1, hr1, h⟩ := po_some h; refine vs [4] (fun K hK => ?_); push_cast; refine cp (c_slices_Index_uint32_uint32 hr1) ?_; push_cast; refine hK _ ?_; clear hK K; refine VC.ret ?_; replace h := Option.some.inj h; subst h; exact en (by push_cast)
noncomputable def p_shift_Step_L5 (a1 : T_Table) (r3 : T_Shift) (i_1 : Int) : Option ((Int) ⊕ ((Unit) ⊕ (T_Shift × Bool × Int))) :=
  cond (decide (i_1 < (a1.E.length : Int))) (
  po (idx a1.E i_1) fun x7 =>
  po (p_slices_Contains_uint32_uint32 r3.Done x7.Key) fun r8 =>
  cond r8 (
  some (Sum.inl (IntKind.i64.wrap (i_1 + 1)))) (
  po (p_shift_put r3.S r3.P x7.Key x7.V) fun r10 =>
  cond (r10.2 != 0) (
  some (Sum.inr (Sum.inr ((T_Shift.mk (T_Schema.mk 0 0 0 0) (T_Prog.mk []) [] (T_Table.mk (T_Schema.mk 0 0 0 0) [] 0)), false, r10.2)))) (
  none))) (
  some (Sum.inr (Sum.inl ())))
noncomputable def p_shift_Step_J4 (r3 : T_Shift) : Option (T_Shift × Bool × Int) :=
  some (r3, true, 0)
noncomputable def p_shift_Step (a0 : T_Shift) (a1 : T_Table) : Option (T_Shift × Bool × Int) :=
  po (p_shift_fits a0 a1) fun r1 =>
  cond (!r1) (
  some ((T_Shift.mk (T_Schema.mk 0 0 0 0) (T_Prog.mk []) [] (T_Table.mk (T_Schema.mk 0 0 0 0) [] 0)), false, 1)) (
  po (p_shift_clean a0 a1) fun r3 =>
  pm (
  lpU (fun x => p_shift_Step_L5 a1 r3 x) 0) (fun x => p_shift_Step_J4 r3))
theorem c_shift_Step {a0 : T_Shift} {a1 : T_Table} {r : T_Shift × Bool × Int} (h : p_shift_Step a0 a1 = some r) : Ctr prog 28 [.agg (enc_Shift a0), .agg (enc_Table a1)] [] (.tup [.agg (enc_Shift r.1), rb r.2.1, ri r.2.2]) [] := by
 unfold p_shift_Step at h; refine Ctr.ofW tabOk func28 rfl call28 0 _ ntmps28 [.cell 4 75, .tmp 5, .tmp 6] rfl rfl rfl (fun B => ?_); refine vs [2, 3, 4] (fun K hK => ?_); push_cast; refine hK _ ?_; clear hK K; refine VC.seq ?_; obtain ⟨r1, hr1, h⟩ := po_some h; refine vs [2, 3, 4, 15] (fun K hK => ?_); push_cast; refine cp (c_shift_fits hr1) ?_; push_cast; refine hK _ ?_; clear hK K; refine vc h (fun hb2 h => ?_) (fun hb2 h => ?_)
 ·refine vs [4, 5, 6] (fun K hK => ?_); push_cast; refine hK _ ?_; clear hK K; refine VC.ret ?_; replace h := Option.some.inj h; subst h; exact en (by push_cast [hb2])
 ·refine VC.skip ?_; obtain ⟨r3, hr3, h⟩ := po_some h; refine vs [2, 3, 4] (fun K hK => ?_); push_cast; refine cp (c_shift_clean hr3) ?_; push_cast; refine hK _ ?_; clear hK K; refine vm h (fun x => ⟨[(2, .ref 0 0), (4, .ref 2 0)], [(0, .box 75 (enc_Shift r3)), (2, .box 75 [ri 0, ri 0, ri 0, ri 0, .sl true [], .sl true [], ri 0, ri 0, ri 0, ri 0, .sl true [], .raw (.int .u32 0)])], 30, 84, 0⟩) (fun v4 h hk4 => ?_) ?_
  ·refine vs [2, 4, 21, 22, 23] (fun K hK => ?_); push_cast; refine hK _ ?_; clear hK K; refine VC.block ?_; refine VC.loopP h (fun x => ⟨[(2, .ref 0 0), (4, .ref 2 0), (21, .sl false (a1.E.map enc_Entry)), (22, ri (a1.E.length : Int)), (23, ri x)], [(0, .box 75 (enc_Shift r3)), (2, .box 75 [ri 0, ri 0, ri 0, ri 0, .sl true [], .sl true [], ri 0, ri 0, ri 0, ri 0, .sl true [], .raw (.int .u32 0)])], 29, 84, 0⟩) ?_ ?_
   ·exact so (by push_cast [hb2])
   rintro i_1 b5 (h : p_shift_Step_L5 a1 r3 i_1 = some b5) hf5; (try push_cast); unfold p_shift_Step_L5 at h; refine vs [2, 4, 21, 22, 23, 24] (fun K hK => ?_); push_cast; refine hK _ ?_; clear hK K; refine VC.seq ?_; refine vc h (fun hb6 h => ?_) (fun hb6 h => ?_)
   ·refine VC.skip ?_; refine VC.seq ?_; refine VC.block ?_; obtain ⟨x7, hx7, h⟩ := po_some h; replace hx7 := idx_some4 hx7; refine vs [2, 4, 8, 21, 22, 23] (fun K hK => ?_); push_cast [hx7]; (repeat refine .intro (by omega) ?_); refine hK _ ?_; clear hK K; refine VC.seq ?_; obtain ⟨r8, hr8, h⟩ := po_some h; refine vs [2, 4, 8, 21, 22, 23, 31] (fun K hK => ?_); push_cast; refine cp (c_slices_Contains_uint32_uint32 hr8) ?_; push_cast; refine hK _ ?_; clear hK K; refine vc h (fun hb9 h => ?_) (fun hb9 h => ?_)
    ·refine VC.exit ?_; refine vl (fun K hK => ?_); push_cast; refine hK _ ?_; clear hK K; refine bk h ?_; exact so (by push_cast [hb2, hb6, hb9])
    ·refine VC.skip ?_; obtain ⟨r10, hr10, h⟩ := po_some h; refine vs [2, 4, 8, 9, 10] (fun K hK => ?_); refine runOps_cut 8 (fun K2 hK2 => ?_); push_cast; refine hK2 _ _ ?_; clear hK2 K2; simp only [List.drop_succ_cons, List.drop_zero]; push_cast; refine ch (H := []) (Ctr.loH (Ctr.ren (Bij.swp 0 47 Bij.id) (c_shift_put hr10) (by push_cast) (by push_cast))) (by push_cast) ?_; push_cast; refine hK _ ?_; clear hK K; refine VC.sub (s' := ⟨[(2, .ref 0 0), (4, .ref 2 0), (8, .ref 32 0), (9, .row 47 0 1 0 r10.1.length), (10, ri r10.2)], [(0, .box 75 (enc_Shift r3)), (2, .box 75 [ri 0, ri 0, ri 0, ri 0, .sl true [], .sl true [], ri 0, ri 0, ri 0, ri 0, .sl true [], .raw (.int .u32 0)]), (32, .box 66 (enc_Entry x7)), (47, .row 25 1 0 (r10.1.map encU32))], 53, 84, 0⟩) (so (by push_cast [hb2, hb6, hb9])) ?_; refine VC.seq ?_; refine vs [2, 4, 8, 9, 10, 45] (fun K hK => ?_); push_cast; refine hK _ ?_; clear hK K; refine vc h (fun hb11 h => ?_) (fun hb11 h => ?_)
     ·refine vs [4, 5, 6] (fun K hK => ?_); push_cast; refine hK _ ?_; clear hK K; refine VC.ret ?_; replace h := ol h hf5; replace h := om h hk4; replace h := Option.some.inj h; subst h; exact en (by push_cast [hb2, hb6, hb9, hb11])
     ·refine VC.skip ?_; cases h
   ·refine VC.exit ?_; replace h := ol h hf5; refine am h hk4 ?_; exact so (by push_cast [hb2, hb6])
  ·rintro ⟨⟩ (h : p_shift_Step_J4 r3 = some r); (try push_cast); unfold p_shift_Step_J4 at h; refine vs [4, 5, 6] (fun K hK => ?_); push_cast; refine hK _ ?_; clear hK K; refine VC.ret ?_; replace h := Option.some.inj h; subst h; exact en (by push_cast [hb2])
noncomputable def p_drydocklaw18_ShiftRefuses_J10 (i_2 : Bool) : Option (Bool) :=
  some i_2
noncomputable def p_drydocklaw18_ShiftRefuses_J14 (i_3 : Bool) : Option (Bool) :=
  some i_3
noncomputable def p_drydocklaw18_ShiftRefuses_J20 (i_4 : Bool) : Option (Bool) :=
  some i_4
noncomputable def p_drydocklaw18_ShiftRefuses_J2 (a0 : T_Table) (a1 : T_Schema) (r1 : Bool) (i_1 : Bool) : Option (Bool) :=
  cond i_1 (
  some r1) (
  pl ((4294967295 : UInt32)) fun c6 =>
  po (p_shift_Image a0 a1 (T_Prog.mk ([(T_Fn.mk 0 ([(T_Inst.mk 0 0 0 0 false 0 c6), (T_Inst.mk 7 0 0 0 false 0 0)]))]))) fun r7 =>
  po (p_shift_New a0 a1 (T_Prog.mk ([(T_Fn.mk 0 ([(T_Inst.mk 0 0 0 0 false 0 c6), (T_Inst.mk 7 0 0 0 false 0 0)]))]))) fun r8 =>
  cond (r8.2 != 0) (
  po (
  cond (r7.2 == r8.2) (
  some ((r8.1.Done.length : Int) == 0)) (
  some false)) (fun x => p_drydocklaw18_ShiftRefuses_J10 x)) (
  po (p_shift_Step r8.1 a0) fun r12 =>
  cond ((a0.E.length : Int) == 0) (
  po (
  cond (r7.2 == 0) (
  cond ((r7.1.E.length : Int) == 0) (
  cond r12.2.1 (
  some (r12.2.2 == 0)) (
  some false)) (
  some false)) (
  some false)) (fun x => p_drydocklaw18_ShiftRefuses_J14 x)) (
  po (a0.E[0]?) fun x18 =>
  po (p_shift_One a1 (T_Prog.mk ([(T_Fn.mk 0 ([(T_Inst.mk 0 0 0 0 false 0 c6), (T_Inst.mk 7 0 0 0 false 0 0)]))])) x18.Key x18.V) fun r19 =>
  po (
  cond (r7.2 == 10) (
  cond (r12.2.2 == r7.2) (
  cond (r19.2 == r7.2) (
  some (!r12.2.1)) (
  some false)) (
  some false)) (
  some false)) (fun x => p_drydocklaw18_ShiftRefuses_J20 x))))
noncomputable def p_drydocklaw18_ShiftRefuses (a0 : T_Table) (a1 : T_Schema) : Option (Bool) :=
  po (p_drydocklaw18_awake) fun r1 =>
  po (
  cond r1 (
  po (p_drydocklaw18_few (T_Prog.mk []) ([a0]) []) fun r4 =>
  some (!r4)) (
  some true)) (fun x => p_drydocklaw18_ShiftRefuses_J2 a0 a1 r1 x)
theorem c_drydocklaw18_ShiftRefuses {a0 : T_Table} {a1 : T_Schema} {r : Bool} (h : p_drydocklaw18_ShiftRefuses a0 a1 = some r) : Ctr prog 6 [.agg (enc_Table a0), .agg (enc_Schema a1)] [] (rb r) [] := by
 unfold p_drydocklaw18_ShiftRefuses at h; refine Ctr.ofW tabOk func6 rfl call6 0 _ ntmps6 [.tmp 4] rfl rfl rfl (fun B => ?_); refine vs [2, 3] (fun K hK => ?_); push_cast; refine hK _ ?_; clear hK K; obtain ⟨r1, hr1, h⟩ := po_some h; refine vs [2, 3, 5] (fun K hK => ?_); push_cast; refine cp (c_drydocklaw18_awake hr1) ?_; push_cast; refine hK _ ?_; clear hK K; refine VC.seq ?_; refine vj h (fun x => ⟨[(2, .ref 0 0), (3, .ref 1 0), (5, rb r1), (25, rb x)], [(0, .box 53 (enc_Table a0)), (1, .box 50 (enc_Schema a1))], 14, 116, 0⟩) (fun v2 h hk2 => ?_) ?_
 ·rcases Bool.eq_false_or_eq_true r1 with hb3 | hb3
  ·replace h := cond_yes hb3 h; obtain ⟨r4, hr4, h⟩ := po_some h; refine vlG [some 17, some 18, some 19, some 20, some 21, some 22, some 23, some 24, some 25] (fun K hK => ?_); push_cast [hb3]; (repeat refine .intro (by omega) ?_); refine ch (H := [(10, .row 53 6 0 (([a0]).map enc_Table))]) (H' := _) (Ctr.borrow (c_drydocklaw18_few hr4) (by push_cast [hb3]) rfl) (by push_cast [hb3]) ?_; push_cast [hb3]; (repeat refine .intro (by omega) ?_); refine hK _ ?_; clear hK K; refine ar h hk2 ?_; exact sl (by push_cast [hb3])
  ·replace h := cond_no hb3 h; refine vlG [some 17, some 18, some 19, some 20, some 21, some 22, some 23, some 24, some 25] (fun K hK => ?_); push_cast [hb3]; (repeat refine .intro (by omega) ?_); refine hK _ ?_; clear hK K; refine ar h hk2 ?_; exact sl (by push_cast [hb3])
 ·rintro i_1 (h : p_drydocklaw18_ShiftRefuses_J2 a0 a1 r1 i_1 = some r); (try push_cast); unfold p_drydocklaw18_ShiftRefuses_J2 at h; refine vc h (fun hb5 h => ?_) (fun hb5 h => ?_)
  ·refine vs [4] (fun K hK => ?_); push_cast; refine hK _ ?_; clear hK K; refine VC.ret ?_; replace h := Option.some.inj h; subst h; exact en (by push_cast [hb5])
  ·refine VC.skip ?_; obtain ⟨c6, hc6, h⟩ := pl_some h; have hc6i : (c6.toNat : Int) = 4294967295 := by rw [hc6]; rfl
   refine vs [2, 3, 6] (fun K hK => ?_); push_cast [hc6i]; (repeat refine .intro (by omega) ?_); refine hK _ ?_; clear hK K; refine VC.sub (s' := ⟨[(2, .ref 0 0), (3, .ref 1 0), (6, .ref 20 0)], [(0, .box 53 (enc_Table a0)), (1, .box 50 (enc_Schema a1)), (18, .row 71 2 0 (([(T_Fn.mk 0 ([(T_Inst.mk 0 0 0 0 false 0 c6), (T_Inst.mk 7 0 0 0 false 0 0)]))]).map enc_Fn)), (20, .box 56 [.row 18 0 2 0 1])], 22, 116, 0⟩) (so (by push_cast [hb5, hc6i])) ?_; refine VC.sub (Sub.freeze prog (b := 20) (j := 0) rfl rfl rfl (by push_cast [hb5, hc6i] <;> omega) (by decide)) ?_; refine VC.sub (s' := ⟨[(2, .ref 0 0), (3, .ref 1 0), (6, .ref 20 0)], [(0, .box 53 (enc_Table a0)), (1, .box 50 (enc_Schema a1)), (20, .box 56 [.sl false (([(T_Fn.mk 0 ([(T_Inst.mk 0 0 0 0 false 0 c6), (T_Inst.mk 7 0 0 0 false 0 0)]))]).map enc_Fn)])], 22, 116, 0⟩) (so (by push_cast [hb5, hc6i])) ?_; obtain ⟨r7, hr7, h⟩ := po_some h; refine vs [2, 3, 6, 7, 8] (fun K hK => ?_); push_cast; refine ch (H := []) (Ctr.loH (Ctr.ren (Bij.swp 0 25 Bij.id) (c_shift_Image hr7) (by push_cast) (by push_cast))) (by push_cast) ?_; push_cast; refine hK _ ?_; clear hK K; refine VC.sub (s' := ⟨[(2, .ref 0 0), (3, .ref 1 0), (6, .ref 20 0), (7, .ref 29 0), (8, ri r7.2)], [(0, .box 53 (enc_Table a0)), (1, .box 50 (enc_Schema a1)), (20, .box 56 [.sl false (([(T_Fn.mk 0 ([(T_Inst.mk 0 0 0 0 false 0 c6), (T_Inst.mk 7 0 0 0 false 0 0)]))]).map enc_Fn)]), (25, .row 66 2 0 (r7.1.E.map enc_Entry)), (29, .box 53 [ri r7.1.S.Kind, ri r7.1.S.Cap, ri r7.1.S.Words, ri r7.1.S.Ver, .row 25 0 2 0 r7.1.E.length, ru r7.1.Next])], 32, 116, 0⟩) (so (by push_cast [hb5, hc6i])) ?_; obtain ⟨r8, hr8, h⟩ := po_some h; refine vs [2, 3, 6, 7, 8, 9, 10] (fun K hK => ?_); push_cast; refine cp (c_shift_New hr8) ?_; push_cast; refine hK _ ?_; clear hK K; refine VC.seq ?_; refine vs [2, 3, 6, 7, 8, 9, 10, 48] (fun K hK => ?_); push_cast; refine hK _ ?_; clear hK K; refine vc h (fun hb9 h => ?_) (fun hb9 h => ?_)
   ·refine vj h (fun x => ⟨[(4, rb x)], [], 54, 116, 0⟩) (fun v10 h hk10 => ?_) ?_
    ·rcases Bool.eq_false_or_eq_true (r7.2 == r8.2) with hb11 | hb11
     ·replace h := cond_yes hb11 h; refine vlG [some 49, some 50, some 51, some 52, some 53, some 54, some 55, some 56, some 57, some 4] (fun K hK => ?_); push_cast [hb11]; (repeat refine .intro (by omega) ?_); refine hK _ ?_; clear hK K; refine ar h hk10 ?_; exact sl (by push_cast [hb5, hc6i, hb9, hb11])
     ·replace h := cond_no hb11 h; refine vlG [some 49, some 50, some 51, some 52, some 53, some 54, some 55, some 56, some 57, some 4] (fun K hK => ?_); push_cast [hb11]; (repeat refine .intro (by omega) ?_); refine hK _ ?_; clear hK K; refine ar h hk10 ?_; exact sl (by push_cast [hb5, hc6i, hb9, hb11])
    ·rintro i_2 (h : p_drydocklaw18_ShiftRefuses_J10 i_2 = some r); (try push_cast); unfold p_drydocklaw18_ShiftRefuses_J10 at h; refine VC.ret ?_; replace h := Option.some.inj h; subst h; exact en (by push_cast [hb5, hc6i, hb9])
   ·refine VC.skip ?_; obtain ⟨r12, hr12, h⟩ := po_some h; refine vs [2, 3, 6, 7, 8, 12, 13] (fun K hK => ?_); refine runOps_cut 8 (fun K2 hK2 => ?_); push_cast; refine cp (c_shift_Step hr12) ?_; push_cast; refine hK2 _ _ ?_; clear hK2 K2; simp only [List.drop_succ_cons, List.drop_zero]; push_cast; refine hK _ ?_; clear hK K; refine VC.seq ?_; refine vs [2, 3, 6, 7, 8, 12, 13, 68] (fun K hK => ?_); push_cast; refine hK _ ?_; clear hK K; refine vc h (fun hb13 h => ?_) (fun hb13 h => ?_)
    ·refine vj h (fun x => ⟨[(4, rb x)], [], 75, 116, 0⟩) (fun v14 h hk14 => ?_) ?_
     ·rcases Bool.eq_false_or_eq_true (r7.2 == 0) with hb15 | hb15
      ·replace h := cond_yes hb15 h; rcases Bool.eq_false_or_eq_true ((r7.1.E.length : Int) == 0) with hb16 | hb16
       ·replace h := cond_yes hb16 h; rcases Bool.eq_false_or_eq_true r12.2.1 with hb17 | hb17
        ·replace h := cond_yes hb17 h; refine vlG [some 69, some 70, some 71, some 72, some 73, some 74, some 75, some 76, some 77, some 78, some 79, some 80, some 81, some 82, some 83, some 4] (fun K hK => ?_); refine runOps_cut 8 (fun K2 hK2 => ?_); push_cast [hb15, hb16, hb17]; (repeat refine .intro (by omega) ?_); refine hK2 _ _ ?_; clear hK2 K2; simp only [List.drop_succ_cons, List.drop_zero]; push_cast [hb15, hb16, hb17]; (repeat refine .intro (by omega) ?_); refine hK _ ?_; clear hK K; refine ar h hk14 ?_; exact sl (by push_cast [hb5, hc6i, hb9, hb13, hb15, hb16, hb17])
        ·replace h := cond_no hb17 h; refine vlG [some 69, some 70, some 71, some 72, some 73, some 74, some 75, some 76, some 77, some 78, some 79, some 80, some 81, some 82, some 83, some 4] (fun K hK => ?_); refine runOps_cut 8 (fun K2 hK2 => ?_); push_cast [hb15, hb16, hb17]; (repeat refine .intro (by omega) ?_); refine hK2 _ _ ?_; clear hK2 K2; simp only [List.drop_succ_cons, List.drop_zero]; push_cast [hb15, hb16, hb17]; (repeat refine .intro (by omega) ?_); refine hK _ ?_; clear hK K; refine ar h hk14 ?_; exact sl (by push_cast [hb5, hc6i, hb9, hb13, hb15, hb16, hb17])
       ·replace h := cond_no hb16 h; refine vlG [some 69, some 70, some 71, some 72, some 73, some 74, some 75, some 76, some 77, some 78, some 79, some 80, some 81, some 82, some 83, some 4] (fun K hK => ?_); refine runOps_cut 8 (fun K2 hK2 => ?_); push_cast [hb15, hb16]; (repeat refine .intro (by omega) ?_); refine hK2 _ _ ?_; clear hK2 K2; simp only [List.drop_succ_cons, List.drop_zero]; push_cast [hb15, hb16]; (repeat refine .intro (by omega) ?_); refine hK _ ?_; clear hK K; refine ar h hk14 ?_; exact sl (by push_cast [hb5, hc6i, hb9, hb13, hb15, hb16])
      ·replace h := cond_no hb15 h; refine vlG [some 69, some 70, some 71, some 72, some 73, some 74, some 75, some 76, some 77, some 78, some 79, some 80, some 81, some 82, some 83, some 4] (fun K hK => ?_); refine runOps_cut 8 (fun K2 hK2 => ?_); push_cast [hb15]; (repeat refine .intro (by omega) ?_); refine hK2 _ _ ?_; clear hK2 K2; simp only [List.drop_succ_cons, List.drop_zero]; push_cast [hb15]; (repeat refine .intro (by omega) ?_); refine hK _ ?_; clear hK K; refine ar h hk14 ?_; exact sl (by push_cast [hb5, hc6i, hb9, hb13, hb15])
     ·rintro i_3 (h : p_drydocklaw18_ShiftRefuses_J14 i_3 = some r); (try push_cast); unfold p_drydocklaw18_ShiftRefuses_J14 at h; refine VC.ret ?_; replace h := Option.some.inj h; subst h; exact en (by push_cast [hb5, hc6i, hb9, hb13])
    ·refine VC.skip ?_; obtain ⟨x18, hx18, h⟩ := po_some h; replace hx18 := gL hx18; obtain ⟨r19, hr19, h⟩ := po_some h; refine vsD [some 85, some 86, some 87, some 88, some 89, some 90, some 91, some 92, some 93, some 94, some 95, some 96, some 97, some 84, some 98, some 99, some 14, some 15] [8, 12, 13, 15] (fun K hK => ?_); refine runD_cut 8 (fun K2 hK2 => ?_); push_cast [hx18]; (repeat refine .intro (by omega) ?_); refine hK2 _ _ _ ?_; clear hK2 K2; simp only [List.drop_succ_cons, List.drop_zero]; push_cast [hx18]; (repeat refine .intro (by omega) ?_); refine chD (H := []) (Ctr.loH (Ctr.ren (Bij.swp 0 71 Bij.id) (c_shift_One hr19) (by push_cast [hx18]) (by push_cast [hx18]))) (by push_cast [hx18]) ?_; push_cast [hx18]; (repeat refine .intro (by omega) ?_); refine ⟨rfl, hK _ ?_⟩; clear hK K; refine VC.sub (s' := ⟨[(8, ri r7.2), (12, rb r12.2.1), (13, ri r12.2.2), (15, ri r19.2)], [], 77, 116, 0⟩) (so (by push_cast [hb5, hc6i, hb9, hb13])) ?_; refine vj h (fun x => ⟨[(4, rb x)], [], 94, 116, 0⟩) (fun v20 h hk20 => ?_) ?_
     ·rcases Bool.eq_false_or_eq_true (r7.2 == 10) with hb21 | hb21
      ·replace h := cond_yes hb21 h; rcases Bool.eq_false_or_eq_true (r12.2.2 == r7.2) with hb22 | hb22
       ·replace h := cond_yes hb22 h; rcases Bool.eq_false_or_eq_true (r19.2 == r7.2) with hb23 | hb23
        ·replace h := cond_yes hb23 h; refine vlG [some 100, some 101, some 102, some 103, some 104, some 105, some 106, some 107, some 108, some 109, some 110, some 111, some 112, some 113, some 114, some 115, some 4] (fun K hK => ?_); refine runOps_cut 8 (fun K2 hK2 => ?_); push_cast [hb21, hb22, hb23]; (repeat refine .intro (by omega) ?_); refine hK2 _ _ ?_; clear hK2 K2; simp only [List.drop_succ_cons, List.drop_zero]; push_cast [hb21, hb22, hb23]; (repeat refine .intro (by omega) ?_); refine hK _ ?_; clear hK K; refine ar h hk20 ?_; exact sl (by push_cast [hb5, hc6i, hb9, hb13, hb21, hb22, hb23])
        ·replace h := cond_no hb23 h; refine vlG [some 100, some 101, some 102, some 103, some 104, some 105, some 106, some 107, some 108, some 109, some 110, some 111, some 112, some 113, some 114, some 115, some 4] (fun K hK => ?_); refine runOps_cut 8 (fun K2 hK2 => ?_); push_cast [hb21, hb22, hb23]; (repeat refine .intro (by omega) ?_); refine hK2 _ _ ?_; clear hK2 K2; simp only [List.drop_succ_cons, List.drop_zero]; push_cast [hb21, hb22, hb23]; (repeat refine .intro (by omega) ?_); refine hK _ ?_; clear hK K; refine ar h hk20 ?_; exact sl (by push_cast [hb5, hc6i, hb9, hb13, hb21, hb22, hb23])
       ·replace h := cond_no hb22 h; refine vlG [some 100, some 101, some 102, some 103, some 104, some 105, some 106, some 107, some 108, some 109, some 110, some 111, some 112, some 113, some 114, some 115, some 4] (fun K hK => ?_); refine runOps_cut 8 (fun K2 hK2 => ?_); push_cast [hb21, hb22]; (repeat refine .intro (by omega) ?_); refine hK2 _ _ ?_; clear hK2 K2; simp only [List.drop_succ_cons, List.drop_zero]; push_cast [hb21, hb22]; (repeat refine .intro (by omega) ?_); refine hK _ ?_; clear hK K; refine ar h hk20 ?_; exact sl (by push_cast [hb5, hc6i, hb9, hb13, hb21, hb22])
      ·replace h := cond_no hb21 h; refine vlG [some 100, some 101, some 102, some 103, some 104, some 105, some 106, some 107, some 108, some 109, some 110, some 111, some 112, some 113, some 114, some 115, some 4] (fun K hK => ?_); refine runOps_cut 8 (fun K2 hK2 => ?_); push_cast [hb21]; (repeat refine .intro (by omega) ?_); refine hK2 _ _ ?_; clear hK2 K2; simp only [List.drop_succ_cons, List.drop_zero]; push_cast [hb21]; (repeat refine .intro (by omega) ?_); refine hK _ ?_; clear hK K; refine ar h hk20 ?_; exact sl (by push_cast [hb5, hc6i, hb9, hb13, hb21])
     ·rintro i_4 (h : p_drydocklaw18_ShiftRefuses_J20 i_4 = some r); (try push_cast); unfold p_drydocklaw18_ShiftRefuses_J20 at h; refine VC.ret ?_; replace h := Option.some.inj h; subst h; exact en (by push_cast [hb5, hc6i, hb9, hb13])
theorem lp_inv {σ ρ : Type} {step : σ → Option (σ ⊕ ρ)} (I : σ → Prop) (μ : σ → Nat) (Q : ρ → Prop)
    (hs : ∀ s, I s → (∃ s', step s = some (.inl s') ∧ I s' ∧ μ s' < μ s) ∨ (∃ r, step s = some (.inr r) ∧ Q r)) : ∀ (s0 : σ), I s0 → ∃ r, lpU step s0 = some r ∧ Q r := by
  have key : ∀ (n : Nat) (s0 : σ), μ s0 = n → I s0 → ∃ r, lpU step s0 = some r ∧ Q r := by
    intro n
    induction n using Nat.strongRecOn with
    | _ n ih =>
      intro s0 hn h0
      rcases hs s0 h0 with ⟨s', h1, h2, h3⟩ | ⟨r, h1, h2⟩
      · rw [lpU_inl h1]
        exact ih (μ s') (by omega) s' rfl h2
      · exact ⟨r, lpU_inr h1, h2⟩
  exact fun s0 h0 => key _ s0 rfl h0
theorem w64 {n : Nat} (h : n < 9223372036854775807) : IntKind.i64.wrap ((n : Int) + 1) = ((n + 1 : Nat) : Int) := by
  rw [wrap_i64 (by omega) (by omega)]
  omega
theorem idxN {α : Type} {l : List α} {k : Nat} {x : α} (h : l[k]? = some x) : idx l (k : Int) = some x := by rw [idx_nat, h]
theorem pin (a b c : Int) : p_schema_in a b c = some (inB a b c) := by
  unfold p_schema_in p_schema_in_J1 inB
  by_cases h : a ≥ b
  · rw [decide_eq_true h]
    rfl
  · rw [decide_eq_false h]
    rfl
theorem smay (s : T_Schema) : p_schema_May s = some (toS s).may := by
  unfold p_schema_May
  have key : ∀ m, p_schema_May_J1 s m = some (inB s.Kind 0 3 && inB s.Cap 1 16 && inB s.Words 1 m && inB s.Ver 0 1000) := by
    intro m
    unfold p_schema_May_J1 p_schema_May_J3
    simp only [pin, po_of]
    cases inB s.Kind 0 3 <;> cases inB s.Cap 1 16 <;> cases inB s.Words 1 m <;> rfl
  by_cases h : s.Kind = 3
  · have h2 : (s.Kind == 3) = true := by simpa using h
    rw [h2]
    simp only [cond_true, po_of, key]
    simp [Sch.may, toS, h]
  · have h2 : (s.Kind == 3) = false := by simpa using h
    rw [h2]
    simp only [cond_false, po_of, key]
    simp [Sch.may, toS, h]
theorem step_all (a b : T_Schema) : ∃ r, p_schema_Step a b = some r ∧ (r = 1 → (toS b).may = true ∧ a.Kind = b.Kind) := by
  unfold p_schema_Step
  rw [smay, smay]
  have n2 : (2 : Int) = 1 → False := by decide
  have n0 : (0 : Int) = 1 → False := by decide
  cases h1 : (toS a).may with
  | false => exact ⟨2, rfl, fun h => (n2 h).elim⟩
  | true =>
    cases h2 : (toS b).may with
    | false => exact ⟨2, rfl, fun h => (n2 h).elim⟩
    | true =>
      simp only [po_of, Bool.not_true, cond_false]
      unfold p_schema_Step_J1
      simp only [cond_false]
      cases h3 : ((a.Kind == b.Kind) && ((a.Cap == b.Cap) && ((a.Words == b.Words) && (a.Ver == b.Ver)))) with
      | true => exact ⟨0, rfl, fun h => (n0 h).elim⟩
      | false =>
        simp only [cond_false]
        cases h4 : (a.Kind == b.Kind) with
        | false => exact ⟨2, rfl, fun h => (n2 h).elim⟩
        | true =>
          simp only [cond_true, po_of]
          unfold p_schema_Step_J7
          cases (b.Ver == IntKind.i64.wrap (a.Ver + 1)) with
          | true => exact ⟨1, rfl, fun _ => ⟨by first | exact h2 | trivial, by simpa using h4⟩⟩
          | false => exact ⟨2, rfl, fun h => (n2 h).elim⟩
/-! ### Few -/
structure FewT (t : T_Table) : Prop where
  e : t.E.length ≤ 20
  v : ∀ e ∈ t.E, e.V.length ≤ 6
structure FewL (l : List T_Table) : Prop where
  len : l.length ≤ 6
  t : ∀ t ∈ l, FewT t
theorem few1 (t : T_Table) : ∃ b, lpU (fun x => p_drydockref05_Few_L8 t x.1 x.2) ((decide ((t.E.length : Int) ≤ 20)), 0) = some b ∧ (b = true → FewT t) := by
  refine lp_inv (fun s => (s.1 = true → t.E.length ≤ 20) ∧ ∃ n : Nat, s.2 = (n : Int) ∧ n ≤ t.E.length ∧ (s.1 = true → ∀ j e, j < n → t.E[j]? = some e → e.V.length ≤ 6)) (fun s => ((t.E.length : Int) - s.2).toNat) (fun b => b = true → FewT t) ?_ _ ?_
  · rintro ⟨b, i⟩ ⟨h1, n, rfl, h2, h3⟩
    simp only at h1 h3
    simp only [p_drydockref05_Few_L8]
    by_cases hlt : n < t.E.length
    · have hd : decide ((n : Int) < (t.E.length : Int)) = true := by simp; omega
      rw [hd]
      simp only [cond_true, po_of, p_drydockref05_Few_J9]
      cases b with
      | true =>
        left
        simp only [cond_true, idx_nat, List.getElem?_eq_getElem hlt, po_of]
        have hn := h1 rfl
        refine ⟨_, rfl, ⟨fun _ => hn, n + 1, w64 (by omega), by omega, fun hb j e hj he => ?_⟩, by simp only [w64 (show n < 9223372036854775807 by omega)]; omega⟩
        rcases Nat.lt_or_ge j n with hjn | hjn
        · exact h3 rfl j e hjn he
        · have : j = n := by omega
          subst this
          rw [List.getElem?_eq_getElem hlt] at he
          injection he with he
          subst he
          simp at hb
          omega
      | false =>
        right
        exact ⟨false, rfl, fun h => by cases h⟩
    · have hd : decide ((n : Int) < (t.E.length : Int)) = false := by simp; omega
      rw [hd]
      right
      refine ⟨b, rfl, fun hb => ⟨h1 hb, fun e he => ?_⟩⟩
      obtain ⟨j, hj⟩ := List.mem_iff_getElem?.1 he
      exact h3 hb j e (by have := get_lt hj; omega) hj
  · exact ⟨fun h => by simp at h; omega, 0, rfl, Nat.zero_le _, fun _ j e hj => by omega⟩
theorem few_tells (l : List T_Table) : ∃ b, p_drydockref05_Few l = some b ∧ (b = true → FewL l) := by
  have key : ∃ b, lpU (fun x => p_drydockref05_Few_L2 l x.1 x.2) ((decide ((l.length : Int) ≤ 6)), 0) = some b ∧ (b = true → FewL l) := by
    refine lp_inv (fun s => (s.1 = true → l.length ≤ 6) ∧ ∃ n : Nat, s.2 = (n : Int) ∧ n ≤ l.length ∧ (s.1 = true → ∀ j t, j < n → l[j]? = some t → FewT t)) (fun s => ((l.length : Int) - s.2).toNat) (fun b => b = true → FewL l) ?_ _ ?_
    · rintro ⟨b, i⟩ ⟨h1, n, rfl, h2, h3⟩
      simp only at h1 h3
      simp only [p_drydockref05_Few_L2]
      by_cases hlt : n < l.length
      · have hd : decide ((n : Int) < (l.length : Int)) = true := by simp; omega
        rw [hd]
        simp only [cond_true, po_of, p_drydockref05_Few_J3]
        cases b with
        | true =>
          left
          obtain ⟨b2, e1, e2⟩ := few1 l[n]
          simp only [cond_true, idx_nat, List.getElem?_eq_getElem hlt, po_of, e1, p_drydockref05_Few_J6]
          have hn := h1 rfl
          refine ⟨_, rfl, ⟨fun _ => hn, n + 1, w64 (by omega), by omega, fun hb j t hj ht => ?_⟩, by simp only [w64 (show n < 9223372036854775807 by omega)]; omega⟩
          rcases Nat.lt_or_ge j n with hjn | hjn
          · exact h3 rfl j t hjn ht
          · have : j = n := by omega
            subst this
            rw [List.getElem?_eq_getElem hlt] at ht
            injection ht with ht
            subst ht
            exact e2 hb
        | false =>
          right
          exact ⟨false, rfl, fun h => by cases h⟩
      · have hd : decide ((n : Int) < (l.length : Int)) = false := by simp; omega
        rw [hd]
        right
        refine ⟨b, rfl, fun hb => ⟨h1 hb, fun t ht => ?_⟩⟩
        obtain ⟨j, hj⟩ := List.mem_iff_getElem?.1 ht
        exact h3 hb j t (by have := get_lt hj; omega) hj
    · exact ⟨fun h => by simp at h; omega, 0, rfl, Nat.zero_le _, fun _ j e hj => by omega⟩
  obtain ⟨b, h1, h2⟩ := key
  exact ⟨b, by simp only [p_drydockref05_Few, h1, po_of, p_drydockref05_Few_J1], h2⟩
theorem few03 : p_drydockref03_Few ⟨[]⟩ = some true := by
  unfold p_drydockref03_Few
  rw [lpU_inr (r := true) (by rfl)]
  rfl
theorem few18 (t : T_Table) : ∃ b, p_drydocklaw18_few ⟨[]⟩ [t] [] = some b := by
  obtain ⟨b, hb, _⟩ := few_tells [t]
  unfold p_drydocklaw18_few
  simp only [few03, po_of, cond_true, hb]
  cases b <;> exact ⟨_, rfl⟩
theorem new_may {s : Sch} (h : (Tab.new s).2 = 0) : s.may = true ∧ (Tab.new s).1.may = true ∧ (Tab.new s).1.s = s := by
  have hm : s.may = true := by
    cases hq : s.may with
    | true => rfl
    | false =>
      unfold Tab.new at h
      rw [if_pos hq] at h
      exact absurd h (by decide)
  have hb := Sch.may_bounds hm
  have hnew : Tab.new s = (⟨s, if s.kind = 0 then newEs s.cap.toNat s.words.toNat else [], 0⟩, 0) := by
    unfold Tab.new
    rw [if_neg (by rw [hm]; simp)]
  rw [hnew]
  refine ⟨hm, ?_, rfl⟩
  by_cases h0 : s.kind = 0
  · rw [if_pos h0]
    refine (may_std (by show s.kind ≠ 3; omega)).2 ⟨hm, ?_, rfl, fun _ => ⟨?_, ?_⟩, ?_, ?_⟩
    · simp only [newEs_length]
      omega
    · simp only [newEs_length]
      omega
    · intro i e he
      simp only [newEs, List.getElem?_map] at he
      obtain ⟨i', h5, rfl⟩ := Option.map_eq_some_iff.1 he
      obtain ⟨h6, h7⟩ := List.getElem?_eq_some_iff.1 h5
      rw [List.getElem_range] at h7
      exact h7.symm
    · intro e he
      simp [newEs] at he
      obtain ⟨i, hi, rfl⟩ := he
      simp
      omega
    · simp only [newEs, keys, List.map_map]
      have : (Ent.key ∘ fun i => (⟨i, List.replicate s.words.toNat 0⟩ : Ent)) = id := rfl
      rw [this, List.map_id]
      exact List.nodup_range
  · rw [if_neg h0]
    refine (Tab.may_iff _).2 ⟨?_, fun i e he => by simp at he⟩
    simp only [Tab.headOk, hm, Bool.true_and, List.length_nil, Bool.and_eq_true, Bool.or_eq_true, Bool.not_eq_true', decide_eq_true_eq, decide_eq_false_iff_not]
    exact ⟨⟨by show ((0 : Nat) : Int) ≤ s.cap; omega, .inr trivial⟩, .inl h0⟩
theorem put1 (s : T_Schema) (key : UInt32) (v : List UInt32) (W : Nat) (hW : s.Words = (W : Int)) (h1 : 1 ≤ W) (h4 : W ≤ 4) (hv : v ≠ []) :
    p_shift_put s P1 key v = some ([], 10) := by
  unfold p_shift_put
  rw [hW, pg_of (by omega)]
  simp only [pl, Int.toNat_natCast]
  obtain ⟨x0, hx0⟩ : ∃ x0, v[0]? = some x0 := by
    cases v with
    | nil => exact absurd rfl hv
    | cons a l => exact ⟨a, rfl⟩
  have hl : 0 < v.length := (List.getElem?_eq_some_iff.1 hx0).1
  rw [lpU_inr (r := .inr ([], 10))]
  · rfl
  · show p_shift_put_L4 s P1 key v (List.replicate W 0) 0 = _
    unfold p_shift_put_L4
    rw [hW, decide_eq_true (show (0 : Int) < (W : Int) by omega), decide_eq_true (show (0 : Int) < (v.length : Int) by omega)]
    have hi : idx v 0 = some x0 := idxN (k := 0) hx0
    simp only [cond_true, hi, po_of]
    unfold p_shift_put_J6
    simp only [hx0, po_of, pl, run1]
    rfl
theorem fits1 (a b : T_Schema) : ∃ r, p_shift_Fits a b P1 = some r ∧ (r = 0 → (toS b).may = true ∧ a.Kind = b.Kind ∧ a.Cap ≤ b.Cap ∧ a.Kind ≠ 3) := by
  unfold p_shift_Fits
  have n9 : (9 : Int) = 0 → False := by decide
  have j1 : p_shift_Fits_J1 P1 true = some 9 := rfl
  have j0 : p_shift_Fits_J1 P1 false = some 0 := by
    unfold p_shift_Fits_J1
    simp only [cond_false, ver1, po_of]
  cases h1 : (a.Kind == 3) with
  | true => exact ⟨9, by simp only [cond_true, po_of, j1], fun h => (n9 h).elim⟩
  | false =>
    obtain ⟨r, hr, hq⟩ := step_all a b
    simp only [cond_false, hr, po_of]
    cases h2 : (r != 1) with
    | true => exact ⟨9, by simp only [cond_true, po_of, j1], fun h => (n9 h).elim⟩
    | false =>
      have hr1 : r = 1 := by simpa using h2
      obtain ⟨q1, q2⟩ := hq hr1
      simp only [cond_false, po_of]
      by_cases h3 : b.Cap < a.Cap
      · exact ⟨9, by simp only [decide_eq_true h3, j1], fun h => (n9 h).elim⟩
      · exact ⟨0, by simp only [decide_eq_false h3, j0], fun _ => ⟨q1, q2, by omega, by simpa using h1⟩⟩
structure Good (t : T_Table) (s : T_Schema) (N : T_Table) : Prop where
  may : (toT t).may = true
  smay : (toS s).may = true
  kind : t.S.Kind = s.Kind
  ring : t.S.Kind ≠ 3
  new : p_table_New s = some (N, 0)
  S : N.S = s
  nmay : (toT N).may = true
  len : N.E.length ≤ 16
  none_ : s.Kind ≠ 0 → N.E = []
  tlen : t.E.length ≤ 16
  emp : s.Kind = 0 → t.E ≠ []
  v : ∀ e, e ∈ t.E → e.V ≠ []
  nv : ∀ e, e ∈ N.E → e.V.length ≤ 16
  words : ∃ W : Nat, s.Words = (W : Int) ∧ 1 ≤ W ∧ W ≤ 4
theorem may1 (t : T_Table) (s : T_Schema) : ∃ r, p_shift_may t s P1 = some r ∧ (r = 0 → ∃ N, Good t s N) := by
  unfold p_shift_may p_table_May
  simp only [po_of]
  cases hm : (toT t).may with
  | false => exact ⟨1, rfl, fun h => absurd h (by decide)⟩
  | true =>
    obtain ⟨e, he, hq⟩ := fits1 t.S s
    simp only [Bool.not_true, cond_false, he, po_of]
    refine ⟨e, rfl, fun h => ?_⟩
    obtain ⟨q1, q2, q3, q4⟩ := hq h
    have hnew : Tab.new (toS s) = (⟨toS s, if (toS s).kind = 0 then newEs (toS s).cap.toNat (toS s).words.toNat else [], 0⟩, 0) := by
      unfold Tab.new
      rw [if_neg (by rw [q1]; simp)]
    have hb := Sch.may_bounds q1
    have hbt := Sch.may_bounds (Tab.may_sch hm)
    have hlen := Tab.may_len hm
    have hel := ((Tab.may_iff _).1 hm).2
    have c1 : (toS s).cap = s.Cap := rfl
    have c2 : (toS s).words = s.Words := rfl
    have c3 : (toT t).s.cap = t.S.Cap := rfl
    have c4 : (toT t).e.length = t.E.length := by simp [toT]
    have c5 : (toT t).s.words = t.S.Words := rfl
    rw [c1, c2] at hb
    rw [c3, c5] at hbt
    rw [c3, c4] at hlen
    refine ⟨ofT (Tab.new (toS s)).1, ⟨hm, q1, q2, q4, ?_, ?_, ?_, ?_, ?_, by omega, ?_, ?_, ?_, ⟨s.Words.toNat, by omega, by omega, by omega⟩⟩⟩
    · unfold p_table_New
      rw [hnew]
    · rw [hnew]; rfl
    · rw [toT_ofT okEs_new' new_next]
      exact (new_may (by rw [hnew])).2.1
    · rw [hnew]
      show ((if (toS s).kind = 0 then newEs (toS s).cap.toNat (toS s).words.toNat else []).map ofE).length ≤ 16
      rw [List.length_map]
      split
      · rw [newEs_length, c1]; omega
      · exact Nat.zero_le _
    · intro hk
      rw [hnew]
      show (if (toS s).kind = 0 then newEs (toS s).cap.toNat (toS s).words.toNat else []).map ofE = []
      rw [if_neg (show (toS s).kind ≠ 0 from hk)]
      rfl
    · intro hk hE
      have h0 : (toT t).s.kind = 0 := by
        show t.S.Kind = 0
        rw [q2]; exact hk
      have := ((may_std (by rw [h0]; decide)).1 hm).2.2.2.1 h0
      rw [hE] at c4
      simp at c4
      simp [c4] at this
      omega
    · intro e he hn
      obtain ⟨i, hi⟩ := List.mem_iff_getElem?.1 he
      have he2 : (toT t).e[i]? = some (toE e) := by simp [toT, hi]
      have := ((Tab.elOk_iff _ _ _).1 (hel i _ he2)).1
      rw [c5] at this
      simp [toE, hn] at this
      omega
    · rw [hnew]
      intro e he
      have he : e ∈ (if (toS s).kind = 0 then newEs (toS s).cap.toNat (toS s).words.toNat else []).map ofE := he
      split at he
      · obtain ⟨e', h1, rfl⟩ := List.mem_map.1 he
        simp only [newEs, List.mem_map] at h1
        obtain ⟨j, _, rfl⟩ := h1
        simp only [ofE, List.length_map, List.length_replicate, c2]
        omega
      · cases he
theorem own1 {t : T_Table} {s : T_Schema} {N : T_Table} (g : Good t s N) : p_shift_own ⟨s, P1, [], N⟩ = some ⟨s, P1, [], N⟩ := by
  unfold p_shift_own
  have h1 : p_slices_Clone_uint32_uint32 (⟨s, P1, [], N⟩ : T_Shift).Done = some [] := rfl
  rw [h1, po_of, p_slices_Clone_api_Entry_api_Entry_of (by have := g.len; show N.E.length * 32 ≤ _; omega), po_of]
  have hl : lpU (fun x => p_shift_own_L4 N.E x.1 x.2) (⟨s, P1, [], ⟨N.S, N.E, N.Next⟩⟩, 0) = some ⟨s, P1, [], N⟩ := by
    obtain ⟨r, hr, hq⟩ := lp_inv (step := fun x => p_shift_own_L4 N.E x.1 x.2) (fun x => x.1 = ⟨s, P1, [], N⟩ ∧ ∃ k : Nat, x.2 = (k : Int) ∧ k ≤ N.E.length) (fun x => N.E.length - x.2.toNat) (fun r => r = ⟨s, P1, [], N⟩) (by
      rintro ⟨u, i⟩ ⟨hu, n, hn, hnW⟩
      simp only at hu hn
      subst hu
      subst hn
      unfold p_shift_own_L4
      by_cases hlt : n < N.E.length
      · left
        rw [decide_eq_true (show (n : Int) < (N.E.length : Int) by omega)]
        obtain ⟨e, he⟩ : ∃ e, N.E[n]? = some e := ⟨_, List.getElem?_eq_getElem hlt⟩
        have hc : p_slices_Clone_uint32_uint32 e.V = some e.V := p_slices_Clone_uint32_uint32_of (by have := g.nv e (List.mem_of_getElem? he); omega)
        have hset : N.E.set n ⟨e.Key, e.V⟩ = N.E := by
          obtain ⟨hh, rfl⟩ := List.getElem?_eq_some_iff.1 he
          exact List.set_getElem_self hh
        simp only [cond_true, idxN he, po_of, hc, pl, Int.toNat_natCast, hset]
        have := g.len
        rw [w64 (show n < 9223372036854775807 by omega)]
        exact ⟨_, rfl, ⟨rfl, n + 1, rfl, by omega⟩, by simp only [Int.toNat_natCast]; omega⟩
      · rw [decide_eq_false (show ¬ (n : Int) < (N.E.length : Int) by omega)]
        right
        exact ⟨_, rfl, rfl⟩) (⟨s, P1, [], N⟩, 0) ⟨rfl, 0, rfl, Nat.zero_le _⟩
    exact hr.trans (congrArg some hq)
  rw [hl, po_of]
  unfold p_shift_own_J3
  have h2 : p_slices_Clone_api_Fn_api_Fn (⟨s, P1, [], N⟩ : T_Shift).P.Fns = some P1.Fns := rfl
  rw [h2, po_of, lpU_inl (s' := (⟨s, P1, [], N⟩, 1)) (by rfl), lpU_inr (r := ⟨s, P1, [], N⟩) (by rfl)]
  rfl
theorem idxf1 (t : T_Table) : p_slices_IndexFunc_uint32_uint32_shift_clean_1 [] t = some (-1, t) := by
  unfold p_slices_IndexFunc_uint32_uint32_shift_clean_1
  rw [lpU_inr (r := .inl t) (by rfl)]
  rfl
theorem idxf2 (t : T_Table) : p_slices_IndexFunc_api_Entry_api_Entry_shift_clean_2 [] t = some (-1, t) := by
  unfold p_slices_IndexFunc_api_Entry_api_Entry_shift_clean_2
  rw [lpU_inr (r := .inl t) (by rfl)]
  rfl
theorem clean1 {t : T_Table} {s : T_Schema} {N : T_Table} (g : Good t s N) : p_shift_clean ⟨s, P1, [], N⟩ t = some ⟨s, P1, [], N⟩ := by
  unfold p_shift_clean p_slices_DeleteFunc_uint32_uint32_shift_clean_1 p_slices_DeleteFunc_api_Entry_api_Entry_shift_clean_2
  simp only [own1 g, po_of, idxf1, beq_self_eq_true, cond_true]
  by_cases hk : t.S.Kind = 0
  · have : (t.S.Kind != 0) = false := by simp [hk]
    simp only [this, cond_false, po_of, p_shift_clean_J3]
  · have : (t.S.Kind != 0) = true := by simpa using hk
    have hN : N.E = [] := g.none_ (by rw [← g.kind]; exact hk)
    simp only [this, cond_true, hN, idxf2, po_of, beq_self_eq_true, p_shift_clean_J3]
    rw [← hN]
theorem step1 {t : T_Table} {s : T_Schema} {N : T_Table} (h : p_shift_may t s P1 = some 0) (g : Good t s N) :
    ∃ x b e, p_shift_Step ⟨s, P1, [], N⟩ t = some (x, b, e) ∧ (t.E = [] → b = true ∧ e = 0) ∧ (t.E ≠ [] → b = false ∧ e = 10) := by
  have hf : p_shift_fits ⟨s, P1, [], N⟩ t = some true := by
    unfold p_shift_fits p_table_May
    simp only [h, po_of, beq_self_eq_true, cond_true, g.nmay, g.S, p_shift_fits_J1, Bool.and_self]
  unfold p_shift_Step
  simp only [hf, po_of, Bool.not_true, cond_false, clean1 g]
  cases hE : t.E with
  | nil =>
    rw [lpU_inr (r := .inl ()) (by
      unfold p_shift_Step_L5
      rw [hE]
      rfl)]
    exact ⟨_, _, _, rfl, fun _ => ⟨rfl, rfl⟩, fun h => absurd rfl h⟩
  | cons e l =>
    obtain ⟨W, hW, hW1, hW4⟩ := g.words
    have hp := put1 s e.Key e.V W hW hW1 hW4 (g.v e (by rw [hE]; exact List.mem_cons_self))
    have hi : idx t.E 0 = some e := idxN (k := 0) (by rw [hE]; rfl)
    have hc : p_slices_Contains_uint32_uint32 [] e.Key = some false := by
      unfold p_slices_Contains_uint32_uint32 p_slices_Index_uint32_uint32
      rw [lpU_inr (r := .inl ()) (by rfl)]
      rfl
    rw [lpU_inr (r := .inr (⟨⟨0, 0, 0, 0⟩, ⟨[]⟩, [], ⟨⟨0, 0, 0, 0⟩, [], 0⟩⟩, false, 10)) (by
      unfold p_shift_Step_L5
      rw [decide_eq_true (show (0 : Int) < (t.E.length : Int) by rw [hE, List.length_cons]; omega)]
      simp only [cond_true, hi, po_of, hc, cond_false, hp]
      rfl)]
    exact ⟨_, _, _, rfl, fun h => (by cases h), fun _ => ⟨rfl, rfl⟩⟩
theorem image1 {t : T_Table} {s : T_Schema} {N : T_Table} (h : p_shift_may t s P1 = some 0) (g : Good t s N) :
    ∃ x e, p_shift_Image t s P1 = some (x, e) ∧ (t.E = [] → x.E = [] ∧ e = 0) ∧ (t.E ≠ [] → e = 10) := by
  unfold p_shift_Image
  have hl := g.len
  have htl := g.tlen
  have hmin : minI (t.E.length : Int) (N.E.length : Int) = ((min t.E.length N.E.length : Nat) : Int) := by
    unfold minI
    split <;> omega
  simp only [h, po_of, bne_self_eq_false, cond_false, g.new, pl]
  rw [hmin, pg_of (by omega)]
  cases hE : t.E with
  | nil =>
    rw [lpU_inr (r := .inl ⟨N.S, [], N.Next⟩) (by
      unfold p_shift_Image_L7
      rw [hE]
      rfl)]
    have hN : N.E = [] := g.none_ (fun hk => g.emp hk hE)
    simp only [hN, pm_inl]
    exact ⟨_, _, rfl, fun _ => ⟨rfl, rfl⟩, fun h => absurd rfl h⟩
  | cons e l =>
    obtain ⟨W, hW, hW1, hW4⟩ := g.words
    have hp := put1 s e.Key e.V W hW hW1 hW4 (g.v e (by rw [hE]; exact List.mem_cons_self))
    have hi : idx t.E 0 = some e := idxN (k := 0) (by rw [hE]; rfl)
    rw [lpU_inr (r := .inr (⟨⟨0, 0, 0, 0⟩, [], 0⟩, 10)) (by
      unfold p_shift_Image_L7
      rw [decide_eq_true (show (0 : Int) < (t.E.length : Int) by rw [hE, List.length_cons]; omega)]
      simp only [cond_true, hi, po_of, hp]
      rfl)]
    exact ⟨_, _, rfl, fun h => (by cases h), fun _ => rfl⟩
theorem refuses_true (t : T_Table) (s : T_Schema) : p_drydocklaw18_ShiftRefuses t s = some true := by
  unfold p_drydocklaw18_ShiftRefuses
  obtain ⟨b, hb⟩ := few18 t
  simp only [awake18, po_of, cond_true, hb]
  unfold p_drydocklaw18_ShiftRefuses_J2
  cases b with
  | false => rfl
  | true =>
    simp only [Bool.not_true, cond_false, pl]
    obtain ⟨e, he, hq⟩ := may1 t s
    have hP : (⟨[⟨0, [⟨0, 0, 0, 0, false, 0, 4294967295⟩, ⟨7, 0, 0, 0, false, 0, 0⟩]⟩]⟩ : T_Prog) = P1 := rfl
    rw [hP]
    by_cases h0 : e = 0
    · subst h0
      obtain ⟨N, g⟩ := hq rfl
      obtain ⟨x, e, hi, hi1, hi2⟩ := image1 he g
      obtain ⟨y, b, f, hs, hs1, hs2⟩ := step1 he g
      have hn : p_shift_New t s P1 = some (⟨s, P1, [], N⟩, 0) := by
        unfold p_shift_New
        simp only [he, po_of, bne_self_eq_false, cond_false, g.new, own1 g]
      simp only [hi, hn, hs, po_of, bne_self_eq_false, cond_false]
      by_cases hE : t.E = []
      · obtain ⟨hx, rfl⟩ := hi1 hE
        obtain ⟨rfl, rfl⟩ := hs1 hE
        rw [hE, hx]
        rfl
      · have := hi2 hE
        subst this
        obtain ⟨rfl, rfl⟩ := hs2 hE
        cases hc : t.E with
        | nil => exact absurd hc hE
        | cons a l =>
          obtain ⟨W, hW, hW1, hW4⟩ := g.words
          have hav : a.V ≠ [] := g.v a (by rw [hc]; exact List.mem_cons_self)
          have hp := put1 s a.Key a.V W hW hW1 hW4 hav
          have hone : p_shift_One s P1 a.Key a.V = some ([], 10) := by
            unfold p_shift_One
            rw [smay, g.smay]
            have hal : ((a.V.length : Int) == 0) = false := by
              have : a.V.length ≠ 0 := fun h => hav (List.length_eq_zero_iff.1 h)
              simp only [beq_eq_false_iff_ne]
              omega
            simp only [po_of, cond_true, hal, p_shift_One_J1, cond_false, ver1, bne_self_eq_false, hp]
          have hl : (((a :: l).length : Int) == 0) = false := by
            simp only [beq_eq_false_iff_ne, List.length_cons]
            omega
          simp only [hl, cond_false]
          show po (some a) _ = _
          simp only [po_of, hone]
          rfl
    · have hne : (e != 0) = true := by simpa using h0
      have hi : p_shift_Image t s P1 = some (⟨⟨0, 0, 0, 0⟩, [], 0⟩, e) := by
        unfold p_shift_Image
        simp only [he, po_of, hne, cond_true]
      have hn : p_shift_New t s P1 = some (⟨⟨0, 0, 0, 0⟩, ⟨[]⟩, [], ⟨⟨0, 0, 0, 0⟩, [], 0⟩⟩, e) := by
        unfold p_shift_New
        simp only [he, po_of, hne, cond_true]
      simp only [hi, hn, po_of, hne, cond_true, beq_self_eq_true]
      rfl
open Go Go.RowKit Go.Proofs.Tryz Go.WideShapes Go.ChangeShapes Go.Deep
set_option maxRecDepth 100000
section
variable {H : Type} {enc : TypeId × Value → H} {w : World} {base : Nat} {spare : Nat → Bool} {held : Bool}
theorem u32_of {n : Int} (h : (Lit.int .u32 n).wf = true) : ∃ m : Nat, n = (m : Int) ∧ m < 4294967296 := by
  simp [Lit.wf, IntKind.min, IntKind.max, IntKind.bits, IntKind.signed] at h
  exact ⟨n.toNat, by omega, by omega⟩
theorem trodAll_cons {P : Program} {t : TypeId} {ts : List TypeId} {l : List Value} {ds : List (DataW H)} {ps : List MemPlace} (h : DataW.TrodAll enc P w base spare held (t :: ts) l ds ps) :
    ∃ v vs d ds' p q, l = v :: vs ∧ ds = d :: ds' ∧ ps = p ++ q ∧ DataW.Trod enc P w base spare held t v d p ∧ DataW.TrodAll enc P w base spare held ts vs ds' q := by
  cases l with
  | nil => exact h.elim
  | cons v vs =>
    cases ds with
    | nil => exact h.elim
    | cons d ds =>
      obtain ⟨p, q, h1, h2, rfl⟩ := h
      exact ⟨v, vs, d, ds, p, q, rfl, rfl, rfl, h1, h2⟩
theorem trodAll_nil {P : Program} {l : List Value} {ds : List (DataW H)} {ps : List MemPlace} (h : DataW.TrodAll enc P w base spare held [] l ds ps) : l = [] ∧ ds = [] ∧ ps = [] := by
  cases l with
  | nil =>
    cases ds with
    | nil => exact ⟨rfl, rfl, h⟩
    | cons d ds => exact h.elim
  | cons v vs => exact h.elim
theorem trodAll_stays {P : Program} (hl : laidOutB P = true) {W W' : World} {sp : Nat → Bool} (ts : List TypeId) : ∀ {vs : List Value} {ds : List (DataW H)} {ps : List MemPlace}, (∀ t ∈ ts, P.readableRec t = true ∧ t < P.types.size) →
    DataW.TrodAll enc P W 0 (fun _ => true) true ts vs ds ps → (∀ p ∈ ps, W.sameAt W' p) → (∀ p ∈ ps, sp p.block = true) → DataW.TrodAll enc P W' 0 sp true ts vs ds ps := by
  induction ts with
  | nil =>
    intro vs ds ps _ h _ _
    obtain ⟨rfl, rfl, rfl⟩ := trodAll_nil h
    exact rfl
  | cons t ts ih =>
    intro vs ds ps ha h hsame hs
    obtain ⟨v, vs, d, ds', p, q, rfl, rfl, rfl, h1, h2⟩ := trodAll_cons h
    have ht := ha t (List.mem_cons_self ..)
    exact ⟨p, q, WideElems.Trod_stays hl ht.1 ht.2 h1 (fun x hx => hsame x (List.mem_append_left _ hx)) (fun x hx => hs x (List.mem_append_left _ hx)),
      ih (fun u hu => ha u (List.mem_cons_of_mem _ hu)) h2 (fun x hx => hsame x (List.mem_append_right _ hx)) (fun x hx => hs x (List.mem_append_right _ hx)), rfl⟩
theorem all_fine {P : Program} {ts : List TypeId} (h : (ts.all fun t => P.readableRec t && decide (t < P.types.size)) = true) : ∀ t ∈ ts, P.readableRec t = true ∧ t < P.types.size := by
  intro t ht
  have := List.all_eq_true.1 h t ht
  simp only [Bool.and_eq_true, decide_eq_true_eq] at this
  exact this
theorem post_law {f : Func} {s : ChangeSpec} {apart fresh handsOn again : Bool} {W W' : World} {args : Array Value} {ds gs : List (DataW H)} {before : List MemPlace} (hl : laidOutB prog = true)
    (hW : DataW.Whole enc prog f.params.toList s.vars apart W args.toList ds gs before) (hvars : s.vars = []) (hr : f.resultTypes = #[4]) (hp : (f.params.toList.all fun t => prog.readableRec t && decide (t < prog.types.size)) = true)
    (hfn : (s.fn H (ds ++ gs)).results = [.lit (.bool true)]) (hfa : (s.fn H (ds ++ gs)).args = ds) (hfv : (s.fn H (ds ++ gs)).vars = []) (hb : Below W.heap.size W W') : s.post enc prog f apart fresh handsOn again W args (.bool true) W' := by
  have hlt : ∀ p ∈ before, p.block < W.heap.size := fun p hp => hW.lt p hp
  have hold : ∀ p ∈ before, (fun b => decide (b < W.heap.size)) p.block = true := fun p hp => by simpa using hlt p hp
  have hW0 := hW
  obtain ⟨p, q, hA, hV, hpq, hz, hn⟩ := hW0
  rw [hvars] at hV
  obtain ⟨rfl, rfl⟩ := trodVars_none hV
  have hpq' : before = p := by simpa using hpq
  subst hpq'
  have hres : ∀ (b : Nat) (sp : Nat → Bool) (hd : Bool), DataW.TrodAll enc prog W' b sp hd f.resultTypes.toList ((Value.bool true).resultList f.resultTypes.size) (s.fn H (ds ++ [])).results [] := by
    intro b sp hd
    rw [hr, hfn]
    exact trodAll_mk1 (shut_bool underlying4 true)
  have hargs : ∀ sp : Nat → Bool, (∀ p ∈ before, sp p.block = true) → DataW.TrodAll enc prog W' 0 sp true f.params.toList args.toList (s.fn H (ds ++ [])).args before := by
    intro sp hsp
    rw [hfa]
    exact trodAll_stays hl _ (all_fine hp) hA (fun x hx => hb.same (hlt x hx)) hsp
  have hvs : ∀ sp : Nat → Bool, DataW.TrodVars enc prog W' sp s.vars (s.fn H (ds ++ [])).vars [] := by
    intro sp
    rw [hvars, hfv]
    rfl
  refine ⟨ds, [], before, [], before, [], hW, hres _ _ _, hargs _ hold, hvs _, World.keptBut_mono (fun p hp => ⟨hp, ?_⟩) (hb.frame (· ∈ before)), fun _ => ?_⟩
  · exact Or.inr (Or.inl hp)
  · refine ⟨ok_one hr rfl (okWide_bool_mk underlying4 true), _, _, ([] ++ before) ++ [], ⟨[] ++ before, [], trodAll_append (hargs _ (fun _ _ => rfl)) (hres _ _ _), hvs _, rfl, ?_, ?_⟩, ?_⟩
    · intro b off hp
      have hin : MemPlace.cell b off ∈ before := by simpa using hp
      rw [hb.frozen (hlt _ hin)]
      exact hz b off hin
    · intro ha
      simpa using hn ha
    · intro p hp _
      simpa using hp
end
set_option maxRecDepth 100000
def lawCx (w : World) : Cx := ⟨fun b => b < w.heap.size, fun _ _ => False, fun _ => none, fun _ => 0⟩
theorem Ctr.law {P : Program} {f : FuncId} {args : List AV} (h : Ctr P f args [] (.raw (.bool true)) []) {w : World} {vals : Array Value} (hsz : vals.size = args.length)
    (ha : ∀ (i : Nat) (u : AV), args[i]? = some u → VRel w (lawCx w) [] u (vals.getD i undef)) : Calls P f vals w fun e w' => e = .returned (.bool true) ∧ Below w.heap.size w w' := by
  have hH : HRel w (lawCx w) [] := ⟨fun b h => h, fun id o h => by simp [look] at h, fun id t sz g els g' h => by simp [look] at h, fun id t sz g els h => by simp [look] at h, fun id o b h => by simp [look] at h, fun id id' o o' b h => by simp [look] at h, fun id o h => by simp [look] at h⟩
  refine Calls.mono (h.2 w (lawCx w) vals hH (fun id g h => h.elim) hsz ha) ?_
  rintro e w' ⟨v, x', rfl, st, hv, _⟩
  exact ⟨by rw [hv.rawEq], st.tr.os, st.tr.tape, st.tr.output, st.tr.size, fun k hk => st.tr.keep k hk fun id o h => by simp [look] at h⟩
theorem VRels.of1 {w : World} {x : Cx} {hp : Hp} {l : List AV} {m : List Value} (h : VRels w x hp l m) : ∀ (i : Nat) (u : AV), l[i]? = some u → VRel w x hp u (m.toArray.getD i undef) := h.at_
section
variable {H : Type} {enc : TypeId × Value → H} {w : World} {base : Nat} {spare : Nat → Bool} {held : Bool}
end
inductive DRels (w : World) (ok : Nat → Prop) : List AV → List Value → Prop where
  | nil : DRels w ok [] []
  | cons {u v l m} (h : Dat w ok u v) (h1 : v.oneCell' = true) (r : DRels w ok l m) : DRels w ok (u :: l) (v :: m)
section
variable {w : World} {ok : Nat → Prop}
theorem DRels.len {l : List AV} {m : List Value} (h : DRels w ok l m) : m.length = l.length := by
  induction h with
  | nil => rfl
  | cons _ _ _ ih => simp [ih]
theorem DRels.app {l l' : List AV} {m m' : List Value} (h : DRels w ok l m) (h' : DRels w ok l' m') : DRels w ok (l ++ l') (m ++ m') := by
  induction h with
  | nil => exact h'
  | cons a b _ ih => exact .cons a b ih
theorem DRels.at_ {l : List AV} {m : List Value} (h : DRels w ok l m) : ∀ (i : Nat) (u : AV), l[i]? = some u → Dat w ok u (m.getD i undef) ∧ (m.getD i undef).oneCell' = true := by
  induction h with
  | nil => intro i u h; simp at h
  | cons a b _ ih =>
    intro i u h
    cases i with
    | zero => simp at h; subst h; exact ⟨a, b⟩
    | succ i => simpa using ih i u (by simpa using h)
theorem DRels.cat {l l' : List AV} {cs : List Value} {o s s' : Nat} (h : DRels w ok l ((cs.drop o).take s)) (h' : DRels w ok l' ((cs.drop (o + s)).take s')) : DRels w ok (l ++ l') ((cs.drop o).take (s + s')) := by
  have e : (cs.drop o).take (s + s') = (cs.drop o).take s ++ (cs.drop (o + s)).take s' := by
    rw [List.take_add, List.drop_drop]
  rw [e]
  exact h.app h'
end
def okW (w : World) : Nat → Prop := fun b => b < w.heap.size
section
variable {H : Type} {enc : TypeId × Value → H} {w : World} {base : Nat} {spare : Nat → Bool} {held : Bool} {t e : TypeId} {fuel : Nat} {cs : List Value} {x : DataW H × List MemPlace}
theorem oU32 (ht : prog.underlying t = some (.int .u32)) (h : DataW.trod enc prog w base spare held fuel t cs = some x) : ∃ a : UInt32, DRels w (okW w) (encU32 a) cs := by
  obtain ⟨z, rfl, _, hw⟩ := DataW.trod_int ht h
  obtain ⟨m, rfl, hm⟩ := u32_of hw
  refine ⟨UInt32.ofNat m, .cons ?_ rfl .nil⟩
  have : (UInt32.ofNat m).toNat = m := Nat.mod_eq_of_lt hm
  rw [this]
  exact .raw _
theorem oI64 (ht : prog.underlying t = some (.int .i64)) (h : DataW.trod enc prog w base spare held fuel t cs = some x) : ∃ a : Int, DRels w (okW w) (encI64 a) cs := by
  obtain ⟨z, rfl, _, hw⟩ := DataW.trod_int ht h
  exact ⟨z, .cons (.raw _) rfl .nil⟩
theorem oSl {α : Type} {f : α → List AV} {sz : Nat} (ht : prog.underlying t = some (.slice e)) (hsz : prog.cellsOf e = sz) (hpos : 0 < sz) (hl : ∀ a, (f a).length = sz)
    (hel : ∀ n cs' y, DataW.trod enc prog w base spare held n e cs' = some y → ∃ a, DRels w (okW w) (f a) cs') (h : DataW.trod enc prog w base spare held fuel t cs = some x) : ∃ l : List α, DRels w (okW w) [.sl false (l.map f)] cs := by
  rcases open_slice ht h with ⟨rfl, _⟩ | ⟨a, len, cap, m, n, D, Pl, rfl, hb, hle, hm, hmm, hx, hi⟩
  · exact ⟨[], .cons (Dat.nil _ _) rfl .nil⟩
  · have hlm : len ≤ m := by rw [hmm]; split <;> omega
    obtain ⟨xs, hxl, hxs⟩ := choose_list (p := fun i v => ∃ cs', w.cells? base (a.add (i * prog.cellsOf e)) (prog.cellsOf e) = some cs' ∧ DRels w (okW w) (f v) cs') len (fun i hil => by
      obtain ⟨cs', hc, ht'⟩ := hi i (by omega)
      obtain ⟨x, hx⟩ := hel _ _ _ ht'
      exact ⟨x, cs', hc, hx⟩)
    have hlen : (xs.map f).length = len := by rw [List.length_map, hxl]
    have cell : ∀ (i : Nat) (v : α), xs[i]? = some v → ∃ cs' : List Value, DRels w (okW w) (f v) cs' ∧ cs'.length = sz ∧ ∀ j, j < sz → w.cell? (a.add (i * sz + j)) = cs'[j]? := fun i v hv => by
      obtain ⟨cs', hc, hk⟩ := hxs i v hv
      obtain ⟨_, hl', hat⟩ := World.cells?_some hc
      refine ⟨cs', hk, by rw [hl', hsz], fun j hj => ?_⟩
      have := hat j (by rw [hsz]; exact hj)
      rw [hsz, av_add_add] at this
      exact this
    have key := Dat.sl (w := w) (ok := okW w) false (xs.map f) (some a) cap sz (fun i j => (w.cell? (a.add (i * sz + j))).getD undef) (by rw [hlen]; exact hle) hm (by intro h; cases h) ?_ ?_ ?_ ?_
    · rw [hlen] at key
      exact ⟨xs, .cons key rfl .nil⟩
    · intro i cs0 h0
      obtain ⟨v, _, rfl⟩ := map_at h0
      exact hl v
    · intro i cs0 h0
      obtain ⟨v, hv, rfl⟩ := map_at h0
      refine ⟨a, rfl, ?_⟩
      obtain ⟨cs', hk, hl', hat⟩ := cell i v hv
      have h1 := hat 0 hpos
      have h2 : 0 < cs'.length := by omega
      rw [List.getElem?_eq_getElem h2] at h1
      have := World.block_lt_of_cell? w _ h1
      rw [av_add_block] at this
      exact this
    · intro i j cs0 a' h0 hj ha'
      injection ha' with ha'
      subst ha'
      obtain ⟨v, hv, rfl⟩ := map_at h0
      obtain ⟨cs', hk, hl', hat⟩ := cell i v hv
      have h1 := hat j hj
      have h2 : j < cs'.length := by omega
      rw [List.getElem?_eq_getElem h2] at h1
      rw [h1]
      refine ⟨rfl, ?_⟩
      have h3 : j < (f v).length := by rw [hl]; exact hj
      have := (hk.at_ j _ (List.getElem?_eq_getElem h3)).2
      simpa [List.getD_eq_getElem?_getD, List.getElem?_eq_getElem h2] using this
    · intro i j cs0 u h0 hu
      obtain ⟨v, hv, rfl⟩ := map_at h0
      obtain ⟨cs', hk, hl', hat⟩ := cell i v hv
      have h3 := lt_of_get hu
      rw [hl] at h3
      rw [hat j h3]
      have := (hk.at_ j u hu).1
      simpa [List.getD_eq_getElem?_getD] using this
theorem full {cs : List Value} {n : Nat} (h : cs.length = n) : (cs.drop 0).take n = cs := by
  rw [List.drop_zero, List.take_of_length_le (by omega)]
/-! Arguments. -/
theorem arg_agg {us : List AV} {vs : Array Value} (h : DRels w (okW w) us vs.toList) : VRel w (lawCx w) [] (.agg us) (.agg vs) := by
  have hl := h.len
  refine .agg us vs (by simpa using hl) (fun i hi => ?_) (fun i u hu => ?_)
  · have hi' : i < us.length := by rw [← hl]; simpa using hi
    have := (h.at_ i _ (List.getElem?_eq_getElem hi')).2
    simpa using this
  · have := (h.at_ i u hu).1
    exact .dat (show Dat w (okW w) u _ from by simpa using this)
end
/-
  PROVED: the statement ShiftRefuses of the given seat: whatever the map and the schema, drydocklaw18.ShiftRefuses returns true, and what was handed in reads as it did.
  Conditions: none beyond the statement's own.
-/
open Go Go.ChangeShapes Go.WideShapes Go.ChangeAt Go.RowKit Go.Proofs.Tryz
theorem o_3 {H : Type} {enc : TypeId × Value → H} {w : World} {base : Nat} {spare : Nat → Bool} {held : Bool} {fuel : Nat} {cs : List Value} {x : DataW H × List MemPlace} (h : DataW.trod enc prog w base spare held fuel 3 cs = some x) : ∃ a : Int, DRels w (okW w) (encI64 a) cs:= oI64 underlying3 h
theorem o_50 {H : Type} {enc : TypeId × Value → H} {w : World} {base : Nat} {spare : Nat → Bool} {held : Bool} {fuel : Nat} {cs : List Value} {x : DataW H × List MemPlace} (h : DataW.trod enc prog w base spare held fuel 50 cs = some x) : ∃ a : T_Schema, DRels w (okW w) (enc_Schema a) cs := by
  obtain ⟨xs, m, _, _, hl, hxl, hg⟩ := DataW.trod_struct underlying50 h
  have hl : cs.length = 4 := hl.trans (by kernel_rfl)
  replace hxl : xs.length = 4 := hxl
  have e0 : prog.cellsOf 3 = 1 := by kernel_rfl
  have h0 : DataW.trod enc prog w base spare held m 3 ((cs.drop 0).take (prog.cellsOf 3)) = xs[0]? := hg 0 _ rfl
  simp only [e0, Nat.reduceMul] at h0
  obtain ⟨b0, r0⟩ := o_3 (h0.trans (List.getElem?_eq_getElem (by omega)))
  have e1 : prog.cellsOf 3 = 1 := by kernel_rfl
  have h1 : DataW.trod enc prog w base spare held m 3 ((cs.drop 1).take (prog.cellsOf 3)) = xs[1]? := hg 1 _ rfl
  simp only [e1, Nat.reduceMul] at h1
  obtain ⟨b1, r1⟩ := o_3 (h1.trans (List.getElem?_eq_getElem (by omega)))
  have e2 : prog.cellsOf 3 = 1 := by kernel_rfl
  have h2 : DataW.trod enc prog w base spare held m 3 ((cs.drop 2).take (prog.cellsOf 3)) = xs[2]? := hg 2 _ rfl
  simp only [e2, Nat.reduceMul] at h2
  obtain ⟨b2, r2⟩ := o_3 (h2.trans (List.getElem?_eq_getElem (by omega)))
  have e3 : prog.cellsOf 3 = 1 := by kernel_rfl
  have h3 : DataW.trod enc prog w base spare held m 3 ((cs.drop 3).take (prog.cellsOf 3)) = xs[3]? := hg 3 _ rfl
  simp only [e3, Nat.reduceMul] at h3
  obtain ⟨b3, r3⟩ := o_3 (h3.trans (List.getElem?_eq_getElem (by omega)))
  have r := (DRels.cat (DRels.cat (DRels.cat r0 r1) r2) r3)
  refine ⟨T_Schema.mk b0 b1 b2 b3, ?_⟩
  have hf := full hl
  rw [← hf]
  exact r
theorem o_25 {H : Type} {enc : TypeId × Value → H} {w : World} {base : Nat} {spare : Nat → Bool} {held : Bool} {fuel : Nat} {cs : List Value} {x : DataW H × List MemPlace} (h : DataW.trod enc prog w base spare held fuel 25 cs = some x) : ∃ a : UInt32, DRels w (okW w) (encU32 a) cs:= oU32 underlying25 h
theorem o_62 {H : Type} {enc : TypeId × Value → H} {w : World} {base : Nat} {spare : Nat → Bool} {held : Bool} {fuel : Nat} {cs : List Value} {x : DataW H × List MemPlace} (h : DataW.trod enc prog w base spare held fuel 62 cs = some x) : ∃ a : (List UInt32), DRels w (okW w) ((encL encU32) a) cs:= oSl (f := encU32) (sz := 1) underlying62 (by kernel_rfl) (by decide) (fun _ => rfl) (fun _ _ _ h => o_25 h) h
theorem o_66 {H : Type} {enc : TypeId × Value → H} {w : World} {base : Nat} {spare : Nat → Bool} {held : Bool} {fuel : Nat} {cs : List Value} {x : DataW H × List MemPlace} (h : DataW.trod enc prog w base spare held fuel 66 cs = some x) : ∃ a : T_Entry, DRels w (okW w) (enc_Entry a) cs := by
  obtain ⟨xs, m, _, _, hl, hxl, hg⟩ := DataW.trod_struct underlying66 h
  have hl : cs.length = 2 := hl.trans (by kernel_rfl)
  replace hxl : xs.length = 2 := hxl
  have e0 : prog.cellsOf 25 = 1 := by kernel_rfl
  have h0 : DataW.trod enc prog w base spare held m 25 ((cs.drop 0).take (prog.cellsOf 25)) = xs[0]? := hg 0 _ rfl
  simp only [e0, Nat.reduceMul] at h0
  obtain ⟨b0, r0⟩ := o_25 (h0.trans (List.getElem?_eq_getElem (by omega)))
  have e1 : prog.cellsOf 62 = 1 := by kernel_rfl
  have h1 : DataW.trod enc prog w base spare held m 62 ((cs.drop 1).take (prog.cellsOf 62)) = xs[1]? := hg 1 _ rfl
  simp only [e1, Nat.reduceMul] at h1
  obtain ⟨b1, r1⟩ := o_62 (h1.trans (List.getElem?_eq_getElem (by omega)))
  have r := (DRels.cat r0 r1)
  refine ⟨T_Entry.mk b0 b1, ?_⟩
  have hf := full hl
  rw [← hf]
  exact r
theorem o_51 {H : Type} {enc : TypeId × Value → H} {w : World} {base : Nat} {spare : Nat → Bool} {held : Bool} {fuel : Nat} {cs : List Value} {x : DataW H × List MemPlace} (h : DataW.trod enc prog w base spare held fuel 51 cs = some x) : ∃ a : (List T_Entry), DRels w (okW w) ((encL enc_Entry) a) cs:= oSl (f := enc_Entry) (sz := 2) underlying51 (by kernel_rfl) (by decide) (fun _ => rfl) (fun _ _ _ h => o_66 h) h
theorem o_53 {H : Type} {enc : TypeId × Value → H} {w : World} {base : Nat} {spare : Nat → Bool} {held : Bool} {fuel : Nat} {cs : List Value} {x : DataW H × List MemPlace} (h : DataW.trod enc prog w base spare held fuel 53 cs = some x) : ∃ a : T_Table, DRels w (okW w) (enc_Table a) cs := by
  obtain ⟨xs, m, _, _, hl, hxl, hg⟩ := DataW.trod_struct underlying53 h
  have hl : cs.length = 6 := hl.trans (by kernel_rfl)
  replace hxl : xs.length = 3 := hxl
  have e0 : prog.cellsOf 50 = 4 := by kernel_rfl
  have h0 : DataW.trod enc prog w base spare held m 50 ((cs.drop 0).take (prog.cellsOf 50)) = xs[0]? := hg 0 _ rfl
  simp only [e0, Nat.reduceMul] at h0
  obtain ⟨b0, r0⟩ := o_50 (h0.trans (List.getElem?_eq_getElem (by omega)))
  have e1 : prog.cellsOf 51 = 1 := by kernel_rfl
  have h1 : DataW.trod enc prog w base spare held m 51 ((cs.drop 4).take (prog.cellsOf 51)) = xs[1]? := hg 1 _ rfl
  simp only [e1, Nat.reduceMul] at h1
  obtain ⟨b1, r1⟩ := o_51 (h1.trans (List.getElem?_eq_getElem (by omega)))
  have e2 : prog.cellsOf 25 = 1 := by kernel_rfl
  have h2 : DataW.trod enc prog w base spare held m 25 ((cs.drop 5).take (prog.cellsOf 25)) = xs[2]? := hg 2 _ rfl
  simp only [e2, Nat.reduceMul] at h2
  obtain ⟨b2, r2⟩ := o_25 (h2.trans (List.getElem?_eq_getElem (by omega)))
  have r := (DRels.cat (DRels.cat r0 r1) r2)
  refine ⟨T_Table.mk b0 b1 b2, ?_⟩
  have hf := full hl
  rw [← hf]
  exact r
theorem shiftRefusesOwn : ownKnob Tryz.prog.godebug = none := by kernel_rfl
theorem shiftRefusesLaid : laidOutB Tryz.prog = true := by kernel_rfl
set_option maxRecDepth 100000 in
theorem shiftRefuses_lifted (os : Os) (started : os.Started) (H : Type) (enc : TypeId × Value → H) :
    ReturnsInHanded {} Tryz.checked os 6 .any (Rows.shiftRefusesSpec.pre6 enc Tryz.prog Tryz.f6 Rows.shiftRefusesRow.domain false) (Rows.shiftRefusesSpec.post enc Tryz.prog Tryz.f6 false true false false) := by
  refine returnsInHanded_of_change (C := Tryz.checked) shiftRefusesOwn started (by kernel_rfl) Tryz.func6
    (ChangeSpec.witness6 (enc := enc) (C := Tryz.checked) false ⟨#[], #[.agg #[.int .i64 0, .int .i64 0, .int .i64 0, .int .i64 0, .slice none 0 0, .int .u32 0], .agg #[.int .i64 0, .int .i64 0, .int .i64 0, .int .i64 0]], []⟩ 8 (by kernel_rfl) (by kernel_rfl) (by kernel_rfl) (by kernel_rfl)) ?_
  intro W base args ds gs before hval0 hW _ _
  have hval : ∀ (j : Nat) t v, Tryz.f6.params[j]? = some t → args[j]? = some v → Value.okWide Tryz.prog W .any base t v := hval0
  have hW' := hW
  obtain ⟨p, q, hA0, hV, rfl, hfz, hnd⟩ := hW
  have hA : DataW.TrodAll enc Tryz.prog W 0 (fun _ => true) true Tryz.f6.params.toList args.toList ds p := hA0
  rw [Tryz.params6] at hA hval
  obtain ⟨l⟩ := args
  obtain ⟨v0, l0, d0, ds0, p0, q0, rfl, rfl, _, h0, hA1⟩ := trodAll_cons hA
  obtain ⟨v1, l1, d1, ds1, p1, q1, rfl, rfl, _, h1, hA2⟩ := trodAll_cons hA1
  obtain ⟨rfl, rfl, _⟩ := trodAll_nil hA2
  obtain ⟨rfl, rfl⟩ := trodVars_none hV
  obtain ⟨cs0, rfl, _⟩ := okWide_struct underlying53 (hval 0 _ v0 rfl rfl)
  obtain ⟨fuel0, hf0⟩ := h0
  obtain ⟨a0, r0⟩ := o_53 hf0
  obtain ⟨cs1, rfl, _⟩ := okWide_struct underlying50 (hval 1 _ v1 rfl rfl)
  obtain ⟨fuel1, hf1⟩ := h1
  obtain ⟨a1, r1⟩ := o_50 hf1
  refine (Ctr.law (c_drydocklaw18_ShiftRefuses (refuses_true a0 a1)) rfl (VRels.of1 (.cons (arg_agg r0) (.cons (arg_agg r1) (.nil))))).mono fun e W' ⟨he, hw⟩ => ?_
  subst he
  exact ⟨_, rfl, post_law shiftRefusesLaid hW' rfl rfl (by kernel_rfl) rfl rfl rfl hw⟩
theorem shiftRefuses_holds : Rows.ShiftRefusesSaid :=
  OpenClaim.holds_of_wide 6 Tryz.f6 rfl rfl rfl rfl rfl rfl rfl ⟨rfl, rfl, rfl, rfl, rfl⟩ rfl rfl rfl rfl rfl (by kernel_rfl) Tryz.func6 (by kernel_rfl)
    (of_decide_eq_true (by kernel_rfl)) (by unfold Func.isWrapper; first | (rw [if_pos (by decide +kernel)]; kernel_rfl) | (rw [if_neg (by decide +kernel)]; exact ⟨rfl, rfl⟩))
    (fun os started H enc _ => shiftRefuses_lifted os started H enc)
end Go.Proofs.YtcffmheeofjifaaGreat
