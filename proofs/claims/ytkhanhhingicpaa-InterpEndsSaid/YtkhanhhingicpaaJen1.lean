/-
  PROVED: the statement InterpEnds of the given seat: whatever the program and the environment, drydocklaw07.InterpEnds returns true, and what was handed in reads as it did.
  Conditions: none beyond the statement's own.
-/
import Derived.Test.YtkhanhhingicpaaJb3
import Derived.Test.YtkhanhhingicpaaRows
set_option linter.unusedVariables false
set_option linter.unusedSimpArgs false
set_option maxHeartbeats 4000000
set_option maxRecDepth 100000
namespace Go.Proofs.Ytkhanhhingicpaa
open Go Go.RowKit Go.Proofs.Try
noncomputable def p_drydocklaw07_InterpEnds_J3 (a0 : T_Prog) (a1 : T_Env) (r1 : Bool) (i_1 : Bool) : Option (Bool) :=
  cond i_1 (
  some r1) (
  po (p_interp_Run a0 a1 4225) fun r7 =>
  some (r7.Err != 2))
noncomputable def p_drydocklaw07_InterpEnds (a0 : T_Prog) (a1 : T_Env) : Option (Bool) :=
  po (p_drydocklaw07_awake) fun r1 =>
  po (p_drydocklaw07_few a0 a1) fun r2 =>
  po (
  cond r1 (
  cond r2 (
  some (decide ((a0.Fns.length : Int) > 2))) (
  some true)) (
  some true)) (fun x => p_drydocklaw07_InterpEnds_J3 a0 a1 r1 x)
theorem c_drydocklaw07_InterpEnds (a0 : T_Prog) (a1 : T_Env) {r : Bool} (h : p_drydocklaw07_InterpEnds a0 a1 = some r) : Ctr prog 10 [.agg (enc_Prog a0), .agg (enc_Env a1)] [] (.raw (.bool r)) [] := by
 unfold p_drydocklaw07_InterpEnds at h;refine Ctr.ofW tabOk func10 rfl call10 0 _ ntmps10 [.tmp 4] rfl rfl rfl (fun B => ?_);refine VC.seqF tabOkF [some 2,some 3,some 4] [2,3] rfl rfl (fun K hK => ?_);push_cast;(repeat refine .intro (by omega) ?_);refine hK _ ?_;clear hK K;obtain ⟨r1,hr1,h⟩ := po_some h;refine VC.seqF tabOkF [some 8,some 5] [2,3,5] rfl rfl (fun K hK => ?_);push_cast;(repeat refine .intro (by omega) ?_);refine callP (Ctr.lo (c_drydocklaw07_awake  hr1)) rfl ?_;push_cast;(repeat refine .intro (by omega) ?_);refine hK _ ?_;clear hK K;obtain ⟨r2,hr2,h⟩ := po_some h;refine VC.seqF tabOkF [some 9,some 10,some 11,some 6] [2,3,5,6] rfl rfl (fun K hK => ?_);push_cast;(repeat refine .intro (by omega) ?_);refine callP (Ctr.lo (c_drydocklaw07_few a0 a1 hr2)) rfl ?_;push_cast;(repeat refine .intro (by omega) ?_);refine hK _ ?_;clear hK K;refine VC.seq ?_;obtain ⟨v3,h,hk3⟩ := po_some h;refine VC.seqJ (X := Bool) (fun x => p_drydocklaw07_InterpEnds_J3 a0 a1 r1 x = some r) (fun x => ⟨[(2,.ref 0 0),(3,.ref 1 0),(5,.raw (.bool r1)),(23,.raw (.bool x))],[(0,.box 64 [.sl false (a0.Fns.map enc_Fn)]),(1,.box 49 [.raw (.int .u32 (a1.Ctx.a0.toNat : Int)),.raw (.int .u32 (a1.Ctx.a1.toNat : Int)),.raw (.int .u32 (a1.Ctx.a2.toNat : Int)),.raw (.int .u32 (a1.Ctx.a3.toNat : Int)),.sl false (a1.T.map enc_Table),.raw (.int .u32 (a1.Seed.toNat : Int))])],21,31,0⟩) ?_ ?_
 ·rcases Bool.eq_false_or_eq_true r1 with hb4 | hb4
  ·replace h := cond_yes hb4 h;rcases Bool.eq_false_or_eq_true r2 with hb5 | hb5
   ·replace h := cond_yes hb5 h;refine VC.lastF tabOkF [some 12,some 13,some 14,some 15,some 16,some 17,some 18,some 19,some 20,some 21,some 22,some 23] rfl rfl (fun K hK => ?_);refine runOps_cut 8 (fun K2 hK2 => ?_);push_cast [hb4,hb5];(repeat refine .intro (by omega) ?_);refine hK2 _ _ ?_;clear hK2 K2;simp only [List.drop_succ_cons,List.drop_zero];push_cast [hb4,hb5];(repeat refine .intro (by omega) ?_);refine hK _ ?_;clear hK K;have hv := Option.some.inj h;rw [← hv] at hk3;refine Exists.intro ((decide ((a0.Fns.length : Int) > 2))) (And.intro hk3 ?_);refine slo ?_ ?_ rfl rfl
    ·push_cast [hb4,hb5]
    ·push_cast [hb4,hb5]
   ·replace h := cond_no hb5 h;refine VC.lastF tabOkF [some 12,some 13,some 14,some 15,some 16,some 17,some 18,some 19,some 20,some 21,some 22,some 23] rfl rfl (fun K hK => ?_);refine runOps_cut 8 (fun K2 hK2 => ?_);push_cast [hb4,hb5];(repeat refine .intro (by omega) ?_);refine hK2 _ _ ?_;clear hK2 K2;simp only [List.drop_succ_cons,List.drop_zero];push_cast [hb4,hb5];(repeat refine .intro (by omega) ?_);refine hK _ ?_;clear hK K;have hv := Option.some.inj h;rw [← hv] at hk3;refine Exists.intro (true) (And.intro hk3 ?_);refine slo ?_ ?_ rfl rfl
    ·push_cast [hb4,hb5]
    ·push_cast [hb4,hb5]
  ·replace h := cond_no hb4 h;refine VC.lastF tabOkF [some 12,some 13,some 14,some 15,some 16,some 17,some 18,some 19,some 20,some 21,some 22,some 23] rfl rfl (fun K hK => ?_);refine runOps_cut 8 (fun K2 hK2 => ?_);push_cast [hb4];(repeat refine .intro (by omega) ?_);refine hK2 _ _ ?_;clear hK2 K2;simp only [List.drop_succ_cons,List.drop_zero];push_cast [hb4];(repeat refine .intro (by omega) ?_);refine hK _ ?_;clear hK K;have hv := Option.some.inj h;rw [← hv] at hk3;refine Exists.intro (true) (And.intro hk3 ?_);refine slo ?_ ?_ rfl rfl
   ·push_cast [hb4]
   ·push_cast [hb4]
 ·rintro i_1 h;replace h : p_drydocklaw07_InterpEnds_J3 a0 a1 r1 i_1 = some r := h;(try push_cast);unfold p_drydocklaw07_InterpEnds_J3 at h;refine VC.cond rfl rfl (fun hc6 => ?_) (fun hc6 => ?_)
  ·have hb6 : i_1 = true := by simpa using hc6
   replace h := cond_yes hb6 h;refine VC.seqF tabOkF [some 24,some 4] [4] rfl rfl (fun K hK => ?_);push_cast [hb6];(repeat refine .intro (by omega) ?_);refine hK _ ?_;clear hK K;refine VC.ret ?_;have hr := Option.some.inj h;subst hr;refine endP (Sub.lo _) (Post.ret ?_ ?_ ?_)
   ·push_cast [hb6]
   ·push_cast [hb6]
   ·rfl
  ·have hb6 : i_1 = false := by simpa using hc6
   replace h := cond_no hb6 h;refine VC.skip ?_;obtain ⟨r7,hr7,h⟩ := po_some h;refine VC.seqF tabOkF [some 25,some 26,some 27,some 7,none] [7] rfl rfl (fun K hK => ?_);push_cast [hb6];(repeat refine .intro (by omega) ?_);refine callP (Ctr.lo (c_interp_Run a0 a1 4225 hr7)) rfl ?_;push_cast [hb6];(repeat refine .intro (by omega) ?_);refine hK _ ?_;clear hK K;refine VC.seqF tabOkF [some 28,some 29,some 30,some 4] [4] rfl rfl (fun K hK => ?_);push_cast [hb6];(repeat refine .intro (by omega) ?_);refine hK _ ?_;clear hK K;refine VC.ret ?_;have hr := Option.some.inj h;subst hr;refine endP (Sub.lo _) (Post.ret ?_ ?_ ?_)
   ·push_cast [hb6]
   ·push_cast [hb6]
   ·rfl
theorem ends_true (p : T_Prog) (e : T_Env) : p_drydocklaw07_InterpEnds p e = some true := by
  obtain ⟨b, hb1, hb2⟩ := few7 p e
  unfold p_drydocklaw07_InterpEnds
  simp only [awake7, hb1, po_of, cond_true]
  have up : p_drydocklaw07_InterpEnds_J3 p e true true = some true := rfl
  cases b with
  | false => exact up
  | true =>
    have hF := (hb2 rfl).fits
    simp only [cond_true, po_of]
    by_cases h1 : (p.Fns.length : Int) > 2
    · rw [decide_eq_true h1]; exact up
    rw [decide_eq_false h1]
    simp only [p_drydocklaw07_InterpEnds_J3, cond_false]
    obtain ⟨c, hc1, hc2⟩ := progMay_tells p
    rw [runI hc1 hc2 hF]
    by_cases h : c = true ∧ (0 : Int) ≤ 4225 ∧ (4225 : Int) ≤ 100000
    · rw [if_pos h]
      have hp := hc2 h.1
      have hl := hp.len
      have hcb : cB p.Fns.length ≤ 4160 := Nat.le_trans (cB_mono (show p.Fns.length ≤ 2 by omega)) (by decide)
      obtain ⟨v, r, q1, q2, _⟩ := frame_bound hp 9 p.Fns.length (by omega) (by omega) _ _ (preI hp hF (fu := 4225) h.2 (fn := 0) ⟨Int.le_refl _, by omega⟩ (a := []) (by decide)) (by show (0 : Int) + (cB p.Fns.length : Int) < 4225; omega)
      rw [q1]
      have d : (r.err != 2) = true := by simpa using q2
      exact congrArg some d
    · rw [if_neg h]
      rfl
/-
  PROVED: the statement InterpEnds of the given seat: whatever the program and the environment, drydocklaw07.InterpEnds returns true, and what was handed in reads as it did.
  Conditions: none beyond the statement's own.
-/
open Go Go.ChangeShapes Go.WideShapes Go.ChangeAt Go.RowKit Go.Proofs.Try
theorem o_3 {H : Type} {enc : TypeId × Value → H} {w : World} {base : Nat} {spare : Nat → Bool} {held : Bool} {fuel : Nat} {cs : List Value} {x : DataW H × List MemPlace} (h : DataW.trod enc prog w base spare held fuel 3 cs = some x) : ∃ a : Int, DRels w (okW w) (encI64 a) cs:= oI64 underlying3 h
theorem o_4 {H : Type} {enc : TypeId × Value → H} {w : World} {base : Nat} {spare : Nat → Bool} {held : Bool} {fuel : Nat} {cs : List Value} {x : DataW H × List MemPlace} (h : DataW.trod enc prog w base spare held fuel 4 cs = some x) : ∃ a : Bool, DRels w (okW w) (encBool a) cs:= oBool underlying4 h
theorem o_25 {H : Type} {enc : TypeId × Value → H} {w : World} {base : Nat} {spare : Nat → Bool} {held : Bool} {fuel : Nat} {cs : List Value} {x : DataW H × List MemPlace} (h : DataW.trod enc prog w base spare held fuel 25 cs = some x) : ∃ a : UInt32, DRels w (okW w) (encU32 a) cs:= oU32 underlying25 h
theorem o_76 {H : Type} {enc : TypeId × Value → H} {w : World} {base : Nat} {spare : Nat → Bool} {held : Bool} {fuel : Nat} {cs : List Value} {x : DataW H × List MemPlace} (h : DataW.trod enc prog w base spare held fuel 76 cs = some x) : ∃ a : T_Inst, DRels w (okW w) (enc_Inst a) cs := by
  obtain ⟨xs, m, _, _, hl, hxl, hg⟩ := DataW.trod_struct underlying76 h
  have hl : cs.length = 7 := hl.trans (by kernel_rfl)
  replace hxl : xs.length = 7 := hxl
  have e0 : prog.cellsOf 3 = 1 := by kernel_rfl
  have h0 : DataW.trod enc prog w base spare held m 3 ((cs.drop 0).take (prog.cellsOf 3)) = xs[0]? := hg 0 _ rfl
  simp only [e0, Nat.reduceMul] at h0
  obtain ⟨b0, r0⟩ := o_3 (h0.trans (List.getElem?_eq_getElem (by omega)))
  have e1 : prog.cellsOf 3 = 1 := by kernel_rfl
  have h1 : DataW.trod enc prog w base spare held m 3 ((cs.drop 1).take (prog.cellsOf 3)) = xs[1]? := hg 1 _ rfl
  simp only [e1, Nat.reduceMul] at h1
  obtain ⟨b1, r1⟩ := o_3 (h1.trans (List.getElem?_eq_getElem (by omega)))
  have e2 : prog.cellsOf 3 = 1 := by kernel_rfl
  have h2 : DataW.trod enc prog w base spare held m 3 ((cs.drop 2).take (prog.cellsOf 3)) = xs[2]? := hg 2 _ rfl
  simp only [e2, Nat.reduceMul] at h2
  obtain ⟨b2, r2⟩ := o_3 (h2.trans (List.getElem?_eq_getElem (by omega)))
  have e3 : prog.cellsOf 3 = 1 := by kernel_rfl
  have h3 : DataW.trod enc prog w base spare held m 3 ((cs.drop 3).take (prog.cellsOf 3)) = xs[3]? := hg 3 _ rfl
  simp only [e3, Nat.reduceMul] at h3
  obtain ⟨b3, r3⟩ := o_3 (h3.trans (List.getElem?_eq_getElem (by omega)))
  have e4 : prog.cellsOf 4 = 1 := by kernel_rfl
  have h4 : DataW.trod enc prog w base spare held m 4 ((cs.drop 4).take (prog.cellsOf 4)) = xs[4]? := hg 4 _ rfl
  simp only [e4, Nat.reduceMul] at h4
  obtain ⟨b4, r4⟩ := o_4 (h4.trans (List.getElem?_eq_getElem (by omega)))
  have e5 : prog.cellsOf 3 = 1 := by kernel_rfl
  have h5 : DataW.trod enc prog w base spare held m 3 ((cs.drop 5).take (prog.cellsOf 3)) = xs[5]? := hg 5 _ rfl
  simp only [e5, Nat.reduceMul] at h5
  obtain ⟨b5, r5⟩ := o_3 (h5.trans (List.getElem?_eq_getElem (by omega)))
  have e6 : prog.cellsOf 25 = 1 := by kernel_rfl
  have h6 : DataW.trod enc prog w base spare held m 25 ((cs.drop 6).take (prog.cellsOf 25)) = xs[6]? := hg 6 _ rfl
  simp only [e6, Nat.reduceMul] at h6
  obtain ⟨b6, r6⟩ := o_25 (h6.trans (List.getElem?_eq_getElem (by omega)))
  have r := (DRels.cat (DRels.cat (DRels.cat (DRels.cat (DRels.cat (DRels.cat r0 r1) r2) r3) r4) r5) r6)
  refine ⟨T_Inst.mk b0 b1 b2 b3 b4 b5 b6, ?_⟩
  have hf := full hl
  rw [← hf]
  exact r
theorem o_72 {H : Type} {enc : TypeId × Value → H} {w : World} {base : Nat} {spare : Nat → Bool} {held : Bool} {fuel : Nat} {cs : List Value} {x : DataW H × List MemPlace} (h : DataW.trod enc prog w base spare held fuel 72 cs = some x) : ∃ a : (List T_Inst), DRels w (okW w) ((encL enc_Inst) a) cs:= oSl (f := enc_Inst) (sz := 7) underlying72 (by kernel_rfl) (by decide) (fun _ => rfl) (fun _ _ _ h => o_76 h) h
theorem o_74 {H : Type} {enc : TypeId × Value → H} {w : World} {base : Nat} {spare : Nat → Bool} {held : Bool} {fuel : Nat} {cs : List Value} {x : DataW H × List MemPlace} (h : DataW.trod enc prog w base spare held fuel 74 cs = some x) : ∃ a : T_Fn, DRels w (okW w) (enc_Fn a) cs := by
  obtain ⟨xs, m, _, _, hl, hxl, hg⟩ := DataW.trod_struct underlying74 h
  have hl : cs.length = 2 := hl.trans (by kernel_rfl)
  replace hxl : xs.length = 2 := hxl
  have e0 : prog.cellsOf 3 = 1 := by kernel_rfl
  have h0 : DataW.trod enc prog w base spare held m 3 ((cs.drop 0).take (prog.cellsOf 3)) = xs[0]? := hg 0 _ rfl
  simp only [e0, Nat.reduceMul] at h0
  obtain ⟨b0, r0⟩ := o_3 (h0.trans (List.getElem?_eq_getElem (by omega)))
  have e1 : prog.cellsOf 72 = 1 := by kernel_rfl
  have h1 : DataW.trod enc prog w base spare held m 72 ((cs.drop 1).take (prog.cellsOf 72)) = xs[1]? := hg 1 _ rfl
  simp only [e1, Nat.reduceMul] at h1
  obtain ⟨b1, r1⟩ := o_72 (h1.trans (List.getElem?_eq_getElem (by omega)))
  have r := (DRels.cat r0 r1)
  refine ⟨T_Fn.mk b0 b1, ?_⟩
  have hf := full hl
  rw [← hf]
  exact r
theorem o_62 {H : Type} {enc : TypeId × Value → H} {w : World} {base : Nat} {spare : Nat → Bool} {held : Bool} {fuel : Nat} {cs : List Value} {x : DataW H × List MemPlace} (h : DataW.trod enc prog w base spare held fuel 62 cs = some x) : ∃ a : (List T_Fn), DRels w (okW w) ((encL enc_Fn) a) cs:= oSl (f := enc_Fn) (sz := 2) underlying62 (by kernel_rfl) (by decide) (fun _ => rfl) (fun _ _ _ h => o_74 h) h
theorem o_64 {H : Type} {enc : TypeId × Value → H} {w : World} {base : Nat} {spare : Nat → Bool} {held : Bool} {fuel : Nat} {cs : List Value} {x : DataW H × List MemPlace} (h : DataW.trod enc prog w base spare held fuel 64 cs = some x) : ∃ a : T_Prog, DRels w (okW w) (enc_Prog a) cs := by
  obtain ⟨xs, m, _, _, hl, hxl, hg⟩ := DataW.trod_struct underlying64 h
  have hl : cs.length = 1 := hl.trans (by kernel_rfl)
  replace hxl : xs.length = 1 := hxl
  have e0 : prog.cellsOf 62 = 1 := by kernel_rfl
  have h0 : DataW.trod enc prog w base spare held m 62 ((cs.drop 0).take (prog.cellsOf 62)) = xs[0]? := hg 0 _ rfl
  simp only [e0, Nat.reduceMul] at h0
  obtain ⟨b0, r0⟩ := o_62 (h0.trans (List.getElem?_eq_getElem (by omega)))
  have r := r0
  refine ⟨T_Prog.mk b0, ?_⟩
  have hf := full hl
  rw [← hf]
  exact r
theorem o_47 {H : Type} {enc : TypeId × Value → H} {w : World} {base : Nat} {spare : Nat → Bool} {held : Bool} {fuel : Nat} {cs : List Value} {x : DataW H × List MemPlace} (h : DataW.trod enc prog w base spare held fuel 47 cs = some x) : ∃ a : (A4 UInt32), DRels w (okW w) ((encA4 encU32) a) cs := by
  obtain ⟨xs, m, _, _, hl, hxl, hg⟩ := DataW.trod_array underlying47 h
  have hl : cs.length = 4 := hl.trans (by kernel_rfl)
  replace hxl : xs.length = 4 := hxl
  have e0 : prog.cellsOf 25 = 1 := by kernel_rfl
  have h0 := hg 0 (by decide)
  simp only [e0, Nat.reduceMul] at h0
  obtain ⟨b0, r0⟩ := o_25 (h0.trans (List.getElem?_eq_getElem (by omega)))
  have e1 : prog.cellsOf 25 = 1 := by kernel_rfl
  have h1 := hg 1 (by decide)
  simp only [e1, Nat.reduceMul] at h1
  obtain ⟨b1, r1⟩ := o_25 (h1.trans (List.getElem?_eq_getElem (by omega)))
  have e2 : prog.cellsOf 25 = 1 := by kernel_rfl
  have h2 := hg 2 (by decide)
  simp only [e2, Nat.reduceMul] at h2
  obtain ⟨b2, r2⟩ := o_25 (h2.trans (List.getElem?_eq_getElem (by omega)))
  have e3 : prog.cellsOf 25 = 1 := by kernel_rfl
  have h3 := hg 3 (by decide)
  simp only [e3, Nat.reduceMul] at h3
  obtain ⟨b3, r3⟩ := o_25 (h3.trans (List.getElem?_eq_getElem (by omega)))
  have r := (DRels.cat (DRels.cat (DRels.cat r0 r1) r2) r3)
  refine ⟨A4.mk b0 b1 b2 b3, ?_⟩
  have hf := full hl
  rw [← hf]
  exact r
theorem o_23 {H : Type} {enc : TypeId × Value → H} {w : World} {base : Nat} {spare : Nat → Bool} {held : Bool} {fuel : Nat} {cs : List Value} {x : DataW H × List MemPlace} (h : DataW.trod enc prog w base spare held fuel 23 cs = some x) : ∃ a : T_Schema, DRels w (okW w) (enc_Schema a) cs := by
  obtain ⟨xs, m, _, _, hl, hxl, hg⟩ := DataW.trod_struct underlying23 h
  have hl : cs.length = 4 := hl.trans (by kernel_rfl)
  replace hxl : xs.length = 4 := hxl
  have e0 : prog.cellsOf 3 = 1 := by kernel_rfl
  have h0 : DataW.trod enc prog w base spare held m 3 ((cs.drop 0).take (prog.cellsOf 3)) = xs[0]? := hg 0 _ rfl
  simp only [e0, Nat.reduceMul] at h0
  obtain ⟨b0, r0⟩ := o_3 (h0.trans (List.getElem?_eq_getElem (by omega)))
  have e1 : prog.cellsOf 3 = 1 := by kernel_rfl
  have h1 : DataW.trod enc prog w base spare held m 3 ((cs.drop 1).take (prog.cellsOf 3)) = xs[1]? := hg 1 _ rfl
  simp only [e1, Nat.reduceMul] at h1
  obtain ⟨b1, r1⟩ := o_3 (h1.trans (List.getElem?_eq_getElem (by omega)))
  have e2 : prog.cellsOf 3 = 1 := by kernel_rfl
  have h2 : DataW.trod enc prog w base spare held m 3 ((cs.drop 2).take (prog.cellsOf 3)) = xs[2]? := hg 2 _ rfl
  simp only [e2, Nat.reduceMul] at h2
  obtain ⟨b2, r2⟩ := o_3 (h2.trans (List.getElem?_eq_getElem (by omega)))
  have e3 : prog.cellsOf 3 = 1 := by kernel_rfl
  have h3 : DataW.trod enc prog w base spare held m 3 ((cs.drop 3).take (prog.cellsOf 3)) = xs[3]? := hg 3 _ rfl
  simp only [e3, Nat.reduceMul] at h3
  obtain ⟨b3, r3⟩ := o_3 (h3.trans (List.getElem?_eq_getElem (by omega)))
  have r := (DRels.cat (DRels.cat (DRels.cat r0 r1) r2) r3)
  refine ⟨T_Schema.mk b0 b1 b2 b3, ?_⟩
  have hf := full hl
  rw [← hf]
  exact r
theorem o_39 {H : Type} {enc : TypeId × Value → H} {w : World} {base : Nat} {spare : Nat → Bool} {held : Bool} {fuel : Nat} {cs : List Value} {x : DataW H × List MemPlace} (h : DataW.trod enc prog w base spare held fuel 39 cs = some x) : ∃ a : (List UInt32), DRels w (okW w) ((encL encU32) a) cs:= oSl (f := encU32) (sz := 1) underlying39 (by kernel_rfl) (by decide) (fun _ => rfl) (fun _ _ _ h => o_25 h) h
theorem o_41 {H : Type} {enc : TypeId × Value → H} {w : World} {base : Nat} {spare : Nat → Bool} {held : Bool} {fuel : Nat} {cs : List Value} {x : DataW H × List MemPlace} (h : DataW.trod enc prog w base spare held fuel 41 cs = some x) : ∃ a : T_Entry, DRels w (okW w) (enc_Entry a) cs := by
  obtain ⟨xs, m, _, _, hl, hxl, hg⟩ := DataW.trod_struct underlying41 h
  have hl : cs.length = 2 := hl.trans (by kernel_rfl)
  replace hxl : xs.length = 2 := hxl
  have e0 : prog.cellsOf 25 = 1 := by kernel_rfl
  have h0 : DataW.trod enc prog w base spare held m 25 ((cs.drop 0).take (prog.cellsOf 25)) = xs[0]? := hg 0 _ rfl
  simp only [e0, Nat.reduceMul] at h0
  obtain ⟨b0, r0⟩ := o_25 (h0.trans (List.getElem?_eq_getElem (by omega)))
  have e1 : prog.cellsOf 39 = 1 := by kernel_rfl
  have h1 : DataW.trod enc prog w base spare held m 39 ((cs.drop 1).take (prog.cellsOf 39)) = xs[1]? := hg 1 _ rfl
  simp only [e1, Nat.reduceMul] at h1
  obtain ⟨b1, r1⟩ := o_39 (h1.trans (List.getElem?_eq_getElem (by omega)))
  have r := (DRels.cat r0 r1)
  refine ⟨T_Entry.mk b0 b1, ?_⟩
  have hf := full hl
  rw [← hf]
  exact r
theorem o_24 {H : Type} {enc : TypeId × Value → H} {w : World} {base : Nat} {spare : Nat → Bool} {held : Bool} {fuel : Nat} {cs : List Value} {x : DataW H × List MemPlace} (h : DataW.trod enc prog w base spare held fuel 24 cs = some x) : ∃ a : (List T_Entry), DRels w (okW w) ((encL enc_Entry) a) cs:= oSl (f := enc_Entry) (sz := 2) underlying24 (by kernel_rfl) (by decide) (fun _ => rfl) (fun _ _ _ h => o_41 h) h
theorem o_27 {H : Type} {enc : TypeId × Value → H} {w : World} {base : Nat} {spare : Nat → Bool} {held : Bool} {fuel : Nat} {cs : List Value} {x : DataW H × List MemPlace} (h : DataW.trod enc prog w base spare held fuel 27 cs = some x) : ∃ a : T_Table, DRels w (okW w) (enc_Table a) cs := by
  obtain ⟨xs, m, _, _, hl, hxl, hg⟩ := DataW.trod_struct underlying27 h
  have hl : cs.length = 6 := hl.trans (by kernel_rfl)
  replace hxl : xs.length = 3 := hxl
  have e0 : prog.cellsOf 23 = 4 := by kernel_rfl
  have h0 : DataW.trod enc prog w base spare held m 23 ((cs.drop 0).take (prog.cellsOf 23)) = xs[0]? := hg 0 _ rfl
  simp only [e0, Nat.reduceMul] at h0
  obtain ⟨b0, r0⟩ := o_23 (h0.trans (List.getElem?_eq_getElem (by omega)))
  have e1 : prog.cellsOf 24 = 1 := by kernel_rfl
  have h1 : DataW.trod enc prog w base spare held m 24 ((cs.drop 4).take (prog.cellsOf 24)) = xs[1]? := hg 1 _ rfl
  simp only [e1, Nat.reduceMul] at h1
  obtain ⟨b1, r1⟩ := o_24 (h1.trans (List.getElem?_eq_getElem (by omega)))
  have e2 : prog.cellsOf 25 = 1 := by kernel_rfl
  have h2 : DataW.trod enc prog w base spare held m 25 ((cs.drop 5).take (prog.cellsOf 25)) = xs[2]? := hg 2 _ rfl
  simp only [e2, Nat.reduceMul] at h2
  obtain ⟨b2, r2⟩ := o_25 (h2.trans (List.getElem?_eq_getElem (by omega)))
  have r := (DRels.cat (DRels.cat r0 r1) r2)
  refine ⟨T_Table.mk b0 b1 b2, ?_⟩
  have hf := full hl
  rw [← hf]
  exact r
theorem o_38 {H : Type} {enc : TypeId × Value → H} {w : World} {base : Nat} {spare : Nat → Bool} {held : Bool} {fuel : Nat} {cs : List Value} {x : DataW H × List MemPlace} (h : DataW.trod enc prog w base spare held fuel 38 cs = some x) : ∃ a : (List T_Table), DRels w (okW w) ((encL enc_Table) a) cs:= oSl (f := enc_Table) (sz := 6) underlying38 (by kernel_rfl) (by decide) (fun _ => rfl) (fun _ _ _ h => o_27 h) h
theorem o_49 {H : Type} {enc : TypeId × Value → H} {w : World} {base : Nat} {spare : Nat → Bool} {held : Bool} {fuel : Nat} {cs : List Value} {x : DataW H × List MemPlace} (h : DataW.trod enc prog w base spare held fuel 49 cs = some x) : ∃ a : T_Env, DRels w (okW w) (enc_Env a) cs := by
  obtain ⟨xs, m, _, _, hl, hxl, hg⟩ := DataW.trod_struct underlying49 h
  have hl : cs.length = 6 := hl.trans (by kernel_rfl)
  replace hxl : xs.length = 3 := hxl
  have e0 : prog.cellsOf 47 = 4 := by kernel_rfl
  have h0 : DataW.trod enc prog w base spare held m 47 ((cs.drop 0).take (prog.cellsOf 47)) = xs[0]? := hg 0 _ rfl
  simp only [e0, Nat.reduceMul] at h0
  obtain ⟨b0, r0⟩ := o_47 (h0.trans (List.getElem?_eq_getElem (by omega)))
  have e1 : prog.cellsOf 38 = 1 := by kernel_rfl
  have h1 : DataW.trod enc prog w base spare held m 38 ((cs.drop 4).take (prog.cellsOf 38)) = xs[1]? := hg 1 _ rfl
  simp only [e1, Nat.reduceMul] at h1
  obtain ⟨b1, r1⟩ := o_38 (h1.trans (List.getElem?_eq_getElem (by omega)))
  have e2 : prog.cellsOf 25 = 1 := by kernel_rfl
  have h2 : DataW.trod enc prog w base spare held m 25 ((cs.drop 5).take (prog.cellsOf 25)) = xs[2]? := hg 2 _ rfl
  simp only [e2, Nat.reduceMul] at h2
  obtain ⟨b2, r2⟩ := o_25 (h2.trans (List.getElem?_eq_getElem (by omega)))
  have r := (DRels.cat (DRels.cat r0 r1) r2)
  refine ⟨T_Env.mk b0 b1 b2, ?_⟩
  have hf := full hl
  rw [← hf]
  exact r
theorem interpEndsOwn : ownKnob Try.prog.godebug = none := by kernel_rfl
theorem interpEndsLaid : laidOutB Try.prog = true := by kernel_rfl
set_option maxRecDepth 100000 in
theorem interpEnds_lifted (os : Os) (started : os.Started) (H : Type) (enc : TypeId × Value → H) :
    ReturnsInHanded {} Try.checked os 10 .any (Rows.interpEndsSpec.pre6 enc Try.prog Try.f10 Rows.interpEndsRow.domain false) (Rows.interpEndsSpec.post enc Try.prog Try.f10 false true false false) := by
  refine returnsInHanded_of_change (C := Try.checked) interpEndsOwn started (by kernel_rfl) Try.func10
    (ChangeSpec.witness6 (enc := enc) (C := Try.checked) false ⟨#[], #[.agg #[.slice none 0 0], .agg #[.int .u32 0, .int .u32 0, .int .u32 0, .int .u32 0, .slice none 0 0, .int .u32 0]], []⟩ 8 (by kernel_rfl) (by kernel_rfl) (by kernel_rfl) (by kernel_rfl)) ?_
  intro W base args ds gs before hval0 hW _ _
  have hval : ∀ (j : Nat) t v, Try.f10.params[j]? = some t → args[j]? = some v → Value.okWide Try.prog W .any base t v := hval0
  have hW' := hW
  obtain ⟨p, q, hA0, hV, rfl, hfz, hnd⟩ := hW
  have hA : DataW.TrodAll enc Try.prog W 0 (fun _ => true) true Try.f10.params.toList args.toList ds p := hA0
  rw [Try.params10] at hA hval
  obtain ⟨l⟩ := args
  obtain ⟨v0, l0, d0, ds0, p0, q0, rfl, rfl, _, h0, hA1⟩ := trodAll_cons hA
  obtain ⟨v1, l1, d1, ds1, p1, q1, rfl, rfl, _, h1, hA2⟩ := trodAll_cons hA1
  obtain ⟨rfl, rfl, _⟩ := trodAll_nil hA2
  obtain ⟨rfl, rfl⟩ := trodVars_none hV
  obtain ⟨cs0, rfl, _⟩ := okWide_struct underlying64 (hval 0 _ v0 rfl rfl)
  obtain ⟨fuel0, hf0⟩ := h0
  obtain ⟨a0, r0⟩ := o_64 hf0
  obtain ⟨cs1, rfl, _⟩ := okWide_struct underlying49 (hval 1 _ v1 rfl rfl)
  obtain ⟨fuel1, hf1⟩ := h1
  obtain ⟨a1, r1⟩ := o_49 hf1
  refine (Ctr.law (c_drydocklaw07_InterpEnds a0 a1 (ends_true a0 a1)) rfl (VRels.of1 (.cons (arg_agg r0) (.cons (arg_agg r1) (.nil))))).mono fun e W' ⟨he, hw⟩ => ?_
  subst he
  exact ⟨_, rfl, post_law interpEndsLaid hW' rfl rfl (by kernel_rfl) rfl rfl rfl hw⟩
theorem interpEnds_holds : Rows.InterpEndsSaid :=
  OpenClaim.holds_of_wide 10 Try.f10 rfl rfl rfl rfl rfl rfl rfl ⟨rfl, rfl, rfl, rfl, rfl⟩ rfl rfl rfl rfl rfl (by kernel_rfl) Try.func10 (by kernel_rfl)
    (of_decide_eq_true (by kernel_rfl)) (by unfold Func.isWrapper; first | (rw [if_pos (by decide +kernel)]; kernel_rfl) | (rw [if_neg (by decide +kernel)]; exact ⟨rfl, rfl⟩))
    (fun os started H enc _ => interpEnds_lifted os started H enc)
end Go.Proofs.Ytkhanhhingicpaa
