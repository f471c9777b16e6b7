/-
  PROVED: the statement InterpParts of the given seat: whatever the function, the environment and the words, drydocklaw07.InterpParts returns true, and what was handed in reads as it did.
  Conditions: none beyond the statement's own.
-/
import Derived.Test.YtkhanhhingicpaaJc3
import Derived.Test.YtkhanhhingicpaaRows
set_option linter.unusedVariables false
set_option linter.unusedSimpArgs false
set_option maxHeartbeats 4000000
set_option maxRecDepth 100000
namespace Go.Proofs.Ytkhanhhingicpaa
open Go Go.RowKit
def AV.dull0 : AV → AV
  | .raw v => .raw v
  | _ => .dead
def AV.dull1 : AV → AV
  | .agg cs => .agg (cs.map AV.dull0)
  | v => v.dull0
def AV.dull : AV → AV
  | .tup vs => .tup (vs.map AV.dull1)
  | v => v.dull1
def AV.isRaw : AV → Bool
  | .raw _ => true
  | _ => false
theorem VRel.dull0 {w : World} {x x2 : Cx} {hp hp2 : Hp} {u : AV} {v : Value} (hv : VRel w x hp u v) : VRel w x2 hp2 u.dull0 v := by
  unfold AV.dull0
  split
  · have e := hv.rawEq
    subst e
    exact .raw _
  · exact .dead _
theorem VRel.dull1 {w : World} {x x2 : Cx} {hp hp2 : Hp} {u : AV} {v : Value} (hv : VRel w x hp u v) : VRel w x2 hp2 u.dull1 v := by
  unfold AV.dull1
  split
  · cases hv with
    | dat hd => cases hd
    | agg cs vs hl h1 h2 =>
      refine .agg _ vs (by simpa using hl) h1 fun i u hu => ?_
      obtain ⟨a, ha, rfl⟩ := map_at hu
      exact (h2 i a ha).dull0
  · exact hv.dull0
theorem VRel.dull {w : World} {x x2 : Cx} {hp hp2 : Hp} {u : AV} {v : Value} (hv : VRel w x hp u v) : VRel w x2 hp2 u.dull v := by
  unfold AV.dull
  split
  · cases hv with
    | dat hd => cases hd
    | tup cs vs hl h2 =>
      refine .tup _ vs (by simpa using hl) fun i u hu => ?_
      obtain ⟨a, ha, rfl⟩ := map_at hu
      exact (h2 i a ha).dull1
  · exact hv.dull1
def AV.lendb0 (H : Hp) : AV → AV
  | .bsl id off n => match look H id with
    | some (.box _ cs) => if off + n ≤ cs.length ∧ cs.all AV.isRaw = true then .sl false (((cs.drop off).take n).map fun v => [v]) else .dead
    | _ => .dead
  | v => v.lend0 H
def AV.lendb1 (H : Hp) : AV → AV
  | .agg cs => .agg (cs.map (AV.lend0 H))
  | v => v.lendb0 H
theorem VRel.lendb0 (P : Program) {w : World} {x : Cx} {H : Hp} (h : HRel w x H) {u : AV} {v : Value} (hv : VRel w x H u v) : VRel w (x.lent H) [] (u.lendb0 H) v := by
  unfold AV.lendb0
  split
  · rename_i id off n
    split
    · rename_i t cs hl
      split
      · rename_i hc
        obtain ⟨hle, hraw⟩ := hc
        cases hv with
        | dat hd => cases hd
        | bsl _ _ _ A c hid hcn hm hlive =>
          obtain ⟨b, vs, e1, e2, e3, e4, e5⟩ := h.obj id _ hl
          have hlen : (((cs.drop off).take n).map fun v => [v]).length = n := by
            simp only [List.length_map, List.length_take, List.length_drop]
            omega
          have get : ∀ (i : Nat) (ds : List AV), (((cs.drop off).take n).map fun v => [v])[i]? = some ds → i < n ∧ ∃ u, ds = [u] ∧ cs[off + i]? = some u ∧ ((cs.drop off).take n)[i]? = some u := fun i ds hi => by
            obtain ⟨u, hu, rfl⟩ := map_at hi
            have hi2 : i < n := by
              have := (List.getElem?_eq_some_iff.1 hu).1
              simp only [List.length_take] at this
              omega
            refine ⟨hi2, u, rfl, ?_, hu⟩
            rw [List.getElem?_take, if_pos hi2, List.getElem?_drop] at hu
            exact hu
          have hA : n = 0 ∨ A = some ⟨b, off, none⟩ := by
            rcases hlive ⟨t, cs, hl⟩ with h0 | ⟨b', q1, q2⟩
            · exact .inl h0
            · rw [e1] at q1
              injection q1 with q1
              subst q1
              exact .inr q2
          have key : Dat w (x.lent H).ok (.sl false (((cs.drop off).take n).map fun v => [v])) (.slice A (((cs.drop off).take n).map fun v => [v]).length c) := by
            refine .sl false _ A c 1 (fun i _ => vs.getD (off + i) undef) (by rw [hlen]; exact hcn) hm (fun q => by cases q) (fun i ds hi => ?_) (fun i ds hi => ?_) (fun i j ds a hi hj ha => ?_) (fun i j ds u hi hj => ?_)
            · obtain ⟨_, u, rfl, _⟩ := get i ds hi
              rfl
            · obtain ⟨hin, _⟩ := get i ds hi
              rcases hA with h0 | h0
              · omega
              · exact ⟨_, h0, .inr ⟨id, _, hl, e1⟩⟩
            · obtain ⟨hin, u, rfl, hu, _⟩ := get i ds hi
              have hlt := (List.getElem?_eq_some_iff.1 hu).1
              rcases hA with h0 | h0
              · omega
              · rw [ha] at h0
                injection h0 with h0
                subst h0
                rw [show i * 1 + j = i by omega]
                exact ⟨cell_getD e2 (by omega), e4 _ (by omega)⟩
            · obtain ⟨hin, u', rfl, hu, hu2⟩ := get i ds hi
              have hr := all_at hraw hu
              cases j with
              | succ j => simp at hj
              | zero =>
                simp only [List.getElem?_cons_zero, Option.some.injEq] at hj
                subst hj
                have h6 := e5 _ _ hu
                unfold AV.isRaw at hr
                split at hr
                · have e := h6.rawEq
                  show Dat w _ _ (vs.getD (off + i) undef)
                  rw [e]
                  exact .raw _
                · cases hr
          rw [hlen] at key
          exact .dat key
      · exact .dead _
    · exact .dead _
  · exact hv.lend0 P h
theorem VRel.lendb1 (P : Program) {w : World} {x : Cx} {H : Hp} (h : HRel w x H) {u : AV} {v : Value} (hv : VRel w x H u v) : VRel w (x.lent H) [] (u.lendb1 H) v := by
  unfold AV.lendb1
  split
  · cases hv with
    | dat hd => cases hd
    | agg cs vs hl h1 h2 =>
      refine .agg _ vs (by simpa using hl) h1 fun i u hu => ?_
      obtain ⟨a, ha, rfl⟩ := map_at hu
      exact (h2 i a ha).lend0 P h
  · exact hv.lendb0 P h
theorem Ctr.lend {P : Program} {f : FuncId} {args args0 : List AV} {H H' : Hp} {r : AV} (hc : Ctr P f args0 [] r H') (ha : args.map (AV.lendb1 H) = args0) : Ctr P f args H r.dull H := by
  refine ⟨hc.1, fun w x vals hx hdom hsz hargs => ?_⟩
  have hx0 : HRel w (x.lent H) [] := by
    refine ⟨fun b hb => ?_, fun id o hl => by simp [look] at hl, fun id t sz g els g' hl => by simp [look] at hl, fun id t sz g els hl => by simp [look] at hl, fun id o b hl => by simp [look] at hl, fun id id' o o' b hl => by simp [look] at hl, fun id o hl => by simp [look] at hl⟩
    rcases hb with h1 | ⟨id, o, h1, h2⟩
    · exact hx.okb b h1
    · exact (hx.liv id o b h1 h2).1
  refine Calls.mono (hc.2 w (x.lent H) vals hx0 (fun id g hd => False.elim hd) (by rw [← ha]; simpa using hsz) (fun i u hu => ?_)) ?_
  · rw [← ha] at hu
    obtain ⟨a, ha', rfl⟩ := map_at hu
    exact (hargs i a ha').lendb1 P hx
  · rintro e w' ⟨v, x', e1, st, e3, e4⟩
    have m := st.mo
    have t := st.tr
    have hb : ∀ id o b, look H id = some o → x.β id = some b → w'.heap[b]? = w.heap[b]? := fun id o b h1 h2 => m.ag b (.inr ⟨id, o, h1, h2⟩)
    have mo : Mo w x H w' x H := ⟨fun _ h => h, fun _ _ h => h, fun b hb => m.ag b (.inl hb), fun _ _ h => ⟨h, rfl⟩, fun _ _ _ _ h => ⟨h, rfl, rfl⟩, fun _ _ h => ⟨h, rfl⟩⟩
    refine ⟨v, x, e1, ⟨mo, ⟨t.os, t.tape, t.output, t.size, fun b hb _ => t.keep b hb (fun id o hl => by simp [look] at hl), fun b hb => .inl hb, fun id o b h1 h2 => .inr ⟨id, o, h1, h2⟩⟩, ⟨fun b hb => Nat.lt_of_lt_of_le (hx.okb b hb) t.size, hx.dom, hx.gen, hx.gdm, fun id o b h1 h2 => ⟨Nat.lt_of_lt_of_le (hx.liv id o b h1 h2).1 t.size, (hx.liv id o b h1 h2).2⟩, hx.inj, fun id o hl => (hx.obj id o hl).mono mo rfl rfl (fun b h2 => hb id o b hl h2)⟩⟩, e3.dull, fun id g hd => .inr (hdom id g hd)⟩
theorem Ctr.consumeB {P : Program} {f : FuncId} {args args0 : List AV} {H H' : Hp} {r : AV} (hc : Ctr P f args0 [] r H') (ha : args.map (AV.lendb1 H) = args0) (hd : (H'.all fun p => !Hp.has H p.1) = true) : Ctr P f args H r H' := by
  refine ⟨hc.1, fun w x vals hx hdom hsz hargs => ?_⟩
  have hx0 : HRel w (x.lent H) [] := by
    refine ⟨fun b hb => ?_, fun id o hl => by simp [look] at hl, fun id t sz g els g' hl => by simp [look] at hl, fun id t sz g els hl => by simp [look] at hl, fun id o b hl => by simp [look] at hl, fun id id' o o' b hl => by simp [look] at hl, fun id o hl => by simp [look] at hl⟩
    rcases hb with h1 | ⟨id, o, h1, h2⟩
    · exact hx.okb b h1
    · exact (hx.liv id o b h1 h2).1
  have dis : ∀ id o, look H' id = some o → Hp.has H id = false := fun id o hl => by
    have := look_all hd hl
    simpa using this
  refine Calls.mono (hc.2 w (x.lent H) vals hx0 (fun id g hd => False.elim hd) (by rw [← ha]; simpa using hsz) (fun i u hu => ?_)) ?_
  · rw [← ha] at hu
    obtain ⟨a, ha', rfl⟩ := map_at hu
    exact (hargs i a ha').lendb1 P hx
  · rintro e w' ⟨v, x', e1, st, e3, e4⟩
    have m := st.mo
    have t := st.tr
    have no : ∀ id g o, x.dom id g → look H' id = some o → False := fun id g o h1 h2 => by
      have h3 := hdom id g h1
      rw [dis id o h2] at h3
      cases h3
    obtain ⟨x2, hx2⟩ : ∃ x2 : Cx, x2 = { ok := x'.ok, dom := fun id g => x'.dom id g ∨ x.dom id g, β := x'.β, γ := x'.γ } := ⟨_, rfl⟩
    have m2 : Mo w' x' H' w' x2 H' := by
      subst hx2
      exact ⟨fun _ h => h, fun _ _ h => .inl h, fun _ _ => rfl, fun _ _ h => ⟨h, rfl⟩, fun _ _ _ _ h => ⟨h, rfl, rfl⟩, fun _ _ h => ⟨h, rfl⟩⟩
    have h2 : HRel w' x2 H' := by
      have h1 := st.h
      subst hx2
      refine ⟨h1.okb, fun id o hl => .inl (h1.dom id o hl), fun id t sz g els g' hl hd => ?_, fun id t sz g els hl => .inl (h1.gdm id t sz g els hl), h1.liv, h1.inj, fun id o hl => (h1.obj id o hl).mono m2 rfl rfl (fun _ _ => rfl)⟩
      rcases hd with hd | hd
      · exact h1.gen id t sz g els g' hl hd
      · exact (no id g' _ hd hl).elim
    refine ⟨v, x2, e1, ⟨?_, ?_, h2⟩, e3.mono m2, fun id g hd => ?_⟩
    · subst hx2
      exact ⟨fun b hb => m.ok b (.inl hb), fun id g hd => .inr hd, fun b hb => m.ag b (.inl hb), fun id hd ⟨_, _, hl⟩ => (no id 0 _ hd hl).elim, fun id g sz hd ⟨_, _, hl⟩ => (no id g _ hd hl).elim, fun id hd ⟨_, _, hl⟩ => (no id 0 _ hd hl).elim⟩
    · subst hx2
      refine ⟨t.os, t.tape, t.output, t.size, fun b hb _ => t.keep b hb (fun id o hl => by simp [look] at hl), fun b hb => ?_, fun id o b h1 h2 => ?_⟩
      · rcases t.okx b hb with h1 | h1 | ⟨id, o, h1, _⟩
        · exact h1.imp (fun h => h) .inr
        · exact .inr (.inl h1)
        · simp [look] at h1
      · rcases t.newb id o b h1 h2 with h3 | ⟨id0, o0, h3, _⟩
        · exact .inl h3
        · simp [look] at h3
    · subst hx2
      rcases hd with hd | hd
      · rcases e4 id g hd with h | h
        · exact .inl h
        · simp [Hp.has, look] at h
      · exact .inr (hdom id g hd)
attribute [push_cast] AV.dull AV.dull1 AV.dull0 AV.lendb0 AV.lendb1 AV.isRaw List.all_cons List.all_nil
open Go Go.RowKit Go.Proofs.Try
noncomputable def p_drydocklaw07_InterpParts_L10 (a0 : T_Fn) (a2 : (A4 UInt32)) (l_2 : (List T_Inst)) (i_3 : Int) : Option (((List T_Inst) × Int) ⊕ ((List T_Inst))) :=
  cond (decide (i_3 < a0.Args)) (
  pg (0 ≤ i_3 ∧ i_3 < 4) <|
  pg ((l_2.length + 1) * 56 ≤ 140737488355328) <|
  pl (l_2 ++ ([(T_Inst.mk 0 0 (IntKind.i64.wrap (i_3 + 1)) 0 false 0 (a2.get i_3.toNat))])) fun y14 =>
  some (Sum.inl (y14, (IntKind.i64.wrap (i_3 + 1))))) (
  some (Sum.inr l_2))
noncomputable def p_drydocklaw07_InterpParts_J23 (i_7 : Bool) : Option (Bool) :=
  some i_7
noncomputable def p_drydocklaw07_InterpParts_J25 (i_8 : Bool) : Option (Bool) :=
  some i_8
noncomputable def p_drydocklaw07_InterpParts_J9 (a0 : T_Fn) (a1 : T_Env) (a2 : (A4 UInt32)) (a3 : UInt32) (l_6 : (List T_Inst)) : Option (Bool) :=
  pg ((l_6.length + 3) * 56 ≤ 140737488355328) <|
  pl (l_6 ++ ([(T_Inst.mk 6 0 0 0 false 0 1), (T_Inst.mk 0 1 0 6 true 0 0), (T_Inst.mk 7 0 0 0 false 0 0)])) fun y16 =>
  pg (0 ≤ 0 ∧ 0 ≤ a0.Args ∧ a0.Args ≤ 4) <|
  po (p_interp_Call (T_Prog.mk ([(T_Fn.mk 0 y16), a0])) 1 a1 200 (List.take a0.Args.toNat [a2.a0, a2.a1, a2.a2, a2.a3])) fun r20 =>
  po (p_interp_Run (T_Prog.mk ([(T_Fn.mk 0 y16), a0])) a1 300) fun r21 =>
  cond (r20.Err != 0) (
  po (
  cond (r21.Err == r20.Err) (
  some true) (
  some (r20.Err == 2))) (fun x => p_drydocklaw07_InterpParts_J23 x)) (
  po (
  cond (r21.Err == 0) (
  cond ((r21.Ret.toNat : Int) == (IntKind.u32.wrap ((r20.Ret.toNat : Int) + (a3.toNat : Int)))) (
  cond (r21.Used == (IntKind.i64.wrap ((IntKind.i64.wrap (r20.Used + a0.Args)) + 4))) (
  po (p_drydockref06_Same r21.E r20.E) fun r29 =>
  some r29) (
  some false)) (
  some false)) (
  some false)) (fun x => p_drydocklaw07_InterpParts_J25 x))
noncomputable def p_drydocklaw07_InterpParts_J2 (a0 : T_Fn) (a1 : T_Env) (a2 : (A4 UInt32)) (a3 : UInt32) (r1 : Bool) (i_1 : Bool) : Option (Bool) :=
  cond i_1 (
  some r1) (
  po (
  lpU (fun x => p_drydocklaw07_InterpParts_L10 a0 a2 x.1 x.2) ([(T_Inst.mk 0 0 6 0 false 0 a3)], 0)) (fun x => p_drydocklaw07_InterpParts_J9 a0 a1 a2 a3 x))
noncomputable def p_drydocklaw07_InterpParts (a0 : T_Fn) (a1 : T_Env) (a2 : (A4 UInt32)) (a3 : UInt32) : Option (Bool) :=
  po (p_drydocklaw07_awake) fun r1 =>
  po (
  cond r1 (
  cond (decide ((a0.Code.length : Int) > 70)) (
  some true) (
  cond (decide (a0.Args < 0)) (
  some true) (
  cond (decide (a0.Args > 4)) (
  some true) (
  po (p_drydockref05_Few a1.T) fun r7 =>
  some (!r7))))) (
  some true)) (fun x => p_drydocklaw07_InterpParts_J2 a0 a1 a2 a3 r1 x)
theorem c_drydocklaw07_InterpParts (a0 : T_Fn) (a1 : T_Env) (a2 : (A4 UInt32)) (a3 : UInt32) {r : Bool} (h : p_drydocklaw07_InterpParts a0 a1 a2 a3 = some r) : Ctr prog 11 [.agg (enc_Fn a0), .agg (enc_Env a1), .agg ((encA4 encU32) a2), .raw (.int .u32 (a3.toNat : Int))] [] (.raw (.bool r)) [] := by
 unfold p_drydocklaw07_InterpParts at h;refine Ctr.ofW tabOk func11 rfl Try.call11 0 _ ntmps11 [.tmp 8] rfl rfl rfl (fun B => ?_);refine VC.seqF tabOkF [some 4,some 5,some 6,some 8] [3,4,5,6] rfl rfl (fun K hK => ?_);push_cast;(repeat refine .intro (by omega) ?_);refine hK _ ?_;clear hK K;obtain ⟨r1,hr1,h⟩ := po_some h;refine VC.seqF tabOkF [some 15,some 9] [3,4,5,6,9] rfl rfl (fun K hK => ?_);push_cast;(repeat refine .intro (by omega) ?_);refine callP (Ctr.lo (c_drydocklaw07_awake  hr1)) rfl ?_;push_cast;(repeat refine .intro (by omega) ?_);refine hK _ ?_;clear hK K;refine VC.seq ?_;obtain ⟨v2,h,hk2⟩ := po_some h;refine VC.seqJ (X := Bool) (fun x => p_drydocklaw07_InterpParts_J2 a0 a1 a2 a3 r1 x = some r) (fun x => ⟨[(3,.raw (.int .u32 (a3.toNat : Int))),(4,.ref 0 0),(5,.ref 1 0),(6,.ref 2 0),(9,.raw (.bool r1)),(39,.raw (.bool x))],[(0,.box 74 [.raw (.int .i64 a0.Args),.sl false (a0.Code.map enc_Inst)]),(1,.box 49 [.raw (.int .u32 (a1.Ctx.a0.toNat : Int)),.raw (.int .u32 (a1.Ctx.a1.toNat : Int)),.raw (.int .u32 (a1.Ctx.a2.toNat : Int)),.raw (.int .u32 (a1.Ctx.a3.toNat : Int)),.sl false (a1.T.map enc_Table),.raw (.int .u32 (a1.Seed.toNat : Int))]),(2,.box 47 [.raw (.int .u32 (a2.a0.toNat : Int)),.raw (.int .u32 (a2.a1.toNat : Int)),.raw (.int .u32 (a2.a2.toNat : Int)),.raw (.int .u32 (a2.a3.toNat : Int))])],30,122,0⟩) ?_ ?_
 ·rcases Bool.eq_false_or_eq_true r1 with hb3 | hb3
  ·replace h := cond_yes hb3 h;rcases Bool.eq_false_or_eq_true (decide ((a0.Code.length : Int) > 70)) with hb4 | hb4
   ·replace h := cond_yes hb4 h;refine VC.lastF tabOkF [some 16,some 17,some 18,some 19,some 20,some 21,some 22,some 23,some 24,some 25,some 26,some 27,some 28,some 29,some 30,some 31,some 32,some 33,some 34,some 35,some 36,some 37,some 38,some 39] rfl rfl (fun K hK => ?_);refine runOps_cut 8 (fun K2 hK2 => ?_);push_cast [hb3,hb4];(repeat refine .intro (by omega) ?_);refine hK2 _ _ ?_;clear hK2 K2;simp only [List.drop_succ_cons,List.drop_zero];refine runOps_cut 8 (fun K2 hK2 => ?_);push_cast [hb3,hb4];(repeat refine .intro (by omega) ?_);refine hK2 _ _ ?_;clear hK2 K2;simp only [List.drop_succ_cons,List.drop_zero];push_cast [hb3,hb4];(repeat refine .intro (by omega) ?_);refine hK _ ?_;clear hK K;have hv := Option.some.inj h;rw [← hv] at hk2;refine Exists.intro (true) (And.intro hk2 ?_);refine slo ?_ ?_ rfl rfl
    ·push_cast [hb3,hb4]
    ·push_cast [hb3,hb4]
   ·replace h := cond_no hb4 h;rcases Bool.eq_false_or_eq_true (decide (a0.Args < 0)) with hb5 | hb5
    ·replace h := cond_yes hb5 h;refine VC.lastF tabOkF [some 16,some 17,some 18,some 19,some 20,some 21,some 22,some 23,some 24,some 25,some 26,some 27,some 28,some 29,some 30,some 31,some 32,some 33,some 34,some 35,some 36,some 37,some 38,some 39] rfl rfl (fun K hK => ?_);refine runOps_cut 8 (fun K2 hK2 => ?_);push_cast [hb3,hb4,hb5];(repeat refine .intro (by omega) ?_);refine hK2 _ _ ?_;clear hK2 K2;simp only [List.drop_succ_cons,List.drop_zero];refine runOps_cut 8 (fun K2 hK2 => ?_);push_cast [hb3,hb4,hb5];(repeat refine .intro (by omega) ?_);refine hK2 _ _ ?_;clear hK2 K2;simp only [List.drop_succ_cons,List.drop_zero];push_cast [hb3,hb4,hb5];(repeat refine .intro (by omega) ?_);refine hK _ ?_;clear hK K;have hv := Option.some.inj h;rw [← hv] at hk2;refine Exists.intro (true) (And.intro hk2 ?_);refine slo ?_ ?_ rfl rfl
     ·push_cast [hb3,hb4,hb5]
     ·push_cast [hb3,hb4,hb5]
    ·replace h := cond_no hb5 h;rcases Bool.eq_false_or_eq_true (decide (a0.Args > 4)) with hb6 | hb6
     ·replace h := cond_yes hb6 h;refine VC.lastF tabOkF [some 16,some 17,some 18,some 19,some 20,some 21,some 22,some 23,some 24,some 25,some 26,some 27,some 28,some 29,some 30,some 31,some 32,some 33,some 34,some 35,some 36,some 37,some 38,some 39] rfl rfl (fun K hK => ?_);refine runOps_cut 8 (fun K2 hK2 => ?_);push_cast [hb3,hb4,hb5,hb6];(repeat refine .intro (by omega) ?_);refine hK2 _ _ ?_;clear hK2 K2;simp only [List.drop_succ_cons,List.drop_zero];refine runOps_cut 8 (fun K2 hK2 => ?_);push_cast [hb3,hb4,hb5,hb6];(repeat refine .intro (by omega) ?_);refine hK2 _ _ ?_;clear hK2 K2;simp only [List.drop_succ_cons,List.drop_zero];push_cast [hb3,hb4,hb5,hb6];(repeat refine .intro (by omega) ?_);refine hK _ ?_;clear hK K;have hv := Option.some.inj h;rw [← hv] at hk2;refine Exists.intro (true) (And.intro hk2 ?_);refine slo ?_ ?_ rfl rfl
      ·push_cast [hb3,hb4,hb5,hb6]
      ·push_cast [hb3,hb4,hb5,hb6]
     ·replace h := cond_no hb6 h;obtain ⟨r7,hr7,h⟩ := po_some h;refine VC.lastF tabOkF [some 16,some 17,some 18,some 19,some 20,some 21,some 22,some 23,some 24,some 25,some 26,some 27,some 28,some 29,some 30,some 31,some 32,some 33,some 34,some 35,some 36,some 37,some 38,some 39] rfl rfl (fun K hK => ?_);refine runOps_cut 8 (fun K2 hK2 => ?_);push_cast [hb3,hb4,hb5,hb6];(repeat refine .intro (by omega) ?_);refine hK2 _ _ ?_;clear hK2 K2;simp only [List.drop_succ_cons,List.drop_zero];refine runOps_cut 8 (fun K2 hK2 => ?_);push_cast [hb3,hb4,hb5,hb6];(repeat refine .intro (by omega) ?_);refine hK2 _ _ ?_;clear hK2 K2;simp only [List.drop_succ_cons,List.drop_zero];push_cast [hb3,hb4,hb5,hb6];(repeat refine .intro (by omega) ?_);refine callP (Ctr.lo (c_drydockref05_Few a1.T hr7)) rfl ?_;push_cast [hb3,hb4,hb5,hb6];(repeat refine .intro (by omega) ?_);refine hK _ ?_;clear hK K;have hv := Option.some.inj h;rw [← hv] at hk2;refine Exists.intro ((!r7)) (And.intro hk2 ?_);refine slo ?_ ?_ rfl rfl
      ·push_cast [hb3,hb4,hb5,hb6]
      ·push_cast [hb3,hb4,hb5,hb6]
  ·replace h := cond_no hb3 h;refine VC.lastF tabOkF [some 16,some 17,some 18,some 19,some 20,some 21,some 22,some 23,some 24,some 25,some 26,some 27,some 28,some 29,some 30,some 31,some 32,some 33,some 34,some 35,some 36,some 37,some 38,some 39] rfl rfl (fun K hK => ?_);refine runOps_cut 8 (fun K2 hK2 => ?_);push_cast [hb3];(repeat refine .intro (by omega) ?_);refine hK2 _ _ ?_;clear hK2 K2;simp only [List.drop_succ_cons,List.drop_zero];refine runOps_cut 8 (fun K2 hK2 => ?_);push_cast [hb3];(repeat refine .intro (by omega) ?_);refine hK2 _ _ ?_;clear hK2 K2;simp only [List.drop_succ_cons,List.drop_zero];push_cast [hb3];(repeat refine .intro (by omega) ?_);refine hK _ ?_;clear hK K;have hv := Option.some.inj h;rw [← hv] at hk2;refine Exists.intro (true) (And.intro hk2 ?_);refine slo ?_ ?_ rfl rfl
   ·push_cast [hb3]
   ·push_cast [hb3]
 ·rintro i_1 h;replace h : p_drydocklaw07_InterpParts_J2 a0 a1 a2 a3 r1 i_1 = some r := h;(try push_cast);unfold p_drydocklaw07_InterpParts_J2 at h;refine VC.cond rfl rfl (fun hc8 => ?_) (fun hc8 => ?_)
  ·have hb8 : i_1 = true := by simpa using hc8
   replace h := cond_yes hb8 h;refine VC.seqF tabOkF [some 40,some 8] [8] rfl rfl (fun K hK => ?_);push_cast [hb8];(repeat refine .intro (by omega) ?_);refine hK _ ?_;clear hK K;refine VC.ret ?_;have hr := Option.some.inj h;subst hr;refine endP (Sub.lo _) (Post.ret ?_ ?_ ?_)
   ·push_cast [hb8]
   ·push_cast [hb8]
   ·rfl
  ·have hb8 : i_1 = false := by simpa using hc8
   replace h := cond_no hb8 h;refine VC.skip ?_;refine VC.seqF tabOkF [some 41,some 42,some 43,some 10] [3,4,5,6,10] rfl rfl (fun K hK => ?_);push_cast [hb8];(repeat refine .intro (by omega) ?_);refine hK _ ?_;clear hK K;refine VC.sub (s' := ⟨[(3,.raw (.int .u32 (a3.toNat : Int))),(4,.ref 0 0),(5,.ref 1 0),(6,.ref 2 0),(10,.row 32 0 7 0 1)],[(0,.box 74 [.raw (.int .i64 a0.Args),.sl false (a0.Code.map enc_Inst)]),(1,.box 49 [.raw (.int .u32 (a1.Ctx.a0.toNat : Int)),.raw (.int .u32 (a1.Ctx.a1.toNat : Int)),.raw (.int .u32 (a1.Ctx.a2.toNat : Int)),.raw (.int .u32 (a1.Ctx.a3.toNat : Int)),.sl false (a1.T.map enc_Table),.raw (.int .u32 (a1.Seed.toNat : Int))]),(2,.box 47 [.raw (.int .u32 (a2.a0.toNat : Int)),.raw (.int .u32 (a2.a1.toNat : Int)),.raw (.int .u32 (a2.a2.toNat : Int)),.raw (.int .u32 (a2.a3.toNat : Int))]),(32,.row 76 7 0 (([(T_Inst.mk 0 0 6 0 false 0 a3)]).map enc_Inst))],34,122,0⟩) (sof ?_ ?_ rfl rfl) ?_
   ·push_cast [hb8]
   ·push_cast [hb8]
   obtain ⟨v9,h,hk9⟩ := po_some h;refine VC.seqJ (X := (List T_Inst)) (fun x => p_drydocklaw07_InterpParts_J9 a0 a1 a2 a3 x = some r) (fun x => ⟨[(3,.raw (.int .u32 (a3.toNat : Int))),(4,.ref 0 0),(5,.ref 1 0),(6,.ref 2 0),(10,.row 32 0 7 0 x.length)],[(0,.box 74 [.raw (.int .i64 a0.Args),.sl false (a0.Code.map enc_Inst)]),(1,.box 49 [.raw (.int .u32 (a1.Ctx.a0.toNat : Int)),.raw (.int .u32 (a1.Ctx.a1.toNat : Int)),.raw (.int .u32 (a1.Ctx.a2.toNat : Int)),.raw (.int .u32 (a1.Ctx.a3.toNat : Int)),.sl false (a1.T.map enc_Table),.raw (.int .u32 (a1.Seed.toNat : Int))]),(2,.box 47 [.raw (.int .u32 (a2.a0.toNat : Int)),.raw (.int .u32 (a2.a1.toNat : Int)),.raw (.int .u32 (a2.a2.toNat : Int)),.raw (.int .u32 (a2.a3.toNat : Int))]),(32,.row 76 7 0 (x.map enc_Inst))],56,122,0⟩) ?_ ?_
   ·refine VC.seqF tabOkF [some 11] [3,4,5,6,10,11] rfl rfl (fun K hK => ?_);push_cast [hb8];(repeat refine .intro (by omega) ?_);refine hK _ ?_;clear hK K;refine VC.block ?_;refine VC.loopP h (fun x => ⟨[(3,.raw (.int .u32 (a3.toNat : Int))),(4,.ref 0 0),(5,.ref 1 0),(6,.ref 2 0),(10,.row 32 0 7 0 x.1.length),(11,.raw (.int .i64 x.2))],[(0,.box 74 [.raw (.int .i64 a0.Args),.sl false (a0.Code.map enc_Inst)]),(1,.box 49 [.raw (.int .u32 (a1.Ctx.a0.toNat : Int)),.raw (.int .u32 (a1.Ctx.a1.toNat : Int)),.raw (.int .u32 (a1.Ctx.a2.toNat : Int)),.raw (.int .u32 (a1.Ctx.a3.toNat : Int)),.sl false (a1.T.map enc_Table),.raw (.int .u32 (a1.Seed.toNat : Int))]),(2,.box 47 [.raw (.int .u32 (a2.a0.toNat : Int)),.raw (.int .u32 (a2.a1.toNat : Int)),.raw (.int .u32 (a2.a2.toNat : Int)),.raw (.int .u32 (a2.a3.toNat : Int))]),(32,.row 76 7 0 (x.1.map enc_Inst))],52,122,0⟩) ?_ ?_
    ·refine slo ?_ ?_ rfl rfl
     ·push_cast [hb8]
     ·push_cast [hb8]
    rintro ⟨l_2,i_3⟩ b10 h hf10;replace h : p_drydocklaw07_InterpParts_L10 a0 a2 l_2 i_3 = some b10 := h;(try push_cast);unfold p_drydocklaw07_InterpParts_L10 at h;refine VC.seq ?_;refine VC.seqF tabOkF [some 44,some 45,some 46,some 47] [3,4,5,6,10,11,47] rfl rfl (fun K hK => ?_);push_cast [hb8];(repeat refine .intro (by omega) ?_);refine hK _ ?_;clear hK K;refine VC.cond rfl rfl (fun hc11 => ?_) (fun hc11 => ?_)
    ·have hb11 : (decide (i_3 < a0.Args)) = true := by simpa using hc11
     replace h := cond_yes hb11 h;refine VC.skip ?_;refine VC.seq ?_;refine VC.block ?_;obtain ⟨hg12,h⟩ := pg_some h;have hg12n : i_3.toNat < 4 := by omega
     obtain ⟨hg13,h⟩ := pg_some h;obtain ⟨y14,hy14,h⟩ := pl_some h;refine VC.lastF tabOkF [some 50,some 51,some 52,some 53,some 54,some 55,some 56,some 57,some 58,some 10] rfl rfl (fun K hK => ?_);push_cast [hb8,hb11,hg12,hg12n,hg13];(repeat refine .intro (by omega) ?_);refine hK _ ?_;clear hK K;refine VC.lastF tabOkF [some 48,some 49,some 11] rfl rfl (fun K hK => ?_);push_cast [hb8,hb11,hg12,hg12n,hg13];(repeat refine .intro (by omega) ?_);refine hK _ ?_;clear hK K;refine Exists.intro ((y14,(IntKind.i64.wrap (i_3 + 1)))) (And.intro (Option.some.inj h).symm ?_);refine Sub.trans (Sub.of (s' := ⟨[(3,.raw (.int .u32 (a3.toNat : Int))),(4,.ref 0 0),(5,.ref 1 0),(6,.ref 2 0),(10,.row 32 1 7 0 y14.length),(11,.raw (.int .i64 (IntKind.i64.wrap (i_3 + 1))))],[(0,.box 74 [.raw (.int .i64 a0.Args),.sl false (a0.Code.map enc_Inst)]),(1,.box 49 [.raw (.int .u32 (a1.Ctx.a0.toNat : Int)),.raw (.int .u32 (a1.Ctx.a1.toNat : Int)),.raw (.int .u32 (a1.Ctx.a2.toNat : Int)),.raw (.int .u32 (a1.Ctx.a3.toNat : Int)),.sl false (a1.T.map enc_Table),.raw (.int .u32 (a1.Seed.toNat : Int))]),(2,.box 47 [.raw (.int .u32 (a2.a0.toNat : Int)),.raw (.int .u32 (a2.a1.toNat : Int)),.raw (.int .u32 (a2.a2.toNat : Int)),.raw (.int .u32 (a2.a3.toNat : Int))]),(32,.row 76 7 1 (y14.map enc_Inst))],69,122,0⟩) (by push_cast [hb8,hb11,hy14]) (by push_cast [hb8,hb11,hy14]) ⟨rfl,rfl,Nat.le_of_ble_eq_true rfl⟩ rfl) ?_;refine Sub.trans (Sub.renT (k := 10) (i' := 32) rfl rfl (Nat.le_of_ble_eq_true rfl) (Nat.le_of_ble_eq_true rfl) rfl) ?_;refine slo ?_ ?_ rfl rfl
     ·push_cast [hb8,hb11,hy14]
     ·push_cast [hb8,hb11,hy14]
    ·have hb11 : (decide (i_3 < a0.Args)) = false := by simpa using hc11
     replace h := cond_no hb11 h;refine VC.exit ?_;replace h := congrArg some (hf10 _ (Option.some.inj h).symm);have hv := Option.some.inj h;rw [← hv] at hk9;refine Exists.intro (l_2) (And.intro hk9 ?_);refine slo ?_ ?_ rfl rfl
     ·push_cast [hb8,hb11]
     ·push_cast [hb8,hb11]
   ·rintro l_6 h;replace h : p_drydocklaw07_InterpParts_J9 a0 a1 a2 a3 l_6 = some r := h;(try push_cast);unfold p_drydocklaw07_InterpParts_J9 at h;obtain ⟨hg15,h⟩ := pg_some h;obtain ⟨y16,hy16,h⟩ := pl_some h;refine VC.seqF tabOkF [some 59,some 60,some 61,some 62,some 63,some 64,some 10] [3,4,5,6,10] rfl rfl (fun K hK => ?_);push_cast [hb8,hg15];(repeat refine .intro (by omega) ?_);refine hK _ ?_;clear hK K;refine VC.sub (s' := ⟨[(3,.raw (.int .u32 (a3.toNat : Int))),(4,.ref 0 0),(5,.ref 1 0),(6,.ref 2 0),(10,.row 32 1 7 0 y16.length)],[(0,.box 74 [.raw (.int .i64 a0.Args),.sl false (a0.Code.map enc_Inst)]),(1,.box 49 [.raw (.int .u32 (a1.Ctx.a0.toNat : Int)),.raw (.int .u32 (a1.Ctx.a1.toNat : Int)),.raw (.int .u32 (a1.Ctx.a2.toNat : Int)),.raw (.int .u32 (a1.Ctx.a3.toNat : Int)),.sl false (a1.T.map enc_Table),.raw (.int .u32 (a1.Seed.toNat : Int))]),(2,.box 47 [.raw (.int .u32 (a2.a0.toNat : Int)),.raw (.int .u32 (a2.a1.toNat : Int)),.raw (.int .u32 (a2.a2.toNat : Int)),.raw (.int .u32 (a2.a3.toNat : Int))]),(32,.row 76 7 1 (y16.map enc_Inst))],63,122,0⟩) (sof ?_ ?_ rfl rfl) ?_
    ·push_cast [hb8,hy16]
    ·push_cast [hb8,hy16]
    refine VC.seqF tabOkF [some 65,some 66,some 67,some 68,some 69,some 12,none] [3,4,5,6,12] rfl rfl (fun K hK => ?_);push_cast [hb8,hg15];(repeat refine .intro (by omega) ?_);refine hK _ ?_;clear hK K;refine VC.sub (s' := ⟨[(3,.raw (.int .u32 (a3.toNat : Int))),(4,.ref 0 0),(5,.ref 1 0),(6,.ref 2 0),(12,.ref 68 0)],[(0,.box 74 [.raw (.int .i64 a0.Args),.sl false (a0.Code.map enc_Inst)]),(1,.box 49 [.raw (.int .u32 (a1.Ctx.a0.toNat : Int)),.raw (.int .u32 (a1.Ctx.a1.toNat : Int)),.raw (.int .u32 (a1.Ctx.a2.toNat : Int)),.raw (.int .u32 (a1.Ctx.a3.toNat : Int)),.sl false (a1.T.map enc_Table),.raw (.int .u32 (a1.Seed.toNat : Int))]),(2,.box 47 [.raw (.int .u32 (a2.a0.toNat : Int)),.raw (.int .u32 (a2.a1.toNat : Int)),.raw (.int .u32 (a2.a2.toNat : Int)),.raw (.int .u32 (a2.a3.toNat : Int))]),(66,.row 74 2 0 (([(T_Fn.mk 0 y16),a0]).map enc_Fn)),(68,.box 64 [.row 66 0 2 0 2])],70,122,0⟩) (sof ?_ ?_ rfl rfl) ?_
    ·push_cast [hb8,hy16]
    ·push_cast [hb8,hy16]
    refine VC.sub (Sub.freeze prog (b := 68) (j := 0) rfl rfl rfl (by push_cast [hb8,hy16] <;> omega) (by decide)) ?_;refine VC.sub (s' := ⟨[(3,.raw (.int .u32 (a3.toNat : Int))),(4,.ref 0 0),(5,.ref 1 0),(6,.ref 2 0),(12,.ref 68 0)],[(0,.box 74 [.raw (.int .i64 a0.Args),.sl false (a0.Code.map enc_Inst)]),(1,.box 49 [.raw (.int .u32 (a1.Ctx.a0.toNat : Int)),.raw (.int .u32 (a1.Ctx.a1.toNat : Int)),.raw (.int .u32 (a1.Ctx.a2.toNat : Int)),.raw (.int .u32 (a1.Ctx.a3.toNat : Int)),.sl false (a1.T.map enc_Table),.raw (.int .u32 (a1.Seed.toNat : Int))]),(2,.box 47 [.raw (.int .u32 (a2.a0.toNat : Int)),.raw (.int .u32 (a2.a1.toNat : Int)),.raw (.int .u32 (a2.a2.toNat : Int)),.raw (.int .u32 (a2.a3.toNat : Int))]),(68,.box 64 [.sl false (([(T_Fn.mk 0 y16),a0]).map enc_Fn)])],70,122,0⟩) (sof ?_ ?_ rfl rfl) ?_
    ·push_cast [hb8,hy16]
    ·push_cast [hb8,hy16]
    obtain ⟨hg19,h⟩ := pg_some h;have hg19n : a0.Args.toNat ≤ 4 := by omega
    obtain ⟨r20,hr20,h⟩ := po_some h;refine VC.seqFD tabOkF hmixO [some 70,some 71,some 72,some 73,some 74,some 75,some 13,none] [3,4,5,12,13] rfl rfl rfl (fun K hK => ?_);push_cast [hb8,hg15,hg19,hg19n];(repeat refine .intro (by omega) ?_);refine callHD (H := [(2,.box 47 [.raw (.int .u32 (a2.a0.toNat : Int)),.raw (.int .u32 (a2.a1.toNat : Int)),.raw (.int .u32 (a2.a2.toNat : Int)),.raw (.int .u32 (a2.a3.toNat : Int))])]) (Ctr.consumeB (args0 := [.agg [.sl false (([(T_Fn.mk 0 y16),a0]).map enc_Fn)],.raw (.int .i64 1),.agg [.raw (.int .u32 (a1.Ctx.a0.toNat : Int)),.raw (.int .u32 (a1.Ctx.a1.toNat : Int)),.raw (.int .u32 (a1.Ctx.a2.toNat : Int)),.raw (.int .u32 (a1.Ctx.a3.toNat : Int)),.sl false (a1.T.map enc_Table),.raw (.int .u32 (a1.Seed.toNat : Int))],.raw (.int .i64 200),.sl false ((List.take a0.Args.toNat [a2.a0,a2.a1,a2.a2,a2.a3]).map encU32)]) (c_interp_Call (T_Prog.mk ([(T_Fn.mk 0 y16),a0])) 1 a1 200 (List.take a0.Args.toNat [a2.a0,a2.a1,a2.a2,a2.a3]) hr20) (by push_cast [hb8,hg15,hg19,hg19n]) rfl) (by push_cast [hb8,hg15,hg19,hg19n]) rfl rfl rfl ?_;push_cast [hb8,hg15,hg19,hg19n];(repeat refine .intro (by omega) ?_);refine ⟨rfl,hK _ ?_⟩;clear hK K;refine VC.sub (s' := ⟨[(3,.raw (.int .u32 (a3.toNat : Int))),(4,.ref 0 0),(5,.ref 1 0),(12,.ref 68 0),(13,.ref 76 0)],[(0,.box 74 [.raw (.int .i64 a0.Args),.sl false (a0.Code.map enc_Inst)]),(1,.box 49 [.raw (.int .u32 (a1.Ctx.a0.toNat : Int)),.raw (.int .u32 (a1.Ctx.a1.toNat : Int)),.raw (.int .u32 (a1.Ctx.a2.toNat : Int)),.raw (.int .u32 (a1.Ctx.a3.toNat : Int)),.sl false (a1.T.map enc_Table),.raw (.int .u32 (a1.Seed.toNat : Int))]),(68,.box 64 [.sl false (([(T_Fn.mk 0 y16),a0]).map enc_Fn)]),(76,.box 67 [.raw (.int .u32 (r20.Ret.toNat : Int)),.raw (.int .u32 (r20.E.Ctx.a0.toNat : Int)),.raw (.int .u32 (r20.E.Ctx.a1.toNat : Int)),.raw (.int .u32 (r20.E.Ctx.a2.toNat : Int)),.raw (.int .u32 (r20.E.Ctx.a3.toNat : Int)),.sl false (r20.E.T.map enc_Table),.raw (.int .u32 (r20.E.Seed.toNat : Int)),.raw (.int .i64 r20.Used),.raw (.int .i64 r20.Err)])],78,122,0⟩) (sof ?_ ?_ rfl rfl) ?_
    ·push_cast [hb8,hy16]
    ·push_cast [hb8,hy16]
    obtain ⟨r21,hr21,h⟩ := po_some h;refine VC.seqF tabOkF [some 76,some 77,some 78,some 14,none] [3,4,13,14] rfl rfl (fun K hK => ?_);push_cast [hb8,hg15,hg19,hg19n];(repeat refine .intro (by omega) ?_);refine callP (Ctr.lo (c_interp_Run (T_Prog.mk ([(T_Fn.mk 0 y16),a0])) a1 300 hr21)) rfl ?_;push_cast [hb8,hg15,hg19,hg19n];(repeat refine .intro (by omega) ?_);refine hK _ ?_;clear hK K;refine VC.seq ?_;refine VC.seqF tabOkF [some 79,some 80,some 81] [3,4,13,14,81] rfl rfl (fun K hK => ?_);push_cast [hb8,hg15,hg19,hg19n];(repeat refine .intro (by omega) ?_);refine hK _ ?_;clear hK K;refine VC.cond rfl rfl (fun hc22 => ?_) (fun hc22 => ?_)
    ·have hb22 : (r20.Err != 0) = true := by simpa using hc22
     replace h := cond_yes hb22 h;obtain ⟨v23,h,hk23⟩ := po_some h;refine VC.seqJ (X := Bool) (fun x => p_drydocklaw07_InterpParts_J23 x = some r) (fun x => ⟨[(8,.raw (.bool x))],[],97,122,0⟩) ?_ ?_
     ·rcases Bool.eq_false_or_eq_true (r21.Err == r20.Err) with hb24 | hb24
      ·replace h := cond_yes hb24 h;refine VC.lastF tabOkF [some 82,some 83,some 84,some 85,some 86,some 87,some 88,some 89,some 90,some 91,some 8] rfl rfl (fun K hK => ?_);refine runOps_cut 8 (fun K2 hK2 => ?_);push_cast [hb8,hg15,hg19,hg19n,hb22,hb24];(repeat refine .intro (by omega) ?_);refine hK2 _ _ ?_;clear hK2 K2;simp only [List.drop_succ_cons,List.drop_zero];push_cast [hb8,hg15,hg19,hg19n,hb22,hb24];(repeat refine .intro (by omega) ?_);refine hK _ ?_;clear hK K;have hv := Option.some.inj h;rw [← hv] at hk23;refine Exists.intro (true) (And.intro hk23 ?_);refine slo ?_ ?_ rfl rfl
       ·push_cast [hb8,hy16,hb22,hb24]
       ·push_cast [hb8,hy16,hb22,hb24]
      ·replace h := cond_no hb24 h;refine VC.lastF tabOkF [some 82,some 83,some 84,some 85,some 86,some 87,some 88,some 89,some 90,some 91,some 8] rfl rfl (fun K hK => ?_);refine runOps_cut 8 (fun K2 hK2 => ?_);push_cast [hb8,hg15,hg19,hg19n,hb22,hb24];(repeat refine .intro (by omega) ?_);refine hK2 _ _ ?_;clear hK2 K2;simp only [List.drop_succ_cons,List.drop_zero];push_cast [hb8,hg15,hg19,hg19n,hb22,hb24];(repeat refine .intro (by omega) ?_);refine hK _ ?_;clear hK K;have hv := Option.some.inj h;rw [← hv] at hk23;refine Exists.intro ((r20.Err == 2)) (And.intro hk23 ?_);refine slo ?_ ?_ rfl rfl
       ·push_cast [hb8,hy16,hb22,hb24]
       ·push_cast [hb8,hy16,hb22,hb24]
     ·rintro i_7 h;replace h : p_drydocklaw07_InterpParts_J23 i_7 = some r := h;(try push_cast);unfold p_drydocklaw07_InterpParts_J23 at h;refine VC.ret ?_;have hr := Option.some.inj h;subst hr;refine endP (Sub.lo _) (Post.ret ?_ ?_ ?_)
      ·push_cast [hb8,hy16,hb22]
      ·push_cast [hb8,hy16,hb22]
      ·rfl
    ·have hb22 : (r20.Err != 0) = false := by simpa using hc22
     replace h := cond_no hb22 h;refine VC.skip ?_;obtain ⟨v25,h,hk25⟩ := po_some h;refine VC.seqJ (X := Bool) (fun x => p_drydocklaw07_InterpParts_J25 x = some r) (fun x => ⟨[(8,.raw (.bool x))],[],117,122,0⟩) ?_ ?_
     ·rcases Bool.eq_false_or_eq_true (r21.Err == 0) with hb26 | hb26
      ·replace h := cond_yes hb26 h;rcases Bool.eq_false_or_eq_true ((r21.Ret.toNat : Int) == (IntKind.u32.wrap ((r20.Ret.toNat : Int) + (a3.toNat : Int)))) with hb27 | hb27
       ·replace h := cond_yes hb27 h;rcases Bool.eq_false_or_eq_true (r21.Used == (IntKind.i64.wrap ((IntKind.i64.wrap (r20.Used + a0.Args)) + 4))) with hb28 | hb28
        ·replace h := cond_yes hb28 h;obtain ⟨r29,hr29,h⟩ := po_some h;refine VC.lastF tabOkF [some 92,some 93,some 94,some 95,some 96,some 97,some 98,some 99,some 100,some 101,some 102,some 103,some 104,some 105,some 106,some 107,some 108,some 109,some 110,some 111,some 112,some 113,some 114,some 115,some 116,some 117,some 118,some 119,some 120,some 121,some 8] rfl rfl (fun K hK => ?_);refine runOps_cut 8 (fun K2 hK2 => ?_);push_cast [hb8,hg15,hg19,hg19n,hb22,hb26,hb27,hb28];(repeat refine .intro (by omega) ?_);refine hK2 _ _ ?_;clear hK2 K2;simp only [List.drop_succ_cons,List.drop_zero];refine runOps_cut 8 (fun K2 hK2 => ?_);push_cast [hb8,hg15,hg19,hg19n,hb22,hb26,hb27,hb28];(repeat refine .intro (by omega) ?_);refine hK2 _ _ ?_;clear hK2 K2;simp only [List.drop_succ_cons,List.drop_zero];refine runOps_cut 8 (fun K2 hK2 => ?_);push_cast [hb8,hg15,hg19,hg19n,hb22,hb26,hb27,hb28];(repeat refine .intro (by omega) ?_);refine hK2 _ _ ?_;clear hK2 K2;simp only [List.drop_succ_cons,List.drop_zero];push_cast [hb8,hg15,hg19,hg19n,hb22,hb26,hb27,hb28];(repeat refine .intro (by omega) ?_);refine callP (Ctr.lo (c_drydockref06_Same r21.E r20.E hr29)) rfl ?_;push_cast [hb8,hg15,hg19,hg19n,hb22,hb26,hb27,hb28];(repeat refine .intro (by omega) ?_);refine hK _ ?_;clear hK K;have hv := Option.some.inj h;rw [← hv] at hk25;refine Exists.intro (r29) (And.intro hk25 ?_);refine slo ?_ ?_ rfl rfl
         ·push_cast [hb8,hy16,hb22,hb26,hb27,hb28]
         ·push_cast [hb8,hy16,hb22,hb26,hb27,hb28]
        ·replace h := cond_no hb28 h;refine VC.lastF tabOkF [some 92,some 93,some 94,some 95,some 96,some 97,some 98,some 99,some 100,some 101,some 102,some 103,some 104,some 105,some 106,some 107,some 108,some 109,some 110,some 111,some 112,some 113,some 114,some 115,some 116,some 117,some 118,some 119,some 120,some 121,some 8] rfl rfl (fun K hK => ?_);refine runOps_cut 8 (fun K2 hK2 => ?_);push_cast [hb8,hg15,hg19,hg19n,hb22,hb26,hb27,hb28];(repeat refine .intro (by omega) ?_);refine hK2 _ _ ?_;clear hK2 K2;simp only [List.drop_succ_cons,List.drop_zero];refine runOps_cut 8 (fun K2 hK2 => ?_);push_cast [hb8,hg15,hg19,hg19n,hb22,hb26,hb27,hb28];(repeat refine .intro (by omega) ?_);refine hK2 _ _ ?_;clear hK2 K2;simp only [List.drop_succ_cons,List.drop_zero];refine runOps_cut 8 (fun K2 hK2 => ?_);push_cast [hb8,hg15,hg19,hg19n,hb22,hb26,hb27,hb28];(repeat refine .intro (by omega) ?_);refine hK2 _ _ ?_;clear hK2 K2;simp only [List.drop_succ_cons,List.drop_zero];push_cast [hb8,hg15,hg19,hg19n,hb22,hb26,hb27,hb28];(repeat refine .intro (by omega) ?_);refine hK _ ?_;clear hK K;have hv := Option.some.inj h;rw [← hv] at hk25;refine Exists.intro (false) (And.intro hk25 ?_);refine slo ?_ ?_ rfl rfl
         ·push_cast [hb8,hy16,hb22,hb26,hb27,hb28]
         ·push_cast [hb8,hy16,hb22,hb26,hb27,hb28]
       ·replace h := cond_no hb27 h;refine VC.lastF tabOkF [some 92,some 93,some 94,some 95,some 96,some 97,some 98,some 99,some 100,some 101,some 102,some 103,some 104,some 105,some 106,some 107,some 108,some 109,some 110,some 111,some 112,some 113,some 114,some 115,some 116,some 117,some 118,some 119,some 120,some 121,some 8] rfl rfl (fun K hK => ?_);refine runOps_cut 8 (fun K2 hK2 => ?_);push_cast [hb8,hg15,hg19,hg19n,hb22,hb26,hb27];(repeat refine .intro (by omega) ?_);refine hK2 _ _ ?_;clear hK2 K2;simp only [List.drop_succ_cons,List.drop_zero];refine runOps_cut 8 (fun K2 hK2 => ?_);push_cast [hb8,hg15,hg19,hg19n,hb22,hb26,hb27];(repeat refine .intro (by omega) ?_);refine hK2 _ _ ?_;clear hK2 K2;simp only [List.drop_succ_cons,List.drop_zero];refine runOps_cut 8 (fun K2 hK2 => ?_);push_cast [hb8,hg15,hg19,hg19n,hb22,hb26,hb27];(repeat refine .intro (by omega) ?_);refine hK2 _ _ ?_;clear hK2 K2;simp only [List.drop_succ_cons,List.drop_zero];push_cast [hb8,hg15,hg19,hg19n,hb22,hb26,hb27];(repeat refine .intro (by omega) ?_);refine hK _ ?_;clear hK K;have hv := Option.some.inj h;rw [← hv] at hk25;refine Exists.intro (false) (And.intro hk25 ?_);refine slo ?_ ?_ rfl rfl
        ·push_cast [hb8,hy16,hb22,hb26,hb27]
        ·push_cast [hb8,hy16,hb22,hb26,hb27]
      ·replace h := cond_no hb26 h;refine VC.lastF tabOkF [some 92,some 93,some 94,some 95,some 96,some 97,some 98,some 99,some 100,some 101,some 102,some 103,some 104,some 105,some 106,some 107,some 108,some 109,some 110,some 111,some 112,some 113,some 114,some 115,some 116,some 117,some 118,some 119,some 120,some 121,some 8] rfl rfl (fun K hK => ?_);refine runOps_cut 8 (fun K2 hK2 => ?_);push_cast [hb8,hg15,hg19,hg19n,hb22,hb26];(repeat refine .intro (by omega) ?_);refine hK2 _ _ ?_;clear hK2 K2;simp only [List.drop_succ_cons,List.drop_zero];refine runOps_cut 8 (fun K2 hK2 => ?_);push_cast [hb8,hg15,hg19,hg19n,hb22,hb26];(repeat refine .intro (by omega) ?_);refine hK2 _ _ ?_;clear hK2 K2;simp only [List.drop_succ_cons,List.drop_zero];refine runOps_cut 8 (fun K2 hK2 => ?_);push_cast [hb8,hg15,hg19,hg19n,hb22,hb26];(repeat refine .intro (by omega) ?_);refine hK2 _ _ ?_;clear hK2 K2;simp only [List.drop_succ_cons,List.drop_zero];push_cast [hb8,hg15,hg19,hg19n,hb22,hb26];(repeat refine .intro (by omega) ?_);refine hK _ ?_;clear hK K;have hv := Option.some.inj h;rw [← hv] at hk25;refine Exists.intro (false) (And.intro hk25 ?_);refine slo ?_ ?_ rfl rfl
       ·push_cast [hb8,hy16,hb22,hb26]
       ·push_cast [hb8,hy16,hb22,hb26]
     ·rintro i_8 h;replace h : p_drydocklaw07_InterpParts_J25 i_8 = some r := h;(try push_cast);unfold p_drydocklaw07_InterpParts_J25 at h;refine VC.ret ?_;have hr := Option.some.inj h;subst hr;refine endP (Sub.lo _) (Post.ret ?_ ?_ ?_)
      ·push_cast [hb8,hy16,hb22]
      ·push_cast [hb8,hy16,hb22]
      ·rfl
/-! ### How deep calls may go does not matter -/
theorem rnd_any {pf pf' : PF} {p : T_Prog} {fn : Int} {x : T_Fn} (hp : ProgOk p) (hx : FnOk x) {e e0 : T_Env} {fu us u0 : Int} {f f' : Fra} {r' : Rn} (ho : f.over = false) (h : SI p fu fn e0 u0 (⟨p, e, fu, us, 0⟩, f)) (h0 : 0 ≤ u0) (hf : fu ≤ 1000000)
    (hs : ∀ r j a q, fn < j → FnPre p r j a → pf r j a = some q → pf' r j a = some q) (hr : Rnd pf x p e fu us f r' f') : stepR pf' x (⟨p, e, fu, us, 0⟩, f) = some (.inl (r', f')) := by
  have hus : u0 ≤ us ∧ us ≤ fu := h.us
  have hE : EKeep e0 e := h.e
  have hat : 0 ≤ f.at_ ∧ f.at_ ≤ 70000 := h.at_
  have hfn : f.fn = fn := h.fn
  have hl := hx.len
  cases hr with
  | long h1 => subst h1; exact step_long ho
  | off h1 h2 => exact step_off ho ⟨by omega, h1⟩ hf h2
  | op h1 i ha hi h6 => exact step_op ho ⟨by omega, h1⟩ hf ⟨hat.1, by omega⟩ hi (hx.code i (List.mem_of_getElem? hi)) hE.fits h6
  | fail h1 i ha hi h6 hc => exact step_call ho ⟨by omega, h1⟩ hf ⟨hat.1, by omega⟩ hi hp h6 (hc _ _ _ _) rfl
  | call h1 i g v _ ha hi h6 hg hlt he hc => exact step_call ho ⟨by omega, h1⟩ hf ⟨hat.1, by omega⟩ hi hp h6 (callS_go hg hlt he (hs _ _ _ _ (by omega) (callPre (f := f) hp hE.fits ⟨by omega, h1⟩ hf hg) hc)) (backF_at f v).2
theorem frame_depth {p : T_Prog} (hp : ProgOk p) : ∀ (d d' : Nat) {fn : Int}, (p.Fns.length : Int) - fn ≤ (d : Int) → (p.Fns.length : Int) - fn ≤ (d' : Int) → ∀ r a, FnPre p r fn a → p_interp_run_frame d r fn a = p_interp_run_frame d' r fn a := by
  intro d
  induction d with
  | zero => intro d' fn hd hd' r a h; have := h.fn; omega
  | succ d ih =>
    intro d' fn hd hd' r a h
    have hfnb := h.fn
    obtain ⟨d', rfl⟩ : ∃ k, d' = k + 1 := ⟨d' - 1, by omega⟩
    have hpf : PfOk p (p_interp_run_frame d) fn := pfOk hp (by omega)
    obtain ⟨x, hx⟩ : ∃ x, p.Fns[fn.toNat]? = some x := ⟨_, List.getElem?_eq_getElem (by omega)⟩
    have hxo := hp.fns x (List.mem_of_getElem? hx)
    obtain ⟨q, h1, h2⟩ := lp_inv (step := stepR (p_interp_run_frame d) x) (fun t => SI p r.fuel fn r.e r.used t ∧ lpU (stepR (p_interp_run_frame d') x) t = lpU (stepR (p_interp_run_frame d') x) (r, putsF (newF fn) 0 a)) (muR r.fuel) (fun q => lpU (stepR (p_interp_run_frame d') x) (r, putsF (newF fn) 0 a) = some q) (by
      rintro ⟨r1, f⟩ ⟨hS, hL⟩
      by_cases he : r1.err ≠ 0 ∨ f.over = true
      · exact .inr ⟨_, step_end he, by rw [← hL]; exact lpU_inr (step_end he)⟩
      · left
        have he1 : r1.err = 0 := by
          by_cases q : r1.err = 0
          · exact q
          · exact absurd (.inl q) he
        have ho : f.over = false := by
          cases q : f.over with
          | false => rfl
          | true => exact absurd (.inr q) he
        have hus : r.used ≤ r1.used ∧ r1.used ≤ r.fuel := hS.us
        have eta := run_eta r1 p r.fuel hS.p hS.fu he1
        generalize r1.e = e at eta
        generalize r1.used = us at eta hus
        subst eta
        have hu0 := h.us
        obtain ⟨r', f', h1, h2⟩ := round hp hxo hpf (e := e) ho ⟨by omega, hus.2⟩ h.fu hS.at_.1 hS.fn hfnb.1 hS.e.fits
        obtain ⟨h3, h4⟩ := rnd_keeps hp hxo hpf hS h.us.1 h.fu h2
        refine ⟨_, h1, ⟨h3, ?_⟩, mu_less h3 hus.2 h4⟩
        have h5 := rnd_any (pf' := p_interp_run_frame d') hp hxo ho hS h.us.1 h.fu (fun r j a q hj hpre hq => by rw [← ih d' (by omega) (by omega) r a hpre]; exact hq) h2
        exact (lpU_inl h5).symm.trans hL) (r, putsF (newF fn) 0 a) ⟨si_new h, rfl⟩
    have e1 : p_interp_run_frame (d + 1) r fn a = po (lpU (stepR (p_interp_run_frame d) x) (r, putsF (newF fn) 0 a)) (fun q => some (q.2.regs.a0, q.1)) := frame_is h.a h.fn.1 (by rw [h.p]; exact hx)
    have e2 : p_interp_run_frame (d' + 1) r fn a = po (lpU (stepR (p_interp_run_frame d') x) (r, putsF (newF fn) 0 a)) (fun q => some (q.2.regs.a0, q.1)) := frame_is h.a h.fn.1 (by rw [h.p]; exact hx)
    rw [e1, e2, h1, h2]
/-! ### Registers -/
theorem putF_get (f : Fra) {n j : Nat} (hn : n < 8) (hj : j < 8) (v : UInt32) : (putF f n v).regs.get j = if n = j then v else f.regs.get j := A8.get_set _ hn hj v
theorem putF_set (f : Fra) {n j : Nat} (hn : n < 8) (hj : j < 8) (v : UInt32) : (putF f n v).set.get j = if n = j then true else f.set.get j := A8.get_set _ hn hj true
theorem putsF_regs (l : List UInt32) : ∀ (f : Fra) (n : Nat), n + l.length ≤ 7 → ∀ j, j < 8 → (putsF f n l).regs.get j = (if n < j then l[j - n - 1]?.getD (f.regs.get j) else f.regs.get j) ∧ (putsF f n l).set.get j = (if n < j ∧ j ≤ n + l.length then true else f.set.get j) := by
  induction l with
  | nil =>
    intro f n hn j hj
    refine ⟨?_, ?_⟩
    · show f.regs.get j = _
      simp
    · show f.set.get j = _
      rw [if_neg (fun h => by have := h.2; simp only [List.length_nil] at this; omega)]
  | cons v l ih =>
    intro f n hn j hj
    simp only [List.length_cons] at hn
    obtain ⟨h1, h2⟩ := ih (putF f (n + 1) v) (n + 1) (by omega) j hj
    refine ⟨?_, ?_⟩
    · show (putsF (putF f (n + 1) v) (n + 1) l).regs.get j = _
      rw [h1, putF_get f (by omega) hj]
      by_cases h3 : n + 1 < j
      · rw [if_pos h3, if_pos (show n < j by omega), if_neg (show ¬ n + 1 = j by omega), show j - n - 1 = (j - (n + 1) - 1) + 1 by omega, List.getElem?_cons_succ]
      · rw [if_neg h3]
        by_cases h4 : n + 1 = j
        · subst h4
          rw [if_pos rfl, if_pos (show n < n + 1 by omega), show n + 1 - n - 1 = 0 by omega]
          rfl
        · rw [if_neg h4, if_neg (show ¬ n < j by omega)]
    · show (putsF (putF f (n + 1) v) (n + 1) l).set.get j = _
      rw [h2, putF_set f (by omega) hj, List.length_cons]
      by_cases h3 : n + 1 < j ∧ j ≤ n + 1 + l.length
      · rw [if_pos h3, if_pos (by omega)]
      · rw [if_neg h3]
        by_cases h4 : n + 1 = j
        · rw [if_pos h4, if_pos (by omega)]
        · rw [if_neg h4, if_neg (by omega)]
theorem putsF_snoc (l : List UInt32) (v : UInt32) : ∀ (f : Fra) (n : Nat), putsF f n (l ++ [v]) = putF (putsF f n l) (n + l.length + 1) v := by
  induction l with
  | nil => intro f n; rfl
  | cons w l ih =>
    intro f n
    show putsF (putF f (n + 1) w) (n + 1) (l ++ [v]) = _
    rw [ih, List.length_cons, show n + 1 + l.length + 1 = n + (l.length + 1) + 1 by omega]
    rfl
theorem putsF_at (f : Fra) (n : Int) (l : List UInt32) : ∀ k, putsF (atF f n) k l = atF (putsF f k l) n := by
  induction l generalizing f with
  | nil => intro k; rfl
  | cons v l ih => intro k; exact ih (putF f (k + 1) v) (k + 1)
theorem hand_puts {f : Fra} {l : List UInt32} (hl : l.length ≤ 7) {F : Fra} (hr : F.regs = (putsF f 0 l).regs) (hs : F.set = (putsF f 0 l).set) : handV F l.length = l ∧ handE F 0 l.length = 0 := by
  have key : ∀ k, k ≤ l.length → handV F k = l.take k ∧ handE F 0 k = 0 := by
    intro k
    induction k with
    | zero => intro _; exact ⟨rfl, rfl⟩
    | succ k ih =>
      intro hk
      obtain ⟨h1, h2⟩ := ih (by omega)
      obtain ⟨h3, h4⟩ := putsF_regs l f 0 (by omega) (k + 1) (by omega)
      rw [if_pos (by omega), show k + 1 - 0 - 1 = k by omega, List.getElem?_eq_getElem (show k < l.length by omega)] at h3
      rw [if_pos (by omega)] at h4
      refine ⟨?_, ?_⟩
      · show handV F k ++ [F.regs.get (k + 1)] = _
        rw [h1, hr, h3, List.take_add_one, List.getElem?_eq_getElem (show k < l.length by omega)]
        rfl
      · show getE F (handE F 0 k) (k + 1) = 0
        unfold getE
        rw [hs, h4, if_pos rfl, h2]
  obtain ⟨h1, h2⟩ := key l.length (Nat.le_refl _)
  rw [List.take_of_length_le (Nat.le_refl _)] at h1
  exact ⟨h1, h2⟩
theorem clrF_get (f : Fra) {j : Nat} (hj : j < 8) : ∀ k, k ≤ 5 → (j = 0 ∨ k < j) → (clrF f k).regs.get j = f.regs.get j ∧ (clrF f k).set.get j = f.set.get j := by
  intro k
  induction k with
  | zero => intro _ _; exact ⟨rfl, rfl⟩
  | succ k ih =>
    intro hk hjk
    obtain ⟨h1, h2⟩ := ih (by omega) (by omega)
    refine ⟨?_, ?_⟩
    · show ((clrF f k).regs.set (k + 1) 0).get j = _
      rw [A8.get_set _ (by omega) hj, if_neg (by omega), h1]
    · show ((clrF f k).set.set (k + 1) false).get j = _
      rw [A8.get_set _ (by omega) hj, if_neg (by omega), h2]
theorem backF_get (f : Fra) (v : UInt32) : (backF f v).regs.get 0 = v ∧ (backF f v).set.get 0 = true ∧ (backF f v).regs.get 6 = f.regs.get 6 ∧ (backF f v).set.get 6 = f.set.get 6 := by
  obtain ⟨h1, h2⟩ := clrF_get (putF f 0 v) (j := 0) (by decide) 5 (by decide) (.inl rfl)
  obtain ⟨h3, h4⟩ := clrF_get (putF f 0 v) (j := 6) (by decide) 5 (by decide) (.inr (by decide))
  rw [putF_get f (by decide) (by decide)] at h1 h3
  rw [putF_set f (by decide) (by decide)] at h2 h4
  exact ⟨h1, h2, h3, h4⟩
theorem over_same (f : Fra) (v : UInt32) : (backF f v).over = f.over := rfl
/-! ### The caller -/
def movI (a : A4 UInt32) (j : Nat) : T_Inst := ⟨0, 0, ((j + 1 : Nat) : Int), 0, false, 0, a.get j⟩
def movs (a : A4 UInt32) (k : Nat) : List T_Inst := (List.range k).map (movI a)
def callerC (a : A4 UInt32) (keep : UInt32) (k : Nat) : List T_Inst := (⟨0, 0, 6, 0, false, 0, keep⟩ :: movs a k) ++ [⟨6, 0, 0, 0, false, 0, 1⟩, ⟨0, 1, 0, 6, true, 0, 0⟩, ⟨7, 0, 0, 0, false, 0, 0⟩]
theorem movs_len (a : A4 UInt32) (k : Nat) : (movs a k).length = k := by simp [movs]
theorem movs_succ (a : A4 UInt32) (k : Nat) : movs a (k + 1) = movs a k ++ [movI a k] := by simp [movs, List.range_succ]
theorem code_mov {a : A4 UInt32} {keep : UInt32} {k j : Nat} (h : j < k) : (callerC a keep k)[j + 1]? = some (movI a j) := by
  unfold callerC
  rw [List.getElem?_append_left (by simp [movs_len]; omega), List.getElem?_cons_succ]
  simp [movs, h]
theorem code_end {a : A4 UInt32} {keep : UInt32} {k j : Nat} : (callerC a keep k)[k + 1 + j]? = [(⟨6, 0, 0, 0, false, 0, 1⟩ : T_Inst), ⟨0, 1, 0, 6, true, 0, 0⟩, ⟨7, 0, 0, 0, false, 0, 0⟩][j]? := by
  unfold callerC
  rw [List.getElem?_append_right (by simp [movs_len])]
  congr 1
  simp [movs_len]
theorem loop10 (f : T_Fn) (a : A4 UInt32) (keep : UInt32) {k : Nat} (hk : f.Args = (k : Int)) (h4 : k ≤ 4) : lpU (fun x => p_drydocklaw07_InterpParts_L10 f a x.1 x.2) ([(T_Inst.mk 0 0 6 0 false 0 keep)], 0) = some (⟨0, 0, 6, 0, false, 0, keep⟩ :: movs a k) := by
  obtain ⟨r, h1, h2⟩ := lp_inv (step := fun x => p_drydocklaw07_InterpParts_L10 f a x.1 x.2) (fun s => ∃ n : Nat, n ≤ k ∧ s = (⟨0, 0, 6, 0, false, 0, keep⟩ :: movs a n, (n : Int))) (fun s => ((k : Int) - s.2).toNat) (fun r => r = ⟨0, 0, 6, 0, false, 0, keep⟩ :: movs a k) (by
    rintro s ⟨n, hn, rfl⟩
    simp only [p_drydocklaw07_InterpParts_L10, hk]
    by_cases hlt : n < k
    · left
      have hd : decide ((n : Int) < (k : Int)) = true := by simp; omega
      have hl : ((⟨0, 0, 6, 0, false, 0, keep⟩ :: movs a n : List T_Inst).length + 1) * 56 ≤ 140737488355328 := by simp [movs_len]; omega
      simp only [hd, cond_true, w64 (show n < 9223372036854775807 by omega)]
      rw [pg_of (show 0 ≤ (n : Int) ∧ (n : Int) < 4 by omega), pg_of hl]
      simp only [pl, Int.toNat_natCast, List.cons_append]
      refine ⟨_, rfl, ⟨n + 1, by omega, ?_⟩, by simp only; omega⟩
      rw [movs_succ]
      rfl
    · right
      have : n = k := by omega
      subst this
      have hd : decide ((n : Int) < (n : Int)) = false := by simp
      simp only [hd, cond_false]
      exact ⟨_, rfl, rfl⟩) ([(T_Inst.mk 0 0 6 0 false 0 keep)], 0) ⟨0, Nat.zero_le _, rfl⟩
  rw [h1, h2]
theorem take_get (a : A4 UInt32) {k j : Nat} (hk : k ≤ 4) (hj : j < k) : (List.take k [a.a0, a.a1, a.a2, a.a3])[j]? = some (a.get j) := by
  rw [List.getElem?_take, if_pos hj]
  rcases A4.cases (show j < 4 by omega) with rfl | rfl | rfl | rfl <;> rfl
theorem take_len (a : A4 UInt32) {k : Nat} (hk : k ≤ 4) : (List.take k [a.a0, a.a1, a.a2, a.a3]).length = k := by
  rw [List.length_take]
  simp
  omega
theorem aluV_mov (x y : UInt32) : aluV 0 x y = y := rfl
theorem aluV_add (x y : UInt32) : aluV 1 x y = x + y := rfl
theorem op_mov {f : Fra} {e : T_Env} {d : Int} {v : UInt32} : opS f e 0 ⟨0, 0, d, 0, false, 0, v⟩ = (putF f d.toNat v, e, 0) := by
  unfold opS
  rw [if_pos rfl]
  unfold aluS
  simp only [if_true, wordV, wordE, aluV_mov]
  rfl
theorem caller_movs {pf : PF} {p : T_Prog} {a : A4 UInt32} {keep : UInt32} {k : Nat} {e : T_Env} (hx : FnOk ⟨0, callerC a keep k⟩) (hF : Fits e.T) (h4 : k ≤ 4) : ∀ j, j ≤ k →
    lpU (stepR pf ⟨0, callerC a keep k⟩) (⟨p, e, 300, 0, 0⟩, newF 0) = lpU (stepR pf ⟨0, callerC a keep k⟩) (⟨p, e, 300, ((j + 1 : Nat) : Int), 0⟩, atF (putsF (putF (newF 0) 6 keep) 0 ((List.take k [a.a0, a.a1, a.a2, a.a3]).take j)) ((j + 1 : Nat) : Int)) := by
  intro j
  induction j with
  | zero =>
    intro _
    have hi : (callerC a keep k)[0]? = some ⟨0, 0, 6, 0, false, 0, keep⟩ := rfl
    rw [lpU_inl (step_op (i := ⟨0, 0, 6, 0, false, 0, keep⟩) rfl (by decide) (by decide) (by decide) hi (hx.code _ (List.mem_of_getElem? hi)) hF (show (0 : Int) ≠ 6 by decide)), op_mov]
    rfl
  | succ j ih =>
    intro hj
    rw [ih (by omega)]
    obtain ⟨G, hG⟩ : ∃ G, G = putsF (putF (newF 0) 6 keep) 0 ((List.take k [a.a0, a.a1, a.a2, a.a3]).take j) := ⟨_, rfl⟩
    have hGs := putsF_same (putF (newF 0) 6 keep) 0 ((List.take k [a.a0, a.a1, a.a2, a.a3]).take j)
    rw [← hG] at hGs ⊢
    have hi : (callerC a keep k)[(atF G ((j + 1 : Nat) : Int)).at_.toNat]? = some (movI a j) := code_mov (show j < k by omega)
    rw [lpU_inl (step_op (i := movI a j) (by show G.over = false; rw [hGs.2.2]; rfl) (show 0 ≤ ((j + 1 : Nat) : Int) ∧ ((j + 1 : Nat) : Int) < 300 by omega) (by decide) (show 0 ≤ ((j + 1 : Nat) : Int) ∧ ((j + 1 : Nat) : Int) ≤ 64 by omega) hi (hx.code _ (List.mem_of_getElem? hi)) hF (show (0 : Int) ≠ 6 by decide))]
    unfold movI
    rw [op_mov]
    have e1 : (List.take k [a.a0, a.a1, a.a2, a.a3]).take (j + 1) = (List.take k [a.a0, a.a1, a.a2, a.a3]).take j ++ [a.get j] := by
      rw [List.take_add_one, take_get a h4 (by omega)]
      rfl
    have e2 : ((List.take k [a.a0, a.a1, a.a2, a.a3]).take j).length = j := by rw [List.length_take, take_len a h4]; omega
    rw [e1, putsF_snoc, e2, ← hG, Int.toNat_natCast, Nat.zero_add]
    have e3 : ((j + 1 : Nat) : Int) + 1 = ((j + 1 + 1 : Nat) : Int) := by omega
    simp only [e3]
    have e4 : (putF (atF G ((j + 1 : Nat) : Int)) (j + 1) (a.get j)).at_ + 1 = ((j + 1 + 1 : Nat) : Int) := by
      show ((j + 1 : Nat) : Int) + 1 = _
      omega
    rw [e4]
    rfl
theorem parts_end {x y : T_Ran} {n : Int} {keep : UInt32} (hn : 0 ≤ n ∧ n ≤ 4) (h : x.E.T.length ≤ 1048576) (hu : 0 ≤ x.Used ∧ x.Used ≤ 300) (hy : y.Err = x.Err ∨ x.Err = 2)
    (h0 : x.Err = 0 → y = ⟨x.Ret + keep, x.E, x.Used + n + 4, 0⟩) : (
      cond (x.Err != 0) (
      po (
      cond (y.Err == x.Err) (
      some true) (
      some (x.Err == 2))) (fun q => p_drydocklaw07_InterpParts_J23 q)) (
      po (
      cond (y.Err == 0) (
      cond ((y.Ret.toNat : Int) == (IntKind.u32.wrap ((x.Ret.toNat : Int) + (keep.toNat : Int)))) (
      cond (y.Used == (IntKind.i64.wrap ((IntKind.i64.wrap (x.Used + n)) + 4))) (
      po (p_drydockref06_Same y.E x.E) fun r29 =>
      some r29) (
      some false)) (
      some false)) (
      some false)) (fun q => p_drydocklaw07_InterpParts_J25 q)) : Option Bool) = some true := by
  by_cases hx : x.Err = 0
  · have d : (x.Err != 0) = false := by simpa using hx
    have hw : IntKind.i64.wrap ((IntKind.i64.wrap (x.Used + n)) + 4) = x.Used + n + 4 := by
      rw [wrap_i64 (n := x.Used + n) (by omega) (by omega)]
      exact wrap_i64 (by omega) (by omega)
    rw [d, h0 hx, hw, wrap32_add]
    simp only [cond_false, beq_self_eq_true, cond_true, env_refl h, po_of]
    rfl
  · have d : (x.Err != 0) = true := by simpa using hx
    rw [d]
    rcases hy with hy | hy
    · rw [hy]
      simp only [cond_true, beq_self_eq_true, po_of]
      rfl
    · rw [hy]
      simp only [cond_true]
      cases (y.Err == 2) <;> rfl
theorem parts_true (f : T_Fn) (e : T_Env) (a : A4 UInt32) (keep : UInt32) : p_drydocklaw07_InterpParts f e a keep = some true := by
  obtain ⟨b, hb1, hb2⟩ := few_tells e.T
  unfold p_drydocklaw07_InterpParts
  simp only [awake7, po_of, cond_true]
  have up : p_drydocklaw07_InterpParts_J2 f e a keep true true = some true := rfl
  by_cases h1 : (f.Code.length : Int) > 70
  · rw [decide_eq_true h1]; exact up
  by_cases h2 : f.Args < 0
  · rw [decide_eq_false h1, decide_eq_true h2]; exact up
  by_cases h3 : f.Args > 4
  · rw [decide_eq_false h1, decide_eq_false h2, decide_eq_true h3]; exact up
  rw [decide_eq_false h1, decide_eq_false h2, decide_eq_false h3, hb1]
  cases b with
  | false => exact up
  | true =>
    have hF := (hb2 rfl).fits
    obtain ⟨k, hk⟩ : ∃ k : Nat, f.Args = (k : Int) := ⟨_, (Int.toNat_of_nonneg (by omega)).symm⟩
    have h4 : k ≤ 4 := by omega
    simp only [cond_false, Bool.not_true, po_of, p_drydocklaw07_InterpParts_J2, loop10 f a keep hk h4, p_drydocklaw07_InterpParts_J9]
    rw [pg_of (by simp [movs_len]; omega)]
    simp only [pl]
    rw [pg_of (show 0 ≤ 0 ∧ 0 ≤ f.Args ∧ f.Args ≤ 4 by omega)]
    show po (p_interp_Call ⟨[⟨0, callerC a keep k⟩, f]⟩ 1 e 200 (List.take f.Args.toNat [a.a0, a.a1, a.a2, a.a3])) (fun r20 => po (p_interp_Run ⟨[⟨0, callerC a keep k⟩, f]⟩ e 300) _) = _
    obtain ⟨p, hp0⟩ : ∃ p, p = T_Prog.mk [⟨0, callerC a keep k⟩, f] := ⟨_, rfl⟩
    rw [← hp0, hk, Int.toNat_natCast]
    obtain ⟨c, hc1, hc2⟩ := progMay_tells p
    rw [callI hc1 hF, runI hc1 hc2 hF]
    cases c with
    | false =>
      rw [if_neg (fun q => by cases q.1), if_neg (fun q => by cases q.1)]
      rfl
    | true =>
      have hp := hc2 rfl
      rw [if_pos ⟨rfl, by decide, by decide⟩, if_pos ⟨rfl, by decide, by decide⟩]
      have hx1 : p.Fns[1]? = some f := by rw [hp0]; rfl
      have hx0 : p.Fns[0]? = some ⟨0, callerC a keep k⟩ := by rw [hp0]; rfl
      have hlen : p.Fns.length = 2 := by rw [hp0]; rfl
      have hi1 : idx p.Fns 1 = some f := idx_of (by decide) hx1
      obtain ⟨args, hargs⟩ : ∃ l, l = List.take k [a.a0, a.a1, a.a2, a.a3] := ⟨_, rfl⟩
      have hal : args.length = k := by rw [hargs]; exact take_len a h4
      rw [← hargs, hi1]
      simp only
      rw [if_pos (show (args.length : Int) = f.Args by rw [hal, hk])]
      have hpre1 : FnPre p ⟨p, e, 200, 0, 0⟩ 1 args := preI hp hF (by decide) ⟨by decide, by omega⟩ (by omega)
      obtain ⟨v, r, g1, g2, g3⟩ := frame_sim hp (g := id) (k := (k : Int) + 2) (m := 98 - (k : Int)) (by omega) (by omega) (.inl fun _ => rfl) 9 (by omega) _ _ hpre1 (by show (200 : Int) + ((k : Int) + 2) + (98 - (k : Int)) ≤ 1000000; omega)
      obtain ⟨v', r', q1, hP⟩ := frame_tells hp 9 (by omega) _ _ hpre1
      rw [g1] at q1
      injection q1 with q1
      injection q1 with q2 q3
      subst q2
      subst q3
      have hru : 0 ≤ r.used ∧ r.used ≤ 200 := hP.us
      have et : tau id ((k : Int) + 2) (98 - (k : Int)) ⟨p, e, 200, 0, 0⟩ = ⟨p, e, 300, (k : Int) + 2, 0⟩ := by
        unfold tau gE
        simp only [id]
        congr 1
        · omega
        · omega
      have et2 : tau id ((k : Int) + 2) (98 - (k : Int)) r = ⟨p, r.e, 300, r.used + ((k : Int) + 2), r.err⟩ := by
        have h5 : r.p = p := hP.p
        have h6 : r.fuel = 200 := hP.fu
        unfold tau gE
        simp only [id]
        rw [h5, h6]
        congr 1
        omega
      rw [et, et2] at g2
      rw [et] at g3
      -- the caller
      have hx0o := hp.fns _ (List.mem_of_getElem? hx0)
      have hfr : p_interp_run_frame 9 ⟨p, e, 300, 0, 0⟩ 0 [] = po (lpU (stepR (p_interp_run_frame 8) ⟨0, callerC a keep k⟩) (⟨p, e, 300, 0, 0⟩, newF 0)) (fun q => some (q.2.regs.a0, q.1)) := by
        show p_interp_run_frame_S (p_interp_run_frame 8) _ _ _ = _
        rw [frame_is (x := ⟨0, callerC a keep k⟩) (by decide) (Int.le_refl 0) hx0]
        rfl
      obtain ⟨G, hG⟩ : ∃ G, G = putsF (putF (newF 0) 6 keep) 0 args := ⟨_, rfl⟩
      have hmov : lpU (stepR (p_interp_run_frame 8) ⟨0, callerC a keep k⟩) (⟨p, e, 300, 0, 0⟩, newF 0) = lpU (stepR (p_interp_run_frame 8) ⟨0, callerC a keep k⟩) (⟨p, e, 300, ((k + 1 : Nat) : Int), 0⟩, atF G ((k + 1 : Nat) : Int)) := by
        have := caller_movs (pf := p_interp_run_frame 8) (p := p) hx0o hF h4 k (Nat.le_refl _)
        rw [← hargs, List.take_of_length_le (by omega), ← hG] at this
        exact this
      have hGs := putsF_same (putF (newF 0) 6 keep) 0 args
      rw [← hG] at hGs
      have hG6 := putsF_regs args (putF (newF 0) 6 keep) 0 (by omega) 6 (by decide)
      rw [← hG] at hG6
      have hG6r : G.regs.get 6 = keep := by
        rw [hG6.1, if_pos (by decide), List.getElem?_eq_none (by omega)]
        rfl
      have hG6s : G.set.get 6 = true := by
        rw [hG6.2, if_neg (by omega)]
        rfl
      obtain ⟨hv, hev⟩ := hand_puts (f := putF (newF 0) 6 keep) (l := args) (by omega) (F := atF G ((k + 1 : Nat) : Int)) (by rw [hG]; rfl) (by rw [hG]; rfl)
      rw [hal] at hv hev
      have hpre2 : FnPre p ⟨p, e, 300, (k : Int) + 2, 0⟩ 1 args := by
        have := pre_tau (g := id) (k := (k : Int) + 2) (m := 98 - (k : Int)) (by omega) (by omega) hpre1 (by show (200 : Int) + ((k : Int) + 2) + (98 - (k : Int)) ≤ 1000000; omega)
        rw [et] at this
        exact this
      have hd89 := frame_depth hp 9 8 (fn := 1) (by omega) (by omega) _ _ hpre2
      obtain ⟨w, s, k1, k2⟩ := frame_tells hp 9 (fn := 1) (by omega) _ _ hpre2
      have hic : (callerC a keep k)[(atF G ((k + 1 : Nat) : Int)).at_.toNat]? = some ⟨6, 0, 0, 0, false, 0, 1⟩ := code_end (j := 0)
      have hGo : (atF G ((k + 1 : Nat) : Int)).over = false := by show G.over = false; rw [hGs.2.2]; rfl
      have hGf : (atF G ((k + 1 : Nat) : Int)).fn = 0 := hGs.1
      have hcall : stepR (p_interp_run_frame 8) ⟨0, callerC a keep k⟩ (⟨p, e, 300, ((k + 1 : Nat) : Int), 0⟩, atF G ((k + 1 : Nat) : Int)) = some (.inl (s, atF (backF (atF G ((k + 1 : Nat) : Int)) w) (((k + 1 : Nat) : Int) + 1))) := by
        refine step_call hGo (show 0 ≤ ((k + 1 : Nat) : Int) ∧ ((k + 1 : Nat) : Int) < 300 by omega) (by decide) (show 0 ≤ ((k + 1 : Nat) : Int) ∧ ((k + 1 : Nat) : Int) ≤ 64 by omega) hic hp rfl (callS_go (g := f) hx1 (by rw [hGf]; decide) (by rw [hk, Int.toNat_natCast]; exact hev) ?_) (backF_at _ w).2
        rw [hk, Int.toNat_natCast, hv]
        show p_interp_run_frame 8 ⟨p, e, 300, ((k + 1 : Nat) : Int) + 1, 0⟩ 1 args = _
        rw [show ((k + 1 : Nat) : Int) + 1 = (k : Int) + 2 by omega, ← hd89]
        exact k1
      rw [g1, hfr, hmov, lpU_inl hcall]
      by_cases he : s.err = 0
      case neg =>
        -- the callee fails
        rw [lpU_inr (step_end (.inl he))]
        simp only [po_of]
        refine parts_end (x := ranOf v r) (y := ranOf _ s) (n := (k : Int)) (by omega) hP.e.fits.len ⟨hru.1, by show r.used ≤ 300; omega⟩ ?_ fun q => ?_
        · by_cases h2 : r.err = 2
          · exact .inr h2
          · have h7 := g2 (.inl h2)
            rw [k1] at h7
            injection h7 with h7
            injection h7 with _ h7
            subst h7
            exact .inl rfl
        · exfalso
          have q' : r.err = 0 := q
          have h7 := g2 (.inl (by rw [q']; decide))
          rw [k1] at h7
          injection h7 with h7
          injection h7 with _ h7
          subst h7
          exact he q'
      -- is the callee too long, alone?
      by_cases h2 : r.err = 2
      · have hS : SI p 300 0 e 0 (s, atF (backF (atF G ((k + 1 : Nat) : Int)) w) (((k + 1 : Nat) : Int) + 1)) := by
          have hsu : (k : Int) + 2 ≤ s.used ∧ s.used ≤ 300 := k2.us
          exact ⟨k2.p, k2.fu, ⟨by show 0 ≤ s.used; omega, hsu.2⟩, k2.e, k2.err, k2.long, (backF_at _ w).1.trans hGf, by show 0 ≤ ((k + 1 : Nat) : Int) + 1 ∧ ((k + 1 : Nat) : Int) + 1 ≤ 70000; omega⟩
        obtain ⟨z, hz, _⟩ := loop_tells hp hx0o (pfOk hp (d := 8) (fn := 0) (by omega)) (Int.le_refl 0) (Int.le_refl 0) (by decide) _ hS
        rw [hz]
        simp only [po_of]
        exact parts_end (x := ranOf v r) (y := ranOf _ z.1) (n := (k : Int)) (by omega) hP.e.fits.len ⟨hru.1, by show r.used ≤ 300; omega⟩ (.inr h2) fun q => by
          have q' : r.err = 0 := q
          rw [h2] at q'
          exact absurd q' (by decide)
      · have h7 := g2 (.inl h2)
        rw [k1] at h7
        injection h7 with h7
        injection h7 with h8 h9
        subst h8
        subst h9
        have he' : r.err = 0 := he
        have hF3 : Fits r.e.T := hP.e.fits
        obtain ⟨B, hB⟩ : ∃ B, B = atF (backF (atF G ((k + 1 : Nat) : Int)) w) (((k + 1 : Nat) : Int) + 1) := ⟨_, rfl⟩
        have hbg := backF_get (atF G ((k + 1 : Nat) : Int)) w
        have hB0 : B.regs.get 0 = w := by rw [hB]; exact hbg.1
        have hB0s : B.set.get 0 = true := by rw [hB]; exact hbg.2.1
        have hB6 : B.regs.get 6 = keep := by rw [hB]; exact hbg.2.2.1.trans hG6r
        have hB6s : B.set.get 6 = true := by rw [hB]; exact hbg.2.2.2.trans hG6s
        have hBa : B.at_ = ((k + 2 : Nat) : Int) := by rw [hB]; show ((k + 1 : Nat) : Int) + 1 = _; omega
        have hBo : B.over = false := by rw [hB]; exact hGo
        rw [← hB, he']
        have hia : (callerC a keep k)[B.at_.toNat]? = some ⟨0, 1, 0, 6, true, 0, 0⟩ := by rw [hBa, Int.toNat_natCast]; exact code_end (j := 1)
        have e5 : opS B r.e 0 ⟨0, 1, 0, 6, true, 0, 0⟩ = (putF B 0 (w + keep), r.e, 0) := by
          unfold opS
          rw [if_pos rfl]
          unfold aluS wordV wordE getE
          simp only [show ¬ ((1 : Int) = 0) by decide, if_false, if_true, show (6 : Int).toNat = 6 from rfl, show (0 : Int).toNat = 0 from rfl, hB0, hB6, hB6s, hB0s, aluV_add]
        rw [lpU_inl (step_op (i := ⟨0, 1, 0, 6, true, 0, 0⟩) hBo (show 0 ≤ r.used + ((k : Int) + 2) ∧ r.used + ((k : Int) + 2) < 300 by omega) (by decide) (by rw [hBa]; omega) hia (hx0o.code _ (List.mem_of_getElem? hia)) hF3 (by decide)), e5]
        have hie : (callerC a keep k)[(atF (putF B 0 (w + keep)) ((putF B 0 (w + keep)).at_ + 1)).at_.toNat]? = some ⟨7, 0, 0, 0, false, 0, 0⟩ := by
          show (callerC a keep k)[(B.at_ + 1).toNat]? = _
          rw [hBa, show (((k + 2 : Nat) : Int) + 1).toNat = k + 1 + 2 by omega]
          exact code_end (j := 2)
        have e6 : opS (atF (putF B 0 (w + keep)) ((putF B 0 (w + keep)).at_ + 1)) r.e 0 ⟨7, 0, 0, 0, false, 0, 0⟩ = (⟨B.fn, B.at_ + 1, (putF B 0 (w + keep)).regs, (putF B 0 (w + keep)).set, B.stack, true⟩, r.e, 0) := by
          unfold opS
          rw [if_neg (by decide), if_neg (by decide), if_neg (by decide), if_pos rfl]
          unfold exitS getE
          have h10 : (atF (putF B 0 (w + keep)) ((putF B 0 (w + keep)).at_ + 1)).set.get 0 = true := by
            show (putF B 0 (w + keep)).set.get 0 = true
            rw [putF_set B (by decide) (by decide), if_pos rfl]
          rw [h10]
          rfl
        simp only
        rw [lpU_inl (step_op (f := atF (putF B 0 (w + keep)) ((putF B 0 (w + keep)).at_ + 1)) (i := ⟨7, 0, 0, 0, false, 0, 0⟩) (show B.over = false from hBo) (show 0 ≤ r.used + ((k : Int) + 2) + 1 ∧ r.used + ((k : Int) + 2) + 1 < 300 by omega) (by decide) (by show 0 ≤ B.at_ + 1 ∧ B.at_ + 1 ≤ 64; rw [hBa]; omega) hie (hx0o.code _ (List.mem_of_getElem? hie)) hF3 (by decide)), e6, lpU_inr (step_end (.inr rfl))]
        simp only [po_of]
        have hret : (putF B 0 (w + keep)).regs.a0 = w + keep := rfl
        refine parts_end (x := ranOf w r) (y := ranOf _ _) (n := (k : Int)) (by omega) hP.e.fits.len ⟨hru.1, by show r.used ≤ 300; omega⟩ (.inl he'.symm) fun q => ?_
        unfold ranOf
        simp only [if_true, he', hret]
        congr 1
        omega
/-
  PROVED: the statement InterpParts of the given seat: whatever the function, the environment and the words, drydocklaw07.InterpParts returns true, and what was handed in reads as it did.
  Conditions: none beyond the statement's own.
-/
open Go Go.ChangeShapes Go.WideShapes Go.ChangeAt Go.RowKit Go.Proofs.Try
theorem o_3 {H : Type} {enc : TypeId × Value → H} {w : World} {base : Nat} {spare : Nat → Bool} {held : Bool} {fuel : Nat} {cs : List Value} {x : DataW H × List MemPlace} (h : DataW.trod enc prog w base spare held fuel 3 cs = some x) : ∃ a : Int, DRels w (okW w) (encI64 a) cs:= oI64 underlying3 h
theorem o_4 {H : Type} {enc : TypeId × Value → H} {w : World} {base : Nat} {spare : Nat → Bool} {held : Bool} {fuel : Nat} {cs : List Value} {x : DataW H × List MemPlace} (h : DataW.trod enc prog w base spare held fuel 4 cs = some x) : ∃ a : Bool, DRels w (okW w) (encBool a) cs:= oBool underlying4 h
theorem o_25 {H : Type} {enc : TypeId × Value → H} {w : World} {base : Nat} {spare : Nat → Bool} {held : Bool} {fuel : Nat} {cs : List Value} {x : DataW H × List MemPlace} (h : DataW.trod enc prog w base spare held fuel 25 cs = some x) : ∃ a : UInt32, DRels w (okW w) (encU32 a) cs:= oU32 underlying25 h
theorem o_76 {H : Type} {enc : TypeId × Value → H} {w : World} {base : Nat} {spare : Nat → Bool} {held : Bool} {fuel : Nat} {cs : List Value} {x : DataW H × List MemPlace} (h : DataW.trod enc prog w base spare held fuel 76 cs = some x) : ∃ a : T_Inst, DRels w (okW w) (enc_Inst a) cs := by
  obtain ⟨xs, m, _, _, hl, hxl, hg⟩ := DataW.trod_struct underlying76 h
  have hl : cs.length = 7 := hl.trans (by kernel_rfl)
  replace hxl : xs.length = 7 := hxl
  have e0 : prog.cellsOf 3 = 1 := by kernel_rfl
  have h0 : DataW.trod enc prog w base spare held m 3 ((cs.drop 0).take (prog.cellsOf 3)) = xs[0]? := hg 0 _ rfl
  simp only [e0, Nat.reduceMul] at h0
  obtain ⟨b0, r0⟩ := o_3 (h0.trans (List.getElem?_eq_getElem (by omega)))
  have e1 : prog.cellsOf 3 = 1 := by kernel_rfl
  have h1 : DataW.trod enc prog w base spare held m 3 ((cs.drop 1).take (prog.cellsOf 3)) = xs[1]? := hg 1 _ rfl
  simp only [e1, Nat.reduceMul] at h1
  obtain ⟨b1, r1⟩ := o_3 (h1.trans (List.getElem?_eq_getElem (by omega)))
  have e2 : prog.cellsOf 3 = 1 := by kernel_rfl
  have h2 : DataW.trod enc prog w base spare held m 3 ((cs.drop 2).take (prog.cellsOf 3)) = xs[2]? := hg 2 _ rfl
  simp only [e2, Nat.reduceMul] at h2
  obtain ⟨b2, r2⟩ := o_3 (h2.trans (List.getElem?_eq_getElem (by omega)))
  have e3 : prog.cellsOf 3 = 1 := by kernel_rfl
  have h3 : DataW.trod enc prog w base spare held m 3 ((cs.drop 3).take (prog.cellsOf 3)) = xs[3]? := hg 3 _ rfl
  simp only [e3, Nat.reduceMul] at h3
  obtain ⟨b3, r3⟩ := o_3 (h3.trans (List.getElem?_eq_getElem (by omega)))
  have e4 : prog.cellsOf 4 = 1 := by kernel_rfl
  have h4 : DataW.trod enc prog w base spare held m 4 ((cs.drop 4).take (prog.cellsOf 4)) = xs[4]? := hg 4 _ rfl
  simp only [e4, Nat.reduceMul] at h4
  obtain ⟨b4, r4⟩ := o_4 (h4.trans (List.getElem?_eq_getElem (by omega)))
  have e5 : prog.cellsOf 3 = 1 := by kernel_rfl
  have h5 : DataW.trod enc prog w base spare held m 3 ((cs.drop 5).take (prog.cellsOf 3)) = xs[5]? := hg 5 _ rfl
  simp only [e5, Nat.reduceMul] at h5
  obtain ⟨b5, r5⟩ := o_3 (h5.trans (List.getElem?_eq_getElem (by omega)))
  have e6 : prog.cellsOf 25 = 1 := by kernel_rfl
  have h6 : DataW.trod enc prog w base spare held m 25 ((cs.drop 6).take (prog.cellsOf 25)) = xs[6]? := hg 6 _ rfl
  simp only [e6, Nat.reduceMul] at h6
  obtain ⟨b6, r6⟩ := o_25 (h6.trans (List.getElem?_eq_getElem (by omega)))
  have r := (DRels.cat (DRels.cat (DRels.cat (DRels.cat (DRels.cat (DRels.cat r0 r1) r2) r3) r4) r5) r6)
  refine ⟨T_Inst.mk b0 b1 b2 b3 b4 b5 b6, ?_⟩
  have hf := full hl
  rw [← hf]
  exact r
theorem o_72 {H : Type} {enc : TypeId × Value → H} {w : World} {base : Nat} {spare : Nat → Bool} {held : Bool} {fuel : Nat} {cs : List Value} {x : DataW H × List MemPlace} (h : DataW.trod enc prog w base spare held fuel 72 cs = some x) : ∃ a : (List T_Inst), DRels w (okW w) ((encL enc_Inst) a) cs:= oSl (f := enc_Inst) (sz := 7) underlying72 (by kernel_rfl) (by decide) (fun _ => rfl) (fun _ _ _ h => o_76 h) h
theorem o_74 {H : Type} {enc : TypeId × Value → H} {w : World} {base : Nat} {spare : Nat → Bool} {held : Bool} {fuel : Nat} {cs : List Value} {x : DataW H × List MemPlace} (h : DataW.trod enc prog w base spare held fuel 74 cs = some x) : ∃ a : T_Fn, DRels w (okW w) (enc_Fn a) cs := by
  obtain ⟨xs, m, _, _, hl, hxl, hg⟩ := DataW.trod_struct underlying74 h
  have hl : cs.length = 2 := hl.trans (by kernel_rfl)
  replace hxl : xs.length = 2 := hxl
  have e0 : prog.cellsOf 3 = 1 := by kernel_rfl
  have h0 : DataW.trod enc prog w base spare held m 3 ((cs.drop 0).take (prog.cellsOf 3)) = xs[0]? := hg 0 _ rfl
  simp only [e0, Nat.reduceMul] at h0
  obtain ⟨b0, r0⟩ := o_3 (h0.trans (List.getElem?_eq_getElem (by omega)))
  have e1 : prog.cellsOf 72 = 1 := by kernel_rfl
  have h1 : DataW.trod enc prog w base spare held m 72 ((cs.drop 1).take (prog.cellsOf 72)) = xs[1]? := hg 1 _ rfl
  simp only [e1, Nat.reduceMul] at h1
  obtain ⟨b1, r1⟩ := o_72 (h1.trans (List.getElem?_eq_getElem (by omega)))
  have r := (DRels.cat r0 r1)
  refine ⟨T_Fn.mk b0 b1, ?_⟩
  have hf := full hl
  rw [← hf]
  exact r
theorem o_47 {H : Type} {enc : TypeId × Value → H} {w : World} {base : Nat} {spare : Nat → Bool} {held : Bool} {fuel : Nat} {cs : List Value} {x : DataW H × List MemPlace} (h : DataW.trod enc prog w base spare held fuel 47 cs = some x) : ∃ a : (A4 UInt32), DRels w (okW w) ((encA4 encU32) a) cs := by
  obtain ⟨xs, m, _, _, hl, hxl, hg⟩ := DataW.trod_array underlying47 h
  have hl : cs.length = 4 := hl.trans (by kernel_rfl)
  replace hxl : xs.length = 4 := hxl
  have e0 : prog.cellsOf 25 = 1 := by kernel_rfl
  have h0 := hg 0 (by decide)
  simp only [e0, Nat.reduceMul] at h0
  obtain ⟨b0, r0⟩ := o_25 (h0.trans (List.getElem?_eq_getElem (by omega)))
  have e1 : prog.cellsOf 25 = 1 := by kernel_rfl
  have h1 := hg 1 (by decide)
  simp only [e1, Nat.reduceMul] at h1
  obtain ⟨b1, r1⟩ := o_25 (h1.trans (List.getElem?_eq_getElem (by omega)))
  have e2 : prog.cellsOf 25 = 1 := by kernel_rfl
  have h2 := hg 2 (by decide)
  simp only [e2, Nat.reduceMul] at h2
  obtain ⟨b2, r2⟩ := o_25 (h2.trans (List.getElem?_eq_getElem (by omega)))
  have e3 : prog.cellsOf 25 = 1 := by kernel_rfl
  have h3 := hg 3 (by decide)
  simp only [e3, Nat.reduceMul] at h3
  obtain ⟨b3, r3⟩ := o_25 (h3.trans (List.getElem?_eq_getElem (by omega)))
  have r := (DRels.cat (DRels.cat (DRels.cat r0 r1) r2) r3)
  refine ⟨A4.mk b0 b1 b2 b3, ?_⟩
  have hf := full hl
  rw [← hf]
  exact r
theorem o_23 {H : Type} {enc : TypeId × Value → H} {w : World} {base : Nat} {spare : Nat → Bool} {held : Bool} {fuel : Nat} {cs : List Value} {x : DataW H × List MemPlace} (h : DataW.trod enc prog w base spare held fuel 23 cs = some x) : ∃ a : T_Schema, DRels w (okW w) (enc_Schema a) cs := by
  obtain ⟨xs, m, _, _, hl, hxl, hg⟩ := DataW.trod_struct underlying23 h
  have hl : cs.length = 4 := hl.trans (by kernel_rfl)
  replace hxl : xs.length = 4 := hxl
  have e0 : prog.cellsOf 3 = 1 := by kernel_rfl
  have h0 : DataW.trod enc prog w base spare held m 3 ((cs.drop 0).take (prog.cellsOf 3)) = xs[0]? := hg 0 _ rfl
  simp only [e0, Nat.reduceMul] at h0
  obtain ⟨b0, r0⟩ := o_3 (h0.trans (List.getElem?_eq_getElem (by omega)))
  have e1 : prog.cellsOf 3 = 1 := by kernel_rfl
  have h1 : DataW.trod enc prog w base spare held m 3 ((cs.drop 1).take (prog.cellsOf 3)) = xs[1]? := hg 1 _ rfl
  simp only [e1, Nat.reduceMul] at h1
  obtain ⟨b1, r1⟩ := o_3 (h1.trans (List.getElem?_eq_getElem (by omega)))
  have e2 : prog.cellsOf 3 = 1 := by kernel_rfl
  have h2 : DataW.trod enc prog w base spare held m 3 ((cs.drop 2).take (prog.cellsOf 3)) = xs[2]? := hg 2 _ rfl
  simp only [e2, Nat.reduceMul] at h2
  obtain ⟨b2, r2⟩ := o_3 (h2.trans (List.getElem?_eq_getElem (by omega)))
  have e3 : prog.cellsOf 3 = 1 := by kernel_rfl
  have h3 : DataW.trod enc prog w base spare held m 3 ((cs.drop 3).take (prog.cellsOf 3)) = xs[3]? := hg 3 _ rfl
  simp only [e3, Nat.reduceMul] at h3
  obtain ⟨b3, r3⟩ := o_3 (h3.trans (List.getElem?_eq_getElem (by omega)))
  have r := (DRels.cat (DRels.cat (DRels.cat r0 r1) r2) r3)
  refine ⟨T_Schema.mk b0 b1 b2 b3, ?_⟩
  have hf := full hl
  rw [← hf]
  exact r
theorem o_39 {H : Type} {enc : TypeId × Value → H} {w : World} {base : Nat} {spare : Nat → Bool} {held : Bool} {fuel : Nat} {cs : List Value} {x : DataW H × List MemPlace} (h : DataW.trod enc prog w base spare held fuel 39 cs = some x) : ∃ a : (List UInt32), DRels w (okW w) ((encL encU32) a) cs:= oSl (f := encU32) (sz := 1) underlying39 (by kernel_rfl) (by decide) (fun _ => rfl) (fun _ _ _ h => o_25 h) h
theorem o_41 {H : Type} {enc : TypeId × Value → H} {w : World} {base : Nat} {spare : Nat → Bool} {held : Bool} {fuel : Nat} {cs : List Value} {x : DataW H × List MemPlace} (h : DataW.trod enc prog w base spare held fuel 41 cs = some x) : ∃ a : T_Entry, DRels w (okW w) (enc_Entry a) cs := by
  obtain ⟨xs, m, _, _, hl, hxl, hg⟩ := DataW.trod_struct underlying41 h
  have hl : cs.length = 2 := hl.trans (by kernel_rfl)
  replace hxl : xs.length = 2 := hxl
  have e0 : prog.cellsOf 25 = 1 := by kernel_rfl
  have h0 : DataW.trod enc prog w base spare held m 25 ((cs.drop 0).take (prog.cellsOf 25)) = xs[0]? := hg 0 _ rfl
  simp only [e0, Nat.reduceMul] at h0
  obtain ⟨b0, r0⟩ := o_25 (h0.trans (List.getElem?_eq_getElem (by omega)))
  have e1 : prog.cellsOf 39 = 1 := by kernel_rfl
  have h1 : DataW.trod enc prog w base spare held m 39 ((cs.drop 1).take (prog.cellsOf 39)) = xs[1]? := hg 1 _ rfl
  simp only [e1, Nat.reduceMul] at h1
  obtain ⟨b1, r1⟩ := o_39 (h1.trans (List.getElem?_eq_getElem (by omega)))
  have r := (DRels.cat r0 r1)
  refine ⟨T_Entry.mk b0 b1, ?_⟩
  have hf := full hl
  rw [← hf]
  exact r
theorem o_24 {H : Type} {enc : TypeId × Value → H} {w : World} {base : Nat} {spare : Nat → Bool} {held : Bool} {fuel : Nat} {cs : List Value} {x : DataW H × List MemPlace} (h : DataW.trod enc prog w base spare held fuel 24 cs = some x) : ∃ a : (List T_Entry), DRels w (okW w) ((encL enc_Entry) a) cs:= oSl (f := enc_Entry) (sz := 2) underlying24 (by kernel_rfl) (by decide) (fun _ => rfl) (fun _ _ _ h => o_41 h) h
theorem o_27 {H : Type} {enc : TypeId × Value → H} {w : World} {base : Nat} {spare : Nat → Bool} {held : Bool} {fuel : Nat} {cs : List Value} {x : DataW H × List MemPlace} (h : DataW.trod enc prog w base spare held fuel 27 cs = some x) : ∃ a : T_Table, DRels w (okW w) (enc_Table a) cs := by
  obtain ⟨xs, m, _, _, hl, hxl, hg⟩ := DataW.trod_struct underlying27 h
  have hl : cs.length = 6 := hl.trans (by kernel_rfl)
  replace hxl : xs.length = 3 := hxl
  have e0 : prog.cellsOf 23 = 4 := by kernel_rfl
  have h0 : DataW.trod enc prog w base spare held m 23 ((cs.drop 0).take (prog.cellsOf 23)) = xs[0]? := hg 0 _ rfl
  simp only [e0, Nat.reduceMul] at h0
  obtain ⟨b0, r0⟩ := o_23 (h0.trans (List.getElem?_eq_getElem (by omega)))
  have e1 : prog.cellsOf 24 = 1 := by kernel_rfl
  have h1 : DataW.trod enc prog w base spare held m 24 ((cs.drop 4).take (prog.cellsOf 24)) = xs[1]? := hg 1 _ rfl
  simp only [e1, Nat.reduceMul] at h1
  obtain ⟨b1, r1⟩ := o_24 (h1.trans (List.getElem?_eq_getElem (by omega)))
  have e2 : prog.cellsOf 25 = 1 := by kernel_rfl
  have h2 : DataW.trod enc prog w base spare held m 25 ((cs.drop 5).take (prog.cellsOf 25)) = xs[2]? := hg 2 _ rfl
  simp only [e2, Nat.reduceMul] at h2
  obtain ⟨b2, r2⟩ := o_25 (h2.trans (List.getElem?_eq_getElem (by omega)))
  have r := (DRels.cat (DRels.cat r0 r1) r2)
  refine ⟨T_Table.mk b0 b1 b2, ?_⟩
  have hf := full hl
  rw [← hf]
  exact r
theorem o_38 {H : Type} {enc : TypeId × Value → H} {w : World} {base : Nat} {spare : Nat → Bool} {held : Bool} {fuel : Nat} {cs : List Value} {x : DataW H × List MemPlace} (h : DataW.trod enc prog w base spare held fuel 38 cs = some x) : ∃ a : (List T_Table), DRels w (okW w) ((encL enc_Table) a) cs:= oSl (f := enc_Table) (sz := 6) underlying38 (by kernel_rfl) (by decide) (fun _ => rfl) (fun _ _ _ h => o_27 h) h
theorem o_49 {H : Type} {enc : TypeId × Value → H} {w : World} {base : Nat} {spare : Nat → Bool} {held : Bool} {fuel : Nat} {cs : List Value} {x : DataW H × List MemPlace} (h : DataW.trod enc prog w base spare held fuel 49 cs = some x) : ∃ a : T_Env, DRels w (okW w) (enc_Env a) cs := by
  obtain ⟨xs, m, _, _, hl, hxl, hg⟩ := DataW.trod_struct underlying49 h
  have hl : cs.length = 6 := hl.trans (by kernel_rfl)
  replace hxl : xs.length = 3 := hxl
  have e0 : prog.cellsOf 47 = 4 := by kernel_rfl
  have h0 : DataW.trod enc prog w base spare held m 47 ((cs.drop 0).take (prog.cellsOf 47)) = xs[0]? := hg 0 _ rfl
  simp only [e0, Nat.reduceMul] at h0
  obtain ⟨b0, r0⟩ := o_47 (h0.trans (List.getElem?_eq_getElem (by omega)))
  have e1 : prog.cellsOf 38 = 1 := by kernel_rfl
  have h1 : DataW.trod enc prog w base spare held m 38 ((cs.drop 4).take (prog.cellsOf 38)) = xs[1]? := hg 1 _ rfl
  simp only [e1, Nat.reduceMul] at h1
  obtain ⟨b1, r1⟩ := o_38 (h1.trans (List.getElem?_eq_getElem (by omega)))
  have e2 : prog.cellsOf 25 = 1 := by kernel_rfl
  have h2 : DataW.trod enc prog w base spare held m 25 ((cs.drop 5).take (prog.cellsOf 25)) = xs[2]? := hg 2 _ rfl
  simp only [e2, Nat.reduceMul] at h2
  obtain ⟨b2, r2⟩ := o_25 (h2.trans (List.getElem?_eq_getElem (by omega)))
  have r := (DRels.cat (DRels.cat r0 r1) r2)
  refine ⟨T_Env.mk b0 b1 b2, ?_⟩
  have hf := full hl
  rw [← hf]
  exact r
theorem interpPartsOwn : ownKnob Try.prog.godebug = none := by kernel_rfl
theorem interpPartsLaid : laidOutB Try.prog = true := by kernel_rfl
set_option maxRecDepth 100000 in
theorem interpParts_lifted (os : Os) (started : os.Started) (H : Type) (enc : TypeId × Value → H) :
    ReturnsInHanded {} Try.checked os 11 .any (Rows.interpPartsSpec.pre6 enc Try.prog Try.f11 Rows.interpPartsRow.domain false) (Rows.interpPartsSpec.post enc Try.prog Try.f11 false true false false) := by
  refine returnsInHanded_of_change (C := Try.checked) interpPartsOwn started (by kernel_rfl) Try.func11
    (ChangeSpec.witness6 (enc := enc) (C := Try.checked) false ⟨#[], #[.agg #[.int .i64 0, .slice none 0 0], .agg #[.int .u32 0, .int .u32 0, .int .u32 0, .int .u32 0, .slice none 0 0, .int .u32 0], .agg #[.int .u32 0, .int .u32 0, .int .u32 0, .int .u32 0], .int .u32 0], []⟩ 8 (by kernel_rfl) (by kernel_rfl) (by kernel_rfl) (by kernel_rfl)) ?_
  intro W base args ds gs before hval0 hW _ _
  have hval : ∀ (j : Nat) t v, Try.f11.params[j]? = some t → args[j]? = some v → Value.okWide Try.prog W .any base t v := hval0
  have hW' := hW
  obtain ⟨p, q, hA0, hV, rfl, hfz, hnd⟩ := hW
  have hA : DataW.TrodAll enc Try.prog W 0 (fun _ => true) true Try.f11.params.toList args.toList ds p := hA0
  rw [Try.params11] at hA hval
  obtain ⟨l⟩ := args
  obtain ⟨v0, l0, d0, ds0, p0, q0, rfl, rfl, _, h0, hA1⟩ := trodAll_cons hA
  obtain ⟨v1, l1, d1, ds1, p1, q1, rfl, rfl, _, h1, hA2⟩ := trodAll_cons hA1
  obtain ⟨v2, l2, d2, ds2, p2, q2, rfl, rfl, _, h2, hA3⟩ := trodAll_cons hA2
  obtain ⟨v3, l3, d3, ds3, p3, q3, rfl, rfl, _, h3, hA4⟩ := trodAll_cons hA3
  obtain ⟨rfl, rfl, _⟩ := trodAll_nil hA4
  obtain ⟨rfl, rfl⟩ := trodVars_none hV
  obtain ⟨cs0, rfl, _⟩ := okWide_struct underlying74 (hval 0 _ v0 rfl rfl)
  obtain ⟨fuel0, hf0⟩ := h0
  obtain ⟨a0, r0⟩ := o_74 hf0
  obtain ⟨cs1, rfl, _⟩ := okWide_struct underlying49 (hval 1 _ v1 rfl rfl)
  obtain ⟨fuel1, hf1⟩ := h1
  obtain ⟨a1, r1⟩ := o_49 hf1
  obtain ⟨cs2, rfl⟩ := okWide_arr underlying47 (hval 2 _ v2 rfl rfl)
  obtain ⟨fuel2, hf2⟩ := h2
  obtain ⟨a2, r2⟩ := o_47 hf2
  obtain ⟨z3, rfl⟩ := okWide_int underlying25 (hval 3 _ v3 rfl rfl)
  obtain ⟨fuel3, hf3⟩ := h3
  obtain ⟨a3, r3⟩ := o_25 hf3
  refine (Ctr.law (c_drydocklaw07_InterpParts a0 a1 a2 a3 (parts_true a0 a1 a2 a3)) rfl (VRels.of1 (.cons (arg_agg r0) (.cons (arg_agg r1) (.cons (arg_agg r2) (.cons (arg_one r3) (.nil))))))).mono fun e W' ⟨he, hw⟩ => ?_
  subst he
  exact ⟨_, rfl, post_law interpPartsLaid hW' rfl rfl (by kernel_rfl) rfl rfl rfl hw⟩
theorem interpParts_holds : Rows.InterpPartsSaid :=
  OpenClaim.holds_of_wide 11 Try.f11 rfl rfl rfl rfl rfl rfl rfl ⟨rfl, rfl, rfl, rfl, rfl⟩ rfl rfl rfl rfl rfl (by kernel_rfl) Try.func11 (by kernel_rfl)
    (of_decide_eq_true (by kernel_rfl)) (by unfold Func.isWrapper; first | (rw [if_pos (by decide +kernel)]; kernel_rfl) | (rw [if_neg (by decide +kernel)]; exact ⟨rfl, rfl⟩))
    (fun os started H enc _ => interpParts_lifted os started H enc)
end Go.Proofs.Ytkhanhhingicpaa
