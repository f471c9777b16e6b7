/- Packed texts: Hk0, Gd, Ge, Zinstin, Zinstrules, ZinstMay, Zprogfine1, ZslicesIndexFuncapiInstapiInstprogfine1, ZslicesContainsFuncapiInstapiInstprogfine1, Zprogfine, ZprogMay1, ZslicesIndexFuncapiFnapiFnprogMay1, ZslicesContainsFuncapiFnapiFnprogMay1, ZprogMay, I1, Zinterprunfail, Zinterpframeget, Zinterpframeput, Zinterpframeword, Zaludeeds1, Zaludeeds10, Zaludeeds11, Zaludeeds2, Zaludeeds3, Zaludeeds4, Zaludeeds5, Zaludeeds6, Zaludeeds7, Zaludeeds8, Zaludeeds9, Zaludeeds, ZaluDo, Zinterpframealu, ZaluHolds, Zinterpframejump, Zinterpframewords, Zinterpframeback, Zinterpframehanded. -/
import Derived.Test.YtkhanhhingicpaaB5
set_option linter.unusedVariables false
set_option linter.unusedSimpArgs false
set_option maxHeartbeats 4000000
set_option maxRecDepth 100000
namespace Go.Proofs.Ytkhanhhingicpaa
open Go Go.RowKit Go.Proofs.Try
structure Left (a : List UInt32) (r : T_Env × UInt32 × Int) (e : T_Env) (j : Nat) (u t : T_Table) : Prop where
  s : u.S = t.S
  m : (toT t).may = true → (toT u).may = true
  own : u = t ∨ (r.2.2 = 0 ∧ a[0]?.map UInt32.toNat = some j)
structure Kept (n : Int) (e : T_Env) (a : List UInt32) (r : T_Env × UInt32 × Int) : Prop where
  ctx : r.1.Ctx = e.Ctx
  len : r.1.T.length = e.T.length
  seed : n ≠ 4 → r.1.Seed = e.Seed
  code : r.2.2 = 0 ∨ r.2.2 = 10
  tab : ∀ (j : Nat) (u t : T_Table), r.1.T[j]? = some u → e.T[j]? = some t → Left a r e j u t
theorem kept {n : Int} {e : T_Env} {a : List UInt32} {r : T_Env × UInt32 × Int} (h : CallR n e a r) : (r.2.2 = 1 ∧ r.1.T = []) ∨ Kept n e a r := by
  have same : ∀ (c : Int) (j : Nat) (u t : T_Table), e.T[j]? = some u → e.T[j]? = some t → u = t := fun c j u t hu ht => by
    rw [hu] at ht
    injection ht
  cases h with
  | arg h => exact .inl ⟨rfl, rfl⟩
  | draw h ha d =>
    right
    exact ⟨rfl, rfl, fun q => absurd h q, .inl rfl, fun j u t hu ht => by
      have := same 0 j u t hu ht
      subst this
      exact ⟨rfl, id, .inl rfl⟩⟩
  | fault h hn x hx hw =>
    right
    exact ⟨rfl, rfl, fun q => rfl, .inr rfl, fun j u t hu ht => by
      have := same 0 j u t hu ht
      subst this
      exact ⟨rfl, id, .inl rfl⟩⟩
  | act h hn x t0 u0 v hx ht0 hm hf hfd hA =>
    right
    obtain ⟨k1, k2⟩ := act_keeps hm hA
    refine ⟨rfl, List.length_set, fun q => rfl, .inl rfl, fun j u t hu ht => ?_⟩
    have hu' : (e.T.set x.toNat u0)[j]? = some u := hu
    rw [List.getElem?_set] at hu'
    split at hu'
    · rename_i hj
      subst hj
      rw [ht0] at ht
      injection ht with ht
      subst ht
      rw [if_pos (get_lt ht0)] at hu'
      injection hu' with hu'
      subst hu'
      exact ⟨k2, fun _ => k1, .inr ⟨rfl, by rw [hx]; rfl⟩⟩
    · have := same 0 j u t hu' ht
      subst this
      exact ⟨rfl, id, .inl rfl⟩
/-! ### Parts, one behind the other -/
section
variable {P : Program} {nid : Nat} {s : St} {K : AV → Wr → Prop} {K2 : List Ky → AV → Wr → Prop} {rs : List Ky} {c : Bool} {i : Nat} {r : List (Nat × Operand)} {k : List (Nat × AV) → Q}
theorem parts_nil : partsQ c [] k = k [] := Eq.trans rfl rfl
theorem wpQ_partT (t : Nat) : wpQ P nid s (partsQ c ((i, .tmp t) :: r) k) K = wpS (fun v => wpQ P nid s (strip c v fun v => partsQ c r fun l => k ((i, v) :: l)) K) (look s.tm t) := by
  simp only [partsQ, opd, opd0, wpQ_slot]
theorem wpQ_partF (f : FuncId) : wpQ P nid s (partsQ c ((i, .func f) :: r) k) K = wpQ P nid s (partsQ c r fun l => k ((i, .fn (.func f) [] []) :: l)) K := Eq.trans rfl rfl
theorem wpQ_partC (v : Value) : wpQ P nid s (partsQ c ((i, .const v) :: r) k) K = wpQ P nid s (strip c (ofV v) fun v => partsQ c r fun l => k ((i, v) :: l)) K := Eq.trans rfl rfl
theorem wpQD_partT (t : Nat) : wpQD P nid s (partsQ c ((i, .tmp t) :: r) k) rs K2 = wpS (fun v => wpQD P nid s (strip c v fun v => partsQ c r fun l => k ((i, v) :: l)) (.t t :: rs) K2) (look s.tm t) := by
  simp only [partsQ, opd, opd0, wpQD_slot]
theorem wpQD_partF (f : FuncId) : wpQD P nid s (partsQ c ((i, .func f) :: r) k) rs K2 = wpQD P nid s (partsQ c r fun l => k ((i, .fn (.func f) [] []) :: l)) rs K2 := Eq.trans rfl rfl
theorem wpQD_partC (v : Value) : wpQD P nid s (partsQ c ((i, .const v) :: r) k) rs K2 = wpQD P nid s (strip c (ofV v) fun v => partsQ c r fun l => k ((i, v) :: l)) rs K2 := Eq.trans rfl rfl
attribute [push_cast] parts_nil wpQ_partT wpQ_partF wpQ_partC wpQD_partT wpQD_partF wpQD_partC
end
theorem wrap_u64_0 : IntKind.u64.wrap 0 = 0 := by decide
theorem wrap_u64_1 : IntKind.u64.wrap 1 = 1 := by decide
theorem wrap_u64_2 : IntKind.u64.wrap 2 = 2 := by decide
theorem wrap_u64_4 : IntKind.u64.wrap 4 = 4 := by decide
theorem wrap_u64_5 : IntKind.u64.wrap 5 = 5 := by decide
theorem wrap_u64_8 : IntKind.u64.wrap 8 = 8 := by decide
theorem wrap_u64_16 : IntKind.u64.wrap 16 = 16 := by decide
theorem wrap_u32_0 : IntKind.u32.wrap 0 = 0 := by decide
theorem wrap_u32_1 : IntKind.u32.wrap 1 = 1 := by decide
theorem wrap_u32_2 : IntKind.u32.wrap 2 = 2 := by decide
theorem wrap_u32_4 : IntKind.u32.wrap 4 = 4 := by decide
theorem wrap_u32_5 : IntKind.u32.wrap 5 = 5 := by decide
theorem wrap_u32_8 : IntKind.u32.wrap 8 = 8 := by decide
theorem wrap_u32_16 : IntKind.u32.wrap 16 = 16 := by decide
theorem wrap_i64_0 : IntKind.i64.wrap 0 = 0 := by decide
theorem wrap_i64_1 : IntKind.i64.wrap 1 = 1 := by decide
theorem wrap_i64_2 : IntKind.i64.wrap 2 = 2 := by decide
theorem wrap_i64_4 : IntKind.i64.wrap 4 = 4 := by decide
theorem wrap_i64_5 : IntKind.i64.wrap 5 = 5 := by decide
theorem wrap_i64_8 : IntKind.i64.wrap 8 = 8 := by decide
theorem wrap_i64_16 : IntKind.i64.wrap 16 = 16 := by decide
attribute [push_cast] wrap_u64_0 wrap_u64_1 wrap_u64_2 wrap_u64_4 wrap_u64_5 wrap_u64_8 wrap_u64_16 wrap_u32_0 wrap_u32_1 wrap_u32_2 wrap_u32_4 wrap_u32_5 wrap_u32_8 wrap_u32_16 wrap_i64_0 wrap_i64_1 wrap_i64_2 wrap_i64_4 wrap_i64_5 wrap_i64_8 wrap_i64_16
/-! ### An open place of four words among other cells -/
theorem at4_0 (a : A4 UInt32) (r : List AV) {n : Nat} (h : n < 4) : (.raw (.int .u32 (a.a0.toNat : Int)) :: .raw (.int .u32 (a.a1.toNat : Int)) :: .raw (.int .u32 (a.a2.toNat : Int)) :: .raw (.int .u32 (a.a3.toNat : Int)) :: r : List AV)[n]? = some (.raw (.int .u32 ((a.get n).toNat : Int))) := by
  rcases A4.cases h with rfl | rfl | rfl | rfl <;> rfl
theorem at4_1 (a : A4 UInt32) (c : AV) (r : List AV) {n : Nat} (h : n < 4) : (c :: .raw (.int .u32 (a.a0.toNat : Int)) :: .raw (.int .u32 (a.a1.toNat : Int)) :: .raw (.int .u32 (a.a2.toNat : Int)) :: .raw (.int .u32 (a.a3.toNat : Int)) :: r : List AV)[1 + n]? = some (.raw (.int .u32 ((a.get n).toNat : Int))) := by
  rcases A4.cases h with rfl | rfl | rfl | rfl <;> rfl
attribute [push_cast] at4_0 at4_1
theorem at_A8_inst_rule (a : A8 T_inst_rule) {n : Nat} (hn : n < 8) : ((encA8 enc_inst_rule a).drop (n * 5)).take 5 = enc_inst_rule (a.get n) := encA8_at (f := enc_inst_rule) (k := 5) (fun _ => rfl) a hn
attribute [push_cast] at_A8_inst_rule
theorem len_A8_inst_rule (a : A8 T_inst_rule) : (encA8 enc_inst_rule a).length = 40 := rfl
attribute [push_cast] len_A8_inst_rule
noncomputable def p_inst_in_J1 (i_1 : Bool) : Option (Bool) :=
  some i_1
noncomputable def p_inst_in (a0 : Int) (a1 : Int) : Option (Bool) :=
  po (
  cond (decide (a0 ≥ 0)) (
  some (decide (a0 < a1))) (
  some false)) (fun x => p_inst_in_J1 x)
theorem c_inst_in (a0 : Int) (a1 : Int) {r : Bool} (h : p_inst_in a0 a1 = some r) : Ctr prog 108 [.raw (.int .i64 a0), .raw (.int .i64 a1)] [] (.raw (.bool r)) [] := by
 unfold p_inst_in at h;refine Ctr.ofW tabOk func108 rfl call108 0 _ ntmps108 [.tmp 4] rfl rfl rfl (fun B => ?_);refine VC.seqF tabOkF [some 4] [0,1] rfl rfl (fun K hK => ?_);push_cast;(repeat refine .intro (by omega) ?_);refine hK _ ?_;clear hK K;obtain ⟨v1,h,hk1⟩ := po_some h;refine VC.seqJ (X := Bool) (fun x => p_inst_in_J1 x = some r) (fun x => ⟨[(4,.raw (.bool x))],[],9,12,0⟩) ?_ ?_
 ·rcases Bool.eq_false_or_eq_true (decide (a0 ≥ 0)) with hb2 | hb2
  ·replace h := cond_yes hb2 h;refine VC.lastF tabOkF [some 5,some 6,some 7,some 8,some 9,some 10,some 11,some 4] rfl rfl (fun K hK => ?_);push_cast [hb2];(repeat refine .intro (by omega) ?_);refine hK _ ?_;clear hK K;have hv := Option.some.inj h;rw [← hv] at hk1;refine Exists.intro ((decide (a0 < a1))) (And.intro hk1 ?_);refine slo ?_ ?_ rfl rfl
   ·push_cast [hb2]
   ·push_cast [hb2]
  ·replace h := cond_no hb2 h;refine VC.lastF tabOkF [some 5,some 6,some 7,some 8,some 9,some 10,some 11,some 4] rfl rfl (fun K hK => ?_);push_cast [hb2];(repeat refine .intro (by omega) ?_);refine hK _ ?_;clear hK K;have hv := Option.some.inj h;rw [← hv] at hk1;refine Exists.intro (false) (And.intro hk1 ?_);refine slo ?_ ?_ rfl rfl
   ·push_cast [hb2]
   ·push_cast [hb2]
 ·rintro i_1 h;replace h : p_inst_in_J1 i_1 = some r := h;(try push_cast);unfold p_inst_in_J1 at h;refine VC.ret ?_;have hr := Option.some.inj h;subst hr;refine endP (Sub.lo _) (Post.ret ?_ ?_ ?_)
  ·push_cast
  ·push_cast
  ·rfl
noncomputable def p_inst_rules : Option ((A8 T_inst_rule)) :=
  some (A8.mk (T_inst_rule.mk 11 true true 0 true) (T_inst_rule.mk 5 true true 65535 true) (T_inst_rule.mk 1 true true 0 true) (T_inst_rule.mk 1 true true 0 true) (T_inst_rule.mk 1 true true 0 true) (T_inst_rule.mk 1 false false 0 true) (T_inst_rule.mk 1 false false 0 true) (T_inst_rule.mk 1 false false 0 false))
theorem c_inst_rules {r : (A8 T_inst_rule)} (h : p_inst_rules = some r) : Ctr prog 109 [] [] (.agg ((encA8 enc_inst_rule) r)) [] := by
 unfold p_inst_rules at h;refine Ctr.ofW tabOk func109 rfl call109 0 _ ntmps109 [.cell 0 141] rfl rfl rfl (fun B => ?_);refine VC.seqF tabOkF [some 0] [0] rfl rfl (fun K hK => ?_);push_cast (maxSteps := 9000000) [-partsQ];(repeat refine .intro (by omega) ?_);refine hK _ ?_;clear hK K;refine VC.seqF tabOkF [some 1,some 2,some 3,some 4,some 5,some 6,some 7,some 8,some 9,none] [0] rfl rfl (fun K hK => ?_);push_cast (maxSteps := 9000000) [-partsQ];(repeat refine .intro (by omega) ?_);refine hK _ ?_;clear hK K;refine VC.ret ?_;have hr := Option.some.inj h;subst hr;refine endP (Sub.lo _) (Post.ret ?_ ?_ ?_)
 ·push_cast (maxSteps := 9000000) [-partsQ,encA8]
 ·push_cast (maxSteps := 9000000) [-partsQ,encA8]
 ·rfl
noncomputable def p_inst_May_J11 (a0 : T_Inst) (r8 : (A8 T_inst_rule)) (i_2 : Bool) : Option (T_inst_rule) :=
  cond i_2 (
  some (T_inst_rule.mk ((r8.get a0.Op.toNat).fns) false false ((r8.get a0.Op.toNat).off) false)) (
  some (r8.get a0.Op.toNat))
noncomputable def p_inst_May_J30 (i_5 : Bool) : Option (Bool) :=
  some i_5
noncomputable def p_inst_May_J32 (i_6 : Bool) : Option (Bool) :=
  some i_6
noncomputable def p_inst_May_J14 (a0 : T_Inst) (i_4 : Bool) : Option (Bool) :=
  cond a0.Reg (
  po (
  cond i_4 (
  some ((a0.Imm.toNat : Int) == 0)) (
  some false)) (fun x => p_inst_May_J30 x)) (
  po (
  cond i_4 (
  some (a0.Src == 0)) (
  some false)) (fun x => p_inst_May_J32 x))
noncomputable def p_inst_May_J10 (a0 : T_Inst) (s_3 : T_inst_rule) : Option (Bool) :=
  po (
  po (p_inst_in a0.Fn s_3.fns) fun r15 =>
  cond r15 (
  po (p_inst_in a0.Off (IntKind.i64.wrap (s_3.off + 1))) fun r17 =>
  cond r17 (
  cond s_3.dst (
  cond s_3.word (
  cond s_3.imm (
  some true) (
  some ((a0.Imm.toNat : Int) == 0))) (
  cond a0.Reg (
  some false) (
  cond s_3.imm (
  some true) (
  some ((a0.Imm.toNat : Int) == 0))))) (
  cond (a0.Dst == 0) (
  cond s_3.word (
  cond s_3.imm (
  some true) (
  some ((a0.Imm.toNat : Int) == 0))) (
  cond a0.Reg (
  some false) (
  cond s_3.imm (
  some true) (
  some ((a0.Imm.toNat : Int) == 0))))) (
  some false))) (
  some false)) (
  some false)) (fun x => p_inst_May_J14 a0 x)
noncomputable def p_inst_May_J1 (a0 : T_Inst) (i_1 : Bool) : Option (Bool) :=
  cond i_1 (
  some false) (
  po (p_inst_rules) fun r8 =>
  pg (0 ≤ a0.Op ∧ a0.Op < 8) <|
  po (
  po (
  cond (a0.Op == 1) (
  some (a0.Fn == 0)) (
  some false)) (fun x => p_inst_May_J11 a0 r8 x)) (fun x => p_inst_May_J10 a0 x))
noncomputable def p_inst_May (a0 : T_Inst) : Option (Bool) :=
  po (
  po (p_inst_in a0.Op 8) fun r2 =>
  cond r2 (
  po (p_inst_in a0.Dst 8) fun r4 =>
  cond r4 (
  po (p_inst_in a0.Src 8) fun r6 =>
  some (!r6)) (
  some true)) (
  some true)) (fun x => p_inst_May_J1 a0 x)
theorem c_inst_May (a0 : T_Inst) {r : Bool} (h : p_inst_May a0 = some r) : Ctr prog 100 [.agg (enc_Inst a0)] [] (.raw (.bool r)) [] := by
 unfold p_inst_May at h;refine Ctr.ofW tabOk func100 rfl call100 0 _ ntmps100 [.tmp 2] rfl rfl rfl (fun B => ?_);refine VC.seqF tabOkF [some 1,some 2] [1] rfl rfl (fun K hK => ?_);push_cast;(repeat refine .intro (by omega) ?_);refine hK _ ?_;clear hK K;refine VC.seq ?_;obtain ⟨v1,h,hk1⟩ := po_some h;refine VC.seqJ (X := Bool) (fun x => p_inst_May_J1 a0 x = some r) (fun x => ⟨[(1,.ref 0 0),(20,.raw (.bool x))],[(0,.box 76 [.raw (.int .i64 a0.Op),.raw (.int .i64 a0.Fn),.raw (.int .i64 a0.Dst),.raw (.int .i64 a0.Src),.raw (.bool a0.Reg),.raw (.int .i64 a0.Off),.raw (.int .u32 (a0.Imm.toNat : Int))])],18,90,0⟩) ?_ ?_
 ·obtain ⟨r2,hr2,h⟩ := po_some h;rcases Bool.eq_false_or_eq_true r2 with hb3 | hb3
  ·replace h := cond_yes hb3 h;obtain ⟨r4,hr4,h⟩ := po_some h;rcases Bool.eq_false_or_eq_true r4 with hb5 | hb5
   ·replace h := cond_yes hb5 h;obtain ⟨r6,hr6,h⟩ := po_some h;refine VC.lastF tabOkF [some 5,some 6,some 7,some 8,some 9,some 10,some 11,some 12,some 13,some 14,some 15,some 16,some 17,some 18,some 19,some 20] rfl rfl (fun K hK => ?_);refine runOps_cut 8 (fun K2 hK2 => ?_);push_cast [hb3,hb5];(repeat refine .intro (by omega) ?_);refine callP (Ctr.lo (c_inst_in a0.Op 8 hr2)) rfl ?_;push_cast [hb3,hb5];(repeat refine .intro (by omega) ?_);refine callP (Ctr.lo (c_inst_in a0.Dst 8 hr4)) rfl ?_;push_cast [hb3,hb5];(repeat refine .intro (by omega) ?_);refine hK2 _ _ ?_;clear hK2 K2;simp only [List.drop_succ_cons,List.drop_zero];push_cast [hb3,hb5];(repeat refine .intro (by omega) ?_);refine callP (Ctr.lo (c_inst_in a0.Src 8 hr6)) rfl ?_;push_cast [hb3,hb5];(repeat refine .intro (by omega) ?_);refine hK _ ?_;clear hK K;have hv := Option.some.inj h;rw [← hv] at hk1;refine Exists.intro ((!r6)) (And.intro hk1 ?_);refine slo ?_ ?_ rfl rfl
    ·push_cast [hb3,hb5]
    ·push_cast [hb3,hb5]
   ·replace h := cond_no hb5 h;refine VC.lastF tabOkF [some 5,some 6,some 7,some 8,some 9,some 10,some 11,some 12,some 13,some 14,some 15,some 16,some 17,some 18,some 19,some 20] rfl rfl (fun K hK => ?_);refine runOps_cut 8 (fun K2 hK2 => ?_);push_cast [hb3,hb5];(repeat refine .intro (by omega) ?_);refine callP (Ctr.lo (c_inst_in a0.Op 8 hr2)) rfl ?_;push_cast [hb3,hb5];(repeat refine .intro (by omega) ?_);refine callP (Ctr.lo (c_inst_in a0.Dst 8 hr4)) rfl ?_;push_cast [hb3,hb5];(repeat refine .intro (by omega) ?_);refine hK2 _ _ ?_;clear hK2 K2;simp only [List.drop_succ_cons,List.drop_zero];push_cast [hb3,hb5];(repeat refine .intro (by omega) ?_);refine hK _ ?_;clear hK K;have hv := Option.some.inj h;rw [← hv] at hk1;refine Exists.intro (true) (And.intro hk1 ?_);refine slo ?_ ?_ rfl rfl
    ·push_cast [hb3,hb5]
    ·push_cast [hb3,hb5]
  ·replace h := cond_no hb3 h;refine VC.lastF tabOkF [some 5,some 6,some 7,some 8,some 9,some 10,some 11,some 12,some 13,some 14,some 15,some 16,some 17,some 18,some 19,some 20] rfl rfl (fun K hK => ?_);refine runOps_cut 8 (fun K2 hK2 => ?_);push_cast [hb3];(repeat refine .intro (by omega) ?_);refine callP (Ctr.lo (c_inst_in a0.Op 8 hr2)) rfl ?_;push_cast [hb3];(repeat refine .intro (by omega) ?_);refine hK2 _ _ ?_;clear hK2 K2;simp only [List.drop_succ_cons,List.drop_zero];push_cast [hb3];(repeat refine .intro (by omega) ?_);refine hK _ ?_;clear hK K;have hv := Option.some.inj h;rw [← hv] at hk1;refine Exists.intro (true) (And.intro hk1 ?_);refine slo ?_ ?_ rfl rfl
   ·push_cast [hb3]
   ·push_cast [hb3]
 ·rintro i_1 h;replace h : p_inst_May_J1 a0 i_1 = some r := h;(try push_cast);unfold p_inst_May_J1 at h;refine VC.cond rfl rfl (fun hc7 => ?_) (fun hc7 => ?_)
  ·have hb7 : i_1 = true := by simpa using hc7
   replace h := cond_yes hb7 h;refine VC.seqF tabOkF [some 2] [2] rfl rfl (fun K hK => ?_);push_cast [hb7];(repeat refine .intro (by omega) ?_);refine hK _ ?_;clear hK K;refine VC.ret ?_;have hr := Option.some.inj h;subst hr;refine endP (Sub.lo _) (Post.ret ?_ ?_ ?_)
   ·push_cast [hb7]
   ·push_cast [hb7]
   ·rfl
  ·have hb7 : i_1 = false := by simpa using hc7
   replace h := cond_no hb7 h;refine VC.skip ?_;obtain ⟨r8,hr8,h⟩ := po_some h;obtain ⟨hg9,h⟩ := pg_some h;have hg9n : a0.Op.toNat < 8 := by omega
   refine VC.seqFD tabOkF hmixO [some 21,some 22,some 23,some 24,some 3,none] [1,3] rfl rfl rfl (fun K hK => ?_);push_cast [hb7,hg9,hg9n];(repeat refine .intro (by omega) ?_);refine callPD (Ctr.lo (c_inst_rules  hr8)) rfl ?_;push_cast [hb7,hg9,hg9n];(repeat refine .intro (by omega) ?_);refine ⟨rfl,hK _ ?_⟩;clear hK K;obtain ⟨v10,h,hk10⟩ := po_some h;refine VC.seqJ (X := T_inst_rule) (fun x => p_inst_May_J10 a0 x = some r) (fun x => ⟨[(1,.ref 0 0),(3,.ref 22 0)],[(0,.box 76 [.raw (.int .i64 a0.Op),.raw (.int .i64 a0.Fn),.raw (.int .i64 a0.Dst),.raw (.int .i64 a0.Src),.raw (.bool a0.Reg),.raw (.int .i64 a0.Off),.raw (.int .u32 (a0.Imm.toNat : Int))]),(22,.box 140 [.raw (.int .i64 x.fns),.raw (.bool x.dst),.raw (.bool x.word),.raw (.int .i64 x.off),.raw (.bool x.imm)])],38,90,0⟩) ?_ ?_
   ·obtain ⟨v11,h,hk11⟩ := po_some h;refine VC.seqJ (X := Bool) (fun x => p_inst_May_J11 a0 r8 x = some v10) (fun x => ⟨[(1,.ref 0 0),(3,.ref 22 0),(32,.raw (.bool x))],[(0,.box 76 [.raw (.int .i64 a0.Op),.raw (.int .i64 a0.Fn),.raw (.int .i64 a0.Dst),.raw (.int .i64 a0.Src),.raw (.bool a0.Reg),.raw (.int .i64 a0.Off),.raw (.int .u32 (a0.Imm.toNat : Int))]),(22,.box 140 [.raw (.int .i64 ((r8.get a0.Op.toNat).fns)),.raw (.bool ((r8.get a0.Op.toNat).dst)),.raw (.bool ((r8.get a0.Op.toNat).word)),.raw (.int .i64 ((r8.get a0.Op.toNat).off)),.raw (.bool ((r8.get a0.Op.toNat).imm))])],32,90,0⟩) ?_ ?_
    ·rcases Bool.eq_false_or_eq_true (a0.Op == 1) with hb12 | hb12
     ·replace h := cond_yes hb12 h;refine VC.lastF tabOkF [some 25,some 26,some 27,some 28,some 29,some 30,some 31,some 32] rfl rfl (fun K hK => ?_);push_cast [hb7,hg9,hg9n,hb12];(repeat refine .intro (by omega) ?_);refine hK _ ?_;clear hK K;have hv := Option.some.inj h;rw [← hv] at hk11;refine Exists.intro ((a0.Fn == 0)) (And.intro hk11 ?_);refine slo ?_ ?_ rfl rfl
      ·push_cast [hb7,hb12]
      ·push_cast [hb7,hb12]
     ·replace h := cond_no hb12 h;refine VC.lastF tabOkF [some 25,some 26,some 27,some 28,some 29,some 30,some 31,some 32] rfl rfl (fun K hK => ?_);push_cast [hb7,hg9,hg9n,hb12];(repeat refine .intro (by omega) ?_);refine hK _ ?_;clear hK K;have hv := Option.some.inj h;rw [← hv] at hk11;refine Exists.intro (false) (And.intro hk11 ?_);refine slo ?_ ?_ rfl rfl
      ·push_cast [hb7,hb12]
      ·push_cast [hb7,hb12]
    ·rintro i_2 h;replace h : p_inst_May_J11 a0 r8 i_2 = some v10 := h;(try push_cast);unfold p_inst_May_J11 at h;refine VC.cond rfl rfl (fun hc13 => ?_) (fun hc13 => ?_)
     ·have hb13 : i_2 = true := by simpa using hc13
      replace h := cond_yes hb13 h;refine VC.lastF tabOkF [some 33,none,some 34,none,some 35,none] rfl rfl (fun K hK => ?_);push_cast [hb7,hg9,hg9n,hb13];(repeat refine .intro (by omega) ?_);refine hK _ ?_;clear hK K;have hv := Option.some.inj h;rw [← hv] at hk10;refine Exists.intro ((T_inst_rule.mk ((r8.get a0.Op.toNat).fns) false false ((r8.get a0.Op.toNat).off) false)) (And.intro hk10 ?_);refine slo ?_ ?_ rfl rfl
      ·push_cast [hb7,hb13]
      ·push_cast [hb7,hb13]
     ·have hb13 : i_2 = false := by simpa using hc13
      replace h := cond_no hb13 h;refine VC.skip ?_;have hv := Option.some.inj h;rw [← hv] at hk10;refine Exists.intro ((r8.get a0.Op.toNat)) (And.intro hk10 ?_);refine slo ?_ ?_ rfl rfl
      ·push_cast [hb7,hb13]
      ·push_cast [hb7,hb13]
   ·rintro s_3 h;replace h : p_inst_May_J10 a0 s_3 = some r := h;(try push_cast);unfold p_inst_May_J10 at h;obtain ⟨v14,h,hk14⟩ := po_some h;refine VC.seqJ (X := Bool) (fun x => p_inst_May_J14 a0 x = some r) (fun x => ⟨[(1,.ref 0 0),(4,.raw (.bool x))],[(0,.box 76 [.raw (.int .i64 a0.Op),.raw (.int .i64 a0.Fn),.raw (.int .i64 a0.Dst),.raw (.int .i64 a0.Src),.raw (.bool a0.Reg),.raw (.int .i64 a0.Off),.raw (.int .u32 (a0.Imm.toNat : Int))])],79,90,0⟩) ?_ ?_
    ·obtain ⟨r15,hr15,h⟩ := po_some h;rcases Bool.eq_false_or_eq_true r15 with hb16 | hb16
     ·replace h := cond_yes hb16 h;obtain ⟨r17,hr17,h⟩ := po_some h;rcases Bool.eq_false_or_eq_true r17 with hb18 | hb18
      ·replace h := cond_yes hb18 h;rcases Bool.eq_false_or_eq_true s_3.dst with hb19 | hb19
       ·replace h := cond_yes hb19 h;rcases Bool.eq_false_or_eq_true s_3.word with hb20 | hb20
        ·replace h := cond_yes hb20 h;rcases Bool.eq_false_or_eq_true s_3.imm with hb21 | hb21
         ·replace h := cond_yes hb21 h;refine VC.lastF tabOkF [some 36,some 37,some 38,some 39,some 40,some 41,some 42,some 43,some 44,some 45,some 46,some 47,some 48,some 49,some 50,some 51,some 52,some 53,some 54,some 55,some 56,some 57,some 58,some 59,some 60,some 61,some 62,some 63,some 64,some 65,some 66,some 67,some 68,some 69,some 70,some 71,some 72,some 73,some 74,some 75,some 4] rfl rfl (fun K hK => ?_);refine runOps_cut 8 (fun K2 hK2 => ?_);push_cast [hb7,hg9,hg9n,hb16,hb18,hb19,hb20,hb21];(repeat refine .intro (by omega) ?_);refine callP (Ctr.lo (c_inst_in a0.Fn s_3.fns hr15)) rfl ?_;push_cast [hb7,hg9,hg9n,hb16,hb18,hb19,hb20,hb21];(repeat refine .intro (by omega) ?_);refine hK2 _ _ ?_;clear hK2 K2;simp only [List.drop_succ_cons,List.drop_zero];refine runOps_cut 8 (fun K2 hK2 => ?_);push_cast [hb7,hg9,hg9n,hb16,hb18,hb19,hb20,hb21];(repeat refine .intro (by omega) ?_);refine callP (Ctr.lo (c_inst_in a0.Off (IntKind.i64.wrap (s_3.off + 1)) hr17)) rfl ?_;push_cast [hb7,hg9,hg9n,hb16,hb18,hb19,hb20,hb21];(repeat refine .intro (by omega) ?_);refine hK2 _ _ ?_;clear hK2 K2;simp only [List.drop_succ_cons,List.drop_zero];refine runOps_cut 8 (fun K2 hK2 => ?_);push_cast [hb7,hg9,hg9n,hb16,hb18,hb19,hb20,hb21];(repeat refine .intro (by omega) ?_);refine hK2 _ _ ?_;clear hK2 K2;simp only [List.drop_succ_cons,List.drop_zero];refine runOps_cut 8 (fun K2 hK2 => ?_);push_cast [hb7,hg9,hg9n,hb16,hb18,hb19,hb20,hb21];(repeat refine .intro (by omega) ?_);refine hK2 _ _ ?_;clear hK2 K2;simp only [List.drop_succ_cons,List.drop_zero];push_cast [hb7,hg9,hg9n,hb16,hb18,hb19,hb20,hb21];(repeat refine .intro (by omega) ?_);refine hK _ ?_;clear hK K;have hv := Option.some.inj h;rw [← hv] at hk14;refine Exists.intro (true) (And.intro hk14 ?_);refine slo ?_ ?_ rfl rfl
          ·push_cast [hb7,hb16,hb18,hb19,hb20,hb21]
          ·push_cast [hb7,hb16,hb18,hb19,hb20,hb21]
         ·replace h := cond_no hb21 h;refine VC.lastF tabOkF [some 36,some 37,some 38,some 39,some 40,some 41,some 42,some 43,some 44,some 45,some 46,some 47,some 48,some 49,some 50,some 51,some 52,some 53,some 54,some 55,some 56,some 57,some 58,some 59,some 60,some 61,some 62,some 63,some 64,some 65,some 66,some 67,some 68,some 69,some 70,some 71,some 72,some 73,some 74,some 75,some 4] rfl rfl (fun K hK => ?_);refine runOps_cut 8 (fun K2 hK2 => ?_);push_cast [hb7,hg9,hg9n,hb16,hb18,hb19,hb20,hb21];(repeat refine .intro (by omega) ?_);refine callP (Ctr.lo (c_inst_in a0.Fn s_3.fns hr15)) rfl ?_;push_cast [hb7,hg9,hg9n,hb16,hb18,hb19,hb20,hb21];(repeat refine .intro (by omega) ?_);refine hK2 _ _ ?_;clear hK2 K2;simp only [List.drop_succ_cons,List.drop_zero];refine runOps_cut 8 (fun K2 hK2 => ?_);push_cast [hb7,hg9,hg9n,hb16,hb18,hb19,hb20,hb21];(repeat refine .intro (by omega) ?_);refine callP (Ctr.lo (c_inst_in a0.Off (IntKind.i64.wrap (s_3.off + 1)) hr17)) rfl ?_;push_cast [hb7,hg9,hg9n,hb16,hb18,hb19,hb20,hb21];(repeat refine .intro (by omega) ?_);refine hK2 _ _ ?_;clear hK2 K2;simp only [List.drop_succ_cons,List.drop_zero];refine runOps_cut 8 (fun K2 hK2 => ?_);push_cast [hb7,hg9,hg9n,hb16,hb18,hb19,hb20,hb21];(repeat refine .intro (by omega) ?_);refine hK2 _ _ ?_;clear hK2 K2;simp only [List.drop_succ_cons,List.drop_zero];refine runOps_cut 8 (fun K2 hK2 => ?_);push_cast [hb7,hg9,hg9n,hb16,hb18,hb19,hb20,hb21];(repeat refine .intro (by omega) ?_);refine hK2 _ _ ?_;clear hK2 K2;simp only [List.drop_succ_cons,List.drop_zero];push_cast [hb7,hg9,hg9n,hb16,hb18,hb19,hb20,hb21];(repeat refine .intro (by omega) ?_);refine hK _ ?_;clear hK K;have hv := Option.some.inj h;rw [← hv] at hk14;refine Exists.intro (((a0.Imm.toNat : Int) == 0)) (And.intro hk14 ?_);refine slo ?_ ?_ rfl rfl
          ·push_cast [hb7,hb16,hb18,hb19,hb20,hb21]
          ·push_cast [hb7,hb16,hb18,hb19,hb20,hb21]
        ·replace h := cond_no hb20 h;rcases Bool.eq_false_or_eq_true a0.Reg with hb22 | hb22
         ·replace h := cond_yes hb22 h;refine VC.lastF tabOkF [some 36,some 37,some 38,some 39,some 40,some 41,some 42,some 43,some 44,some 45,some 46,some 47,some 48,some 49,some 50,some 51,some 52,some 53,some 54,some 55,some 56,some 57,some 58,some 59,some 60,some 61,some 62,some 63,some 64,some 65,some 66,some 67,some 68,some 69,some 70,some 71,some 72,some 73,some 74,some 75,some 4] rfl rfl (fun K hK => ?_);refine runOps_cut 8 (fun K2 hK2 => ?_);push_cast [hb7,hg9,hg9n,hb16,hb18,hb19,hb20,hb22];(repeat refine .intro (by omega) ?_);refine callP (Ctr.lo (c_inst_in a0.Fn s_3.fns hr15)) rfl ?_;push_cast [hb7,hg9,hg9n,hb16,hb18,hb19,hb20,hb22];(repeat refine .intro (by omega) ?_);refine hK2 _ _ ?_;clear hK2 K2;simp only [List.drop_succ_cons,List.drop_zero];refine runOps_cut 8 (fun K2 hK2 => ?_);push_cast [hb7,hg9,hg9n,hb16,hb18,hb19,hb20,hb22];(repeat refine .intro (by omega) ?_);refine callP (Ctr.lo (c_inst_in a0.Off (IntKind.i64.wrap (s_3.off + 1)) hr17)) rfl ?_;push_cast [hb7,hg9,hg9n,hb16,hb18,hb19,hb20,hb22];(repeat refine .intro (by omega) ?_);refine hK2 _ _ ?_;clear hK2 K2;simp only [List.drop_succ_cons,List.drop_zero];refine runOps_cut 8 (fun K2 hK2 => ?_);push_cast [hb7,hg9,hg9n,hb16,hb18,hb19,hb20,hb22];(repeat refine .intro (by omega) ?_);refine hK2 _ _ ?_;clear hK2 K2;simp only [List.drop_succ_cons,List.drop_zero];refine runOps_cut 8 (fun K2 hK2 => ?_);push_cast [hb7,hg9,hg9n,hb16,hb18,hb19,hb20,hb22];(repeat refine .intro (by omega) ?_);refine hK2 _ _ ?_;clear hK2 K2;simp only [List.drop_succ_cons,List.drop_zero];push_cast [hb7,hg9,hg9n,hb16,hb18,hb19,hb20,hb22];(repeat refine .intro (by omega) ?_);refine hK _ ?_;clear hK K;have hv := Option.some.inj h;rw [← hv] at hk14;refine Exists.intro (false) (And.intro hk14 ?_);refine slo ?_ ?_ rfl rfl
          ·push_cast [hb7,hb16,hb18,hb19,hb20,hb22]
          ·push_cast [hb7,hb16,hb18,hb19,hb20,hb22]
         ·replace h := cond_no hb22 h;rcases Bool.eq_false_or_eq_true s_3.imm with hb23 | hb23
          ·replace h := cond_yes hb23 h;refine VC.lastF tabOkF [some 36,some 37,some 38,some 39,some 40,some 41,some 42,some 43,some 44,some 45,some 46,some 47,some 48,some 49,some 50,some 51,some 52,some 53,some 54,some 55,some 56,some 57,some 58,some 59,some 60,some 61,some 62,some 63,some 64,some 65,some 66,some 67,some 68,some 69,some 70,some 71,some 72,some 73,some 74,some 75,some 4] rfl rfl (fun K hK => ?_);refine runOps_cut 8 (fun K2 hK2 => ?_);push_cast [hb7,hg9,hg9n,hb16,hb18,hb19,hb20,hb22,hb23];(repeat refine .intro (by omega) ?_);refine callP (Ctr.lo (c_inst_in a0.Fn s_3.fns hr15)) rfl ?_;push_cast [hb7,hg9,hg9n,hb16,hb18,hb19,hb20,hb22,hb23];(repeat refine .intro (by omega) ?_);refine hK2 _ _ ?_;clear hK2 K2;simp only [List.drop_succ_cons,List.drop_zero];refine runOps_cut 8 (fun K2 hK2 => ?_);push_cast [hb7,hg9,hg9n,hb16,hb18,hb19,hb20,hb22,hb23];(repeat refine .intro (by omega) ?_);refine callP (Ctr.lo (c_inst_in a0.Off (IntKind.i64.wrap (s_3.off + 1)) hr17)) rfl ?_;push_cast [hb7,hg9,hg9n,hb16,hb18,hb19,hb20,hb22,hb23];(repeat refine .intro (by omega) ?_);refine hK2 _ _ ?_;clear hK2 K2;simp only [List.drop_succ_cons,List.drop_zero];refine runOps_cut 8 (fun K2 hK2 => ?_);push_cast [hb7,hg9,hg9n,hb16,hb18,hb19,hb20,hb22,hb23];(repeat refine .intro (by omega) ?_);refine hK2 _ _ ?_;clear hK2 K2;simp only [List.drop_succ_cons,List.drop_zero];refine runOps_cut 8 (fun K2 hK2 => ?_);push_cast [hb7,hg9,hg9n,hb16,hb18,hb19,hb20,hb22,hb23];(repeat refine .intro (by omega) ?_);refine hK2 _ _ ?_;clear hK2 K2;simp only [List.drop_succ_cons,List.drop_zero];push_cast [hb7,hg9,hg9n,hb16,hb18,hb19,hb20,hb22,hb23];(repeat refine .intro (by omega) ?_);refine hK _ ?_;clear hK K;have hv := Option.some.inj h;rw [← hv] at hk14;refine Exists.intro (true) (And.intro hk14 ?_);refine slo ?_ ?_ rfl rfl
           ·push_cast [hb7,hb16,hb18,hb19,hb20,hb22,hb23]
           ·push_cast [hb7,hb16,hb18,hb19,hb20,hb22,hb23]
          ·replace h := cond_no hb23 h;refine VC.lastF tabOkF [some 36,some 37,some 38,some 39,some 40,some 41,some 42,some 43,some 44,some 45,some 46,some 47,some 48,some 49,some 50,some 51,some 52,some 53,some 54,some 55,some 56,some 57,some 58,some 59,some 60,some 61,some 62,some 63,some 64,some 65,some 66,some 67,some 68,some 69,some 70,some 71,some 72,some 73,some 74,some 75,some 4] rfl rfl (fun K hK => ?_);refine runOps_cut 8 (fun K2 hK2 => ?_);push_cast [hb7,hg9,hg9n,hb16,hb18,hb19,hb20,hb22,hb23];(repeat refine .intro (by omega) ?_);refine callP (Ctr.lo (c_inst_in a0.Fn s_3.fns hr15)) rfl ?_;push_cast [hb7,hg9,hg9n,hb16,hb18,hb19,hb20,hb22,hb23];(repeat refine .intro (by omega) ?_);refine hK2 _ _ ?_;clear hK2 K2;simp only [List.drop_succ_cons,List.drop_zero];refine runOps_cut 8 (fun K2 hK2 => ?_);push_cast [hb7,hg9,hg9n,hb16,hb18,hb19,hb20,hb22,hb23];(repeat refine .intro (by omega) ?_);refine callP (Ctr.lo (c_inst_in a0.Off (IntKind.i64.wrap (s_3.off + 1)) hr17)) rfl ?_;push_cast [hb7,hg9,hg9n,hb16,hb18,hb19,hb20,hb22,hb23];(repeat refine .intro (by omega) ?_);refine hK2 _ _ ?_;clear hK2 K2;simp only [List.drop_succ_cons,List.drop_zero];refine runOps_cut 8 (fun K2 hK2 => ?_);push_cast [hb7,hg9,hg9n,hb16,hb18,hb19,hb20,hb22,hb23];(repeat refine .intro (by omega) ?_);refine hK2 _ _ ?_;clear hK2 K2;simp only [List.drop_succ_cons,List.drop_zero];refine runOps_cut 8 (fun K2 hK2 => ?_);push_cast [hb7,hg9,hg9n,hb16,hb18,hb19,hb20,hb22,hb23];(repeat refine .intro (by omega) ?_);refine hK2 _ _ ?_;clear hK2 K2;simp only [List.drop_succ_cons,List.drop_zero];push_cast [hb7,hg9,hg9n,hb16,hb18,hb19,hb20,hb22,hb23];(repeat refine .intro (by omega) ?_);refine hK _ ?_;clear hK K;have hv := Option.some.inj h;rw [← hv] at hk14;refine Exists.intro (((a0.Imm.toNat : Int) == 0)) (And.intro hk14 ?_);refine slo ?_ ?_ rfl rfl
           ·push_cast [hb7,hb16,hb18,hb19,hb20,hb22,hb23]
           ·push_cast [hb7,hb16,hb18,hb19,hb20,hb22,hb23]
       ·replace h := cond_no hb19 h;rcases Bool.eq_false_or_eq_true (a0.Dst == 0) with hb24 | hb24
        ·replace h := cond_yes hb24 h;rcases Bool.eq_false_or_eq_true s_3.word with hb25 | hb25
         ·replace h := cond_yes hb25 h;rcases Bool.eq_false_or_eq_true s_3.imm with hb26 | hb26
          ·replace h := cond_yes hb26 h;refine VC.lastF tabOkF [some 36,some 37,some 38,some 39,some 40,some 41,some 42,some 43,some 44,some 45,some 46,some 47,some 48,some 49,some 50,some 51,some 52,some 53,some 54,some 55,some 56,some 57,some 58,some 59,some 60,some 61,some 62,some 63,some 64,some 65,some 66,some 67,some 68,some 69,some 70,some 71,some 72,some 73,some 74,some 75,some 4] rfl rfl (fun K hK => ?_);refine runOps_cut 8 (fun K2 hK2 => ?_);push_cast [hb7,hg9,hg9n,hb16,hb18,hb19,hb24,hb25,hb26];(repeat refine .intro (by omega) ?_);refine callP (Ctr.lo (c_inst_in a0.Fn s_3.fns hr15)) rfl ?_;push_cast [hb7,hg9,hg9n,hb16,hb18,hb19,hb24,hb25,hb26];(repeat refine .intro (by omega) ?_);refine hK2 _ _ ?_;clear hK2 K2;simp only [List.drop_succ_cons,List.drop_zero];refine runOps_cut 8 (fun K2 hK2 => ?_);push_cast [hb7,hg9,hg9n,hb16,hb18,hb19,hb24,hb25,hb26];(repeat refine .intro (by omega) ?_);refine callP (Ctr.lo (c_inst_in a0.Off (IntKind.i64.wrap (s_3.off + 1)) hr17)) rfl ?_;push_cast [hb7,hg9,hg9n,hb16,hb18,hb19,hb24,hb25,hb26];(repeat refine .intro (by omega) ?_);refine hK2 _ _ ?_;clear hK2 K2;simp only [List.drop_succ_cons,List.drop_zero];refine runOps_cut 8 (fun K2 hK2 => ?_);push_cast [hb7,hg9,hg9n,hb16,hb18,hb19,hb24,hb25,hb26];(repeat refine .intro (by omega) ?_);refine hK2 _ _ ?_;clear hK2 K2;simp only [List.drop_succ_cons,List.drop_zero];refine runOps_cut 8 (fun K2 hK2 => ?_);push_cast [hb7,hg9,hg9n,hb16,hb18,hb19,hb24,hb25,hb26];(repeat refine .intro (by omega) ?_);refine hK2 _ _ ?_;clear hK2 K2;simp only [List.drop_succ_cons,List.drop_zero];push_cast [hb7,hg9,hg9n,hb16,hb18,hb19,hb24,hb25,hb26];(repeat refine .intro (by omega) ?_);refine hK _ ?_;clear hK K;have hv := Option.some.inj h;rw [← hv] at hk14;refine Exists.intro (true) (And.intro hk14 ?_);refine slo ?_ ?_ rfl rfl
           ·push_cast [hb7,hb16,hb18,hb19,hb24,hb25,hb26]
           ·push_cast [hb7,hb16,hb18,hb19,hb24,hb25,hb26]
          ·replace h := cond_no hb26 h;refine VC.lastF tabOkF [some 36,some 37,some 38,some 39,some 40,some 41,some 42,some 43,some 44,some 45,some 46,some 47,some 48,some 49,some 50,some 51,some 52,some 53,some 54,some 55,some 56,some 57,some 58,some 59,some 60,some 61,some 62,some 63,some 64,some 65,some 66,some 67,some 68,some 69,some 70,some 71,some 72,some 73,some 74,some 75,some 4] rfl rfl (fun K hK => ?_);refine runOps_cut 8 (fun K2 hK2 => ?_);push_cast [hb7,hg9,hg9n,hb16,hb18,hb19,hb24,hb25,hb26];(repeat refine .intro (by omega) ?_);refine callP (Ctr.lo (c_inst_in a0.Fn s_3.fns hr15)) rfl ?_;push_cast [hb7,hg9,hg9n,hb16,hb18,hb19,hb24,hb25,hb26];(repeat refine .intro (by omega) ?_);refine hK2 _ _ ?_;clear hK2 K2;simp only [List.drop_succ_cons,List.drop_zero];refine runOps_cut 8 (fun K2 hK2 => ?_);push_cast [hb7,hg9,hg9n,hb16,hb18,hb19,hb24,hb25,hb26];(repeat refine .intro (by omega) ?_);refine callP (Ctr.lo (c_inst_in a0.Off (IntKind.i64.wrap (s_3.off + 1)) hr17)) rfl ?_;push_cast [hb7,hg9,hg9n,hb16,hb18,hb19,hb24,hb25,hb26];(repeat refine .intro (by omega) ?_);refine hK2 _ _ ?_;clear hK2 K2;simp only [List.drop_succ_cons,List.drop_zero];refine runOps_cut 8 (fun K2 hK2 => ?_);push_cast [hb7,hg9,hg9n,hb16,hb18,hb19,hb24,hb25,hb26];(repeat refine .intro (by omega) ?_);refine hK2 _ _ ?_;clear hK2 K2;simp only [List.drop_succ_cons,List.drop_zero];refine runOps_cut 8 (fun K2 hK2 => ?_);push_cast [hb7,hg9,hg9n,hb16,hb18,hb19,hb24,hb25,hb26];(repeat refine .intro (by omega) ?_);refine hK2 _ _ ?_;clear hK2 K2;simp only [List.drop_succ_cons,List.drop_zero];push_cast [hb7,hg9,hg9n,hb16,hb18,hb19,hb24,hb25,hb26];(repeat refine .intro (by omega) ?_);refine hK _ ?_;clear hK K;have hv := Option.some.inj h;rw [← hv] at hk14;refine Exists.intro (((a0.Imm.toNat : Int) == 0)) (And.intro hk14 ?_);refine slo ?_ ?_ rfl rfl
           ·push_cast [hb7,hb16,hb18,hb19,hb24,hb25,hb26]
           ·push_cast [hb7,hb16,hb18,hb19,hb24,hb25,hb26]
         ·replace h := cond_no hb25 h;rcases Bool.eq_false_or_eq_true a0.Reg with hb27 | hb27
          ·replace h := cond_yes hb27 h;refine VC.lastF tabOkF [some 36,some 37,some 38,some 39,some 40,some 41,some 42,some 43,some 44,some 45,some 46,some 47,some 48,some 49,some 50,some 51,some 52,some 53,some 54,some 55,some 56,some 57,some 58,some 59,some 60,some 61,some 62,some 63,some 64,some 65,some 66,some 67,some 68,some 69,some 70,some 71,some 72,some 73,some 74,some 75,some 4] rfl rfl (fun K hK => ?_);refine runOps_cut 8 (fun K2 hK2 => ?_);push_cast [hb7,hg9,hg9n,hb16,hb18,hb19,hb24,hb25,hb27];(repeat refine .intro (by omega) ?_);refine callP (Ctr.lo (c_inst_in a0.Fn s_3.fns hr15)) rfl ?_;push_cast [hb7,hg9,hg9n,hb16,hb18,hb19,hb24,hb25,hb27];(repeat refine .intro (by omega) ?_);refine hK2 _ _ ?_;clear hK2 K2;simp only [List.drop_succ_cons,List.drop_zero];refine runOps_cut 8 (fun K2 hK2 => ?_);push_cast [hb7,hg9,hg9n,hb16,hb18,hb19,hb24,hb25,hb27];(repeat refine .intro (by omega) ?_);refine callP (Ctr.lo (c_inst_in a0.Off (IntKind.i64.wrap (s_3.off + 1)) hr17)) rfl ?_;push_cast [hb7,hg9,hg9n,hb16,hb18,hb19,hb24,hb25,hb27];(repeat refine .intro (by omega) ?_);refine hK2 _ _ ?_;clear hK2 K2;simp only [List.drop_succ_cons,List.drop_zero];refine runOps_cut 8 (fun K2 hK2 => ?_);push_cast [hb7,hg9,hg9n,hb16,hb18,hb19,hb24,hb25,hb27];(repeat refine .intro (by omega) ?_);refine hK2 _ _ ?_;clear hK2 K2;simp only [List.drop_succ_cons,List.drop_zero];refine runOps_cut 8 (fun K2 hK2 => ?_);push_cast [hb7,hg9,hg9n,hb16,hb18,hb19,hb24,hb25,hb27];(repeat refine .intro (by omega) ?_);refine hK2 _ _ ?_;clear hK2 K2;simp only [List.drop_succ_cons,List.drop_zero];push_cast [hb7,hg9,hg9n,hb16,hb18,hb19,hb24,hb25,hb27];(repeat refine .intro (by omega) ?_);refine hK _ ?_;clear hK K;have hv := Option.some.inj h;rw [← hv] at hk14;refine Exists.intro (false) (And.intro hk14 ?_);refine slo ?_ ?_ rfl rfl
           ·push_cast [hb7,hb16,hb18,hb19,hb24,hb25,hb27]
           ·push_cast [hb7,hb16,hb18,hb19,hb24,hb25,hb27]
          ·replace h := cond_no hb27 h;rcases Bool.eq_false_or_eq_true s_3.imm with hb28 | hb28
           ·replace h := cond_yes hb28 h;refine VC.lastF tabOkF [some 36,some 37,some 38,some 39,some 40,some 41,some 42,some 43,some 44,some 45,some 46,some 47,some 48,some 49,some 50,some 51,some 52,some 53,some 54,some 55,some 56,some 57,some 58,some 59,some 60,some 61,some 62,some 63,some 64,some 65,some 66,some 67,some 68,some 69,some 70,some 71,some 72,some 73,some 74,some 75,some 4] rfl rfl (fun K hK => ?_);refine runOps_cut 8 (fun K2 hK2 => ?_);push_cast [hb7,hg9,hg9n,hb16,hb18,hb19,hb24,hb25,hb27,hb28];(repeat refine .intro (by omega) ?_);refine callP (Ctr.lo (c_inst_in a0.Fn s_3.fns hr15)) rfl ?_;push_cast [hb7,hg9,hg9n,hb16,hb18,hb19,hb24,hb25,hb27,hb28];(repeat refine .intro (by omega) ?_);refine hK2 _ _ ?_;clear hK2 K2;simp only [List.drop_succ_cons,List.drop_zero];refine runOps_cut 8 (fun K2 hK2 => ?_);push_cast [hb7,hg9,hg9n,hb16,hb18,hb19,hb24,hb25,hb27,hb28];(repeat refine .intro (by omega) ?_);refine callP (Ctr.lo (c_inst_in a0.Off (IntKind.i64.wrap (s_3.off + 1)) hr17)) rfl ?_;push_cast [hb7,hg9,hg9n,hb16,hb18,hb19,hb24,hb25,hb27,hb28];(repeat refine .intro (by omega) ?_);refine hK2 _ _ ?_;clear hK2 K2;simp only [List.drop_succ_cons,List.drop_zero];refine runOps_cut 8 (fun K2 hK2 => ?_);push_cast [hb7,hg9,hg9n,hb16,hb18,hb19,hb24,hb25,hb27,hb28];(repeat refine .intro (by omega) ?_);refine hK2 _ _ ?_;clear hK2 K2;simp only [List.drop_succ_cons,List.drop_zero];refine runOps_cut 8 (fun K2 hK2 => ?_);push_cast [hb7,hg9,hg9n,hb16,hb18,hb19,hb24,hb25,hb27,hb28];(repeat refine .intro (by omega) ?_);refine hK2 _ _ ?_;clear hK2 K2;simp only [List.drop_succ_cons,List.drop_zero];push_cast [hb7,hg9,hg9n,hb16,hb18,hb19,hb24,hb25,hb27,hb28];(repeat refine .intro (by omega) ?_);refine hK _ ?_;clear hK K;have hv := Option.some.inj h;rw [← hv] at hk14;refine Exists.intro (true) (And.intro hk14 ?_);refine slo ?_ ?_ rfl rfl
            ·push_cast [hb7,hb16,hb18,hb19,hb24,hb25,hb27,hb28]
            ·push_cast [hb7,hb16,hb18,hb19,hb24,hb25,hb27,hb28]
           ·replace h := cond_no hb28 h;refine VC.lastF tabOkF [some 36,some 37,some 38,some 39,some 40,some 41,some 42,some 43,some 44,some 45,some 46,some 47,some 48,some 49,some 50,some 51,some 52,some 53,some 54,some 55,some 56,some 57,some 58,some 59,some 60,some 61,some 62,some 63,some 64,some 65,some 66,some 67,some 68,some 69,some 70,some 71,some 72,some 73,some 74,some 75,some 4] rfl rfl (fun K hK => ?_);refine runOps_cut 8 (fun K2 hK2 => ?_);push_cast [hb7,hg9,hg9n,hb16,hb18,hb19,hb24,hb25,hb27,hb28];(repeat refine .intro (by omega) ?_);refine callP (Ctr.lo (c_inst_in a0.Fn s_3.fns hr15)) rfl ?_;push_cast [hb7,hg9,hg9n,hb16,hb18,hb19,hb24,hb25,hb27,hb28];(repeat refine .intro (by omega) ?_);refine hK2 _ _ ?_;clear hK2 K2;simp only [List.drop_succ_cons,List.drop_zero];refine runOps_cut 8 (fun K2 hK2 => ?_);push_cast [hb7,hg9,hg9n,hb16,hb18,hb19,hb24,hb25,hb27,hb28];(repeat refine .intro (by omega) ?_);refine callP (Ctr.lo (c_inst_in a0.Off (IntKind.i64.wrap (s_3.off + 1)) hr17)) rfl ?_;push_cast [hb7,hg9,hg9n,hb16,hb18,hb19,hb24,hb25,hb27,hb28];(repeat refine .intro (by omega) ?_);refine hK2 _ _ ?_;clear hK2 K2;simp only [List.drop_succ_cons,List.drop_zero];refine runOps_cut 8 (fun K2 hK2 => ?_);push_cast [hb7,hg9,hg9n,hb16,hb18,hb19,hb24,hb25,hb27,hb28];(repeat refine .intro (by omega) ?_);refine hK2 _ _ ?_;clear hK2 K2;simp only [List.drop_succ_cons,List.drop_zero];refine runOps_cut 8 (fun K2 hK2 => ?_);push_cast [hb7,hg9,hg9n,hb16,hb18,hb19,hb24,hb25,hb27,hb28];(repeat refine .intro (by omega) ?_);refine hK2 _ _ ?_;clear hK2 K2;simp only [List.drop_succ_cons,List.drop_zero];push_cast [hb7,hg9,hg9n,hb16,hb18,hb19,hb24,hb25,hb27,hb28];(repeat refine .intro (by omega) ?_);refine hK _ ?_;clear hK K;have hv := Option.some.inj h;rw [← hv] at hk14;refine Exists.intro (((a0.Imm.toNat : Int) == 0)) (And.intro hk14 ?_);refine slo ?_ ?_ rfl rfl
            ·push_cast [hb7,hb16,hb18,hb19,hb24,hb25,hb27,hb28]
            ·push_cast [hb7,hb16,hb18,hb19,hb24,hb25,hb27,hb28]
        ·replace h := cond_no hb24 h;refine VC.lastF tabOkF [some 36,some 37,some 38,some 39,some 40,some 41,some 42,some 43,some 44,some 45,some 46,some 47,some 48,some 49,some 50,some 51,some 52,some 53,some 54,some 55,some 56,some 57,some 58,some 59,some 60,some 61,some 62,some 63,some 64,some 65,some 66,some 67,some 68,some 69,some 70,some 71,some 72,some 73,some 74,some 75,some 4] rfl rfl (fun K hK => ?_);refine runOps_cut 8 (fun K2 hK2 => ?_);push_cast [hb7,hg9,hg9n,hb16,hb18,hb19,hb24];(repeat refine .intro (by omega) ?_);refine callP (Ctr.lo (c_inst_in a0.Fn s_3.fns hr15)) rfl ?_;push_cast [hb7,hg9,hg9n,hb16,hb18,hb19,hb24];(repeat refine .intro (by omega) ?_);refine hK2 _ _ ?_;clear hK2 K2;simp only [List.drop_succ_cons,List.drop_zero];refine runOps_cut 8 (fun K2 hK2 => ?_);push_cast [hb7,hg9,hg9n,hb16,hb18,hb19,hb24];(repeat refine .intro (by omega) ?_);refine callP (Ctr.lo (c_inst_in a0.Off (IntKind.i64.wrap (s_3.off + 1)) hr17)) rfl ?_;push_cast [hb7,hg9,hg9n,hb16,hb18,hb19,hb24];(repeat refine .intro (by omega) ?_);refine hK2 _ _ ?_;clear hK2 K2;simp only [List.drop_succ_cons,List.drop_zero];refine runOps_cut 8 (fun K2 hK2 => ?_);push_cast [hb7,hg9,hg9n,hb16,hb18,hb19,hb24];(repeat refine .intro (by omega) ?_);refine hK2 _ _ ?_;clear hK2 K2;simp only [List.drop_succ_cons,List.drop_zero];refine runOps_cut 8 (fun K2 hK2 => ?_);push_cast [hb7,hg9,hg9n,hb16,hb18,hb19,hb24];(repeat refine .intro (by omega) ?_);refine hK2 _ _ ?_;clear hK2 K2;simp only [List.drop_succ_cons,List.drop_zero];push_cast [hb7,hg9,hg9n,hb16,hb18,hb19,hb24];(repeat refine .intro (by omega) ?_);refine hK _ ?_;clear hK K;have hv := Option.some.inj h;rw [← hv] at hk14;refine Exists.intro (false) (And.intro hk14 ?_);refine slo ?_ ?_ rfl rfl
         ·push_cast [hb7,hb16,hb18,hb19,hb24]
         ·push_cast [hb7,hb16,hb18,hb19,hb24]
      ·replace h := cond_no hb18 h;refine VC.lastF tabOkF [some 36,some 37,some 38,some 39,some 40,some 41,some 42,some 43,some 44,some 45,some 46,some 47,some 48,some 49,some 50,some 51,some 52,some 53,some 54,some 55,some 56,some 57,some 58,some 59,some 60,some 61,some 62,some 63,some 64,some 65,some 66,some 67,some 68,some 69,some 70,some 71,some 72,some 73,some 74,some 75,some 4] rfl rfl (fun K hK => ?_);refine runOps_cut 8 (fun K2 hK2 => ?_);push_cast [hb7,hg9,hg9n,hb16,hb18];(repeat refine .intro (by omega) ?_);refine callP (Ctr.lo (c_inst_in a0.Fn s_3.fns hr15)) rfl ?_;push_cast [hb7,hg9,hg9n,hb16,hb18];(repeat refine .intro (by omega) ?_);refine hK2 _ _ ?_;clear hK2 K2;simp only [List.drop_succ_cons,List.drop_zero];refine runOps_cut 8 (fun K2 hK2 => ?_);push_cast [hb7,hg9,hg9n,hb16,hb18];(repeat refine .intro (by omega) ?_);refine callP (Ctr.lo (c_inst_in a0.Off (IntKind.i64.wrap (s_3.off + 1)) hr17)) rfl ?_;push_cast [hb7,hg9,hg9n,hb16,hb18];(repeat refine .intro (by omega) ?_);refine hK2 _ _ ?_;clear hK2 K2;simp only [List.drop_succ_cons,List.drop_zero];refine runOps_cut 8 (fun K2 hK2 => ?_);push_cast [hb7,hg9,hg9n,hb16,hb18];(repeat refine .intro (by omega) ?_);refine hK2 _ _ ?_;clear hK2 K2;simp only [List.drop_succ_cons,List.drop_zero];refine runOps_cut 8 (fun K2 hK2 => ?_);push_cast [hb7,hg9,hg9n,hb16,hb18];(repeat refine .intro (by omega) ?_);refine hK2 _ _ ?_;clear hK2 K2;simp only [List.drop_succ_cons,List.drop_zero];push_cast [hb7,hg9,hg9n,hb16,hb18];(repeat refine .intro (by omega) ?_);refine hK _ ?_;clear hK K;have hv := Option.some.inj h;rw [← hv] at hk14;refine Exists.intro (false) (And.intro hk14 ?_);refine slo ?_ ?_ rfl rfl
       ·push_cast [hb7,hb16,hb18]
       ·push_cast [hb7,hb16,hb18]
     ·replace h := cond_no hb16 h;refine VC.lastF tabOkF [some 36,some 37,some 38,some 39,some 40,some 41,some 42,some 43,some 44,some 45,some 46,some 47,some 48,some 49,some 50,some 51,some 52,some 53,some 54,some 55,some 56,some 57,some 58,some 59,some 60,some 61,some 62,some 63,some 64,some 65,some 66,some 67,some 68,some 69,some 70,some 71,some 72,some 73,some 74,some 75,some 4] rfl rfl (fun K hK => ?_);refine runOps_cut 8 (fun K2 hK2 => ?_);push_cast [hb7,hg9,hg9n,hb16];(repeat refine .intro (by omega) ?_);refine callP (Ctr.lo (c_inst_in a0.Fn s_3.fns hr15)) rfl ?_;push_cast [hb7,hg9,hg9n,hb16];(repeat refine .intro (by omega) ?_);refine hK2 _ _ ?_;clear hK2 K2;simp only [List.drop_succ_cons,List.drop_zero];refine runOps_cut 8 (fun K2 hK2 => ?_);push_cast [hb7,hg9,hg9n,hb16];(repeat refine .intro (by omega) ?_);refine hK2 _ _ ?_;clear hK2 K2;simp only [List.drop_succ_cons,List.drop_zero];refine runOps_cut 8 (fun K2 hK2 => ?_);push_cast [hb7,hg9,hg9n,hb16];(repeat refine .intro (by omega) ?_);refine hK2 _ _ ?_;clear hK2 K2;simp only [List.drop_succ_cons,List.drop_zero];refine runOps_cut 8 (fun K2 hK2 => ?_);push_cast [hb7,hg9,hg9n,hb16];(repeat refine .intro (by omega) ?_);refine hK2 _ _ ?_;clear hK2 K2;simp only [List.drop_succ_cons,List.drop_zero];push_cast [hb7,hg9,hg9n,hb16];(repeat refine .intro (by omega) ?_);refine hK _ ?_;clear hK K;have hv := Option.some.inj h;rw [← hv] at hk14;refine Exists.intro (false) (And.intro hk14 ?_);refine slo ?_ ?_ rfl rfl
      ·push_cast [hb7,hb16]
      ·push_cast [hb7,hb16]
    ·rintro i_4 h;replace h : p_inst_May_J14 a0 i_4 = some r := h;(try push_cast);unfold p_inst_May_J14 at h;refine VC.seq ?_;refine VC.seqF tabOkF [some 76,some 77] [1,4,77] rfl rfl (fun K hK => ?_);push_cast [hb7,hg9,hg9n];(repeat refine .intro (by omega) ?_);refine hK _ ?_;clear hK K;refine VC.cond rfl rfl (fun hc29 => ?_) (fun hc29 => ?_)
     ·have hb29 : a0.Reg = true := by simpa using hc29
      replace h := cond_yes hb29 h;obtain ⟨v30,h,hk30⟩ := po_some h;refine VC.seqJ (X := Bool) (fun x => p_inst_May_J30 x = some r) (fun x => ⟨[(2,.raw (.bool x))],[],88,90,0⟩) ?_ ?_
      ·rcases Bool.eq_false_or_eq_true i_4 with hb31 | hb31
       ·replace h := cond_yes hb31 h;refine VC.lastF tabOkF [some 78,some 79,some 80,some 81,some 82,some 83,some 2] rfl rfl (fun K hK => ?_);push_cast [hb7,hg9,hg9n,hb29,hb31];(repeat refine .intro (by omega) ?_);refine hK _ ?_;clear hK K;have hv := Option.some.inj h;rw [← hv] at hk30;refine Exists.intro (((a0.Imm.toNat : Int) == 0)) (And.intro hk30 ?_);refine slo ?_ ?_ rfl rfl
        ·push_cast [hb7,hb29,hb31]
        ·push_cast [hb7,hb29,hb31]
       ·replace h := cond_no hb31 h;refine VC.lastF tabOkF [some 78,some 79,some 80,some 81,some 82,some 83,some 2] rfl rfl (fun K hK => ?_);push_cast [hb7,hg9,hg9n,hb29,hb31];(repeat refine .intro (by omega) ?_);refine hK _ ?_;clear hK K;have hv := Option.some.inj h;rw [← hv] at hk30;refine Exists.intro (false) (And.intro hk30 ?_);refine slo ?_ ?_ rfl rfl
        ·push_cast [hb7,hb29,hb31]
        ·push_cast [hb7,hb29,hb31]
      ·rintro i_5 h;replace h : p_inst_May_J30 i_5 = some r := h;(try push_cast);unfold p_inst_May_J30 at h;refine VC.ret ?_;have hr := Option.some.inj h;subst hr;refine endP (Sub.lo _) (Post.ret ?_ ?_ ?_)
       ·push_cast [hb7,hb29]
       ·push_cast [hb7,hb29]
       ·rfl
     ·have hb29 : a0.Reg = false := by simpa using hc29
      replace h := cond_no hb29 h;refine VC.skip ?_;obtain ⟨v32,h,hk32⟩ := po_some h;refine VC.seqJ (X := Bool) (fun x => p_inst_May_J32 x = some r) (fun x => ⟨[(2,.raw (.bool x))],[],88,90,0⟩) ?_ ?_
      ·rcases Bool.eq_false_or_eq_true i_4 with hb33 | hb33
       ·replace h := cond_yes hb33 h;refine VC.lastF tabOkF [some 84,some 85,some 86,some 87,some 88,some 89,some 2] rfl rfl (fun K hK => ?_);push_cast [hb7,hg9,hg9n,hb29,hb33];(repeat refine .intro (by omega) ?_);refine hK _ ?_;clear hK K;have hv := Option.some.inj h;rw [← hv] at hk32;refine Exists.intro ((a0.Src == 0)) (And.intro hk32 ?_);refine slo ?_ ?_ rfl rfl
        ·push_cast [hb7,hb29,hb33]
        ·push_cast [hb7,hb29,hb33]
       ·replace h := cond_no hb33 h;refine VC.lastF tabOkF [some 84,some 85,some 86,some 87,some 88,some 89,some 2] rfl rfl (fun K hK => ?_);push_cast [hb7,hg9,hg9n,hb29,hb33];(repeat refine .intro (by omega) ?_);refine hK _ ?_;clear hK K;have hv := Option.some.inj h;rw [← hv] at hk32;refine Exists.intro (false) (And.intro hk32 ?_);refine slo ?_ ?_ rfl rfl
        ·push_cast [hb7,hb29,hb33]
        ·push_cast [hb7,hb29,hb33]
      ·rintro i_6 h;replace h : p_inst_May_J32 i_6 = some r := h;(try push_cast);unfold p_inst_May_J32 at h;refine VC.ret ?_;have hr := Option.some.inj h;subst hr;refine endP (Sub.lo _) (Post.ret ?_ ?_ ?_)
       ·push_cast [hb7,hb29]
       ·push_cast [hb7,hb29]
       ·rfl
noncomputable def p_prog_fine_1 (a0 : T_Inst) : Option (Bool) :=
  po (p_inst_May a0) fun r1 =>
  some (!r1)
theorem c_prog_fine_1 (a0 : T_Inst) {r : Bool} (h : p_prog_fine_1 a0 = some r) : Ctr prog 99 [.agg (enc_Inst a0)] [] (.raw (.bool r)) [] := by
 unfold p_prog_fine_1 at h;refine Ctr.ofW tabOk func99 rfl call99 0 _ ntmps99 [.tmp 2] rfl rfl rfl (fun B => ?_);refine VC.seqF tabOkF [some 1,some 2] [1] rfl rfl (fun K hK => ?_);push_cast;(repeat refine .intro (by omega) ?_);refine hK _ ?_;clear hK K;obtain ⟨r1,hr1,h⟩ := po_some h;refine VC.seqF tabOkF [some 3,some 4,some 5,some 2] [2] rfl rfl (fun K hK => ?_);push_cast;(repeat refine .intro (by omega) ?_);refine callP (Ctr.lo (c_inst_May a0 hr1)) rfl ?_;push_cast;(repeat refine .intro (by omega) ?_);refine hK _ ?_;clear hK K;refine VC.ret ?_;have hr := Option.some.inj h;subst hr;refine endP (Sub.lo _) (Post.ret ?_ ?_ ?_)
 ·push_cast
 ·push_cast
 ·rfl
noncomputable def p_slices_IndexFunc_api_Inst_api_Inst_prog_fine_1_L2 (a0 : (List T_Inst)) (i_1 : Int) : Option ((Int) ⊕ ((Unit) ⊕ (Int))) :=
  cond (decide (i_1 < (a0.length : Int))) (
  po (idx a0 i_1) fun x4 =>
  po (p_prog_fine_1 x4) fun r5 =>
  cond r5 (
  some (Sum.inr (Sum.inr i_1))) (
  some (Sum.inl (IntKind.i64.wrap (i_1 + 1))))) (
  some (Sum.inr (Sum.inl ())))
noncomputable def p_slices_IndexFunc_api_Inst_api_Inst_prog_fine_1_J1 : Option (Int) :=
  some (-1)
noncomputable def p_slices_IndexFunc_api_Inst_api_Inst_prog_fine_1 (a0 : (List T_Inst)) : Option (Int) :=
  pm (
  lpU (fun x => p_slices_IndexFunc_api_Inst_api_Inst_prog_fine_1_L2 a0 x) 0) (fun x => p_slices_IndexFunc_api_Inst_api_Inst_prog_fine_1_J1)
theorem c_slices_IndexFunc_api_Inst_api_Inst_prog_fine_1 (a0 : (List T_Inst)) {r : Int} (h : p_slices_IndexFunc_api_Inst_api_Inst_prog_fine_1 a0 = some r) : Ctr prog 110 [.sl false (a0.map enc_Inst), .fn (.func 99) [] []] [] (.raw (.int .i64 r)) [] := by
 unfold p_slices_IndexFunc_api_Inst_api_Inst_prog_fine_1 at h;refine Ctr.ofW tabOk func110 rfl call110 0 _ ntmps110 [.tmp 4] rfl rfl rfl (fun B => ?_);refine VC.seqF tabOkF [some 4] [0,1] rfl rfl (fun K hK => ?_);push_cast;(repeat refine .intro (by omega) ?_);refine hK _ ?_;clear hK K;obtain ⟨v1,h,hk1⟩ := pm_some h;refine VC.seqJ (X := Unit) (fun x => p_slices_IndexFunc_api_Inst_api_Inst_prog_fine_1_J1 = some r) (fun x => ⟨[],[],16,19,0⟩) ?_ ?_
 ·refine VC.seqF tabOkF [some 6,some 7,some 8] [0,1,7,8] rfl rfl (fun K hK => ?_);push_cast;(repeat refine .intro (by omega) ?_);refine hK _ ?_;clear hK K;refine VC.block ?_;refine VC.loopP h (fun x => ⟨[(0,.sl false (a0.map enc_Inst)),(1,.fn (.func 99) [] []),(7,.raw (.int .i64 (a0.length : Int))),(8,.raw (.int .i64 x))],[],15,19,0⟩) ?_ ?_
  ·refine slo ?_ ?_ rfl rfl
   ·push_cast
   ·push_cast
  rintro i_1 b2 h hf2;replace h : p_slices_IndexFunc_api_Inst_api_Inst_prog_fine_1_L2 a0 i_1 = some b2 := h;(try push_cast);unfold p_slices_IndexFunc_api_Inst_api_Inst_prog_fine_1_L2 at h;refine VC.seqF tabOkF [some 9] [0,1,7,8,9] rfl rfl (fun K hK => ?_);push_cast;(repeat refine .intro (by omega) ?_);refine hK _ ?_;clear hK K;refine VC.seq ?_;refine VC.cond rfl rfl (fun hc3 => ?_) (fun hc3 => ?_)
  ·have hb3 : (decide (i_1 < (a0.length : Int))) = true := by simpa using hc3
   replace h := cond_yes hb3 h;refine VC.skip ?_;refine VC.seq ?_;refine VC.block ?_;refine VC.seqF tabOkF [some 10,some 5] [0,1,5,7,8] rfl rfl (fun K hK => ?_);push_cast [hb3];(repeat refine .intro (by omega) ?_);refine hK _ ?_;clear hK K;obtain ⟨x4,hx4,h⟩ := po_some h;obtain ⟨hx41,hx42,hx43,hx44⟩ := idx_some4 hx4;obtain ⟨r5,hr5,h⟩ := po_some h;refine VC.seqF tabOkF [some 11,some 12,some 13,some 14,some 15,some 16] [0,1,5,7,8,16] rfl rfl (fun K hK => ?_);push_cast [hb3,hx41,hx42,hx43,hx44];(repeat refine .intro (by omega) ?_);refine callP (Ctr.lo (c_prog_fine_1 x4 hr5)) rfl ?_;push_cast [hb3,hx41,hx42,hx43,hx44];(repeat refine .intro (by omega) ?_);refine hK _ ?_;clear hK K;refine VC.cond rfl rfl (fun hc6 => ?_) (fun hc6 => ?_)
   ·have hb6 : r5 = true := by simpa using hc6
    replace h := cond_yes hb6 h;refine VC.seqF tabOkF [some 17,some 4] [4] rfl rfl (fun K hK => ?_);push_cast [hb3,hx41,hx42,hx43,hx44,hb6];(repeat refine .intro (by omega) ?_);refine hK _ ?_;clear hK K;refine VC.ret ?_;replace h := congrArg some (hf2 _ (Option.some.inj h).symm);have hv := Option.some.inj h;rw [← hv] at hk1;replace h : some i_1 = some r := hk1;have hr := Option.some.inj h;subst hr;refine endP (Sub.lo _) (Post.ret ?_ ?_ ?_)
    ·push_cast [hb3,hb6]
    ·push_cast [hb3,hb6]
    ·rfl
   ·have hb6 : r5 = false := by simpa using hc6
    replace h := cond_no hb6 h;refine VC.skip ?_;refine VC.lastF tabOkF [some 18,some 8] rfl rfl (fun K hK => ?_);push_cast [hb3,hx41,hx42,hx43,hx44,hb6];(repeat refine .intro (by omega) ?_);refine hK _ ?_;clear hK K;refine Exists.intro ((IntKind.i64.wrap (i_1 + 1))) (And.intro (Option.some.inj h).symm ?_);refine slo ?_ ?_ rfl rfl
    ·push_cast [hb3,hb6]
    ·push_cast [hb3,hb6]
  ·have hb3 : (decide (i_1 < (a0.length : Int))) = false := by simpa using hc3
   replace h := cond_no hb3 h;refine VC.exit ?_;replace h := congrArg some (hf2 _ (Option.some.inj h).symm);have hv := Option.some.inj h;rw [← hv] at hk1;refine Exists.intro (()) (And.intro hk1 ?_);refine slo ?_ ?_ rfl rfl
   ·push_cast [hb3]
   ·push_cast [hb3]
 ·rintro ⟨⟩ h;replace h : p_slices_IndexFunc_api_Inst_api_Inst_prog_fine_1_J1 = some r := h;(try push_cast);unfold p_slices_IndexFunc_api_Inst_api_Inst_prog_fine_1_J1 at h;refine VC.seqF tabOkF [some 4] [4] rfl rfl (fun K hK => ?_);push_cast;(repeat refine .intro (by omega) ?_);refine hK _ ?_;clear hK K;refine VC.ret ?_;have hr := Option.some.inj h;subst hr;refine endP (Sub.lo _) (Post.ret ?_ ?_ ?_)
  ·push_cast
  ·push_cast
  ·rfl
noncomputable def p_slices_ContainsFunc_api_Inst_api_Inst_prog_fine_1 (a0 : (List T_Inst)) : Option (Bool) :=
  po (p_slices_IndexFunc_api_Inst_api_Inst_prog_fine_1 a0) fun r1 =>
  some (decide (r1 ≥ 0))
theorem c_slices_ContainsFunc_api_Inst_api_Inst_prog_fine_1 (a0 : (List T_Inst)) {r : Bool} (h : p_slices_ContainsFunc_api_Inst_api_Inst_prog_fine_1 a0 = some r) : Ctr prog 101 [.sl false (a0.map enc_Inst), .fn (.func 99) [] []] [] (.raw (.bool r)) [] := by
 unfold p_slices_ContainsFunc_api_Inst_api_Inst_prog_fine_1 at h;refine Ctr.ofW tabOk func101 rfl call101 0 _ ntmps101 [.tmp 4] rfl rfl rfl (fun B => ?_);refine VC.seqF tabOkF [some 4] [0,1] rfl rfl (fun K hK => ?_);push_cast;(repeat refine .intro (by omega) ?_);refine hK _ ?_;clear hK K;obtain ⟨r1,hr1,h⟩ := po_some h;refine VC.seqF tabOkF [some 5,some 6,some 7,some 8,some 4] [4] rfl rfl (fun K hK => ?_);push_cast;(repeat refine .intro (by omega) ?_);refine callP (Ctr.lo (c_slices_IndexFunc_api_Inst_api_Inst_prog_fine_1 a0 hr1)) rfl ?_;push_cast;(repeat refine .intro (by omega) ?_);refine hK _ ?_;clear hK K;refine VC.ret ?_;have hr := Option.some.inj h;subst hr;refine endP (Sub.lo _) (Post.ret ?_ ?_ ?_)
 ·push_cast
 ·push_cast
 ·rfl
noncomputable def p_prog_fine_J1 (i_1 : Bool) : Option (Bool) :=
  some i_1
noncomputable def p_prog_fine (a0 : T_Fn) : Option (Bool) :=
  po (
  cond (decide (a0.Args ≥ 0)) (
  cond (decide (a0.Args ≤ 4)) (
  cond (decide ((a0.Code.length : Int) > 0)) (
  cond (decide ((a0.Code.length : Int) ≤ 64)) (
  po (p_slices_ContainsFunc_api_Inst_api_Inst_prog_fine_1 a0.Code) fun r6 =>
  some (!r6)) (
  some false)) (
  some false)) (
  some false)) (
  some false)) (fun x => p_prog_fine_J1 x)
theorem c_prog_fine (a0 : T_Fn) {r : Bool} (h : p_prog_fine a0 = some r) : Ctr prog 89 [.agg (enc_Fn a0)] [] (.raw (.bool r)) [] := by
 unfold p_prog_fine at h;refine Ctr.ofW tabOk func89 rfl call89 0 _ ntmps89 [.tmp 2] rfl rfl rfl (fun B => ?_);refine VC.seqF tabOkF [some 1,some 2] [1] rfl rfl (fun K hK => ?_);push_cast;(repeat refine .intro (by omega) ?_);refine hK _ ?_;clear hK K;refine VC.seqF tabOkF [some 3] [1,3] rfl rfl (fun K hK => ?_);push_cast;(repeat refine .intro (by omega) ?_);refine hK _ ?_;clear hK K;obtain ⟨v1,h,hk1⟩ := po_some h;refine VC.seqJ (X := Bool) (fun x => p_prog_fine_J1 x = some r) (fun x => ⟨[(2,.raw (.bool x))],[],31,31,0⟩) ?_ ?_
 ·rcases Bool.eq_false_or_eq_true (decide (a0.Args ≥ 0)) with hb2 | hb2
  ·replace h := cond_yes hb2 h;rcases Bool.eq_false_or_eq_true (decide (a0.Args ≤ 4)) with hb3 | hb3
   ·replace h := cond_yes hb3 h;rcases Bool.eq_false_or_eq_true (decide ((a0.Code.length : Int) > 0)) with hb4 | hb4
    ·replace h := cond_yes hb4 h;rcases Bool.eq_false_or_eq_true (decide ((a0.Code.length : Int) ≤ 64)) with hb5 | hb5
     ·replace h := cond_yes hb5 h;obtain ⟨r6,hr6,h⟩ := po_some h;refine VC.lastF tabOkF [some 4,some 5,some 6,some 7,some 8,some 9,some 10,some 11,some 12,some 13,some 14,some 15,some 16,some 17,some 18,some 19,some 20,some 21,some 22,some 23,some 24,some 25,some 26,some 27,some 28,some 29,some 30,some 2] rfl rfl (fun K hK => ?_);refine runOps_cut 8 (fun K2 hK2 => ?_);push_cast [hb2,hb3,hb4,hb5];(repeat refine .intro (by omega) ?_);refine hK2 _ _ ?_;clear hK2 K2;simp only [List.drop_succ_cons,List.drop_zero];refine runOps_cut 8 (fun K2 hK2 => ?_);push_cast [hb2,hb3,hb4,hb5];(repeat refine .intro (by omega) ?_);refine hK2 _ _ ?_;clear hK2 K2;simp only [List.drop_succ_cons,List.drop_zero];refine runOps_cut 8 (fun K2 hK2 => ?_);push_cast [hb2,hb3,hb4,hb5];(repeat refine .intro (by omega) ?_);refine hK2 _ _ ?_;clear hK2 K2;simp only [List.drop_succ_cons,List.drop_zero];push_cast [hb2,hb3,hb4,hb5];(repeat refine .intro (by omega) ?_);refine callP (Ctr.lo (c_slices_ContainsFunc_api_Inst_api_Inst_prog_fine_1 a0.Code hr6)) rfl ?_;push_cast [hb2,hb3,hb4,hb5];(repeat refine .intro (by omega) ?_);refine hK _ ?_;clear hK K;have hv := Option.some.inj h;rw [← hv] at hk1;refine Exists.intro ((!r6)) (And.intro hk1 ?_);refine slo ?_ ?_ rfl rfl
      ·push_cast [hb2,hb3,hb4,hb5]
      ·push_cast [hb2,hb3,hb4,hb5]
     ·replace h := cond_no hb5 h;refine VC.lastF tabOkF [some 4,some 5,some 6,some 7,some 8,some 9,some 10,some 11,some 12,some 13,some 14,some 15,some 16,some 17,some 18,some 19,some 20,some 21,some 22,some 23,some 24,some 25,some 26,some 27,some 28,some 29,some 30,some 2] rfl rfl (fun K hK => ?_);refine runOps_cut 8 (fun K2 hK2 => ?_);push_cast [hb2,hb3,hb4,hb5];(repeat refine .intro (by omega) ?_);refine hK2 _ _ ?_;clear hK2 K2;simp only [List.drop_succ_cons,List.drop_zero];refine runOps_cut 8 (fun K2 hK2 => ?_);push_cast [hb2,hb3,hb4,hb5];(repeat refine .intro (by omega) ?_);refine hK2 _ _ ?_;clear hK2 K2;simp only [List.drop_succ_cons,List.drop_zero];refine runOps_cut 8 (fun K2 hK2 => ?_);push_cast [hb2,hb3,hb4,hb5];(repeat refine .intro (by omega) ?_);refine hK2 _ _ ?_;clear hK2 K2;simp only [List.drop_succ_cons,List.drop_zero];push_cast [hb2,hb3,hb4,hb5];(repeat refine .intro (by omega) ?_);refine hK _ ?_;clear hK K;have hv := Option.some.inj h;rw [← hv] at hk1;refine Exists.intro (false) (And.intro hk1 ?_);refine slo ?_ ?_ rfl rfl
      ·push_cast [hb2,hb3,hb4,hb5]
      ·push_cast [hb2,hb3,hb4,hb5]
    ·replace h := cond_no hb4 h;refine VC.lastF tabOkF [some 4,some 5,some 6,some 7,some 8,some 9,some 10,some 11,some 12,some 13,some 14,some 15,some 16,some 17,some 18,some 19,some 20,some 21,some 22,some 23,some 24,some 25,some 26,some 27,some 28,some 29,some 30,some 2] rfl rfl (fun K hK => ?_);refine runOps_cut 8 (fun K2 hK2 => ?_);push_cast [hb2,hb3,hb4];(repeat refine .intro (by omega) ?_);refine hK2 _ _ ?_;clear hK2 K2;simp only [List.drop_succ_cons,List.drop_zero];refine runOps_cut 8 (fun K2 hK2 => ?_);push_cast [hb2,hb3,hb4];(repeat refine .intro (by omega) ?_);refine hK2 _ _ ?_;clear hK2 K2;simp only [List.drop_succ_cons,List.drop_zero];refine runOps_cut 8 (fun K2 hK2 => ?_);push_cast [hb2,hb3,hb4];(repeat refine .intro (by omega) ?_);refine hK2 _ _ ?_;clear hK2 K2;simp only [List.drop_succ_cons,List.drop_zero];push_cast [hb2,hb3,hb4];(repeat refine .intro (by omega) ?_);refine hK _ ?_;clear hK K;have hv := Option.some.inj h;rw [← hv] at hk1;refine Exists.intro (false) (And.intro hk1 ?_);refine slo ?_ ?_ rfl rfl
     ·push_cast [hb2,hb3,hb4]
     ·push_cast [hb2,hb3,hb4]
   ·replace h := cond_no hb3 h;refine VC.lastF tabOkF [some 4,some 5,some 6,some 7,some 8,some 9,some 10,some 11,some 12,some 13,some 14,some 15,some 16,some 17,some 18,some 19,some 20,some 21,some 22,some 23,some 24,some 25,some 26,some 27,some 28,some 29,some 30,some 2] rfl rfl (fun K hK => ?_);refine runOps_cut 8 (fun K2 hK2 => ?_);push_cast [hb2,hb3];(repeat refine .intro (by omega) ?_);refine hK2 _ _ ?_;clear hK2 K2;simp only [List.drop_succ_cons,List.drop_zero];refine runOps_cut 8 (fun K2 hK2 => ?_);push_cast [hb2,hb3];(repeat refine .intro (by omega) ?_);refine hK2 _ _ ?_;clear hK2 K2;simp only [List.drop_succ_cons,List.drop_zero];refine runOps_cut 8 (fun K2 hK2 => ?_);push_cast [hb2,hb3];(repeat refine .intro (by omega) ?_);refine hK2 _ _ ?_;clear hK2 K2;simp only [List.drop_succ_cons,List.drop_zero];push_cast [hb2,hb3];(repeat refine .intro (by omega) ?_);refine hK _ ?_;clear hK K;have hv := Option.some.inj h;rw [← hv] at hk1;refine Exists.intro (false) (And.intro hk1 ?_);refine slo ?_ ?_ rfl rfl
    ·push_cast [hb2,hb3]
    ·push_cast [hb2,hb3]
  ·replace h := cond_no hb2 h;refine VC.lastF tabOkF [some 4,some 5,some 6,some 7,some 8,some 9,some 10,some 11,some 12,some 13,some 14,some 15,some 16,some 17,some 18,some 19,some 20,some 21,some 22,some 23,some 24,some 25,some 26,some 27,some 28,some 29,some 30,some 2] rfl rfl (fun K hK => ?_);refine runOps_cut 8 (fun K2 hK2 => ?_);push_cast [hb2];(repeat refine .intro (by omega) ?_);refine hK2 _ _ ?_;clear hK2 K2;simp only [List.drop_succ_cons,List.drop_zero];refine runOps_cut 8 (fun K2 hK2 => ?_);push_cast [hb2];(repeat refine .intro (by omega) ?_);refine hK2 _ _ ?_;clear hK2 K2;simp only [List.drop_succ_cons,List.drop_zero];refine runOps_cut 8 (fun K2 hK2 => ?_);push_cast [hb2];(repeat refine .intro (by omega) ?_);refine hK2 _ _ ?_;clear hK2 K2;simp only [List.drop_succ_cons,List.drop_zero];push_cast [hb2];(repeat refine .intro (by omega) ?_);refine hK _ ?_;clear hK K;have hv := Option.some.inj h;rw [← hv] at hk1;refine Exists.intro (false) (And.intro hk1 ?_);refine slo ?_ ?_ rfl rfl
   ·push_cast [hb2]
   ·push_cast [hb2]
 ·rintro i_1 h;replace h : p_prog_fine_J1 i_1 = some r := h;(try push_cast);unfold p_prog_fine_J1 at h;refine VC.ret ?_;have hr := Option.some.inj h;subst hr;refine endP (Sub.lo _) (Post.ret ?_ ?_ ?_)
  ·push_cast
  ·push_cast
  ·rfl
noncomputable def p_prog_May_1 (a0 : T_Fn) : Option (Bool) :=
  po (p_prog_fine a0) fun r1 =>
  some (!r1)
theorem c_prog_May_1 (a0 : T_Fn) {r : Bool} (h : p_prog_May_1 a0 = some r) : Ctr prog 88 [.agg (enc_Fn a0)] [] (.raw (.bool r)) [] := by
 unfold p_prog_May_1 at h;refine Ctr.ofW tabOk func88 rfl call88 0 _ ntmps88 [.tmp 2] rfl rfl rfl (fun B => ?_);refine VC.seqF tabOkF [some 1,some 2] [1] rfl rfl (fun K hK => ?_);push_cast;(repeat refine .intro (by omega) ?_);refine hK _ ?_;clear hK K;obtain ⟨r1,hr1,h⟩ := po_some h;refine VC.seqF tabOkF [some 3,some 4,some 5,some 2] [2] rfl rfl (fun K hK => ?_);push_cast;(repeat refine .intro (by omega) ?_);refine callP (Ctr.lo (c_prog_fine a0 hr1)) rfl ?_;push_cast;(repeat refine .intro (by omega) ?_);refine hK _ ?_;clear hK K;refine VC.ret ?_;have hr := Option.some.inj h;subst hr;refine endP (Sub.lo _) (Post.ret ?_ ?_ ?_)
 ·push_cast
 ·push_cast
 ·rfl
noncomputable def p_slices_IndexFunc_api_Fn_api_Fn_prog_May_1_L2 (a0 : (List T_Fn)) (i_1 : Int) : Option ((Int) ⊕ ((Unit) ⊕ (Int))) :=
  cond (decide (i_1 < (a0.length : Int))) (
  po (idx a0 i_1) fun x4 =>
  po (p_prog_May_1 x4) fun r5 =>
  cond r5 (
  some (Sum.inr (Sum.inr i_1))) (
  some (Sum.inl (IntKind.i64.wrap (i_1 + 1))))) (
  some (Sum.inr (Sum.inl ())))
noncomputable def p_slices_IndexFunc_api_Fn_api_Fn_prog_May_1_J1 : Option (Int) :=
  some (-1)
noncomputable def p_slices_IndexFunc_api_Fn_api_Fn_prog_May_1 (a0 : (List T_Fn)) : Option (Int) :=
  pm (
  lpU (fun x => p_slices_IndexFunc_api_Fn_api_Fn_prog_May_1_L2 a0 x) 0) (fun x => p_slices_IndexFunc_api_Fn_api_Fn_prog_May_1_J1)
theorem c_slices_IndexFunc_api_Fn_api_Fn_prog_May_1 (a0 : (List T_Fn)) {r : Int} (h : p_slices_IndexFunc_api_Fn_api_Fn_prog_May_1 a0 = some r) : Ctr prog 98 [.sl false (a0.map enc_Fn), .fn (.func 88) [] []] [] (.raw (.int .i64 r)) [] := by
 unfold p_slices_IndexFunc_api_Fn_api_Fn_prog_May_1 at h;refine Ctr.ofW tabOk func98 rfl call98 0 _ ntmps98 [.tmp 4] rfl rfl rfl (fun B => ?_);refine VC.seqF tabOkF [some 4] [0,1] rfl rfl (fun K hK => ?_);push_cast;(repeat refine .intro (by omega) ?_);refine hK _ ?_;clear hK K;obtain ⟨v1,h,hk1⟩ := pm_some h;refine VC.seqJ (X := Unit) (fun x => p_slices_IndexFunc_api_Fn_api_Fn_prog_May_1_J1 = some r) (fun x => ⟨[],[],16,19,0⟩) ?_ ?_
 ·refine VC.seqF tabOkF [some 6,some 7,some 8] [0,1,7,8] rfl rfl (fun K hK => ?_);push_cast;(repeat refine .intro (by omega) ?_);refine hK _ ?_;clear hK K;refine VC.block ?_;refine VC.loopP h (fun x => ⟨[(0,.sl false (a0.map enc_Fn)),(1,.fn (.func 88) [] []),(7,.raw (.int .i64 (a0.length : Int))),(8,.raw (.int .i64 x))],[],15,19,0⟩) ?_ ?_
  ·refine slo ?_ ?_ rfl rfl
   ·push_cast
   ·push_cast
  rintro i_1 b2 h hf2;replace h : p_slices_IndexFunc_api_Fn_api_Fn_prog_May_1_L2 a0 i_1 = some b2 := h;(try push_cast);unfold p_slices_IndexFunc_api_Fn_api_Fn_prog_May_1_L2 at h;refine VC.seqF tabOkF [some 9] [0,1,7,8,9] rfl rfl (fun K hK => ?_);push_cast;(repeat refine .intro (by omega) ?_);refine hK _ ?_;clear hK K;refine VC.seq ?_;refine VC.cond rfl rfl (fun hc3 => ?_) (fun hc3 => ?_)
  ·have hb3 : (decide (i_1 < (a0.length : Int))) = true := by simpa using hc3
   replace h := cond_yes hb3 h;refine VC.skip ?_;refine VC.seq ?_;refine VC.block ?_;refine VC.seqF tabOkF [some 10,some 5] [0,1,5,7,8] rfl rfl (fun K hK => ?_);push_cast [hb3];(repeat refine .intro (by omega) ?_);refine hK _ ?_;clear hK K;obtain ⟨x4,hx4,h⟩ := po_some h;obtain ⟨hx41,hx42,hx43,hx44⟩ := idx_some4 hx4;obtain ⟨r5,hr5,h⟩ := po_some h;refine VC.seqF tabOkF [some 11,some 12,some 13,some 14,some 15,some 16] [0,1,5,7,8,16] rfl rfl (fun K hK => ?_);push_cast [hb3,hx41,hx42,hx43,hx44];(repeat refine .intro (by omega) ?_);refine callP (Ctr.lo (c_prog_May_1 x4 hr5)) rfl ?_;push_cast [hb3,hx41,hx42,hx43,hx44];(repeat refine .intro (by omega) ?_);refine hK _ ?_;clear hK K;refine VC.cond rfl rfl (fun hc6 => ?_) (fun hc6 => ?_)
   ·have hb6 : r5 = true := by simpa using hc6
    replace h := cond_yes hb6 h;refine VC.seqF tabOkF [some 17,some 4] [4] rfl rfl (fun K hK => ?_);push_cast [hb3,hx41,hx42,hx43,hx44,hb6];(repeat refine .intro (by omega) ?_);refine hK _ ?_;clear hK K;refine VC.ret ?_;replace h := congrArg some (hf2 _ (Option.some.inj h).symm);have hv := Option.some.inj h;rw [← hv] at hk1;replace h : some i_1 = some r := hk1;have hr := Option.some.inj h;subst hr;refine endP (Sub.lo _) (Post.ret ?_ ?_ ?_)
    ·push_cast [hb3,hb6]
    ·push_cast [hb3,hb6]
    ·rfl
   ·have hb6 : r5 = false := by simpa using hc6
    replace h := cond_no hb6 h;refine VC.skip ?_;refine VC.lastF tabOkF [some 18,some 8] rfl rfl (fun K hK => ?_);push_cast [hb3,hx41,hx42,hx43,hx44,hb6];(repeat refine .intro (by omega) ?_);refine hK _ ?_;clear hK K;refine Exists.intro ((IntKind.i64.wrap (i_1 + 1))) (And.intro (Option.some.inj h).symm ?_);refine slo ?_ ?_ rfl rfl
    ·push_cast [hb3,hb6]
    ·push_cast [hb3,hb6]
  ·have hb3 : (decide (i_1 < (a0.length : Int))) = false := by simpa using hc3
   replace h := cond_no hb3 h;refine VC.exit ?_;replace h := congrArg some (hf2 _ (Option.some.inj h).symm);have hv := Option.some.inj h;rw [← hv] at hk1;refine Exists.intro (()) (And.intro hk1 ?_);refine slo ?_ ?_ rfl rfl
   ·push_cast [hb3]
   ·push_cast [hb3]
 ·rintro ⟨⟩ h;replace h : p_slices_IndexFunc_api_Fn_api_Fn_prog_May_1_J1 = some r := h;(try push_cast);unfold p_slices_IndexFunc_api_Fn_api_Fn_prog_May_1_J1 at h;refine VC.seqF tabOkF [some 4] [4] rfl rfl (fun K hK => ?_);push_cast;(repeat refine .intro (by omega) ?_);refine hK _ ?_;clear hK K;refine VC.ret ?_;have hr := Option.some.inj h;subst hr;refine endP (Sub.lo _) (Post.ret ?_ ?_ ?_)
  ·push_cast
  ·push_cast
  ·rfl
noncomputable def p_slices_ContainsFunc_api_Fn_api_Fn_prog_May_1 (a0 : (List T_Fn)) : Option (Bool) :=
  po (p_slices_IndexFunc_api_Fn_api_Fn_prog_May_1 a0) fun r1 =>
  some (decide (r1 ≥ 0))
theorem c_slices_ContainsFunc_api_Fn_api_Fn_prog_May_1 (a0 : (List T_Fn)) {r : Bool} (h : p_slices_ContainsFunc_api_Fn_api_Fn_prog_May_1 a0 = some r) : Ctr prog 87 [.sl false (a0.map enc_Fn), .fn (.func 88) [] []] [] (.raw (.bool r)) [] := by
 unfold p_slices_ContainsFunc_api_Fn_api_Fn_prog_May_1 at h;refine Ctr.ofW tabOk func87 rfl call87 0 _ ntmps87 [.tmp 4] rfl rfl rfl (fun B => ?_);refine VC.seqF tabOkF [some 4] [0,1] rfl rfl (fun K hK => ?_);push_cast;(repeat refine .intro (by omega) ?_);refine hK _ ?_;clear hK K;obtain ⟨r1,hr1,h⟩ := po_some h;refine VC.seqF tabOkF [some 5,some 6,some 7,some 8,some 4] [4] rfl rfl (fun K hK => ?_);push_cast;(repeat refine .intro (by omega) ?_);refine callP (Ctr.lo (c_slices_IndexFunc_api_Fn_api_Fn_prog_May_1 a0 hr1)) rfl ?_;push_cast;(repeat refine .intro (by omega) ?_);refine hK _ ?_;clear hK K;refine VC.ret ?_;have hr := Option.some.inj h;subst hr;refine endP (Sub.lo _) (Post.ret ?_ ?_ ?_)
 ·push_cast
 ·push_cast
 ·rfl
noncomputable def p_prog_May_J1 (a0 : T_Prog) (i_1 : Bool) : Option (Bool) :=
  cond i_1 (
  some false) (
  po (p_slices_ContainsFunc_api_Fn_api_Fn_prog_May_1 a0.Fns) fun r6 =>
  some (!r6))
noncomputable def p_prog_May (a0 : T_Prog) : Option (Bool) :=
  po (
  cond ((a0.Fns.length : Int) == 0) (
  some true) (
  cond (decide ((a0.Fns.length : Int) > 8)) (
  some true) (
  po (a0.Fns[0]?) fun x4 =>
  some (x4.Args != 0)))) (fun x => p_prog_May_J1 a0 x)
theorem c_prog_May (a0 : T_Prog) {r : Bool} (h : p_prog_May a0 = some r) : Ctr prog 78 [.agg (enc_Prog a0)] [] (.raw (.bool r)) [] := by
 unfold p_prog_May at h;refine Ctr.ofW tabOk func78 rfl call78 0 _ ntmps78 [.tmp 2] rfl rfl rfl (fun B => ?_);refine VC.seqF tabOkF [some 1,some 2] [1] rfl rfl (fun K hK => ?_);push_cast;(repeat refine .intro (by omega) ?_);refine hK _ ?_;clear hK K;refine VC.seq ?_;obtain ⟨v1,h,hk1⟩ := po_some h;refine VC.seqJ (X := Bool) (fun x => p_prog_May_J1 a0 x = some r) (fun x => ⟨[(1,.ref 0 0),(20,.raw (.bool x))],[(0,.box 64 [.sl false (a0.Fns.map enc_Fn)])],20,25,0⟩) ?_ ?_
 ·rcases Bool.eq_false_or_eq_true ((a0.Fns.length : Int) == 0) with hb2 | hb2
  ·replace h := cond_yes hb2 h;refine VC.lastF tabOkF [some 3,some 4,some 5,some 6,some 7,some 8,some 9,some 10,some 11,some 12,some 13,some 14,some 15,some 16,some 17,some 18,some 19,some 20] rfl rfl (fun K hK => ?_);refine runOps_cut 8 (fun K2 hK2 => ?_);push_cast [hb2];(repeat refine .intro (by omega) ?_);refine hK2 _ _ ?_;clear hK2 K2;simp only [List.drop_succ_cons,List.drop_zero];push_cast [hb2];(repeat refine .intro (by omega) ?_);refine hK _ ?_;clear hK K;have hv := Option.some.inj h;rw [← hv] at hk1;refine Exists.intro (true) (And.intro hk1 ?_);refine slo ?_ ?_ rfl rfl
   ·push_cast [hb2]
   ·push_cast [hb2]
  ·replace h := cond_no hb2 h;rcases Bool.eq_false_or_eq_true (decide ((a0.Fns.length : Int) > 8)) with hb3 | hb3
   ·replace h := cond_yes hb3 h;refine VC.lastF tabOkF [some 3,some 4,some 5,some 6,some 7,some 8,some 9,some 10,some 11,some 12,some 13,some 14,some 15,some 16,some 17,some 18,some 19,some 20] rfl rfl (fun K hK => ?_);refine runOps_cut 8 (fun K2 hK2 => ?_);push_cast [hb2,hb3];(repeat refine .intro (by omega) ?_);refine hK2 _ _ ?_;clear hK2 K2;simp only [List.drop_succ_cons,List.drop_zero];push_cast [hb2,hb3];(repeat refine .intro (by omega) ?_);refine hK _ ?_;clear hK K;have hv := Option.some.inj h;rw [← hv] at hk1;refine Exists.intro (true) (And.intro hk1 ?_);refine slo ?_ ?_ rfl rfl
    ·push_cast [hb2,hb3]
    ·push_cast [hb2,hb3]
   ·replace h := cond_no hb3 h;obtain ⟨x4,hx4,h⟩ := po_some h;have hx41 := get_ltI hx4;have hx42 := get_lt hx4;refine VC.lastF tabOkF [some 3,some 4,some 5,some 6,some 7,some 8,some 9,some 10,some 11,some 12,some 13,some 14,some 15,some 16,some 17,some 18,some 19,some 20] rfl rfl (fun K hK => ?_);refine runOps_cut 8 (fun K2 hK2 => ?_);push_cast [hb2,hb3,hx4,hx41,hx42];(repeat refine .intro (by omega) ?_);refine hK2 _ _ ?_;clear hK2 K2;simp only [List.drop_succ_cons,List.drop_zero];push_cast [hb2,hb3,hx4,hx41,hx42];(repeat refine .intro (by omega) ?_);refine hK _ ?_;clear hK K;have hv := Option.some.inj h;rw [← hv] at hk1;refine Exists.intro ((x4.Args != 0)) (And.intro hk1 ?_);refine slo ?_ ?_ rfl rfl
    ·push_cast [hb2,hb3]
    ·push_cast [hb2,hb3]
 ·rintro i_1 h;replace h : p_prog_May_J1 a0 i_1 = some r := h;(try push_cast);unfold p_prog_May_J1 at h;refine VC.cond rfl rfl (fun hc5 => ?_) (fun hc5 => ?_)
  ·have hb5 : i_1 = true := by simpa using hc5
   replace h := cond_yes hb5 h;refine VC.seqF tabOkF [some 2] [2] rfl rfl (fun K hK => ?_);push_cast [hb5];(repeat refine .intro (by omega) ?_);refine hK _ ?_;clear hK K;refine VC.ret ?_;have hr := Option.some.inj h;subst hr;refine endP (Sub.lo _) (Post.ret ?_ ?_ ?_)
   ·push_cast [hb5]
   ·push_cast [hb5]
   ·rfl
  ·have hb5 : i_1 = false := by simpa using hc5
   replace h := cond_no hb5 h;refine VC.skip ?_;obtain ⟨r6,hr6,h⟩ := po_some h;refine VC.seqF tabOkF [some 21,some 22,some 23,some 24,some 2] [2] rfl rfl (fun K hK => ?_);push_cast [hb5];(repeat refine .intro (by omega) ?_);refine callP (Ctr.lo (c_slices_ContainsFunc_api_Fn_api_Fn_prog_May_1 a0.Fns hr6)) rfl ?_;push_cast [hb5];(repeat refine .intro (by omega) ?_);refine hK _ ?_;clear hK K;refine VC.ret ?_;have hr := Option.some.inj h;subst hr;refine endP (Sub.lo _) (Post.ret ?_ ?_ ?_)
   ·push_cast [hb5]
   ·push_cast [hb5]
   ·rfl
abbrev Fra := T_interp_frame
abbrev Rn := T_interp_run
/-! ### Programs that may be -/
structure InstOk (i : T_Inst) : Prop where
  op : 0 ≤ i.Op ∧ i.Op < 8
  dst : 0 ≤ i.Dst ∧ i.Dst < 8
  src : 0 ≤ i.Src ∧ i.Src < 8
  off : 0 ≤ i.Off ∧ i.Off ≤ 65535
  alu : i.Op = 0 → 0 ≤ i.Fn ∧ i.Fn < 11
  jmp : i.Op = 1 → 0 ≤ i.Fn ∧ i.Fn < 5
structure FnOk (f : T_Fn) : Prop where
  args : 0 ≤ f.Args ∧ f.Args ≤ 4
  len : 0 < f.Code.length ∧ f.Code.length ≤ 64
  code : ∀ i ∈ f.Code, InstOk i
structure ProgOk (p : T_Prog) : Prop where
  len : 0 < p.Fns.length ∧ p.Fns.length ≤ 8
  fns : ∀ f ∈ p.Fns, FnOk f
  main : ∀ f, p.Fns[0]? = some f → f.Args = 0
def inb (a b : Int) : Bool := decide (0 ≤ a ∧ a < b)
theorem instIn_is (a b : Int) : p_inst_in a b = some (inb a b) := by
  unfold p_inst_in inb
  by_cases h : 0 ≤ a
  · simp [h, p_inst_in_J1]
  · simp [h, p_inst_in_J1]
theorem inb_true {a b : Int} (h : inb a b = true) : 0 ≤ a ∧ a < b := of_decide_eq_true h
theorem instMay_tells (i : T_Inst) : ∃ b, p_inst_May i = some b ∧ (b = true → InstOk i) := by
  unfold p_inst_May
  simp only [instIn_is, po_of]
  have no : p_inst_May_J1 i true = some false := rfl
  rcases Bool.eq_false_or_eq_true (inb i.Op 8) with h1 | h1
  case inr => exact ⟨false, by rw [h1]; exact no, fun h => by cases h⟩
  rcases Bool.eq_false_or_eq_true (inb i.Dst 8) with h2 | h2
  case inr => exact ⟨false, by rw [h1, h2]; exact no, fun h => by cases h⟩
  rcases Bool.eq_false_or_eq_true (inb i.Src 8) with h3 | h3
  case inr => exact ⟨false, by rw [h1, h2, h3]; exact no, fun h => by cases h⟩
  rw [h1, h2, h3]
  simp only [cond_true, po_of, Bool.not_true, p_inst_May_J1, cond_false]
  have o := inb_true h1
  have d := inb_true h2
  have s := inb_true h3
  simp only [p_inst_rules, po_of]
  rw [pg_of o]
  -- the end
  have fin : ∀ b, ∃ c, p_inst_May_J14 i b = some c ∧ (c = true → b = true) := fun b => by
    unfold p_inst_May_J14
    cases i.Reg <;> cases b
    all_goals simp only [cond_true, cond_false, po_of, p_inst_May_J30, p_inst_May_J32]
    all_goals exact ⟨_, rfl, by simp⟩
  have mid : ∀ r : T_inst_rule, 0 ≤ r.off ∧ r.off ≤ 65535 → ∃ c, p_inst_May_J10 i r = some c ∧ (c = true → (0 ≤ i.Fn ∧ i.Fn < r.fns) ∧ 0 ≤ i.Off ∧ i.Off ≤ 65535) := fun r hr => by
    have key : ∀ X : Option Bool, (∃ b, X = some b ∧ (b = true → (0 ≤ i.Fn ∧ i.Fn < r.fns) ∧ 0 ≤ i.Off ∧ i.Off ≤ 65535)) → ∃ c, po X (fun x => p_inst_May_J14 i x) = some c ∧ (c = true → (0 ≤ i.Fn ∧ i.Fn < r.fns) ∧ 0 ≤ i.Off ∧ i.Off ≤ 65535) := fun X ⟨b, e, hb⟩ => by
      subst e
      obtain ⟨c, h4, h5⟩ := fin b
      exact ⟨c, h4, fun hc => hb (h5 hc)⟩
    unfold p_inst_May_J10
    refine key _ ?_
    simp only [instIn_is, po_of]
    rcases Bool.eq_false_or_eq_true (inb i.Fn r.fns) with h4 | h4
    case inr => exact ⟨false, by rw [h4]; rfl, fun h => by cases h⟩
    have hw : IntKind.i64.wrap (r.off + 1) = r.off + 1 := wrap_i64 (by omega) (by omega)
    rw [hw]
    rcases Bool.eq_false_or_eq_true (inb i.Off (r.off + 1)) with h5 | h5
    case inr => exact ⟨false, by rw [h4, h5]; rfl, fun h => by cases h⟩
    rw [h4, h5]
    have h6 := inb_true h4
    have h7 := inb_true h5
    simp only [cond_true]
    have done : ∀ X : Option Bool, (∃ b, X = some b) → ∃ b, X = some b ∧ (b = true → (0 ≤ i.Fn ∧ i.Fn < r.fns) ∧ 0 ≤ i.Off ∧ i.Off ≤ 65535) := fun X ⟨b, e⟩ => ⟨b, e, fun _ => ⟨h6, by omega, by omega⟩⟩
    refine done _ ?_
    cases r.dst <;> cases r.word <;> cases r.imm <;> cases i.Reg <;> cases (i.Dst == 0)
    all_goals exact ⟨_, rfl⟩
  have hop : i.Op = 0 ∨ i.Op = 1 ∨ i.Op = 2 ∨ i.Op = 3 ∨ i.Op = 4 ∨ i.Op = 5 ∨ i.Op = 6 ∨ i.Op = 7 := by omega
  obtain ⟨r, hr, hro, hra, hrj⟩ : ∃ r : T_inst_rule, po (cond (i.Op == 1) (some (i.Fn == 0)) (some false)) (fun x => p_inst_May_J11 i (A8.mk (T_inst_rule.mk 11 true true 0 true) (T_inst_rule.mk 5 true true 65535 true) (T_inst_rule.mk 1 true true 0 true) (T_inst_rule.mk 1 true true 0 true) (T_inst_rule.mk 1 true true 0 true) (T_inst_rule.mk 1 false false 0 true) (T_inst_rule.mk 1 false false 0 true) (T_inst_rule.mk 1 false false 0 false)) x) = some r ∧ (0 ≤ r.off ∧ r.off ≤ 65535) ∧ (i.Op = 0 → r.fns = 11) ∧ (i.Op = 1 → r.fns = 5) := by
    rcases hop with q | q | q | q | q | q | q | q
    all_goals rw [q]
    case inr.inl =>
      cases hq : (i.Fn == 0)
      · exact ⟨⟨5, true, true, 65535, true⟩, by simp only [show ((1 : Int) == 1) = true from rfl, cond_true, po_of, p_inst_May_J11, cond_false, q]; rfl, by decide, fun h => absurd h (by decide), fun _ => rfl⟩
      · exact ⟨⟨5, false, false, 65535, false⟩, by simp only [show ((1 : Int) == 1) = true from rfl, cond_true, po_of, p_inst_May_J11, q]; rfl, by decide, fun h => absurd h (by decide), fun _ => rfl⟩
    case inl => exact ⟨⟨11, true, true, 0, true⟩, by simp only [show ((0 : Int) == 1) = false from rfl, cond_false, po_of, p_inst_May_J11, q]; rfl, by decide, fun _ => rfl, fun h => absurd h (by decide)⟩
    case inr.inr.inl => exact ⟨⟨1, true, true, 0, true⟩, by simp only [show ((2 : Int) == 1) = false from rfl, cond_false, po_of, p_inst_May_J11, q]; rfl, by decide, fun h => absurd h (by decide), fun h => absurd h (by decide)⟩
    case inr.inr.inr.inl => exact ⟨⟨1, true, true, 0, true⟩, by simp only [show ((3 : Int) == 1) = false from rfl, cond_false, po_of, p_inst_May_J11, q]; rfl, by decide, fun h => absurd h (by decide), fun h => absurd h (by decide)⟩
    case inr.inr.inr.inr.inl => exact ⟨⟨1, true, true, 0, true⟩, by simp only [show ((4 : Int) == 1) = false from rfl, cond_false, po_of, p_inst_May_J11, q]; rfl, by decide, fun h => absurd h (by decide), fun h => absurd h (by decide)⟩
    case inr.inr.inr.inr.inr.inl => exact ⟨⟨1, false, false, 0, true⟩, by simp only [show ((5 : Int) == 1) = false from rfl, cond_false, po_of, p_inst_May_J11, q]; rfl, by decide, fun h => absurd h (by decide), fun h => absurd h (by decide)⟩
    case inr.inr.inr.inr.inr.inr.inl => exact ⟨⟨1, false, false, 0, true⟩, by simp only [show ((6 : Int) == 1) = false from rfl, cond_false, po_of, p_inst_May_J11, q]; rfl, by decide, fun h => absurd h (by decide), fun h => absurd h (by decide)⟩
    case inr.inr.inr.inr.inr.inr.inr => exact ⟨⟨1, false, false, 0, false⟩, by simp only [show ((7 : Int) == 1) = false from rfl, cond_false, po_of, p_inst_May_J11, q]; rfl, by decide, fun h => absurd h (by decide), fun h => absurd h (by decide)⟩
  rw [hr, po_of]
  obtain ⟨c, h4, h5⟩ := mid r hro
  refine ⟨c, h4, fun hc => ?_⟩
  obtain ⟨h6, h7⟩ := h5 hc
  exact ⟨o, d, s, h7, fun q => by rw [hra q] at h6; exact h6, fun q => by rw [hrj q] at h6; exact h6⟩
theorem index_any {α : Type} {l : List α} {q : α → Bool} {step : Int → Option (Int ⊕ (Unit ⊕ Int))} (hl : l.length ≤ 1048576)
    (hs : ∀ (n : Nat) (a : α), l[n]? = some a → step (n : Int) = some (if q a = true then .inr (.inr (n : Int)) else .inl ((n + 1 : Nat) : Int)))
    (he : step (l.length : Int) = some (.inr (.inl ()))) :
    ∃ r, lpU step 0 = some r ∧ ((r = .inl () ∧ ∀ a ∈ l, q a = false) ∨ ∃ n : Nat, r = .inr (n : Int)) := by
  refine lp_inv (fun s => ∃ n : Nat, s = (n : Int) ∧ n ≤ l.length ∧ ∀ (j : Nat) (a : α), j < n → l[j]? = some a → q a = false) (fun s => ((l.length : Int) - s).toNat) (fun (r : Unit ⊕ Int) => (r = .inl () ∧ ∀ a ∈ l, q a = false) ∨ ∃ n : Nat, r = .inr (n : Int)) ?_ (0 : Int) ⟨0, rfl, Nat.zero_le _, fun j a hj => by omega⟩
  rintro s ⟨n, rfl, h2, h3⟩
  by_cases hlt : n < l.length
  · have ha := List.getElem?_eq_getElem hlt
    cases hq : q l[n] with
    | true => exact .inr ⟨_, by rw [hs n _ ha, hq]; rfl, .inr ⟨n, rfl⟩⟩
    | false =>
      refine .inl ⟨_, by rw [hs n _ ha, hq]; rfl, ⟨n + 1, rfl, by omega, fun j a hj hja => ?_⟩, by omega⟩
      rcases Nat.lt_or_ge j n with hjn | hjn
      · exact h3 j a hjn hja
      · have : j = n := by omega
        subst this
        rw [ha] at hja
        injection hja with hja
        subst hja
        exact hq
  · have : n = l.length := by omega
    subst this
    refine .inr ⟨_, he, .inl ⟨rfl, fun a ha => ?_⟩⟩
    obtain ⟨j, hj⟩ := List.mem_iff_getElem?.1 ha
    exact h3 j a (get_lt hj) hj
theorem fine_tells (f : T_Fn) : ∃ b, p_prog_fine f = some b ∧ (b = true → FnOk f) := by
  have fin : ∀ X : Option Bool, (∃ b, X = some b ∧ (b = true → FnOk f)) → ∃ b, po X (fun x => p_prog_fine_J1 x) = some b ∧ (b = true → FnOk f) := fun X ⟨b, e, h⟩ => ⟨b, by rw [e]; rfl, h⟩
  unfold p_prog_fine
  refine fin _ ?_
  by_cases h1 : f.Args ≥ 0
  case neg => exact ⟨false, by rw [decide_eq_false h1]; rfl, fun h => by cases h⟩
  by_cases h2 : f.Args ≤ 4
  case neg => exact ⟨false, by rw [decide_eq_true h1, decide_eq_false h2]; rfl, fun h => by cases h⟩
  by_cases h3 : (f.Code.length : Int) > 0
  case neg => exact ⟨false, by rw [decide_eq_true h1, decide_eq_true h2, decide_eq_false h3]; rfl, fun h => by cases h⟩
  by_cases h4 : (f.Code.length : Int) ≤ 64
  case neg => exact ⟨false, by rw [decide_eq_true h1, decide_eq_true h2, decide_eq_true h3, decide_eq_false h4]; rfl, fun h => by cases h⟩
  rw [decide_eq_true h1, decide_eq_true h2, decide_eq_true h3, decide_eq_true h4]
  simp only [cond_true]
  obtain ⟨r, hr, hq⟩ := index_any (l := f.Code) (q := fun i => !((p_inst_May i).getD false)) (step := fun x => p_slices_IndexFunc_api_Inst_api_Inst_prog_fine_1_L2 f.Code x) (by omega)
    (fun n i hi => by
      obtain ⟨b, hb, _⟩ := instMay_tells i
      have hlt := get_lt hi
      have hd : decide ((n : Int) < (f.Code.length : Int)) = true := by simp; omega
      simp only [p_slices_IndexFunc_api_Inst_api_Inst_prog_fine_1_L2, hd, cond_true, idx_nat, hi, po_of, p_prog_fine_1, hb, Option.getD_some, w64 (show n < 9223372036854775807 by omega)]
      cases b <;> rfl)
    (by
      have hd : decide ((f.Code.length : Int) < (f.Code.length : Int)) = false := by simp
      simp only [p_slices_IndexFunc_api_Inst_api_Inst_prog_fine_1_L2, hd, cond_false])
  have hI : p_slices_IndexFunc_api_Inst_api_Inst_prog_fine_1 f.Code = pm (some r) (fun x => p_slices_IndexFunc_api_Inst_api_Inst_prog_fine_1_J1) := by
    rw [← hr]; rfl
  rcases hq with ⟨rfl, hall⟩ | ⟨n, rfl⟩
  · refine ⟨true, ?_, fun _ => ⟨⟨h1, h2⟩, ⟨by omega, by omega⟩, fun i hi => ?_⟩⟩
    · simp only [p_slices_ContainsFunc_api_Inst_api_Inst_prog_fine_1, hI, pm_inl, p_slices_IndexFunc_api_Inst_api_Inst_prog_fine_1_J1, po_of]
      rfl
    · obtain ⟨b, hb, h5⟩ := instMay_tells i
      have := hall i hi
      rw [hb] at this
      simp at this
      exact h5 this
  · refine ⟨false, ?_, fun h => by cases h⟩
    simp only [p_slices_ContainsFunc_api_Inst_api_Inst_prog_fine_1, hI, pm_inr, po_of]
    rw [decide_eq_true (Int.natCast_nonneg n)]
    rfl
theorem progMay_tells (p : T_Prog) : ∃ b, p_prog_May p = some b ∧ (b = true → ProgOk p) := by
  have no : p_prog_May_J1 p true = some false := rfl
  have fin : ∀ X : Option Bool, X = some true → ∃ b, po X (fun x => p_prog_May_J1 p x) = some b ∧ (b = true → ProgOk p) := fun X e => ⟨false, by rw [e]; exact no, fun h => by cases h⟩
  unfold p_prog_May
  by_cases h1 : (p.Fns.length : Int) = 0
  · have d : ((p.Fns.length : Int) == 0) = true := by simpa using h1
    exact fin _ (by rw [d]; rfl)
  have d1 : ((p.Fns.length : Int) == 0) = false := by simpa using h1
  by_cases h2 : (p.Fns.length : Int) > 8
  · exact fin _ (by rw [d1, decide_eq_true h2]; rfl)
  have d2 := decide_eq_false h2
  obtain ⟨f0, hf0⟩ : ∃ f, p.Fns[0]? = some f := ⟨_, List.getElem?_eq_getElem (by omega)⟩
  by_cases h3 : f0.Args = 0
  case neg =>
    have d : (f0.Args != 0) = true := by simpa using h3
    exact fin _ (by rw [d1, d2, hf0]; simp only [cond_false, po_of, d])
  have d3 : (f0.Args != 0) = false := by simpa using h3
  rw [d1, d2, hf0]
  simp only [cond_false, po_of, d3, p_prog_May_J1]
  obtain ⟨r, hr, hq⟩ := index_any (l := p.Fns) (q := fun f => !((p_prog_fine f).getD false)) (step := fun x => p_slices_IndexFunc_api_Fn_api_Fn_prog_May_1_L2 p.Fns x) (by omega)
    (fun n f hf => by
      obtain ⟨b, hb, _⟩ := fine_tells f
      have hlt := get_lt hf
      have hd : decide ((n : Int) < (p.Fns.length : Int)) = true := by simp; omega
      simp only [p_slices_IndexFunc_api_Fn_api_Fn_prog_May_1_L2, hd, cond_true, idx_nat, hf, po_of, p_prog_May_1, hb, Option.getD_some, w64 (show n < 9223372036854775807 by omega)]
      cases b <;> rfl)
    (by
      have hd : decide ((p.Fns.length : Int) < (p.Fns.length : Int)) = false := by simp
      simp only [p_slices_IndexFunc_api_Fn_api_Fn_prog_May_1_L2, hd, cond_false])
  have hI : p_slices_IndexFunc_api_Fn_api_Fn_prog_May_1 p.Fns = pm (some r) (fun x => p_slices_IndexFunc_api_Fn_api_Fn_prog_May_1_J1) := by
    rw [← hr]; rfl
  rcases hq with ⟨rfl, hall⟩ | ⟨n, rfl⟩
  · refine ⟨true, ?_, fun _ => ⟨⟨by omega, by omega⟩, fun f hf => ?_, fun f hf => ?_⟩⟩
    · simp only [p_slices_ContainsFunc_api_Fn_api_Fn_prog_May_1, hI, pm_inl, p_slices_IndexFunc_api_Fn_api_Fn_prog_May_1_J1, po_of]
      rfl
    · obtain ⟨b, hb, h5⟩ := fine_tells f
      have := hall f hf
      rw [hb] at this
      simp at this
      exact h5 this
    · rw [hf0] at hf
      injection hf with hf
      subst hf
      exact h3
  · refine ⟨false, ?_, fun h => by cases h⟩
    simp only [p_slices_ContainsFunc_api_Fn_api_Fn_prog_May_1, hI, pm_inr, po_of]
    rw [decide_eq_true (Int.natCast_nonneg n)]
    rfl
noncomputable def p_interp_run_fail (a0 : T_interp_run) (a1 : Int) : Option (T_interp_run) :=
  cond (a0.err == 0) (
  some (T_interp_run.mk a0.p a0.e a0.fuel a0.used a1)) (
  some a0)
theorem c_interp_run_fail (a0 : T_interp_run) (a1 : Int) {r : T_interp_run} (h : p_interp_run_fail a0 a1 = some r) : Ctr prog 97 [.ref 0 0, .raw (.int .i64 a1)] [(0, .box 109 (enc_interp_run a0))] (.tup []) [(0, .box 109 (enc_interp_run r))] := by
 unfold p_interp_run_fail at h;refine Ctr.ofW tabOk func97 rfl call97 1 _ ntmps97 [] rfl rfl rfl (fun B => ?_);refine VC.seqF tabOkF [some 4,some 5,some 6,some 7,some 8] [0,1,8] rfl rfl (fun K hK => ?_);push_cast;(repeat refine .intro (by omega) ?_);refine hK _ ?_;clear hK K;refine VC.cond rfl rfl (fun hc1 => ?_) (fun hc1 => ?_)
 ·have hb1 : (a0.err == 0) = true := by simpa using hc1
  replace h := cond_yes hb1 h;refine VC.lastF tabOkF [some 9,some 10,some 11,some 12,none] rfl rfl (fun K hK => ?_);push_cast [hb1];(repeat refine .intro (by omega) ?_);refine hK _ ?_;clear hK K;have hr := Option.some.inj h;subst hr;refine endP (Sub.lo _) (Post.nrm ?_ ?_ ?_)
  ·push_cast [hb1]
  ·push_cast [hb1]
  ·rfl
 ·have hb1 : (a0.err == 0) = false := by simpa using hc1
  replace h := cond_no hb1 h;refine VC.skip ?_;have hr := Option.some.inj h;subst hr;refine endP (Sub.lo _) (Post.nrm ?_ ?_ ?_)
  ·push_cast [hb1]
  ·push_cast [hb1]
  ·rfl
noncomputable def p_interp_frame_get_J1 (a0 : T_interp_frame) (a1 : Int) (s_1 : T_interp_run) : Option (UInt32 × T_interp_frame × T_interp_run) :=
  pg (0 ≤ a1 ∧ a1 < 8) <|
  some ((a0.regs.get a1.toNat), a0, s_1)
noncomputable def p_interp_frame_get (a0 : T_interp_frame) (a0_r : T_interp_run) (a1 : Int) : Option (UInt32 × T_interp_frame × T_interp_run) :=
  po (
  pg (0 ≤ a1 ∧ a1 < 8) <|
  cond (!(a0.set.get a1.toNat)) (
  po (p_interp_run_fail a0_r 10) fun r4 =>
  some r4) (
  some a0_r)) (fun x => p_interp_frame_get_J1 a0 a1 x)
theorem c_interp_frame_get (a0 : T_interp_frame) (a0_r : T_interp_run) (a1 : Int) {r : UInt32 × T_interp_frame × T_interp_run} (h : p_interp_frame_get a0 a0_r a1 = some r) : Ctr prog 103 [.ref 0 0, .raw (.int .i64 a1)] [(0, .box 124 (enc_interp_frame a0 (.ref 1 0))), (1, .box 109 (enc_interp_run a0_r))] (.raw (.int .u32 (r.1.toNat : Int))) [(0, .box 124 (enc_interp_frame r.2.1 (.ref 1 0))), (1, .box 109 (enc_interp_run r.2.2))] := by
 unfold p_interp_frame_get at h;refine Ctr.ofW tabOk func103 rfl call103 2 _ ntmps103 [.tmp 4] rfl rfl rfl (fun B => ?_);refine VC.seqF tabOkF [some 4] [0,1] rfl rfl (fun K hK => ?_);push_cast;(repeat refine .intro (by omega) ?_);refine hK _ ?_;clear hK K;obtain ⟨v1,h,hk1⟩ := po_some h;refine VC.seqJ (X := T_interp_run) (fun x => p_interp_frame_get_J1 a0 a1 x = some r) (fun x => ⟨[(0,.ref 0 0),(1,.raw (.int .i64 a1))],[(0,.box 124 (enc_interp_frame a0 (.ref 1 0))),(1,.box 109 [.sl false (x.p.Fns.map enc_Fn),.raw (.int .u32 (x.e.Ctx.a0.toNat : Int)),.raw (.int .u32 (x.e.Ctx.a1.toNat : Int)),.raw (.int .u32 (x.e.Ctx.a2.toNat : Int)),.raw (.int .u32 (x.e.Ctx.a3.toNat : Int)),.sl false (x.e.T.map enc_Table),.raw (.int .u32 (x.e.Seed.toNat : Int)),.raw (.int .i64 x.fuel),.raw (.int .i64 x.used),.raw (.int .i64 x.err)])],15,23,2⟩) ?_ ?_
 ·obtain ⟨hg2,h⟩ := pg_some h;have hg2n : a1.toNat < 8 := by omega
  refine VC.seqF tabOkF [some 5,some 6,some 7,some 8,some 9,some 10,some 11] [0,1,11] rfl rfl (fun K hK => ?_);push_cast [hg2,hg2n];(repeat refine .intro (by omega) ?_);refine hK _ ?_;clear hK K;refine VC.cond rfl rfl (fun hc3 => ?_) (fun hc3 => ?_)
  ·have hb3 : (!(a0.set.get a1.toNat)) = true := by simpa using hc3
   replace h := cond_yes hb3 h;obtain ⟨r4,hr4,h⟩ := po_some h;refine VC.lastF tabOkF [some 12,some 13,some 14,some 15,some 16] rfl rfl (fun K hK => ?_);push_cast [hg2,hg2n,hb3];(repeat refine .intro (by omega) ?_);refine callH (H := [(1,.box 109 [.sl false (a0_r.p.Fns.map enc_Fn),.raw (.int .u32 (a0_r.e.Ctx.a0.toNat : Int)),.raw (.int .u32 (a0_r.e.Ctx.a1.toNat : Int)),.raw (.int .u32 (a0_r.e.Ctx.a2.toNat : Int)),.raw (.int .u32 (a0_r.e.Ctx.a3.toNat : Int)),.sl false (a0_r.e.T.map enc_Table),.raw (.int .u32 (a0_r.e.Seed.toNat : Int)),.raw (.int .i64 a0_r.fuel),.raw (.int .i64 a0_r.used),.raw (.int .i64 a0_r.err)])]) (Ctr.loH (Ctr.ren (Bij.swp 0 1 Bij.id) (c_interp_run_fail a0_r 10 hr4) (by push_cast [hg2,hg2n,hb3]) (by push_cast [hg2,hg2n,hb3]))) (by push_cast [hg2,hg2n,hb3]) rfl rfl rfl ?_;push_cast [hg2,hg2n,hb3];(repeat refine .intro (by omega) ?_);refine hK _ ?_;clear hK K;have hv := Option.some.inj h;rw [← hv] at hk1;refine Exists.intro (r4) (And.intro hk1 ?_);refine slo ?_ ?_ rfl rfl
   ·push_cast [hb3]
   ·push_cast [hb3]
  ·have hb3 : (!(a0.set.get a1.toNat)) = false := by simpa using hc3
   replace h := cond_no hb3 h;refine VC.skip ?_;have hv := Option.some.inj h;rw [← hv] at hk1;refine Exists.intro (a0_r) (And.intro hk1 ?_);refine slo ?_ ?_ rfl rfl
   ·push_cast [hb3]
   ·push_cast [hb3]
 ·rintro s_1 h;replace h : p_interp_frame_get_J1 a0 a1 s_1 = some r := h;(try push_cast);unfold p_interp_frame_get_J1 at h;obtain ⟨hg5,h⟩ := pg_some h;have hg5n : a1.toNat < 8 := by omega
  refine VC.seqF tabOkF [some 17,some 18,some 19,some 20,some 21,some 22,some 4] [4] rfl rfl (fun K hK => ?_);push_cast [hg5,hg5n];(repeat refine .intro (by omega) ?_);refine hK _ ?_;clear hK K;refine VC.ret ?_;have hr := Option.some.inj h;subst hr;refine endP (Sub.lo _) (Post.ret ?_ ?_ ?_)
  ·push_cast
  ·push_cast
  ·rfl
noncomputable def p_interp_frame_put (a0 : T_interp_frame) (a0_r : T_interp_run) (a1 : Int) (a2 : UInt32) : Option (T_interp_frame × T_interp_run) :=
  pg (0 ≤ a1 ∧ a1 < 8) <|
  pl (a0.regs.set a1.toNat a2) fun y2 =>
  pg (0 ≤ a1 ∧ a1 < 8) <|
  pl (a0.set.set a1.toNat true) fun y4 =>
  some ((T_interp_frame.mk a0.fn a0.at_ y2 y4 a0.stack a0.over), a0_r)
theorem c_interp_frame_put (a0 : T_interp_frame) (a0_r : T_interp_run) (a1 : Int) (a2 : UInt32) {r : T_interp_frame × T_interp_run} (h : p_interp_frame_put a0 a0_r a1 a2 = some r) : Ctr prog 90 [.ref 0 0, .raw (.int .i64 a1), .raw (.int .u32 (a2.toNat : Int))] [(0, .box 124 (enc_interp_frame a0 (.ref 1 0))), (1, .box 109 (enc_interp_run a0_r))] (.tup []) [(0, .box 124 (enc_interp_frame r.1 (.ref 1 0))), (1, .box 109 (enc_interp_run r.2))] := by
 unfold p_interp_frame_put at h;refine Ctr.ofW tabOk func90 rfl call90 2 _ ntmps90 [] rfl rfl rfl (fun B => ?_);obtain ⟨hg1,h⟩ := pg_some h;have hg1n : a1.toNat < 8 := by omega
 obtain ⟨y2,hy2,h⟩ := pl_some h;obtain ⟨hg3,h⟩ := pg_some h;have hg3n : a1.toNat < 8 := by omega
 obtain ⟨y4,hy4,h⟩ := pl_some h;refine VC.lastFD tabOkF hmixO [some 6,some 7,some 8,some 9,some 10,some 11,some 12,some 13,none,some 14,some 15,some 16,none] rfl rfl rfl (fun K hK => ?_);refine runD_cut 8 (fun K2 hK2 => ?_);push_cast [hg1,hg1n,hg3,hg3n];(repeat refine .intro (by omega) ?_);refine hK2 _ _ _ ?_;clear hK2 K2;simp only [List.drop_succ_cons,List.drop_zero];push_cast [hg1,hg1n,hg3,hg3n];(repeat refine .intro (by omega) ?_);refine ⟨rfl,hK _ ?_⟩;clear hK K;have hr := Option.some.inj h;subst hr;refine endP (Sub.lo _) (Post.nrm ?_ ?_ ?_)
 ·push_cast [hy2,hy4]
 ·push_cast [hy2,hy4]
 ·rfl
noncomputable def p_interp_frame_word (a0 : T_interp_frame) (a0_r : T_interp_run) (a1 : T_Inst) : Option (UInt32 × T_interp_frame × T_interp_run) :=
  cond a1.Reg (
  po (p_interp_frame_get a0 a0_r a1.Src) fun r2 =>
  some (r2.1, r2.2.1, r2.2.2)) (
  some (a1.Imm, a0, a0_r))
theorem c_interp_frame_word (a0 : T_interp_frame) (a0_r : T_interp_run) (a1 : T_Inst) {r : UInt32 × T_interp_frame × T_interp_run} (h : p_interp_frame_word a0 a0_r a1 = some r) : Ctr prog 102 [.ref 0 0, .agg (enc_Inst a1)] [(0, .box 124 (enc_interp_frame a0 (.ref 1 0))), (1, .box 109 (enc_interp_run a0_r))] (.raw (.int .u32 (r.1.toNat : Int))) [(0, .box 124 (enc_interp_frame r.2.1 (.ref 1 0))), (1, .box 109 (enc_interp_run r.2.2))] := by
 unfold p_interp_frame_word at h;refine Ctr.ofW tabOk func102 rfl call102 2 _ ntmps102 [.tmp 4] rfl rfl rfl (fun B => ?_);refine VC.seqF tabOkF [some 3,some 4] [0,3] rfl rfl (fun K hK => ?_);push_cast;(repeat refine .intro (by omega) ?_);refine hK _ ?_;clear hK K;refine VC.seq ?_;refine VC.seqF tabOkF [some 5,some 6] [0,3,6] rfl rfl (fun K hK => ?_);push_cast;(repeat refine .intro (by omega) ?_);refine hK _ ?_;clear hK K;refine VC.cond rfl rfl (fun hc1 => ?_) (fun hc1 => ?_)
 ·have hb1 : a1.Reg = true := by simpa using hc1
  replace h := cond_yes hb1 h;obtain ⟨r2,hr2,h⟩ := po_some h;refine VC.seqF tabOkF [some 7,some 8,some 9,some 10,some 4] [4] rfl rfl (fun K hK => ?_);push_cast [hb1];(repeat refine .intro (by omega) ?_);refine callH (H := [(0,.box 124 (enc_interp_frame a0 (.ref 1 0))),(1,.box 109 [.sl false (a0_r.p.Fns.map enc_Fn),.raw (.int .u32 (a0_r.e.Ctx.a0.toNat : Int)),.raw (.int .u32 (a0_r.e.Ctx.a1.toNat : Int)),.raw (.int .u32 (a0_r.e.Ctx.a2.toNat : Int)),.raw (.int .u32 (a0_r.e.Ctx.a3.toNat : Int)),.sl false (a0_r.e.T.map enc_Table),.raw (.int .u32 (a0_r.e.Seed.toNat : Int)),.raw (.int .i64 a0_r.fuel),.raw (.int .i64 a0_r.used),.raw (.int .i64 a0_r.err)])]) (Ctr.loH (Ctr.ren Bij.id (c_interp_frame_get a0 a0_r a1.Src hr2) (by push_cast [hb1]) (by push_cast [hb1]))) (by push_cast [hb1]) rfl rfl rfl ?_;push_cast [hb1];(repeat refine .intro (by omega) ?_);refine hK _ ?_;clear hK K;refine VC.sub (s' := ⟨[(4,.raw (.int .u32 (r2.1.toNat : Int)))],[(0,.box 124 (enc_interp_frame r2.2.1 (.ref 1 0))),(1,.box 109 [.sl false (r2.2.2.p.Fns.map enc_Fn),.raw (.int .u32 (r2.2.2.e.Ctx.a0.toNat : Int)),.raw (.int .u32 (r2.2.2.e.Ctx.a1.toNat : Int)),.raw (.int .u32 (r2.2.2.e.Ctx.a2.toNat : Int)),.raw (.int .u32 (r2.2.2.e.Ctx.a3.toNat : Int)),.sl false (r2.2.2.e.T.map enc_Table),.raw (.int .u32 (r2.2.2.e.Seed.toNat : Int)),.raw (.int .i64 r2.2.2.fuel),.raw (.int .i64 r2.2.2.used),.raw (.int .i64 r2.2.2.err)])],11,13,2⟩) (sof ?_ ?_ rfl rfl) ?_
  ·push_cast [hb1]
  ·push_cast [hb1]
  refine VC.ret ?_;have hr := Option.some.inj h;subst hr;refine endP (Sub.lo _) (Post.ret ?_ ?_ ?_)
  ·push_cast [hb1]
  ·push_cast [hb1]
  ·rfl
 ·have hb1 : a1.Reg = false := by simpa using hc1
  replace h := cond_no hb1 h;refine VC.skip ?_;refine VC.seqF tabOkF [some 11,some 12,some 4] [4] rfl rfl (fun K hK => ?_);push_cast [hb1];(repeat refine .intro (by omega) ?_);refine hK _ ?_;clear hK K;refine VC.ret ?_;have hr := Option.some.inj h;subst hr;refine endP (Sub.lo _) (Post.ret ?_ ?_ ?_)
  ·push_cast [hb1]
  ·push_cast [hb1]
  ·rfl
noncomputable def p_alu_deeds_1 (a0 : UInt32) (a1 : UInt32) : Option (UInt32) :=
  some a1
theorem c_alu_deeds_1 (a0 : UInt32) (a1 : UInt32) {r : UInt32} (h : p_alu_deeds_1 a0 a1 = some r) : Ctr prog 112 [.raw (.int .u32 (a0.toNat : Int)), .raw (.int .u32 (a1.toNat : Int))] [] (.raw (.int .u32 (r.toNat : Int))) [] := by
 unfold p_alu_deeds_1 at h;refine Ctr.ofW tabOk func112 rfl call112 0 _ ntmps112 [.tmp 4] rfl rfl rfl (fun B => ?_);refine VC.seqF tabOkF [some 4] [1] rfl rfl (fun K hK => ?_);push_cast;(repeat refine .intro (by omega) ?_);refine hK _ ?_;clear hK K;refine VC.seqF tabOkF [some 5,some 4] [4] rfl rfl (fun K hK => ?_);push_cast;(repeat refine .intro (by omega) ?_);refine hK _ ?_;clear hK K;refine VC.ret ?_;have hr := Option.some.inj h;subst hr;refine endP (Sub.lo _) (Post.ret ?_ ?_ ?_)
 ·push_cast
 ·push_cast
 ·rfl
noncomputable def p_alu_deeds_10 (a0 : UInt32) (a1 : UInt32) : Option (UInt32) :=
  some (shl32 a0 ((a1 % 32).toNat : Int))
theorem c_alu_deeds_10 (a0 : UInt32) (a1 : UInt32) {r : UInt32} (h : p_alu_deeds_10 a0 a1 = some r) : Ctr prog 121 [.raw (.int .u32 (a0.toNat : Int)), .raw (.int .u32 (a1.toNat : Int))] [] (.raw (.int .u32 (r.toNat : Int))) [] := by
 unfold p_alu_deeds_10 at h;refine Ctr.ofW tabOk func121 rfl call121 0 _ ntmps121 [.tmp 4] rfl rfl rfl (fun B => ?_);refine VC.seqF tabOkF [some 4] [0,1] rfl rfl (fun K hK => ?_);push_cast;(repeat refine .intro (by omega) ?_);refine hK _ ?_;clear hK K;refine VC.seqF tabOkF [some 5,some 6,some 7,some 8,some 4] [4] rfl rfl (fun K hK => ?_);push_cast;(repeat refine .intro (by omega) ?_);refine hK _ ?_;clear hK K;refine VC.ret ?_;have hr := Option.some.inj h;subst hr;refine endP (Sub.lo _) (Post.ret ?_ ?_ ?_)
 ·push_cast
 ·push_cast
 ·rfl
noncomputable def p_alu_deeds_11 (a0 : UInt32) (a1 : UInt32) : Option (UInt32) :=
  some (shr32 a0 ((a1 % 32).toNat : Int))
theorem c_alu_deeds_11 (a0 : UInt32) (a1 : UInt32) {r : UInt32} (h : p_alu_deeds_11 a0 a1 = some r) : Ctr prog 122 [.raw (.int .u32 (a0.toNat : Int)), .raw (.int .u32 (a1.toNat : Int))] [] (.raw (.int .u32 (r.toNat : Int))) [] := by
 unfold p_alu_deeds_11 at h;refine Ctr.ofW tabOk func122 rfl call122 0 _ ntmps122 [.tmp 4] rfl rfl rfl (fun B => ?_);refine VC.seqF tabOkF [some 4] [0,1] rfl rfl (fun K hK => ?_);push_cast;(repeat refine .intro (by omega) ?_);refine hK _ ?_;clear hK K;refine VC.seqF tabOkF [some 5,some 6,some 7,some 8,some 4] [4] rfl rfl (fun K hK => ?_);push_cast;(repeat refine .intro (by omega) ?_);refine hK _ ?_;clear hK K;refine VC.ret ?_;have hr := Option.some.inj h;subst hr;refine endP (Sub.lo _) (Post.ret ?_ ?_ ?_)
 ·push_cast
 ·push_cast
 ·rfl
noncomputable def p_alu_deeds_2 (a0 : UInt32) (a1 : UInt32) : Option (UInt32) :=
  some (a0 + a1)
theorem c_alu_deeds_2 (a0 : UInt32) (a1 : UInt32) {r : UInt32} (h : p_alu_deeds_2 a0 a1 = some r) : Ctr prog 113 [.raw (.int .u32 (a0.toNat : Int)), .raw (.int .u32 (a1.toNat : Int))] [] (.raw (.int .u32 (r.toNat : Int))) [] := by
 unfold p_alu_deeds_2 at h;refine Ctr.ofW tabOk func113 rfl call113 0 _ ntmps113 [.tmp 4] rfl rfl rfl (fun B => ?_);refine VC.seqF tabOkF [some 4] [0,1] rfl rfl (fun K hK => ?_);push_cast;(repeat refine .intro (by omega) ?_);refine hK _ ?_;clear hK K;refine VC.seqF tabOkF [some 5,some 6,some 7,some 4] [4] rfl rfl (fun K hK => ?_);push_cast;(repeat refine .intro (by omega) ?_);refine hK _ ?_;clear hK K;refine VC.ret ?_;have hr := Option.some.inj h;subst hr;refine endP (Sub.lo _) (Post.ret ?_ ?_ ?_)
 ·push_cast
 ·push_cast
 ·rfl
noncomputable def p_alu_deeds_3 (a0 : UInt32) (a1 : UInt32) : Option (UInt32) :=
  some (a0 - a1)
theorem c_alu_deeds_3 (a0 : UInt32) (a1 : UInt32) {r : UInt32} (h : p_alu_deeds_3 a0 a1 = some r) : Ctr prog 114 [.raw (.int .u32 (a0.toNat : Int)), .raw (.int .u32 (a1.toNat : Int))] [] (.raw (.int .u32 (r.toNat : Int))) [] := by
 unfold p_alu_deeds_3 at h;refine Ctr.ofW tabOk func114 rfl call114 0 _ ntmps114 [.tmp 4] rfl rfl rfl (fun B => ?_);refine VC.seqF tabOkF [some 4] [0,1] rfl rfl (fun K hK => ?_);push_cast;(repeat refine .intro (by omega) ?_);refine hK _ ?_;clear hK K;refine VC.seqF tabOkF [some 5,some 6,some 7,some 4] [4] rfl rfl (fun K hK => ?_);push_cast;(repeat refine .intro (by omega) ?_);refine hK _ ?_;clear hK K;refine VC.ret ?_;have hr := Option.some.inj h;subst hr;refine endP (Sub.lo _) (Post.ret ?_ ?_ ?_)
 ·push_cast
 ·push_cast
 ·rfl
noncomputable def p_alu_deeds_4 (a0 : UInt32) (a1 : UInt32) : Option (UInt32) :=
  some (a0 * a1)
theorem c_alu_deeds_4 (a0 : UInt32) (a1 : UInt32) {r : UInt32} (h : p_alu_deeds_4 a0 a1 = some r) : Ctr prog 115 [.raw (.int .u32 (a0.toNat : Int)), .raw (.int .u32 (a1.toNat : Int))] [] (.raw (.int .u32 (r.toNat : Int))) [] := by
 unfold p_alu_deeds_4 at h;refine Ctr.ofW tabOk func115 rfl call115 0 _ ntmps115 [.tmp 4] rfl rfl rfl (fun B => ?_);refine VC.seqF tabOkF [some 4] [0,1] rfl rfl (fun K hK => ?_);push_cast;(repeat refine .intro (by omega) ?_);refine hK _ ?_;clear hK K;refine VC.seqF tabOkF [some 5,some 6,some 7,some 4] [4] rfl rfl (fun K hK => ?_);push_cast;(repeat refine .intro (by omega) ?_);refine hK _ ?_;clear hK K;refine VC.ret ?_;have hr := Option.some.inj h;subst hr;refine endP (Sub.lo _) (Post.ret ?_ ?_ ?_)
 ·push_cast
 ·push_cast
 ·rfl
noncomputable def p_alu_deeds_5 (a0 : UInt32) (a1 : UInt32) : Option (UInt32) :=
  cond ((a1.toNat : Int) == 0) (
  some 0) (
  pg ((a1.toNat : Int) ≠ 0) <|
  some (a0 / a1))
theorem c_alu_deeds_5 (a0 : UInt32) (a1 : UInt32) {r : UInt32} (h : p_alu_deeds_5 a0 a1 = some r) : Ctr prog 116 [.raw (.int .u32 (a0.toNat : Int)), .raw (.int .u32 (a1.toNat : Int))] [] (.raw (.int .u32 (r.toNat : Int))) [] := by
 unfold p_alu_deeds_5 at h;refine Ctr.ofW tabOk func116 rfl call116 0 _ ntmps116 [.tmp 4] rfl rfl rfl (fun B => ?_);refine VC.seqF tabOkF [some 4] [0,1] rfl rfl (fun K hK => ?_);push_cast;(repeat refine .intro (by omega) ?_);refine hK _ ?_;clear hK K;refine VC.seq ?_;refine VC.seqF tabOkF [some 5,some 6] [0,1,6] rfl rfl (fun K hK => ?_);push_cast;(repeat refine .intro (by omega) ?_);refine hK _ ?_;clear hK K;refine VC.cond rfl rfl (fun hc1 => ?_) (fun hc1 => ?_)
 ·have hb1 : ((a1.toNat : Int) == 0) = true := by simpa using hc1
  replace h := cond_yes hb1 h;refine VC.seqF tabOkF [some 4] [4] rfl rfl (fun K hK => ?_);push_cast [hb1];(repeat refine .intro (by omega) ?_);refine hK _ ?_;clear hK K;refine VC.ret ?_;have hr := Option.some.inj h;subst hr;refine endP (Sub.lo _) (Post.ret ?_ ?_ ?_)
  ·push_cast [hb1]
  ·push_cast [hb1]
  ·rfl
 ·have hb1 : ((a1.toNat : Int) == 0) = false := by simpa using hc1
  replace h := cond_no hb1 h;refine VC.skip ?_;obtain ⟨hg2,h⟩ := pg_some h;refine VC.seqF tabOkF [some 7,some 8,some 9,some 4] [4] rfl rfl (fun K hK => ?_);push_cast [hb1,hg2];(repeat refine .intro (by omega) ?_);refine hK _ ?_;clear hK K;refine VC.ret ?_;have hr := Option.some.inj h;subst hr;refine endP (Sub.lo _) (Post.ret ?_ ?_ ?_)
  ·push_cast [hb1]
  ·push_cast [hb1]
  ·rfl
noncomputable def p_alu_deeds_6 (a0 : UInt32) (a1 : UInt32) : Option (UInt32) :=
  cond ((a1.toNat : Int) == 0) (
  some a0) (
  pg ((a1.toNat : Int) ≠ 0) <|
  some (a0 % a1))
theorem c_alu_deeds_6 (a0 : UInt32) (a1 : UInt32) {r : UInt32} (h : p_alu_deeds_6 a0 a1 = some r) : Ctr prog 117 [.raw (.int .u32 (a0.toNat : Int)), .raw (.int .u32 (a1.toNat : Int))] [] (.raw (.int .u32 (r.toNat : Int))) [] := by
 unfold p_alu_deeds_6 at h;refine Ctr.ofW tabOk func117 rfl call117 0 _ ntmps117 [.tmp 4] rfl rfl rfl (fun B => ?_);refine VC.seqF tabOkF [some 4] [0,1] rfl rfl (fun K hK => ?_);push_cast;(repeat refine .intro (by omega) ?_);refine hK _ ?_;clear hK K;refine VC.seq ?_;refine VC.seqF tabOkF [some 5,some 6] [0,1,6] rfl rfl (fun K hK => ?_);push_cast;(repeat refine .intro (by omega) ?_);refine hK _ ?_;clear hK K;refine VC.cond rfl rfl (fun hc1 => ?_) (fun hc1 => ?_)
 ·have hb1 : ((a1.toNat : Int) == 0) = true := by simpa using hc1
  replace h := cond_yes hb1 h;refine VC.seqF tabOkF [some 7,some 4] [4] rfl rfl (fun K hK => ?_);push_cast [hb1];(repeat refine .intro (by omega) ?_);refine hK _ ?_;clear hK K;refine VC.ret ?_;have hr := Option.some.inj h;subst hr;refine endP (Sub.lo _) (Post.ret ?_ ?_ ?_)
  ·push_cast [hb1]
  ·push_cast [hb1]
  ·rfl
 ·have hb1 : ((a1.toNat : Int) == 0) = false := by simpa using hc1
  replace h := cond_no hb1 h;refine VC.skip ?_;obtain ⟨hg2,h⟩ := pg_some h;refine VC.seqF tabOkF [some 8,some 9,some 10,some 4] [4] rfl rfl (fun K hK => ?_);push_cast [hb1,hg2];(repeat refine .intro (by omega) ?_);refine hK _ ?_;clear hK K;refine VC.ret ?_;have hr := Option.some.inj h;subst hr;refine endP (Sub.lo _) (Post.ret ?_ ?_ ?_)
  ·push_cast [hb1]
  ·push_cast [hb1]
  ·rfl
noncomputable def p_alu_deeds_7 (a0 : UInt32) (a1 : UInt32) : Option (UInt32) :=
  some (a0 &&& a1)
theorem c_alu_deeds_7 (a0 : UInt32) (a1 : UInt32) {r : UInt32} (h : p_alu_deeds_7 a0 a1 = some r) : Ctr prog 118 [.raw (.int .u32 (a0.toNat : Int)), .raw (.int .u32 (a1.toNat : Int))] [] (.raw (.int .u32 (r.toNat : Int))) [] := by
 unfold p_alu_deeds_7 at h;refine Ctr.ofW tabOk func118 rfl call118 0 _ ntmps118 [.tmp 4] rfl rfl rfl (fun B => ?_);refine VC.seqF tabOkF [some 4] [0,1] rfl rfl (fun K hK => ?_);push_cast;(repeat refine .intro (by omega) ?_);refine hK _ ?_;clear hK K;refine VC.seqF tabOkF [some 5,some 6,some 7,some 4] [4] rfl rfl (fun K hK => ?_);push_cast;(repeat refine .intro (by omega) ?_);refine hK _ ?_;clear hK K;refine VC.ret ?_;have hr := Option.some.inj h;subst hr;refine endP (Sub.lo _) (Post.ret ?_ ?_ ?_)
 ·push_cast
 ·push_cast
 ·rfl
noncomputable def p_alu_deeds_8 (a0 : UInt32) (a1 : UInt32) : Option (UInt32) :=
  some (a0 ||| a1)
theorem c_alu_deeds_8 (a0 : UInt32) (a1 : UInt32) {r : UInt32} (h : p_alu_deeds_8 a0 a1 = some r) : Ctr prog 119 [.raw (.int .u32 (a0.toNat : Int)), .raw (.int .u32 (a1.toNat : Int))] [] (.raw (.int .u32 (r.toNat : Int))) [] := by
 unfold p_alu_deeds_8 at h;refine Ctr.ofW tabOk func119 rfl call119 0 _ ntmps119 [.tmp 4] rfl rfl rfl (fun B => ?_);refine VC.seqF tabOkF [some 4] [0,1] rfl rfl (fun K hK => ?_);push_cast;(repeat refine .intro (by omega) ?_);refine hK _ ?_;clear hK K;refine VC.seqF tabOkF [some 5,some 6,some 7,some 4] [4] rfl rfl (fun K hK => ?_);push_cast;(repeat refine .intro (by omega) ?_);refine hK _ ?_;clear hK K;refine VC.ret ?_;have hr := Option.some.inj h;subst hr;refine endP (Sub.lo _) (Post.ret ?_ ?_ ?_)
 ·push_cast
 ·push_cast
 ·rfl
noncomputable def p_alu_deeds_9 (a0 : UInt32) (a1 : UInt32) : Option (UInt32) :=
  some (a0 ^^^ a1)
theorem c_alu_deeds_9 (a0 : UInt32) (a1 : UInt32) {r : UInt32} (h : p_alu_deeds_9 a0 a1 = some r) : Ctr prog 120 [.raw (.int .u32 (a0.toNat : Int)), .raw (.int .u32 (a1.toNat : Int))] [] (.raw (.int .u32 (r.toNat : Int))) [] := by
 unfold p_alu_deeds_9 at h;refine Ctr.ofW tabOk func120 rfl call120 0 _ ntmps120 [.tmp 4] rfl rfl rfl (fun B => ?_);refine VC.seqF tabOkF [some 4] [0,1] rfl rfl (fun K hK => ?_);push_cast;(repeat refine .intro (by omega) ?_);refine hK _ ?_;clear hK K;refine VC.seqF tabOkF [some 5,some 6,some 7,some 4] [4] rfl rfl (fun K hK => ?_);push_cast;(repeat refine .intro (by omega) ?_);refine hK _ ?_;clear hK K;refine VC.ret ?_;have hr := Option.some.inj h;subst hr;refine endP (Sub.lo _) (Post.ret ?_ ?_ ?_)
 ·push_cast
 ·push_cast
 ·rfl
noncomputable def p_alu_deeds : Option (Unit) :=
  some ()
theorem c_alu_deeds {r : Unit} (h : p_alu_deeds = some r) : Ctr prog 111 [] [] (.agg [.fn (.func 112) [] [], .fn (.func 113) [] [], .fn (.func 114) [] [], .fn (.func 115) [] [], .fn (.func 116) [] [], .fn (.func 117) [] [], .fn (.func 118) [] [], .fn (.func 119) [] [], .fn (.func 120) [] [], .fn (.func 121) [] [], .fn (.func 122) [] []]) [] := by
 unfold p_alu_deeds at h;refine Ctr.ofW tabOk func111 rfl call111 0 _ ntmps111 [.cell 0 147] rfl rfl rfl (fun B => ?_);refine VC.seqF tabOkF [some 0] [0] rfl rfl (fun K hK => ?_);push_cast (maxSteps := 9000000) [-partsQ];(repeat refine .intro (by omega) ?_);refine hK _ ?_;clear hK K;refine VC.seqF tabOkF [some 1,some 2,some 3,some 4,some 5,some 6,some 7,some 8,some 9,some 10,some 11,some 12,none] [0] rfl rfl (fun K hK => ?_);refine runOps_cut 8 (fun K2 hK2 => ?_);push_cast (maxSteps := 9000000) [-partsQ];(repeat refine .intro (by omega) ?_);refine hK2 _ _ ?_;clear hK2 K2;simp only [List.drop_succ_cons,List.drop_zero];push_cast (maxSteps := 9000000) [-partsQ];(repeat refine .intro (by omega) ?_);refine hK _ ?_;clear hK K;refine VC.ret ?_;have hr := Option.some.inj h;subst hr;refine endP (Sub.lo _) (Post.ret ?_ ?_ ?_)
 ·push_cast (maxSteps := 9000000) [-partsQ]
 ·push_cast (maxSteps := 9000000) [-partsQ]
 ·rfl
noncomputable def p_alu_Do_J1 (a0 : Int) (a1 : UInt32) (a2 : UInt32) (i_1 : Bool) : Option (UInt32 × Bool) :=
  cond i_1 (
  some (0, false)) (
  po (some ()) fun r5 =>
  cond (a0 == 0) (
  po (p_alu_deeds_1 a1 a2) fun r7 =>
  some (r7, true)) (
  cond (a0 == 1) (
  po (p_alu_deeds_2 a1 a2) fun r9 =>
  some (r9, true)) (
  cond (a0 == 2) (
  po (p_alu_deeds_3 a1 a2) fun r11 =>
  some (r11, true)) (
  cond (a0 == 3) (
  po (p_alu_deeds_4 a1 a2) fun r13 =>
  some (r13, true)) (
  cond (a0 == 4) (
  po (p_alu_deeds_5 a1 a2) fun r15 =>
  some (r15, true)) (
  cond (a0 == 5) (
  po (p_alu_deeds_6 a1 a2) fun r17 =>
  some (r17, true)) (
  cond (a0 == 6) (
  po (p_alu_deeds_7 a1 a2) fun r19 =>
  some (r19, true)) (
  cond (a0 == 7) (
  po (p_alu_deeds_8 a1 a2) fun r21 =>
  some (r21, true)) (
  cond (a0 == 8) (
  po (p_alu_deeds_9 a1 a2) fun r23 =>
  some (r23, true)) (
  cond (a0 == 9) (
  po (p_alu_deeds_10 a1 a2) fun r25 =>
  some (r25, true)) (
  cond (a0 == 10) (
  po (p_alu_deeds_11 a1 a2) fun r27 =>
  some (r27, true)) (
  none))))))))))))
noncomputable def p_alu_Do (a0 : Int) (a1 : UInt32) (a2 : UInt32) : Option (UInt32 × Bool) :=
  po (
  cond (decide (a0 < 0)) (
  some true) (
  some (decide (a0 ≥ 11)))) (fun x => p_alu_Do_J1 a0 a1 a2 x)
theorem c_alu_Do (a0 : Int) (a1 : UInt32) (a2 : UInt32) {r : UInt32 × Bool} (h : p_alu_Do a0 a1 a2 = some r) : Ctr prog 104 [.raw (.int .i64 a0), .raw (.int .u32 (a1.toNat : Int)), .raw (.int .u32 (a2.toNat : Int))] [] (.tup [.raw (.int .u32 (r.1.toNat : Int)), .raw (.bool r.2)]) [] := by
 unfold p_alu_Do at h;refine Ctr.ofW tabOk func104 rfl call104 0 _ ntmps104 [.tmp 6,.tmp 7] rfl rfl rfl (fun B => ?_);refine VC.seqF tabOkF [some 6,some 7] [0,1,2] rfl rfl (fun K hK => ?_);push_cast;(repeat refine .intro (by omega) ?_);refine hK _ ?_;clear hK K;refine VC.seq ?_;obtain ⟨v1,h,hk1⟩ := po_some h;refine VC.seqJ (X := Bool) (fun x => p_alu_Do_J1 a0 a1 a2 x = some r) (fun x => ⟨[(0,.raw (.int .i64 a0)),(1,.raw (.int .u32 (a1.toNat : Int))),(2,.raw (.int .u32 (a2.toNat : Int))),(13,.raw (.bool x))],[],8,21,0⟩) ?_ ?_
 ·rcases Bool.eq_false_or_eq_true (decide (a0 < 0)) with hb2 | hb2
  ·replace h := cond_yes hb2 h;refine VC.lastF tabOkF [some 8,some 9,some 10,some 11,some 12,some 13] rfl rfl (fun K hK => ?_);push_cast [hb2];(repeat refine .intro (by omega) ?_);refine hK _ ?_;clear hK K;have hv := Option.some.inj h;rw [← hv] at hk1;refine Exists.intro (true) (And.intro hk1 ?_);refine slo ?_ ?_ rfl rfl
   ·push_cast [hb2]
   ·push_cast [hb2]
  ·replace h := cond_no hb2 h;refine VC.lastF tabOkF [some 8,some 9,some 10,some 11,some 12,some 13] rfl rfl (fun K hK => ?_);push_cast [hb2];(repeat refine .intro (by omega) ?_);refine hK _ ?_;clear hK K;have hv := Option.some.inj h;rw [← hv] at hk1;refine Exists.intro ((decide (a0 ≥ 11))) (And.intro hk1 ?_);refine slo ?_ ?_ rfl rfl
   ·push_cast [hb2]
   ·push_cast [hb2]
 ·rintro i_1 h;replace h : p_alu_Do_J1 a0 a1 a2 i_1 = some r := h;(try push_cast);unfold p_alu_Do_J1 at h;refine VC.cond rfl rfl (fun hc3 => ?_) (fun hc3 => ?_)
  ·have hb3 : i_1 = true := by simpa using hc3
   replace h := cond_yes hb3 h;refine VC.seqF tabOkF [some 6,some 7] [6,7] rfl rfl (fun K hK => ?_);push_cast [hb3];(repeat refine .intro (by omega) ?_);refine hK _ ?_;clear hK K;refine VC.ret ?_;have hr := Option.some.inj h;subst hr;refine endP (Sub.lo _) (Post.ret ?_ ?_ ?_)
   ·push_cast [hb3]
   ·push_cast [hb3]
   ·rfl
  ·have hb3 : i_1 = false := by simpa using hc3
   replace h := cond_no hb3 h;refine VC.skip ?_;obtain ⟨r5,hr5,h⟩ := po_some h;rcases Bool.eq_false_or_eq_true (a0 == 0) with hb6 | hb6
   ·replace h := cond_yes hb6 h;have hb6e : a0 = 0 := by simpa using hb6
    have hb6n : a0.toNat = 0 := by omega
    obtain ⟨r7,hr7,h⟩ := po_some h;refine VC.seqF tabOkF [some 14,some 15,some 16,some 17,some 18,some 19,some 20,some 6,some 7] [6,7] rfl rfl (fun K hK => ?_);push_cast [hb3,hb6n];(repeat refine .intro (by omega) ?_);refine callP (Ctr.lo (c_alu_deeds hr5)) rfl ?_;push_cast [hb3,hb6n];(repeat refine .intro (by omega) ?_);refine callP (Ctr.lo (c_alu_deeds_1 a1 a2 hr7)) rfl ?_;push_cast [hb3,hb6n];(repeat refine .intro (by omega) ?_);refine hK _ ?_;clear hK K;refine VC.ret ?_;have hr := Option.some.inj h;subst hr;refine endP (Sub.lo _) (Post.ret ?_ ?_ ?_)
    ·push_cast [hb3]
    ·push_cast [hb3]
    ·rfl
   ·replace h := cond_no hb6 h;rcases Bool.eq_false_or_eq_true (a0 == 1) with hb8 | hb8
    ·replace h := cond_yes hb8 h;have hb8e : a0 = 1 := by simpa using hb8
     have hb8n : a0.toNat = 1 := by omega
     obtain ⟨r9,hr9,h⟩ := po_some h;refine VC.seqF tabOkF [some 14,some 15,some 16,some 17,some 18,some 19,some 20,some 6,some 7] [6,7] rfl rfl (fun K hK => ?_);push_cast [hb3,hb8n];(repeat refine .intro (by omega) ?_);refine callP (Ctr.lo (c_alu_deeds hr5)) rfl ?_;push_cast [hb3,hb8n];(repeat refine .intro (by omega) ?_);refine callP (Ctr.lo (c_alu_deeds_2 a1 a2 hr9)) rfl ?_;push_cast [hb3,hb8n];(repeat refine .intro (by omega) ?_);refine hK _ ?_;clear hK K;refine VC.ret ?_;have hr := Option.some.inj h;subst hr;refine endP (Sub.lo _) (Post.ret ?_ ?_ ?_)
     ·push_cast [hb3]
     ·push_cast [hb3]
     ·rfl
    ·replace h := cond_no hb8 h;rcases Bool.eq_false_or_eq_true (a0 == 2) with hb10 | hb10
     ·replace h := cond_yes hb10 h;have hb10e : a0 = 2 := by simpa using hb10
      have hb10n : a0.toNat = 2 := by omega
      obtain ⟨r11,hr11,h⟩ := po_some h;refine VC.seqF tabOkF [some 14,some 15,some 16,some 17,some 18,some 19,some 20,some 6,some 7] [6,7] rfl rfl (fun K hK => ?_);push_cast [hb3,hb10n];(repeat refine .intro (by omega) ?_);refine callP (Ctr.lo (c_alu_deeds hr5)) rfl ?_;push_cast [hb3,hb10n];(repeat refine .intro (by omega) ?_);refine callP (Ctr.lo (c_alu_deeds_3 a1 a2 hr11)) rfl ?_;push_cast [hb3,hb10n];(repeat refine .intro (by omega) ?_);refine hK _ ?_;clear hK K;refine VC.ret ?_;have hr := Option.some.inj h;subst hr;refine endP (Sub.lo _) (Post.ret ?_ ?_ ?_)
      ·push_cast [hb3]
      ·push_cast [hb3]
      ·rfl
     ·replace h := cond_no hb10 h;rcases Bool.eq_false_or_eq_true (a0 == 3) with hb12 | hb12
      ·replace h := cond_yes hb12 h;have hb12e : a0 = 3 := by simpa using hb12
       have hb12n : a0.toNat = 3 := by omega
       obtain ⟨r13,hr13,h⟩ := po_some h;refine VC.seqF tabOkF [some 14,some 15,some 16,some 17,some 18,some 19,some 20,some 6,some 7] [6,7] rfl rfl (fun K hK => ?_);push_cast [hb3,hb12n];(repeat refine .intro (by omega) ?_);refine callP (Ctr.lo (c_alu_deeds hr5)) rfl ?_;push_cast [hb3,hb12n];(repeat refine .intro (by omega) ?_);refine callP (Ctr.lo (c_alu_deeds_4 a1 a2 hr13)) rfl ?_;push_cast [hb3,hb12n];(repeat refine .intro (by omega) ?_);refine hK _ ?_;clear hK K;refine VC.ret ?_;have hr := Option.some.inj h;subst hr;refine endP (Sub.lo _) (Post.ret ?_ ?_ ?_)
       ·push_cast [hb3]
       ·push_cast [hb3]
       ·rfl
      ·replace h := cond_no hb12 h;rcases Bool.eq_false_or_eq_true (a0 == 4) with hb14 | hb14
       ·replace h := cond_yes hb14 h;have hb14e : a0 = 4 := by simpa using hb14
        have hb14n : a0.toNat = 4 := by omega
        obtain ⟨r15,hr15,h⟩ := po_some h;refine VC.seqF tabOkF [some 14,some 15,some 16,some 17,some 18,some 19,some 20,some 6,some 7] [6,7] rfl rfl (fun K hK => ?_);push_cast [hb3,hb14n];(repeat refine .intro (by omega) ?_);refine callP (Ctr.lo (c_alu_deeds hr5)) rfl ?_;push_cast [hb3,hb14n];(repeat refine .intro (by omega) ?_);refine callP (Ctr.lo (c_alu_deeds_5 a1 a2 hr15)) rfl ?_;push_cast [hb3,hb14n];(repeat refine .intro (by omega) ?_);refine hK _ ?_;clear hK K;refine VC.ret ?_;have hr := Option.some.inj h;subst hr;refine endP (Sub.lo _) (Post.ret ?_ ?_ ?_)
        ·push_cast [hb3]
        ·push_cast [hb3]
        ·rfl
       ·replace h := cond_no hb14 h;rcases Bool.eq_false_or_eq_true (a0 == 5) with hb16 | hb16
        ·replace h := cond_yes hb16 h;have hb16e : a0 = 5 := by simpa using hb16
         have hb16n : a0.toNat = 5 := by omega
         obtain ⟨r17,hr17,h⟩ := po_some h;refine VC.seqF tabOkF [some 14,some 15,some 16,some 17,some 18,some 19,some 20,some 6,some 7] [6,7] rfl rfl (fun K hK => ?_);push_cast [hb3,hb16n];(repeat refine .intro (by omega) ?_);refine callP (Ctr.lo (c_alu_deeds hr5)) rfl ?_;push_cast [hb3,hb16n];(repeat refine .intro (by omega) ?_);refine callP (Ctr.lo (c_alu_deeds_6 a1 a2 hr17)) rfl ?_;push_cast [hb3,hb16n];(repeat refine .intro (by omega) ?_);refine hK _ ?_;clear hK K;refine VC.ret ?_;have hr := Option.some.inj h;subst hr;refine endP (Sub.lo _) (Post.ret ?_ ?_ ?_)
         ·push_cast [hb3]
         ·push_cast [hb3]
         ·rfl
        ·replace h := cond_no hb16 h;rcases Bool.eq_false_or_eq_true (a0 == 6) with hb18 | hb18
         ·replace h := cond_yes hb18 h;have hb18e : a0 = 6 := by simpa using hb18
          have hb18n : a0.toNat = 6 := by omega
          obtain ⟨r19,hr19,h⟩ := po_some h;refine VC.seqF tabOkF [some 14,some 15,some 16,some 17,some 18,some 19,some 20,some 6,some 7] [6,7] rfl rfl (fun K hK => ?_);push_cast [hb3,hb18n];(repeat refine .intro (by omega) ?_);refine callP (Ctr.lo (c_alu_deeds hr5)) rfl ?_;push_cast [hb3,hb18n];(repeat refine .intro (by omega) ?_);refine callP (Ctr.lo (c_alu_deeds_7 a1 a2 hr19)) rfl ?_;push_cast [hb3,hb18n];(repeat refine .intro (by omega) ?_);refine hK _ ?_;clear hK K;refine VC.ret ?_;have hr := Option.some.inj h;subst hr;refine endP (Sub.lo _) (Post.ret ?_ ?_ ?_)
          ·push_cast [hb3]
          ·push_cast [hb3]
          ·rfl
         ·replace h := cond_no hb18 h;rcases Bool.eq_false_or_eq_true (a0 == 7) with hb20 | hb20
          ·replace h := cond_yes hb20 h;have hb20e : a0 = 7 := by simpa using hb20
           have hb20n : a0.toNat = 7 := by omega
           obtain ⟨r21,hr21,h⟩ := po_some h;refine VC.seqF tabOkF [some 14,some 15,some 16,some 17,some 18,some 19,some 20,some 6,some 7] [6,7] rfl rfl (fun K hK => ?_);push_cast [hb3,hb20n];(repeat refine .intro (by omega) ?_);refine callP (Ctr.lo (c_alu_deeds hr5)) rfl ?_;push_cast [hb3,hb20n];(repeat refine .intro (by omega) ?_);refine callP (Ctr.lo (c_alu_deeds_8 a1 a2 hr21)) rfl ?_;push_cast [hb3,hb20n];(repeat refine .intro (by omega) ?_);refine hK _ ?_;clear hK K;refine VC.ret ?_;have hr := Option.some.inj h;subst hr;refine endP (Sub.lo _) (Post.ret ?_ ?_ ?_)
           ·push_cast [hb3]
           ·push_cast [hb3]
           ·rfl
          ·replace h := cond_no hb20 h;rcases Bool.eq_false_or_eq_true (a0 == 8) with hb22 | hb22
           ·replace h := cond_yes hb22 h;have hb22e : a0 = 8 := by simpa using hb22
            have hb22n : a0.toNat = 8 := by omega
            obtain ⟨r23,hr23,h⟩ := po_some h;refine VC.seqF tabOkF [some 14,some 15,some 16,some 17,some 18,some 19,some 20,some 6,some 7] [6,7] rfl rfl (fun K hK => ?_);push_cast [hb3,hb22n];(repeat refine .intro (by omega) ?_);refine callP (Ctr.lo (c_alu_deeds hr5)) rfl ?_;push_cast [hb3,hb22n];(repeat refine .intro (by omega) ?_);refine callP (Ctr.lo (c_alu_deeds_9 a1 a2 hr23)) rfl ?_;push_cast [hb3,hb22n];(repeat refine .intro (by omega) ?_);refine hK _ ?_;clear hK K;refine VC.ret ?_;have hr := Option.some.inj h;subst hr;refine endP (Sub.lo _) (Post.ret ?_ ?_ ?_)
            ·push_cast [hb3]
            ·push_cast [hb3]
            ·rfl
           ·replace h := cond_no hb22 h;rcases Bool.eq_false_or_eq_true (a0 == 9) with hb24 | hb24
            ·replace h := cond_yes hb24 h;have hb24e : a0 = 9 := by simpa using hb24
             have hb24n : a0.toNat = 9 := by omega
             obtain ⟨r25,hr25,h⟩ := po_some h;refine VC.seqF tabOkF [some 14,some 15,some 16,some 17,some 18,some 19,some 20,some 6,some 7] [6,7] rfl rfl (fun K hK => ?_);push_cast [hb3,hb24n];(repeat refine .intro (by omega) ?_);refine callP (Ctr.lo (c_alu_deeds hr5)) rfl ?_;push_cast [hb3,hb24n];(repeat refine .intro (by omega) ?_);refine callP (Ctr.lo (c_alu_deeds_10 a1 a2 hr25)) rfl ?_;push_cast [hb3,hb24n];(repeat refine .intro (by omega) ?_);refine hK _ ?_;clear hK K;refine VC.ret ?_;have hr := Option.some.inj h;subst hr;refine endP (Sub.lo _) (Post.ret ?_ ?_ ?_)
             ·push_cast [hb3]
             ·push_cast [hb3]
             ·rfl
            ·replace h := cond_no hb24 h;rcases Bool.eq_false_or_eq_true (a0 == 10) with hb26 | hb26
             ·replace h := cond_yes hb26 h;have hb26e : a0 = 10 := by simpa using hb26
              have hb26n : a0.toNat = 10 := by omega
              obtain ⟨r27,hr27,h⟩ := po_some h;refine VC.seqF tabOkF [some 14,some 15,some 16,some 17,some 18,some 19,some 20,some 6,some 7] [6,7] rfl rfl (fun K hK => ?_);push_cast [hb3,hb26n];(repeat refine .intro (by omega) ?_);refine callP (Ctr.lo (c_alu_deeds hr5)) rfl ?_;push_cast [hb3,hb26n];(repeat refine .intro (by omega) ?_);refine callP (Ctr.lo (c_alu_deeds_11 a1 a2 hr27)) rfl ?_;push_cast [hb3,hb26n];(repeat refine .intro (by omega) ?_);refine hK _ ?_;clear hK K;refine VC.ret ?_;have hr := Option.some.inj h;subst hr;refine endP (Sub.lo _) (Post.ret ?_ ?_ ?_)
              ·push_cast [hb3]
              ·push_cast [hb3]
              ·rfl
             ·replace h := cond_no hb26 h;cases h
noncomputable def p_interp_frame_alu_J2 (a1 : T_Inst) (r1 : UInt32 × T_interp_frame × T_interp_run) (s_1 : T_interp_frame) (s_2 : T_interp_run) (i_3 : UInt32) : Option (T_interp_frame × T_interp_run) :=
  po (p_alu_Do a1.Fn i_3 r1.1) fun r5 =>
  po (p_interp_frame_put s_1 s_2 a1.Dst r5.1) fun r6 =>
  some (r6.1, r6.2)
noncomputable def p_interp_frame_alu (a0 : T_interp_frame) (a0_r : T_interp_run) (a1 : T_Inst) : Option (T_interp_frame × T_interp_run) :=
  po (p_interp_frame_word a0 a0_r a1) fun r1 =>
  po (
  cond (a1.Fn != 0) (
  po (p_interp_frame_get r1.2.1 r1.2.2 a1.Dst) fun r4 =>
  some (r4.2.1, r4.2.2, r4.1)) (
  some (r1.2.1, r1.2.2, 0))) (fun x => p_interp_frame_alu_J2 a1 r1 x.1 x.2.1 x.2.2)
theorem c_interp_frame_alu (a0 : T_interp_frame) (a0_r : T_interp_run) (a1 : T_Inst) {r : T_interp_frame × T_interp_run} (h : p_interp_frame_alu a0 a0_r a1 = some r) : Ctr prog 91 [.ref 0 0, .agg (enc_Inst a1)] [(0, .box 124 (enc_interp_frame a0 (.ref 1 0))), (1, .box 109 (enc_interp_run a0_r))] (.tup []) [(0, .box 124 (enc_interp_frame r.1 (.ref 1 0))), (1, .box 109 (enc_interp_run r.2))] := by
 unfold p_interp_frame_alu at h;refine Ctr.ofW tabOk func91 rfl call91 2 _ ntmps91 [] rfl rfl rfl (fun B => ?_);refine VC.seqF tabOkF [some 3] [0,3] rfl rfl (fun K hK => ?_);push_cast;(repeat refine .intro (by omega) ?_);refine hK _ ?_;clear hK K;obtain ⟨r1,hr1,h⟩ := po_some h;refine VC.seqF tabOkF [some 8,some 9,some 10,some 4] [0,3,4] rfl rfl (fun K hK => ?_);push_cast;(repeat refine .intro (by omega) ?_);refine callH (H := [(0,.box 124 (enc_interp_frame a0 (.ref 1 0))),(1,.box 109 [.sl false (a0_r.p.Fns.map enc_Fn),.raw (.int .u32 (a0_r.e.Ctx.a0.toNat : Int)),.raw (.int .u32 (a0_r.e.Ctx.a1.toNat : Int)),.raw (.int .u32 (a0_r.e.Ctx.a2.toNat : Int)),.raw (.int .u32 (a0_r.e.Ctx.a3.toNat : Int)),.sl false (a0_r.e.T.map enc_Table),.raw (.int .u32 (a0_r.e.Seed.toNat : Int)),.raw (.int .i64 a0_r.fuel),.raw (.int .i64 a0_r.used),.raw (.int .i64 a0_r.err)])]) (Ctr.loH (Ctr.ren Bij.id (c_interp_frame_word a0 a0_r a1 hr1) (by push_cast) (by push_cast))) (by push_cast) rfl rfl rfl ?_;push_cast;(repeat refine .intro (by omega) ?_);refine hK _ ?_;clear hK K;refine VC.sub (s' := ⟨[(0,.ref 0 0),(3,.ref 2 0),(4,.raw (.int .u32 (r1.1.toNat : Int)))],[(0,.box 124 (enc_interp_frame r1.2.1 (.ref 1 0))),(1,.box 109 [.sl false (r1.2.2.p.Fns.map enc_Fn),.raw (.int .u32 (r1.2.2.e.Ctx.a0.toNat : Int)),.raw (.int .u32 (r1.2.2.e.Ctx.a1.toNat : Int)),.raw (.int .u32 (r1.2.2.e.Ctx.a2.toNat : Int)),.raw (.int .u32 (r1.2.2.e.Ctx.a3.toNat : Int)),.sl false (r1.2.2.e.T.map enc_Table),.raw (.int .u32 (r1.2.2.e.Seed.toNat : Int)),.raw (.int .i64 r1.2.2.fuel),.raw (.int .i64 r1.2.2.used),.raw (.int .i64 r1.2.2.err)]),(2,.box 76 [.raw (.int .i64 a1.Op),.raw (.int .i64 a1.Fn),.raw (.int .i64 a1.Dst),.raw (.int .i64 a1.Src),.raw (.bool a1.Reg),.raw (.int .i64 a1.Off),.raw (.int .u32 (a1.Imm.toNat : Int))])],7,31,2⟩) (sof ?_ ?_ rfl rfl) ?_
 ·push_cast
 ·push_cast
 refine VC.seqF tabOkF [some 5] [0,3,4,5] rfl rfl (fun K hK => ?_);push_cast;(repeat refine .intro (by omega) ?_);refine hK _ ?_;clear hK K;obtain ⟨v2,h,hk2⟩ := po_some h;refine VC.seqJ (X := T_interp_frame × T_interp_run × UInt32) (fun x => p_interp_frame_alu_J2 a1 r1 x.1 x.2.1 x.2.2 = some r) (fun x => ⟨[(0,.ref 0 0),(3,.ref 2 0),(4,.raw (.int .u32 (r1.1.toNat : Int))),(5,.raw (.int .u32 (x.2.2.toNat : Int)))],[(0,.box 124 (enc_interp_frame x.1 (.ref 1 0))),(1,.box 109 [.sl false (x.2.1.p.Fns.map enc_Fn),.raw (.int .u32 (x.2.1.e.Ctx.a0.toNat : Int)),.raw (.int .u32 (x.2.1.e.Ctx.a1.toNat : Int)),.raw (.int .u32 (x.2.1.e.Ctx.a2.toNat : Int)),.raw (.int .u32 (x.2.1.e.Ctx.a3.toNat : Int)),.sl false (x.2.1.e.T.map enc_Table),.raw (.int .u32 (x.2.1.e.Seed.toNat : Int)),.raw (.int .i64 x.2.1.fuel),.raw (.int .i64 x.2.1.used),.raw (.int .i64 x.2.1.err)]),(2,.box 76 [.raw (.int .i64 a1.Op),.raw (.int .i64 a1.Fn),.raw (.int .i64 a1.Dst),.raw (.int .i64 a1.Src),.raw (.bool a1.Reg),.raw (.int .i64 a1.Off),.raw (.int .u32 (a1.Imm.toNat : Int))])],16,31,2⟩) ?_ ?_
 ·refine VC.seqF tabOkF [some 11,some 12,some 13] [0,3,4,5,13] rfl rfl (fun K hK => ?_);push_cast;(repeat refine .intro (by omega) ?_);refine hK _ ?_;clear hK K;refine VC.cond rfl rfl (fun hc3 => ?_) (fun hc3 => ?_)
  ·have hb3 : (a1.Fn != 0) = true := by simpa using hc3
   replace h := cond_yes hb3 h;obtain ⟨r4,hr4,h⟩ := po_some h;refine VC.lastF tabOkF [some 14,some 15,some 16,some 17,some 5] rfl rfl (fun K hK => ?_);push_cast [hb3];(repeat refine .intro (by omega) ?_);refine callH (H := [(0,.box 124 (enc_interp_frame r1.2.1 (.ref 1 0))),(1,.box 109 [.sl false (r1.2.2.p.Fns.map enc_Fn),.raw (.int .u32 (r1.2.2.e.Ctx.a0.toNat : Int)),.raw (.int .u32 (r1.2.2.e.Ctx.a1.toNat : Int)),.raw (.int .u32 (r1.2.2.e.Ctx.a2.toNat : Int)),.raw (.int .u32 (r1.2.2.e.Ctx.a3.toNat : Int)),.sl false (r1.2.2.e.T.map enc_Table),.raw (.int .u32 (r1.2.2.e.Seed.toNat : Int)),.raw (.int .i64 r1.2.2.fuel),.raw (.int .i64 r1.2.2.used),.raw (.int .i64 r1.2.2.err)])]) (Ctr.loH (Ctr.ren Bij.id (c_interp_frame_get r1.2.1 r1.2.2 a1.Dst hr4) (by push_cast [hb3]) (by push_cast [hb3]))) (by push_cast [hb3]) rfl rfl rfl ?_;push_cast [hb3];(repeat refine .intro (by omega) ?_);refine hK _ ?_;clear hK K;have hv := Option.some.inj h;rw [← hv] at hk2;refine Exists.intro ((r4.2.1,r4.2.2,r4.1)) (And.intro hk2 ?_);refine slo ?_ ?_ rfl rfl
   ·push_cast [hb3]
   ·push_cast [hb3]
  ·have hb3 : (a1.Fn != 0) = false := by simpa using hc3
   replace h := cond_no hb3 h;refine VC.skip ?_;have hv := Option.some.inj h;rw [← hv] at hk2;refine Exists.intro ((r1.2.1,r1.2.2,0)) (And.intro hk2 ?_);refine slo ?_ ?_ rfl rfl
   ·push_cast [hb3]
   ·push_cast [hb3]
 ·rintro ⟨s_1,s_2,i_3⟩ h;replace h : p_interp_frame_alu_J2 a1 r1 s_1 s_2 i_3 = some r := h;(try push_cast);unfold p_interp_frame_alu_J2 at h;obtain ⟨r5,hr5,h⟩ := po_some h;refine VC.seqF tabOkF [some 19,some 20,some 21,some 22,some 23,some 18,some 24,some 25,some 6,some 7] [0,3,6] rfl rfl (fun K hK => ?_);push_cast;(repeat refine .intro (by omega) ?_);refine callP (Ctr.lo (c_alu_Do a1.Fn i_3 r1.1 hr5)) rfl ?_;push_cast;(repeat refine .intro (by omega) ?_);refine hK _ ?_;clear hK K;obtain ⟨r6,hr6,h⟩ := po_some h;refine VC.lastF tabOkF [some 26,some 27,some 28,some 29,some 30] rfl rfl (fun K hK => ?_);push_cast;(repeat refine .intro (by omega) ?_);refine callH (H := [(0,.box 124 (enc_interp_frame s_1 (.ref 1 0))),(1,.box 109 [.sl false (s_2.p.Fns.map enc_Fn),.raw (.int .u32 (s_2.e.Ctx.a0.toNat : Int)),.raw (.int .u32 (s_2.e.Ctx.a1.toNat : Int)),.raw (.int .u32 (s_2.e.Ctx.a2.toNat : Int)),.raw (.int .u32 (s_2.e.Ctx.a3.toNat : Int)),.sl false (s_2.e.T.map enc_Table),.raw (.int .u32 (s_2.e.Seed.toNat : Int)),.raw (.int .i64 s_2.fuel),.raw (.int .i64 s_2.used),.raw (.int .i64 s_2.err)])]) (Ctr.loH (Ctr.ren Bij.id (c_interp_frame_put s_1 s_2 a1.Dst r5.1 hr6) (by push_cast) (by push_cast))) (by push_cast) rfl rfl rfl ?_;push_cast;(repeat refine .intro (by omega) ?_);refine hK _ ?_;clear hK K;have hr := Option.some.inj h;subst hr;refine endP (Sub.lo _) (Post.nrm ?_ ?_ ?_)
  ·push_cast
  ·push_cast
  ·rfl
noncomputable def p_alu_Holds (a0 : Int) (a1 : UInt32) (a2 : UInt32) : Option (Bool × Bool) :=
  cond (a0 == 0) (
  some (true, true)) (
  cond (a0 == 1) (
  some (((a1.toNat : Int) == (a2.toNat : Int)), true)) (
  cond (a0 == 2) (
  some (((a1.toNat : Int) != (a2.toNat : Int)), true)) (
  cond (a0 == 3) (
  some ((decide ((a1.toNat : Int) < (a2.toNat : Int))), true)) (
  cond (a0 == 4) (
  some ((decide ((a1.toNat : Int) ≥ (a2.toNat : Int))), true)) (
  some (false, false))))))
theorem c_alu_Holds (a0 : Int) (a1 : UInt32) (a2 : UInt32) {r : Bool × Bool} (h : p_alu_Holds a0 a1 a2 = some r) : Ctr prog 105 [.raw (.int .i64 a0), .raw (.int .u32 (a1.toNat : Int)), .raw (.int .u32 (a2.toNat : Int))] [] (.tup [.raw (.bool r.1), .raw (.bool r.2)]) [] := by
 unfold p_alu_Holds at h;refine Ctr.ofW tabOk func105 rfl call105 0 _ ntmps105 [.tmp 6,.tmp 7] rfl rfl rfl (fun B => ?_);refine VC.seqF tabOkF [some 6,some 7] [0,1,2] rfl rfl (fun K hK => ?_);push_cast;(repeat refine .intro (by omega) ?_);refine hK _ ?_;clear hK K;refine VC.seq ?_;refine VC.seqF tabOkF [some 8] [1,2,8] rfl rfl (fun K hK => ?_);push_cast;(repeat refine .intro (by omega) ?_);refine hK _ ?_;clear hK K;refine VC.block ?_;refine VC.seqF tabOkF [some 10,some 9] [1,2,8,9] rfl rfl (fun K hK => ?_);push_cast;(repeat refine .intro (by omega) ?_);refine hK _ ?_;clear hK K;refine VC.cond rfl rfl (fun hc1 => ?_) (fun hc1 => ?_)
 ·have hb1 : (a0 == 0) = true := by simpa using hc1
  replace h := cond_yes hb1 h;refine VC.seqF tabOkF [some 6,some 7] [6,7] rfl rfl (fun K hK => ?_);push_cast [hb1];(repeat refine .intro (by omega) ?_);refine hK _ ?_;clear hK K;refine VC.ret ?_;have hr := Option.some.inj h;subst hr;refine endP (Sub.lo _) (Post.ret ?_ ?_ ?_)
  ·push_cast [hb1]
  ·push_cast [hb1]
  ·rfl
 ·have hb1 : (a0 == 0) = false := by simpa using hc1
  replace h := cond_no hb1 h;refine VC.seqF tabOkF [some 12,some 11] [1,2,8,11] rfl rfl (fun K hK => ?_);push_cast [hb1];(repeat refine .intro (by omega) ?_);refine hK _ ?_;clear hK K;refine VC.cond rfl rfl (fun hc2 => ?_) (fun hc2 => ?_)
  ·have hb2 : (a0 == 1) = true := by simpa using hc2
   replace h := cond_yes hb2 h;refine VC.seqF tabOkF [some 13,some 14,some 15,some 6,some 7] [6,7] rfl rfl (fun K hK => ?_);push_cast [hb1,hb2];(repeat refine .intro (by omega) ?_);refine hK _ ?_;clear hK K;refine VC.ret ?_;have hr := Option.some.inj h;subst hr;refine endP (Sub.lo _) (Post.ret ?_ ?_ ?_)
   ·push_cast [hb1,hb2]
   ·push_cast [hb1,hb2]
   ·rfl
  ·have hb2 : (a0 == 1) = false := by simpa using hc2
   replace h := cond_no hb2 h;refine VC.seqF tabOkF [some 17,some 16] [1,2,8,16] rfl rfl (fun K hK => ?_);push_cast [hb1,hb2];(repeat refine .intro (by omega) ?_);refine hK _ ?_;clear hK K;refine VC.cond rfl rfl (fun hc3 => ?_) (fun hc3 => ?_)
   ·have hb3 : (a0 == 2) = true := by simpa using hc3
    replace h := cond_yes hb3 h;refine VC.seqF tabOkF [some 18,some 19,some 20,some 6,some 7] [6,7] rfl rfl (fun K hK => ?_);push_cast [hb1,hb2,hb3];(repeat refine .intro (by omega) ?_);refine hK _ ?_;clear hK K;refine VC.ret ?_;have hr := Option.some.inj h;subst hr;refine endP (Sub.lo _) (Post.ret ?_ ?_ ?_)
    ·push_cast [hb1,hb2,hb3]
    ·push_cast [hb1,hb2,hb3]
    ·rfl
   ·have hb3 : (a0 == 2) = false := by simpa using hc3
    replace h := cond_no hb3 h;refine VC.seqF tabOkF [some 22,some 21] [1,2,8,21] rfl rfl (fun K hK => ?_);push_cast [hb1,hb2,hb3];(repeat refine .intro (by omega) ?_);refine hK _ ?_;clear hK K;refine VC.cond rfl rfl (fun hc4 => ?_) (fun hc4 => ?_)
    ·have hb4 : (a0 == 3) = true := by simpa using hc4
     replace h := cond_yes hb4 h;refine VC.seqF tabOkF [some 23,some 24,some 25,some 6,some 7] [6,7] rfl rfl (fun K hK => ?_);push_cast [hb1,hb2,hb3,hb4];(repeat refine .intro (by omega) ?_);refine hK _ ?_;clear hK K;refine VC.ret ?_;have hr := Option.some.inj h;subst hr;refine endP (Sub.lo _) (Post.ret ?_ ?_ ?_)
     ·push_cast [hb1,hb2,hb3,hb4]
     ·push_cast [hb1,hb2,hb3,hb4]
     ·rfl
    ·have hb4 : (a0 == 3) = false := by simpa using hc4
     replace h := cond_no hb4 h;refine VC.seqF tabOkF [some 27,some 26] [1,2,26] rfl rfl (fun K hK => ?_);push_cast [hb1,hb2,hb3,hb4];(repeat refine .intro (by omega) ?_);refine hK _ ?_;clear hK K;refine VC.cond rfl rfl (fun hc5 => ?_) (fun hc5 => ?_)
     ·have hb5 : (a0 == 4) = true := by simpa using hc5
      replace h := cond_yes hb5 h;refine VC.seqF tabOkF [some 28,some 29,some 30,some 6,some 7] [6,7] rfl rfl (fun K hK => ?_);push_cast [hb1,hb2,hb3,hb4,hb5];(repeat refine .intro (by omega) ?_);refine hK _ ?_;clear hK K;refine VC.ret ?_;have hr := Option.some.inj h;subst hr;refine endP (Sub.lo _) (Post.ret ?_ ?_ ?_)
      ·push_cast [hb1,hb2,hb3,hb4,hb5]
      ·push_cast [hb1,hb2,hb3,hb4,hb5]
      ·rfl
     ·have hb5 : (a0 == 4) = false := by simpa using hc5
      replace h := cond_no hb5 h;refine VC.skip ?_;refine VC.seqF tabOkF [some 6,some 7] [6,7] rfl rfl (fun K hK => ?_);push_cast [hb1,hb2,hb3,hb4,hb5];(repeat refine .intro (by omega) ?_);refine hK _ ?_;clear hK K;refine VC.ret ?_;have hr := Option.some.inj h;subst hr;refine endP (Sub.lo _) (Post.ret ?_ ?_ ?_)
      ·push_cast [hb1,hb2,hb3,hb4,hb5]
      ·push_cast [hb1,hb2,hb3,hb4,hb5]
      ·rfl
noncomputable def p_interp_frame_jump (a0 : T_interp_frame) (a0_r : T_interp_run) (a1 : T_Inst) : Option (T_interp_frame × T_interp_run) :=
  cond (a1.Fn == 0) (
  some ((T_interp_frame.mk a0.fn (IntKind.i64.wrap (a0.at_ + a1.Off)) a0.regs a0.set a0.stack a0.over), a0_r)) (
  po (p_interp_frame_get a0 a0_r a1.Dst) fun r2 =>
  po (p_interp_frame_word r2.2.1 r2.2.2 a1) fun r3 =>
  po (p_alu_Holds a1.Fn r2.1 r3.1) fun r4 =>
  cond r4.1 (
  some ((T_interp_frame.mk r3.2.1.fn (IntKind.i64.wrap (r3.2.1.at_ + a1.Off)) r3.2.1.regs r3.2.1.set r3.2.1.stack r3.2.1.over), r3.2.2)) (
  some (r3.2.1, r3.2.2)))
theorem c_interp_frame_jump (a0 : T_interp_frame) (a0_r : T_interp_run) (a1 : T_Inst) {r : T_interp_frame × T_interp_run} (h : p_interp_frame_jump a0 a0_r a1 = some r) : Ctr prog 92 [.ref 0 0, .agg (enc_Inst a1)] [(0, .box 124 (enc_interp_frame a0 (.ref 1 0))), (1, .box 109 (enc_interp_run a0_r))] (.tup []) [(0, .box 124 (enc_interp_frame r.1 (.ref 1 0))), (1, .box 109 (enc_interp_run r.2))] := by
 unfold p_interp_frame_jump at h;refine Ctr.ofW tabOk func92 rfl call92 2 _ ntmps92 [] rfl rfl rfl (fun B => ?_);refine VC.seqF tabOkF [some 3] [0,3] rfl rfl (fun K hK => ?_);push_cast;(repeat refine .intro (by omega) ?_);refine hK _ ?_;clear hK K;refine VC.seq ?_;refine VC.seqF tabOkF [some 6,some 7,some 8] [0,3,8] rfl rfl (fun K hK => ?_);push_cast;(repeat refine .intro (by omega) ?_);refine hK _ ?_;clear hK K;refine VC.cond rfl rfl (fun hc1 => ?_) (fun hc1 => ?_)
 ·have hb1 : (a1.Fn == 0) = true := by simpa using hc1
  replace h := cond_yes hb1 h;refine VC.seqFD tabOkF hmixO [some 9,some 10,some 11,some 12,some 13,some 14,some 15,some 16,some 17,none] [] rfl rfl rfl (fun K hK => ?_);push_cast [hb1];(repeat refine .intro (by omega) ?_);refine ⟨rfl,hK _ ?_⟩;clear hK K;refine VC.ret ?_;have hr := Option.some.inj h;subst hr;refine endP (Sub.lo _) (Post.ret ?_ ?_ ?_)
  ·push_cast [hb1]
  ·push_cast [hb1]
  ·rfl
 ·have hb1 : (a1.Fn == 0) = false := by simpa using hc1
  replace h := cond_no hb1 h;refine VC.skip ?_;obtain ⟨r2,hr2,h⟩ := po_some h;obtain ⟨r3,hr3,h⟩ := po_some h;obtain ⟨r4,hr4,h⟩ := po_some h;refine VC.seqFD tabOkF hmixO [some 19,some 20,some 21,some 22,some 23,some 24,some 25,some 26,some 27,some 28,some 18,some 29,some 30,some 4,some 5] [0,3,4] rfl rfl rfl (fun K hK => ?_);refine runD_cut 8 (fun K2 hK2 => ?_);push_cast [hb1];(repeat refine .intro (by omega) ?_);refine callHD (H := [(0,.box 124 (enc_interp_frame a0 (.ref 1 0))),(1,.box 109 [.sl false (a0_r.p.Fns.map enc_Fn),.raw (.int .u32 (a0_r.e.Ctx.a0.toNat : Int)),.raw (.int .u32 (a0_r.e.Ctx.a1.toNat : Int)),.raw (.int .u32 (a0_r.e.Ctx.a2.toNat : Int)),.raw (.int .u32 (a0_r.e.Ctx.a3.toNat : Int)),.sl false (a0_r.e.T.map enc_Table),.raw (.int .u32 (a0_r.e.Seed.toNat : Int)),.raw (.int .i64 a0_r.fuel),.raw (.int .i64 a0_r.used),.raw (.int .i64 a0_r.err)])]) (Ctr.loH (Ctr.ren Bij.id (c_interp_frame_get a0 a0_r a1.Dst hr2) (by push_cast [hb1]) (by push_cast [hb1]))) (by push_cast [hb1]) rfl rfl rfl ?_;push_cast [hb1];(repeat refine .intro (by omega) ?_);refine hK2 _ _ _ ?_;clear hK2 K2;simp only [List.drop_succ_cons,List.drop_zero];push_cast [hb1];(repeat refine .intro (by omega) ?_);refine callHD (H := [(0,.box 124 (enc_interp_frame r2.2.1 (.ref 1 0))),(1,.box 109 [.sl false (r2.2.2.p.Fns.map enc_Fn),.raw (.int .u32 (r2.2.2.e.Ctx.a0.toNat : Int)),.raw (.int .u32 (r2.2.2.e.Ctx.a1.toNat : Int)),.raw (.int .u32 (r2.2.2.e.Ctx.a2.toNat : Int)),.raw (.int .u32 (r2.2.2.e.Ctx.a3.toNat : Int)),.sl false (r2.2.2.e.T.map enc_Table),.raw (.int .u32 (r2.2.2.e.Seed.toNat : Int)),.raw (.int .i64 r2.2.2.fuel),.raw (.int .i64 r2.2.2.used),.raw (.int .i64 r2.2.2.err)])]) (Ctr.loH (Ctr.ren Bij.id (c_interp_frame_word r2.2.1 r2.2.2 a1 hr3) (by push_cast [hb1]) (by push_cast [hb1]))) (by push_cast [hb1]) rfl rfl rfl ?_;push_cast [hb1];(repeat refine .intro (by omega) ?_);refine callPD (Ctr.lo (c_alu_Holds a1.Fn r2.1 r3.1 hr4)) rfl ?_;push_cast [hb1];(repeat refine .intro (by omega) ?_);refine ⟨rfl,hK _ ?_⟩;clear hK K;refine VC.sub (s' := ⟨[(0,.ref 0 0),(3,.ref 2 0),(4,.raw (.bool r4.1))],[(0,.box 124 (enc_interp_frame r3.2.1 (.ref 1 0))),(1,.box 109 [.sl false (r3.2.2.p.Fns.map enc_Fn),.raw (.int .u32 (r3.2.2.e.Ctx.a0.toNat : Int)),.raw (.int .u32 (r3.2.2.e.Ctx.a1.toNat : Int)),.raw (.int .u32 (r3.2.2.e.Ctx.a2.toNat : Int)),.raw (.int .u32 (r3.2.2.e.Ctx.a3.toNat : Int)),.sl false (r3.2.2.e.T.map enc_Table),.raw (.int .u32 (r3.2.2.e.Seed.toNat : Int)),.raw (.int .i64 r3.2.2.fuel),.raw (.int .i64 r3.2.2.used),.raw (.int .i64 r3.2.2.err)]),(2,.box 76 [.raw (.int .i64 a1.Op),.raw (.int .i64 a1.Fn),.raw (.int .i64 a1.Dst),.raw (.int .i64 a1.Src),.raw (.bool a1.Reg),.raw (.int .i64 a1.Off),.raw (.int .u32 (a1.Imm.toNat : Int))])],21,41,2⟩) (sof ?_ ?_ rfl rfl) ?_
  ·push_cast [hb1]
  ·push_cast [hb1]
  refine VC.seqF tabOkF [some 31] [0,3,31] rfl rfl (fun K hK => ?_);push_cast [hb1];(repeat refine .intro (by omega) ?_);refine hK _ ?_;clear hK K;refine VC.cond rfl rfl (fun hc5 => ?_) (fun hc5 => ?_)
  ·have hb5 : r4.1 = true := by simpa using hc5
   replace h := cond_yes hb5 h;refine VC.lastFD tabOkF hmixO [some 32,some 33,some 34,some 35,some 36,some 37,some 38,some 39,some 40,none] rfl rfl rfl (fun K hK => ?_);push_cast [hb1,hb5];(repeat refine .intro (by omega) ?_);refine ⟨rfl,hK _ ?_⟩;clear hK K;have hr := Option.some.inj h;subst hr;refine endP (Sub.lo _) (Post.nrm ?_ ?_ ?_)
   ·push_cast [hb1,hb5]
   ·push_cast [hb1,hb5]
   ·rfl
  ·have hb5 : r4.1 = false := by simpa using hc5
   replace h := cond_no hb5 h;refine VC.skip ?_;have hr := Option.some.inj h;subst hr;refine endP (Sub.lo _) (Post.nrm ?_ ?_ ?_)
   ·push_cast [hb1,hb5]
   ·push_cast [hb1,hb5]
   ·rfl
noncomputable def p_interp_frame_words (a0 : T_interp_frame) (a0_r : T_interp_run) (a1 : T_Inst) : Option (T_interp_frame × T_interp_run) :=
  pg (0 ≤ 0 ∧ 0 ≤ 16 ∧ 16 ≤ 16) <|
  po (p_interp_frame_word a0 a0_r a1) fun r2 =>
  cond (a1.Op == 2) (
  pg (0 ≤ 0 ∧ 0 ≤ 4 ∧ 4 ≤ 4) <|
  cond (decide ((IntKind.u64.wrap (r2.1.toNat : Int)) ≥ 4)) (
  po (p_interp_run_fail r2.2.2 10) fun r6 =>
  some (r2.2.1, r6)) (
  pg (r2.1.toNat < 4) <|
  po (p_interp_frame_put r2.2.1 r2.2.2 a1.Dst (r2.2.2.e.Ctx.get r2.1.toNat)) fun r8 =>
  some (r8.1, r8.2))) (
  cond (a1.Op == 3) (
  cond (decide ((IntKind.u64.wrap (r2.1.toNat : Int)) ≥ 16)) (
  po (p_interp_run_fail r2.2.2 10) fun r11 =>
  some (r2.2.1, r11)) (
  pg (r2.1.toNat < 16) <|
  po (p_interp_frame_put r2.2.1 r2.2.2 a1.Dst (r2.2.1.stack.get r2.1.toNat)) fun r13 =>
  some (r13.1, r13.2))) (
  cond (a1.Op == 4) (
  po (p_interp_frame_get r2.2.1 r2.2.2 a1.Dst) fun r15 =>
  cond (decide ((IntKind.u64.wrap (r2.1.toNat : Int)) ≥ 16)) (
  po (p_interp_run_fail r15.2.2 10) fun r17 =>
  some (r15.2.1, r17)) (
  pg (r2.1.toNat < 16) <|
  pl (r15.2.1.stack.set r2.1.toNat r15.1) fun y19 =>
  some ((T_interp_frame.mk r15.2.1.fn r15.2.1.at_ r15.2.1.regs r15.2.1.set y19 r15.2.1.over), r15.2.2))) (
  some (r2.2.1, r2.2.2))))
theorem c_interp_frame_words (a0 : T_interp_frame) (a0_r : T_interp_run) (a1 : T_Inst) {r : T_interp_frame × T_interp_run} (h : p_interp_frame_words a0 a0_r a1 = some r) : Ctr prog 93 [.ref 0 0, .agg (enc_Inst a1)] [(0, .box 124 (enc_interp_frame a0 (.ref 1 0))), (1, .box 109 (enc_interp_run a0_r))] (.tup []) [(0, .box 124 (enc_interp_frame r.1 (.ref 1 0))), (1, .box 109 (enc_interp_run r.2))] := by
 unfold p_interp_frame_words at h;refine Ctr.ofW tabOk func93 rfl call93 2 _ ntmps93 [] rfl rfl rfl (fun B => ?_);refine VC.seqF tabOkF [some 3] [0,3] rfl rfl (fun K hK => ?_);push_cast;(repeat refine .intro (by omega) ?_);refine hK _ ?_;clear hK K;obtain ⟨hg1,h⟩ := pg_some h;refine VC.seqF tabOkF [some 7,some 8,some 9,some 10,some 4] [0,3,4] rfl rfl (fun K hK => ?_);push_cast [hg1];(repeat refine .intro (by omega) ?_);refine hK _ ?_;clear hK K;refine VC.sub (s' := ⟨[(0,.ref 0 0),(3,.ref 2 0),(4,.bsl 0 19 16)],[(0,.box 124 (enc_interp_frame a0 (.ref 1 0))),(1,.box 109 [.sl false (a0_r.p.Fns.map enc_Fn),.raw (.int .u32 (a0_r.e.Ctx.a0.toNat : Int)),.raw (.int .u32 (a0_r.e.Ctx.a1.toNat : Int)),.raw (.int .u32 (a0_r.e.Ctx.a2.toNat : Int)),.raw (.int .u32 (a0_r.e.Ctx.a3.toNat : Int)),.sl false (a0_r.e.T.map enc_Table),.raw (.int .u32 (a0_r.e.Seed.toNat : Int)),.raw (.int .i64 a0_r.fuel),.raw (.int .i64 a0_r.used),.raw (.int .i64 a0_r.err)]),(2,.box 76 [.raw (.int .i64 a1.Op),.raw (.int .i64 a1.Fn),.raw (.int .i64 a1.Dst),.raw (.int .i64 a1.Src),.raw (.bool a1.Reg),.raw (.int .i64 a1.Off),.raw (.int .u32 (a1.Imm.toNat : Int))])],8,68,2⟩) (sof ?_ ?_ rfl rfl) ?_
 ·push_cast
 ·push_cast
 obtain ⟨r2,hr2,h⟩ := po_some h;refine VC.seqF tabOkF [some 11,some 12,some 13,some 5] [0,3,4,5] rfl rfl (fun K hK => ?_);push_cast [hg1];(repeat refine .intro (by omega) ?_);refine callH (H := [(0,.box 124 (enc_interp_frame a0 (.ref 1 0))),(1,.box 109 [.sl false (a0_r.p.Fns.map enc_Fn),.raw (.int .u32 (a0_r.e.Ctx.a0.toNat : Int)),.raw (.int .u32 (a0_r.e.Ctx.a1.toNat : Int)),.raw (.int .u32 (a0_r.e.Ctx.a2.toNat : Int)),.raw (.int .u32 (a0_r.e.Ctx.a3.toNat : Int)),.sl false (a0_r.e.T.map enc_Table),.raw (.int .u32 (a0_r.e.Seed.toNat : Int)),.raw (.int .i64 a0_r.fuel),.raw (.int .i64 a0_r.used),.raw (.int .i64 a0_r.err)])]) (Ctr.loH (Ctr.ren Bij.id (c_interp_frame_word a0 a0_r a1 hr2) (by push_cast [hg1]) (by push_cast [hg1]))) (by push_cast [hg1]) rfl rfl rfl ?_;push_cast [hg1];(repeat refine .intro (by omega) ?_);refine hK _ ?_;clear hK K;refine VC.sub (s' := ⟨[(0,.ref 0 0),(3,.ref 2 0),(4,.bsl 0 19 16),(5,.raw (.int .u32 (r2.1.toNat : Int)))],[(0,.box 124 (enc_interp_frame r2.2.1 (.ref 1 0))),(1,.box 109 [.sl false (r2.2.2.p.Fns.map enc_Fn),.raw (.int .u32 (r2.2.2.e.Ctx.a0.toNat : Int)),.raw (.int .u32 (r2.2.2.e.Ctx.a1.toNat : Int)),.raw (.int .u32 (r2.2.2.e.Ctx.a2.toNat : Int)),.raw (.int .u32 (r2.2.2.e.Ctx.a3.toNat : Int)),.sl false (r2.2.2.e.T.map enc_Table),.raw (.int .u32 (r2.2.2.e.Seed.toNat : Int)),.raw (.int .i64 r2.2.2.fuel),.raw (.int .i64 r2.2.2.used),.raw (.int .i64 r2.2.2.err)]),(2,.box 76 [.raw (.int .i64 a1.Op),.raw (.int .i64 a1.Fn),.raw (.int .i64 a1.Dst),.raw (.int .i64 a1.Src),.raw (.bool a1.Reg),.raw (.int .i64 a1.Off),.raw (.int .u32 (a1.Imm.toNat : Int))])],12,68,2⟩) (sof ?_ ?_ rfl rfl) ?_
 ·push_cast
 ·push_cast
 refine VC.seqF tabOkF [some 14,some 15] [0,3,4,5,15] rfl rfl (fun K hK => ?_);push_cast [hg1];(repeat refine .intro (by omega) ?_);refine hK _ ?_;clear hK K;refine VC.block ?_;refine VC.seq ?_;refine VC.block ?_;refine VC.seq ?_;refine VC.block ?_;refine VC.seq ?_;refine VC.block ?_;refine VC.seq ?_;refine VC.seq ?_;refine VC.seqF tabOkF [some 17,some 16] [0,3,4,5,15,16] rfl rfl (fun K hK => ?_);push_cast [hg1];(repeat refine .intro (by omega) ?_);refine hK _ ?_;clear hK K;refine VC.cond rfl rfl (fun hc3 => ?_) (fun hc3 => ?_)
 ·have hb3 : (a1.Op == 2) = true := by simpa using hc3
  replace h := cond_yes hb3 h;refine VC.exit ?_;obtain ⟨hg4,h⟩ := pg_some h;refine VC.lastF tabOkF [some 22,some 23,some 24,some 25,some 26,some 27,some 28,some 29,some 4] rfl rfl (fun K hK => ?_);push_cast [hg1,hb3,hg4];(repeat refine .intro (by omega) ?_);refine hK _ ?_;clear hK K;refine VC.seq ?_;refine VC.seq ?_;refine VC.seqF tabOkF [some 30,some 31,some 32,some 33,some 34,some 35] [0,3,4,5,35] rfl rfl (fun K hK => ?_);push_cast [hg1,hb3,hg4];(repeat refine .intro (by omega) ?_);refine hK _ ?_;clear hK K;refine VC.cond rfl rfl (fun hc5 => ?_) (fun hc5 => ?_)
  ·have hb5 : (decide ((IntKind.u64.wrap (r2.1.toNat : Int)) ≥ 4)) = true := by simpa using hc5
   replace h := cond_yes hb5 h;obtain ⟨r6,hr6,h⟩ := po_some h;refine VC.seqF tabOkF [some 36,some 37,some 38,some 39,some 40] [] rfl rfl (fun K hK => ?_);push_cast [hg1,hb3,hg4,hb5];(repeat refine .intro (by omega) ?_);refine callH (H := [(1,.box 109 [.sl false (r2.2.2.p.Fns.map enc_Fn),.raw (.int .u32 (r2.2.2.e.Ctx.a0.toNat : Int)),.raw (.int .u32 (r2.2.2.e.Ctx.a1.toNat : Int)),.raw (.int .u32 (r2.2.2.e.Ctx.a2.toNat : Int)),.raw (.int .u32 (r2.2.2.e.Ctx.a3.toNat : Int)),.sl false (r2.2.2.e.T.map enc_Table),.raw (.int .u32 (r2.2.2.e.Seed.toNat : Int)),.raw (.int .i64 r2.2.2.fuel),.raw (.int .i64 r2.2.2.used),.raw (.int .i64 r2.2.2.err)])]) (Ctr.loH (Ctr.ren (Bij.swp 0 1 Bij.id) (c_interp_run_fail r2.2.2 10 hr6) (by push_cast [hg1,hb3,hg4,hb5]) (by push_cast [hg1,hb3,hg4,hb5]))) (by push_cast [hg1,hb3,hg4,hb5]) rfl rfl rfl ?_;push_cast [hg1,hb3,hg4,hb5];(repeat refine .intro (by omega) ?_);refine hK _ ?_;clear hK K;refine VC.sub (s' := ⟨[],[(0,.box 124 (enc_interp_frame r2.2.1 (.ref 1 0))),(1,.box 109 [.sl false (r6.p.Fns.map enc_Fn),.raw (.int .u32 (r6.e.Ctx.a0.toNat : Int)),.raw (.int .u32 (r6.e.Ctx.a1.toNat : Int)),.raw (.int .u32 (r6.e.Ctx.a2.toNat : Int)),.raw (.int .u32 (r6.e.Ctx.a3.toNat : Int)),.sl false (r6.e.T.map enc_Table),.raw (.int .u32 (r6.e.Seed.toNat : Int)),.raw (.int .i64 r6.fuel),.raw (.int .i64 r6.used),.raw (.int .i64 r6.err)])],36,68,2⟩) (sof ?_ ?_ rfl rfl) ?_
   ·push_cast [hb3,hb5]
   ·push_cast [hb3,hb5]
   refine VC.ret ?_;have hr := Option.some.inj h;subst hr;refine endP (Sub.lo _) (Post.ret ?_ ?_ ?_)
   ·push_cast [hb3,hb5]
   ·push_cast [hb3,hb5]
   ·rfl
  ·have hb5 : (decide ((IntKind.u64.wrap (r2.1.toNat : Int)) ≥ 4)) = false := by simpa using hc5
   replace h := cond_no hb5 h;refine VC.skip ?_;obtain ⟨hg7,h⟩ := pg_some h;obtain ⟨r8,hr8,h⟩ := po_some h;refine VC.lastFD tabOkF hmixO [some 41,some 42,some 43,some 44,some 45,some 46,some 47,some 48] rfl rfl rfl (fun K hK => ?_);push_cast [hg1,hb3,hg4,hb5,hg7];(repeat refine .intro (by omega) ?_);refine callHD (H := [(0,.box 124 (enc_interp_frame r2.2.1 (.ref 1 0))),(1,.box 109 [.sl false (r2.2.2.p.Fns.map enc_Fn),.raw (.int .u32 (r2.2.2.e.Ctx.a0.toNat : Int)),.raw (.int .u32 (r2.2.2.e.Ctx.a1.toNat : Int)),.raw (.int .u32 (r2.2.2.e.Ctx.a2.toNat : Int)),.raw (.int .u32 (r2.2.2.e.Ctx.a3.toNat : Int)),.sl false (r2.2.2.e.T.map enc_Table),.raw (.int .u32 (r2.2.2.e.Seed.toNat : Int)),.raw (.int .i64 r2.2.2.fuel),.raw (.int .i64 r2.2.2.used),.raw (.int .i64 r2.2.2.err)])]) (Ctr.loH (Ctr.ren Bij.id (c_interp_frame_put r2.2.1 r2.2.2 a1.Dst (r2.2.2.e.Ctx.get r2.1.toNat) hr8) (by push_cast [hg1,hb3,hg4,hb5,hg7]) (by push_cast [hg1,hb3,hg4,hb5,hg7]))) (by push_cast [hg1,hb3,hg4,hb5,hg7]) rfl rfl rfl ?_;push_cast [hg1,hb3,hg4,hb5,hg7];(repeat refine .intro (by omega) ?_);refine ⟨rfl,hK _ ?_⟩;clear hK K;refine VC.exit ?_;have hr := Option.some.inj h;subst hr;refine endP (Sub.lo _) (Post.nrm ?_ ?_ ?_)
   ·push_cast [hb3,hb5]
   ·push_cast [hb3,hb5]
   ·rfl
 ·have hb3 : (a1.Op == 2) = false := by simpa using hc3
  replace h := cond_no hb3 h;refine VC.skip ?_;refine VC.seq ?_;refine VC.seqF tabOkF [some 19,some 18] [0,3,4,5,15,18] rfl rfl (fun K hK => ?_);push_cast [hg1,hb3];(repeat refine .intro (by omega) ?_);refine hK _ ?_;clear hK K;refine VC.cond rfl rfl (fun hc9 => ?_) (fun hc9 => ?_)
  ·have hb9 : (a1.Op == 3) = true := by simpa using hc9
   replace h := cond_yes hb9 h;refine VC.exit ?_;refine VC.seq ?_;refine VC.seq ?_;refine VC.seqF tabOkF [some 30,some 31,some 32,some 33,some 34,some 35] [0,3,4,5,35] rfl rfl (fun K hK => ?_);push_cast [hg1,hb3,hb9];(repeat refine .intro (by omega) ?_);refine hK _ ?_;clear hK K;refine VC.cond rfl rfl (fun hc10 => ?_) (fun hc10 => ?_)
   ·have hb10 : (decide ((IntKind.u64.wrap (r2.1.toNat : Int)) ≥ 16)) = true := by simpa using hc10
    replace h := cond_yes hb10 h;obtain ⟨r11,hr11,h⟩ := po_some h;refine VC.seqF tabOkF [some 36,some 37,some 38,some 39,some 40] [] rfl rfl (fun K hK => ?_);push_cast [hg1,hb3,hb9,hb10];(repeat refine .intro (by omega) ?_);refine callH (H := [(1,.box 109 [.sl false (r2.2.2.p.Fns.map enc_Fn),.raw (.int .u32 (r2.2.2.e.Ctx.a0.toNat : Int)),.raw (.int .u32 (r2.2.2.e.Ctx.a1.toNat : Int)),.raw (.int .u32 (r2.2.2.e.Ctx.a2.toNat : Int)),.raw (.int .u32 (r2.2.2.e.Ctx.a3.toNat : Int)),.sl false (r2.2.2.e.T.map enc_Table),.raw (.int .u32 (r2.2.2.e.Seed.toNat : Int)),.raw (.int .i64 r2.2.2.fuel),.raw (.int .i64 r2.2.2.used),.raw (.int .i64 r2.2.2.err)])]) (Ctr.loH (Ctr.ren (Bij.swp 0 1 Bij.id) (c_interp_run_fail r2.2.2 10 hr11) (by push_cast [hg1,hb3,hb9,hb10]) (by push_cast [hg1,hb3,hb9,hb10]))) (by push_cast [hg1,hb3,hb9,hb10]) rfl rfl rfl ?_;push_cast [hg1,hb3,hb9,hb10];(repeat refine .intro (by omega) ?_);refine hK _ ?_;clear hK K;refine VC.sub (s' := ⟨[],[(0,.box 124 (enc_interp_frame r2.2.1 (.ref 1 0))),(1,.box 109 [.sl false (r11.p.Fns.map enc_Fn),.raw (.int .u32 (r11.e.Ctx.a0.toNat : Int)),.raw (.int .u32 (r11.e.Ctx.a1.toNat : Int)),.raw (.int .u32 (r11.e.Ctx.a2.toNat : Int)),.raw (.int .u32 (r11.e.Ctx.a3.toNat : Int)),.sl false (r11.e.T.map enc_Table),.raw (.int .u32 (r11.e.Seed.toNat : Int)),.raw (.int .i64 r11.fuel),.raw (.int .i64 r11.used),.raw (.int .i64 r11.err)])],29,68,2⟩) (sof ?_ ?_ rfl rfl) ?_
    ·push_cast [hb3,hb9,hb10]
    ·push_cast [hb3,hb9,hb10]
    refine VC.ret ?_;have hr := Option.some.inj h;subst hr;refine endP (Sub.lo _) (Post.ret ?_ ?_ ?_)
    ·push_cast [hb3,hb9,hb10]
    ·push_cast [hb3,hb9,hb10]
    ·rfl
   ·have hb10 : (decide ((IntKind.u64.wrap (r2.1.toNat : Int)) ≥ 16)) = false := by simpa using hc10
    replace h := cond_no hb10 h;refine VC.skip ?_;obtain ⟨hg12,h⟩ := pg_some h;obtain ⟨r13,hr13,h⟩ := po_some h;refine VC.lastFD tabOkF hmixO [some 41,some 42,some 43,some 44,some 45,some 46,some 47,some 48] rfl rfl rfl (fun K hK => ?_);push_cast [hg1,hb3,hb9,hb10,hg12];(repeat refine .intro (by omega) ?_);refine callHD (H := [(0,.box 124 (enc_interp_frame r2.2.1 (.ref 1 0))),(1,.box 109 [.sl false (r2.2.2.p.Fns.map enc_Fn),.raw (.int .u32 (r2.2.2.e.Ctx.a0.toNat : Int)),.raw (.int .u32 (r2.2.2.e.Ctx.a1.toNat : Int)),.raw (.int .u32 (r2.2.2.e.Ctx.a2.toNat : Int)),.raw (.int .u32 (r2.2.2.e.Ctx.a3.toNat : Int)),.sl false (r2.2.2.e.T.map enc_Table),.raw (.int .u32 (r2.2.2.e.Seed.toNat : Int)),.raw (.int .i64 r2.2.2.fuel),.raw (.int .i64 r2.2.2.used),.raw (.int .i64 r2.2.2.err)])]) (Ctr.loH (Ctr.ren Bij.id (c_interp_frame_put r2.2.1 r2.2.2 a1.Dst (r2.2.1.stack.get r2.1.toNat) hr13) (by push_cast [hg1,hb3,hb9,hb10,hg12]) (by push_cast [hg1,hb3,hb9,hb10,hg12]))) (by push_cast [hg1,hb3,hb9,hb10,hg12]) rfl rfl rfl ?_;push_cast [hg1,hb3,hb9,hb10,hg12];(repeat refine .intro (by omega) ?_);refine ⟨rfl,hK _ ?_⟩;clear hK K;refine VC.exit ?_;have hr := Option.some.inj h;subst hr;refine endP (Sub.lo _) (Post.nrm ?_ ?_ ?_)
    ·push_cast [hb3,hb9,hb10]
    ·push_cast [hb3,hb9,hb10]
    ·rfl
  ·have hb9 : (a1.Op == 3) = false := by simpa using hc9
   replace h := cond_no hb9 h;refine VC.skip ?_;refine VC.seqF tabOkF [some 21,some 20] [0,3,4,5,20] rfl rfl (fun K hK => ?_);push_cast [hg1,hb3,hb9];(repeat refine .intro (by omega) ?_);refine hK _ ?_;clear hK K;refine VC.cond rfl rfl (fun hc14 => ?_) (fun hc14 => ?_)
   ·have hb14 : (a1.Op == 4) = true := by simpa using hc14
    replace h := cond_yes hb14 h;refine VC.exit ?_;refine VC.seq ?_;obtain ⟨r15,hr15,h⟩ := po_some h;refine VC.seqF tabOkF [some 49,some 50,some 51,some 52,some 6] [0,4,5,6] rfl rfl (fun K hK => ?_);push_cast [hg1,hb3,hb9,hb14];(repeat refine .intro (by omega) ?_);refine callH (H := [(0,.box 124 (enc_interp_frame r2.2.1 (.ref 1 0))),(1,.box 109 [.sl false (r2.2.2.p.Fns.map enc_Fn),.raw (.int .u32 (r2.2.2.e.Ctx.a0.toNat : Int)),.raw (.int .u32 (r2.2.2.e.Ctx.a1.toNat : Int)),.raw (.int .u32 (r2.2.2.e.Ctx.a2.toNat : Int)),.raw (.int .u32 (r2.2.2.e.Ctx.a3.toNat : Int)),.sl false (r2.2.2.e.T.map enc_Table),.raw (.int .u32 (r2.2.2.e.Seed.toNat : Int)),.raw (.int .i64 r2.2.2.fuel),.raw (.int .i64 r2.2.2.used),.raw (.int .i64 r2.2.2.err)])]) (Ctr.loH (Ctr.ren Bij.id (c_interp_frame_get r2.2.1 r2.2.2 a1.Dst hr15) (by push_cast [hg1,hb3,hb9,hb14]) (by push_cast [hg1,hb3,hb9,hb14]))) (by push_cast [hg1,hb3,hb9,hb14]) rfl rfl rfl ?_;push_cast [hg1,hb3,hb9,hb14];(repeat refine .intro (by omega) ?_);refine hK _ ?_;clear hK K;refine VC.sub (s' := ⟨[(0,.ref 0 0),(4,.bsl 0 19 16),(5,.raw (.int .u32 (r2.1.toNat : Int))),(6,.raw (.int .u32 (r15.1.toNat : Int)))],[(0,.box 124 (enc_interp_frame r15.2.1 (.ref 1 0))),(1,.box 109 [.sl false (r15.2.2.p.Fns.map enc_Fn),.raw (.int .u32 (r15.2.2.e.Ctx.a0.toNat : Int)),.raw (.int .u32 (r15.2.2.e.Ctx.a1.toNat : Int)),.raw (.int .u32 (r15.2.2.e.Ctx.a2.toNat : Int)),.raw (.int .u32 (r15.2.2.e.Ctx.a3.toNat : Int)),.sl false (r15.2.2.e.T.map enc_Table),.raw (.int .u32 (r15.2.2.e.Seed.toNat : Int)),.raw (.int .i64 r15.2.2.fuel),.raw (.int .i64 r15.2.2.used),.raw (.int .i64 r15.2.2.err)])],25,68,2⟩) (sof ?_ ?_ rfl rfl) ?_
    ·push_cast [hb3,hb9,hb14]
    ·push_cast [hb3,hb9,hb14]
    refine VC.seq ?_;refine VC.seqF tabOkF [some 53,some 54,some 55,some 56,some 57,some 58] [0,4,5,6,58] rfl rfl (fun K hK => ?_);push_cast [hg1,hb3,hb9,hb14];(repeat refine .intro (by omega) ?_);refine hK _ ?_;clear hK K;refine VC.cond rfl rfl (fun hc16 => ?_) (fun hc16 => ?_)
    ·have hb16 : (decide ((IntKind.u64.wrap (r2.1.toNat : Int)) ≥ 16)) = true := by simpa using hc16
     replace h := cond_yes hb16 h;obtain ⟨r17,hr17,h⟩ := po_some h;refine VC.seqF tabOkF [some 59,some 60,some 61,some 62,some 63] [] rfl rfl (fun K hK => ?_);push_cast [hg1,hb3,hb9,hb14,hb16];(repeat refine .intro (by omega) ?_);refine callH (H := [(1,.box 109 [.sl false (r15.2.2.p.Fns.map enc_Fn),.raw (.int .u32 (r15.2.2.e.Ctx.a0.toNat : Int)),.raw (.int .u32 (r15.2.2.e.Ctx.a1.toNat : Int)),.raw (.int .u32 (r15.2.2.e.Ctx.a2.toNat : Int)),.raw (.int .u32 (r15.2.2.e.Ctx.a3.toNat : Int)),.sl false (r15.2.2.e.T.map enc_Table),.raw (.int .u32 (r15.2.2.e.Seed.toNat : Int)),.raw (.int .i64 r15.2.2.fuel),.raw (.int .i64 r15.2.2.used),.raw (.int .i64 r15.2.2.err)])]) (Ctr.loH (Ctr.ren (Bij.swp 0 1 Bij.id) (c_interp_run_fail r15.2.2 10 hr17) (by push_cast [hg1,hb3,hb9,hb14,hb16]) (by push_cast [hg1,hb3,hb9,hb14,hb16]))) (by push_cast [hg1,hb3,hb9,hb14,hb16]) rfl rfl rfl ?_;push_cast [hg1,hb3,hb9,hb14,hb16];(repeat refine .intro (by omega) ?_);refine hK _ ?_;clear hK K;refine VC.sub (s' := ⟨[],[(0,.box 124 (enc_interp_frame r15.2.1 (.ref 1 0))),(1,.box 109 [.sl false (r17.p.Fns.map enc_Fn),.raw (.int .u32 (r17.e.Ctx.a0.toNat : Int)),.raw (.int .u32 (r17.e.Ctx.a1.toNat : Int)),.raw (.int .u32 (r17.e.Ctx.a2.toNat : Int)),.raw (.int .u32 (r17.e.Ctx.a3.toNat : Int)),.sl false (r17.e.T.map enc_Table),.raw (.int .u32 (r17.e.Seed.toNat : Int)),.raw (.int .i64 r17.fuel),.raw (.int .i64 r17.used),.raw (.int .i64 r17.err)])],36,68,2⟩) (sof ?_ ?_ rfl rfl) ?_
     ·push_cast [hb3,hb9,hb14,hb16]
     ·push_cast [hb3,hb9,hb14,hb16]
     refine VC.ret ?_;have hr := Option.some.inj h;subst hr;refine endP (Sub.lo _) (Post.ret ?_ ?_ ?_)
     ·push_cast [hb3,hb9,hb14,hb16]
     ·push_cast [hb3,hb9,hb14,hb16]
     ·rfl
    ·have hb16 : (decide ((IntKind.u64.wrap (r2.1.toNat : Int)) ≥ 16)) = false := by simpa using hc16
     replace h := cond_no hb16 h;refine VC.skip ?_;obtain ⟨hg18,h⟩ := pg_some h;obtain ⟨y19,hy19,h⟩ := pl_some h;refine VC.lastF tabOkF [some 64,some 65,some 66,some 67,none] rfl rfl (fun K hK => ?_);push_cast [hg1,hb3,hb9,hb14,hb16,hg18];(repeat refine .intro (by omega) ?_);refine hK _ ?_;clear hK K;refine VC.exit ?_;have hr := Option.some.inj h;subst hr;refine endP (Sub.lo _) (Post.nrm ?_ ?_ ?_)
     ·push_cast [hb3,hb9,hb14,hb16,hy19]
     ·push_cast [hb3,hb9,hb14,hb16,hy19]
     ·rfl
   ·have hb14 : (a1.Op == 4) = false := by simpa using hc14
    replace h := cond_no hb14 h;refine VC.skip ?_;refine VC.exit ?_;have hr := Option.some.inj h;subst hr;refine endP (Sub.lo _) (Post.nrm ?_ ?_ ?_)
    ·push_cast [hb3,hb9,hb14]
    ·push_cast [hb3,hb9,hb14]
    ·rfl
noncomputable def p_interp_frame_back_L2 (r1 : T_interp_frame × T_interp_run) (s_1 : T_interp_frame) (i_2 : Int) : Option ((T_interp_frame × Int) ⊕ (T_interp_frame × T_interp_run)) :=
  cond (decide (i_2 ≤ 5)) (
  pg (0 ≤ i_2 ∧ i_2 < 8) <|
  pl (s_1.regs.set i_2.toNat 0) fun y5 =>
  pg (0 ≤ i_2 ∧ i_2 < 8) <|
  pl (s_1.set.set i_2.toNat false) fun y7 =>
  some (Sum.inl ((T_interp_frame.mk s_1.fn s_1.at_ y5 y7 s_1.stack s_1.over), (IntKind.i64.wrap (i_2 + 1))))) (
  some (Sum.inr (s_1, r1.2)))
noncomputable def p_interp_frame_back (a0 : T_interp_frame) (a0_r : T_interp_run) (a1 : UInt32) : Option (T_interp_frame × T_interp_run) :=
  po (p_interp_frame_put a0 a0_r 0 a1) fun r1 =>
  lpU (fun x => p_interp_frame_back_L2 r1 x.1 x.2) (r1.1, 1)
theorem c_interp_frame_back (a0 : T_interp_frame) (a0_r : T_interp_run) (a1 : UInt32) {r : T_interp_frame × T_interp_run} (h : p_interp_frame_back a0 a0_r a1 = some r) : Ctr prog 107 [.ref 0 0, .raw (.int .u32 (a1.toNat : Int))] [(0, .box 124 (enc_interp_frame a0 (.ref 1 0))), (1, .box 109 (enc_interp_run a0_r))] (.tup []) [(0, .box 124 (enc_interp_frame r.1 (.ref 1 0))), (1, .box 109 (enc_interp_run r.2))] := by
 unfold p_interp_frame_back at h;refine Ctr.ofW tabOk func107 rfl call107 2 _ ntmps107 [] rfl rfl rfl (fun B => ?_);obtain ⟨r1,hr1,h⟩ := po_some h;refine VC.seqF tabOkF [some 5,some 6,some 7] [0] rfl rfl (fun K hK => ?_);push_cast;(repeat refine .intro (by omega) ?_);refine callH (H := [(0,.box 124 (enc_interp_frame a0 (.ref 1 0))),(1,.box 109 [.sl false (a0_r.p.Fns.map enc_Fn),.raw (.int .u32 (a0_r.e.Ctx.a0.toNat : Int)),.raw (.int .u32 (a0_r.e.Ctx.a1.toNat : Int)),.raw (.int .u32 (a0_r.e.Ctx.a2.toNat : Int)),.raw (.int .u32 (a0_r.e.Ctx.a3.toNat : Int)),.sl false (a0_r.e.T.map enc_Table),.raw (.int .u32 (a0_r.e.Seed.toNat : Int)),.raw (.int .i64 a0_r.fuel),.raw (.int .i64 a0_r.used),.raw (.int .i64 a0_r.err)])]) (Ctr.loH (Ctr.ren Bij.id (c_interp_frame_put a0 a0_r 0 a1 hr1) (by push_cast) (by push_cast))) (by push_cast) rfl rfl rfl ?_;push_cast;(repeat refine .intro (by omega) ?_);refine hK _ ?_;clear hK K;refine VC.sub (s' := ⟨[(0,.ref 0 0)],[(0,.box 124 (enc_interp_frame r1.1 (.ref 1 0))),(1,.box 109 [.sl false (r1.2.p.Fns.map enc_Fn),.raw (.int .u32 (r1.2.e.Ctx.a0.toNat : Int)),.raw (.int .u32 (r1.2.e.Ctx.a1.toNat : Int)),.raw (.int .u32 (r1.2.e.Ctx.a2.toNat : Int)),.raw (.int .u32 (r1.2.e.Ctx.a3.toNat : Int)),.sl false (r1.2.e.T.map enc_Table),.raw (.int .u32 (r1.2.e.Seed.toNat : Int)),.raw (.int .i64 r1.2.fuel),.raw (.int .i64 r1.2.used),.raw (.int .i64 r1.2.err)])],5,22,2⟩) (sof ?_ ?_ rfl rfl) ?_
 ·push_cast
 ·push_cast
 refine VC.seqF tabOkF [some 4] [0,4] rfl rfl (fun K hK => ?_);push_cast;(repeat refine .intro (by omega) ?_);refine hK _ ?_;clear hK K;refine VC.block ?_;refine VC.loopP h (fun x => ⟨[(0,.ref 0 0),(4,.raw (.int .i64 x.2))],[(0,.box 124 (enc_interp_frame x.1 (.ref 1 0))),(1,.box 109 [.sl false (r1.2.p.Fns.map enc_Fn),.raw (.int .u32 (r1.2.e.Ctx.a0.toNat : Int)),.raw (.int .u32 (r1.2.e.Ctx.a1.toNat : Int)),.raw (.int .u32 (r1.2.e.Ctx.a2.toNat : Int)),.raw (.int .u32 (r1.2.e.Ctx.a3.toNat : Int)),.sl false (r1.2.e.T.map enc_Table),.raw (.int .u32 (r1.2.e.Seed.toNat : Int)),.raw (.int .i64 r1.2.fuel),.raw (.int .i64 r1.2.used),.raw (.int .i64 r1.2.err)])],23,22,2⟩) ?_ ?_
 ·refine slo ?_ ?_ rfl rfl
  ·push_cast
  ·push_cast
 rintro ⟨s_1,i_2⟩ b2 h hf2;replace h : p_interp_frame_back_L2 r1 s_1 i_2 = some b2 := h;(try push_cast);unfold p_interp_frame_back_L2 at h;refine VC.seq ?_;refine VC.seqF tabOkF [some 8,some 9] [0,4,9] rfl rfl (fun K hK => ?_);push_cast;(repeat refine .intro (by omega) ?_);refine hK _ ?_;clear hK K;refine VC.cond rfl rfl (fun hc3 => ?_) (fun hc3 => ?_)
 ·have hb3 : (decide (i_2 ≤ 5)) = true := by simpa using hc3
  replace h := cond_yes hb3 h;refine VC.skip ?_;refine VC.seq ?_;refine VC.block ?_;obtain ⟨hg4,h⟩ := pg_some h;have hg4n : i_2.toNat < 8 := by omega
  obtain ⟨y5,hy5,h⟩ := pl_some h;obtain ⟨hg6,h⟩ := pg_some h;have hg6n : i_2.toNat < 8 := by omega
  obtain ⟨y7,hy7,h⟩ := pl_some h;refine VC.lastFD tabOkF hmixO [some 12,some 13,some 14,some 15,some 16,some 17,some 18,none,some 19,some 20,some 21,none] rfl rfl rfl (fun K hK => ?_);refine runD_cut 8 (fun K2 hK2 => ?_);push_cast [hb3,hg4,hg4n,hg6,hg6n];(repeat refine .intro (by omega) ?_);refine hK2 _ _ _ ?_;clear hK2 K2;simp only [List.drop_succ_cons,List.drop_zero];push_cast [hb3,hg4,hg4n,hg6,hg6n];(repeat refine .intro (by omega) ?_);refine ⟨rfl,hK _ ?_⟩;clear hK K;refine VC.lastF tabOkF [some 10,some 11,some 4] rfl rfl (fun K hK => ?_);push_cast [hb3,hg4,hg4n,hg6,hg6n];(repeat refine .intro (by omega) ?_);refine hK _ ?_;clear hK K;refine Exists.intro (((T_interp_frame.mk s_1.fn s_1.at_ y5 y7 s_1.stack s_1.over),(IntKind.i64.wrap (i_2 + 1)))) (And.intro (Option.some.inj h).symm ?_);refine slo ?_ ?_ rfl rfl
  ·push_cast [hb3,hy5,hy7]
  ·push_cast [hb3,hy5,hy7]
 ·have hb3 : (decide (i_2 ≤ 5)) = false := by simpa using hc3
  replace h := cond_no hb3 h;refine VC.exit ?_;replace h := congrArg some (hf2 _ (Option.some.inj h).symm);have hr := Option.some.inj h;subst hr;refine endP (Sub.lo _) (Post.nrm ?_ ?_ ?_)
  ·push_cast [hb3]
  ·push_cast [hb3]
  ·rfl
noncomputable def p_interp_frame_handed_L2 (a1 : Int) (s_1 : T_interp_frame) (s_2 : T_interp_run) (l_3 : (List UInt32)) (i_4 : Int) : Option ((T_interp_frame × T_interp_run × (List UInt32) × Int) ⊕ (T_interp_frame × T_interp_run × (List UInt32))) :=
  cond (decide (i_4 ≤ a1)) (
  po (p_interp_frame_get s_1 s_2 i_4) fun r4 =>
  pg ((l_3.length + 1) * 4 ≤ 140737488355328) <|
  pl (l_3 ++ ([r4.1])) fun y6 =>
  some (Sum.inl (r4.2.1, r4.2.2, y6, (IntKind.i64.wrap (i_4 + 1))))) (
  some (Sum.inr (s_1, s_2, l_3)))
noncomputable def p_interp_frame_handed_J1 (s_9 : T_interp_frame) (s_10 : T_interp_run) (l_11 : (List UInt32)) : Option ((List UInt32) × T_interp_frame × T_interp_run) :=
  some (l_11, s_9, s_10)
noncomputable def p_interp_frame_handed (a0 : T_interp_frame) (a0_r : T_interp_run) (a1 : Int) : Option ((List UInt32) × T_interp_frame × T_interp_run) :=
  po (
  lpU (fun x => p_interp_frame_handed_L2 a1 x.1 x.2.1 x.2.2.1 x.2.2.2) (a0, a0_r, [], 1)) (fun x => p_interp_frame_handed_J1 x.1 x.2.1 x.2.2)
theorem c_interp_frame_handed (a0 : T_interp_frame) (a0_r : T_interp_run) (a1 : Int) {r : (List UInt32) × T_interp_frame × T_interp_run} (h : p_interp_frame_handed a0 a0_r a1 = some r) : Ctr prog 106 [.ref 0 0, .raw (.int .i64 a1)] [(0, .box 124 (enc_interp_frame a0 (.ref 1 0))), (1, .box 109 (enc_interp_run a0_r))] (.row 2 0 1 0 r.1.length) [(0, .box 124 (enc_interp_frame r.2.1 (.ref 1 0))), (1, .box 109 (enc_interp_run r.2.2)), (2, .row 25 1 0 (r.1.map encU32))] := by
 unfold p_interp_frame_handed at h;refine Ctr.ofW tabOk func106 rfl call106 2 _ ntmps106 [.tmp 4] rfl rfl rfl (fun B => ?_);refine VC.seqF tabOkF [some 4] [0,1] rfl rfl (fun K hK => ?_);push_cast;(repeat refine .intro (by omega) ?_);refine hK _ ?_;clear hK K;refine VC.seqF tabOkF [some 5] [0,1,5] rfl rfl (fun K hK => ?_);push_cast;(repeat refine .intro (by omega) ?_);refine hK _ ?_;clear hK K;obtain ⟨v1,h,hk1⟩ := po_some h;refine VC.seqJ (X := T_interp_frame × T_interp_run × (List UInt32)) (fun x => p_interp_frame_handed_J1 x.1 x.2.1 x.2.2 = some r) (fun x => ⟨[(5,.row 13 0 1 0 x.2.2.length)],[(0,.box 124 (enc_interp_frame x.1 (.ref 1 0))),(1,.box 109 [.sl false (x.2.1.p.Fns.map enc_Fn),.raw (.int .u32 (x.2.1.e.Ctx.a0.toNat : Int)),.raw (.int .u32 (x.2.1.e.Ctx.a1.toNat : Int)),.raw (.int .u32 (x.2.1.e.Ctx.a2.toNat : Int)),.raw (.int .u32 (x.2.1.e.Ctx.a3.toNat : Int)),.sl false (x.2.1.e.T.map enc_Table),.raw (.int .u32 (x.2.1.e.Seed.toNat : Int)),.raw (.int .i64 x.2.1.fuel),.raw (.int .i64 x.2.1.used),.raw (.int .i64 x.2.1.err)]),(13,.row 25 1 0 (x.2.2.map encU32))],21,19,2⟩) ?_ ?_
 ·refine VC.seqF tabOkF [some 6] [0,1,5,6] rfl rfl (fun K hK => ?_);push_cast;(repeat refine .intro (by omega) ?_);refine hK _ ?_;clear hK K;refine VC.block ?_;refine VC.loopP h (fun x => ⟨[(0,.ref 0 0),(1,.raw (.int .i64 a1)),(5,.row 13 0 1 0 x.2.2.1.length),(6,.raw (.int .i64 x.2.2.2))],[(0,.box 124 (enc_interp_frame x.1 (.ref 1 0))),(1,.box 109 [.sl false (x.2.1.p.Fns.map enc_Fn),.raw (.int .u32 (x.2.1.e.Ctx.a0.toNat : Int)),.raw (.int .u32 (x.2.1.e.Ctx.a1.toNat : Int)),.raw (.int .u32 (x.2.1.e.Ctx.a2.toNat : Int)),.raw (.int .u32 (x.2.1.e.Ctx.a3.toNat : Int)),.sl false (x.2.1.e.T.map enc_Table),.raw (.int .u32 (x.2.1.e.Seed.toNat : Int)),.raw (.int .i64 x.2.1.fuel),.raw (.int .i64 x.2.1.used),.raw (.int .i64 x.2.1.err)]),(13,.row 25 1 0 (x.2.2.1.map encU32))],18,19,2⟩) ?_ ?_
  ·refine Sub.trans (Sub.of (s' := ⟨[(0,.ref 0 0),(1,.raw (.int .i64 a1)),(5,.sl true []),(6,.raw (.int .i64 1))],[(0,.box 124 (enc_interp_frame a0 (.ref 1 0))),(1,.box 109 [.sl false (a0_r.p.Fns.map enc_Fn),.raw (.int .u32 (a0_r.e.Ctx.a0.toNat : Int)),.raw (.int .u32 (a0_r.e.Ctx.a1.toNat : Int)),.raw (.int .u32 (a0_r.e.Ctx.a2.toNat : Int)),.raw (.int .u32 (a0_r.e.Ctx.a3.toNat : Int)),.sl false (a0_r.e.T.map enc_Table),.raw (.int .u32 (a0_r.e.Seed.toNat : Int)),.raw (.int .i64 a0_r.fuel),.raw (.int .i64 a0_r.used),.raw (.int .i64 a0_r.err)])],5,19,2⟩) (by push_cast) (by push_cast) ⟨rfl,rfl,Nat.le_of_ble_eq_true rfl⟩ rfl) ?_;refine Sub.trans (Sub.adoptT (k := 5) (e := 25) (sz := 1) rfl) ?_;refine Sub.trans (Sub.renT (k := 5) (i' := 13) rfl rfl (Nat.le_of_ble_eq_true rfl) (Nat.le_of_ble_eq_true rfl) rfl) ?_;refine slo ?_ ?_ rfl rfl
   ·push_cast
   ·push_cast
  rintro ⟨s_1,s_2,l_3,i_4⟩ b2 h hf2;replace h : p_interp_frame_handed_L2 a1 s_1 s_2 l_3 i_4 = some b2 := h;(try push_cast);unfold p_interp_frame_handed_L2 at h;refine VC.seq ?_;refine VC.seqF tabOkF [some 7,some 8,some 9] [0,1,5,6,9] rfl rfl (fun K hK => ?_);push_cast;(repeat refine .intro (by omega) ?_);refine hK _ ?_;clear hK K;refine VC.cond rfl rfl (fun hc3 => ?_) (fun hc3 => ?_)
  ·have hb3 : (decide (i_4 ≤ a1)) = true := by simpa using hc3
   replace h := cond_yes hb3 h;refine VC.skip ?_;refine VC.seq ?_;refine VC.block ?_;obtain ⟨r4,hr4,h⟩ := po_some h;obtain ⟨hg5,h⟩ := pg_some h;obtain ⟨y6,hy6,h⟩ := pl_some h;refine VC.lastF tabOkF [some 12,some 13,some 14,some 15,some 16,some 17,some 5] rfl rfl (fun K hK => ?_);push_cast [hb3,hg5];(repeat refine .intro (by omega) ?_);refine callH (H := [(0,.box 124 (enc_interp_frame s_1 (.ref 1 0))),(1,.box 109 [.sl false (s_2.p.Fns.map enc_Fn),.raw (.int .u32 (s_2.e.Ctx.a0.toNat : Int)),.raw (.int .u32 (s_2.e.Ctx.a1.toNat : Int)),.raw (.int .u32 (s_2.e.Ctx.a2.toNat : Int)),.raw (.int .u32 (s_2.e.Ctx.a3.toNat : Int)),.sl false (s_2.e.T.map enc_Table),.raw (.int .u32 (s_2.e.Seed.toNat : Int)),.raw (.int .i64 s_2.fuel),.raw (.int .i64 s_2.used),.raw (.int .i64 s_2.err)])]) (Ctr.loH (Ctr.ren Bij.id (c_interp_frame_get s_1 s_2 i_4 hr4) (by push_cast [hb3,hg5]) (by push_cast [hb3,hg5]))) (by push_cast [hb3,hg5]) rfl rfl rfl ?_;push_cast [hb3,hg5];(repeat refine .intro (by omega) ?_);refine hK _ ?_;clear hK K;refine VC.lastF tabOkF [some 10,some 11,some 6] rfl rfl (fun K hK => ?_);push_cast [hb3,hg5];(repeat refine .intro (by omega) ?_);refine hK _ ?_;clear hK K;refine Exists.intro ((r4.2.1,r4.2.2,y6,(IntKind.i64.wrap (i_4 + 1)))) (And.intro (Option.some.inj h).symm ?_);refine Sub.trans (Sub.of (s' := ⟨[(0,.ref 0 0),(1,.raw (.int .i64 a1)),(5,.row 13 1 1 0 y6.length),(6,.raw (.int .i64 (IntKind.i64.wrap (i_4 + 1))))],[(0,.box 124 (enc_interp_frame r4.2.1 (.ref 1 0))),(1,.box 109 [.sl false (r4.2.2.p.Fns.map enc_Fn),.raw (.int .u32 (r4.2.2.e.Ctx.a0.toNat : Int)),.raw (.int .u32 (r4.2.2.e.Ctx.a1.toNat : Int)),.raw (.int .u32 (r4.2.2.e.Ctx.a2.toNat : Int)),.raw (.int .u32 (r4.2.2.e.Ctx.a3.toNat : Int)),.sl false (r4.2.2.e.T.map enc_Table),.raw (.int .u32 (r4.2.2.e.Seed.toNat : Int)),.raw (.int .i64 r4.2.2.fuel),.raw (.int .i64 r4.2.2.used),.raw (.int .i64 r4.2.2.err)]),(13,.row 25 1 1 (y6.map encU32))],31,19,2⟩) (by push_cast [hb3,hy6]) (by push_cast [hb3,hy6]) ⟨rfl,rfl,Nat.le_of_ble_eq_true rfl⟩ rfl) ?_;refine Sub.trans (Sub.renT (k := 5) (i' := 13) rfl rfl (Nat.le_of_ble_eq_true rfl) (Nat.le_of_ble_eq_true rfl) rfl) ?_;refine slo ?_ ?_ rfl rfl
   ·push_cast [hb3,hy6]
   ·push_cast [hb3,hy6]
  ·have hb3 : (decide (i_4 ≤ a1)) = false := by simpa using hc3
   replace h := cond_no hb3 h;refine VC.exit ?_;replace h := congrArg some (hf2 _ (Option.some.inj h).symm);have hv := Option.some.inj h;rw [← hv] at hk1;refine Exists.intro ((s_1,s_2,l_3)) (And.intro hk1 ?_);refine slo ?_ ?_ rfl rfl
   ·push_cast [hb3]
   ·push_cast [hb3]
 ·rintro ⟨s_9,s_10,l_11⟩ h;replace h : p_interp_frame_handed_J1 s_9 s_10 l_11 = some r := h;(try push_cast);unfold p_interp_frame_handed_J1 at h;refine VC.seqF tabOkF [some 18,some 4] [4] rfl rfl (fun K hK => ?_);push_cast;(repeat refine .intro (by omega) ?_);refine hK _ ?_;clear hK K;refine VC.ret ?_;have hr := Option.some.inj h;subst hr;refine endS (Sub.of (s' := ⟨[(4,.row 13 0 1 0 l_11.length)],[(0,.box 124 (enc_interp_frame s_9 (.ref 1 0))),(1,.box 109 [.sl false (s_10.p.Fns.map enc_Fn),.raw (.int .u32 (s_10.e.Ctx.a0.toNat : Int)),.raw (.int .u32 (s_10.e.Ctx.a1.toNat : Int)),.raw (.int .u32 (s_10.e.Ctx.a2.toNat : Int)),.raw (.int .u32 (s_10.e.Ctx.a3.toNat : Int)),.sl false (s_10.e.T.map enc_Table),.raw (.int .u32 (s_10.e.Seed.toNat : Int)),.raw (.int .i64 s_10.fuel),.raw (.int .i64 s_10.used),.raw (.int .i64 s_10.err)]),(13,.row 25 1 0 (l_11.map encU32))],23,19,2⟩) (by push_cast) (by push_cast) ⟨rfl,rfl,Nat.le_of_ble_eq_true rfl⟩ rfl) ?_;refine endS (Sub.renT (k := 4) (i' := 2) rfl rfl (Nat.le_of_ble_eq_true rfl) (Nat.le_of_ble_eq_true rfl) rfl) ?_;refine endP (Sub.lo _) (Post.ret ?_ ?_ ?_)
  ·push_cast
  ·push_cast
  ·rfl
end Go.Proofs.Ytkhanhhingicpaa
