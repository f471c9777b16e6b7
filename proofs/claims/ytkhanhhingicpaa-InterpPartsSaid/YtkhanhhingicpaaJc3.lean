/- Packed texts: Zdrydockref07Same, I5. -/
import Derived.Test.YtkhanhhingicpaaJc2
set_option linter.unusedVariables false
set_option linter.unusedSimpArgs false
set_option maxHeartbeats 4000000
set_option maxRecDepth 100000
namespace Go.Proofs.Ytkhanhhingicpaa
open Go Go.RowKit Go.Proofs.Try
noncomputable def p_drydockref07_Same_J2 (i_1 : Bool) : Option (Bool) :=
  some i_1
noncomputable def p_drydockref07_Same (a0 : T_Ran) (a1 : T_Ran) : Option (Bool) :=
  po (p_drydockref06_Same a0.E a1.E) fun r1 =>
  po (
  cond r1 (
  cond ((a0.Ret.toNat : Int) == (a1.Ret.toNat : Int)) (
  cond (a0.Used == a1.Used) (
  some (a0.Err == a1.Err)) (
  some false)) (
  some false)) (
  some false)) (fun x => p_drydockref07_Same_J2 x)
theorem c_drydockref07_Same (a0 : T_Ran) (a1 : T_Ran) {r : Bool} (h : p_drydockref07_Same a0 a1 = some r) : Ctr prog 47 [.agg (enc_Ran a0), .agg (enc_Ran a1)] [] (.raw (.bool r)) [] := by
 unfold p_drydockref07_Same at h;refine Ctr.ofW tabOk func47 rfl call47 0 _ ntmps47 [.tmp 4] rfl rfl rfl (fun B => ?_);refine VC.seqF tabOkF [some 2,some 3,some 4] [2,3] rfl rfl (fun K hK => ?_);push_cast;(repeat refine .intro (by omega) ?_);refine hK _ ?_;clear hK K;obtain ⟨r1,hr1,h⟩ := po_some h;refine VC.seqF tabOkF [some 6,some 7,some 8,some 9,some 10,some 5] [2,3,5] rfl rfl (fun K hK => ?_);push_cast;(repeat refine .intro (by omega) ?_);refine callP (Ctr.lo (c_drydockref06_Same a0.E a1.E hr1)) rfl ?_;push_cast;(repeat refine .intro (by omega) ?_);refine hK _ ?_;clear hK K;obtain ⟨v2,h,hk2⟩ := po_some h;refine VC.seqJ (X := Bool) (fun x => p_drydockref07_Same_J2 x = some r) (fun x => ⟨[(4,.raw (.bool x))],[],32,33,0⟩) ?_ ?_
 ·rcases Bool.eq_false_or_eq_true r1 with hb3 | hb3
  ·replace h := cond_yes hb3 h;rcases Bool.eq_false_or_eq_true ((a0.Ret.toNat : Int) == (a1.Ret.toNat : Int)) with hb4 | hb4
   ·replace h := cond_yes hb4 h;rcases Bool.eq_false_or_eq_true (a0.Used == a1.Used) with hb5 | hb5
    ·replace h := cond_yes hb5 h;refine VC.lastF tabOkF [some 11,some 12,some 13,some 14,some 15,some 16,some 17,some 18,some 19,some 20,some 21,some 22,some 23,some 24,some 25,some 26,some 27,some 28,some 29,some 30,some 31,some 32,some 4] rfl rfl (fun K hK => ?_);refine runOps_cut 8 (fun K2 hK2 => ?_);push_cast [hb3,hb4,hb5];(repeat refine .intro (by omega) ?_);refine hK2 _ _ ?_;clear hK2 K2;simp only [List.drop_succ_cons,List.drop_zero];refine runOps_cut 8 (fun K2 hK2 => ?_);push_cast [hb3,hb4,hb5];(repeat refine .intro (by omega) ?_);refine hK2 _ _ ?_;clear hK2 K2;simp only [List.drop_succ_cons,List.drop_zero];push_cast [hb3,hb4,hb5];(repeat refine .intro (by omega) ?_);refine hK _ ?_;clear hK K;have hv := Option.some.inj h;rw [← hv] at hk2;refine Exists.intro ((a0.Err == a1.Err)) (And.intro hk2 ?_);refine slo ?_ ?_ rfl rfl
     ·push_cast [hb3,hb4,hb5]
     ·push_cast [hb3,hb4,hb5]
    ·replace h := cond_no hb5 h;refine VC.lastF tabOkF [some 11,some 12,some 13,some 14,some 15,some 16,some 17,some 18,some 19,some 20,some 21,some 22,some 23,some 24,some 25,some 26,some 27,some 28,some 29,some 30,some 31,some 32,some 4] rfl rfl (fun K hK => ?_);refine runOps_cut 8 (fun K2 hK2 => ?_);push_cast [hb3,hb4,hb5];(repeat refine .intro (by omega) ?_);refine hK2 _ _ ?_;clear hK2 K2;simp only [List.drop_succ_cons,List.drop_zero];refine runOps_cut 8 (fun K2 hK2 => ?_);push_cast [hb3,hb4,hb5];(repeat refine .intro (by omega) ?_);refine hK2 _ _ ?_;clear hK2 K2;simp only [List.drop_succ_cons,List.drop_zero];push_cast [hb3,hb4,hb5];(repeat refine .intro (by omega) ?_);refine hK _ ?_;clear hK K;have hv := Option.some.inj h;rw [← hv] at hk2;refine Exists.intro (false) (And.intro hk2 ?_);refine slo ?_ ?_ rfl rfl
     ·push_cast [hb3,hb4,hb5]
     ·push_cast [hb3,hb4,hb5]
   ·replace h := cond_no hb4 h;refine VC.lastF tabOkF [some 11,some 12,some 13,some 14,some 15,some 16,some 17,some 18,some 19,some 20,some 21,some 22,some 23,some 24,some 25,some 26,some 27,some 28,some 29,some 30,some 31,some 32,some 4] rfl rfl (fun K hK => ?_);refine runOps_cut 8 (fun K2 hK2 => ?_);push_cast [hb3,hb4];(repeat refine .intro (by omega) ?_);refine hK2 _ _ ?_;clear hK2 K2;simp only [List.drop_succ_cons,List.drop_zero];refine runOps_cut 8 (fun K2 hK2 => ?_);push_cast [hb3,hb4];(repeat refine .intro (by omega) ?_);refine hK2 _ _ ?_;clear hK2 K2;simp only [List.drop_succ_cons,List.drop_zero];push_cast [hb3,hb4];(repeat refine .intro (by omega) ?_);refine hK _ ?_;clear hK K;have hv := Option.some.inj h;rw [← hv] at hk2;refine Exists.intro (false) (And.intro hk2 ?_);refine slo ?_ ?_ rfl rfl
    ·push_cast [hb3,hb4]
    ·push_cast [hb3,hb4]
  ·replace h := cond_no hb3 h;refine VC.lastF tabOkF [some 11,some 12,some 13,some 14,some 15,some 16,some 17,some 18,some 19,some 20,some 21,some 22,some 23,some 24,some 25,some 26,some 27,some 28,some 29,some 30,some 31,some 32,some 4] rfl rfl (fun K hK => ?_);refine runOps_cut 8 (fun K2 hK2 => ?_);push_cast [hb3];(repeat refine .intro (by omega) ?_);refine hK2 _ _ ?_;clear hK2 K2;simp only [List.drop_succ_cons,List.drop_zero];refine runOps_cut 8 (fun K2 hK2 => ?_);push_cast [hb3];(repeat refine .intro (by omega) ?_);refine hK2 _ _ ?_;clear hK2 K2;simp only [List.drop_succ_cons,List.drop_zero];push_cast [hb3];(repeat refine .intro (by omega) ?_);refine hK _ ?_;clear hK K;have hv := Option.some.inj h;rw [← hv] at hk2;refine Exists.intro (false) (And.intro hk2 ?_);refine slo ?_ ?_ rfl rfl
   ·push_cast [hb3]
   ·push_cast [hb3]
 ·rintro i_1 h;replace h : p_drydockref07_Same_J2 i_1 = some r := h;(try push_cast);unfold p_drydockref07_Same_J2 at h;refine VC.ret ?_;have hr := Option.some.inj h;subst hr;refine endP (Sub.lo _) (Post.ret ?_ ?_ ?_)
  ·push_cast
  ·push_cast
  ·rfl
/-! ### Few -/
structure FewP (p : T_Prog) : Prop where
  len : p.Fns.length ≤ 12
  code : ∀ f ∈ p.Fns, f.Code.length ≤ 80
theorem few03 (p : T_Prog) : ∃ b, p_drydockref03_Few p = some b ∧ (b = true → p.Fns.length ≤ 12) := by
  obtain ⟨r, h1, h2⟩ := lp_inv (step := fun x => p_drydockref03_Few_L2 p x.1 x.2) (fun s => (s.1 = true → p.Fns.length ≤ 12) ∧ ∃ n : Nat, s.2 = (n : Int) ∧ n ≤ p.Fns.length) (fun s => ((p.Fns.length : Int) - s.2).toNat) (fun r => r = true → p.Fns.length ≤ 12) (by
    rintro ⟨b, i⟩ ⟨h1, n, h2, h3⟩
    simp only at h1 h2
    subst h2
    simp only [p_drydockref03_Few_L2]
    by_cases hlt : n < p.Fns.length
    · have hd : decide ((n : Int) < (p.Fns.length : Int)) = true := by simp; omega
      rw [hd]
      cases b with
      | true =>
        left
        have hn := h1 rfl
        simp only [cond_true, po_of, p_drydockref03_Few_J3, idx_nat, List.getElem?_eq_getElem hlt, w64 (show n < 9223372036854775807 by omega)]
        exact ⟨_, rfl, ⟨fun _ => hn, n + 1, rfl, by omega⟩, by simp only; omega⟩
      | false =>
        right
        exact ⟨false, rfl, fun h => by cases h⟩
    · have hd : decide ((n : Int) < (p.Fns.length : Int)) = false := by simp; omega
      rw [hd]
      right
      exact ⟨b, rfl, h1⟩) (decide ((p.Fns.length : Int) ≤ 12), 0) ⟨fun h => by simp at h; omega, 0, rfl, Nat.zero_le _⟩
  exact ⟨r, by simp only [p_drydockref03_Few, h1, po_of, p_drydockref03_Few_J1], h2⟩
theorem few7 (p : T_Prog) (e : T_Env) : ∃ b, p_drydocklaw07_few p e = some b ∧ (b = true → FewL e.T) := by
  obtain ⟨b, h1, _⟩ := few03 p
  obtain ⟨c, h3, h4⟩ := few_tells e.T
  unfold p_drydocklaw07_few
  rw [h1]
  cases b with
  | true => exact ⟨c, by simp only [po_of, cond_true, h3, p_drydocklaw07_few_J1], h4⟩
  | false => exact ⟨false, rfl, fun h => by cases h⟩
theorem same7 {a : T_Ran} (h : a.E.T.length ≤ 1048576) : p_drydockref07_Same a a = some true := by
  unfold p_drydockref07_Same
  rw [env_refl h]
  simp only [po_of, cond_true, beq_self_eq_true, p_drydockref07_Same_J2]
/-! ### A program that is run -/
theorem callI_own {p : T_Prog} {fn : Int} {e : T_Env} {fu : Int} {a : List UInt32} (hF : Fits e.T) : p_interp_Call p fn e fu a = p_interp_Call_J2 p fn fu a e := by
  have h := own_is hF
  unfold p_helper_own at h
  unfold p_interp_Call
  obtain ⟨r1, h1, h2⟩ := po_some h
  obtain ⟨v, h3, h4⟩ := po_some h2
  have h5 : v = e := Option.some.inj h4
  subst h5
  rw [h1]
  have e9 : p_interp_Call_L9 = p_helper_own_L9 := rfl
  have e3 : p_interp_Call_L3 = p_helper_own_L3 := rfl
  simp only [po_of, e3, h3]
def ranOf (v : UInt32) (r : Rn) : T_Ran := ⟨if r.err = 0 then v else 0, r.e, r.used, r.err⟩
theorem callI {p : T_Prog} {b : Bool} (hb : p_prog_May p = some b) {fn : Int} {e : T_Env} {fu : Int} {a : List UInt32} (hF : Fits e.T) :
    p_interp_Call p fn e fu a = if b = true ∧ 0 ≤ fu ∧ fu ≤ 100000 then
      (match idx p.Fns fn with
        | none => some ⟨0, e, 0, 3⟩
        | some f => if (a.length : Int) = f.Args then po (p_interp_run_frame 9 ⟨p, e, fu, 0, 0⟩ fn a) (fun q => some (ranOf q.1 q.2)) else some ⟨0, e, 0, 3⟩)
      else some ⟨0, e, 0, 1⟩ := by
  rw [callI_own hF]
  unfold p_interp_Call_J2
  rw [hb]
  have bad : p_interp_Call_J16 p fn fu a e true = some ⟨0, e, 0, 1⟩ := rfl
  cases b with
  | false =>
    rw [if_neg (fun q => by cases q.1)]
    exact bad
  | true =>
    simp only [po_of, Bool.not_true, cond_false]
    by_cases h1 : fu < 0
    · rw [if_neg (fun q => by omega), decide_eq_true h1]
      exact bad
    · rw [decide_eq_false h1]
      by_cases h2 : fu > 100000
      · rw [if_neg (fun q => by omega), decide_eq_true h2]
        exact bad
      · rw [if_pos ⟨trivial, by omega, by omega⟩, decide_eq_false h2]
        simp only [cond_false, po_of, p_interp_Call_J16]
        have none_ : p_interp_Call_J21 p fn fu a e true = some ⟨0, e, 0, 3⟩ := rfl
        by_cases h3 : fn < 0
        · have : idx p.Fns fn = none := by unfold idx; rw [if_neg (by omega)]
          rw [this, decide_eq_true h3]
          exact none_
        · rw [decide_eq_false h3]
          by_cases h4 : fn ≥ (p.Fns.length : Int)
          · have : idx p.Fns fn = none := by unfold idx; rw [if_pos (by omega), List.getElem?_eq_none (by omega)]
            rw [this, decide_eq_true h4]
            exact none_
          · rw [decide_eq_false h4]
            obtain ⟨f, hf⟩ : ∃ f, idx p.Fns fn = some f := ⟨_, idx_of (by omega) (List.getElem?_eq_getElem (show fn.toNat < p.Fns.length by omega))⟩
            rw [hf]
            simp only [cond_false, po_of]
            by_cases h5 : (a.length : Int) = f.Args
            · have d : ((a.length : Int) != f.Args) = false := by simpa using h5
              rw [d, if_pos h5]
              simp only [p_interp_Call_J21, cond_false]
              congr 1
              funext q
              by_cases h6 : q.2.err = 0
              · have d6 : (q.2.err != 0) = false := by simpa using h6
                rw [d6]
                unfold ranOf
                rw [if_pos h6]
                rfl
              · have d6 : (q.2.err != 0) = true := by simpa using h6
                rw [d6]
                unfold ranOf
                rw [if_neg h6]
                rfl
            · have d : ((a.length : Int) != f.Args) = true := by simpa using h5
              rw [d, if_neg h5]
              exact none_
theorem runI {p : T_Prog} {b : Bool} (hb : p_prog_May p = some b) (hbp : b = true → ProgOk p) {e : T_Env} {fu : Int} (hF : Fits e.T) :
    p_interp_Run p e fu = if b = true ∧ 0 ≤ fu ∧ fu ≤ 100000 then po (p_interp_run_frame 9 ⟨p, e, fu, 0, 0⟩ 0 []) (fun q => some (ranOf q.1 q.2)) else some ⟨0, e, 0, 1⟩ := by
  have e1 : p_interp_Run p e fu = p_interp_Call p 0 e fu [] := by
    unfold p_interp_Run
    cases p_interp_Call p 0 e fu [] <;> rfl
  rw [e1, callI hb hF]
  by_cases h : b = true ∧ 0 ≤ fu ∧ fu ≤ 100000
  · rw [if_pos h, if_pos h]
    have hp := hbp h.1
    obtain ⟨f, hf⟩ : ∃ f, p.Fns[0]? = some f := ⟨_, List.getElem?_eq_getElem hp.len.1⟩
    have hi : idx p.Fns 0 = some f := idx_of (Int.le_refl 0) hf
    rw [hi]
    simp only
    rw [if_pos (show (([] : List UInt32).length : Int) = f.Args by rw [hp.main f hf]; rfl)]
  · rw [if_neg h, if_neg h]
theorem preI {p : T_Prog} (hp : ProgOk p) {e : T_Env} (hF : Fits e.T) {fu : Int} (hf : 0 ≤ fu ∧ fu ≤ 100000) {fn : Int} (hfn : 0 ≤ fn ∧ fn < (p.Fns.length : Int)) {a : List UInt32} (ha : a.length ≤ 7) : FnPre p ⟨p, e, fu, 0, 0⟩ fn a :=
  ⟨rfl, ⟨Int.le_refl _, hf.1⟩, by show fu ≤ 1000000; omega, hF, rfl, hfn, ha⟩
theorem lenI {p : T_Prog} (hp : ProgOk p) : (p.Fns.length : Int) - 0 ≤ ((9 : Nat) : Int) := by have := hp.len; omega
/-! ### The chapter's example -/
theorem awake7 : p_drydocklaw07_awake = some true := by
  have hF : Fits (T_Env.mk (A4.mk 0 0 0 0) [] 0).T := ⟨by show (0 : Nat) ≤ 1048576; decide, fun t ht => (by cases ht), fun t ht => (by cases ht)⟩
  obtain ⟨i0, hi0⟩ : ∃ i, i = T_Inst.mk 0 0 0 0 false 0 5 := ⟨_, rfl⟩
  obtain ⟨i1, hi1⟩ : ∃ i, i = T_Inst.mk 7 0 0 0 false 0 0 := ⟨_, rfl⟩
  have hA : p_slices_IndexFunc_api_Inst_api_Inst_prog_fine_1 [i0, i1] = some (-1) := by
    unfold p_slices_IndexFunc_api_Inst_api_Inst_prog_fine_1
    subst hi0
    subst hi1
    rw [lpU_inl (s' := (1 : Int)) rfl, lpU_inl (s' := (2 : Int)) rfl, lpU_inr (r := (Sum.inl () : Unit ⊕ Int)) rfl]
    rfl
  have hB : p_prog_fine ⟨0, [i0, i1]⟩ = some true := by
    unfold p_prog_fine
    simp only [p_slices_ContainsFunc_api_Inst_api_Inst_prog_fine_1, hA, po_of]
    rfl
  have hC : p_slices_IndexFunc_api_Fn_api_Fn_prog_May_1 [⟨0, [i0, i1]⟩] = some (-1) := by
    unfold p_slices_IndexFunc_api_Fn_api_Fn_prog_May_1
    rw [lpU_inl (s' := (1 : Int)) (by
      simp only [p_slices_IndexFunc_api_Fn_api_Fn_prog_May_1_L2]
      rw [show idx [(⟨0, [i0, i1]⟩ : T_Fn)] 0 = some ⟨0, [i0, i1]⟩ from rfl]
      simp only [po_of, p_prog_May_1, hB]
      rfl), lpU_inr (r := (Sum.inl () : Unit ⊕ Int)) rfl]
    rfl
  have hD : p_prog_May ⟨[⟨0, [i0, i1]⟩]⟩ = some true := by
    unfold p_prog_May
    simp only [po_of, p_prog_May_J1, p_slices_ContainsFunc_api_Fn_api_Fn_prog_May_1, hC]
    rfl
  have hp : ProgOk ⟨[⟨0, [i0, i1]⟩]⟩ := by
    obtain ⟨b, h1, h2⟩ := progMay_tells ⟨[⟨0, [i0, i1]⟩]⟩
    rw [hD] at h1
    injection h1 with h1
    exact h2 h1.symm
  obtain ⟨e, he⟩ : ∃ e, e = T_Env.mk (A4.mk 0 0 0 0) [] 0 := ⟨_, rfl⟩
  rw [← he] at hF
  obtain ⟨p, hpp⟩ : ∃ p, p = T_Prog.mk [⟨0, [i0, i1]⟩] := ⟨_, rfl⟩
  obtain ⟨f1, hf1⟩ : ∃ f, f = T_interp_frame.mk 0 1 ⟨5, 0, 0, 0, 0, 0, 0, 0⟩ ⟨true, false, false, false, false, false, false, false⟩ ⟨0, 0, 0, 0, 0, 0, 0, 0, 0, 0, 0, 0, 0, 0, 0, 0⟩ false := ⟨_, rfl⟩
  have s1 : ∀ (pf : PF) (fu : Int), 0 < fu → fu ≤ 1000000 → stepR pf ⟨0, [i0, i1]⟩ (⟨p, e, fu, 0, 0⟩, newF 0) = some (.inl (⟨p, e, fu, 1, 0⟩, f1)) := fun pf fu h1 h2 => by
    have hI : InstOk i0 := by subst hi0; exact ⟨by decide, by decide, by decide, by decide, by decide, by decide⟩
    rw [step_op (i := i0) rfl ⟨Int.le_refl 0, h1⟩ h2 (by decide) rfl hI hF (by subst hi0; decide)]
    subst hi0
    subst hf1
    rfl
  have s2 : ∀ (pf : PF), stepR pf ⟨0, [i0, i1]⟩ (⟨p, e, 9, 1, 0⟩, f1) = some (.inl (⟨p, e, 9, 2, 0⟩, ⟨0, 2, f1.regs, f1.set, f1.stack, true⟩)) := fun pf => by
    have hI : InstOk i1 := by subst hi1; exact ⟨by decide, by decide, by decide, by decide, by decide, by decide⟩
    rw [step_op (i := i1) (by subst hf1; rfl) (by decide) (by decide) (by subst hf1; decide) (by subst hf1; rfl) hI hF (by subst hi1; decide)]
    subst hi1
    subst hf1
    rfl
  have fi : ∀ fu : Int, 0 < fu → fu ≤ 100000 → p_interp_run_frame 9 ⟨p, e, fu, 0, 0⟩ 0 [] = po (lpU (stepR (p_interp_run_frame 8) ⟨0, [i0, i1]⟩) (⟨p, e, fu, 1, 0⟩, f1)) (fun q => some (q.2.regs.a0, q.1)) := fun fu h1 h2 => by
    show p_interp_run_frame_S (p_interp_run_frame 8) _ _ _ = _
    rw [frame_is (x := ⟨0, [i0, i1]⟩) (by decide) (Int.le_refl 0) (by subst hpp; rfl)]
    show po (lpU _ (_, newF 0)) _ = _
    rw [lpU_inl (s1 _ fu h1 (by omega))]
  have r1 : p_interp_Run p e 9 = some ⟨5, e, 2, 0⟩ := by
    rw [runI (b := true) (by rw [hpp]; exact hD) (fun _ => by rw [hpp]; exact hp) hF, if_pos ⟨rfl, by decide, by decide⟩, fi 9 (by decide) (by decide), lpU_inl (s2 _), lpU_inr (step_end (.inr rfl))]
    subst hf1
    rfl
  have r2 : p_interp_Run p e 1 = some ⟨0, e, 1, 2⟩ := by
    rw [runI (b := true) (by rw [hpp]; exact hD) (fun _ => by rw [hpp]; exact hp) hF, if_pos ⟨rfl, by decide, by decide⟩, fi 1 (by decide) (by decide), lpU_inl (step_long (by subst hf1; rfl)), lpU_inr (step_end (.inl (by show (2 : Int) ≠ 0; decide)))]
    rfl
  unfold p_drydocklaw07_awake
  rw [← hi0, ← hi1, ← he, ← hpp, r1, r2]
  rfl
end Go.Proofs.Ytkhanhhingicpaa
