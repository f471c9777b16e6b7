/- Packed texts: Hs, Hq0, Gets, Ht, Dh0, Zdrydockref01Words, Zdrydockref05At. -/
import Derived.Test.YtpmnchgpbojppaaB5
/- What a helper's call tells, plainly. -/
set_option linter.unusedVariables false
set_option linter.unusedSimpArgs false
namespace Go.Proofs.Ytpmnchgpbojppaa
open Go Go.RowKit Go.Proofs.Try

def argsN (n : Int) : Int := if n = 0 then 3 else if n = 1 then 4 else if n = 2 then 2 else if n = 3 then 2 else if n = 4 then 0 else if n = 5 then 2 else -1
theorem args_is (n : Int) : p_helper_Args n = some (argsN n) := by
  unfold p_helper_Args argsN
  by_cases h0 : n = 0
  · subst h0; rfl
  by_cases h1 : n = 1
  · subst h1; rfl
  by_cases h2 : n = 2
  · subst h2; rfl
  by_cases h3 : n = 3
  · subst h3; rfl
  by_cases h4 : n = 4
  · subst h4; rfl
  by_cases h5 : n = 5
  · subst h5; rfl
  have ne : ∀ k : Int, ¬ n = k → (n == k) = false := fun k h => by simpa using h
  simp only [ne _ h0, ne _ h1, ne _ h2, ne _ h3, ne _ h4, ne _ h5, if_neg h0, if_neg h1, if_neg h2, if_neg h3, if_neg h4, if_neg h5, cond_false, po_of, p_helper_Args_J1]
theorem in_is (a b c : Int) : p_schema_in a b c = some (inB a b c) := by
  unfold p_schema_in inB
  by_cases h : b ≤ a
  · simp [h, p_schema_in_J1]
  · simp [h, p_schema_in_J1]
theorem smay_is (s : T_Schema) : p_schema_May s = some (toS s).may := by
  unfold p_schema_May
  have key : ∀ w : Int, p_schema_May_J1 s w = some (inB s.Kind 0 3 && inB s.Cap 1 16 && inB s.Words 1 w && inB s.Ver 0 1000) := fun w => by
    simp only [p_schema_May_J1, in_is, po_of, p_schema_May_J3]
    cases inB s.Kind 0 3 <;> cases inB s.Cap 1 16 <;> cases inB s.Words 1 w <;> rfl
  by_cases h : s.Kind = 3
  · have hb : (s.Kind == 3) = true := by simpa using h
    simp only [hb, cond_true, po_of, key]
    simp [Sch.may, toS, h]
  · have hb : (s.Kind == 3) = false := by simpa using h
    simp only [hb, cond_false, po_of, key]
    simp [Sch.may, toS, h]
def fitsN (n : Int) (s : Sch) : Bool := s.may && (if n = 5 then decide (s.kind = 3) else decide (0 ≤ n ∧ n ≤ 3) && !decide (s.kind = 3))
theorem fits_is (n : Int) (s : T_Schema) : p_helper_Fits n s = some (fitsN n (toS s)) := by
  unfold p_helper_Fits fitsN
  have hk : (s.Kind == 3) = decide ((toS s).kind = 3) := by
    rw [Bool.eq_iff_iff, beq_iff_eq, decide_eq_true_iff]
    exact Iff.rfl
  have hk2 : (s.Kind != 3) = !decide ((toS s).kind = 3) := by rw [bne, hk]
  by_cases h5 : n = 5
  · subst h5
    simp only [smay_is, po_of, hk]
    cases (toS s).may <;> simp [p_helper_Fits_J2]
  · have hb5 : (n == 5) = false := by simpa using h5
    have fin : ∀ b, p_helper_Fits_J5 s b = some (b && (toS s).may && !decide ((toS s).kind = 3)) := fun b => by
      cases b with
      | false => rfl
      | true =>
        simp only [p_helper_Fits_J5, cond_true, smay_is, po_of, hk2]
        cases (toS s).may <;> simp [p_helper_Fits_J10]
    simp only [hb5, cond_false, if_neg h5]
    by_cases h0 : n = 0
    · subst h0
      simp [fin, Bool.and_comm]
    by_cases h1 : n = 1
    · subst h1
      simp [fin, Bool.and_comm]
    by_cases h2 : n = 2
    · subst h2
      simp [fin, Bool.and_comm]
    by_cases h3 : n = 3
    · subst h3
      simp [fin, Bool.and_comm]
    have hr : decide (0 ≤ n ∧ n ≤ 3) = false := by simp; omega
    have ne : ∀ k : Int, ¬ n = k → (n == k) = false := fun k h => by simpa using h
    simp only [ne _ h0, ne _ h1, ne _ h2, ne _ h3, cond_false, po_of, fin, hr, Bool.false_and, Bool.and_false]
def toldN (b : Bool) : UInt32 := if b then 1 else 0
theorem told_is (b : Bool) : p_helper_told b = some (toldN b) := by cases b <;> rfl

/-- What is done with a table. -/
inductive ActR (t : T_Table) : Int → List UInt32 → T_Table → UInt32 → Prop where
  | get (x k f : UInt32) : ActR t 0 [x, k, f] (ofT ((toT t).get k.toNat f.toNat).1) (UInt32.ofNat ((toT t).get k.toNat f.toNat).2.1)
  | set (x k f w : UInt32) (h : ((toT t).set k.toNat f.toNat w.toNat).2 = 0) : ActR t 1 [x, k, f, w] (ofT ((toT t).set k.toNat f.toNat w.toNat).1) 0
  | setE (x k f w : UInt32) (h : ((toT t).set k.toNat f.toNat w.toNat).2 ≠ 0) : ActR t 1 [x, k, f, w] t (UInt32.ofInt ((toT t).set k.toNat f.toNat w.toNat).2)
  | del (x k : UInt32) : ActR t 2 [x, k] (ofT ((toT t).del k.toNat).1) (toldN ((toT t).del k.toNat).2)
  | has (x k : UInt32) : ActR t 3 [x, k] t (toldN ((toT t).get k.toNat 0).2.2)
  | push (x w : UInt32) (h : ((toT t).push w.toNat).2 = 0) : ActR t 5 [x, w] (ofT ((toT t).push w.toNat).1) 0
  | pushE (x w : UInt32) (h : ((toT t).push w.toNat).2 ≠ 0) : ActR t 5 [x, w] t (UInt32.ofInt ((toT t).push w.toNat).2)
theorem fitsT {t : T_Table} (h1 : t.E.length ≤ 1048576) (h2 : ∀ e ∈ t.E, e.V.length ≤ 1048576) : fits (toT t).e := by
  refine ⟨by simpa [toT] using h1, fun e he => ?_⟩
  obtain ⟨x, hx, rfl⟩ := List.mem_map.1 he
  simpa [toE] using h2 x hx
/-- Is a field there? -/
def fieldN (n : Int) (a : List UInt32) (s : Sch) : Prop := (n = 0 ∨ n = 1) → ∃ f, a[2]? = some f ∧ (f.toNat : Int) < IntKind.u32.wrap s.words
inductive CallR (n : Int) (e : T_Env) (a : List UInt32) : T_Env × UInt32 × Int → Prop where
  | arg (h : argsN n = -1 ∨ argsN n ≠ a.length) : CallR n e a (⟨⟨0, 0, 0, 0⟩, [], 0⟩, 0, 1)
  | draw (h : n = 4) (ha : a = []) (d : UInt32) : CallR n e a (⟨e.Ctx, e.T, d⟩, d, 0)
  | fault (h : argsN n = a.length) (hn : n ≠ 4) (x : UInt32) (hx : a[0]? = some x) (hw : ∀ t, e.T[x.toNat]? = some t → ¬ ((toT t).may = true ∧ fitsN n (toT t).s = true ∧ fieldN n a (toT t).s)) : CallR n e a (e, 0, 10)
  | act (h : argsN n = a.length) (hn : n ≠ 4) (x : UInt32) (t u : T_Table) (v : UInt32) (hx : a[0]? = some x) (ht : e.T[x.toNat]? = some t) (hm : (toT t).may = true) (hf : fitsN n (toT t).s = true) (hfd : fieldN n a (toT t).s)
      (hA : ActR t n a u v) : CallR n e a (⟨e.Ctx, e.T.set x.toNat u, e.Seed⟩, v, 0)
theorem put_is (c : T_helper_call) (t : T_Table) (f : Int) : p_helper_call_put c t f = some (UInt32.ofInt f, if f = 0 then ⟨t⟩ else c) := by
  unfold p_helper_call_put
  by_cases h : f = 0
  · subst h; rfl
  · have hb : (f == 0) = false := by simpa using h
    simp only [hb, cond_false, po_of, p_helper_call_put_J1, if_neg h]
theorem len2 {a : List UInt32} (h : a.length = 2) : ∃ x y, a = [x, y] := by
  match a, h with
  | [x, y], _ => exact ⟨x, y, rfl⟩
theorem len3 {a : List UInt32} (h : a.length = 3) : ∃ x y z, a = [x, y, z] := by
  match a, h with
  | [x, y, z], _ => exact ⟨x, y, z, rfl⟩
theorem len4 {a : List UInt32} (h : a.length = 4) : ∃ x y z w, a = [x, y, z, w] := by
  match a, h with
  | [x, y, z, w], _ => exact ⟨x, y, z, w, rfl⟩
theorem getA {t : T_Table} (hf : fits (toT t).e) (x k f : UInt32) : p_helper_call_get ⟨t⟩ [x, k, f] = some (UInt32.ofNat ((toT t).get k.toNat f.toNat).2.1, ⟨ofT ((toT t).get k.toNat f.toNat).1⟩) := by
  unfold p_helper_call_get p_table_Get
  simp only [List.getElem?_cons_succ, List.getElem?_cons_zero, po_of, pg_of hf]
theorem setA_ {t : T_Table} (hf : fits (toT t).e) (x k f w : UInt32) : ∃ u v, p_helper_call_set ⟨t⟩ [x, k, f, w] = some (v, ⟨u⟩) ∧ ActR t 1 [x, k, f, w] u v := by
  unfold p_helper_call_set p_table_Set
  simp only [List.getElem?_cons_succ, List.getElem?_cons_zero, po_of, pg_of hf, put_is]
  by_cases h : ((toT t).set k.toNat f.toNat w.toNat).2 = 0
  · rw [if_pos h, h]
    exact ⟨_, _, rfl, .set x k f w h⟩
  · rw [if_neg h]
    exact ⟨_, _, rfl, .setE x k f w h⟩
theorem delA_ {t : T_Table} (hf : fits (toT t).e) (x k : UInt32) : p_helper_call_del ⟨t⟩ [x, k] = some (toldN ((toT t).del k.toNat).2, ⟨ofT ((toT t).del k.toNat).1⟩) := by
  unfold p_helper_call_del p_table_Del
  simp only [List.getElem?_cons_succ, List.getElem?_cons_zero, po_of, pg_of hf, told_is]
theorem hasA {t : T_Table} (hf : fits (toT t).e) (x k : UInt32) : p_helper_call_has ⟨t⟩ [x, k] = some (toldN ((toT t).get k.toNat 0).2.2, ⟨t⟩) := by
  unfold p_helper_call_has p_table_Get
  simp only [List.getElem?_cons_succ, List.getElem?_cons_zero, po_of, pg_of hf, told_is]
  rfl
theorem pushA {t : T_Table} (x w : UInt32) : ∃ u v, p_helper_call_push ⟨t⟩ [x, w] = some (v, ⟨u⟩) ∧ ActR t 5 [x, w] u v := by
  unfold p_helper_call_push p_table_Push
  simp only [List.getElem?_cons_succ, List.getElem?_cons_zero, po_of, put_is]
  by_cases h : ((toT t).push w.toNat).2 = 0
  · rw [if_pos h, h]
    exact ⟨_, _, rfl, .push x w h⟩
  · rw [if_neg h]
    exact ⟨_, _, rfl, .pushE x w h⟩
theorem call_tells {n : Int} {e : T_Env} {a : List UInt32} (hF : Fits e.T) : ∃ r, p_helper_Call n e a = some r ∧ CallR n e a r := by
  unfold p_helper_Call
  rw [args_is]
  simp only [po_of]
  by_cases h1 : argsN n = -1
  · have hb : (argsN n == -1) = true := by simpa using h1
    simp only [hb, cond_true, po_of, p_helper_Call_J2]
    exact ⟨_, rfl, .arg (.inl h1)⟩
  have hb1 : (argsN n == -1) = false := by simpa using h1
  simp only [hb1, cond_false, po_of]
  by_cases h2 : argsN n = (a.length : Int)
  case neg =>
    have hb : (argsN n != (a.length : Int)) = true := by simpa using h2
    simp only [hb, cond_true, p_helper_Call_J2]
    exact ⟨_, rfl, .arg (.inr h2)⟩
  have hb2 : (argsN n != (a.length : Int)) = false := by simpa using h2
  simp only [hb2, cond_false, p_helper_Call_J2, own_is hF, po_of]
  by_cases h4 : n = 4
  · subst h4
    have ha : a = [] := by
      have : argsN 4 = 0 := rfl
      rw [this] at h2
      exact List.eq_nil_of_length_eq_zero (by omega)
    subst ha
    exact ⟨_, rfl, .draw rfl rfl _⟩
  have hb4 : (n == 4) = false := by simpa using h4
  simp only [hb4, cond_false]
  have hlen : 2 ≤ a.length := by
    unfold argsN at h1 h2
    repeat' split at h2
    all_goals first | omega | (exfalso; simp_all; done)
  obtain ⟨x, a', rfl⟩ : ∃ x a', a = x :: a' := by
    cases a with
    | nil => simp at hlen
    | cons x a' => exact ⟨x, a', rfl⟩
  have hx : (x :: a')[0]? = some x := rfl
  simp only [List.getElem?_cons_zero, po_of]
  have hxl := x.toNat_lt
  have hT := hF.len
  have w1 : IntKind.u64.wrap (x.toNat : Int) = (x.toNat : Int) := by rw [wrap64_mod]; omega
  have w2 : IntKind.u64.wrap (e.T.length : Int) = (e.T.length : Int) := by rw [wrap64_mod]; omega
  simp only [w1, w2]
  by_cases h5 : e.T.length ≤ x.toNat
  · have hb : decide ((x.toNat : Int) ≥ (e.T.length : Int)) = true := by simp; omega
    simp only [hb, cond_true]
    refine ⟨_, rfl, .fault h2 h4 x hx fun t ht => ?_⟩
    rw [List.getElem?_eq_none h5] at ht
    cases ht
  have hb5 : decide ((x.toNat : Int) ≥ (e.T.length : Int)) = false := by simp; omega
  obtain ⟨t, ht⟩ : ∃ t, e.T[x.toNat]? = some t := ⟨_, List.getElem?_eq_getElem (by omega)⟩
  simp only [hb5, cond_false, ht, po_of]
  -- the question of a field
  have q0 : (cond (n == 0) (some (e, true)) (some (e, n == 1)) : Option (T_Env × Bool)) = some (e, decide (n = 0 ∨ n = 1)) := by
    by_cases h0 : n = 0
    · subst h0; rfl
    · have : (n == 0) = false := by simpa using h0
      simp only [this, cond_false]
      by_cases h1 : n = 1
      · subst h1; rfl
      · have : (n == 1) = false := by simpa using h1
        simp [this, h0, h1]
  rw [q0]
  simp only [po_of, p_helper_Call_J11, fits_is]
  have tw : ∀ t', e.T[x.toNat]? = some t' → t' = t := fun t' h => by
    rw [ht] at h
    injection h with h
    exact h.symm
  have fault : ∀ (hw : ¬ ((toT t).may = true ∧ fitsN n (toT t).s = true ∧ fieldN n (x :: a') (toT t).s)), CallR n e (x :: a') (e, 0, 10) := fun hw => .fault h2 h4 x hx fun t' ht' => by
    rw [tw t' ht']
    exact hw
  cases hf : fitsN n (toT t).s with
  | false =>
    have hf' : fitsN n (toS t.S) = false := hf
    simp only [hf', cond_false, po_of, p_helper_Call_J13, cond_true]
    exact ⟨_, rfl, fault (fun h => by rw [hf] at h; exact absurd h.2.1 (by decide))⟩
  | true =>
    have hf' : fitsN n (toS t.S) = true := hf
    simp only [hf', cond_true, p_table_May, po_of]
    cases hm : (toT t).may with
    | false =>
      simp only [cond_false, po_of, p_helper_Call_J13, cond_true]
      exact ⟨_, rfl, fault (fun h => by rw [hm] at h; exact absurd h.1 (by decide))⟩
    | true =>
      simp only [cond_true]
      have hft : fits (toT t).e := mayFits hm
      have base : ∀ (hfd : fieldN n (x :: a') (toT t).s) (u : T_Table) (v : UInt32), ActR t n (x :: a') u v → CallR n e (x :: a') (⟨e.Ctx, e.T.set x.toNat u, e.Seed⟩, v, 0) := fun hfd u v hA => .act h2 h4 x t u v hx ht hm hf hfd hA
      have ht' : e.T[x.toNat]? = some t := ht
      by_cases hn : n = 0 ∨ n = 1
      · have hd : decide (n = 0 ∨ n = 1) = true := by simpa using hn
        simp only [hd, cond_true]
        obtain ⟨f, hfx⟩ : ∃ f, (x :: a')[2]? = some f := by
          refine ⟨_, List.getElem?_eq_getElem (i := 2) ?_⟩
          rcases hn with rfl | rfl
          · have : argsN 0 = 3 := rfl
            omega
          · have : argsN 1 = 4 := rfl
            omega
        simp only [hfx, po_of]
        by_cases hfd : (f.toNat : Int) < IntKind.u32.wrap t.S.Words
        · have hb : decide ((f.toNat : Int) ≥ IntKind.u32.wrap t.S.Words) = false := by simpa using hfd
          have hF2 : fieldN n (x :: a') (toT t).s := fun _ => ⟨f, hfx, hfd⟩
          simp only [hb, p_helper_Call_J13, cond_false]
          rcases hn with rfl | rfl
          · obtain ⟨x0, k, f0, e0⟩ := len3 (a := x :: a') (by have : argsN 0 = 3 := rfl; omega)
            injection e0 with e1 e2
            subst e1
            subst e2
            simp only [beq_self_eq_true, cond_true, getA hft, po_of, ht', pl]
            exact ⟨_, rfl, base hF2 _ _ (.get x k f0)⟩
          · obtain ⟨x0, k, f0, w, e0⟩ := len4 (a := x :: a') (by have : argsN 1 = 4 := rfl; omega)
            injection e0 with e1 e2
            subst e1
            subst e2
            obtain ⟨u, v, e3, hA⟩ := setA_ hft x k f0 w
            have z : ((1 : Int) == 0) = false := rfl
            simp only [z, beq_self_eq_true, cond_true, cond_false, e3, po_of, ht', pl]
            exact ⟨_, rfl, base hF2 _ _ hA⟩
        · have hb : decide ((f.toNat : Int) ≥ IntKind.u32.wrap t.S.Words) = true := by simpa using hfd
          simp only [hb, p_helper_Call_J13, cond_true]
          refine ⟨_, rfl, fault fun h => ?_⟩
          obtain ⟨f', e1, e2⟩ := h.2.2 hn
          rw [hfx] at e1
          injection e1 with e1
          subst e1
          exact hfd e2
      · have hd : decide (n = 0 ∨ n = 1) = false := by simpa using hn
        have hF2 : fieldN n (x :: a') (toT t).s := fun h => absurd h hn
        simp only [hd, cond_false, po_of, p_helper_Call_J13]
        have n0 : n ≠ 0 := fun h => hn (.inl h)
        have n1 : n ≠ 1 := fun h => hn (.inr h)
        have b0 : (n == 0) = false := by simpa using n0
        have b1 : (n == 1) = false := by simpa using n1
        simp only [b0, b1, cond_false]
        by_cases h22 : n = 2
        · subst h22
          obtain ⟨x0, k, e0⟩ := len2 (a := x :: a') (by have : argsN 2 = 2 := rfl; omega)
          injection e0 with e1 e2
          subst e1
          subst e2
          simp only [beq_self_eq_true, cond_true, delA_ hft, po_of, ht', pl]
          exact ⟨_, rfl, base hF2 _ _ (.del x k)⟩
        have b2 : (n == 2) = false := by simpa using h22
        simp only [b2, cond_false]
        by_cases h33 : n = 3
        · subst h33
          obtain ⟨x0, k, e0⟩ := len2 (a := x :: a') (by have : argsN 3 = 2 := rfl; omega)
          injection e0 with e1 e2
          subst e1
          subst e2
          simp only [beq_self_eq_true, cond_true, hasA hft, po_of, ht', pl]
          exact ⟨_, rfl, base hF2 _ _ (.has x k)⟩
        have b3 : (n == 3) = false := by simpa using h33
        simp only [b3, cond_false]
        by_cases h55 : n = 5
        · subst h55
          obtain ⟨x0, w, e0⟩ := len2 (a := x :: a') (by have : argsN 5 = 2 := rfl; omega)
          injection e0 with e1 e2
          subst e1
          subst e2
          obtain ⟨u, v, e3, hA⟩ := pushA (t := t) x w
          simp only [beq_self_eq_true, cond_true, e3, po_of, ht', pl]
          exact ⟨_, rfl, base hF2 _ _ hA⟩
        · exfalso
          unfold argsN at h1
          simp [n0, n1, h22, h33, h4, h55] at h1
end Go.Proofs.Ytpmnchgpbojppaa

/- The chapter's example of helpers. -/
set_option linter.unusedVariables false
set_option linter.unusedSimpArgs false
namespace Go.Proofs.Ytpmnchgpbojppaa
open Go Go.RowKit Go.Proofs.Try

theorem fits_one {t : T_Table} (h1 : t.E.length ≤ 1048576) (h2 : ∀ e ∈ t.E, e.V.length ≤ 1048576) : Fits [t] :=
  ⟨by simp, fun u hu => by rw [List.mem_singleton] at hu; rw [hu]; exact h1, fun u hu => by rw [List.mem_singleton] at hu; rw [hu]; exact h2⟩
def aw0 : T_Table := ⟨⟨1, 2, 1, 0⟩, [], 0⟩
def aw1 : T_Table := ⟨⟨1, 2, 1, 0⟩, [⟨5, [7]⟩], 0⟩
theorem awake6 : p_drydocklaw06_awake = some true := by
  have h1 : p_table_New (T_Schema.mk 1 2 1 0) = some (aw0, 0) := by decide
  have f0 : Fits [aw0] := fits_one (by decide) (by decide)
  have f1 : Fits [aw1] := fits_one (by decide) (by decide)
  have h2 : p_helper_Call 1 ⟨⟨0, 0, 0, 0⟩, [aw0], 0⟩ [0, 5, 0, 7] = some (⟨⟨0, 0, 0, 0⟩, [aw1], 0⟩, 0, 0) := by
    have ha : p_helper_Args 1 = some 4 := rfl
    unfold p_helper_Call
    rw [ha]
    simp only [po_of]
    show po (some false) (fun x => p_helper_Call_J2 1 _ _ x) = _
    simp only [po_of, p_helper_Call_J2, cond_false, own_is (e := ⟨⟨0, 0, 0, 0⟩, [aw0], 0⟩) f0]
    decide
  have h3 : p_helper_Call 0 ⟨⟨0, 0, 0, 0⟩, [aw1], 0⟩ [0, 5, 0] = some (⟨⟨0, 0, 0, 0⟩, [aw1], 0⟩, 7, 0) := by
    have ha : p_helper_Args 0 = some 3 := rfl
    unfold p_helper_Call
    rw [ha]
    simp only [po_of]
    show po (some false) (fun x => p_helper_Call_J2 0 _ _ x) = _
    simp only [po_of, p_helper_Call_J2, cond_false, own_is (e := ⟨⟨0, 0, 0, 0⟩, [aw1], 0⟩) f1]
    decide
  unfold p_drydocklaw06_awake
  rw [h1]
  simp only [po_of, h2, h3]
  decide
end Go.Proofs.Ytpmnchgpbojppaa

/- TableGets' plain law. -/
namespace Go.Proofs.Ytpmnchgpbojppaa
open Go Go.RowKit Go.Proofs.Try

theorem toLast_last {α : Type} {l : List α} {i : Nat} (h : i + 1 = l.length) : toLast l i = l := by
  refine List.ext_getElem? fun j => ?_
  rw [toLast_get (by omega)]
  split
  · rfl
  · split
    · omega
    · split
      · rw [show j = i by omega]
      · rw [List.getElem?_eq_none (by omega)]

/-- What is got. -/
theorem gets_ok {t : Tab} {key f : Nat} (hm : t.may = true) :
    (t.get key f).1.s = t.s ∧ (t.get key f).1.next = t.next ∧ (t.get key f).1.e.length = t.e.length ∧ (t.get key f).1.may = true ∧ (t.get key f).1.get key f = t.get key f ∧
      (t.get key f).2.2 = t.has key f ∧ (t.has key f = false → t.get key f = (t, 0, false)) ∧ (t.s.kind ≠ 2 → (t.get key f).1 = t) ∧
      (t.has key f = true → t.s.kind = 2 → 0 < t.e.length ∧ ∃ e, (t.get key f).1.e[t.e.length - 1]? = some e ∧ e.key = key) := by
  cases hh : t.has key f with
  | false =>
    have hg : t.get key f = (t, 0, false) := by unfold Tab.get; rw [if_neg (by simp [hh])]
    rw [hg]
    exact ⟨rfl, rfl, rfl, hm, hg, rfl, fun _ => rfl, fun _ => rfl, fun h => by cases h⟩
  | true =>
    have hg : t.get key f = ({ t with e := touch t.s.kind t.e (t.idx key) }, t.word (t.idx key) f, true) := by unfold Tab.get; rw [if_pos hh]
    obtain ⟨hkd, hp⟩ : t.keyed f = true ∧ 0 ≤ fidx key t.e 0 := by simpa [Tab.has] using hh
    obtain ⟨_, h3, hfw⟩ := keyed_iff.1 hkd
    obtain ⟨hsm, hlc, hnx, har, hw, hn⟩ := (may_std h3).1 hm
    obtain ⟨i, e, hi, he, hek⟩ := fidx_some rfl hp
    have hid : t.idx key = i := by unfold Tab.idx; omega
    have hil : i < t.e.length := (List.getElem?_eq_some_iff.1 he).1
    rw [hid] at hg
    by_cases hk2 : t.s.kind = 2
    · have ht : touch t.s.kind t.e i = toLast t.e i := by unfold touch; rw [if_pos hk2]
      rw [ht] at hg
      have hlen : (toLast t.e i).length = t.e.length := toLast_length hil
      have hlast : (toLast t.e i)[t.e.length - 1]? = some e := by
        rw [toLast_get hil, if_neg (by omega), if_neg (by omega), if_pos (by omega), he]
      have hperm := toLast_perm hil
      have hm2 : ({ t with e := toLast t.e i } : Tab).may = true := by
        refine (may_std (t := { t with e := toLast t.e i }) h3).2 ⟨hsm, (by simp only [hlen]; exact hlc), hnx, fun h0 => absurd (hk2.symm.trans h0) (by decide), fun y hy => hw y (hperm.subset hy), (hperm.map Ent.key).nodup_iff.2 hn⟩
      have hf2 : fidx key (toLast t.e i) 0 = ((t.e.length - 1 : Nat) : Int) := by
        rw [← hek]
        exact fidx_eq ((hperm.map Ent.key).nodup_iff.2 hn) hlast
      have hkd2 : ({ t with e := toLast t.e i } : Tab).keyed f = true := keyed_iff.2 ⟨hm2, h3, hfw⟩
      have hh2 : ({ t with e := toLast t.e i } : Tab).has key f = true := by simp [Tab.has, hkd2, hf2]
      have hid2 : ({ t with e := toLast t.e i } : Tab).idx key = t.e.length - 1 := by simp [Tab.idx, hf2]
      have hg2 : ({ t with e := toLast t.e i } : Tab).get key f = t.get key f := by
        rw [hg]
        unfold Tab.get
        rw [if_pos hh2, hid2]
        have : touch t.s.kind (toLast t.e i) (t.e.length - 1) = toLast t.e i := by unfold touch; rw [if_pos hk2]; exact toLast_last (by rw [hlen]; omega)
        simp only [this]
        simp [Tab.word, hlast, he]
      rw [hg] at hg2 ⊢
      exact ⟨rfl, rfl, hlen, hm2, hg2, rfl, fun h => (by cases h), fun h => absurd hk2 h, fun _ _ => ⟨by omega, e, hlast, hek⟩⟩
    · have ht : touch t.s.kind t.e i = t.e := by unfold touch; rw [if_neg hk2]
      rw [ht] at hg
      have hg1 : (t.get key f).1 = t := by rw [hg]
      refine ⟨by rw [hg1], by rw [hg1], by rw [hg1], by rw [hg1]; exact hm, by rw [hg1], by rw [hg], fun h => (by cases h), fun _ => hg1, fun _ h => absurd h hk2⟩
end Go.Proofs.Ytpmnchgpbojppaa

/- What a helper's call leaves of a table. -/
set_option linter.unusedVariables false
set_option linter.unusedSimpArgs false
namespace Go.Proofs.Ytpmnchgpbojppaa
open Go Go.RowKit Go.Proofs.Try

theorem toS_of {t u : Tab} (h : t.s = u.s) : (ofT t).S = (ofT u).S := by
  show ofS t.s = ofS u.s
  rw [h]
theorem to_get (t : T_Table) (k f : Nat) : toT (ofT ((toT t).get k f).1) = ((toT t).get k f).1 :=
  toT_ofT (okEs_get (okEs_to t)) (by
    unfold Tab.get
    split
    · exact next_to t
    · exact next_to t)
theorem to_set (t : T_Table) (k f x : UInt32) : toT (ofT ((toT t).set k.toNat f.toNat x.toNat).1) = ((toT t).set k.toNat f.toNat x.toNat).1 :=
  toT_ofT (okEs_set (okEs_to t) k.toNat_lt x.toNat_lt) (set_next (next_to t))
theorem to_del (t : T_Table) (k : Nat) : toT (ofT ((toT t).del k).1) = ((toT t).del k).1 :=
  toT_ofT (okEs_del (okEs_to t)) (by
    unfold Tab.del
    split
    · exact next_to t
    · split
      · exact next_to t
      · exact next_to t)
theorem to_push (t : T_Table) (w : UInt32) : toT (ofT ((toT t).push w.toNat).1) = ((toT t).push w.toNat).1 :=
  toT_ofT (okEs_push (okEs_to t) (next_to t) w.toNat_lt) push_next
theorem push_stays {t : Tab} {v : Nat} (hnx : t.next < 4294967296) (h : (t.push v).2 = 0) : (t.push v).1.may = true ∧ (t.push v).1.s = t.s := by
  unfold Tab.push at h ⊢
  split at h
  · exact absurd h (by decide)
  · rename_i hn
    rw [if_neg hn]
    split at h
    · exact absurd h (by decide)
    · rename_i hc
      rw [if_neg hc]
      have hm : t.may = true := by
        cases hq : t.may with
        | true => rfl
        | false => exact absurd (.inl hq) hn
      have hk : t.s.kind = 3 := by
        by_cases hq : t.s.kind = 3
        · exact hq
        · exact absurd (.inr hq) hn
      obtain ⟨h1, h2⟩ := (Tab.may_iff t).1 hm
      simp only [Tab.headOk, Bool.and_eq_true, Bool.or_eq_true, Bool.not_eq_true', decide_eq_true_eq, decide_eq_false_iff_not] at h1
      obtain ⟨⟨⟨h3, h4⟩, _⟩, _⟩ := h1
      have hb := Sch.may_bounds h3
      have hw : t.s.words = 1 := hb.2.2.2.2.2.2.1 hk
      refine ⟨(Tab.may_iff _).2 ⟨?_, fun i e he => ?_⟩, rfl⟩
      · simp only [Tab.headOk, Bool.and_eq_true, Bool.or_eq_true, Bool.not_eq_true', decide_eq_true_eq, decide_eq_false_iff_not, List.length_append, List.length_singleton]
        exact ⟨⟨⟨h3, by omega⟩, .inl hk⟩, .inl (by omega)⟩
      · have key : ∀ (i : Nat) (e : Ent), (t.e ++ [(⟨t.next, [v]⟩ : Ent)])[i]? = some e → i ≤ t.e.length ∧ e.v.length = 1 ∧ e.key = (t.next + (4294967296 - t.e.length) + i) % 4294967296 := fun i e he => by
          rw [List.getElem?_append] at he
          split at he
          · rename_i hi
            obtain ⟨q1, _, _, q2⟩ := (t.elOk_iff i e).1 (h2 i e he)
            exact ⟨by omega, by omega, q2 hk⟩
          · rename_i hi
            obtain ⟨q1, q2⟩ := List.getElem?_eq_some_iff.1 he
            simp only [List.length_singleton] at q1
            simp only [show i - t.e.length = 0 by omega, List.getElem_cons_zero] at q2
            subst q2
            refine ⟨by omega, rfl, ?_⟩
            show t.next = _
            omega
        obtain ⟨k1, k2, k3⟩ := key i e he
        refine (Tab.elOk_iff _ _ _).2 ⟨by rw [k2, hw]; rfl, ?_, fun h => absurd (h.symm.trans hk) (by decide), fun _ => ?_⟩
        · refine (fidx_found (j := 0) he rfl fun j x hj hx => ?_).trans (by simp)
          obtain ⟨_, _, k6⟩ := key j x hx
          rw [k3, k6]
          omega
        · rw [k3]
          show _ = ((t.next + 1) % 4294967296 + (4294967296 - (t.e ++ [(⟨t.next, [v]⟩ : Ent)]).length) + i) % 4294967296
          simp only [List.length_append, List.length_singleton]
          omega
theorem act_keeps {n : Int} {t u : T_Table} {a : List UInt32} {v : UInt32} (hm : (toT t).may = true) (h : ActR t n a u v) : (toT u).may = true ∧ u.S = t.S := by
  have fin : ∀ T : Tab, T.s = (toT t).s → (ofT T).S = t.S := fun T hT => by
    have := toS_of hT
    rw [ofT_toT] at this
    exact this
  cases h with
  | get x k f =>
    rw [to_get]
    exact ⟨(gets_ok hm).2.2.2.1, fin _ (gets_ok hm).1⟩
  | set x k f w h0 =>
    rw [to_set]
    exact ⟨(set_may h0).1, fin _ (set_may h0).2.2.2.2⟩
  | setE x k f w h0 => exact ⟨hm, rfl⟩
  | del x k =>
    rw [to_del]
    exact ⟨(del_ok hm).2.2.2.1, fin _ (del_ok hm).1⟩
  | has x k => exact ⟨hm, rfl⟩
  | push x w h0 =>
    rw [to_push]
    exact ⟨(push_stays (next_to t) h0).1, fin _ (push_stays (next_to t) h0).2⟩
  | pushE x w h0 => exact ⟨hm, rfl⟩
theorem del_none {t : Tab} {key f : Nat} (hm : t.may = true) (hh : t.has key 0 = true) : ((t.del key).1.get key f).2.1 = 0 := by
  have hdm := (del_ok (key := key) hm).2.2.2.1
  obtain ⟨hkd, hp⟩ : t.keyed 0 = true ∧ 0 ≤ fidx key t.e 0 := by simpa [Tab.has] using hh
  obtain ⟨_, h3, hfw⟩ := keyed_iff.1 hkd
  obtain ⟨hsm, hlc, hnx, har, hw, hn⟩ := (may_std h3).1 hm
  obtain ⟨i, e, hi, he, hek⟩ := fidx_some rfl hp
  have hid : t.idx key = i := by unfold Tab.idx; omega
  have hil : i < t.e.length := (List.getElem?_eq_some_iff.1 he).1
  by_cases hk0 : t.s.kind = 0
  · have hd : t.del key = ({ t with e := t.e.set i { e with v := List.replicate e.v.length 0 } }, true) := by
      unfold Tab.del
      rw [if_neg (by simp [hh]), if_pos hk0, hid]
      simp [zeroE, he]
    rw [hd] at hdm ⊢
    cases hkf : ({ t with e := t.e.set i { e with v := List.replicate e.v.length 0 } } : Tab).keyed f with
    | false => rw [get_unkeyed hkf]
    | true =>
      rw [get_mem hkf (e := { e with v := List.replicate e.v.length 0 }) (List.mem_of_getElem? (i := i) (by simp [hil])) hek]
      show ((List.replicate e.v.length 0)[f]?).getD 0 = 0
      rw [List.getElem?_replicate]
      split <;> rfl
  · have hd : t.del key = ({ t with e := t.e.eraseIdx i }, true) := by
      unfold Tab.del
      rw [if_neg (by simp [hh]), if_neg hk0, hid]
    rw [hd]
    rw [get_no (t := { t with e := t.e.eraseIdx i }) fun y hy hyk => ?_]
    obtain ⟨j, hj⟩ := List.mem_iff_getElem?.1 hy
    rw [List.getElem?_eraseIdx] at hj
    split at hj
    · have := keys_inj hn hj he (by rw [hyk, hek]); omega
    · have := keys_inj hn hj he (by rw [hyk, hek]); omega
theorem set_code {t : Tab} {key f x : Nat} : (t.set key f x).2 = 0 ∨ (t.set key f x).2 = 1 ∨ (t.set key f x).2 = 3 ∨ (t.set key f x).2 = 4 := by
  unfold Tab.set
  repeat' split
  all_goals simp
end Go.Proofs.Ytpmnchgpbojppaa

/- The chapter's example of deltas. -/
set_option linter.unusedVariables false
set_option linter.unusedSimpArgs false
namespace Go.Proofs.Ytpmnchgpbojppaa
open Go Go.RowKit Go.Proofs.Try

theorem ix_of {l : List UInt32} {x : UInt32} {r : Unit ⊕ Int} {v : Int} (n : Nat) (h : iterU (fun i => p_slices_Index_uint32_uint32_L2 l x i) n 0 = some r) (hv : r = .inr v ∨ (r = .inl () ∧ v = -1)) : p_slices_Index_uint32_uint32 l x = some v := by
  unfold p_slices_Index_uint32_uint32
  rw [lpU_some.2 ⟨n, h⟩]
  rcases hv with rfl | ⟨rfl, rfl⟩
  · rfl
  · rfl
theorem ix5 : p_slices_Index_uint32_uint32 [5] 5 = some 0 := ix_of (r := .inr 0) 3 (by decide) (.inl rfl)
theorem ix55 : p_slices_Index_uint32_uint32 [5, 6] 5 = some 0 := ix_of (r := .inr 0) 3 (by decide) (.inl rfl)
theorem ix56 : p_slices_Index_uint32_uint32 [5, 6] 6 = some 1 := ix_of (r := .inr 1) 3 (by decide) (.inl rfl)
theorem ix_6 : p_slices_Index_uint32_uint32 [5] 6 = some (-1) := ix_of (r := .inl ()) 3 (by decide) (.inr ⟨rfl, rfl⟩)
theorem ix_0 : p_slices_Index_uint32_uint32 [] 5 = some (-1) := ix_of (r := .inl ()) 3 (by decide) (.inr ⟨rfl, rfl⟩)
theorem may0 : p_delta_May ⟨[], false⟩ = some true := by
  unfold p_delta_May
  rw [lpU_inr (r := .inl ()) (by rfl)]
  rfl
theorem may5 : p_delta_May ⟨[5], false⟩ = some true := by
  unfold p_delta_May
  rw [lpU_inl (s' := 1) (by
    show po (p_slices_Index_uint32_uint32 [5] 5) _ = _
    rw [ix5]
    decide)]
  rw [lpU_inr (r := .inl ()) (by rfl)]
  rfl
theorem may56 : p_delta_May ⟨[5, 6], false⟩ = some true := by
  unfold p_delta_May
  rw [lpU_inl (s' := 1) (by
    show po (p_slices_Index_uint32_uint32 [5, 6] 5) _ = _
    rw [ix55]
    decide)]
  rw [lpU_inl (s' := 2) (by
    show po (p_slices_Index_uint32_uint32 [5, 6] 6) _ = _
    rw [ix56]
    decide)]
  rw [lpU_inr (r := .inl ()) (by rfl)]
  rfl
theorem note0 : p_delta_Note ⟨[], false⟩ 5 = some ⟨[5], false⟩ := by
  unfold p_delta_Note
  rw [p_slices_Clone_uint32_uint32_of (by decide)]
  simp only [po_of, may0, Bool.not_true, cond_false, p_slices_Contains_uint32_uint32, ix_0]
  decide
theorem note5 : p_delta_Note ⟨[5], false⟩ 6 = some ⟨[5, 6], false⟩ := by
  unfold p_delta_Note
  rw [p_slices_Clone_uint32_uint32_of (by decide)]
  simp only [po_of, may5, Bool.not_true, cond_false, p_slices_Contains_uint32_uint32, ix_6]
  decide
theorem note56 : p_delta_Note ⟨[5, 6], false⟩ 5 = some ⟨[5, 6], false⟩ := by
  unfold p_delta_Note
  rw [p_slices_Clone_uint32_uint32_of (by decide)]
  simp only [po_of, may56, Bool.not_true, cond_false, p_slices_Contains_uint32_uint32, ix55]
  decide
theorem awake19 : p_drydocklaw19_awake = some true := by
  unfold p_drydocklaw19_awake
  rw [note0]
  simp only [po_of, note5, note56, may56]
  decide
end Go.Proofs.Ytpmnchgpbojppaa

/- The plain function of drydock/drydockref01.Words. -/
set_option linter.unusedVariables false
set_option linter.unusedSimpArgs false
namespace Go.Proofs.Ytpmnchgpbojppaa
open Go Go.RowKit Go.Proofs.Try
noncomputable def p_drydockref01_Words_L3 (a0 : (List UInt32)) (a1 : (List UInt32)) (i_1 : Int) : Option ((Int) ⊕ ((Unit) ⊕ (Bool))) :=
  cond (decide (i_1 < (a0.length : Int))) (
  po (idx a0 i_1) fun x5 =>
  po (idx a1 i_1) fun x6 =>
  cond ((x5.toNat : Int) != (x6.toNat : Int)) (
  some (Sum.inr (Sum.inr false))) (
  some (Sum.inl (IntKind.i64.wrap (i_1 + 1))))) (
  some (Sum.inr (Sum.inl ())))
noncomputable def p_drydockref01_Words_J2 : Option (Bool) :=
  some true
noncomputable def p_drydockref01_Words (a0 : (List UInt32)) (a1 : (List UInt32)) : Option (Bool) :=
  cond ((a0.length : Int) != (a1.length : Int)) (
  some false) (
  pm (
  lpU (fun x => p_drydockref01_Words_L3 a0 a1 x) 0) (fun x => p_drydockref01_Words_J2))
set_option maxHeartbeats 4000000 in
set_option maxRecDepth 100000 in
theorem c_drydockref01_Words (a0 : (List UInt32)) (a1 : (List UInt32)) {r : Bool} (h : p_drydockref01_Words a0 a1 = some r) : Ctr prog 53 [.sl false (a0.map encU32), .sl false (a1.map encU32)] [] (.raw (.bool r)) [] := by
  unfold p_drydockref01_Words at h
  refine Ctr.ofW tabOk func53 rfl call53 0 _ ntmps53 [.tmp 4] rfl rfl rfl (fun B => ?_)
  refine VC.seqF tabOkF [some 4] [0, 1] rfl rfl (fun K hK => ?_)
  push_cast
  repeat (refine And.intro (by omega) ?_)
  refine hK _ ?_
  clear hK K
  refine VC.seq ?_
  refine VC.seqF tabOkF [some 6, some 7, some 8, some 9, some 10] [0, 1, 10] rfl rfl (fun K hK => ?_)
  push_cast
  repeat (refine And.intro (by omega) ?_)
  refine hK _ ?_
  clear hK K
  refine VC.cond rfl rfl (fun hc1 => ?_) (fun hc1 => ?_)
  · have hb1 : ((a0.length : Int) != (a1.length : Int)) = true := by simpa using hc1
    replace h := cond_yes hb1 h
    refine VC.seqF tabOkF [some 4] [4] rfl rfl (fun K hK => ?_)
    push_cast [hb1]
    repeat (refine And.intro (by omega) ?_)
    refine hK _ ?_
    clear hK K
    refine VC.ret ?_
    have hr := Option.some.inj h
    subst hr
    refine endP (Sub.lo _) (Post.ret ?_ ?_ ?_)
    · push_cast [hb1]
    · push_cast [hb1]
    · rfl
  · have hb1 : ((a0.length : Int) != (a1.length : Int)) = false := by simpa using hc1
    replace h := cond_no hb1 h
    refine VC.skip ?_
    obtain ⟨v2, h, hk2⟩ := pm_some h
    refine VC.seqJ (X := Unit) (fun x => p_drydockref01_Words_J2 = some r) (fun x => ⟨[], [], 27, 26, 0⟩) ?_ ?_
    · refine VC.seqF tabOkF [some 5] [0, 1, 5] rfl rfl (fun K hK => ?_)
      push_cast [hb1]
      repeat (refine And.intro (by omega) ?_)
      refine hK _ ?_
      clear hK K
      refine VC.block ?_
      refine VC.loopP h (fun x => ⟨[(0, .sl false (a0.map encU32)), (1, .sl false (a1.map encU32)), (5, .raw (.int .i64 x))], [], 23, 26, 0⟩) ?_ ?_
      · refine Sub.trans (Sub.lo _) ?_
        refine Sub.of ?_ ?_ ⟨rfl, rfl, Nat.le_of_ble_eq_true rfl⟩ rfl
        · push_cast [hb1]
        · push_cast [hb1]
      rintro i_1 b3 h hf3
      replace h : p_drydockref01_Words_L3 a0 a1 i_1 = some b3 := h
      try push_cast
      unfold p_drydockref01_Words_L3 at h
      refine VC.seq ?_
      refine VC.seqF tabOkF [some 11, some 12, some 13, some 14] [0, 1, 5, 14] rfl rfl (fun K hK => ?_)
      push_cast [hb1]
      repeat (refine And.intro (by omega) ?_)
      refine hK _ ?_
      clear hK K
      refine VC.cond rfl rfl (fun hc4 => ?_) (fun hc4 => ?_)
      · have hb4 : (decide (i_1 < (a0.length : Int))) = true := by simpa using hc4
        replace h := cond_yes hb4 h
        refine VC.skip ?_
        refine VC.seq ?_
        refine VC.block ?_
        obtain ⟨x5, hx5, h⟩ := po_some h
        obtain ⟨hx51, hx52, hx53, hx54⟩ := idx_some4 hx5
        obtain ⟨x6, hx6, h⟩ := po_some h
        obtain ⟨hx61, hx62, hx63, hx64⟩ := idx_some4 hx6
        refine VC.seqFD tabOkF hmixO [some 17, some 18, some 19, some 20, some 21, some 22, some 23, some 24, some 25] [0, 1, 5, 25] rfl rfl rfl (fun K hK => ?_)
        push_cast [hb1, hb4, hx51, hx52, hx53, hx54, hx61, hx62, hx63, hx64]
        repeat (refine And.intro (by omega) ?_)
        refine ⟨rfl, hK _ ?_⟩
        clear hK K
        refine VC.cond rfl rfl (fun hc7 => ?_) (fun hc7 => ?_)
        · have hb7 : ((x5.toNat : Int) != (x6.toNat : Int)) = true := by simpa using hc7
          replace h := cond_yes hb7 h
          refine VC.seqF tabOkF [some 4] [4] rfl rfl (fun K hK => ?_)
          push_cast [hb1, hb4, hx51, hx52, hx53, hx54, hx61, hx62, hx63, hx64, hb7]
          repeat (refine And.intro (by omega) ?_)
          refine hK _ ?_
          clear hK K
          refine VC.ret ?_
          replace h := congrArg some (hf3 _ (Option.some.inj h).symm)
          have hv := Option.some.inj h
          rw [← hv] at hk2
          replace h : some false = some r := hk2
          have hr := Option.some.inj h
          subst hr
          refine endP (Sub.lo _) (Post.ret ?_ ?_ ?_)
          · push_cast [hb1, hb4, hb7]
          · push_cast [hb1, hb4, hb7]
          · rfl
        · have hb7 : ((x5.toNat : Int) != (x6.toNat : Int)) = false := by simpa using hc7
          replace h := cond_no hb7 h
          refine VC.skip ?_
          refine VC.lastF tabOkF [some 15, some 16, some 5] rfl rfl (fun K hK => ?_)
          push_cast [hb1, hb4, hx51, hx52, hx53, hx54, hx61, hx62, hx63, hx64, hb7]
          repeat (refine And.intro (by omega) ?_)
          refine hK _ ?_
          clear hK K
          refine Exists.intro ((IntKind.i64.wrap (i_1 + 1))) (And.intro (Option.some.inj h).symm ?_)
          refine Sub.trans (Sub.lo _) ?_
          refine Sub.of ?_ ?_ ⟨rfl, rfl, Nat.le_of_ble_eq_true rfl⟩ rfl
          · push_cast [hb1, hb4, hb7]
          · push_cast [hb1, hb4, hb7]
      · have hb4 : (decide (i_1 < (a0.length : Int))) = false := by simpa using hc4
        replace h := cond_no hb4 h
        refine VC.exit ?_
        replace h := congrArg some (hf3 _ (Option.some.inj h).symm)
        have hv := Option.some.inj h
        rw [← hv] at hk2
        refine Exists.intro (()) (And.intro hk2 ?_)
        refine Sub.trans (Sub.lo _) ?_
        refine Sub.of ?_ ?_ ⟨rfl, rfl, Nat.le_of_ble_eq_true rfl⟩ rfl
        · push_cast [hb1, hb4]
        · push_cast [hb1, hb4]
    · rintro ⟨⟩ h
      replace h : p_drydockref01_Words_J2 = some r := h
      try push_cast
      unfold p_drydockref01_Words_J2 at h
      refine VC.seqF tabOkF [some 4] [4] rfl rfl (fun K hK => ?_)
      push_cast [hb1]
      repeat (refine And.intro (by omega) ?_)
      refine hK _ ?_
      clear hK K
      refine VC.ret ?_
      have hr := Option.some.inj h
      subst hr
      refine endP (Sub.lo _) (Post.ret ?_ ?_ ?_)
      · push_cast [hb1]
      · push_cast [hb1]
      · rfl
end Go.Proofs.Ytpmnchgpbojppaa

/- The plain function of drydock/drydockref05.At. -/
set_option linter.unusedVariables false
set_option linter.unusedSimpArgs false
namespace Go.Proofs.Ytpmnchgpbojppaa
open Go Go.RowKit Go.Proofs.Try
noncomputable def p_drydockref05_At_L2 (a0 : T_Table) (a1 : UInt32) (i_1 : Int) : Option ((Int) ⊕ ((Unit) ⊕ (Int))) :=
  cond (decide (i_1 < (a0.E.length : Int))) (
  po (idx a0.E i_1) fun x4 =>
  cond ((x4.Key.toNat : Int) == (a1.toNat : Int)) (
  some (Sum.inr (Sum.inr i_1))) (
  some (Sum.inl (IntKind.i64.wrap (i_1 + 1))))) (
  some (Sum.inr (Sum.inl ())))
noncomputable def p_drydockref05_At_J1 : Option (Int) :=
  some (-1)
noncomputable def p_drydockref05_At (a0 : T_Table) (a1 : UInt32) : Option (Int) :=
  pm (
  lpU (fun x => p_drydockref05_At_L2 a0 a1 x) 0) (fun x => p_drydockref05_At_J1)
set_option maxHeartbeats 4000000 in
set_option maxRecDepth 100000 in
theorem c_drydockref05_At (a0 : T_Table) (a1 : UInt32) {r : Int} (h : p_drydockref05_At a0 a1 = some r) : Ctr prog 25 [.agg (enc_Table a0), .raw (.int .u32 (a1.toNat : Int))] [] (.raw (.int .i64 r)) [] := by
  unfold p_drydockref05_At at h
  refine Ctr.ofW tabOk func25 rfl call25 0 _ ntmps25 [.tmp 4] rfl rfl rfl (fun B => ?_)
  refine VC.seqF tabOkF [some 2, some 4] [1, 2] rfl rfl (fun K hK => ?_)
  push_cast
  repeat (refine And.intro (by omega) ?_)
  refine hK _ ?_
  clear hK K
  obtain ⟨v1, h, hk1⟩ := pm_some h
  refine VC.seqJ (X := Unit) (fun x => p_drydockref05_At_J1 = some r) (fun x => ⟨[], [], 24, 22, 0⟩) ?_ ?_
  · refine VC.seqF tabOkF [some 5] [1, 2, 5] rfl rfl (fun K hK => ?_)
    push_cast
    repeat (refine And.intro (by omega) ?_)
    refine hK _ ?_
    clear hK K
    refine VC.block ?_
    refine VC.loopP h (fun x => ⟨[(1, .raw (.int .u32 (a1.toNat : Int))), (2, .ref 0 0), (5, .raw (.int .i64 x))], [(0, .box 27 [.raw (.int .i64 a0.S.Kind), .raw (.int .i64 a0.S.Cap), .raw (.int .i64 a0.S.Words), .raw (.int .i64 a0.S.Ver), .sl false (a0.E.map enc_Entry), .raw (.int .u32 (a0.Next.toNat : Int))])], 19, 22, 0⟩) ?_ ?_
    · refine Sub.trans (Sub.lo _) ?_
      refine Sub.of ?_ ?_ ⟨rfl, rfl, Nat.le_of_ble_eq_true rfl⟩ rfl
      · push_cast
      · push_cast
    rintro i_1 b2 h hf2
    replace h : p_drydockref05_At_L2 a0 a1 i_1 = some b2 := h
    try push_cast
    unfold p_drydockref05_At_L2 at h
    refine VC.seq ?_
    refine VC.seqF tabOkF [some 6, some 7, some 8, some 9, some 10] [1, 2, 5, 10] rfl rfl (fun K hK => ?_)
    push_cast
    repeat (refine And.intro (by omega) ?_)
    refine hK _ ?_
    clear hK K
    refine VC.cond rfl rfl (fun hc3 => ?_) (fun hc3 => ?_)
    · have hb3 : (decide (i_1 < (a0.E.length : Int))) = true := by simpa using hc3
      replace h := cond_yes hb3 h
      refine VC.skip ?_
      refine VC.seq ?_
      refine VC.block ?_
      obtain ⟨x4, hx4, h⟩ := po_some h
      obtain ⟨hx41, hx42, hx43, hx44⟩ := idx_some4 hx4
      refine VC.seqF tabOkF [some 13, some 14, some 15, some 16, some 17, some 18, some 19, some 20] [1, 2, 5, 20] rfl rfl (fun K hK => ?_)
      push_cast [hb3, hx41, hx42, hx43, hx44]
      repeat (refine And.intro (by omega) ?_)
      refine hK _ ?_
      clear hK K
      refine VC.cond rfl rfl (fun hc5 => ?_) (fun hc5 => ?_)
      · have hb5 : ((x4.Key.toNat : Int) == (a1.toNat : Int)) = true := by simpa using hc5
        replace h := cond_yes hb5 h
        refine VC.seqF tabOkF [some 21, some 4] [4] rfl rfl (fun K hK => ?_)
        push_cast [hb3, hx41, hx42, hx43, hx44, hb5]
        repeat (refine And.intro (by omega) ?_)
        refine hK _ ?_
        clear hK K
        refine VC.ret ?_
        replace h := congrArg some (hf2 _ (Option.some.inj h).symm)
        have hv := Option.some.inj h
        rw [← hv] at hk1
        replace h : some i_1 = some r := hk1
        have hr := Option.some.inj h
        subst hr
        refine endP (Sub.lo _) (Post.ret ?_ ?_ ?_)
        · push_cast [hb3, hb5]
        · push_cast [hb3, hb5]
        · rfl
      · have hb5 : ((x4.Key.toNat : Int) == (a1.toNat : Int)) = false := by simpa using hc5
        replace h := cond_no hb5 h
        refine VC.skip ?_
        refine VC.lastF tabOkF [some 11, some 12, some 5] rfl rfl (fun K hK => ?_)
        push_cast [hb3, hx41, hx42, hx43, hx44, hb5]
        repeat (refine And.intro (by omega) ?_)
        refine hK _ ?_
        clear hK K
        refine Exists.intro ((IntKind.i64.wrap (i_1 + 1))) (And.intro (Option.some.inj h).symm ?_)
        refine Sub.trans (Sub.lo _) ?_
        refine Sub.of ?_ ?_ ⟨rfl, rfl, Nat.le_of_ble_eq_true rfl⟩ rfl
        · push_cast [hb3, hb5]
        · push_cast [hb3, hb5]
    · have hb3 : (decide (i_1 < (a0.E.length : Int))) = false := by simpa using hc3
      replace h := cond_no hb3 h
      refine VC.exit ?_
      replace h := congrArg some (hf2 _ (Option.some.inj h).symm)
      have hv := Option.some.inj h
      rw [← hv] at hk1
      refine Exists.intro (()) (And.intro hk1 ?_)
      refine Sub.trans (Sub.lo _) ?_
      refine Sub.of ?_ ?_ ⟨rfl, rfl, Nat.le_of_ble_eq_true rfl⟩ rfl
      · push_cast [hb3]
      · push_cast [hb3]
  · rintro ⟨⟩ h
    replace h : p_drydockref05_At_J1 = some r := h
    try push_cast
    unfold p_drydockref05_At_J1 at h
    refine VC.seqF tabOkF [some 4] [4] rfl rfl (fun K hK => ?_)
    push_cast
    repeat (refine And.intro (by omega) ?_)
    refine hK _ ?_
    clear hK K
    refine VC.ret ?_
    have hr := Option.some.inj h
    subst hr
    refine endP (Sub.lo _) (Post.ret ?_ ?_ ?_)
    · push_cast
    · push_cast
    · rfl
end Go.Proofs.Ytpmnchgpbojppaa

