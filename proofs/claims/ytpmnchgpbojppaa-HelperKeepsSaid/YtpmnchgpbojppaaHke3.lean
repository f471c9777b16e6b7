/-
  PROVED: the statement HelperKeeps of the given seat: whatever the helper, the environment and the words, drydocklaw06.HelperKeeps returns true, and what was handed in reads as it did.
  Conditions: none beyond the statement's own.
-/
import Derived.Test.YtpmnchgpbojppaaHke2
import Derived.Test.YtpmnchgpbojppaaRows
/- HelperKeeps, plainly. -/
set_option linter.unusedVariables false
set_option linter.unusedSimpArgs false
namespace Go.Proofs.Ytpmnchgpbojppaa
open Go Go.RowKit Go.Proofs.Try

/-- What is left of one table. -/
structure Left (a : List UInt32) (r : T_Env × UInt32 × Int) (e : T_Env) (j : Nat) (u t : T_Table) : Prop where
  s : u.S = t.S
  m : (toT t).may = true → (toT u).may = true
  own : u = t ∨ (r.2.2 = 0 ∧ a[0]?.map UInt32.toNat = some j)
structure Kept (n : Int) (e : T_Env) (a : List UInt32) (r : T_Env × UInt32 × Int) : Prop where
  ctx : r.1.Ctx = e.Ctx
  len : r.1.T.length = e.T.length
  seed : n ≠ 4 → r.1.Seed = e.Seed
  code : r.2.2 = 0 ∨ r.2.2 = 10
  tab : ∀ (j : Nat) (u t : T_Table), r.1.T[j]? = some u → e.T[j]? = some t → Left a r e j u t
theorem kept {n : Int} {e : T_Env} {a : List UInt32} {r : T_Env × UInt32 × Int} (h : CallR n e a r) : (r.2.2 = 1 ∧ r.1.T = []) ∨ Kept n e a r := by
  have same : ∀ (c : Int) (j : Nat) (u t : T_Table), e.T[j]? = some u → e.T[j]? = some t → u = t := fun c j u t hu ht => by
    rw [hu] at ht
    injection ht
  cases h with
  | arg h => exact .inl ⟨rfl, rfl⟩
  | draw h ha d =>
    right
    exact ⟨rfl, rfl, fun q => absurd h q, .inl rfl, fun j u t hu ht => by
      have := same 0 j u t hu ht
      subst this
      exact ⟨rfl, id, .inl rfl⟩⟩
  | fault h hn x hx hw =>
    right
    exact ⟨rfl, rfl, fun q => rfl, .inr rfl, fun j u t hu ht => by
      have := same 0 j u t hu ht
      subst this
      exact ⟨rfl, id, .inl rfl⟩⟩
  | act h hn x t0 u0 v hx ht0 hm hf hfd hA =>
    right
    obtain ⟨k1, k2⟩ := act_keeps hm hA
    refine ⟨rfl, List.length_set, fun q => rfl, .inl rfl, fun j u t hu ht => ?_⟩
    have hu' : (e.T.set x.toNat u0)[j]? = some u := hu
    rw [List.getElem?_set] at hu'
    split at hu'
    · rename_i hj
      subst hj
      rw [ht0] at ht
      injection ht with ht
      subst ht
      rw [if_pos (get_lt ht0)] at hu'
      injection hu' with hu'
      subst hu'
      exact ⟨k2, fun _ => k1, .inr ⟨rfl, by rw [hx]; rfl⟩⟩
    · have := same 0 j u t hu' ht
      subst this
      exact ⟨rfl, id, .inl rfl⟩
theorem s_eq (s t : T_Schema) (h : s = t) : ((s.Kind == t.Kind) && ((s.Cap == t.Cap) && ((s.Words == t.Words) && (s.Ver == t.Ver)))) = true := by subst h; simp
theorem keeps_step {n : Int} {e : T_Env} {a : List UInt32} {r : T_Env × UInt32 × Int} (hk : Kept n e a r) (hl : e.T.length ≤ 1048576) {m : Nat} (hlt : m < e.T.length) :
    p_drydocklaw06_HelperKeeps_L15 e a r r.1 m = some (.inl (r.1, ((m + 1 : Nat) : Int))) := by
  have hd : decide ((m : Int) < (e.T.length : Int)) = true := by simp; omega
  have hl2 := hk.len
  obtain ⟨u, hu⟩ : ∃ u, r.1.T[m]? = some u := ⟨_, List.getElem?_eq_getElem (by omega)⟩
  obtain ⟨t, ht⟩ : ∃ t, e.T[m]? = some t := ⟨_, List.getElem?_eq_getElem hlt⟩
  obtain ⟨q1, q2, q3⟩ := hk.tab m u t hu ht
  have w := w64 (show m < 9223372036854775807 by omega)
  have fin : ∀ b, (decide (u = t) = true ∨ b = true) → p_drydocklaw06_HelperKeeps_J20 (m : Int) t (decide (u = t)) r.1 b = some (.inl (r.1, ((m + 1 : Nat) : Int))) := fun b hb => by
    have tail : po (p_table_May t) (fun r26 => cond r26 (po (idx r.1.T (m : Int)) fun x28 => po (p_table_May x28) fun r29 => cond r29 (some (r.1, (!((x28.S.Kind == t.S.Kind) && ((x28.S.Cap == t.S.Cap) && ((x28.S.Words == t.S.Words) && (x28.S.Ver == t.S.Ver))))))) (some (r.1, true))) (po (idx r.1.T (m : Int)) fun x31 => some (r.1, (!((x31.S.Kind == t.S.Kind) && ((x31.S.Cap == t.S.Cap) && ((x31.S.Words == t.S.Words) && (x31.S.Ver == t.S.Ver)))))))) = some (r.1, false) := by
      simp only [p_table_May, po_of, idx_nat, hu]
      rcases Bool.eq_false_or_eq_true (toT t).may with h1 | h1
      · rw [h1, q2 h1]
        simp only [cond_true, s_eq _ _ q1, Bool.not_true]
      · rw [h1]
        simp only [cond_false, s_eq _ _ q1, Bool.not_true]
    unfold p_drydocklaw06_HelperKeeps_J20
    have done : ∀ X, X = some (r.1, false) → po X (fun x => p_drydocklaw06_HelperKeeps_J24 (m : Int) x.1 x.2) = some (.inl (r.1, ((m + 1 : Nat) : Int))) := fun X hX => by
      subst hX
      simp only [po_of, p_drydocklaw06_HelperKeeps_J24, cond_false, w]
    refine done _ ?_
    rcases Bool.eq_false_or_eq_true (decide (u = t)) with h1 | h1
    · rw [h1]
      exact tail
    · rw [h1]
      have hb' : b = true := by
        rcases hb with h2 | h2
        · rw [h1] at h2; cases h2
        · exact h2
      subst hb'
      exact tail
  unfold p_drydocklaw06_HelperKeeps_L15
  simp only [hd, cond_true, idx_nat, hu, ht, po_of, p_drydockref05_Same]
  by_cases hlen : (a.length : Int) > 0
  · simp only [hlen, decide_true, cond_true]
    obtain ⟨x, hx⟩ : ∃ x, a[0]? = some x := ⟨_, List.getElem?_eq_getElem (by omega)⟩
    simp only [hx, po_of]
    by_cases hxm : ((x.toNat : Int) == (m : Int)) = true
    · rw [hxm]
      simp only [cond_true, po_of]
      refine fin _ ?_
      rcases q3 with h1 | ⟨h1, _⟩
      · exact .inl (by simpa using h1)
      · exact .inr (by simpa using h1)
    · have hxm' : ((x.toNat : Int) == (m : Int)) = false := by simpa using hxm
      rw [hxm']
      simp only [cond_false, po_of]
      refine fin _ (.inl ?_)
      rcases q3 with h1 | ⟨_, h1⟩
      · simpa using h1
      · rw [hx] at h1
        simp at h1
        simp [h1] at hxm
  · have hlen' : decide ((a.length : Int) > 0) = false := by simpa using hlen
    simp only [hlen', cond_false, po_of]
    refine fin _ (.inl ?_)
    rcases q3 with h1 | ⟨_, h1⟩
    · simpa using h1
    · have : a = [] := List.eq_nil_of_length_eq_zero (by omega)
      rw [this] at h1
      cases h1
theorem keeps_true (n : Int) (e : T_Env) (a : List UInt32) : p_drydocklaw06_HelperKeeps n e a = some true := by
  obtain ⟨b, hb1, hb2⟩ := few_tells e.T
  unfold p_drydocklaw06_HelperKeeps
  simp only [awake6, hb1, po_of, cond_true]
  cases b with
  | false => rfl
  | true =>
    have hF := (hb2 rfl).fits
    simp only [cond_true, po_of]
    by_cases h8 : decide ((a.length : Int) > 8) = true
    · rw [h8]; rfl
    · have h8' : decide ((a.length : Int) > 8) = false := by simpa using h8
      rw [h8']
      obtain ⟨r, hr, hR⟩ := call_tells (n := n) (a := a) hF
      simp only [p_drydocklaw06_HelperKeeps_J3, cond_false, hr, po_of]
      rcases kept hR with ⟨h1, h2⟩ | hk
      · rw [h1, h2]; rfl
      · have c1 : (r.2.2 == 1) = false := by rcases hk.code with h | h <;> rw [h] <;> rfl
        have c2 : ((r.1.T.length : Int) != (e.T.length : Int)) = false := by simp [hk.len]
        have c3 : (((r.1.Ctx.a0.toNat : Int) == (e.Ctx.a0.toNat : Int)) && (((r.1.Ctx.a1.toNat : Int) == (e.Ctx.a1.toNat : Int)) && (((r.1.Ctx.a2.toNat : Int) == (e.Ctx.a2.toNat : Int)) && ((r.1.Ctx.a3.toNat : Int) == (e.Ctx.a3.toNat : Int))))) = true := by simp [hk.ctx]
        have c4 : (cond (n != 4) (some (r.1, ((r.1.Seed.toNat : Int) != (e.Seed.toNat : Int)))) (some (r.1, false)) : Option (T_Env × Bool)) = some (r.1, false) := by
          by_cases h4 : n = 4
          · subst h4; rfl
          · have : (n != 4) = true := by simpa using h4
            rw [this, hk.seed h4]
            simp
        simp only [c1, c2, c3, cond_false, cond_true]
        rw [c4]
        simp only [po_of, p_drydocklaw06_HelperKeeps_J9, cond_false]
        have hlen : e.T.length ≤ 1048576 := hF.len
        have key := lp_inv (step := fun x => p_drydocklaw06_HelperKeeps_L15 e a r x.1 x.2) (fun s => s.1 = r.1 ∧ ∃ m : Nat, s.2 = (m : Int) ∧ m ≤ e.T.length) (fun s => ((e.T.length : Int) - s.2).toNat) (fun q => q = .inl ()) (by
          rintro ⟨s, i⟩ ⟨h5, m, h6, h7⟩
          simp only at h5 h6
          subst h5
          subst h6
          by_cases hlt : m < e.T.length
          · left
            refine ⟨_, keeps_step hk hlen hlt, ⟨rfl, m + 1, rfl, by omega⟩, ?_⟩
            show ((e.T.length : Int) - ((m + 1 : Nat) : Int)).toNat < ((e.T.length : Int) - (m : Int)).toNat
            omega
          · right
            have hd : decide ((m : Int) < (e.T.length : Int)) = false := by simp; omega
            refine ⟨.inl (), ?_, rfl⟩
            simp only [p_drydocklaw06_HelperKeeps_L15, hd, cond_false]) (r.1, 0) ⟨rfl, 0, rfl, Nat.zero_le _⟩
        obtain ⟨q, h6, rfl⟩ := key
        rw [h6]
        show p_drydocklaw06_HelperKeeps_J14 r = some true
        unfold p_drydocklaw06_HelperKeeps_J14
        rcases hk.code with h | h <;> rw [h] <;> rfl
end Go.Proofs.Ytpmnchgpbojppaa

/-
  PROVED: the statement HelperKeeps of the given seat: whatever the helper, the environment and the words, drydocklaw06.HelperKeeps returns true, and what was handed in reads as it did.
  Conditions: none beyond the statement's own.
-/
set_option linter.unusedVariables false
set_option linter.unusedSimpArgs false
namespace Go.Proofs.Ytpmnchgpbojppaa
open Go Go.ChangeShapes Go.WideShapes Go.ChangeAt Go.RowKit Go.Proofs.Try

theorem o_3 {H : Type} {enc : TypeId × Value → H} {w : World} {base : Nat} {spare : Nat → Bool} {held : Bool} {fuel : Nat} {cs : List Value} {x : DataW H × List MemPlace} (h : DataW.trod enc prog w base spare held fuel 3 cs = some x) : ∃ a : Int, DRels w (okW w) (encI64 a) cs:= oI64 underlying3 h
theorem o_25 {H : Type} {enc : TypeId × Value → H} {w : World} {base : Nat} {spare : Nat → Bool} {held : Bool} {fuel : Nat} {cs : List Value} {x : DataW H × List MemPlace} (h : DataW.trod enc prog w base spare held fuel 25 cs = some x) : ∃ a : UInt32, DRels w (okW w) (encU32 a) cs:= oU32 underlying25 h
theorem o_53 {H : Type} {enc : TypeId × Value → H} {w : World} {base : Nat} {spare : Nat → Bool} {held : Bool} {fuel : Nat} {cs : List Value} {x : DataW H × List MemPlace} (h : DataW.trod enc prog w base spare held fuel 53 cs = some x) : ∃ a : (A4 UInt32), DRels w (okW w) ((encA4 encU32) a) cs := by
  obtain ⟨xs, m, _, _, hl, hxl, hg⟩ := DataW.trod_array underlying53 h
  have hl : cs.length = 4 := hl.trans (by kernel_rfl)
  replace hxl : xs.length = 4 := hxl
  have e0 : prog.cellsOf 25 = 1 := by kernel_rfl
  have h0 := hg 0 (by decide)
  simp only [e0, Nat.reduceMul] at h0
  obtain ⟨b0, r0⟩ := o_25 (h0.trans (List.getElem?_eq_getElem (by omega)))
  have e1 : prog.cellsOf 25 = 1 := by kernel_rfl
  have h1 := hg 1 (by decide)
  simp only [e1, Nat.reduceMul] at h1
  obtain ⟨b1, r1⟩ := o_25 (h1.trans (List.getElem?_eq_getElem (by omega)))
  have e2 : prog.cellsOf 25 = 1 := by kernel_rfl
  have h2 := hg 2 (by decide)
  simp only [e2, Nat.reduceMul] at h2
  obtain ⟨b2, r2⟩ := o_25 (h2.trans (List.getElem?_eq_getElem (by omega)))
  have e3 : prog.cellsOf 25 = 1 := by kernel_rfl
  have h3 := hg 3 (by decide)
  simp only [e3, Nat.reduceMul] at h3
  obtain ⟨b3, r3⟩ := o_25 (h3.trans (List.getElem?_eq_getElem (by omega)))
  have r := (DRels.cat (DRels.cat (DRels.cat r0 r1) r2) r3)
  refine ⟨A4.mk b0 b1 b2 b3, ?_⟩
  have hf := full hl
  rw [← hf]
  exact r
theorem o_23 {H : Type} {enc : TypeId × Value → H} {w : World} {base : Nat} {spare : Nat → Bool} {held : Bool} {fuel : Nat} {cs : List Value} {x : DataW H × List MemPlace} (h : DataW.trod enc prog w base spare held fuel 23 cs = some x) : ∃ a : T_Schema, DRels w (okW w) (enc_Schema a) cs := by
  obtain ⟨xs, m, _, _, hl, hxl, hg⟩ := DataW.trod_struct underlying23 h
  have hl : cs.length = 4 := hl.trans (by kernel_rfl)
  replace hxl : xs.length = 4 := hxl
  have e0 : prog.cellsOf 3 = 1 := by kernel_rfl
  have h0 : DataW.trod enc prog w base spare held m 3 ((cs.drop 0).take (prog.cellsOf 3)) = xs[0]? := hg 0 _ rfl
  simp only [e0, Nat.reduceMul] at h0
  obtain ⟨b0, r0⟩ := o_3 (h0.trans (List.getElem?_eq_getElem (by omega)))
  have e1 : prog.cellsOf 3 = 1 := by kernel_rfl
  have h1 : DataW.trod enc prog w base spare held m 3 ((cs.drop 1).take (prog.cellsOf 3)) = xs[1]? := hg 1 _ rfl
  simp only [e1, Nat.reduceMul] at h1
  obtain ⟨b1, r1⟩ := o_3 (h1.trans (List.getElem?_eq_getElem (by omega)))
  have e2 : prog.cellsOf 3 = 1 := by kernel_rfl
  have h2 : DataW.trod enc prog w base spare held m 3 ((cs.drop 2).take (prog.cellsOf 3)) = xs[2]? := hg 2 _ rfl
  simp only [e2, Nat.reduceMul] at h2
  obtain ⟨b2, r2⟩ := o_3 (h2.trans (List.getElem?_eq_getElem (by omega)))
  have e3 : prog.cellsOf 3 = 1 := by kernel_rfl
  have h3 : DataW.trod enc prog w base spare held m 3 ((cs.drop 3).take (prog.cellsOf 3)) = xs[3]? := hg 3 _ rfl
  simp only [e3, Nat.reduceMul] at h3
  obtain ⟨b3, r3⟩ := o_3 (h3.trans (List.getElem?_eq_getElem (by omega)))
  have r := (DRels.cat (DRels.cat (DRels.cat r0 r1) r2) r3)
  refine ⟨T_Schema.mk b0 b1 b2 b3, ?_⟩
  have hf := full hl
  rw [← hf]
  exact r
theorem o_36 {H : Type} {enc : TypeId × Value → H} {w : World} {base : Nat} {spare : Nat → Bool} {held : Bool} {fuel : Nat} {cs : List Value} {x : DataW H × List MemPlace} (h : DataW.trod enc prog w base spare held fuel 36 cs = some x) : ∃ a : (List UInt32), DRels w (okW w) ((encL encU32) a) cs:= oSl (f := encU32) (sz := 1) underlying36 (by kernel_rfl) (by decide) (fun _ => rfl) (fun _ _ _ h => o_25 h) h
theorem o_39 {H : Type} {enc : TypeId × Value → H} {w : World} {base : Nat} {spare : Nat → Bool} {held : Bool} {fuel : Nat} {cs : List Value} {x : DataW H × List MemPlace} (h : DataW.trod enc prog w base spare held fuel 39 cs = some x) : ∃ a : T_Entry, DRels w (okW w) (enc_Entry a) cs := by
  obtain ⟨xs, m, _, _, hl, hxl, hg⟩ := DataW.trod_struct underlying39 h
  have hl : cs.length = 2 := hl.trans (by kernel_rfl)
  replace hxl : xs.length = 2 := hxl
  have e0 : prog.cellsOf 25 = 1 := by kernel_rfl
  have h0 : DataW.trod enc prog w base spare held m 25 ((cs.drop 0).take (prog.cellsOf 25)) = xs[0]? := hg 0 _ rfl
  simp only [e0, Nat.reduceMul] at h0
  obtain ⟨b0, r0⟩ := o_25 (h0.trans (List.getElem?_eq_getElem (by omega)))
  have e1 : prog.cellsOf 36 = 1 := by kernel_rfl
  have h1 : DataW.trod enc prog w base spare held m 36 ((cs.drop 1).take (prog.cellsOf 36)) = xs[1]? := hg 1 _ rfl
  simp only [e1, Nat.reduceMul] at h1
  obtain ⟨b1, r1⟩ := o_36 (h1.trans (List.getElem?_eq_getElem (by omega)))
  have r := (DRels.cat r0 r1)
  refine ⟨T_Entry.mk b0 b1, ?_⟩
  have hf := full hl
  rw [← hf]
  exact r
theorem o_24 {H : Type} {enc : TypeId × Value → H} {w : World} {base : Nat} {spare : Nat → Bool} {held : Bool} {fuel : Nat} {cs : List Value} {x : DataW H × List MemPlace} (h : DataW.trod enc prog w base spare held fuel 24 cs = some x) : ∃ a : (List T_Entry), DRels w (okW w) ((encL enc_Entry) a) cs:= oSl (f := enc_Entry) (sz := 2) underlying24 (by kernel_rfl) (by decide) (fun _ => rfl) (fun _ _ _ h => o_39 h) h
theorem o_27 {H : Type} {enc : TypeId × Value → H} {w : World} {base : Nat} {spare : Nat → Bool} {held : Bool} {fuel : Nat} {cs : List Value} {x : DataW H × List MemPlace} (h : DataW.trod enc prog w base spare held fuel 27 cs = some x) : ∃ a : T_Table, DRels w (okW w) (enc_Table a) cs := by
  obtain ⟨xs, m, _, _, hl, hxl, hg⟩ := DataW.trod_struct underlying27 h
  have hl : cs.length = 6 := hl.trans (by kernel_rfl)
  replace hxl : xs.length = 3 := hxl
  have e0 : prog.cellsOf 23 = 4 := by kernel_rfl
  have h0 : DataW.trod enc prog w base spare held m 23 ((cs.drop 0).take (prog.cellsOf 23)) = xs[0]? := hg 0 _ rfl
  simp only [e0, Nat.reduceMul] at h0
  obtain ⟨b0, r0⟩ := o_23 (h0.trans (List.getElem?_eq_getElem (by omega)))
  have e1 : prog.cellsOf 24 = 1 := by kernel_rfl
  have h1 : DataW.trod enc prog w base spare held m 24 ((cs.drop 4).take (prog.cellsOf 24)) = xs[1]? := hg 1 _ rfl
  simp only [e1, Nat.reduceMul] at h1
  obtain ⟨b1, r1⟩ := o_24 (h1.trans (List.getElem?_eq_getElem (by omega)))
  have e2 : prog.cellsOf 25 = 1 := by kernel_rfl
  have h2 : DataW.trod enc prog w base spare held m 25 ((cs.drop 5).take (prog.cellsOf 25)) = xs[2]? := hg 2 _ rfl
  simp only [e2, Nat.reduceMul] at h2
  obtain ⟨b2, r2⟩ := o_25 (h2.trans (List.getElem?_eq_getElem (by omega)))
  have r := (DRels.cat (DRels.cat r0 r1) r2)
  refine ⟨T_Table.mk b0 b1 b2, ?_⟩
  have hf := full hl
  rw [← hf]
  exact r
theorem o_51 {H : Type} {enc : TypeId × Value → H} {w : World} {base : Nat} {spare : Nat → Bool} {held : Bool} {fuel : Nat} {cs : List Value} {x : DataW H × List MemPlace} (h : DataW.trod enc prog w base spare held fuel 51 cs = some x) : ∃ a : (List T_Table), DRels w (okW w) ((encL enc_Table) a) cs:= oSl (f := enc_Table) (sz := 6) underlying51 (by kernel_rfl) (by decide) (fun _ => rfl) (fun _ _ _ h => o_27 h) h
theorem o_55 {H : Type} {enc : TypeId × Value → H} {w : World} {base : Nat} {spare : Nat → Bool} {held : Bool} {fuel : Nat} {cs : List Value} {x : DataW H × List MemPlace} (h : DataW.trod enc prog w base spare held fuel 55 cs = some x) : ∃ a : T_Env, DRels w (okW w) (enc_Env a) cs := by
  obtain ⟨xs, m, _, _, hl, hxl, hg⟩ := DataW.trod_struct underlying55 h
  have hl : cs.length = 6 := hl.trans (by kernel_rfl)
  replace hxl : xs.length = 3 := hxl
  have e0 : prog.cellsOf 53 = 4 := by kernel_rfl
  have h0 : DataW.trod enc prog w base spare held m 53 ((cs.drop 0).take (prog.cellsOf 53)) = xs[0]? := hg 0 _ rfl
  simp only [e0, Nat.reduceMul] at h0
  obtain ⟨b0, r0⟩ := o_53 (h0.trans (List.getElem?_eq_getElem (by omega)))
  have e1 : prog.cellsOf 51 = 1 := by kernel_rfl
  have h1 : DataW.trod enc prog w base spare held m 51 ((cs.drop 4).take (prog.cellsOf 51)) = xs[1]? := hg 1 _ rfl
  simp only [e1, Nat.reduceMul] at h1
  obtain ⟨b1, r1⟩ := o_51 (h1.trans (List.getElem?_eq_getElem (by omega)))
  have e2 : prog.cellsOf 25 = 1 := by kernel_rfl
  have h2 : DataW.trod enc prog w base spare held m 25 ((cs.drop 5).take (prog.cellsOf 25)) = xs[2]? := hg 2 _ rfl
  simp only [e2, Nat.reduceMul] at h2
  obtain ⟨b2, r2⟩ := o_25 (h2.trans (List.getElem?_eq_getElem (by omega)))
  have r := (DRels.cat (DRels.cat r0 r1) r2)
  refine ⟨T_Env.mk b0 b1 b2, ?_⟩
  have hf := full hl
  rw [← hf]
  exact r

theorem helperKeepsOwn : ownKnob Try.prog.godebug = none := by kernel_rfl
theorem helperKeepsLaid : laidOutB Try.prog = true := by kernel_rfl

set_option maxRecDepth 100000 in
theorem helperKeeps_lifted (os : Os) (started : os.Started) (H : Type) (enc : TypeId × Value → H) :
    ReturnsInHanded {} Try.checked os 13 .any (Rows.helperKeepsSpec.pre6 enc Try.prog Try.f13 Rows.helperKeepsRow.domain false) (Rows.helperKeepsSpec.post enc Try.prog Try.f13 false true false false) := by
  refine returnsInHanded_of_change (C := Try.checked) helperKeepsOwn started (by kernel_rfl) Try.func13
    (ChangeSpec.witness6 (enc := enc) (C := Try.checked) false ⟨#[], #[.int .i64 0, .agg #[.int .u32 0, .int .u32 0, .int .u32 0, .int .u32 0, .slice none 0 0, .int .u32 0], .slice none 0 0], []⟩ 8 (by kernel_rfl) (by kernel_rfl) (by kernel_rfl) (by kernel_rfl)) ?_
  intro W base args ds gs before hval0 hW _ _
  have hval : ∀ (j : Nat) t v, Try.f13.params[j]? = some t → args[j]? = some v → Value.okWide Try.prog W .any base t v := hval0
  have hW' := hW
  obtain ⟨p, q, hA0, hV, rfl, hfz, hnd⟩ := hW
  have hA : DataW.TrodAll enc Try.prog W 0 (fun _ => true) true Try.f13.params.toList args.toList ds p := hA0
  rw [Try.params13] at hA hval
  obtain ⟨l⟩ := args
  obtain ⟨v0, l0, d0, ds0, p0, q0, rfl, rfl, _, h0, hA1⟩ := trodAll_cons hA
  obtain ⟨v1, l1, d1, ds1, p1, q1, rfl, rfl, _, h1, hA2⟩ := trodAll_cons hA1
  obtain ⟨v2, l2, d2, ds2, p2, q2, rfl, rfl, _, h2, hA3⟩ := trodAll_cons hA2
  obtain ⟨rfl, rfl, _⟩ := trodAll_nil hA3
  obtain ⟨rfl, rfl⟩ := trodVars_none hV
  obtain ⟨z0, rfl⟩ := okWide_int underlying3 (hval 0 _ v0 rfl rfl)
  obtain ⟨fuel0, hf0⟩ := h0
  obtain ⟨a0, r0⟩ := o_3 hf0
  obtain ⟨cs1, rfl, _⟩ := okWide_struct underlying55 (hval 1 _ v1 rfl rfl)
  obtain ⟨fuel1, hf1⟩ := h1
  obtain ⟨a1, r1⟩ := o_55 hf1
  obtain ⟨A2, n2, c2, rfl⟩ := okWide_slice underlying36 (hval 2 _ v2 rfl rfl)
  obtain ⟨fuel2, hf2⟩ := h2
  obtain ⟨a2, r2⟩ := o_36 hf2
  refine (Ctr.law (c_drydocklaw06_HelperKeeps a0 a1 a2 (keeps_true a0 a1 a2)) rfl (VRels.of1 (.cons (arg_one r0) (.cons (arg_agg r1) (.cons (arg_one r2) (.nil)))))).mono fun e W' ⟨he, hw⟩ => ?_
  subst he
  exact ⟨_, rfl, post_law helperKeepsLaid hW' rfl rfl (by kernel_rfl) rfl rfl rfl hw⟩

theorem helperKeeps_holds : Rows.HelperKeepsSaid :=
  OpenClaim.holds_of_wide 13 Try.f13 rfl rfl rfl rfl rfl rfl rfl ⟨rfl, rfl, rfl, rfl, rfl⟩ rfl rfl rfl rfl rfl (by kernel_rfl) Try.func13 (by kernel_rfl)
    (of_decide_eq_true (by kernel_rfl)) (by unfold Func.isWrapper; first | (rw [if_pos (by decide +kernel)]; kernel_rfl) | (rw [if_neg (by decide +kernel)]; exact ⟨rfl, rfl⟩))
    (fun os started H enc _ => helperKeeps_lifted os started H enc)
end Go.Proofs.Ytpmnchgpbojppaa

