/- The abstract machine, third part. -/
import Derived.Test.YtpmnchgpbojppaaMb
import Derived.Scope
/- The abstract machine: calls; what any operation comes to. -/
set_option linter.unusedVariables false
namespace Go.Proofs.Ytpmnchgpbojppaa
open Go Go.RowKit

section
variable {P : Program} {T : Nat → TI} {B : Base} {D : Nat → Prop} {nid : Nat} {s : St} {a : Act} {w : World} {x : Cx} {K : AV → Wr → Prop} {hp : Hp}

/-! ### Contexts that know less -/
/-- Of fewer numbers. -/
def Cx.only (x : Cx) (d : Nat → Bool) : Cx := { x with dom := fun k g => x.dom k g ∧ d k = true }
theorem VRel.in0_ {d : Nat → Bool} {u : AV} {v : Value} (h : VRel w x hp u v) (hd : u.in0 d = true) : VRel w (x.only d) hp u v := by
  cases h with
  | dat h => exact .dat h
  | ref id off p hid h => exact .ref _ _ _ ⟨hid, hd⟩ h
  | elt id g sz i off p hid h => exact .elt _ _ _ _ _ _ ⟨hid, hd⟩ h
  | datp els i off sz p vals h3 h4 h5 h6 => exact .datp _ _ _ _ p vals h3 h4 h5 h6
  | row id g sz lo n A c hid hc h => exact .row _ _ _ _ _ _ _ ⟨hid, hd⟩ hc h
  | bsl id off n A c hid hc hm h => exact .bsl _ _ _ _ _ ⟨hid, hd⟩ hc hm h
  | mp id r hid h => exact .mp _ _ ⟨hid, hd⟩ h
  | dead v => exact .dead v
  | agg | tup | fn | ifb => simp [AV.in0] at hd
theorem all_at {α : Type} {l : List α} {p : α → Bool} (h : l.all p = true) {i : Nat} {u : α} (hi : l[i]? = some u) : p u = true := (List.all_eq_true.1 h) u (List.mem_of_getElem? hi)
theorem VRel.in1_ {d : Nat → Bool} {u : AV} {v : Value} (h : VRel w x hp u v) (hd : u.in1 d = true) : VRel w (x.only d) hp u v := by
  cases u with
  | fn f first caps =>
    simp only [AV.in1, Bool.and_eq_true] at hd
    cases h with
    | dat h => cases h
    | fn _ _ _ fs cs h3 h4 h5 h6 => exact .fn _ _ _ fs cs h3 h4 (fun i u hu => (h5 i u hu).in0_ (all_at hd.1 hu)) (fun i u hu => (h6 i u hu).in0_ (all_at hd.2 hu))
  | _ => exact h.in0_ hd
theorem VRel.in2_ {d : Nat → Bool} {u : AV} {v : Value} (h : VRel w x hp u v) (hd : u.in2 d = true) : VRel w (x.only d) hp u v := by
  cases u with
  | agg cs =>
    cases h with
    | dat h => cases h
    | agg _ vs h3 h4 h5 => exact .agg _ vs h3 h4 (fun i u hu => (h5 i u hu).in1_ (all_at hd hu))
  | _ => exact h.in1_ hd
theorem VRel.in3_ {d : Nat → Bool} {u : AV} {v : Value} (h : VRel w x hp u v) (hd : u.in3 d = true) : VRel w (x.only d) hp u v := by
  cases u with
  | tup cs =>
    cases h with
    | dat h => cases h
    | tup _ vs h3 h5 => exact .tup _ vs h3 (fun i u hu => (h5 i u hu).in2_ (all_at hd hu))
  | ifb c u =>
    cases h with
    | dat h => cases h
    | ifb _ _ _ h0 h3 => exact .ifb _ _ _ h0 fun hc => (h3 hc).in2_ hd
  | _ => exact h.in2_ hd

/-- One's objects, those lent: H. -/
def SubH (H hp : Hp) : Prop := ∀ id o, look H id = some o → look hp id = some o
theorem subH_of {H hp : Hp} (h : ∀ p ∈ H, look hp p.1 = some p.2) : SubH H hp := by
  intro id o hl
  induction H with
  | nil => simp [look] at hl
  | cons p H ih =>
    obtain ⟨j, u⟩ := p
    simp only [look] at hl
    split at hl
    · rename_i e
      injection hl with hl
      subst e
      subst hl
      exact h (id, u) (by simp)
    · exact ih (fun p hp => h p (by simp [hp])) hl
theorem Mo.sub {H : Hp} (hs : SubH H hp) : Mo w x hp w x H :=
  ⟨fun _ h => h, fun _ _ h => h, fun _ _ => rfl, fun id _ ⟨t, cs, h⟩ => ⟨⟨t, cs, hs _ _ h⟩, rfl⟩, fun id g sz _ ⟨t, cs, h⟩ => ⟨⟨t, cs, hs _ _ h⟩, rfl, rfl⟩, fun id _ ⟨t, cs, h⟩ => ⟨⟨t, cs, hs _ _ h⟩, rfl⟩⟩

theorem ORel.only_ {H : Hp} (hs : SubH H hp) {d : Nat → Bool} {id : Nat} {o : AObj} (h : ORel w x hp id o) (hd : o.inD d = true) : ORel w (x.only d) H id o := by
  have m : Mo w (x.only d) hp w (x.only d) H := Mo.sub hs
  cases o with
  | box t cs =>
    obtain ⟨b, vs, h1, h2, h3, h4, h5⟩ := h
    exact ⟨b, vs, h1, h2, h3, h4, fun i u hu => ((h5 i u hu).in1_ (all_at hd hu)).mono m⟩
  | row t sz g els => exact h
  | mp es n =>
    obtain ⟨b, ms, h1, h2, h3, h4⟩ := h
    refine ⟨b, ms, h1, h2, h3, fun i k u hu => ?_⟩
    obtain ⟨m', e1, e2, e3⟩ := h4 i k u hu
    exact ⟨m', e1, e2, (e3.in1_ (by have := all_at hd hu; exact this)).mono m⟩
/-- Fewer objects, and numbers. -/
theorem HRel.sub {H : Hp} (h : HRel w x hp) (hs : SubH H hp) (d : Nat → Bool) (hd : ∀ id o, look H id = some o → d id = true ∧ o.inD d = true) : HRel w (x.only d) H where
  okb := h.okb
  dom id o hl := ⟨h.dom id o (hs _ _ hl), (hd id o hl).1⟩
  gen id t sz g els g' hl hdm := h.gen id t sz g els g' (hs _ _ hl) hdm.1
  gdm id t sz g els hl := ⟨h.gdm id t sz g els (hs _ _ hl), (hd id _ hl).1⟩
  liv id o b hl hb := h.liv id o b (hs _ _ hl) hb
  inj id id' o o' b hl hl' := h.inj id id' o o' b (hs _ _ hl) (hs _ _ hl')
  obj id o hl := (h.obj id o (hs _ _ hl)).only_ hs (hd id o hl).2

theorem look_callW (H H' hp : Hp) (id : Nat) : look (applyW (callW H H') hp) id = match look H' id with
    | some o => some o
    | none => if H.has id then none else look hp id := by
  have h1 : ∀ (l : Hp) (hp : Hp), look (applyW (l.map fun p => (p.1, none)) hp) id = if l.has id then none else look hp id := by
    intro l
    induction l with
    | nil => intro hp; rfl
    | cons p l ih =>
      obtain ⟨j, u⟩ := p
      intro hp
      simp only [List.map_cons, applyW]
      rw [ih, look_delA]
      unfold Hp.has
      simp only [look]
      by_cases h : id = j
      · subst h
        simp
      · simp [h]
  have h2 : ∀ (l : Hp) (hp : Hp), look (applyW (l.map fun p => (p.1, some p.2)) hp) id = match look l.reverse id with
      | some o => some o
      | none => look hp id := by
    have app : ∀ (a b : Hp), look (a ++ b) id = match look a id with | some o => some o | none => look b id := by
      intro a b
      induction a with
      | nil => rfl
      | cons p a ih =>
        obtain ⟨j, u⟩ := p
        simp only [List.cons_append, look]
        split
        · rfl
        · exact ih
    intro l
    induction l with
    | nil => intro hp; rfl
    | cons p l ih =>
      obtain ⟨j, u⟩ := p
      intro hp
      simp only [List.map_cons, applyW, List.reverse_cons]
      rw [ih, look_setA, app]
      cases look l.reverse id with
      | some o => rfl
      | none =>
        simp only [look]
        by_cases h : id = j
        · simp [h]
        · simp [h]
  unfold callW
  rw [applyW_append, h2, h1, List.reverse_reverse]

/-- A call, by its contract. -/
theorem call_s (hC : Core B D s a w x) {o : Oper} {f : FuncId} {H H' : Hp} {r : AV} {args : List AV} {vals : Array Value} (hrun : (execOp a.eval o).run P w = (callFunc f vals).run P w)
    (hvals : vals.size = args.length) (hargs : ∀ (i : Nat) (u : AV), args[i]? = some u → VRel w x s.hp u (vals.getD i undef)) (hsub : ∀ p ∈ H, look s.hp p.1 = some p.2) (hctr : Ctr P f args H r H')
    (hin : (args.all (AV.in3 H.has)) = true) (hinH : (H.all fun p => p.2.inD H.has) = true) (hnew : (H'.all fun p => H.has p.1 || p.1 == nid) = true) (hfr : ¬ D nid)
    {next : Act → World → Prop} {Qx : Exit → Act → World → Prop} (hn : ∀ val w' x', Stp w x s.hp w' x' (applyW (callW H H') s.hp) → VRel w' x' (applyW (callW H H') s.hp) r val → (∀ id g, x'.dom id g → x.dom id g ∨ id = nid ∨ s.hp.has id = true) → next (a.put o.dst val) w') : o.wp P a w next Qx := by
  have hS := subH_of hsub
  have hHin : ∀ id o, look H id = some o → H.has id = true ∧ o.inD H.has = true := fun id o hl => by
    refine ⟨by simp [Hp.has, hl], ?_⟩
    have : ∀ (l : Hp), (l.all fun p => p.2.inD H.has) = true → look l id = some o → o.inD H.has = true := by
      intro l
      induction l with
      | nil => intro _ h; simp [look] at h
      | cons p l ih =>
        obtain ⟨j, u⟩ := p
        intro h1 h2
        simp only [List.all_cons, Bool.and_eq_true] at h1
        simp only [look] at h2
        split at h2
        · injection h2 with h2
          subst h2
          exact h1.1
        · exact ih h1.2 h2
    exact this H hinH hl
  have hH := hC.h.sub hS H.has hHin
  have hm := Mo.sub (w := w) (x := x.only H.has) hS
  have hcall := hctr.2 w (x.only H.has) vals hH (fun id g hd => hd.2) hvals (fun i u hu => ((hargs i u hu).in3_ (all_at hin hu)).mono hm)
  unfold Oper.wp
  rw [hrun, hctr.1]
  refine hcall.mono ?_
  rintro e w' ⟨v, x', rfl, st, hv, hdom⟩
  -- the caller's objects, behind the call
  have hH'new : ∀ id o, look H' id = some o → H.has id = true ∨ id = nid := fun id o hl => by
    have : ∀ (l : Hp), (l.all fun p => H.has p.1 || p.1 == nid) = true → look l id = some o → H.has id = true ∨ id = nid := by
      intro l
      induction l with
      | nil => intro _ h; simp [look] at h
      | cons p l ih =>
        obtain ⟨j, u⟩ := p
        intro h1 h2
        simp only [List.all_cons, Bool.and_eq_true, Bool.or_eq_true, beq_iff_eq] at h1
        simp only [look] at h2
        split at h2
        · rename_i e
          rw [e]
          exact h1.1
        · exact ih h1.2 h2
    exact this H' hnew hl
  have hnid : look s.hp nid = none := by
    cases hl : look s.hp nid with
    | none => rfl
    | some o => exact absurd (hC.dom _ _ (hC.h.dom _ _ hl)) hfr
  have hlk := look_callW H H' s.hp
  generalize hhp : applyW (callW H H') s.hp = hp' at hlk
  let mine : Nat → Bool := fun id => H.has id || H'.has id
  have lk1 : ∀ id, mine id = true → look hp' id = look H' id := fun id hm => by
    rw [hlk]
    cases h1 : look H' id with
    | some o => rfl
    | none =>
      have : H.has id = true := by
        simp only [mine, Bool.or_eq_true] at hm
        rcases hm with h | h
        · exact h
        · simp [Hp.has, h1] at h
      simp [this]
  have lk2 : ∀ id, mine id = false → look hp' id = look s.hp id := fun id hm => by
    simp only [mine, Bool.or_eq_false_iff] at hm
    rw [hlk]
    cases h1 : look H' id with
    | some o => simp [Hp.has, h1] at hm
    | none => simp [hm.1]
  have hmine_hp : ∀ id, mine id = true → s.hp.has id = true ∨ id = nid := fun id hm => by
    simp only [mine, Bool.or_eq_true] at hm
    rcases hm with h | h
    · obtain ⟨o, ho⟩ := Option.isSome_iff_exists.1 h
      exact .inl (by simp [Hp.has, hS _ _ ho])
    · obtain ⟨o, ho⟩ := Option.isSome_iff_exists.1 h
      rcases hH'new _ _ ho with h2 | h2
      · obtain ⟨o', ho'⟩ := Option.isSome_iff_exists.1 h2
        exact .inl (by simp [Hp.has, hS _ _ ho'])
      · exact .inr h2
  let x2 : Cx := { ok := fun b => x.ok b ∨ x'.ok b, dom := fun k g => x.dom k g ∨ (x'.dom k g ∧ mine k = true), β := fun k => if mine k then x'.β k else x.β k, γ := fun k => if mine k then x'.γ k else x.γ k }
  have b1 : ∀ k, mine k = true → x2.β k = x'.β k := fun k h => if_pos h
  have b2 : ∀ k, mine k = false → x2.β k = x.β k := fun k h => if_neg (by simp [h])
  have g1 : ∀ k, mine k = true → x2.γ k = x'.γ k := fun k h => if_pos h
  have g2 : ∀ k, mine k = false → x2.γ k = x.γ k := fun k h => if_neg (by simp [h])
  -- a block of one's own that was not lent is as it was
  have keep : ∀ id o b, look s.hp id = some o → x.β id = some b → H.has id = false → w'.heap[b]? = w.heap[b]? := fun id o b hl hb hnH => by
    refine st.tr.keep b (hC.h.liv id o b hl hb).1 fun id' o' hl' hb' => ?_
    have := hC.h.inj id id' o o' b hl (hS _ _ hl') hb hb'
    subst this
    simp [Hp.has, hl'] at hnH
  have agok : Agr x.ok w w' := fun b hb => st.tr.keep b (hC.h.okb b hb) fun id' o' hl' hb' => (hC.h.liv id' o' b (hS _ _ hl') hb').2 hb
  have hnm : ∀ id o, look s.hp id = some o → mine id = false → H.has id = false := fun id o _ h => by simp only [mine, Bool.or_eq_false_iff] at h; exact h.1
  have lentb : ∀ id o b, look H' id = some o → x'.β id = some b → w.heap.size ≤ b ∨ ∃ id0 o0, look H id0 = some o0 ∧ x.β id0 = some b := fun id o b hl hb => st.tr.newb id o b hl hb
  have mo : Mo w x s.hp w' x2 hp' := by
    refine ⟨fun _ h => .inl h, fun _ _ h => .inl h, agok, ?_, ?_, ?_⟩
    · rintro k hd ⟨t, cs, hl⟩
      cases hmk : mine k with
      | true =>
        rw [lk1 k hmk] at hl
        have hHk : H.has k = true := by
          rcases hH'new _ _ hl with h | h
          · exact h
          · exact absurd (hC.dom _ _ hd) (h ▸ hfr)
        obtain ⟨⟨t', cs', h1⟩, h2⟩ := st.mo.box k ⟨hd, hHk⟩ ⟨t, cs, hl⟩
        exact ⟨⟨t', cs', hS _ _ h1⟩, (b1 k hmk).trans h2⟩
      | false =>
        rw [lk2 k hmk] at hl
        exact ⟨⟨t, cs, hl⟩, b2 k hmk⟩
    · rintro k g sz hd ⟨t, cs, hl⟩
      cases hmk : mine k with
      | true =>
        rw [lk1 k hmk] at hl
        have hHk : H.has k = true := by
          rcases hH'new _ _ hl with h | h
          · exact h
          · exact absurd (hC.dom _ _ hd) (h ▸ hfr)
        obtain ⟨⟨t', cs', h1⟩, h2, h3⟩ := st.mo.row k g sz ⟨hd, hHk⟩ ⟨t, cs, hl⟩
        exact ⟨⟨t', cs', hS _ _ h1⟩, (b1 k hmk).trans h2, (g1 k hmk).trans h3⟩
      | false =>
        rw [lk2 k hmk] at hl
        exact ⟨⟨t, cs, hl⟩, b2 k hmk, g2 k hmk⟩
    · rintro k hd ⟨t, cs, hl⟩
      cases hmk : mine k with
      | true =>
        rw [lk1 k hmk] at hl
        have hHk : H.has k = true := by
          rcases hH'new _ _ hl with h | h
          · exact h
          · exact absurd (hC.dom _ _ hd) (h ▸ hfr)
        obtain ⟨⟨t', cs', h1⟩, h2⟩ := st.mo.mp k ⟨hd, hHk⟩ ⟨t, cs, hl⟩
        exact ⟨⟨t', cs', hS _ _ h1⟩, (b1 k hmk).trans h2⟩
      | false =>
        rw [lk2 k hmk] at hl
        exact ⟨⟨t, cs, hl⟩, b2 k hmk⟩
  have mo2 : Mo w' x' H' w' x2 hp' := by
    have hmd : ∀ k g, x'.dom k g → mine k = true := fun k g hd => by
      simp only [mine, Bool.or_eq_true]
      exact (hdom k g hd).symm
    refine ⟨fun _ h => .inr h, fun k g h => .inr ⟨h, hmd k g h⟩, fun _ _ => rfl, ?_, ?_, ?_⟩
    · rintro k hd ⟨t, cs, hl⟩
      have hmk := hmd _ _ hd
      rw [lk1 k hmk] at hl
      exact ⟨⟨t, cs, hl⟩, b1 k hmk⟩
    · rintro k g sz hd ⟨t, cs, hl⟩
      have hmk := hmd _ _ hd
      rw [lk1 k hmk] at hl
      exact ⟨⟨t, cs, hl⟩, b1 k hmk, g1 k hmk⟩
    · rintro k hd ⟨t, cs, hl⟩
      have hmk := hmd _ _ hd
      rw [lk1 k hmk] at hl
      exact ⟨⟨t, cs, hl⟩, b1 k hmk⟩
  have hsz := st.tr.size
  have okb' : ∀ b, x'.ok b → x.ok b ∨ w.heap.size ≤ b ∨ ∃ id o, look H id = some o ∧ x.β id = some b := fun b hb => st.tr.okx b hb
  have hr2 : HRel w' x2 hp' := by
    refine ⟨?_, ?_, ?_, ?_, ?_, ?_, ?_⟩
    · rintro b (h | h)
      · exact Nat.lt_of_lt_of_le (hC.h.okb b h) hsz
      · exact st.h.okb b h
    · intro k o hl
      cases hmk : mine k with
      | true =>
        rw [lk1 k hmk] at hl
        exact .inr ⟨st.h.dom k o hl, hmk⟩
      | false =>
        rw [lk2 k hmk] at hl
        exact .inl (hC.h.dom k o hl)
    · intro k t sz g els g' hl hd
      cases hmk : mine k with
      | true =>
        rw [lk1 k hmk] at hl
        rcases hd with hd | ⟨hd, _⟩
        · have hHk : H.has k = true := by
            rcases hH'new _ _ hl with h | h
            · exact h
            · exact absurd (hC.dom _ _ hd) (h ▸ hfr)
          exact st.h.gen k t sz g els g' hl (st.mo.dom _ _ ⟨hd, hHk⟩)
        · exact st.h.gen k t sz g els g' hl hd
      | false =>
        rw [lk2 k hmk] at hl
        rcases hd with hd | ⟨_, hd⟩
        · exact hC.h.gen k t sz g els g' hl hd
        · rw [hmk] at hd
          cases hd
    · intro k t sz g els hl
      cases hmk : mine k with
      | true =>
        rw [lk1 k hmk] at hl
        exact .inr ⟨st.h.gdm k t sz g els hl, hmk⟩
      | false =>
        rw [lk2 k hmk] at hl
        exact .inl (hC.h.gdm k t sz g els hl)
    · intro k o b hl hb
      cases hmk : mine k with
      | true =>
        rw [lk1 k hmk] at hl
        rw [b1 k hmk] at hb
        have h1 := st.h.liv k o b hl hb
        refine ⟨h1.1, ?_⟩
        rintro (h2 | h2)
        · rcases lentb k o b hl hb with h3 | ⟨id0, o0, h3, h4⟩
          · have := hC.h.okb b h2
            omega
          · exact (hC.h.liv id0 o0 b (hS _ _ h3) h4).2 h2
        · exact h1.2 h2
      | false =>
        rw [lk2 k hmk] at hl
        rw [b2 k hmk] at hb
        have h1 := hC.h.liv k o b hl hb
        refine ⟨by omega, ?_⟩
        rintro (h2 | h2)
        · exact h1.2 h2
        · rcases okb' b h2 with h3 | h3 | ⟨id0, o0, h3, h4⟩
          · exact h1.2 h3
          · omega
          · have := hC.h.inj k id0 o o0 b hl (hS _ _ h3) hb h4
            subst this
            have := hnm k o hl hmk
            simp [Hp.has, h3] at this
    · intro k k' o1 o2 b hl hl' hb hb'
      have cross : ∀ k k' o1 o2, mine k = true → mine k' = false → look hp' k = some o1 → look hp' k' = some o2 → x2.β k = some b → x2.β k' = some b → False := by
        intro k k' o1 o2 hm hm' hl hl' hb hb'
        rw [lk1 k hm] at hl
        rw [lk2 k' hm'] at hl'
        rw [b1 k hm] at hb
        rw [b2 k' hm'] at hb'
        have h1 := hC.h.liv k' o2 b hl' hb'
        rcases lentb k o1 b hl hb with h3 | ⟨id0, o0, h3, h4⟩
        · omega
        · have := hC.h.inj k' id0 o2 o0 b hl' (hS _ _ h3) hb' h4
          subst this
          have := hnm k' o2 hl' hm'
          simp [Hp.has, h3] at this
      cases hmk : mine k with
      | true =>
        cases hmk' : mine k' with
        | true =>
          rw [lk1 k hmk] at hl
          rw [lk1 k' hmk'] at hl'
          rw [b1 k hmk] at hb
          rw [b1 k' hmk'] at hb'
          exact st.h.inj k k' o1 o2 b hl hl' hb hb'
        | false => exact (cross k k' o1 o2 hmk hmk' hl hl' hb hb').elim
      | false =>
        cases hmk' : mine k' with
        | true => exact (cross k' k o2 o1 hmk' hmk hl' hl hb' hb).elim
        | false =>
          rw [lk2 k hmk] at hl
          rw [lk2 k' hmk'] at hl'
          rw [b2 k hmk] at hb
          rw [b2 k' hmk'] at hb'
          exact hC.h.inj k k' o1 o2 b hl hl' hb hb'
    · intro k o hl
      cases hmk : mine k with
      | true =>
        rw [lk1 k hmk] at hl
        exact (st.h.obj k o hl).mono mo2 (b1 k hmk) (g1 k hmk) (fun _ _ => rfl)
      | false =>
        rw [lk2 k hmk] at hl
        exact (hC.h.obj k o hl).mono mo (b2 k hmk) (g2 k hmk) (fun b hb => keep k o b hl hb (hnm k o hl hmk))
  have tr : Tr w x s.hp w' x2 hp' := by
    refine ⟨st.tr.os, st.tr.tape, st.tr.output, hsz, fun b hb hno => st.tr.keep b hb fun id o hl hb' => hno id o (hS _ _ hl) hb', ?_, ?_⟩
    · rintro b (h | h)
      · exact .inl h
      · rcases okb' b h with h3 | h3 | ⟨id0, o0, h3, h4⟩
        · exact .inl h3
        · exact .inr (.inl h3)
        · exact .inr (.inr ⟨id0, o0, hS _ _ h3, h4⟩)
    · intro k o b hl hb
      cases hmk : mine k with
      | true =>
        rw [lk1 k hmk] at hl
        rw [b1 k hmk] at hb
        rcases lentb k o b hl hb with h3 | ⟨id0, o0, h3, h4⟩
        · exact .inl h3
        · exact .inr ⟨id0, o0, hS _ _ h3, h4⟩
      | false =>
        rw [lk2 k hmk] at hl
        rw [b2 k hmk] at hb
        exact .inr ⟨k, o, hl, hb⟩
  rw [hhp] at hn
  refine hn v w' x2 ⟨mo, tr, hr2⟩ (hv.mono mo2) ?_
  rintro id g (h | ⟨_, h⟩)
  · exact .inl h
  · rcases hmine_hp id h with h | h
    · exact .inr (.inr h)
    · exact .inr (.inl h)
end
end Go.Proofs.Ytpmnchgpbojppaa

/- The abstract machine: any operation. -/
set_option linter.unusedVariables false
namespace Go.Proofs.Ytpmnchgpbojppaa
open Go Go.RowKit

section
variable {P : Program} {T : Nat → TI} {B : Base} {D : Nat → Prop} {nid : Nat} {s : St} {a : Act} {w : World} {x : Cx} {K : AV → Wr → Prop} {hp : Hp}

/-- The end of an operation: what it told, and wrote. -/
def Nxt (nid : Nat) (s : St) (a : Act) (w : World) (x : Cx) (o : Oper) (K : AV → Wr → Prop) (next : Act → World → Prop) : Prop :=
  ∀ v wr val w' x', K v wr → Stp w x s.hp w' x' (applyW wr s.hp) → VRel w' x' (applyW wr s.hp) v val → (∀ id g, x'.dom id g → x.dom id g ∨ id = nid ∨ s.hp.has id = true) → next (a.put o.dst val) w'
theorem Fin.wp {o : Oper} {next : Act → World → Prop} {Qx : Exit → Act → World → Prop} (h : Fin P nid s a w x o K) (hn : Nxt nid s a w x o K next) : o.wp P a w next Qx := by
  obtain ⟨v, wr, val, w', x', hK, hr, st, hv, hd⟩ := h
  unfold Oper.wp
  rcases hr with hr | ⟨hr, rfl⟩ <;> rw [hr]
  · exact hn v wr val w' x' hK st hv hd
  · exact hn v wr undef w' x' hK st hv hd
theorem FinR.fin {o : Oper} {run : Value → World → Prop} (h : FinR nid s w x K run) (hr : ∀ v w', run v w' → (execOp a.eval o).run P w = .ok (.value v) w') : Fin P nid s a w x o K := by
  obtain ⟨v, wr, val, w', x', hK, h1, st, hv, hd⟩ := h
  exact ⟨v, wr, val, w', x', hK, .inl (hr _ _ h1), st, hv, hd⟩

theorem arr_of_list {args : Array Operand} {l : List Value} (h : args.toList.map a.eval = l) : args.map a.eval = l.toArray := by
  apply Array.ext'
  simpa using h
theorem so_builtin (hT : TabOk P T) (hC : Core B D s a w x) (hfr : ¬ D nid) {c : Bool} (hc : c = true) {o : Oper} {cl : Call} {b : Builtin} (ho : o.op = .call cl) (hb : cl.callee = .builtin b) {us : List AV} (hus : VRels w x s.hp us (cl.args.toList.map a.eval))
    (h : wpQ P nid s (builtinQ T nid c b cl.argTypes.toList us) K) : Fin P nid s a w x o K := by
  obtain ⟨callee, args, argTypes⟩ := cl
  simp only at hb hus h
  subst hb
  generalize hl : args.toList.map a.eval = ml at hus
  unfold builtinQ at h
  split at h
  · -- len
    rename_i t u hts
    have hats : argTypes = #[t] := by
      have : argTypes.toList.toArray = [t].toArray := by rw [hts]
      simpa using this
    cases hus with
    | @cons _ v _ m h1 h2 =>
      have hargs : args.map a.eval = #[v] := by
        cases h2
        exact arr_of_list hl
      split at h
      · rename_i e hk
        have hu := und_sl hT hk
        unfold lenQ at h
        split at h
        · cases h1 with
          | dat hd =>
            cases hd with
            | sl => exact Fin.quiet hC h (by simp [execOp, ho, resolve, invoke, builtin, hargs, hats, Builtin.len_, run_underlying hu, goInt]) (.raw _)
        · cases h1 with
          | dat hd => cases hd
          | row => exact Fin.quiet hC h (by simp [execOp, ho, resolve, invoke, builtin, hargs, hats, Builtin.len_, run_underlying hu, goInt]) (.raw _)
        · cases h1 with
          | dat hd => cases hd
          | bsl => exact Fin.quiet hC h (by simp [execOp, ho, resolve, invoke, builtin, hargs, hats, Builtin.len_, run_underlying hu, goInt]) (.raw _)
        · exact h.elim
      · rename_i n e hk
        have hu := und_arr hT hk
        exact Fin.quiet hC h (by simp [execOp, ho, resolve, invoke, builtin, hargs, hats, Builtin.len_, run_underlying hu, goInt]) (.raw _)
      · exact h.elim
  · -- append
    rename_i t t' u u' hts
    have hats : argTypes = #[t, t'] := by
      have : argTypes.toList.toArray = [t, t'].toArray := by rw [hts]
      simpa using this
    cases hus with
    | @cons _ v _ m h1 h2 =>
      cases h2 with
      | @cons _ v' _ m' h3 h4 =>
        have hargs : args.map a.eval = #[v, v'] := by
          cases h4
          exact arr_of_list hl
        unfold appendQ at h
        split at h
        · rename_i e hk
          have hu := und_sl hT hk
          obtain ⟨⟨_, rfl, hs0, hkn⟩, h5⟩ := h
          obtain ⟨new, A, cp, vals, rfl, hsrc, h6⟩ := elsQ_s hC h3 h5
          have fin : ∀ v0, v = v0 → FinR nid s w x K (AppRun P t w v0 (.slice A new.length cp)) → Fin P nid s a w x o K := fun v0 e hf => hf.fin fun r w' hr => by
            have := hr o.type
            simp [execOp, ho, resolve, invoke, builtin, hargs, hats, e, this]
          split at h6
          · cases h1 with
            | dat hd =>
              cases hd with
              | sl _ _ A0 c0 sz vals0 hcc hm ht =>
                have := ht rfl
                simp only [List.length_nil] at this
                subst this
                exact fin _ rfl (appNew_s hT hC hfr hu hkn hs0 hsrc h6)
          · exact fin _ rfl (appTight_s hT hC hu hkn hs0 h1 hsrc h6)
          · simp only [wpQ] at h6
            split at h6
            · rename_i ob hob
              exact fin _ rfl (appRow_s hT hC hu hkn hs0 h1 hob hsrc h6)
            · exact h6.elim
          · exact h6.elim
        · exact h.elim
  · -- copy
    rename_i t t' u u' hts
    have hats : argTypes = #[t, t'] := by
      have : argTypes.toList.toArray = [t, t'].toArray := by rw [hts]
      simpa using this
    cases hus with
    | @cons _ v _ m h1 h2 =>
      cases h2 with
      | @cons _ v' _ m' h3 h4 =>
        have hargs : args.map a.eval = #[v, v'] := by
          cases h4
          exact arr_of_list hl
        unfold copyQ at h
        split at h
        · rename_i e hk
          have hu := und_sl hT hk
          obtain ⟨⟨_, rfl, hs0, hkn⟩, h5⟩ := h
          obtain ⟨new, A, cp, vals, rfl, hsrc, h6⟩ := elsQ_s hC h3 h5
          split at h6
          · simp only [wpQ] at h6
            split at h6
            · rename_i ob hob
              split at h6
              · obtain ⟨⟨rfl, rfl, rfl, hle⟩, hK⟩ := h6
                refine (copyRow_s (c := cp) hT hC hu hkn hs0 h1 hob hsrc hle hK).fin fun r w' hr => ?_
                have := hr o.type
                simp [execOp, ho, resolve, invoke, builtin, hargs, hats, this]
              · exact h6.elim
            · exact h6.elim
          · exact h6.elim
        · exact h.elim
  · -- min
    rename_i k1 m1 k2 m2
    cases hus with
    | @cons _ v _ m h1 h2 =>
      cases h2 with
      | @cons _ v' _ m' h3 h4 =>
        have e1 := h1.rawEq
        have e2 := h3.rawEq
        subst e1
        subst e2
        have hargs : args.map a.eval = #[.int k1 m1, .int k2 m2] := by
          cases h4
          exact arr_of_list hl
        obtain ⟨rfl, hK⟩ := h
        exact Fin.quiet hC hK (by simp [execOp, ho, resolve, invoke, builtin, hargs, Builtin.min_, Builtin.min2]) (.raw _)
  · exact h.elim

theorem evOp_s (hT : TabOk P T) (hC : Core B D s a w x) (hfr : ¬ D nid) {c : Bool} (hc : c = true) {o : Oper} (h : wpQ P nid s (evOp T nid c o.op) K) {next : Act → World → Prop} {Qx : Exit → Act → World → Prop} (hn : Nxt nid s a w x o K next) : o.wp P a w next Qx := by
  cases hop : o.op with
  | move y => rw [hop] at h; exact (so_move hC hc (.inl hop) h).wp hn
  | assign y => rw [hop] at h; exact (so_move hC hc (.inr hop) h).wp hn
  | pick y y1 y2 => rw [hop] at h; exact (so_pick T hC hc hop h).wp hn
  | alloc t => rw [hop] at h; exact (so_alloc hT hC hfr hop h).wp hn
  | box t y => rw [hop] at h; exact (so_box (T := T) hC hfr hc hop h).wp hn
  | build t parts => rw [hop] at h; exact (so_build hT hC hc hop h).wp hn
  | buildSlice t n parts => rw [hop] at h; exact (so_buildSlice hT hC hfr hc hop h).wp hn
  | load t y => rw [hop] at h; exact (so_load hT hC hc hop h).wp hn
  | store t y z => rw [hop] at h; exact (so_store hT hC hc hop h).wp hn
  | nilCheck y => rw [hop] at h; exact (so_nilCheck (T := T) hC hc hop h).wp hn
  | binOp op t y z yt => rw [hop] at h; exact (so_bin hT hC hc hop h).wp hn
  | unOp op t y => rw [hop] at h; exact (so_un (T := T) hC hc hop h).wp hn
  | convert t d y => rw [hop] at h; exact (so_conv hT hC hc hop h).wp hn
  | makeFunc f first caps => rw [hop] at h; exact (so_func (T := T) hC hc hop h).wp hn
  | makeSlice t y z => rw [hop] at h; exact (so_make hT hC hfr hc hop h).wp hn
  | slice t y lo hi mx => rw [hop] at h; exact (so_slice hT hC hc hop h).wp hn
  | fieldAddr t y f => rw [hop] at h; exact (so_fieldAddr hT hC hc hop h).wp hn
  | field t y f => rw [hop] at h; exact (so_field hT hC hc hop h).wp hn
  | indexAddr t y z => rw [hop] at h; exact (so_indexAddr hT hC hc hop h).wp hn
  | index t y z => rw [hop] at h; exact (so_index hT hC hc hop h).wp hn
  | extract y i => rw [hop] at h; exact (so_extract (T := T) hC hc hop h).wp hn
  | call cl =>
    rw [hop] at h
    cases hcal : cl.callee with
    | builtin b =>
      simp only [evOp, callQ, hcal] at h
      obtain ⟨us, h1, h2⟩ := opds_s hC hc h
      exact (so_builtin hT hC hfr hc hop hcal h1 h2).wp hn
    | invoke _ _ => simp only [evOp, callQ, hcal] at h; exact h.elim
    | value g =>
      simp only [evOp, callQ, hcal] at h
      obtain ⟨u, h1, h2⟩ := opd_s hC hc h
      split at h2
      · rename_i f first caps
        obtain ⟨us, h3, H, r, H', hsub, hctr, hin, hinH, hnew, hK⟩ := opds_s hC hc h2
        generalize hg : a.eval g = gv at h1
        cases h1 with
        | dat hd => cases hd
        | fn _ _ _ fs cs hl hl' h5 h6 =>
          have r1 : VRels w x s.hp first fs.toList := VRels.of_at (by simpa using hl) (by simpa using h5)
          have r2 : VRels w x s.hp caps cs.toList := VRels.of_at (by simpa using hl') (by simpa using h6)
          have r3 := (r1.append h3).append r2
          have hsize := r3.len
          refine call_s (vals := (fs.toList ++ cl.args.toList.map a.eval ++ cs.toList).toArray) hC ?_ (by simpa using hsize) r3.at_ hsub hctr hin hinH hnew hfr (fun val w' x' a1 a2 a3 => hn r _ val w' x' hK a1 a2 a3)
          obtain ⟨callee, args, argTypes⟩ := cl
          simp only at hcal
          subst hcal
          have e : (fs.toList ++ args.toList.map a.eval ++ cs.toList).toArray = fs ++ args.map a.eval ++ cs := by
            apply Array.ext'
            simp
          simp only
          rw [e]
          simp [execOp, hop, resolve, hg, Deferred.ofValue, invoke]
      · exact h2.elim
  | _ => rw [hop] at h; exact h.elim

theorem guard_no {q : Q} {c : Bool} : c = false → wpQ P nid s (guardQ c q) K → ∃ v, K (.ifb c v) [] := by
  intro hc
  induction q with
  | done v wr => intro h; exact ⟨v, h.2⟩
  | call g f args =>
    cases g with
    | none => rintro ⟨r, _, _, h⟩; exact ⟨r, h⟩
    | some c' => intro h; exact h.elim
  | need p k ih => intro h; exact ih h.2
  | slot t k ih =>
    intro h
    simp only [guardQ, wpQ] at h
    split at h
    · exact ih _ h
    · exact h.elim
  | obj id k ih =>
    intro h
    simp only [guardQ, wpQ] at h
    split at h
    · exact ih _ h
    · exact h.elim
  | bad => intro h; exact h.elim
theorem guard_yes {q : Q} {c : Bool} : c = true → wpQ P nid s (guardQ c q) K → wpQ P nid s q (fun v wr => wr = [] ∧ K (.ifb c v) []) := by
  intro hc
  induction q with
  | done v wr => intro h; exact h
  | call g f args =>
    cases g with
    | none =>
      rintro ⟨r, h1, h2, h3⟩
      refine ⟨[], r, [], (fun p hp => by cases hp), h1 hc, ?_, rfl, rfl, rfl, h3⟩
      have : (Hp.has []) = fun _ => false := by funext k; rfl
      rw [this]
      exact h2
    | some c' => intro h; exact h.elim
  | need p k ih => intro h; exact ⟨h.1, ih h.2⟩
  | slot t k ih =>
    intro h
    simp only [guardQ, wpQ] at h ⊢
    split at h
    · exact ih _ h
    · exact h.elim
  | obj id k ih =>
    intro h
    simp only [guardQ, wpQ] at h ⊢
    split at h
    · exact ih _ h
    · exact h.elim
  | bad => intro h; exact h.elim
end
end Go.Proofs.Ytpmnchgpbojppaa

/- The abstract machine: regions. -/
set_option linter.unusedVariables false
namespace Go.Proofs.Ytpmnchgpbojppaa
open Go Go.RowKit

def St.wr (s : St) (wr : Wr) : St := { s with hp := applyW wr s.hp }
def St.put (s : St) (d : Option Nat) (v : AV) : St := match d with
  | none => s
  | some d => { s with tm := (d, v) :: s.tm }

/-- Operations, in the order of the text. -/
def runOps (P : Program) (T : Nat → TI) (dsts : List (Option Nat)) : List Oper → Nat → St → (St → Prop) → Prop
  | [], i, s, K => K { s with nx := s.nx + i }
  | o :: r, i, s, K => wpQ P (s.nx + i) s (evOper T (s.nx + i) dsts o) fun v wr => runOps P T dsts r (i + 1) ((s.wr wr).put o.dst v) K

section
variable {P : Program} {T : Nat → TI} {B : Base} {D : Nat → Prop} {nid : Nat} {s : St} {a : Act} {w : World} {x : Cx} {K : AV → Wr → Prop} {hp : Hp}

def D1 (D : Nat → Prop) (nid : Nat) (id : Nat) : Prop := D id ∨ id = nid
/-- The state behind an operation. -/
theorem Core.next (hC : Core B D s a w x) {wr : Wr} {v : AV} {val : Value} {w' : World} {x' : Cx} {d : Option Nat} (hd : ∀ k, d = some k → k < s.nt) (st : Stp w x s.hp w' x' (applyW wr s.hp)) (hv : VRel w' x' (applyW wr s.hp) v val)
    (hdom : ∀ id g, x'.dom id g → x.dom id g ∨ id = nid ∨ s.hp.has id = true) : Core B (D1 D nid) ((s.wr wr).put d v) (a.put d val) w' x' := by
  have hdm : ∀ id g, x'.dom id g → D1 D nid id := fun id g h => by
    rcases hdom id g h with h1 | h1 | h1
    · exact .inl (hC.dom _ _ h1)
    · exact .inr h1
    · obtain ⟨o, ho⟩ := Option.isSome_iff_exists.1 h1
      exact .inl (hC.dom _ _ (hC.h.dom _ _ ho))
  cases d with
  | none => exact ⟨st.h, fun t u ht => (hC.t t u ht).mono st.mo, hC.n, hC.d, hC.tr.trans st.tr, hC.mo.trans st.mo, hC.lo, hC.ln, hdm⟩
  | some d =>
    have hlt := hd d rfl
    refine ⟨st.h, ?_, ?_, ?_, hC.tr.trans st.tr, hC.mo.trans st.mo, hC.lo, hC.ln, hdm⟩
    · intro t u ht
      simp only [St.put, St.wr, look] at ht
      simp only [Act.put]
      split at ht
      · rename_i e
        injection ht with ht
        subst ht
        subst e
        have : (a.tmps.setIfInBounds t val).getD t undef = val := by
          have := hC.n
          simp [show t < a.tmps.size by omega]
        rw [this]
        exact hv
      · rename_i e
        have : (a.tmps.setIfInBounds d val).getD t undef = a.tmps.getD t undef := by
          simp only [Array.getD_eq_getD_getElem?]
          rw [Array.getElem?_setIfInBounds_ne (Ne.symm e)]
        rw [this]
        exact (hC.t t u ht).mono st.mo
    · simp [Act.put, hC.n, St.put, St.wr]
    · simp [Act.put, hC.d]
theorem yielded_of (hC : Core B D s a w x) {ops : Array Oper} {j d : Nat} (hd : (ops[j]?).bind (·.dst) = some d) {b : Bool} (hl : a.tmps.getD d undef = .bool b) : yielded ops a.tmps j = some b := by
  unfold yielded
  rw [hd]
  simp only [Option.bind_some]
  rw [Array.getD_eq_getD_getElem?] at hl
  cases h : a.tmps[d]? with
  | none => rw [h] at hl; simp [undef] at hl
  | some v => rw [h] at hl; simp at hl; rw [hl]
theorem yielded_no (hC : Core B D s a w x) {ops : Array Oper} {j d : Nat} (hd : (ops[j]?).bind (·.dst) = some d) (hl : a.tmps.getD d undef = undef) : yielded ops a.tmps j = none := by
  unfold yielded
  rw [hd]
  simp only [Option.bind_some]
  rw [Array.getD_eq_getD_getElem?] at hl
  cases h : a.tmps[d]? with
  | none => rfl
  | some v => rw [h] at hl; simp at hl; rw [hl]; rfl

def dstsOf (ops : Array Oper) : List (Option Nat) := ops.toList.map (·.dst)
theorem dsts_at {ops : Array Oper} {j d : Nat} (h : (dstsOf ops).getD j none = some d) : (ops[j]?).bind (·.dst) = some d := by
  unfold dstsOf at h
  rw [List.getD_eq_getElem?_getD, List.getElem?_map] at h
  cases ho : ops.toList[j]? with
  | none => rw [ho] at h; simp at h
  | some o =>
    rw [ho] at h
    have : ops[j]? = some o := by rw [← Array.getElem?_toList]; exact ho
    rw [this]
    simpa using h

/-- An operation of a region. -/
theorem wpOp_s (hT : TabOk P T) (hC : Core B D s a w x) (hfr : ¬ D nid) {ops : Array Oper} {Qx : Exit → Act → World → Prop} {i : Nat} {o : Oper} (hi : ops[i]? = some o) (hdst : ∀ k, o.dst = some k → k < s.nt)
    {K' : AV → Wr → Prop} (h : wpQ P nid s (evOper T nid (dstsOf ops) o) K') {next : Act → World → Prop} (hn : ∀ v wr a' w' x', K' v wr → Core B (D1 D nid) ((s.wr wr).put o.dst v) a' w' x' → next a' w') : wpOp P ops Qx i next a w := by
  have nxt : ∀ {K : AV → Wr → Prop}, (∀ v wr, K v wr → K' v wr) → Nxt nid s a w x o K next := fun hK v wr val w' x' hk st hv hdom => hn v wr _ w' x' (hK _ _ hk) (hC.next hdst st hv hdom)
  unfold wpOp
  rw [hi]
  simp only
  unfold evOper at h
  split at h
  · rename_i hg
    have hw : Region.wanted o (yielded ops a.tmps) = true := by simp [Region.wanted, hg]
    rw [if_pos hw]
    exact .inl (evOp_s hT hC hfr rfl h (nxt fun _ _ h => h))
  · rename_i j want hg
    split at h
    · exact h.elim
    · rename_i d hd
      have hyd := dsts_at hd
      simp only [wpQ] at h
      split at h
      · rename_i gv hgv
        have hgrel := hC.t _ _ hgv
        -- the guard, told
        have key : ∀ (c : Bool), (c = true → yielded ops a.tmps j = some want) → (c = false → yielded ops a.tmps j ≠ some want) → wpQ P nid s (guardQ c (evOp T nid c o.op)) K' →
            if Region.wanted o (yielded ops a.tmps) = true then o.wp P a w next Qx ∨ (o.asks P a w ∧ LetsOut Qx) else next (a.put o.dst undef) w := by
          intro c h1 h2 h
          cases c with
          | true =>
            have hw : Region.wanted o (yielded ops a.tmps) = true := by simp [Region.wanted, hg, h1 rfl]
            rw [if_pos hw]
            refine .inl (evOp_s hT hC hfr rfl (guard_yes rfl h) ?_)
            rintro v wr val w' x' ⟨rfl, hk⟩ st hv hdom
            exact hn _ [] _ w' x' hk (hC.next hdst st (.ifb _ _ _ (fun h => by cases h) fun _ => hv) hdom)
          | false =>
            have hw : ¬ Region.wanted o (yielded ops a.tmps) = true := by
              simp only [Region.wanted, hg, beq_iff_eq]
              exact h2 rfl
            rw [if_neg hw]
            obtain ⟨v, hk⟩ := guard_no rfl h
            exact hn _ [] _ w x hk (hC.next hdst (Stp.refl hC.h) (.ifb _ _ _ (fun _ => rfl) fun h => by cases h) (fun _ _ h => .inl h))
        split at h
        · rename_i b
          have hb := yielded_of hC hyd hgrel.rawEq
          refine key (b == want) (fun h => ?_) (fun h => ?_) h
          · rw [hb]
            simp at h
            rw [h]
          · rw [hb]
            simp at h
            simpa using h
        · rename_i g b
          cases hgrel with
          | dat h => cases h
          | ifb _ _ v h0 h1 =>
            rename_i hval
            cases g with
            | true =>
              have hb := yielded_of hC hyd (h1 rfl).rawEq
              refine key (true && (b == want)) (fun h => ?_) (fun h => ?_) h
              · rw [hb]
                simp at h
                rw [h]
              · rw [hb]
                simp at h
                simpa using h
            | false =>
              have hb := yielded_no hC hyd (h0 rfl)
              exact key (false && (b == want)) (fun h => by simp at h) (fun _ => by rw [hb]; simp) h
        · exact h.elim
      · exact h.elim

theorem runOps_s (hT : TabOk P T) {ops : Array Oper} {Qx : Exit → Act → World → Prop} {nx : Nat} {K : St → Prop} (hd : (ops.all fun o => match o.dst with | some k => decide (k < s.nt) | none => true) = true)
    (hQ : ∀ s' a' w' x', K s' → Core B (· < s'.nx) s' a' w' x' → Qx .normal a' w') :
    ∀ (l : List Oper) (i : Nat) (s' : St) (a : Act) (w : World) (x : Cx), (ops.toList.drop i = l) → s'.nt = s.nt → s'.nx = nx → Core B (· < nx + i) s' a w x → runOps P T (dstsOf ops) l i s' K → wpOps P ops Qx (List.range' i l.length) a w
  | [], i, s', a, w, x, _, _, hnx, hC, h => by
    refine hQ _ a w x h ?_
    exact ⟨hC.h, hC.t, hC.n, hC.d, hC.tr, hC.mo, hC.lo, by have := hC.ln; show s'.lo ≤ s'.nx + i; omega, fun id g hdm => by have := hC.dom id g hdm; show id < s'.nx + i; omega⟩
  | o :: l, i, s', a, w, x, hl, hnt, hnx, hC, h => by
    have hi : ops[i]? = some o := by
      rw [← Array.getElem?_toList]
      have := List.getElem?_drop (xs := ops.toList) (i := i) (j := 0)
      rw [hl] at this
      simpa using this.symm
    rw [List.length_cons, List.range'_succ, wpOps_cons]
    have hdst : ∀ k, o.dst = some k → k < s'.nt := fun k hk => by
      have h1 := (Array.all_eq_true_iff_forall_mem.1 hd) o (Array.mem_of_getElem? hi)
      rw [hk] at h1
      rw [hnt]
      simpa using h1
    unfold runOps at h
    rw [hnx] at h
    refine wpOp_s hT hC (nid := nx + i) (by omega) hi hdst h ?_
    intro v wr a' w' x' hk hC'
    refine runOps_s (nx := nx) hT hd hQ l (i + 1) _ a' w' x' ?_ ?_ ?_ ?_ hk
    · rw [← List.drop_drop, hl]
      rfl
    · rw [← hnt]
      cases o.dst <;> rfl
    · rw [← hnx]
      cases o.dst <;> rfl
    · refine ⟨hC'.h, hC'.t, hC'.n, hC'.d, hC'.tr, hC'.mo, hC'.lo, hC'.ln, fun id g hdm => ?_⟩
      rcases hC'.dom id g hdm with h1 | h1 <;> omega
end
end Go.Proofs.Ytpmnchgpbojppaa

/- The abstract machine: regions that draw their order. -/
set_option linter.unusedVariables false
namespace Go.Proofs.Ytpmnchgpbojppaa
open Go Go.RowKit

/-- What is read, or written: a slot, an object. -/
inductive Ky where
  | t (n : Nat)
  | o (n : Nat)
  deriving DecidableEq
def St.at_ (s : St) : Ky → Option (AV ⊕ AObj)
  | .t n => (look s.tm n).map .inl
  | .o n => (look s.hp n).map .inr
/-- The same, as far as it can be read. -/
structure St.eqv (s s' : St) : Prop where
  tm : ∀ n, look s.tm n = look s'.tm n
  hp : ∀ n, look s.hp n = look s'.hp n
  nx : s.nx = s'.nx
  nt : s.nt = s'.nt
  lo : s.lo = s'.lo
theorem St.eqv.refl (s : St) : s.eqv s := ⟨fun _ => rfl, fun _ => rfl, rfl, rfl, rfl⟩
theorem St.eqv.symm {s s' : St} (h : s.eqv s') : s'.eqv s := ⟨fun n => (h.tm n).symm, fun n => (h.hp n).symm, h.nx.symm, h.nt.symm, h.lo.symm⟩
theorem St.eqv.trans {a b c : St} (h : a.eqv b) (k : b.eqv c) : a.eqv c := ⟨fun n => (h.tm n).trans (k.tm n), fun n => (h.hp n).trans (k.hp n), h.nx.trans k.nx, h.nt.trans k.nt, h.lo.trans k.lo⟩

def wrKeys (d : Option Nat) (wr : Wr) : List Ky := (match d with | some d => [.t d] | none => []) ++ wr.map fun p => .o p.1
def wpQD (P : Program) (nid : Nat) (s : St) : Q → List Ky → (List Ky → AV → Wr → Prop) → Prop
  | .done v wr, rs, K => K rs v wr
  | .call none f args, rs, K => ∃ H r H', (∀ p ∈ H, look s.hp p.1 = some p.2) ∧ Ctr P f args H r H' ∧ (args.all (AV.in3 H.has)) = true ∧ (H.all fun p => p.2.inD H.has) = true ∧ (H'.all fun p => H.has p.1 || p.1 == nid) = true ∧ K (H.map (fun p => .o p.1) ++ rs) r (callW H H')
  | .call (some c) f args, rs, K => ∃ r, (c = true → Ctr P f args [] r []) ∧ (args.all (AV.in3 fun _ => false)) = true ∧ K rs (.ifb c r) []
  | .need p k, rs, K => p ∧ wpQD P nid s k rs K
  | .slot t k, rs, K => match look s.tm t with
    | some v => wpQD P nid s (k v) (.t t :: rs) K
    | none => False
  | .obj id k, rs, K => match look s.hp id with
    | some o => wpQD P nid s (k o) (.o id :: rs) K
    | none => False
  | .bad, _, _ => False
theorem wpQD_res {P : Program} {nid : Nat} {s : St} {q : Q} : ∀ {rs : List Ky} {K : List Ky → AV → Wr → Prop}, wpQD P nid s q rs K → ∃ rs' v wr, K rs' v wr ∧ wpQD P nid s q rs fun a b c => a = rs' ∧ b = v ∧ c = wr := by
  induction q with
  | done v wr => intro rs K h; exact ⟨rs, v, wr, h, rfl, rfl, rfl⟩
  | call g f args =>
    intro rs K h
    cases g with
    | none =>
      obtain ⟨H, r, H', h1, h2, h3, h4, h5, h6⟩ := h
      exact ⟨_, _, _, h6, H, r, H', h1, h2, h3, h4, h5, rfl, rfl, rfl⟩
    | some c =>
      obtain ⟨r, h1, h2, h3⟩ := h
      exact ⟨_, _, _, h3, r, h1, h2, rfl, rfl, rfl⟩
  | need p k ih =>
    intro rs K h
    obtain ⟨rs', v, wr, h1, h2⟩ := ih h.2
    exact ⟨rs', v, wr, h1, h.1, h2⟩
  | slot t k ih =>
    intro rs K h
    simp only [wpQD] at h ⊢
    cases hl : look s.tm t with
    | none => rw [hl] at h; exact h.elim
    | some v => rw [hl] at h; exact ih v h
  | obj id k ih =>
    intro rs K h
    simp only [wpQD] at h ⊢
    cases hl : look s.hp id with
    | none => rw [hl] at h; exact h.elim
    | some v => rw [hl] at h; exact ih v h
  | bad => intro rs K h; exact h.elim
theorem wpQD_wpQ {P : Program} {nid : Nat} {s : St} {q : Q} : ∀ {rs : List Ky} {K : List Ky → AV → Wr → Prop}, wpQD P nid s q rs K → wpQ P nid s q fun v wr => ∃ rs', K rs' v wr := by
  induction q with
  | done v wr => intro rs K h; exact ⟨rs, h⟩
  | call g f args =>
    intro rs K h
    cases g with
    | none =>
      obtain ⟨H, r, H', h1, h2, h3, h4, h5, h6⟩ := h
      exact ⟨H, r, H', h1, h2, h3, h4, h5, _, h6⟩
    | some c =>
      obtain ⟨r, h1, h2, h3⟩ := h
      exact ⟨r, h1, h2, _, h3⟩
  | need p k ih => intro rs K h; exact ⟨h.1, ih h.2⟩
  | slot t k ih =>
    intro rs K h
    simp only [wpQD, wpQ] at h ⊢
    split
    · rename_i v hv
      rw [hv] at h
      exact ih v h
    · rename_i hv
      rw [hv] at h
      exact h
  | obj id k ih =>
    intro rs K h
    simp only [wpQD, wpQ] at h ⊢
    split
    · rename_i v hv
      rw [hv] at h
      exact ih v h
    · rename_i hv
      rw [hv] at h
      exact h
  | bad => intro rs K h; exact h.elim
/-- What is read has grown. -/
theorem wpQD_grows {P : Program} {nid : Nat} {s : St} {q : Q} : ∀ {rs : List Ky} {rs' : List Ky} {v : AV} {wr : Wr}, wpQD P nid s q rs (fun a b c => a = rs' ∧ b = v ∧ c = wr) → ∀ k ∈ rs, k ∈ rs' := by
  induction q with
  | done v wr => rintro rs rs' v wr ⟨rfl, _⟩ k hk; exact hk
  | call g f args =>
    intro rs rs' v wr h
    cases g with
    | none =>
      obtain ⟨H, r, H', h1, h2, h3, h4, h5, rfl, _⟩ := h
      intro k hk
      simp [hk]
    | some c =>
      obtain ⟨r, h1, h2, rfl, _⟩ := h
      intro k hk
      exact hk
  | need p k ih => intro rs rs' v wr h; exact ih h.2
  | slot t k ih =>
    intro rs rs' v wr h
    simp only [wpQD] at h
    split at h
    · intro k hk
      exact ih _ h k (by simp [hk])
    · exact h.elim
  | obj id k ih =>
    intro rs rs' v wr h
    simp only [wpQD] at h
    split at h
    · intro k hk
      exact ih _ h k (by simp [hk])
    · exact h.elim
  | bad => intro rs rs' v wr h; exact h.elim
/-- An operation comes to the same where what it reads is the same. -/
theorem wpQD_local {P : Program} {nid : Nat} {s s' : St} {q : Q} : ∀ {rs : List Ky} {rs' : List Ky} {v : AV} {wr : Wr}, wpQD P nid s q rs (fun a b c => a = rs' ∧ b = v ∧ c = wr) → (∀ k ∈ rs', s'.at_ k = s.at_ k) → wpQD P nid s' q rs (fun a b c => a = rs' ∧ b = v ∧ c = wr) := by
  induction q with
  | done v wr => intro rs rs' v wr h _; exact h
  | call g f args =>
    intro rs rs' v wr h hag
    cases g with
    | none =>
      obtain ⟨H, r, H', h1, h2, h3, h4, h5, rfl, h6⟩ := h
      refine ⟨H, r, H', fun p hp => ?_, h2, h3, h4, h5, rfl, h6⟩
      have := hag (.o p.1) (by simp only [List.mem_append, List.mem_map]; exact .inl ⟨p, hp, rfl⟩)
      simp only [St.at_, h1 p hp, Option.map_some] at this
      obtain ⟨o, h7, h8⟩ := Option.map_eq_some_iff.1 this
      injection h8 with h8
      rw [h7, h8]
    | some c => exact h
  | need p k ih => intro rs rs' v wr h hag; exact ⟨h.1, ih h.2 hag⟩
  | slot t k ih =>
    intro rs rs' v wr h hag
    simp only [wpQD] at h ⊢
    split at h
    · rename_i u hu
      have := hag (.t t) (wpQD_grows h _ (by simp))
      simp only [St.at_, hu, Option.map_some] at this
      obtain ⟨o, h7, h8⟩ := Option.map_eq_some_iff.1 this
      injection h8 with h8
      rw [h7, h8]
      exact ih u h hag
    · exact h.elim
  | obj id k ih =>
    intro rs rs' v wr h hag
    simp only [wpQD] at h ⊢
    split at h
    · rename_i u hu
      have := hag (.o id) (wpQD_grows h _ (by simp))
      simp only [St.at_, hu, Option.map_some] at this
      obtain ⟨o, h7, h8⟩ := Option.map_eq_some_iff.1 this
      injection h8 with h8
      rw [h7, h8]
      exact ih u h hag
    · exact h.elim
  | bad => intro rs rs' v wr h; exact h.elim

/-! ### Effects -/
theorem look_applyW : ∀ (wr : Wr) (hp : Hp) (id : Nat), look (applyW wr hp) id = match (wr.reverse.find? fun p => p.1 == id) with | some p => p.2 | none => look hp id := by
  intro wr
  induction wr with
  | nil => intro hp id; rfl
  | cons p r ih =>
    intro hp id
    obtain ⟨k, o⟩ := p
    have e : look (applyW ((k, o) :: r) hp) id = match (r.reverse.find? fun p => p.1 == id) with | some p => p.2 | none => if id = k then o else look hp id := by
      cases o with
      | none => simp only [applyW]; rw [ih, look_delA]
      | some o => simp only [applyW]; rw [ih, look_setA]
    rw [e, List.reverse_cons, List.find?_append]
    cases (r.reverse.find? fun p => p.1 == id) with
    | some p => rfl
    | none =>
      by_cases h : id = k
      · simp [h]
      · simp [h, Ne.symm h]
def eff (s : St) (d : Option Nat) (v : AV) (wr : Wr) : St := (s.wr wr).put d v
theorem eff_nx {s : St} {d : Option Nat} {v : AV} {wr : Wr} : (eff s d v wr).nx = s.nx := by cases d <;> rfl
theorem eff_nt {s : St} {d : Option Nat} {v : AV} {wr : Wr} : (eff s d v wr).nt = s.nt := by cases d <;> rfl
theorem eff_lo {s : St} {d : Option Nat} {v : AV} {wr : Wr} : (eff s d v wr).lo = s.lo := by cases d <;> rfl
theorem eff_tm {s : St} {d : Option Nat} {v : AV} {wr : Wr} (n : Nat) : look (eff s d v wr).tm n = if d = some n then some v else look s.tm n := by
  cases d with
  | none => rfl
  | some d =>
    simp only [eff, St.put, St.wr, look]
    by_cases h : n = d
    · simp [h]
    · simp [h, Ne.symm h]
theorem eff_hp {s : St} {d : Option Nat} {v : AV} {wr : Wr} (n : Nat) : look (eff s d v wr).hp n = match (wr.reverse.find? fun p => p.1 == n) with | some p => p.2 | none => look s.hp n := by
  have : (eff s d v wr).hp = applyW wr s.hp := by cases d <;> rfl
  rw [this, look_applyW]
theorem eff_at {s : St} {d : Option Nat} {v : AV} {wr : Wr} {k : Ky} (h : k ∉ wrKeys d wr) : (eff s d v wr).at_ k = s.at_ k := by
  cases k with
  | t n =>
    simp only [St.at_]
    rw [eff_tm, if_neg ?_]
    intro e
    subst e
    simp [wrKeys] at h
  | o n =>
    simp only [St.at_]
    rw [eff_hp]
    have : (wr.reverse.find? fun p => p.1 == n) = none := by
      rw [List.find?_eq_none]
      intro p hp
      simp only [beq_iff_eq]
      intro e
      apply h
      simp only [wrKeys, List.mem_append, List.mem_map]
      exact .inr ⟨p, by simpa using hp, by rw [e]⟩
    rw [this]
theorem eff_eqv {s s' : St} (h : s.eqv s') (d : Option Nat) (v : AV) (wr : Wr) : (eff s d v wr).eqv (eff s' d v wr) := by
  refine ⟨fun n => ?_, fun n => ?_, ?_, ?_, by rw [eff_lo, eff_lo, h.lo]⟩
  · rw [eff_tm, eff_tm, h.tm]
  · rw [eff_hp, eff_hp, h.hp]
  · rw [eff_nx, eff_nx, h.nx]
  · rw [eff_nt, eff_nt, h.nt]
/-- Two effects that don't meet may change places. -/
theorem eff_swap {s : St} {d d' : Option Nat} {v v' : AV} {wr wr' : Wr} (h : ∀ k ∈ wrKeys d wr, k ∉ wrKeys d' wr') : (eff (eff s d v wr) d' v' wr').eqv (eff (eff s d' v' wr') d v wr) := by
  refine ⟨fun n => ?_, fun n => ?_, ?_, ?_, by simp [eff_lo]⟩
  · rw [eff_tm, eff_tm, eff_tm, eff_tm]
    by_cases h1 : d = some n
    · have h2 : d' ≠ some n := fun e => h (.t n) (by simp [wrKeys, h1]) (by simp [wrKeys, e])
      simp [h1, h2]
    · simp [h1]
  · rw [eff_hp, eff_hp, eff_hp, eff_hp]
    cases h1 : (wr.reverse.find? fun p => p.1 == n) with
    | none => rfl
    | some p =>
      have h2 : (wr'.reverse.find? fun p => p.1 == n) = none := by
        rw [List.find?_eq_none]
        intro p' hp'
        simp only [beq_iff_eq]
        intro e
        have h3 := List.mem_of_find?_eq_some h1
        have h4 := List.find?_some h1
        simp only [beq_iff_eq] at h4
        refine h (.o n) ?_ ?_
        · simp only [wrKeys, List.mem_append, List.mem_map]
          exact .inr ⟨p, by simpa using h3, by rw [h4]⟩
        · simp only [wrKeys, List.mem_append, List.mem_map]
          exact .inr ⟨p', by simpa using hp', by rw [e]⟩
      rw [h2]
  · simp [eff_nx]
  · simp [eff_nt]

/-- What became of each operation. -/
structure Rcd where
  rs : List Ky
  v : AV
  wr : Wr
def Rcd.wk (r : Rcd) (o : Oper) : List Ky := wrKeys o.dst r.wr

section
variable {P : Program} {T : Nat → TI} {ops : Array Oper} {nx : Nat} {R : Nat → Rcd}
def Chain (P : Program) (T : Nat → TI) (ops : Array Oper) (nx : Nat) (R : Nat → Rcd) : List Nat → St → St → Prop
  | [], s, sf => s.eqv sf
  | i :: l, s, sf => ∃ o, ops[i]? = some o ∧ wpQD P (nx + i) s (evOper T (nx + i) (dstsOf ops) o) [] (fun a b c => a = (R i).rs ∧ b = (R i).v ∧ c = (R i).wr) ∧ Chain P T ops nx R l (eff s o.dst (R i).v (R i).wr) sf
theorem St.eqv.at_ {s s' : St} (h : s.eqv s') (k : Ky) : s'.at_ k = s.at_ k := by cases k <;> simp [St.at_, h.tm, h.hp]
theorem Chain.congr : ∀ {l : List Nat} {s s' sf : St}, Chain P T ops nx R l s sf → s.eqv s' → Chain P T ops nx R l s' sf
  | [], _, _, _, h, he => he.symm.trans h
  | i :: l, s, s', sf, ⟨o, h1, h2, h3⟩, he => ⟨o, h1, wpQD_local h2 (fun k _ => he.at_ k), h3.congr (eff_eqv he _ _ _)⟩
def Indep (ops : Array Oper) (R : Nat → Rcd) (i j : Nat) : Prop := ∀ oi oj, ops[i]? = some oi → ops[j]? = some oj →
  (∀ k ∈ (R i).wk oi, k ∉ (R j).wk oj ∧ k ∉ (R j).rs) ∧ ∀ k ∈ (R j).wk oj, k ∉ (R i).rs
theorem Chain.swap {i j : Nat} {l : List Nat} {s sf : St} (h : Chain P T ops nx R (i :: j :: l) s sf) (hi : Indep ops R i j) : Chain P T ops nx R (j :: i :: l) s sf := by
  obtain ⟨oi, h1, h2, oj, h3, h4, h5⟩ := h
  obtain ⟨d1, d2⟩ := hi oi oj h1 h3
  have h4' := wpQD_local (s' := s) h4 (fun k hk => (eff_at (fun hm => (d1 k hm).2 hk)).symm)
  have h2' := wpQD_local (s' := eff s oj.dst (R j).v (R j).wr) h2 (fun k hk => eff_at (fun hm => d2 k hm hk))
  exact ⟨oj, h3, h4', oi, h1, h2', h5.congr (eff_swap (fun k hk => (d1 k hk).1))⟩
theorem Chain.front : ∀ {l1 : List Nat} {j : Nat} {l2 : List Nat} {s sf : St}, Chain P T ops nx R (l1 ++ j :: l2) s sf → (∀ i ∈ l1, Indep ops R i j) → Chain P T ops nx R (j :: (l1 ++ l2)) s sf
  | [], _, _, _, _, h, _ => h
  | i :: l1, j, l2, s, sf, ⟨o, h1, h2, h3⟩, hi => by
    have ih := Chain.front h3 (fun k hk => hi k (by simp [hk]))
    exact Chain.swap ⟨o, h1, h2, ih⟩ (hi i (by simp))

/-! ### Orders -/
/-- A path of edges. -/
inductive Anc (ops : Array Oper) : Nat → Nat → Prop where
  | one {j : Nat} {o : Oper} {e : Edge} (h : ops[j]? = some o) (he : e ∈ o.after) (hb : Region.binds .any e = true) : Anc ops e.on j
  | step {i j : Nat} {o : Oper} {e : Edge} (h : ops[j]? = some o) (he : e ∈ o.after) (hb : Region.binds .any e = true) (r : Anc ops i e.on) : Anc ops i j
def Closed (ops : Array Oper) (listed : Array Bool) : Prop := ∀ (j : Nat) (o : Oper), ops[j]? = some o → listed.getD j false = true → ∀ e ∈ o.after, Region.binds .any e = true → listed.getD e.on false = true
theorem Anc.listed {listed : Array Bool} (hc : Closed ops listed) {i j : Nat} (h : Anc ops i j) : (∀ o, ops[j]? = some o → ∀ e ∈ o.after, Region.binds .any e = true → listed.getD e.on false = true) → listed.getD i false = true := by
  induction h with
  | one h he hb => intro hr; exact hr _ h _ he hb
  | step h he hb r ih =>
    intro hr
    refine ih fun o ho e' he' hb' => ?_
    exact hc _ _ ho (hr _ h _ he hb) e' he' hb'
def maskOf (acc : List Nat) (o : Oper) : Nat := o.after.toList.foldl (fun s e => if Region.binds .any e then s ||| (2 ^ e.on ||| acc.getD e.on 0) else s) 0
def befs : List Oper → List Nat → List Nat
  | [], acc => acc
  | o :: r, acc => befs r (acc ++ [maskOf acc o])
theorem befs_anc : ∀ (l : List Oper) (acc : List Nat), ops.toList.drop acc.length = l → (∀ j i, (acc.getD j 0).testBit i = true → Anc ops i j) → ∀ j i, ((befs l acc).getD j 0).testBit i = true → Anc ops i j
  | [], acc, _, h => h
  | o :: l, acc, hl, h => by
    have ho : ops[acc.length]? = some o := by
      rw [← Array.getElem?_toList]
      have := List.getElem?_drop (xs := ops.toList) (i := acc.length) (j := 0)
      rw [hl] at this
      simpa using this.symm
    refine befs_anc l (acc ++ [maskOf acc o]) ?_ ?_
    · rw [List.length_append, List.length_singleton, ← List.drop_drop, hl]
      rfl
    · intro j i hb
      rcases Nat.lt_trichotomy j acc.length with hj | hj | hj
      · rw [List.getD_eq_getElem?_getD, List.getElem?_append_left hj, ← List.getD_eq_getElem?_getD] at hb
        exact h j i hb
      · subst hj
        rw [List.getD_eq_getElem?_getD, List.getElem?_append_right (Nat.le_refl _)] at hb
        simp only [Nat.sub_self, List.getElem?_cons_zero, Option.getD_some] at hb
        unfold maskOf at hb
        have key : ∀ (es : List Edge) (m : Nat), (∀ e ∈ es, e ∈ o.after) → (m.testBit i = true → Anc ops i acc.length) → (es.foldl (fun s e => if Region.binds .any e then s ||| (2 ^ e.on ||| acc.getD e.on 0) else s) m).testBit i = true → Anc ops i acc.length := by
          intro es
          induction es with
          | nil => intro m _ hm hb; exact hm hb
          | cons e es ih =>
            intro m hes hm hb
            refine ih _ (fun e' he' => hes e' (by simp [he'])) ?_ hb
            intro hb2
            simp only at hb2
            split at hb2
            · rename_i hbd
              rw [Nat.testBit_or, Nat.testBit_or, Nat.testBit_two_pow] at hb2
              simp only [Bool.or_eq_true, decide_eq_true_eq] at hb2
              have hmem := hes e (by simp)
              rcases hb2 with h1 | rfl | h1
              · exact hm h1
              · exact .one ho hmem hbd
              · exact .step ho hmem hbd (h _ _ h1)
            · exact hm hb2
        exact key _ 0 (fun e he => by simpa using he) (fun h => by simp at h) hb
      · rw [List.getD_eq_getElem?_getD, List.getElem?_eq_none (by simp; omega)] at hb
        simp at hb
end
end Go.Proofs.Ytpmnchgpbojppaa

/- The abstract machine: regions, in any order; code. -/
set_option linter.unusedVariables false
namespace Go.Proofs.Ytpmnchgpbojppaa
open Go Go.RowKit

section
variable {P : Program} {T : Nat → TI} {ops : Array Oper} {nx nt : Nat} {R : Nat → Rcd} {B : Base} {Qx : Exit → Act → World → Prop}

/-- Operations in the order of the text, with what they read and wrote. -/
def runD (P : Program) (T : Nat → TI) (dsts : List (Option Nat)) : List Oper → Nat → St → List (List Ky × List Ky) → (List (List Ky × List Ky) → St → Prop) → Prop
  | [], i, s, acc, K => K acc { s with nx := s.nx + i }
  | o :: r, i, s, acc, K => wpQD P (s.nx + i) s (evOper T (s.nx + i) dsts o) [] fun rs v wr => runD P T dsts r (i + 1) ((s.wr wr).put o.dst v) (acc ++ [(rs, wrKeys o.dst wr)]) K
def meets (a b : List Ky) : Bool := a.any fun k => b.contains k
def dep (a b : List Ky × List Ky) : Bool := meets a.2 b.2 || meets a.2 b.1 || meets b.2 a.1
/-- What depends on another one stands behind it. -/
def ordOk (bef : List Nat) (recs : List (List Ky × List Ky)) : Bool := recs.zipIdx.all fun (b, j) => recs.zipIdx.all fun (a, i) => decide (j ≤ i) || !dep a b || (bef.getD j 0).testBit i

theorem any_s (hT : TabOk P T) (hd : ∀ (i : Nat) (o : Oper) (k : Nat), ops[i]? = some o → o.dst = some k → k < nt) (hind : ∀ i j, i < j → j < ops.size → ¬ Indep ops R i j → Anc ops i j) (hback : ∀ (j : Nat) (o : Oper), ops[j]? = some o → ∀ e ∈ o.after, Region.binds .any e = true → e.on < j)
    {sf : St} (hQ : ∀ s' a' w' x' D, s'.eqv sf → s'.nt = nt → Core B D s' a' w' x' → (∀ id, D id → id < nx + ops.size) → Qx .normal a' w') :
    ∀ (fuel : Nat) (L : List Nat) (listed : Array Bool) (D : Nat → Prop) (s : St) (a : Act) (w : World) (x : Cx), L.length = fuel → L.Pairwise (· < ·) → (∀ i ∈ L, i < ops.size) → listed.size = ops.size → (∀ i, i < ops.size → (listed.getD i true = false ↔ i ∈ L)) → Closed ops listed →
      s.nt = nt → Chain P T ops nx R L s sf → Core B D s a w x → (∀ id, D id → id < nx ∨ ∃ i, i < ops.size ∧ i ∉ L ∧ id = nx + i) → wpAny P .any ops Qx fuel listed a w := by
  intro fuel
  induction fuel with
  | zero =>
    intro L listed D s a w x hl hpw hsz hls hmem hcl hnt hch hC hD
    have hnil : L = [] := List.eq_nil_of_length_eq_zero hl
    subst hnil
    refine ⟨?_, hQ s a w x D hch hnt hC fun id h => ?_⟩
    · rw [List.eq_nil_iff_forall_not_mem]
      intro j hj
      obtain ⟨h0, o, ho, _⟩ := mem_ready.1 hj
      have hlt := (Array.getElem?_eq_some_iff.1 ho).1
      have := (hmem j hlt).1 h0
      cases this
    · rcases hD id h with h | ⟨i, h1, _, h2⟩ <;> omega
  | succ fuel ih =>
    intro L listed D s a w x hl hpw hsz hls hmem hcl hnt hch hC hD
    refine ⟨fun hr => ?_, fun j hj => ?_⟩
    · exfalso
      cases L with
      | nil => simp at hl
      | cons i L =>
        have hi := hsz i (by simp)
        have hmr : i ∈ Region.ready .any ops listed := by
          refine mem_ready.2 ⟨(hmem i hi).2 (by simp), ops[i], by simp [hi], fun e he hb => ?_⟩
          have hlt := hback i ops[i] (by simp [hi]) e he hb
          cases hq : listed.getD e.on true with
          | true =>
            have h1 : e.on < listed.size := by omega
            simpa [h1] using hq
          | false =>
            have hm := (hmem e.on (by omega)).1 hq
            rcases List.mem_cons.1 hm with h2 | h2
            · omega
            · have := List.rel_of_pairwise_cons hpw h2
              omega
        rw [hr] at hmr
        cases hmr
    · obtain ⟨hun, oj, hoj, hall⟩ := mem_ready.1 hj
      have hjlt : j < ops.size := (Array.getElem?_eq_some_iff.1 hoj).1
      have hjL := (hmem j hjlt).1 hun
      obtain ⟨L1, L2, rfl⟩ := List.append_of_mem hjL
      have hindep : ∀ i ∈ L1, Indep ops R i j := by
        intro i hi
        have hij : i < j := by
          rw [List.pairwise_append] at hpw
          exact hpw.2.2 i hi j (by simp)
        refine Classical.byContradiction fun hne => ?_
        have hanc := hind i j hij hjlt hne
        have hli := hanc.listed hcl (fun o ho e he hb => by
          rw [hoj] at ho
          injection ho with ho
          subst ho
          exact hall e he hb)
        have hun' := (hmem i (by omega)).2 (by simp [hi])
        have h1 : i < listed.size := by omega
        simp [h1] at hli hun'
        rw [hli] at hun'
        cases hun'
      obtain ⟨o, ho, hres, hrest⟩ := hch.front hindep
      rw [hoj] at ho
      injection ho with ho
      subst ho
      have hnd : (L1 ++ j :: L2).Nodup := hpw.imp (fun h => Nat.ne_of_lt h)
      have hjn : j ∉ L1 ++ L2 := by
        rw [List.nodup_append] at hnd
        intro hm
        rcases List.mem_append.1 hm with h | h
        · exact hnd.2.2 j h j (by simp) rfl
        · exact (List.nodup_cons.1 hnd.2.1).1 h
      have hfr : ¬ D (nx + j) := fun h => by
        rcases hD _ h with h1 | ⟨i, h1, h2, h3⟩
        · omega
        · have : i = j := by omega
          subst this
          exact h2 (by simp)
      refine wpOp_s hT hC (nid := nx + j) hfr hoj (fun k hk => by rw [hnt]; exact hd j oj k hoj hk) (wpQD_wpQ hres) ?_
      rintro v wr a' w' x' ⟨rs', e1, e2, e3⟩ hC'
      subst e2
      subst e3
      refine ih (L1 ++ L2) (listed.setIfInBounds j true) _ _ a' w' x' (by simp at hl ⊢; omega) ?_ ?_ ?_ ?_ ?_ ?_ hrest hC' ?_
      · refine hpw.sublist ?_
        exact List.Sublist.append (List.Sublist.refl _) (List.sublist_cons_self _ _)
      · intro i hi
        rcases List.mem_append.1 hi with h | h
        · exact hsz i (by simp [h])
        · exact hsz i (by simp [h])
      · simp [hls]
      · intro i hi
        by_cases hij : j = i
        · subst hij
          have h1 : j < listed.size := by omega
          simp [h1]
          exact ⟨fun h => hjn (by simp [h]), fun h => hjn (by simp [h])⟩
        · rw [getD_set_ne true hij, hmem i hi]
          simp [Ne.symm hij]
      · intro k o hk hlk e he hb
        by_cases hkj : j = k
        · subst hkj
          rw [hoj] at hk
          injection hk with hk
          subst hk
          exact getD_set_true (hall e he hb)
        · rw [getD_set_ne false hkj] at hlk
          exact getD_set_true (hcl k o hk hlk e he hb)
      · cases oj.dst <;> exact hnt
      · intro id h
        rcases h with h | h
        · rcases hD id h with h1 | ⟨i, h1, h2, h3⟩
          · exact .inl h1
          · refine .inr ⟨i, h1, fun hm => h2 ?_, h3⟩
            rcases List.mem_append.1 hm with h4 | h4 <;> simp [h4]
        · exact .inr ⟨j, hjlt, hjn, h⟩

theorem runD_chain : ∀ (l : List Oper) (i : Nat) (s : St) (acc : List (List Ky × List Ky)) (K : List (List Ky × List Ky) → St → Prop), ops.toList.drop i = l → s.nx = nx → acc.length = i → runD P T (dstsOf ops) l i s acc K →
    ∃ (Rl : List Rcd) (sf : St), Rl.length = l.length ∧ K (acc ++ (Rl.zip l).map fun p => (p.1.rs, p.1.wk p.2)) { sf with nx := nx + (i + l.length) } ∧ sf.nx = nx ∧ sf.lo = s.lo ∧ sf.nt = s.nt ∧
      ∀ R : Nat → Rcd, (∀ k r, Rl[k]? = some r → R (i + k) = r) → Chain P T ops nx R (List.range' i l.length) s sf
  | [], i, s, acc, K, _, hnx, _, h => ⟨[], s, rfl, by simpa [runD, hnx] using h, hnx, rfl, rfl, fun R _ => St.eqv.refl s⟩
  | o :: l, i, s, acc, K, hl, hnx, hac, h => by
    have hi : ops[i]? = some o := by
      rw [← Array.getElem?_toList]
      have := List.getElem?_drop (xs := ops.toList) (i := i) (j := 0)
      rw [hl] at this
      simpa using this.symm
    unfold runD at h
    obtain ⟨rs, v, wr, h1, h2⟩ := wpQD_res h
    rw [hnx] at h2
    obtain ⟨Rl, sf, h3, h4, h5, h5b, h6, h7⟩ := runD_chain l (i + 1) _ _ K (by rw [← List.drop_drop, hl]; rfl) (by rw [← hnx]; cases o.dst <;> rfl) (by simp [hac]) h1
    refine ⟨⟨rs, v, wr⟩ :: Rl, sf, by simp [h3], ?_, h5, by rw [h5b]; cases o.dst <;> rfl, by rw [h6]; cases o.dst <;> rfl, ?_⟩
    · simp only [List.zip_cons_cons, List.map_cons, List.length_cons]
      rw [show nx + (i + (l.length + 1)) = nx + (i + 1 + l.length) by omega]
      simpa [Rcd.wk] using h4
    · intro R hR
      rw [List.length_cons, List.range'_succ]
      have hRi := hR 0 _ rfl
      rw [Nat.add_zero] at hRi
      refine ⟨o, hi, ?_, ?_⟩
      · rw [hRi]
        exact h2
      · rw [hRi]
        exact h7 R (fun k r hk => by rw [show i + 1 + k = i + (k + 1) by omega]; exact hR (k + 1) r (by simpa using hk))

theorem meets_no {a b : List Ky} (h : meets a b = false) : ∀ k ∈ a, k ∉ b := by
  intro k hk hb
  unfold meets at h
  rw [List.any_eq_false] at h
  exact h k hk (by simpa using hb)
/-- A region that draws. -/
theorem regionD_s (hT : TabOk P T) (hm : P.follows .mixedOrders = true) {id : Nat} {s : St} {a : Act} {w : World} {x : Cx} {K : St → Prop}
    (hd : (ops.all fun o => match o.dst with | some k => decide (k < s.nt) | none => true) = true) (hback : (ops.toList.zipIdx.all fun (o, j) => o.after.all fun e => !Region.binds .any e || decide (e.on < j)) = true)
    (hC : Core B (· < s.nx) s a w x) (h : runD P T (dstsOf ops) ops.toList 0 s [] fun recs s' => ordOk (befs ops.toList []) recs = true ∧ K s')
    (hQ : ∀ s' s'' a' w' x', K s'' → s'.eqv s'' → Core B (· < s'.nx) s' a' w' x' → Qx .normal a' w') : (Code.region id ops true).wp P Qx a w := by
  refine wp_region_any hm ?_
  obtain ⟨Rl, sf, h1, ⟨h2, h3⟩, h4, h5b, h5, h6⟩ := runD_chain ops.toList 0 s [] _ rfl rfl rfl h
  let R : Nat → Rcd := fun i => Rl.getD i ⟨[], .dead, []⟩
  have hch := h6 R (fun k r hk => by rw [Nat.zero_add]; simp [R, List.getD_eq_getElem?_getD, hk])
  have hback' : ∀ (j : Nat) (o : Oper), ops[j]? = some o → ∀ e ∈ o.after, Region.binds .any e = true → e.on < j := by
    intro j o ho e he hb
    have := (List.all_eq_true.1 hback) (o, j) (by rw [List.mem_zipIdx_iff_getElem?]; simpa using ho)
    simp only at this
    have := (Array.all_eq_true_iff_forall_mem.1 this) e he
    simpa [hb] using this
  have hst : Core B (· < s.nx) s a { w with drawn := w.drawn + 1 } x := by
    have st := Stp.drew hC.h
    exact ⟨st.h, fun t u ht => (hC.t t u ht).mono st.mo, hC.n, hC.d, hC.tr.trans st.tr, hC.mo.trans st.mo, hC.lo, hC.ln, hC.dom⟩
  replace h1 : Rl.length = ops.size := h1.trans (by simp)
  refine any_s (nt := s.nt) (nx := s.nx) (R := R) hT (fun i o k ho hk => ?_) ?_ hback' (sf := sf) ?_ ops.size (List.range ops.size) _ (· < s.nx) s a _ x (by simp) List.pairwise_lt_range (fun i hi => by simpa using hi) (by simp) ?_ ?_ rfl ?_ hst (fun id h => .inl h)
  · have h7 := (Array.all_eq_true_iff_forall_mem.1 hd) o (Array.mem_of_getElem? ho)
    rw [hk] at h7
    simpa using h7
  · intro i j hij hjn hne
    have hin : i < ops.size := by omega
    unfold ordOk at h2
    simp only [List.nil_append] at h2
    have hrec : ∀ k, (hk : k < ops.size) → ((Rl.zip ops.toList).map fun p => (p.1.rs, p.1.wk p.2))[k]? = some ((R k).rs, (R k).wk ops[k]) := by
      intro k hk
      have e1 : Rl[k]? = some (R k) := by simp [R, List.getD_eq_getElem?_getD, List.getElem?_eq_getElem (show k < Rl.length by omega)]
      have e2 : (Rl.zip ops.toList)[k]? = some (R k, ops[k]) := List.getElem?_zip_eq_some.2 ⟨e1, by simp [hk]⟩
      rw [List.getElem?_map, e2]
      rfl
    have h7 := (List.all_eq_true.1 h2) (((R j).rs, (R j).wk ops[j]), j) (by rw [List.mem_zipIdx_iff_getElem?]; exact hrec j hjn)
    simp only at h7
    have h8 := (List.all_eq_true.1 h7) (((R i).rs, (R i).wk ops[i]), i) (by rw [List.mem_zipIdx_iff_getElem?]; exact hrec i hin)
    simp only [Bool.or_eq_true, decide_eq_true_eq, Bool.not_eq_true'] at h8
    rcases h8 with (h8 | h8) | h8
    · omega
    · exfalso
      apply hne
      intro oi oj hoi hoj
      have e1 : ops[i] = oi := by simpa [hin] using hoi
      have e2 : ops[j] = oj := by simpa [hjn] using hoj
      subst e1
      subst e2
      unfold dep at h8
      simp only [Bool.or_eq_false_iff] at h8
      obtain ⟨⟨m1, m2⟩, m3⟩ := h8
      exact ⟨fun k hk => ⟨meets_no m1 k hk, meets_no m2 k hk⟩, meets_no m3⟩
    · exact befs_anc ops.toList [] rfl (fun j i h => by simp at h) j i h8
  · intro s' a' w' x' D he hnt hC' hD
    have hln : s'.lo ≤ s.nx + ops.size := by
      have e1 := he.lo
      have := hC.ln
      rw [e1, h5b]
      omega
    have hnx : ({ s' with nx := s.nx + ops.size } : St).eqv { sf with nx := s.nx + (0 + ops.toList.length) } := ⟨he.tm, he.hp, by simp, he.nt, he.lo⟩
    refine hQ { s' with nx := s.nx + ops.size } _ a' w' x' h3 hnx ?_
    exact ⟨hC'.h, hC'.t, hC'.n, hC'.d, hC'.tr, hC'.mo, hC'.lo, hln, fun id g hdm => hD id (hC'.dom id g hdm)⟩
  · intro i hi
    simp [hi]
  · intro j o ho hlj
    have : j < ops.size := (Array.getElem?_eq_some_iff.1 ho).1
    simp [this] at hlj
  · rw [List.range_eq_range', ← Array.length_toList]
    exact hch
end
end Go.Proofs.Ytpmnchgpbojppaa

/- The abstract machine: code, loops, functions. -/
set_option linter.unusedVariables false
namespace Go.Proofs.Ytpmnchgpbojppaa
open Go Go.RowKit

def SRel (B : Base) (s : St) (a : Act) (w : World) : Prop := ∃ x, Core B (· < s.nx) s a w x
def VC (P : Program) (B : Base) (c : Code) (Q : Exit → St → Prop) (s : St) : Prop := ∀ a w, SRel B s a w → c.wp P (fun e a' w' => ∃ s', Q e s' ∧ SRel B s' a' w') a w
def thn (next : St → Prop) (Q : Exit → St → Prop) : Exit → St → Prop
  | .normal, s => next s
  | e, s => Q e s
def inBk (id : Nat) (Q : Exit → St → Prop) : Exit → St → Prop
  | .exit i, s => if i = id then Q .normal s else Q (.exit i) s
  | e, s => Q e s
def noG (Q : Exit → St → Prop) : Exit → St → Prop
  | .goto _, _ => False
  | e, s => Q e s
/-- Only what is still wanted. -/
def keepL (m : List (Nat × AV)) : List Nat → List (Nat × AV)
  | [] => []
  | t :: r => match look m t with
    | some v => (t, v) :: keepL m r
    | none => keepL m r
def St.keep (l : List Nat) (s : St) : St := { s with tm := keepL s.tm l }
def dstOk (ops : Array Oper) (nt : Nat) : Bool := ops.toList.all fun o => match o.dst with | some k => decide (k < nt) | none => true
def backOk (ops : Array Oper) : Bool := ops.toList.zipIdx.all fun (o, j) => o.after.toList.all fun e => !Region.binds .any e || decide (e.on < j)

section
variable {P : Program}
theorem wpQ_mono {nid : Nat} {s : St} {q : Q} : ∀ {K K' : AV → Wr → Prop}, wpQ P nid s q K → (∀ v wr, K v wr → K' v wr) → wpQ P nid s q K' := by
  induction q with
  | done v wr => intro K K' h hk; exact hk _ _ h
  | call g f args =>
    intro K K' h hk
    cases g with
    | none =>
      obtain ⟨H, r, H', h1, h2, h3, h4, h5, h6⟩ := h
      exact ⟨H, r, H', h1, h2, h3, h4, h5, hk _ _ h6⟩
    | some c =>
      obtain ⟨r, h1, h2, h3⟩ := h
      exact ⟨r, h1, h2, hk _ _ h3⟩
  | need p k ih => intro K K' h hk; exact ⟨h.1, ih h.2 hk⟩
  | slot t k ih =>
    intro K K' h hk
    simp only [wpQ] at h ⊢
    split
    · rename_i v hv
      rw [hv] at h
      exact ih v h hk
    · rename_i hv
      rw [hv] at h
      exact h
  | obj id k ih =>
    intro K K' h hk
    simp only [wpQ] at h ⊢
    split
    · rename_i v hv
      rw [hv] at h
      exact ih v h hk
    · rename_i hv
      rw [hv] at h
      exact h
  | bad => intro K K' h hk; exact h
theorem wpQD_mono {nid : Nat} {s : St} {q : Q} {rs : List Ky} {K K' : List Ky → AV → Wr → Prop} (h : wpQD P nid s q rs K) (hk : ∀ rs v wr, K rs v wr → K' rs v wr) : wpQD P nid s q rs K' := by
  induction q generalizing rs with
  | done v wr => exact hk _ _ _ h
  | call g f args =>
    cases g with
    | none =>
      obtain ⟨H, r, H', h1, h2, h3, h4, h5, h6⟩ := h
      exact ⟨H, r, H', h1, h2, h3, h4, h5, hk _ _ _ h6⟩
    | some c =>
      obtain ⟨r, h1, h2, h3⟩ := h
      exact ⟨r, h1, h2, hk _ _ _ h3⟩
  | need p k ih => exact ⟨h.1, ih h.2⟩
  | slot t k ih =>
    simp only [wpQD] at h ⊢
    split
    · rename_i v hv
      rw [hv] at h
      exact ih v h
    · rename_i hv
      rw [hv] at h
      exact h
  | obj id k ih =>
    simp only [wpQD] at h ⊢
    split
    · rename_i v hv
      rw [hv] at h
      exact ih v h
    · rename_i hv
      rw [hv] at h
      exact h
  | bad => exact h
end
instance (i : TI) : Decidable i.known := by unfold TI.known; split <;> infer_instance
section
variable {P : Program} {T : Nat → TI} {B : Base} {Q : Exit → St → Prop} {s : St}

theorem look_keep {m : List (Nat × AV)} {t : Nat} {v : AV} : ∀ {l : List Nat}, look (keepL m l) t = some v → look m t = some v
  | [], h => by simp [keepL, look] at h
  | k :: l, h => by
    simp only [keepL] at h
    cases hk : look m k with
    | none => rw [hk] at h; exact look_keep h
    | some u =>
      rw [hk] at h
      simp only [look] at h
      split at h
      · rename_i e
        injection h with h
        subst h
        rw [e]
        exact hk
      · exact look_keep h
theorem Core.keep {D : Nat → Prop} {a : Act} {w : World} {x : Cx} (l : List Nat) (h : Core B D s a w x) : Core B D (s.keep l) a w x :=
  ⟨h.h, fun t u ht => h.t t u (look_keep ht), h.n, h.d, h.tr, h.mo, h.lo, h.ln, h.dom⟩
theorem SRel.keep {a : Act} {w : World} (l : List Nat) (h : SRel B s a w) : SRel B (s.keep l) a w := let ⟨x, h⟩ := h; ⟨x, h.keep l⟩

theorem VC.skip (h : Q .normal s) : VC P B .skip Q s := fun a w hs => wp_skip ⟨s, h, hs⟩
theorem VC.label {l : Nat} (h : Q .normal s) : VC P B (.label l) Q s := fun a w hs => wp_label ⟨s, h, hs⟩
theorem VC.exit {id : Nat} (h : Q (.exit id) s) : VC P B (.exit id) Q s := fun a w hs => wp_exit ⟨s, h, hs⟩
theorem VC.ret (h : Q .ret s) : VC P B .ret Q s := fun a w hs => wp_ret ⟨s, h, hs⟩
theorem VC.mono {c : Code} {Q' : Exit → St → Prop} (h : VC P B c Q s) (hq : ∀ e s, Q e s → Q' e s) : VC P B c Q' s :=
  fun a w hs => wp_mono (h a w hs) fun e a' w' ⟨s', h1, h2⟩ => ⟨s', hq _ _ h1, h2⟩
theorem VC.seq {x y : Code} (h : VC P B x (thn (VC P B y Q) Q) s) : VC P B (.seq x y) Q s := fun a w hs => by
  refine wp_seq (wp_mono (h a w hs) ?_)
  rintro e a' w' ⟨s', h1, h2⟩
  cases e <;> first | exact h1 a' w' h2 | exact ⟨s', h1, h2⟩
theorem VC.block {id : Nat} {c : Code} (h : VC P B c (inBk id Q) s) : VC P B (.block id c) Q s := fun a w hs => by
  refine wp_block (wp_mono (h a w hs) ?_)
  rintro e a' w' ⟨s', h1, h2⟩
  cases e with
  | exit i =>
    simp only [inBk] at h1
    simp only [Exit.inBlock]
    split
    · rename_i e
      rw [if_pos e] at h1
      exact ⟨s', h1, h2⟩
    · rename_i e
      rw [if_neg e] at h1
      exact ⟨s', h1, h2⟩
  | _ => exact ⟨s', h1, h2⟩
theorem VC.scope {c : Code} (h : VC P B c (noG Q) s) : VC P B (.scope c) Q s := fun a w hs => by
  refine wp_scope_straight (wp_mono (h a w hs) ?_)
  rintro e a' w' ⟨s', h1, h2⟩
  cases e with
  | goto l => exact h1.elim
  | _ => exact ⟨s', h1, h2⟩
theorem VC.cond {c : Operand} {x y : Code} {t : Nat} {b : Bool} (hc : c = .tmp t) (hl : look s.tm t = some (.raw (.bool b))) (ht : b = true → VC P B x Q s) (hf : b = false → VC P B y Q s) : VC P B (.cond c x y) Q s := fun a w hs => by
  obtain ⟨x0, hC⟩ := hs
  have := (hC.t t _ hl).rawEq
  subst hc
  exact wp_cond_split (t := b) this (fun h => ht h a w ⟨x0, hC⟩) (fun h => hf h a w ⟨x0, hC⟩)
theorem VC.region (hT : TabOk P T) {id : Nat} {ops : Array Oper} (hd : dstOk ops s.nt = true) (h : runOps P T (dstsOf ops) ops.toList 0 s fun s' => Q .normal s') : VC P B (.region id ops false) Q s := fun a w hs => by
  obtain ⟨x, hC⟩ := hs
  refine wp_region ?_
  have hd : (ops.all fun o => match o.dst with | some k => decide (k < s.nt) | none => true) = true := by rw [← Array.all_toList]; exact hd
  have := runOps_s (nx := s.nx) (Qx := fun e a' w' => ∃ s', Q e s' ∧ SRel B s' a' w') hT hd (fun s' a' w' x' hK hC' => ⟨s', hK, x', hC'⟩) ops.toList 0 s a w x rfl rfl rfl (by simpa using hC) h
  rw [List.range_eq_range', ← Array.length_toList]
  exact this
theorem SRel.eqv {s s' : St} {a : Act} {w : World} (he : s.eqv s') (h : SRel B s a w) : SRel B s' a w := by
  obtain ⟨x, hC⟩ := h
  have m : Mo w x s.hp w x s'.hp := ⟨fun _ h => h, fun _ _ h => h, fun _ _ => rfl, fun id _ ⟨t, cs, h⟩ => ⟨⟨t, cs, (he.hp id).trans h⟩, rfl⟩, fun id g sz _ ⟨t, cs, h⟩ => ⟨⟨t, cs, (he.hp id).trans h⟩, rfl, rfl⟩, fun id _ ⟨t, cs, h⟩ => ⟨⟨t, cs, (he.hp id).trans h⟩, rfl⟩⟩
  have hh : HRel w x s'.hp := ⟨hC.h.okb, fun id o hl => hC.h.dom id o ((he.hp id).trans hl), fun id t sz g els g' hl => hC.h.gen id t sz g els g' ((he.hp id).trans hl), fun id t sz g els hl => hC.h.gdm id t sz g els ((he.hp id).trans hl),
    fun id o b hl => hC.h.liv id o b ((he.hp id).trans hl), fun id id' o o' b hl hl' => hC.h.inj id id' o o' b ((he.hp id).trans hl) ((he.hp id').trans hl'), fun id o hl => (hC.h.obj id o ((he.hp id).trans hl)).mono m rfl rfl (fun _ _ => rfl)⟩
  refine ⟨x, hh, fun t u ht => (hC.t t u ((he.tm t).trans ht)).mono m, hC.n.trans he.nt, hC.d, ?_, hC.mo.trans m, by rw [← he.lo]; exact hC.lo, by rw [← he.lo, ← he.nx]; exact hC.ln, fun id g hd => ?_⟩
  · exact ⟨hC.tr.os, hC.tr.tape, hC.tr.output, hC.tr.size, hC.tr.keep, hC.tr.okx, fun id o b hl => hC.tr.newb id o b ((he.hp id).trans hl)⟩
  · show id < s'.nx
    rw [← he.nx]
    exact hC.dom id g hd
theorem VC.regionD (hT : TabOk P T) (hm : P.follows .mixedOrders = true) {id : Nat} {ops : Array Oper} (hd : dstOk ops s.nt = true) (hb : backOk ops = true) (h : runD P T (dstsOf ops) ops.toList 0 s [] fun recs s' => ordOk (befs ops.toList []) recs = true ∧ Q .normal s') : VC P B (.region id ops true) Q s := fun a w hs => by
  obtain ⟨x, hC⟩ := hs
  have hd : (ops.all fun o => match o.dst with | some k => decide (k < s.nt) | none => true) = true := by rw [← Array.all_toList]; exact hd
  have hb : (ops.toList.zipIdx.all fun (o, j) => o.after.all fun e => !Region.binds .any e || decide (e.on < j)) = true := by
    simp only [← Array.all_toList]
    exact hb
  exact regionD_s hT hm hd hb hC h fun s' s'' a' w' x' hK he hC' => ⟨s'', hK, SRel.eqv he ⟨x', hC'⟩⟩

theorem runOps_mono {dsts : List (Option Nat)} {K K' : St → Prop} (hk : ∀ s, K s → K' s) : ∀ {ops : List Oper} {i : Nat} {s : St}, runOps P T dsts ops i s K → runOps P T dsts ops i s K'
  | [], i, s, h => hk _ h
  | o :: r, i, s, h => wpQ_mono h fun v wr h => runOps_mono hk h
theorem runD_mono {dsts : List (Option Nat)} {K K' : List (List Ky × List Ky) → St → Prop} (hk : ∀ a s, K a s → K' a s) : ∀ {ops : List Oper} {i : Nat} {s : St} {acc : List (List Ky × List Ky)}, runD P T dsts ops i s acc K → runD P T dsts ops i s acc K'
  | [], i, s, acc, h => hk _ _ h
  | o :: r, i, s, acc, h => wpQD_mono h fun rs v wr h => runD_mono hk h
theorem VC.unkeep {c : Code} {l : List Nat} (h : VC P B c Q (s.keep l)) : VC P B c Q s := fun a w hs => h a w (hs.keep l)

/-- A region, and what comes behind it: that stays behind a name. -/
theorem VC.seqR (hT : TabOk P T) (ds : List (Option Nat)) (l : List Nat) {id : Nat} {ops : List Oper} {y : Code} (hds : ops.map (·.dst) = ds) (hd : dstOk ops.toArray s.nt = true) (h : ∀ K : St → Prop, (∀ s', VC P B y Q s' → K s') → runOps P T ds ops 0 s fun s' => K (s'.keep l)) : VC P B (.seq (.region id ops.toArray false) y) Q s := by
  subst hds
  exact VC.seq (VC.region hT hd (runOps_mono (fun s' h => VC.unkeep h) (h (fun s' => VC P B y Q s') (fun _ h => h))))
theorem VC.seqD (hT : TabOk P T) (hm : P.follows .mixedOrders = true) (ds : List (Option Nat)) (l : List Nat) {id : Nat} {ops : List Oper} {y : Code} (hds : ops.map (·.dst) = ds) (hd : dstOk ops.toArray s.nt = true) (hb : backOk ops.toArray = true)
    (h : ∀ K : St → Prop, (∀ s', VC P B y Q s' → K s') → runD P T ds ops 0 s [] fun recs s' => ordOk (befs ops []) recs = true ∧ K (s'.keep l)) : VC P B (.seq (.region id ops.toArray true) y) Q s := by
  subst hds
  exact VC.seq (VC.regionD hT hm hd hb (runD_mono (fun _ s' h => ⟨h.1, VC.unkeep h.2⟩) (h (fun s' => VC P B y Q s') (fun _ h => h))))
/-! ### Weaker states -/
def Sub (s s' : St) : Prop := ∀ B a w, SRel B s a w → SRel B s' a w
theorem Sub.refl (s : St) : Sub s s := fun _ _ _ h => h
theorem Sub.trans {s s' s'' : St} (h : Sub s s') (k : Sub s' s'') : Sub s s'' := fun B a w hs => k B a w (h B a w hs)
theorem VC.sub {c : Code} {s' : St} (hs : Sub s s') (h : VC P B c Q s') : VC P B c Q s := fun a w hr => h a w (hs B a w hr)
def St.wf (s : St) : Bool := (s.tm.all fun p => p.2.in3 fun k => decide (k < s.nx)) && s.hp.all fun p => decide (p.1 < s.nx) && p.2.inD fun k => decide (k < s.nx)
theorem look_all {α : Type} {p : Nat × α → Bool} : ∀ {l : List (Nat × α)} {k : Nat} {v : α}, l.all p = true → look l k = some v → p (k, v) = true
  | [], k, v, _, h => by simp [look] at h
  | (j, u) :: l, k, v, hp, h => by
    simp only [List.all_cons, Bool.and_eq_true] at hp
    simp only [look] at h
    split at h
    · rename_i e
      injection h with h
      subst h
      subst e
      exact hp.1
    · exact look_all hp.2 h
theorem Sub.of {s s' : St} (h1 : ∀ p ∈ s'.tm, look s.tm p.1 = some p.2) (h2 : ∀ p ∈ s'.hp, look s.hp p.1 = some p.2) (h3 : s'.nt = s.nt ∧ s'.lo = s.lo ∧ s'.lo ≤ s'.nx) (h4 : s'.wf = true) : Sub s s' := fun B a w ⟨x, hC⟩ => by
  simp only [St.wf, Bool.and_eq_true] at h4
  have hS := subH_of h2
  have hsub := hC.h.sub hS (fun k => decide (k < s'.nx)) (fun id o hl => by
    have := look_all h4.2 hl
    simp only [Bool.and_eq_true] at this
    exact this)
  have hm := Mo.sub (w := w) (x := x.only fun k => decide (k < s'.nx)) hS
  have hmo : Mo B.w B.x B.hp w (x.only fun k => decide (k < s'.nx)) s'.hp := by
    have m1 := hC.mo
    refine ⟨m1.ok, fun id g hd => ⟨m1.dom id g hd, ?_⟩, m1.ag, fun id hd ⟨t, cs, h⟩ => m1.box id hd ⟨t, cs, hS _ _ h⟩, fun id g sz hd ⟨t, cs, h⟩ => m1.row id g sz hd ⟨t, cs, hS _ _ h⟩, fun id hd ⟨t, cs, h⟩ => m1.mp id hd ⟨t, cs, hS _ _ h⟩⟩
    have := hC.lo id g hd
    rw [← h3.2.1] at this
    simp only [decide_eq_true_eq]
    omega
  refine ⟨_, hsub, fun t u ht => ?_, by rw [h3.1]; exact hC.n, hC.d, ?_, hmo, by rw [h3.2.1]; exact hC.lo, h3.2.2, fun id g hd => by simpa using hd.2⟩
  · have hlk : look s.tm t = some u := by
      have : ∀ (l : List (Nat × AV)), (∀ p ∈ l, look s.tm p.1 = some p.2) → look l t = some u → look s.tm t = some u := by
        intro l
        induction l with
        | nil => intro _ h; simp [look] at h
        | cons p l ih =>
          obtain ⟨j, v⟩ := p
          intro hp h
          simp only [look] at h
          split at h
          · rename_i e
            injection h with h
            subst h
            subst e
            exact hp (t, v) (by simp)
          · exact ih (fun p hp' => hp p (by simp [hp'])) h
      exact this _ h1 ht
    exact ((hC.t t u hlk).in3_ (look_all h4.1 ht)).mono hm
  · exact ⟨hC.tr.os, hC.tr.tape, hC.tr.output, hC.tr.size, hC.tr.keep, hC.tr.okx, fun id o b hl => hC.tr.newb id o b (hS _ _ hl)⟩

/-- An empty slice without room becomes an own row. -/
theorem Sub.adopt {s : St} {b j e sz : Nat} {t : TypeId} {cs : List AV} (hb : look s.hp b = some (.box t cs)) (hj : cs[j]? = some (.sl true [])) :
    Sub s { s with hp := setA b (.box t (cs.set j (.row s.nx 0 sz 0 0))) (setA s.nx (.row e sz 0 []) s.hp), nx := s.nx + 1 } := fun B a w ⟨x, hC⟩ => by
  have hfr : ∀ g, ¬ x.dom s.nx g := fun g hd => by have := hC.dom _ _ hd; simp at this
  have st := Stp.add (w' := w) hC.h hfr (.row e sz 0 []) none 0 rfl rfl rfl (Nat.le_refl _) (fun _ _ => rfl) (fun b hb => by cases hb) (fun m => ⟨fun i cs h => by simp at h, .inl ⟨by simp [Cx.put], rfl⟩⟩)
  have hbn : b ≠ s.nx := fun e => hfr 0 (e ▸ hC.h.dom _ _ hb)
  have hb' : look (setA s.nx (.row e sz 0 []) s.hp) b = some (.box t cs) := by rw [look_setA, if_neg hbn]; exact hb
  obtain ⟨bb, vs, h1, h2, h3, h4, h5⟩ := st.h.obj b _ hb'
  have hlt := lt_of_get hj
  have hval := (h5 j _ hj)
  have st2 := Stp.boxSet st.h hb' h1 h2 (cs' := cs.set j (.row s.nx 0 sz 0 0)) (vs' := vs) (by simpa using h3) h4 (fun i u hu => by
    rw [List.getElem?_set] at hu
    split at hu
    · rename_i e2
      subst e2
      injection hu with hu
      subst hu
      generalize vs.getD j undef = val at hval
      cases hval with
      | dat hd =>
        cases hd with
        | sl _ _ A c sz' vals hc hm ht =>
          have := ht rfl
          simp only [List.length_nil] at this
          subst this
          exact .row _ _ _ _ _ _ _ (.inr ⟨rfl, .inl rfl⟩) (Nat.le_refl _) fun _ => .inl ⟨rfl, rfl, by simp [Cx.put]⟩
    · exact h5 i u hu)
  rw [setRow_self w bb vs t (0, 0) h2] at st2
  have st3 := st.trans st2
  refine ⟨_, st3.h, fun t u ht => (hC.t t u ht).mono st3.mo, hC.n, hC.d, hC.tr.trans st3.tr, hC.mo.trans st3.mo, hC.lo, Nat.le_succ_of_le hC.ln, fun id g hd => ?_⟩
  show id < s.nx + 1
  rcases dom_put hd with h | h
  · have := hC.dom _ _ h
    omega
  · omega
theorem Sub.adoptT {s : St} {k e sz : Nat} (hj : look s.tm k = some (.sl true [])) : Sub s { s with tm := setA k (.row s.nx 0 sz 0 0) s.tm, hp := setA s.nx (.row e sz 0 []) s.hp, nx := s.nx + 1 } := fun B a w ⟨x, hC⟩ => by
  have hfr : ∀ g, ¬ x.dom s.nx g := fun g hd => by have := hC.dom _ _ hd; simp at this
  have st := Stp.add (w' := w) hC.h hfr (.row e sz 0 []) none 0 rfl rfl rfl (Nat.le_refl _) (fun _ _ => rfl) (fun b hb => by cases hb) (fun m => ⟨fun i cs h => by simp at h, .inl ⟨by simp [Cx.put], rfl⟩⟩)
  refine ⟨_, st.h, fun t u ht => ?_, hC.n, hC.d, hC.tr.trans st.tr, hC.mo.trans st.mo, hC.lo, Nat.le_succ_of_le hC.ln, fun id g hd => ?_⟩
  · rw [look_setA] at ht
    split at ht
    · rename_i e1
      subst e1
      injection ht with ht
      subst ht
      have hval := hC.t _ _ hj
      generalize a.tmps.getD t undef = val at hval
      cases hval with
      | dat hd =>
        cases hd with
        | sl _ _ A c sz' vals hc hm ht =>
          have := ht rfl
          simp only [List.length_nil] at this
          subst this
          exact .row _ _ _ _ _ _ _ (.inr ⟨rfl, .inl rfl⟩) (Nat.le_refl _) fun _ => .inl ⟨rfl, rfl, by simp [Cx.put]⟩
    · exact (hC.t t u ht).mono st.mo
  · show id < s.nx + 1
    rcases dom_put hd with h | h
    · have := hC.dom _ _ h
      omega
    · omega

/-- A cell's own row becomes data. -/
theorem Sub.freeze (P : Program) {s : St} {b j id g sz lo n : Nat} {t rt : TypeId} {cs : List AV} {els : List (List AV)} (hb : look s.hp b = some (.box t cs)) (hj : cs[j]? = some (.row id g sz lo n)) (hr : look s.hp id = some (.row rt sz g els)) (hle : lo + n ≤ els.length) (hs : 0 < sz) :
    Sub s { s with hp := setA b (.box t (cs.set j (.sl false ((els.drop lo).take n)))) (delA id s.hp) } := fun B a w ⟨x, hC⟩ => by
  have hne : b ≠ id := fun e => by rw [e, hr] at hb; cases hb
  have hlt := lt_of_get hj
  obtain ⟨bb, vs, h1, h2, h3, h4, h5⟩ := hC.h.obj b _ hb
  obtain ⟨v, ids, hnorm, hids, hv⟩ : ∃ v ids, Norm w x s.hp (.row id g sz lo n) v (vs.getD j undef) ids ∧ ids = [id] ∧ v = .sl false ((els.drop lo).take n) := by
    obtain ⟨v, ids, h6, h7⟩ := normQ_s (P := P) (nid := 0) (s := s) (K := fun _ _ => True) (k := fun v wr => .need (v = .sl false ((els.drop lo).take n) ∧ wr = [(id, none)]) (.done v wr)) hC (h5 j _ hj) (by
      simp only [normQ, wpQ, hr]
      exact ⟨⟨trivial, trivial, hle, hs⟩, ⟨trivial, trivial⟩, trivial⟩)
    obtain ⟨⟨e1, e2⟩, _⟩ := h7
    refine ⟨v, ids, h6, ?_, e1⟩
    cases ids with
    | nil => simp at e2
    | cons i r =>
      simp only [List.map_cons, List.cons.injEq, Prod.mk.injEq, and_true] at e2
      obtain ⟨rfl, e3⟩ := e2
      rw [List.map_eq_nil_iff] at e3
      rw [e3]
  subst hids
  subst hv
  have st := Stp.del hC.h hr
  have hb' : look (delA id s.hp) b = some (.box t cs) := by rw [look_delA, if_neg hne]; exact hb
  have hd := hnorm.2 (x.free id) st.mo.ok (fun i hi _ bl hbl => by simp at hi; subst hi; exact .inr hbl)
  have st2 := Stp.boxSet st.h hb' (show (x.free id).β b = some bb from h1) h2 (cs' := cs.set j (.sl false ((els.drop lo).take n))) (vs' := vs) (by simpa using h3) h4 (fun i u hu => by
    rw [List.getElem?_set] at hu
    split at hu
    · rename_i e2
      subst e2
      injection hu with hu
      subst hu
      exact .dat hd
    · exact (h5 i u hu).mono st.mo)
  rw [setRow_self w bb vs t (0, 0) h2] at st2
  have st3 := st.trans st2
  exact ⟨_, st3.h, fun t u ht => (hC.t t u ht).mono st3.mo, hC.n, hC.d, hC.tr.trans st3.tr, hC.mo.trans st3.mo, hC.lo, hC.ln, hC.dom⟩
theorem Sub.freezeT (P : Program) {s : St} {k id g sz lo n : Nat} {rt : TypeId} {els : List (List AV)} (hj : look s.tm k = some (.row id g sz lo n)) (hr : look s.hp id = some (.row rt sz g els)) (hle : lo + n ≤ els.length) (hs : 0 < sz) :
    Sub s { s with tm := setA k (.sl false ((els.drop lo).take n)) s.tm, hp := delA id s.hp } := fun B a w ⟨x, hC⟩ => by
  obtain ⟨v, ids, h6, h7⟩ := normQ_s (P := P) (nid := 0) (s := s) (K := fun _ _ => True) (k := fun v wr => .need (v = .sl false ((els.drop lo).take n) ∧ wr = [(id, none)]) (.done v wr)) hC (hC.t k _ hj) (by
    simp only [normQ, wpQ, hr]
    exact ⟨⟨trivial, trivial, hle, hs⟩, ⟨trivial, trivial⟩, trivial⟩)
  obtain ⟨⟨e1, e2⟩, _⟩ := h7
  subst e1
  have hids : ids = [id] := by
    cases ids with
    | nil => simp at e2
    | cons i r =>
      simp only [List.map_cons, List.cons.injEq, Prod.mk.injEq, and_true] at e2
      obtain ⟨rfl, e3⟩ := e2
      rw [List.map_eq_nil_iff] at e3
      rw [e3]
  subst hids
  have st := Stp.del hC.h hr
  have hd := h6.2 (x.free id) st.mo.ok (fun i hi _ bl hbl => by simp at hi; subst hi; exact .inr hbl)
  refine ⟨_, st.h, fun t u ht => ?_, hC.n, hC.d, hC.tr.trans st.tr, hC.mo.trans st.mo, hC.lo, hC.ln, hC.dom⟩
  rw [look_setA] at ht
  split at ht
  · rename_i e1
    subst e1
    injection ht with ht
    subst ht
    exact .dat hd
  · exact (hC.t t u ht).mono st.mo

/-! ### Loops -/
theorem VC.loop {c : Code} {X : Type} (S : X → St) (I : X → Prop) (μ : X → Nat) (h0 : ∃ x, I x ∧ Sub s (S x)) (round : ∀ x, I x → VC P B c (thn (fun s' => ∃ x', I x' ∧ μ x' < μ x ∧ Sub s' (S x')) Q) (S x)) : VC P B (.loop c) Q s := fun a w hs => by
  let J : Nat → Act → World → Prop := fun n a w => ∃ x, I x ∧ μ x = n ∧ SRel B (S x) a w
  have least : ∀ a w, (∃ n, J n a w) → ∃ n, J n a w ∧ ∀ m, J m a w → n ≤ m := by
    intro a w ⟨n, hn⟩
    induction n using Nat.strongRecOn with
    | _ n ih =>
      by_cases h : ∃ m, m < n ∧ J m a w
      · obtain ⟨m, h1, h2⟩ := h
        exact ih m h1 h2
      · exact ⟨n, hn, fun m hm => Nat.le_of_not_lt fun hlt => h ⟨m, hlt, hm⟩⟩
  open Classical in
  refine wp_loop (fun a w => ∃ n, J n a w) (fun a w => if h : ∃ n, J n a w then Classical.choose (least a w h) else 0) ?_ ?_
  · obtain ⟨x, h1, h2⟩ := h0
    exact ⟨_, x, h1, rfl, h2 B a w hs⟩
  · intro a w hJ
    obtain ⟨h1, h2⟩ := Classical.choose_spec (least a w hJ)
    obtain ⟨x, hx1, hx2, hx3⟩ := h1
    refine wp_mono (round x hx1 a w hx3) ?_
    rintro e a' w' ⟨s', h3, h4⟩
    cases e with
    | normal =>
      obtain ⟨x', h5, h6, h7⟩ := h3
      have hJ' : J (μ x') a' w' := ⟨x', h5, rfl, h7 B a' w' h4⟩
      refine ⟨⟨_, hJ'⟩, ?_⟩
      show (if h : ∃ n, J n a' w' then Classical.choose (least a' w' h) else 0) < (if h : ∃ n, J n a w then Classical.choose (least a w h) else 0)
      rw [dif_pos ⟨_, hJ'⟩, dif_pos hJ]
      have h8 := (Classical.choose_spec (least a' w' ⟨_, hJ'⟩)).2 _ hJ'
      omega
    | _ => exact ⟨s', h3, h4⟩

/-! ### Functions -/
def resV (T : Nat → TI) (s : St) : ResultVar → Option AV
  | .tmp t => look s.tm t
  | .cell p t => match look s.tm p with
    | some (.ref id off) => match look s.hp id with
      | some (.box _ cs) => if off + (T t).sz ≤ cs.length ∧ (T t).known ∧ ((T t).agg = false → (T t).sz = 1) then some (takeV T t cs off) else none
      | _ => none
    | _ => none
def resL (T : Nat → TI) (s : St) : List ResultVar → Option (List AV)
  | [] => some []
  | r :: l => match resV T s r, resL T s l with
    | some v, some m => some (v :: m)
    | _, _ => none
def resAV : List AV → AV
  | [v] => v
  | l => .tup l
end
end Go.Proofs.Ytpmnchgpbojppaa

/- The abstract machine: functions. -/
set_option linter.unusedVariables false
namespace Go.Proofs.Ytpmnchgpbojppaa
open Go Go.RowKit

section
variable {P : Program} {T : Nat → TI} {B : Base} {s : St}

def resS (tmps : Array Value) : ResultVar → Sem Value
  | .tmp t => pure (tmps.getD t undef)
  | .cell a t => do loadVar t (← asAddr (tmps.getD a undef))
theorem results_eq (fn : Func) (tmps : Array Value) : results fn tmps = (do let vs ← fn.results.mapM (resS tmps); pure (if h : vs.size = 1 then vs[0] else .tuple vs)) := rfl
theorem res_run (hT : TabOk P T) {D : Nat → Prop} {a : Act} {w : World} {x : Cx} (hC : Core B D s a w x) : ∀ {l : List ResultVar} {us : List AV}, resL T s l = some us →
    ∃ vals, (l.mapM (resS a.tmps)).run P w = .ok vals w ∧ VRels w x s.hp us vals
  | [], us, h => by
    simp only [resL, Option.some.injEq] at h
    subst h
    exact ⟨[], rfl, .nil⟩
  | r :: l, us, h => by
    simp only [resL] at h
    split at h
    · rename_i v m hv hm
      injection h with h
      subst h
      obtain ⟨vals, h1, h2⟩ := res_run hT hC hm
      have key : ∃ val, (resS a.tmps r).run P w = .ok val w ∧ VRel w x s.hp v val := by
        cases r with
        | tmp t => exact ⟨_, rfl, hC.t t v hv⟩
        | cell p t =>
          simp only [resV] at hv
          split at hv
          · rename_i id off hp
            split at hv
            · rename_i bt cs hob
              split at hv
              · rename_i hcond
                injection hv with hv
                subst hv
                obtain ⟨hfit, hk, hz⟩ := hcond
                have h3 := hC.t p _ hp
                obtain ⟨b, vs, hb, hw, hvs, hone, hrel⟩ := box_of hC hob
                generalize hq : a.tmps.getD p undef = pv at h3
                cases h3 with
                | dat h => cases h
                | ref _ _ q hid hh =>
                  obtain ⟨b', hb', rfl⟩ := hh ⟨_, _, hob⟩
                  rw [hb] at hb'
                  injection hb' with hb'
                  subst hb'
                  obtain ⟨r, hr, hv'⟩ := load_s (P := P) (hp := s.hp) (x := x) hT hk hz (vs := fun j => vs.getD (off + j) undef) (p := ⟨b, off, none⟩) (cs := cs) (off := off) (fun j hj => ⟨cell_getD hw (by omega), hone _ (by omega)⟩) (fun j u hj hu => hrel _ _ hu) hfit
                  refine ⟨r, ?_, hv'⟩
                  show ((do loadVar t (← asAddr (a.tmps.getD p undef))) : Sem Value).run P w = _
                  rw [hq]
                  simp [asAddr, hr]
              · cases hv
            · cases hv
          · cases hv
      obtain ⟨val, h3, h4⟩ := key
      refine ⟨val :: vals, ?_, .cons h4 h2⟩
      rw [List.mapM_cons]
      simp only [Sem.run_bind, h3, h1, Result.andThen_ok, Sem.run_pure]
    · cases h

/-- What a function must leave. -/
def Post (T : Nat → TI) (rs : List ResultVar) (r : AV) (H' : Hp) (e : Exit) (s : St) : Prop :=
  (match e with | .normal => True | .ret => True | _ => False) ∧ (resL T s rs).map resAV = some r ∧ (∀ p ∈ H', look s.hp p.1 = some p.2) ∧ (r.in3 H'.has && H'.all fun p => p.2.inD H'.has) = true
def enumA : Nat → List AV → List (Nat × AV)
  | _, [] => []
  | i, u :: l => (i, u) :: enumA (i + 1) l
theorem look_enumA : ∀ (l : List AV) (i t : Nat) (u : AV), look (enumA i l) t = some u → i ≤ t ∧ l[t - i]? = some u
  | [], i, t, u, h => by simp [enumA, look] at h
  | v :: l, i, t, u, h => by
    simp only [enumA, look] at h
    split at h
    · rename_i e
      injection h with h
      subst e
      exact ⟨Nat.le_refl _, by simp [h]⟩
    · rename_i e
      obtain ⟨h1, h2⟩ := look_enumA l (i + 1) t u h
      refine ⟨by omega, ?_⟩
      rw [show t - i = (t - (i + 1)) + 1 by omega]
      simpa using h2

theorem Ctr.of (hT : TabOk P T) {f : FuncId} {fn : Func} {c : Code} (hf : P.funcs[f]? = some fn) (hb : fn.body = some c) (hcall : ∀ vals w, (callFunc f vals).run P w = .ok (.enter f vals) w) {args : List AV} {H H' : Hp} {r : AV} (n nt : Nat) (hnt : fn.ntmps = nt) (rs : List ResultVar) (hrs : fn.results.toList = rs)
    (hn : decide (args.length ≤ nt) = true) (hids : (H.all fun p => decide (p.1 < n)) = true) (h : ∀ B, VC P B c (Post T rs r H') ⟨enumA 0 args, H, n, nt, n⟩) : Ctr P f args H r H' := by
  subst hnt
  subst hrs
  have hn := of_decide_eq_true hn
  refine ⟨hcall, fun w x vals hH hdom hsz hargs => calls_of_wp hf hb ?_⟩
  have hlt : ∀ id, Hp.has H id = true → id < n := fun id hid => by
    obtain ⟨o, ho⟩ := Option.isSome_iff_exists.1 hid
    have := look_all hids ho
    simpa using this
  let B : Base := ⟨w, x, H⟩
  have hC : Core B (· < n) ⟨enumA 0 args, H, n, fn.ntmps, n⟩ { tmps := vals ++ Array.replicate (fn.ntmps - vals.size) undef, defers := [] } w x := by
    refine ⟨hH, fun t u ht => ?_, by simp; omega, rfl, Tr.refl _ _ _, Mo.refl _ _ _, fun id g hd => hlt id (hdom id g hd), Nat.le_refl _, fun id g hd => hlt id (hdom id g hd)⟩
    obtain ⟨_, h2⟩ := look_enumA args 0 t u ht
    rw [Nat.sub_zero] at h2
    have h3 := hargs t u h2
    have h4 := lt_of_get h2
    have e : (vals ++ Array.replicate (fn.ntmps - vals.size) undef).getD t undef = vals.getD t undef := by
      simp only [Array.getD_eq_getD_getElem?]
      rw [Array.getElem?_append_left (by omega)]
    show VRel w x H u ((vals ++ Array.replicate (fn.ntmps - vals.size) undef).getD t undef)
    rw [e]
    exact h3
  refine wp_mono (h B _ w ⟨x, hC⟩) ?_
  rintro e a' w' ⟨s', ⟨he, hres, hH', hin⟩, x', hC'⟩
  simp only [Bool.and_eq_true] at hin
  obtain ⟨us, hus, rfl⟩ := Option.map_eq_some_iff.1 hres
  obtain ⟨vs, hvs, hrel⟩ := res_run hT hC' hus
  have hlen := hrel.len
  have e1 : (results fn a'.tmps).run P w' = .ok (if h : vs.toArray.size = 1 then vs.toArray[0] else .tuple vs.toArray) w' := by
    rw [results_eq, Array.mapM_eq_mapM_toList]
    simp [hvs]
  have hrun : ∃ v, (results fn a'.tmps).run P w' = .ok v w' ∧ VRel w' x' s'.hp (resAV us) v := by
    refine ⟨_, e1, ?_⟩
    cases hrel with
    | nil => exact .tup [] #[] rfl (fun i u h => by simp at h)
    | @cons u v us vs h1 h2 =>
      cases h2 with
      | nil => simpa [resAV] using h1
      | @cons u2 v2 us vs h3 h4 =>
        have : ¬ (v :: v2 :: vs).toArray.size = 1 := by simp
        rw [dif_neg this]
        exact .tup _ _ (by simpa using hlen) (VRels.at_ (.cons h1 (.cons h3 h4)))
  obtain ⟨v, hr, hv⟩ := hrun
  have hS := subH_of hH'
  have hHin : ∀ id o, look H' id = some o → Hp.has H' id = true ∧ o.inD (Hp.has H') = true := fun id o hl => ⟨by simp [Hp.has, hl], by
    have := look_all hin.2 hl
    exact this⟩
  have hsub := hC'.h.sub hS (Hp.has H') hHin
  have hv2 := (hv.in3_ hin.1).mono (Mo.sub (w := w') (x := x'.only (Hp.has H')) hS)
  obtain ⟨xf, hxf⟩ : ∃ xf : Cx, xf = { ok := x'.ok, dom := fun k g => (x'.dom k g ∧ Hp.has H' k = true) ∨ x.dom k g, β := x'.β, γ := x'.γ } := ⟨_, rfl⟩
  have hmf : Mo w' (x'.only (Hp.has H')) H' w' xf H' := by
    subst hxf
    exact ⟨fun _ h => h, fun k g h => Or.inl h, fun _ _ => rfl, fun _ _ h => ⟨h, rfl⟩, fun _ _ _ _ h => ⟨h, rfl, rfl⟩, fun _ _ h => ⟨h, rfl⟩⟩
  have hst : Stp w x H w' xf H' := by
    subst hxf
    have m1 := hC'.mo
    have t1 := hC'.tr
    refine ⟨⟨m1.ok, fun id g hd => Or.inr hd, m1.ag, fun id hd ⟨t, cs, h⟩ => m1.box id hd ⟨t, cs, hS _ _ h⟩, fun id g sz hd ⟨t, cs, h⟩ => m1.row id g sz hd ⟨t, cs, hS _ _ h⟩, fun id hd ⟨t, cs, h⟩ => m1.mp id hd ⟨t, cs, hS _ _ h⟩⟩,
      ⟨t1.os, t1.tape, t1.output, t1.size, t1.keep, t1.okx, fun id o b hl => t1.newb id o b (hS _ _ hl)⟩,
      ⟨hsub.okb, fun id o hl => Or.inl (hsub.dom id o hl), fun id t sz g els g' hl hd => ?_, fun id t sz g els hl => Or.inl (hsub.gdm id t sz g els hl), hsub.liv, hsub.inj, fun id o hl => (hsub.obj id o hl).mono hmf rfl rfl (fun _ _ => rfl)⟩⟩
    rcases hd with h | h
    · exact hsub.gen id t sz g els g' hl h
    · exact hC'.h.gen id t sz g els g' (hS _ _ hl) (m1.dom _ _ h)
  have hdf : ∀ id g, xf.dom id g → Hp.has H' id = true ∨ Hp.has H id = true := fun id g hd => by
    subst hxf
    rcases hd with h | h
    · exact .inl h.2
    · exact .inr (hdom id g h)
  have hfin : bodyPost P fn (fun e w' => ∃ v x', e = .returned v ∧ Stp w x H w' x' H' ∧ VRel w' x' H' (resAV us) v ∧ ∀ id g, x'.dom id g → Hp.has H' id = true ∨ Hp.has H id = true) e a' w' := by
    cases e with
    | normal => exact ⟨hC'.d, v, hr, v, xf, rfl, hst, hv2.mono hmf, hdf⟩
    | ret => exact ⟨hC'.d, v, hr, v, xf, rfl, hst, hv2.mono hmf, hdf⟩
    | _ => exact he.elim
  exact hfin

/-- The last region of a piece. -/
theorem VC.lastR {Q : Exit → St → Prop} (hT : TabOk P T) (ds : List (Option Nat)) {id : Nat} {ops : List Oper} (hds : ops.map (·.dst) = ds) (hd : dstOk ops.toArray s.nt = true) (h : ∀ K : St → Prop, (∀ s', Q .normal s' → K s') → runOps P T ds ops 0 s fun s' => K s') : VC P B (.region id ops.toArray false) Q s := by
  subst hds
  exact VC.region hT hd (h _ fun _ h => h)
theorem VC.lastD {Q : Exit → St → Prop} (hT : TabOk P T) (hm : P.follows .mixedOrders = true) (ds : List (Option Nat)) {id : Nat} {ops : List Oper} (hds : ops.map (·.dst) = ds) (hd : dstOk ops.toArray s.nt = true) (hb : backOk ops.toArray = true)
    (h : ∀ K : St → Prop, (∀ s', Q .normal s' → K s') → runD P T ds ops 0 s [] fun recs s' => ordOk (befs ops []) recs = true ∧ K s') : VC P B (.region id ops.toArray true) Q s := by
  subst hds
  exact VC.regionD hT hm hd hb (h _ fun _ h => h)
def updL {α : Type} : List (Nat × α) → List (Nat × α) → List (Nat × α)
  | [], l => l
  | (k, v) :: r, l => updL r (setA k v l)
/-- A loop: what changes in the state, by x. -/
theorem VC.loopU {Q : Exit → St → Prop} {c : Code} {X : Type} (tm : X → List (Nat × AV)) (hp : X → Hp) (I : X → Prop) (μ : X → Nat) (x0 : X) (h0 : I x0) (hs : Sub s ⟨updL (tm x0) s.tm, updL (hp x0) s.hp, s.nx, s.nt, s.lo⟩)
    (round : ∀ x, I x → VC P B c (thn (fun s' => ∃ x', I x' ∧ μ x' < μ x ∧ Sub s' ⟨updL (tm x') s.tm, updL (hp x') s.hp, s.nx, s.nt, s.lo⟩) Q) ⟨updL (tm x) s.tm, updL (hp x) s.hp, s.nx, s.nt, s.lo⟩) : VC P B (.loop c) Q s :=
  VC.loop (fun x => ⟨updL (tm x) s.tm, updL (hp x) s.hp, s.nx, s.nt, s.lo⟩) I μ ⟨x0, h0, hs⟩ round
end
end Go.Proofs.Ytpmnchgpbojppaa

/- The abstract machine: how long slices may be. -/
set_option linter.unusedVariables false
namespace Go.Proofs.Ytpmnchgpbojppaa
open Go Go.RowKit
section
variable {P : Program} {T : Nat → TI} {B : Base} {Q : Exit → St → Prop} {s : St}
def AV.short : AV → Prop
  | .sl _ els => els.length ≤ 9223372036854775807
  | _ => True
def AV.shorts : AV → Prop
  | .agg cs => ∀ u ∈ cs, u.short
  | .sl _ els => els.length ≤ 9223372036854775807 ∧ ∀ cs ∈ els, ∀ u ∈ cs, u.short
  | _ => True
def AObj.shorts : AObj → Prop
  | .box _ cs => ∀ u ∈ cs, u.shorts
  | .row _ _ _ els => els.length ≤ 9223372036854775807
  | .mp _ _ => True
theorem Dat.short {w : World} {ok : Nat → Prop} {u : AV} {v : Value} (h : Dat w ok u v) : u.short := by
  cases h with
  | raw => trivial
  | sl _ els A c sz vals hc hm => exact Nat.le_trans hc hm
theorem VRel.short {w : World} {x : Cx} {hp : Hp} {u : AV} {v : Value} (h : VRel w x hp u v) : u.short := by
  cases h with
  | dat h => exact h.short
  | _ => trivial
theorem VRel.shorts_ {w : World} {x : Cx} {hp : Hp} {u : AV} {v : Value} (h : VRel w x hp u v) : u.shorts := by
  cases h with
  | dat h =>
    have h0 := h.short
    cases h with
    | raw => trivial
    | sl _ els A c sz vals hc hm ht hsz hA hcell hd =>
      refine ⟨h0, fun cs hcs u hu => ?_⟩
      obtain ⟨i, hi⟩ := List.getElem?_of_mem hcs
      obtain ⟨j, hj⟩ := List.getElem?_of_mem hu
      exact (hd i j cs u hi hj).short
  | agg cs vs hl h1 h2 =>
    intro u hu
    obtain ⟨j, hj⟩ := List.getElem?_of_mem hu
    exact (h2 j u hj).short
  | _ => trivial
theorem HRel.shorts {w : World} {x : Cx} {hp : Hp} {id : Nat} {o : AObj} (h : HRel w x hp) (hl : look hp id = some o) : o.shorts := by
  have := h.obj id o hl
  cases o with
  | box t cs =>
    obtain ⟨b, vs, _, _, _, _, h5⟩ := this
    intro u hu
    obtain ⟨j, hj⟩ := List.getElem?_of_mem hu
    exact (h5 j u hj).shorts_
  | row t sz g els =>
    obtain ⟨_, ⟨_, rfl⟩ | ⟨b, vs, _, _, _, h4, h5, _⟩⟩ := this
    · exact Nat.zero_le _
    · exact Nat.le_trans h4 h5
  | mp es n => trivial
theorem VC.shortT {c : Code} {k : Nat} {u : AV} (hl : look s.tm k = some u) (h : u.shorts → VC P B c Q s) : VC P B c Q s := fun a w ⟨x, hC⟩ => h (hC.t k u hl).shorts_ a w ⟨x, hC⟩
theorem VC.shortH {c : Code} {k : Nat} {o : AObj} (hl : look s.hp k = some o) (h : o.shorts → VC P B c Q s) : VC P B c Q s := fun a w ⟨x, hC⟩ => h (hC.h.shorts hl) a w ⟨x, hC⟩
theorem Post.ret {rs : List ResultVar} {r : AV} {H' : Hp} (h1 : (resL T s rs).map resAV = some r) (h2 : ∀ p ∈ H', look s.hp p.1 = some p.2) (h3 : (r.in3 H'.has && H'.all fun p => p.2.inD H'.has) = true) : Post T rs r H' .ret s := ⟨trivial, h1, h2, h3⟩
theorem Post.nrm {rs : List ResultVar} {r : AV} {H' : Hp} (h1 : (resL T s rs).map resAV = some r) (h2 : ∀ p ∈ H', look s.hp p.1 = some p.2) (h3 : (r.in3 H'.has && H'.all fun p => p.2.inD H'.has) = true) : Post T rs r H' .normal s := ⟨trivial, h1, h2, h3⟩
theorem wrap_i64 {n : Int} (h1 : -9223372036854775808 ≤ n) (h2 : n ≤ 9223372036854775807) : IntKind.i64.wrap n = n := by
  rw [IntKind.wrap_i64]
  omega
theorem drop_get {α : Type} {l : List α} {i : Nat} {e : α} (h : l[i]? = some e) : l.drop i = e :: l.drop (i + 1) := by
  obtain ⟨hi, rfl⟩ := List.getElem?_eq_some_iff.1 h
  exact List.drop_eq_getElem_cons hi
theorem wrap_succ {i : Nat} (h : i + 1 ≤ 9223372036854775807) : IntKind.i64.wrap ((i : Int) + 1) = (i : Int) + 1 := wrap_i64 (by omega) (by omega)
end
end Go.Proofs.Ytpmnchgpbojppaa

