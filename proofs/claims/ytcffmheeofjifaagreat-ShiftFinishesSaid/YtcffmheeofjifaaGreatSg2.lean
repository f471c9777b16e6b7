/- Packed texts: Mc, Fm, Fr, Fs, Fc, Ty, Tz. -/
import Derived.Test.YtcffmheeofjifaaGreatSg1
import Derived.Scope
import Derived.MapKept
import Derived.Lib.SliceRun
import Derived.Test.YtcffmheeofjifaaGreatProg
set_option linter.unusedVariables false
set_option linter.unusedSimpArgs false
namespace Go.Proofs.YtcffmheeofjifaaGreat
open Go Go.RowKit
section
variable {P : Program} {T : Nat → TI} {B : Base} {D : Nat → Prop} {nid : Nat} {s : St} {a : Act} {w : World} {x : Cx} {K : AV → Wr → Prop} {hp : Hp}
def Cx.only (x : Cx) (d : Nat → Bool) : Cx:={ x with dom:=fun k g=>x.dom k g ∧ d k = true }
theorem VRel.in0_ {d : Nat → Bool} {u : AV} {v : Value} (h : VRel w x hp u v) (hd : u.in0 d = true) : VRel w (x.only d) hp u v:=by
  cases h with
  | dat h=>exact .dat h
  | ref id off p hid h=>exact .ref _ _ _ ⟨hid,hd⟩ h
  | elt id g sz i off p hid h=>exact .elt _ _ _ _ _ _ ⟨hid,hd⟩ h
  | datp els i off sz p vals h3 h4 h5 h6=>exact .datp _ _ _ _ p vals h3 h4 h5 h6
  | row id g sz lo n A c hid hc h=>exact .row _ _ _ _ _ _ _ ⟨hid,hd⟩ hc h
  | bsl id off n A c hid hc hm h=>exact .bsl _ _ _ _ _ ⟨hid,hd⟩ hc hm h
  | rsl id g sz i off n A c hid hc hm h=>exact .rsl _ _ _ _ _ _ _ _ ⟨hid,hd⟩ hc hm h
  | mp id r hid h=>exact .mp _ _ ⟨hid,hd⟩ h
  | dead v=>exact .dead v
  | agg | tup | fn | ifb=>simp [AV.in0] at hd
theorem all_at {α : Type} {l : List α} {p : α → Bool} (h : l.all p = true) {i : Nat} {u : α} (hi : l[i]? = some u) : p u = true:=(List.all_eq_true.1 h) u (List.mem_of_getElem? hi)
theorem VRel.in1_ {d : Nat → Bool} {u : AV} {v : Value} (h : VRel w x hp u v) (hd : u.in1 d = true) : VRel w (x.only d) hp u v:=by
  cases u with
  | fn f first caps=>
    simp only [AV.in1,Bool.and_eq_true] at hd
    cases h with
    | dat h=>cases h
    | fn _ _ _ fs cs h3 h4 h5 h6=>exact .fn _ _ _ fs cs h3 h4 (fun i u hu=>(h5 i u hu).in0_ (all_at hd.1 hu)) (fun i u hu=>(h6 i u hu).in0_ (all_at hd.2 hu))
  | _=>exact h.in0_ hd
theorem VRel.in2_ {d : Nat → Bool} {u : AV} {v : Value} (h : VRel w x hp u v) (hd : u.in2 d = true) : VRel w (x.only d) hp u v:=by
  cases u with
  | agg cs=>
    cases h with
    | dat h=>cases h
    | agg _ vs h3 h4 h5=>exact .agg _ vs h3 h4 (fun i u hu=>(h5 i u hu).in1_ (all_at hd hu))
  | _=>exact h.in1_ hd
theorem VRel.in3_ {d : Nat → Bool} {u : AV} {v : Value} (h : VRel w x hp u v) (hd : u.in3 d = true) : VRel w (x.only d) hp u v:=by
  cases u with
  | tup cs=>
    cases h with
    | dat h=>cases h
    | tup _ vs h3 h5=>exact .tup _ vs h3 (fun i u hu=>(h5 i u hu).in2_ (all_at hd hu))
  | ifb c u=>
    cases h with
    | dat h=>cases h
    | ifb _ _ _ h0 h3=>exact .ifb _ _ _ h0 fun hc=>(h3 hc).in2_ hd
  | _=>exact h.in2_ hd
def SubH (H hp : Hp) : Prop:=∀ id o,look H id = some o → look hp id = some o
theorem subH_of {H hp : Hp} (h : ∀ p ∈ H,look hp p.1 = some p.2) : SubH H hp:=by
  intro id o hl
  induction H with
  | nil=>simp [look] at hl
  | cons p H ih=>
    obtain ⟨j,u⟩:=p
    simp only [look] at hl
    split at hl
    · rename_i e
      injection hl with hl
      subst e
      subst hl
      exact h (id,u) (by simp)
    · exact ih (fun p hp=>h p (by simp [hp])) hl
theorem Mo.sub {H : Hp} (hs : SubH H hp) : Mo w x hp w x H:=
  ⟨fun _ h=>h,fun _ _ h=>h,fun _ _=>rfl,fun id _ ⟨t,cs,h⟩=>⟨⟨t,cs,hs _ _ h⟩,rfl⟩,fun id g sz _ ⟨t,cs,h⟩=>⟨⟨t,cs,hs _ _ h⟩,rfl,rfl⟩,fun id _ ⟨t,cs,h⟩=>⟨⟨t,cs,hs _ _ h⟩,rfl⟩⟩
theorem ORel.only_ {H : Hp} (hs : SubH H hp) {d : Nat → Bool} {id : Nat} {o : AObj} (h : ORel w x hp id o) (hd : o.inD d = true) : ORel w (x.only d) H id o:=by
  have m : Mo w (x.only d) hp w (x.only d) H:=Mo.sub hs
  cases o with
  | box t cs=>
    obtain ⟨b,vs,h1,h2,h3,h4,h5⟩:=h
    exact ⟨b,vs,h1,h2,h3,h4,fun i u hu=>((h5 i u hu).in1_ (all_at hd hu)).mono m⟩
  | row t sz g els=>exact h
  | mp es n=>
    obtain ⟨b,ms,h1,h2,h3,h4⟩:=h
    refine ⟨b,ms,h1,h2,h3,fun i k u hu=>?_⟩
    obtain ⟨m',e1,e2,e3⟩:=h4 i k u hu
    exact ⟨m',e1,e2,(e3.in1_ (by have:=all_at hd hu; exact this)).mono m⟩
theorem HRel.sub {H : Hp} (h : HRel w x hp) (hs : SubH H hp) (d : Nat → Bool) (hd : ∀ id o,look H id = some o → d id = true ∧ o.inD d = true) : HRel w (x.only d) H where
  okb:=h.okb
  dom id o hl:=⟨h.dom id o (hs _ _ hl),(hd id o hl).1⟩
  gen id t sz g els g' hl hdm:=h.gen id t sz g els g' (hs _ _ hl) hdm.1
  gdm id t sz g els hl:=⟨h.gdm id t sz g els (hs _ _ hl),(hd id _ hl).1⟩
  liv id o b hl hb:=h.liv id o b (hs _ _ hl) hb
  inj id id' o o' b hl hl':=h.inj id id' o o' b (hs _ _ hl) (hs _ _ hl')
  obj id o hl:=(h.obj id o (hs _ _ hl)).only_ hs (hd id o hl).2
theorem look_callW (H H' hp : Hp) (id : Nat) : look (applyW (callW H H') hp) id = match look H' id with
    | some o=>some o
    | none=>if H.has id then none else look hp id:=by
  have h1 : ∀ (l : Hp) (hp : Hp),look (applyW (l.map fun p=>(p.1,none)) hp) id = if l.has id then none else look hp id:=by
    intro l
    induction l with
    | nil=>intro hp; rfl
    | cons p l ih=>
      obtain ⟨j,u⟩:=p
      intro hp
      simp only [List.map_cons,applyW]
      rw [ih,look_delA]
      unfold Hp.has
      simp only [look]
      by_cases h : id = j
      · subst h
        simp
      · simp [h]
  have h2 : ∀ (l : Hp) (hp : Hp),look (applyW (l.map fun p=>(p.1,some p.2)) hp) id = match look l.reverse id with
      | some o=>some o
      | none=>look hp id:=by
    have app : ∀ (a b : Hp),look (a ++ b) id = match look a id with | some o=>some o | none=>look b id:=by
      intro a b
      induction a with
      | nil=>rfl
      | cons p a ih=>
        obtain ⟨j,u⟩:=p
        simp only [List.cons_append,look]
        split
        · rfl
        · exact ih
    intro l
    induction l with
    | nil=>intro hp; rfl
    | cons p l ih=>
      obtain ⟨j,u⟩:=p
      intro hp
      simp only [List.map_cons,applyW,List.reverse_cons]
      rw [ih,look_setA,app]
      cases look l.reverse id with
      | some o=>rfl
      | none=>
        simp only [look]
        by_cases h : id = j
        · simp [h]
        · simp [h]
  unfold callW
  rw [applyW_append,h2,h1,List.reverse_reverse]
theorem look_kept {R : List Nat} {H H' hp : Hp} (hR : Kept R H H') (hsub : ∀ p ∈ H,look hp p.1 = some p.2) (id : Nat) : look (applyW (callW (rmv R H) (rmv R H')) hp) id = look (applyW (callW H H') hp) id:=by
  have hS:=subH_of hsub
  rw [look_callW,look_callW,look_rmv]
  have hh : Hp.has (rmv R H) id = if id ∈ R then false else Hp.has H id:=by
    unfold Hp.has
    rw [look_rmv]
    split <;> rfl
  rw [hh]
  by_cases hi : id ∈ R
  · simp only [if_pos hi]
    rw [hR id hi]
    cases hl : look H id with
    | none=>simp [Hp.has,hl]
    | some o=>simpa using hS id o hl
  · simp only [if_neg hi]
theorem Mo.congr {w : World} {x : Cx} {hp1 hp2 : Hp} (h : ∀ id,look hp2 id = look hp1 id) : Mo w x hp1 w x hp2:=
  ⟨fun _ h=>h,fun _ _ h=>h,fun _ _=>rfl,fun id _ ⟨t,cs,e⟩=>⟨⟨t,cs,(h id).symm.trans e⟩,rfl⟩,fun id _ _ _ ⟨t,cs,e⟩=>⟨⟨t,cs,(h id).symm.trans e⟩,rfl,rfl⟩,fun id _ ⟨t,cs,e⟩=>⟨⟨t,cs,(h id).symm.trans e⟩,rfl⟩⟩
theorem VRel.congr {w : World} {x : Cx} {hp1 hp2 : Hp} {u : AV} {v : Value} (hv : VRel w x hp1 u v) (h : ∀ id,look hp2 id = look hp1 id) : VRel w x hp2 u v:=hv.mono (Mo.congr h)
theorem HRel.congr {w : World} {x : Cx} {hp1 hp2 : Hp} (hh : HRel w x hp1) (h : ∀ id,look hp2 id = look hp1 id) : HRel w x hp2:=
  ⟨hh.okb,fun id o hl=>hh.dom id o ((h id).symm.trans hl),fun id t sz g els g' hl=>hh.gen id t sz g els g' ((h id).symm.trans hl),fun id t sz g els hl=>hh.gdm id t sz g els ((h id).symm.trans hl),
    fun id o b hl=>hh.liv id o b ((h id).symm.trans hl),fun id id' o o' b hl hl'=>hh.inj id id' o o' b ((h id).symm.trans hl) ((h id').symm.trans hl'),fun id o hl=>(hh.obj id o ((h id).symm.trans hl)).mono (Mo.congr h) rfl rfl (fun _ _=>rfl)⟩
theorem Stp.congr {w w' : World} {x x' : Cx} {hp hp1 hp2 : Hp} (st : Stp w x hp w' x' hp1) (h : ∀ id,look hp2 id = look hp1 id) : Stp w x hp w' x' hp2:=by
  refine ⟨st.mo.trans (Mo.congr h),?_,st.h.congr h⟩
  have t:=st.tr
  exact ⟨t.os,t.tape,t.output,t.size,t.keep,t.okx,fun id o b hl=>t.newb id o b ((h id).symm.trans hl)⟩
theorem call_s (hC : Core B D s a w x) {o : Oper} {f : FuncId} {H H' : Hp} {r : AV} {args : List AV} {vals : Array Value} (hrun : (execOp a.eval o).run P w = (callFunc f vals).run P w)
    (hvals : vals.size = args.length) (hargs : ∀ (i : Nat) (u : AV),args[i]? = some u → VRel w x s.hp u (vals.getD i undef)) (hsub : ∀ p ∈ H,look s.hp p.1 = some p.2) (hctr : Ctr P f args H r H')
    (hin : (args.all (AV.in3 H.has)) = true) (hinH : (H.all fun p=>p.2.inD H.has) = true) (hnew : (H'.all fun p=>H.has p.1 || p.1 == nid) = true) (hfr : ¬ D nid)
    {next : Act → World → Prop} {Qx : Exit → Act → World → Prop} (hn : ∀ val w' x',Stp w x s.hp w' x' (applyW (callW H H') s.hp) → VRel w' x' (applyW (callW H H') s.hp) r val → (∀ id g,x'.dom id g → x.dom id g ∨ id = nid ∨ s.hp.has id = true) → next (a.put o.dst val) w') : o.wp P a w next Qx:=by
  have hS:=subH_of hsub
  have hHin : ∀ id o,look H id = some o → H.has id = true ∧ o.inD H.has = true:=fun id o hl=>by
    refine ⟨by simp [Hp.has,hl],?_⟩
    have : ∀ (l : Hp),(l.all fun p=>p.2.inD H.has) = true → look l id = some o → o.inD H.has = true:=by
      intro l
      induction l with
      | nil=>intro _ h; simp [look] at h
      | cons p l ih=>
        obtain ⟨j,u⟩:=p
        intro h1 h2
        simp only [List.all_cons,Bool.and_eq_true] at h1
        simp only [look] at h2
        split at h2
        · injection h2 with h2
          subst h2
          exact h1.1
        · exact ih h1.2 h2
    exact this H hinH hl
  have hH:=hC.h.sub hS H.has hHin
  have hm:=Mo.sub (w:=w) (x:=x.only H.has) hS
  have hcall:=hctr.2 w (x.only H.has) vals hH (fun id g hd=>hd.2) hvals (fun i u hu=>((hargs i u hu).in3_ (all_at hin hu)).mono hm)
  unfold Oper.wp
  rw [hrun,hctr.1]
  refine hcall.mono ?_
  rintro e w' ⟨v,x',rfl,st,hv,hdom⟩
  -- the caller's objects,behind the call
  have hH'new : ∀ id o,look H' id = some o → H.has id = true ∨ id = nid:=fun id o hl=>by
    have : ∀ (l : Hp),(l.all fun p=>H.has p.1 || p.1 == nid) = true → look l id = some o → H.has id = true ∨ id = nid:=by
      intro l
      induction l with
      | nil=>intro _ h; simp [look] at h
      | cons p l ih=>
        obtain ⟨j,u⟩:=p
        intro h1 h2
        simp only [List.all_cons,Bool.and_eq_true,Bool.or_eq_true,beq_iff_eq] at h1
        simp only [look] at h2
        split at h2
        · rename_i e
          rw [e]
          exact h1.1
        · exact ih h1.2 h2
    exact this H' hnew hl
  have hnid : look s.hp nid = none:=by
    cases hl : look s.hp nid with
    | none=>rfl
    | some o=>exact absurd (hC.dom _ _ (hC.h.dom _ _ hl)) hfr
  have hlk:=look_callW H H' s.hp
  generalize hhp : applyW (callW H H') s.hp = hp' at hlk
  let mine : Nat → Bool:=fun id=>H.has id || H'.has id
  have lk1 : ∀ id,mine id = true → look hp' id = look H' id:=fun id hm=>by
    rw [hlk]
    cases h1 : look H' id with
    | some o=>rfl
    | none=>
      have : H.has id = true:=by
        simp only [mine,Bool.or_eq_true] at hm
        rcases hm with h | h
        · exact h
        · simp [Hp.has,h1] at h
      simp [this]
  have lk2 : ∀ id,mine id = false → look hp' id = look s.hp id:=fun id hm=>by
    simp only [mine,Bool.or_eq_false_iff] at hm
    rw [hlk]
    cases h1 : look H' id with
    | some o=>simp [Hp.has,h1] at hm
    | none=>simp [hm.1]
  have hmine_hp : ∀ id,mine id = true → s.hp.has id = true ∨ id = nid:=fun id hm=>by
    simp only [mine,Bool.or_eq_true] at hm
    rcases hm with h | h
    · obtain ⟨o,ho⟩:=Option.isSome_iff_exists.1 h
      exact .inl (by simp [Hp.has,hS _ _ ho])
    · obtain ⟨o,ho⟩:=Option.isSome_iff_exists.1 h
      rcases hH'new _ _ ho with h2 | h2
      · obtain ⟨o',ho'⟩:=Option.isSome_iff_exists.1 h2
        exact .inl (by simp [Hp.has,hS _ _ ho'])
      · exact .inr h2
  let x2 : Cx:={ ok:=fun b=>x.ok b ∨ x'.ok b,dom:=fun k g=>x.dom k g ∨ (x'.dom k g ∧ mine k = true),β:=fun k=>if mine k then x'.β k else x.β k,γ:=fun k=>if mine k then x'.γ k else x.γ k }
  have b1 : ∀ k,mine k = true → x2.β k = x'.β k:=fun k h=>if_pos h
  have b2 : ∀ k,mine k = false → x2.β k = x.β k:=fun k h=>if_neg (by simp [h])
  have g1 : ∀ k,mine k = true → x2.γ k = x'.γ k:=fun k h=>if_pos h
  have g2 : ∀ k,mine k = false → x2.γ k = x.γ k:=fun k h=>if_neg (by simp [h])
  -- a block of one's own that was not lent is as it was
  have keep : ∀ id o b,look s.hp id = some o → x.β id = some b → H.has id = false → w'.heap[b]? = w.heap[b]?:=fun id o b hl hb hnH=>by
    refine st.tr.keep b (hC.h.liv id o b hl hb).1 fun id' o' hl' hb'=>?_
    have:=hC.h.inj id id' o o' b hl (hS _ _ hl') hb hb'
    subst this
    simp [Hp.has,hl'] at hnH
  have agok : Agr x.ok w w':=fun b hb=>st.tr.keep b (hC.h.okb b hb) fun id' o' hl' hb'=>(hC.h.liv id' o' b (hS _ _ hl') hb').2 hb
  have hnm : ∀ id o,look s.hp id = some o → mine id = false → H.has id = false:=fun id o _ h=>by simp only [mine,Bool.or_eq_false_iff] at h; exact h.1
  have lentb : ∀ id o b,look H' id = some o → x'.β id = some b → w.heap.size ≤ b ∨ ∃ id0 o0,look H id0 = some o0 ∧ x.β id0 = some b:=fun id o b hl hb=>st.tr.newb id o b hl hb
  have mo : Mo w x s.hp w' x2 hp':=by
    refine ⟨fun _ h=>.inl h,fun _ _ h=>.inl h,agok,?_,?_,?_⟩
    · rintro k hd ⟨t,cs,hl⟩
      cases hmk : mine k with
      | true=>
        rw [lk1 k hmk] at hl
        have hHk : H.has k = true:=by
          rcases hH'new _ _ hl with h | h
          · exact h
          · exact absurd (hC.dom _ _ hd) (h ▸ hfr)
        obtain ⟨⟨t',cs',h1⟩,h2⟩:=st.mo.box k ⟨hd,hHk⟩ ⟨t,cs,hl⟩
        exact ⟨⟨t',cs',hS _ _ h1⟩,(b1 k hmk).trans h2⟩
      | false=>
        rw [lk2 k hmk] at hl
        exact ⟨⟨t,cs,hl⟩,b2 k hmk⟩
    · rintro k g sz hd ⟨t,cs,hl⟩
      cases hmk : mine k with
      | true=>
        rw [lk1 k hmk] at hl
        have hHk : H.has k = true:=by
          rcases hH'new _ _ hl with h | h
          · exact h
          · exact absurd (hC.dom _ _ hd) (h ▸ hfr)
        obtain ⟨⟨t',cs',h1⟩,h2,h3⟩:=st.mo.row k g sz ⟨hd,hHk⟩ ⟨t,cs,hl⟩
        exact ⟨⟨t',cs',hS _ _ h1⟩,(b1 k hmk).trans h2,(g1 k hmk).trans h3⟩
      | false=>
        rw [lk2 k hmk] at hl
        exact ⟨⟨t,cs,hl⟩,b2 k hmk,g2 k hmk⟩
    · rintro k hd ⟨t,cs,hl⟩
      cases hmk : mine k with
      | true=>
        rw [lk1 k hmk] at hl
        have hHk : H.has k = true:=by
          rcases hH'new _ _ hl with h | h
          · exact h
          · exact absurd (hC.dom _ _ hd) (h ▸ hfr)
        obtain ⟨⟨t',cs',h1⟩,h2⟩:=st.mo.mp k ⟨hd,hHk⟩ ⟨t,cs,hl⟩
        exact ⟨⟨t',cs',hS _ _ h1⟩,(b1 k hmk).trans h2⟩
      | false=>
        rw [lk2 k hmk] at hl
        exact ⟨⟨t,cs,hl⟩,b2 k hmk⟩
  have mo2 : Mo w' x' H' w' x2 hp':=by
    have hmd : ∀ k g,x'.dom k g → mine k = true:=fun k g hd=>by
      simp only [mine,Bool.or_eq_true]
      exact (hdom k g hd).symm
    refine ⟨fun _ h=>.inr h,fun k g h=>.inr ⟨h,hmd k g h⟩,fun _ _=>rfl,?_,?_,?_⟩
    · rintro k hd ⟨t,cs,hl⟩
      have hmk:=hmd _ _ hd
      rw [lk1 k hmk] at hl
      exact ⟨⟨t,cs,hl⟩,b1 k hmk⟩
    · rintro k g sz hd ⟨t,cs,hl⟩
      have hmk:=hmd _ _ hd
      rw [lk1 k hmk] at hl
      exact ⟨⟨t,cs,hl⟩,b1 k hmk,g1 k hmk⟩
    · rintro k hd ⟨t,cs,hl⟩
      have hmk:=hmd _ _ hd
      rw [lk1 k hmk] at hl
      exact ⟨⟨t,cs,hl⟩,b1 k hmk⟩
  have hsz:=st.tr.size
  have okb' : ∀ b,x'.ok b → x.ok b ∨ w.heap.size ≤ b ∨ ∃ id o,look H id = some o ∧ x.β id = some b:=fun b hb=>st.tr.okx b hb
  have hr2 : HRel w' x2 hp':=by
    refine ⟨?_,?_,?_,?_,?_,?_,?_⟩
    · rintro b (h | h)
      · exact Nat.lt_of_lt_of_le (hC.h.okb b h) hsz
      · exact st.h.okb b h
    · intro k o hl
      cases hmk : mine k with
      | true=>
        rw [lk1 k hmk] at hl
        exact .inr ⟨st.h.dom k o hl,hmk⟩
      | false=>
        rw [lk2 k hmk] at hl
        exact .inl (hC.h.dom k o hl)
    · intro k t sz g els g' hl hd
      cases hmk : mine k with
      | true=>
        rw [lk1 k hmk] at hl
        rcases hd with hd | ⟨hd,_⟩
        · have hHk : H.has k = true:=by
            rcases hH'new _ _ hl with h | h
            · exact h
            · exact absurd (hC.dom _ _ hd) (h ▸ hfr)
          exact st.h.gen k t sz g els g' hl (st.mo.dom _ _ ⟨hd,hHk⟩)
        · exact st.h.gen k t sz g els g' hl hd
      | false=>
        rw [lk2 k hmk] at hl
        rcases hd with hd | ⟨_,hd⟩
        · exact hC.h.gen k t sz g els g' hl hd
        · rw [hmk] at hd
          cases hd
    · intro k t sz g els hl
      cases hmk : mine k with
      | true=>
        rw [lk1 k hmk] at hl
        exact .inr ⟨st.h.gdm k t sz g els hl,hmk⟩
      | false=>
        rw [lk2 k hmk] at hl
        exact .inl (hC.h.gdm k t sz g els hl)
    · intro k o b hl hb
      cases hmk : mine k with
      | true=>
        rw [lk1 k hmk] at hl
        rw [b1 k hmk] at hb
        have h1:=st.h.liv k o b hl hb
        refine ⟨h1.1,?_⟩
        rintro (h2 | h2)
        · rcases lentb k o b hl hb with h3 | ⟨id0,o0,h3,h4⟩
          · have:=hC.h.okb b h2
            omega
          · exact (hC.h.liv id0 o0 b (hS _ _ h3) h4).2 h2
        · exact h1.2 h2
      | false=>
        rw [lk2 k hmk] at hl
        rw [b2 k hmk] at hb
        have h1:=hC.h.liv k o b hl hb
        refine ⟨by omega,?_⟩
        rintro (h2 | h2)
        · exact h1.2 h2
        · rcases okb' b h2 with h3 | h3 | ⟨id0,o0,h3,h4⟩
          · exact h1.2 h3
          · omega
          · have:=hC.h.inj k id0 o o0 b hl (hS _ _ h3) hb h4
            subst this
            have:=hnm k o hl hmk
            simp [Hp.has,h3] at this
    · intro k k' o1 o2 b hl hl' hb hb'
      have cross : ∀ k k' o1 o2,mine k = true → mine k' = false → look hp' k = some o1 → look hp' k' = some o2 → x2.β k = some b → x2.β k' = some b → False:=by
        intro k k' o1 o2 hm hm' hl hl' hb hb'
        rw [lk1 k hm] at hl
        rw [lk2 k' hm'] at hl'
        rw [b1 k hm] at hb
        rw [b2 k' hm'] at hb'
        have h1:=hC.h.liv k' o2 b hl' hb'
        rcases lentb k o1 b hl hb with h3 | ⟨id0,o0,h3,h4⟩
        · omega
        · have:=hC.h.inj k' id0 o2 o0 b hl' (hS _ _ h3) hb' h4
          subst this
          have:=hnm k' o2 hl' hm'
          simp [Hp.has,h3] at this
      cases hmk : mine k with
      | true=>
        cases hmk' : mine k' with
        | true=>
          rw [lk1 k hmk] at hl
          rw [lk1 k' hmk'] at hl'
          rw [b1 k hmk] at hb
          rw [b1 k' hmk'] at hb'
          exact st.h.inj k k' o1 o2 b hl hl' hb hb'
        | false=>exact (cross k k' o1 o2 hmk hmk' hl hl' hb hb').elim
      | false=>
        cases hmk' : mine k' with
        | true=>exact (cross k' k o2 o1 hmk' hmk hl' hl hb' hb).elim
        | false=>
          rw [lk2 k hmk] at hl
          rw [lk2 k' hmk'] at hl'
          rw [b2 k hmk] at hb
          rw [b2 k' hmk'] at hb'
          exact hC.h.inj k k' o1 o2 b hl hl' hb hb'
    · intro k o hl
      cases hmk : mine k with
      | true=>
        rw [lk1 k hmk] at hl
        exact (st.h.obj k o hl).mono mo2 (b1 k hmk) (g1 k hmk) (fun _ _=>rfl)
      | false=>
        rw [lk2 k hmk] at hl
        exact (hC.h.obj k o hl).mono mo (b2 k hmk) (g2 k hmk) (fun b hb=>keep k o b hl hb (hnm k o hl hmk))
  have tr : Tr w x s.hp w' x2 hp':=by
    refine ⟨st.tr.os,st.tr.tape,st.tr.output,hsz,fun b hb hno=>st.tr.keep b hb fun id o hl hb'=>hno id o (hS _ _ hl) hb',?_,?_⟩
    · rintro b (h | h)
      · exact .inl h
      · rcases okb' b h with h3 | h3 | ⟨id0,o0,h3,h4⟩
        · exact .inl h3
        · exact .inr (.inl h3)
        · exact .inr (.inr ⟨id0,o0,hS _ _ h3,h4⟩)
    · intro k o b hl hb
      cases hmk : mine k with
      | true=>
        rw [lk1 k hmk] at hl
        rw [b1 k hmk] at hb
        rcases lentb k o b hl hb with h3 | ⟨id0,o0,h3,h4⟩
        · exact .inl h3
        · exact .inr ⟨id0,o0,hS _ _ h3,h4⟩
      | false=>
        rw [lk2 k hmk] at hl
        rw [b2 k hmk] at hb
        exact .inr ⟨k,o,hl,hb⟩
  rw [hhp] at hn
  refine hn v w' x2 ⟨mo,tr,hr2⟩ (hv.mono mo2) ?_
  rintro id g (h | ⟨_,h⟩)
  · exact .inl h
  · rcases hmine_hp id h with h | h
    · exact .inr (.inr h)
    · exact .inr (.inl h)
end
section
variable {P : Program} {T : Nat → TI} {B : Base} {D : Nat → Prop} {nid : Nat} {s : St} {a : Act} {w : World} {x : Cx} {K : AV → Wr → Prop} {hp : Hp}
def Nxt (nid : Nat) (s : St) (a : Act) (w : World) (x : Cx) (o : Oper) (K : AV → Wr → Prop) (next : Act → World → Prop) : Prop:=
  ∀ v wr val w' x',K v wr → Stp w x s.hp w' x' (applyW wr s.hp) → VRel w' x' (applyW wr s.hp) v val → (∀ id g,x'.dom id g → x.dom id g ∨ id = nid ∨ s.hp.has id = true) → next (a.put o.dst val) w'
theorem Fin.wp {o : Oper} {next : Act → World → Prop} {Qx : Exit → Act → World → Prop} (h : Fin P nid s a w x o K) (hn : Nxt nid s a w x o K next) : o.wp P a w next Qx:=by
  obtain ⟨v,wr,val,w',x',hK,hr,st,hv,hd⟩:=h
  unfold Oper.wp
  rcases hr with hr | ⟨hr,rfl⟩ <;> rw [hr]
  · exact hn v wr val w' x' hK st hv hd
  · exact hn v wr undef w' x' hK st hv hd
def wR (r : Option (Option Nat)) : Fence:={ Fence.wide with round:=r.join }
theorem callsIn_wR {r : Option (Option Nat)} {n : Nat} {f : FuncId} {args : Array Value} {w : World} {R : Ending → World → Prop} : CallsIn (wR r) n P f args w R ↔ Calls P f args w R:=callsIn_wide
theorem wpIn_of {r : Option (Option Nat)} {o : Oper} (ho : ∀ c,o.op ≠ .defer c) {next : Act → World → Prop} {Qx : Exit → Act → World → Prop} (h : o.wp P a w next Qx) : o.wpIn (wR r) 0 P a w next Qx:=by
  refine ⟨fun _ _=>trivial,?_⟩
  rw [show (wR r).round = r.join from rfl,Oper.semAt_eq r.join _ o ho]
  unfold Oper.wp at h
  generalize (execOp a.eval o).run P w = q at h
  cases q with
  | ok y w'=>
    cases y with
    | value v=>exact h
    | skip=>exact h
    | defer d=>exact h
    | enter f args=>exact ⟨fun hd=>by simp [wR,Fence.wide] at hd,callsIn_wR.2 h⟩
    | row row args=>exact ⟨fun hd=>by simp [wR,Fence.wide] at hd,fun c cs _=>let ⟨v,w2,h1,h2⟩:=h c cs; ⟨v,w2,h1,stepsIn_wide.2 h2⟩⟩
    | _=>exact h.elim
  | halt y w'=>
    cases y with
    | panic v=>exact h
    | _=>exact h.elim
theorem FinR.fin {o : Oper} {run : Value → World → Prop} (h : FinR nid s w x K run) (hr : ∀ v w',run v w' → (execOp a.eval o).run P w = .ok (.value v) w') : Fin P nid s a w x o K:=by
  obtain ⟨v,wr,val,w',x',hK,h1,st,hv,hd⟩:=h
  exact ⟨v,wr,val,w',x',hK,.inl (hr _ _ h1),st,hv,hd⟩
theorem splB_get {cs l : List AV} {off m : Nat} (hl : l.length = m) (h : off + m ≤ cs.length) (k : Nat) :
    (cs.take off ++ (l ++ cs.drop (off + m)))[k]? = if k < off then cs[k]? else if k < off + m then l[k - off]? else cs[k]?:=by
  have hlt : (cs.take off).length = off:=by simp; omega
  by_cases h1 : k < off
  · rw [if_pos h1,List.getElem?_append_left (by omega),List.getElem?_take,if_pos h1]
  · rw [if_neg h1,List.getElem?_append_right (by omega),hlt]
    by_cases h2 : k < off + m
    · rw [if_pos h2,List.getElem?_append_left (by omega)]
    · rw [if_neg h2,List.getElem?_append_right (by omega),List.getElem?_drop]
      congr 1
      omega
theorem splB_length {cs l : List AV} {off m : Nat} (hl : l.length = m) (h : off + m ≤ cs.length) : (cs.take off ++ (l ++ cs.drop (off + m))).length = cs.length:=by
  simp
  omega
theorem copyBsl_s (hT : TabOk P T) (hC : Core B D s a w x) {t e : Nat} (hu : P.underlying t = some (.slice e)) (hkn : (T e).known) (hs1 : (T e).sz = 1) {new : List (List AV)} {cs : List AV} {A : Option Addr} {c : Nat} {vals : Nat → Nat → Value} {v0 : Value} {id off n : Nat} {bt : TypeId}
    (hv0 : VRel w x s.hp (.bsl id off n) v0) (hob : look s.hp id = some (.box bt cs)) (hsrc : Src w x.ok (T e).sz new A vals) (hle : off + n ≤ cs.length)
    (hK : K (.raw (.int .i64 (min new.length n : Nat))) [(id,some (.box bt (cs.take off ++ ((new.take n).map AV.hd ++ cs.drop (off + min new.length n)))))]) : FinR nid s w x K (CopyRun P t w v0 (.slice A new.length c)):=by
  obtain ⟨ti,zv,hi,hs,hb,hz,hzc,hzl,hone⟩:=info_of hT e hkn
  obtain ⟨b,vs,hbb,hw,hvs,hon,hrel⟩:=box_of hC hob
  have hmin : Nat.min new.length n = min new.length n:=rfl
  have hs0 : 0 < (T e).sz:=by omega
  cases hv0 with
  | dat h=>cases h
  | bsl _ _ _ A0 c0 hid hc0 hm0 hh=>
    rcases Nat.eq_zero_or_pos (min new.length n) with h0 | h0
    · have hsame : cs.take off ++ ((new.take n).map AV.hd ++ cs.drop (off + min new.length n)) = cs:=by
        have : new.take n = []:=List.eq_nil_of_length_eq_zero (by rw [List.length_take]; omega)
        rw [this,h0]
        simp
      refine ⟨_,_,_,w,x,hK,fun ty=>?_,?_,.raw _,fun k g' h=>.inl h⟩
      · cases A0 <;> cases A <;> simp [Builtin.copy_,run_underlying hu,Builtin.lenOf,Builtin.firstCells,sizeOf,typeInfo,hi,hmin,h0,loadCells,loadCellsFrom,storeCells,goInt]
      · simp only [applyW]
        rw [hsame,setA_same _ hob]
        exact Stp.refl hC.h
    · rcases hh ⟨_,_,hob⟩ with hh | ⟨b',hb',rfl⟩
      · omega
      · rw [hbb] at hb'
        injection hb' with hb'
        subst hb'
        have hst:=hsrc.take n
        have hlt : (new.take n).length = min new.length n:=by rw [List.length_take]; omega
        rcases hst.cell with h1 | ⟨ad,rfl,hcl⟩
        · omega
        · have hfl : (flat (T e).sz (min new.length n) vals).length = min new.length n:=by rw [flat_len,hs1,Nat.mul_one]
          have hfit : off + (flat (T e).sz (min new.length n) vals).length ≤ vs.size:=by rw [hfl,hvs]; omega
          have hns:=hst.news hs0 rfl
          have hos:=hst.ones hs0
          rw [hlt] at hns hos
          have hstr:=run_storeCells_at (P:=P) b off bt (flat (T e).sz (min new.length n) vals) 0 vs w hw (by simpa using hfit) hos
          have hfc:=run_firstCells_some (P:=P) w (T e).sz (min new.length n) ad new.length c (flat (T e).sz (min new.length n) vals) (flat_len _ _ _) hns
          have hrun : ∀ ty,(Builtin.copy_ #[t,t] ty #[.slice (some ⟨b,off,none⟩) n c0,.slice (some ad) new.length c]).run P w = .ok (.int .i64 (min new.length n : Nat)) (w.setRow b (splA vs off (flat (T e).sz (min new.length n) vals))):=fun ty=>by
            simp [Builtin.copy_,run_underlying hu,sizeOf,typeInfo,hi,hs,Builtin.lenOf,hmin,hfc,hstr,splA,goInt]
          have hll : ((new.take n).map AV.hd).length = min new.length n:=by rw [List.length_map,hlt]
          have hf2 : off + min new.length n ≤ cs.length:=by omega
          have st:=Stp.boxSet hC.h hob hbb hw (cs':=cs.take off ++ ((new.take n).map AV.hd ++ cs.drop (off + min new.length n))) (vs':=splA vs off (flat (T e).sz (min new.length n) vals)) (by rw [splA_size hfit,splB_length hll hf2,hvs]) (splA_one hfit hon hos) (fun i u hu=>by
            rw [splB_get hll hf2] at hu
            rw [splA_getD hfit,hfl]
            by_cases q1 : i < off
            · rw [if_pos q1] at hu ⊢
              exact hrel i u hu
            · rw [if_neg q1] at hu ⊢
              by_cases q2 : i < off + min new.length n
              · rw [if_pos q2] at hu ⊢
                rw [List.getElem?_map] at hu
                obtain ⟨c1,hc1,rfl⟩:=Option.map_eq_some_iff.1 hu
                have hcl1:=hst.len _ _ hc1
                have hd1:=hst.dat (i - off) 0 c1 (AV.hd c1) hc1 (by
                  match c1,hcl1 with
                  | [],h=>simp at h; omega
                  | u :: r,_=>rfl)
                have hfa:=flat_at (sz:=(T e).sz) (n:=min new.length n) (vals:=vals) (i:=i - off) (j:=0) (by omega) hs0
                rw [hs1,Nat.mul_one,Nat.add_zero] at hfa
                rw [List.getD_eq_getElem?_getD,hs1,hfa]
                exact .dat hd1
              · rw [if_neg q2] at hu ⊢
                exact hrel i u hu)
          exact ⟨_,_,_,_,_,hK,hrun,st,.raw _,fun k g' h=>.inl h⟩
theorem clearRsl_s (hT : TabOk P T) (hC : Core B D s a w x) {t e : Nat} (hu : P.underlying t = some (.slice e)) (hkn : (T e).known) (hs1 : (T e).sz = 1) {els : List (List AV)} {v0 : Value} {id g sz i off n : Nat} {rt : TypeId}
    (hv0 : VRel w x s.hp (.rsl id g sz i off n) v0) (hob : look s.hp id = some (.row rt sz g els)) (hlt : i < els.length) (hle : off + n ≤ sz)
    (hK : K .dead [(id,some (.row rt sz g (els.set i ((els.getD i []).take off ++ (List.replicate n (((T e).z.map AV.loose).getD 0 .dead) ++ (els.getD i []).drop (off + n))))))]) : FinR nid s w x K (fun r w'=>∀ ty,(Builtin.clear_ #[t] ty #[v0]).run P w = .ok r w'):=by
  obtain ⟨ti,zv,hi,hs,hb,hz,hzc,hzl,hone⟩:=info_of hT e hkn
  obtain ⟨hl,hr⟩:=row_of hC hob
  have hin:=getD_some (d:=[]) hlt
  have hel:=hl _ _ hin
  have hzs : zv.cells.size = 1:=by
    have:=congrArg List.length hzc
    rw [hzl,hs1] at this
    simpa using this.symm
  have hz1 : zv.cells.toList = [zv.cells.getD 0 undef]:=by
    have h1 : zv.cells.toList.length = 1:=by simpa using hzs
    match hq : zv.cells.toList,h1 with
    | [v],_=>
      have : zv.cells.getD 0 undef = v:=by rw [Array.getD_eq_getD_getElem?,← Array.getElem?_toList,hq]; rfl
      rw [this]
  have hzd : ∀ (w' : World) (ok : Nat → Prop),Dat w' ok (((T e).z.map AV.loose).getD 0 .dead) (zv.cells.getD 0 undef):=fun w' ok=>by
    rw [hzc,hz1]
    exact ofV_loose _
  have hzone : (zv.cells.getD 0 undef).oneCell' = true:=hone _ (by rw [hz1]; simp)
  have hzl' : (Builtin.zeroCells zv.cells n).toList = List.replicate n (zv.cells.getD 0 undef):=by
    unfold Builtin.zeroCells
    rw [hzs]
    apply List.ext_getElem?
    intro k
    simp only [Array.toList_map,Nat.mul_one,List.getElem?_map,List.getElem?_replicate]
    by_cases hk : k < n
    · simp [hk,Nat.mod_one,hzs]
    · simp [hk]
  generalize zv.cells.getD 0 undef = z0 at hz1 hzd hzone hzl'
  cases hv0 with
  | dat h=>cases h
  | rsl _ _ _ _ _ _ A0 c0 hid hc0 hm0 hh=>
    rcases Nat.eq_zero_or_pos n with rfl | h0
    · have hsame : els.set i ((els.getD i []).take off ++ (List.replicate 0 (((T e).z.map AV.loose).getD 0 .dead) ++ (els.getD i []).drop (off + 0))) = els:=by
        simp only [List.replicate_zero,List.nil_append,Nat.add_zero,List.take_append_drop]
        apply List.ext_getElem?
        intro k
        rw [List.getElem?_set]
        split
        · rename_i e1
          subst e1
          rw [hin]
        · rfl
      refine ⟨_,_,_,w,x,hK,fun ty=>?_,?_,.dead (.tuple #[]),fun k g' h=>.inl h⟩
      · cases A0 <;> simp [Builtin.clear_,run_underlying hu]
      · simp only [applyW]
        rw [hsame,setA_same _ hob]
        exact Stp.refl hC.h
    · rcases hh ⟨_,_,hob⟩ with hh | ⟨b',hb',rfl⟩
      · omega
      · rcases hr with ⟨hbb,rfl⟩ | ⟨b,vs,hbb,hw,hvs,hcap,hm,hon,hd⟩
        · simp at hlt
        · rw [hbb] at hb'
          injection hb' with hb'
          subst hb'
          have hbound : i * sz + off + (List.replicate n z0).length ≤ vs.size:=by
            have : (i + 1) * sz ≤ x.γ id * sz:=Nat.mul_le_mul_right _ (by omega)
            rw [Nat.add_mul] at this
            rw [hvs]
            simp
            omega
          have hos : ∀ v ∈ List.replicate n z0,v.oneCell' = true:=fun v hv=>by rw [(List.mem_replicate.1 hv).2]; exact hzone
          have hstr:=run_storeCells_at (P:=P) b (i * sz + off) rt (List.replicate n z0) 0 vs w hw (by simpa using hbound) hos
          obtain ⟨m,rfl⟩ : ∃ m,n = m + 1:=⟨n - 1,by omega⟩
          have hrun : ∀ ty,(Builtin.clear_ #[t] ty #[.slice (some ⟨b,i * sz + off,none⟩) (m + 1) c0]).run P w = .ok (.tuple #[]) (w.setRow b (splA vs (i * sz + off) (List.replicate (m + 1) z0))):=fun ty=>by
            simp only [splA]
            simp [Builtin.clear_,run_underlying hu,zeroValue,typeInfo,hi,hz,hzl',hstr]
          have hll : (List.replicate (m + 1) (((T e).z.map AV.loose).getD 0 .dead)).length = m + 1:=by simp
          have hf2 : off + (m + 1) ≤ (els.getD i []).length:=by omega
          have st:=Stp.rowSet hC.h hob hbb hw (els':=els.set i ((els.getD i []).take off ++ (List.replicate (m + 1) (((T e).z.map AV.loose).getD 0 .dead) ++ (els.getD i []).drop (off + (m + 1))))) (vs':=splA vs (i * sz + off) (List.replicate (m + 1) z0))
            (by rw [splA_size hbound,hvs]) (by simpa using hcap) hm (splA_one hbound hon hos) (fun k cs hk=>by
              rw [List.getElem?_set] at hk
              split at hk
              · injection hk with hk
                subst hk
                rw [splB_length hll hf2]
                exact hel
              · exact hl k cs hk) (fun k j cs u' hk hu=>by
              have hjs : ∀ cs0 : List AV,cs0.length = sz → cs0[j]? = some u' → j < sz:=fun cs0 e hq=>by
                have:=lt_of_get hq
                omega
              rw [splA_getD hbound,List.length_replicate]
              rw [List.getElem?_set] at hk
              split at hk
              · rename_i hki
                subst hki
                injection hk with hk
                subst hk
                have hj:=hjs _ (by rw [splB_length hll hf2]; exact hel) hu
                rw [splB_get hll hf2] at hu
                split at hu
                · rw [if_pos (by omega)]
                  exact hd i j _ _ hin hu
                · rw [if_neg (by omega)]
                  split at hu
                  · rw [if_pos (by omega)]
                    rw [List.getElem?_replicate] at hu
                    split at hu
                    · injection hu with hu
                      subst hu
                      have hq : (List.replicate (m + 1) z0).getD (i * sz + j - (i * sz + off)) undef = z0:=by
                        rw [List.getD_eq_getElem?_getD,List.getElem?_replicate,if_pos (by omega)]
                        rfl
                      rw [hq]
                      exact hzd _ _
                    · cases hu
                  · rw [if_neg (by omega)]
                    exact hd i j _ _ hin hu
              · rename_i hki
                have hj:=hjs cs (hl k cs hk) hu
                have hfar : k * sz + j < i * sz + off ∨ i * sz + off + (m + 1) ≤ k * sz + j:=by
                  rcases Nat.lt_or_gt_of_ne hki with h | h
                  · right
                    have : (i + 1) * sz ≤ k * sz:=Nat.mul_le_mul_right _ h
                    rw [Nat.add_mul] at this
                    omega
                  · left
                    have : (k + 1) * sz ≤ i * sz:=Nat.mul_le_mul_right _ h
                    rw [Nat.add_mul] at this
                    omega
                have:=hd k j _ _ hk hu
                rcases hfar with h | h
                · rw [if_pos h]
                  exact this
                · rw [if_neg (by omega),if_neg (by omega)]
                  exact this)
          exact ⟨_,_,_,_,_,hK,hrun,st,.dead _,fun k g' h=>.inl h⟩
theorem arr_of_list {args : Array Operand} {l : List Value} (h : args.toList.map a.eval = l) : args.map a.eval = l.toArray:=by
  apply Array.ext'
  simpa using h
theorem so_builtin (hT : TabOk P T) (hC : Core B D s a w x) (hfr : ¬ D nid) {c : Bool} (hc : c = true) {o : Oper} {cl : Call} {b : Builtin} (ho : o.op = .call cl) (hb : cl.callee = .builtin b) {us : List AV} (hus : VRels w x s.hp us (cl.args.toList.map a.eval))
    (h : wpQ P nid s (builtinQ T nid c b cl.argTypes.toList us) K) : Fin P nid s a w x o K:=by
  obtain ⟨callee,args,argTypes⟩:=cl
  simp only at hb hus h
  subst hb
  generalize hl : args.toList.map a.eval = ml at hus
  unfold builtinQ at h
  split at h
  · -- len
    rename_i t u hts
    have hats : argTypes = #[t]:=by
      have : argTypes.toList.toArray = [t].toArray:=by rw [hts]
      simpa using this
    cases hus with
    | @cons _ v _ m h1 h2=>
      have hargs : args.map a.eval = #[v]:=by
        cases h2
        exact arr_of_list hl
      split at h
      · rename_i e hk
        have hu:=und_sl hT hk
        unfold lenQ at h
        split at h
        · cases h1 with
          | dat hd=>
            cases hd with
            | sl=>exact Fin.quiet hC h (by simp [execOp,ho,resolve,invoke,builtin,hargs,hats,Builtin.len_,run_underlying hu,goInt]) (.raw _)
        · cases h1 with
          | dat hd=>cases hd
          | row=>exact Fin.quiet hC h (by simp [execOp,ho,resolve,invoke,builtin,hargs,hats,Builtin.len_,run_underlying hu,goInt]) (.raw _)
        · cases h1 with
          | dat hd=>cases hd
          | bsl=>exact Fin.quiet hC h (by simp [execOp,ho,resolve,invoke,builtin,hargs,hats,Builtin.len_,run_underlying hu,goInt]) (.raw _)
        · cases h1 with
          | dat hd=>cases hd
          | rsl=>exact Fin.quiet hC h (by simp [execOp,ho,resolve,invoke,builtin,hargs,hats,Builtin.len_,run_underlying hu,goInt]) (.raw _)
        · exact h.elim
      · rename_i n e hk
        have hu:=und_arr hT hk
        exact Fin.quiet hC h (by simp [execOp,ho,resolve,invoke,builtin,hargs,hats,Builtin.len_,run_underlying hu,goInt]) (.raw _)
      · exact h.elim
  · -- append
    rename_i t t' u u' hts
    have hats : argTypes = #[t,t']:=by
      have : argTypes.toList.toArray = [t,t'].toArray:=by rw [hts]
      simpa using this
    cases hus with
    | @cons _ v _ m h1 h2=>
      cases h2 with
      | @cons _ v' _ m' h3 h4=>
        have hargs : args.map a.eval = #[v,v']:=by
          cases h4
          exact arr_of_list hl
        unfold appendQ at h
        split at h
        · rename_i e hk
          have hu:=und_sl hT hk
          obtain ⟨⟨_,rfl,hs0,hkn⟩,h5⟩:=h
          obtain ⟨new,A,cp,vals,rfl,hsrc,h6⟩:=elsQ_s hC h3 h5
          have fin : ∀ v0,v = v0 → FinR nid s w x K (AppRun P t w v0 (.slice A new.length cp)) → Fin P nid s a w x o K:=fun v0 e hf=>hf.fin fun r w' hr=>by
            have:=hr o.type
            simp [execOp,ho,resolve,invoke,builtin,hargs,hats,e,this]
          split at h6
          · cases h1 with
            | dat hd=>
              cases hd with
              | sl _ _ A0 c0 sz vals0 hcc hm ht=>
                have:=ht rfl
                simp only [List.length_nil] at this
                subst this
                exact fin _ rfl (appNew_s hT hC hfr hu hkn hs0 hsrc h6)
          · exact fin _ rfl (appTight_s hT hC hu hkn hs0 h1 hsrc h6)
          · simp only [wpQ] at h6
            split at h6
            · rename_i ob hob
              exact fin _ rfl (appRow_s hT hC hu hkn hs0 h1 hob hsrc h6)
            · exact h6.elim
          · exact h6.elim
        · exact h.elim
  · -- copy
    rename_i t t' u u' hts
    have hats : argTypes = #[t,t']:=by
      have : argTypes.toList.toArray = [t,t'].toArray:=by rw [hts]
      simpa using this
    cases hus with
    | @cons _ v _ m h1 h2=>
      cases h2 with
      | @cons _ v' _ m' h3 h4=>
        have hargs : args.map a.eval = #[v,v']:=by
          cases h4
          exact arr_of_list hl
        unfold copyQ at h
        split at h
        · rename_i e hk
          have hu:=und_sl hT hk
          obtain ⟨⟨_,rfl,hs0,hkn⟩,h5⟩:=h
          obtain ⟨new,A,cp,vals,rfl,hsrc,h6⟩:=elsQ_s hC h3 h5
          split at h6
          · simp only [wpQ] at h6
            split at h6
            · rename_i ob hob
              split at h6
              · obtain ⟨⟨rfl,rfl,rfl,hle⟩,hK⟩:=h6
                refine (copyRow_s (c:=cp) hT hC hu hkn hs0 h1 hob hsrc hle hK).fin fun r w' hr=>?_
                have:=hr o.type
                simp [execOp,ho,resolve,invoke,builtin,hargs,hats,this]
              · exact h6.elim
            · exact h6.elim
          · simp only [wpQ] at h6
            split at h6
            · rename_i ob hob
              split at h6
              · obtain ⟨⟨hs1,hle⟩,hK⟩:=h6
                refine (copyBsl_s (c:=cp) hT hC hu hkn hs1 h1 hob hsrc hle hK).fin fun r w' hr=>?_
                have:=hr o.type
                simp [execOp,ho,resolve,invoke,builtin,hargs,hats,this]
              · exact h6.elim
            · exact h6.elim
          · exact h6.elim
        · exact h.elim
  · -- clear
    rename_i t u hts
    have hats : argTypes = #[t]:=by
      have : argTypes.toList.toArray = [t].toArray:=by rw [hts]
      simpa using this
    cases hus with
    | @cons _ v _ m h1 h2=>
      have hargs : args.map a.eval = #[v]:=by
        cases h2
        exact arr_of_list hl
      unfold clearQ at h
      split at h
      · rename_i e hk
        have hu:=und_sl hT hk
        obtain ⟨⟨_,hs1,hkn⟩,h5⟩:=h
        split at h5
        · simp only [wpQ] at h5
          split at h5
          · rename_i ob hob
            split at h5
            · obtain ⟨⟨rfl,rfl,hlt,hle⟩,hK⟩:=h5
              refine (clearRsl_s hT hC hu hkn hs1 h1 hob hlt hle hK).fin fun r w' hr=>?_
              have:=hr o.type
              simp [execOp,ho,resolve,invoke,builtin,hargs,hats,this]
            · exact h5.elim
          · exact h5.elim
        · exact h5.elim
      · exact h.elim
  · -- min
    rename_i k1 m1 k2 m2
    cases hus with
    | @cons _ v _ m h1 h2=>
      cases h2 with
      | @cons _ v' _ m' h3 h4=>
        have e1:=h1.rawEq
        have e2:=h3.rawEq
        subst e1
        subst e2
        have hargs : args.map a.eval = #[.int k1 m1,.int k2 m2]:=by
          cases h4
          exact arr_of_list hl
        obtain ⟨rfl,hK⟩:=h
        exact Fin.quiet hC hK (by simp [execOp,ho,resolve,invoke,builtin,hargs,Builtin.min_,Builtin.min2]) (.raw _)
  · -- max
    rename_i k1 m1 k2 m2
    cases hus with
    | @cons _ v _ m h1 h2=>
      cases h2 with
      | @cons _ v' _ m' h3 h4=>
        have e1:=h1.rawEq
        have e2:=h3.rawEq
        subst e1
        subst e2
        have hargs : args.map a.eval = #[.int k1 m1,.int k2 m2]:=by
          cases h4
          exact arr_of_list hl
        obtain ⟨rfl,hK⟩:=h
        exact Fin.quiet hC hK (by simp [execOp,ho,resolve,invoke,builtin,hargs,Builtin.max_,Builtin.max2]) (.raw _)
  · -- complex
    rename_i m1 m2
    cases hus with
    | @cons _ v _ m h1 h2=>
      cases h2 with
      | @cons _ v' _ m' h3 h4=>
        have e1:=h1.rawEq
        have e2:=h3.rawEq
        subst e1
        subst e2
        have hargs : args.map a.eval = #[.float .f64 m1,.float .f64 m2]:=by
          cases h4
          exact arr_of_list hl
        exact Fin.quiet hC h (by
          have e : ∀ ts ty,Builtin.complex_ ts ty #[.float .f64 m1,.float .f64 m2] = pure (.complex .f64 m1 m2):=fun _ _=>rfl
          simp [execOp,ho,resolve,invoke,builtin,hargs,e]) (.raw _)
  · -- real
    rename_i m1 m2
    cases hus with
    | @cons _ v _ m h1 h2=>
      have e1:=h1.rawEq
      subst e1
      have hargs : args.map a.eval = #[.complex .f64 m1 m2]:=by
        cases h2
        exact arr_of_list hl
      exact Fin.quiet hC h (by
        have e : ∀ ts ty,Builtin.real_ ts ty #[.complex .f64 m1 m2] = pure (.float .f64 m1):=fun _ _=>rfl
        simp [execOp,ho,resolve,invoke,builtin,hargs,e]) (.raw _)
  · -- imag
    rename_i m1 m2
    cases hus with
    | @cons _ v _ m h1 h2=>
      have e1:=h1.rawEq
      subst e1
      have hargs : args.map a.eval = #[.complex .f64 m1 m2]:=by
        cases h2
        exact arr_of_list hl
      exact Fin.quiet hC h (by
        have e : ∀ ts ty,Builtin.imag_ ts ty #[.complex .f64 m1 m2] = pure (.float .f64 m2):=fun _ _=>rfl
        simp [execOp,ho,resolve,invoke,builtin,hargs,e]) (.raw _)
  · exact h.elim
theorem evOp_s (hT : TabOk P T) (hC : Core B D s a w x) (hfr : ¬ D nid) {c : Bool} (hc : c = true) {o : Oper} (h : wpQ P nid s (evOp T nid c o.op) K) {next : Act → World → Prop} {Qx : Exit → Act → World → Prop} (hn : Nxt nid s a w x o K next) : o.wp P a w next Qx:=by
  cases hop : o.op with
  | move y=>rw [hop] at h; exact (so_move hC hc (.inl hop) h).wp hn
  | assign y=>rw [hop] at h; exact (so_move hC hc (.inr hop) h).wp hn
  | pick y y1 y2=>rw [hop] at h; exact (so_pick T hC hc hop h).wp hn
  | alloc t=>rw [hop] at h; exact (so_alloc hT hC hfr hop h).wp hn
  | box t y=>rw [hop] at h; exact (so_box (T:=T) hC hfr hc hop h).wp hn
  | build t parts=>rw [hop] at h; exact (so_build hT hC hc hop h).wp hn
  | buildSlice t n parts=>rw [hop] at h; exact (so_buildSlice hT hC hfr hc hop h).wp hn
  | load t y=>rw [hop] at h; exact (so_load hT hC hc hop h).wp hn
  | store t y z=>rw [hop] at h; exact (so_store hT hC hc hop h).wp hn
  | nilCheck y=>rw [hop] at h; exact (so_nilCheck (T:=T) hC hc hop h).wp hn
  | binOp op t y z yt=>rw [hop] at h; exact (so_bin hT hC hc hop h).wp hn
  | unOp op t y=>rw [hop] at h; exact (so_un (T:=T) hC hc hop h).wp hn
  | convert t d y=>rw [hop] at h; exact (so_conv hT hC hc hop h).wp hn
  | makeFunc f first caps=>rw [hop] at h; exact (so_func (T:=T) hC hc hop h).wp hn
  | makeSlice t y z=>rw [hop] at h; exact (so_make hT hC hfr hc hop h).wp hn
  | slice t y lo hi mx=>rw [hop] at h; exact (so_slice hT hC hc hop h).wp hn
  | fieldAddr t y f=>rw [hop] at h; exact (so_fieldAddr hT hC hc hop h).wp hn
  | field t y f=>rw [hop] at h; exact (so_field hT hC hc hop h).wp hn
  | indexAddr t y z=>rw [hop] at h; exact (so_indexAddr hT hC hc hop h).wp hn
  | index t y z=>rw [hop] at h; exact (so_index hT hC hc hop h).wp hn
  | extract y i=>rw [hop] at h; exact (so_extract (T:=T) hC hc hop h).wp hn
  | call cl=>
    rw [hop] at h
    cases hcal : cl.callee with
    | builtin b=>
      simp only [evOp,callQ,hcal] at h
      obtain ⟨us,h1,h2⟩:=opds_s hC hc h
      exact (so_builtin hT hC hfr hc hop hcal h1 h2).wp hn
    | invoke _ _=>simp only [evOp,callQ,hcal] at h; exact h.elim
    | value g=>
      simp only [evOp,callQ,hcal] at h
      obtain ⟨u,h1,h2⟩:=opd_s hC hc h
      split at h2
      · rename_i f first caps
        obtain ⟨us,h3,H,r,H',hsub,hctr,hin,hinH,hnew,R,hR,hK⟩:=opds_s hC hc h2
        generalize hg : a.eval g = gv at h1
        cases h1 with
        | dat hd=>cases hd
        | fn _ _ _ fs cs hl hl' h5 h6=>
          have r1 : VRels w x s.hp first fs.toList:=VRels.of_at (by simpa using hl) (by simpa using h5)
          have r2 : VRels w x s.hp caps cs.toList:=VRels.of_at (by simpa using hl') (by simpa using h6)
          have r3:=(r1.append h3).append r2
          have hsize:=r3.len
          refine call_s (vals:=(fs.toList ++ cl.args.toList.map a.eval ++ cs.toList).toArray) hC ?_ (by simpa using hsize) r3.at_ hsub hctr hin hinH hnew hfr (fun val w' x' a1 a2 a3=>hn r _ val w' x' hK (a1.congr (look_kept hR hsub)) (a2.congr (look_kept hR hsub)) a3)
          obtain ⟨callee,args,argTypes⟩:=cl
          simp only at hcal
          subst hcal
          have e : (fs.toList ++ args.toList.map a.eval ++ cs.toList).toArray = fs ++ args.map a.eval ++ cs:=by
            apply Array.ext'
            simp
          simp only
          rw [e]
          simp [execOp,hop,resolve,hg,Deferred.ofValue,invoke]
      · exact h2.elim
  | _=>rw [hop] at h; exact h.elim
end
def St.wr (s : St) (wr : Wr) : St:={ s with hp:=applyW wr s.hp }
def St.put (s : St) (d : Option Nat) (v : AV) : St:=match d with
  | none=>s
  | some d=>{ s with tm:=(d,v) :: s.tm }
abbrev EvT:=(Nat → TI) → Nat → List (Option Nat) → Oper → Q
def runOps (E : EvT) (P : Program) (T : Nat → TI) (dsts : List (Option Nat)) : List Oper → Nat → St → (St → Prop) → Prop
  | [],i,s,K=>K { s with nx:=s.nx + i }
  | o :: r,i,s,K=>wpQ P (s.nx + i) s (E T (s.nx + i) dsts o) fun v wr=>runOps E P T dsts r (i + 1) ((s.wr wr).put o.dst v) K
section
variable {P : Program} {T : Nat → TI} {B : Base} {D : Nat → Prop} {nid : Nat} {s : St} {a : Act} {w : World} {x : Cx} {K : AV → Wr → Prop} {hp : Hp}
def D1 (D : Nat → Prop) (nid : Nat) (id : Nat) : Prop:=D id ∨ id = nid
theorem Core.next (hC : Core B D s a w x) {wr : Wr} {v : AV} {val : Value} {w' : World} {x' : Cx} {d : Option Nat} (hd : ∀ k,d = some k → k < s.nt) (st : Stp w x s.hp w' x' (applyW wr s.hp)) (hv : VRel w' x' (applyW wr s.hp) v val)
    (hdom : ∀ id g,x'.dom id g → x.dom id g ∨ id = nid ∨ s.hp.has id = true) : Core B (D1 D nid) ((s.wr wr).put d v) (a.put d val) w' x':=by
  have hdm : ∀ id g,x'.dom id g → D1 D nid id:=fun id g h=>by
    rcases hdom id g h with h1 | h1 | h1
    · exact .inl (hC.dom _ _ h1)
    · exact .inr h1
    · obtain ⟨o,ho⟩:=Option.isSome_iff_exists.1 h1
      exact .inl (hC.dom _ _ (hC.h.dom _ _ ho))
  cases d with
  | none=>exact ⟨st.h,fun t u ht=>(hC.t t u ht).mono st.mo,hC.n,hC.d.step hC.h st.tr,hC.tr.trans st.tr,hC.mo.trans st.mo,hC.lo,hC.ln,hdm⟩
  | some d=>
    have hlt:=hd d rfl
    refine ⟨st.h,?_,?_,?_,hC.tr.trans st.tr,hC.mo.trans st.mo,hC.lo,hC.ln,hdm⟩
    · intro t u ht
      simp only [St.put,St.wr,look] at ht
      simp only [Act.put]
      split at ht
      · rename_i e
        injection ht with ht
        subst ht
        subst e
        have : (a.tmps.setIfInBounds t val).getD t undef = val:=by
          have:=hC.n
          simp [show t < a.tmps.size by omega]
        rw [this]
        exact hv
      · rename_i e
        have : (a.tmps.setIfInBounds d val).getD t undef = a.tmps.getD t undef:=by
          simp only [Array.getD_eq_getD_getElem?]
          rw [Array.getElem?_setIfInBounds_ne (Ne.symm e)]
        rw [this]
        exact (hC.t t u ht).mono st.mo
    · simp [Act.put,hC.n,St.put,St.wr]
    · exact hC.d.step hC.h st.tr
theorem yielded_of (hC : Core B D s a w x) {ops : Array Oper} {j d : Nat} (hd : (ops[j]?).bind (·.dst) = some d) {b : Bool} (hl : a.tmps.getD d undef = .bool b) : yielded ops a.tmps j = some b:=by
  unfold yielded
  rw [hd]
  simp only [Option.bind_some]
  rw [Array.getD_eq_getD_getElem?] at hl
  cases h : a.tmps[d]? with
  | none=>rw [h] at hl; simp [undef] at hl
  | some v=>rw [h] at hl; simp at hl; rw [hl]
theorem yielded_no (hC : Core B D s a w x) {ops : Array Oper} {j d : Nat} (hd : (ops[j]?).bind (·.dst) = some d) (hl : a.tmps.getD d undef = undef) : yielded ops a.tmps j = none:=by
  unfold yielded
  rw [hd]
  simp only [Option.bind_some]
  rw [Array.getD_eq_getD_getElem?] at hl
  cases h : a.tmps[d]? with
  | none=>rfl
  | some v=>rw [h] at hl; simp at hl; rw [hl]; rfl
def dstsOf (ops : Array Oper) : List (Option Nat):=ops.toList.map (·.dst)
theorem dsts_at {ops : Array Oper} {j d : Nat} (h : (dstsOf ops).getD j none = some d) : (ops[j]?).bind (·.dst) = some d:=by
  unfold dstsOf at h
  rw [List.getD_eq_getElem?_getD,List.getElem?_map] at h
  cases ho : ops.toList[j]? with
  | none=>rw [ho] at h; simp at h
  | some o=>
    rw [ho] at h
    have : ops[j]? = some o:=by rw [← Array.getElem?_toList]; exact ho
    rw [this]
    simpa using h
def EvOk (P : Program) (T : Nat → TI) (E : EvT) : Prop:=∀ {B : Base} {D : Nat → Prop} {nid : Nat} {s : St} {a : Act} {w : World} {x : Cx},Core B D s a w x → ¬ D nid → ∀ {ops : Array Oper} {Qx : Exit → Act → World → Prop} {i : Nat} {o : Oper},ops[i]? = some o → (∀ k,o.dst = some k → k < s.nt) →
    ∀ {K' : AV → Wr → Prop},wpQ P nid s (E T nid (dstsOf ops) o) K' → ∀ {next : Act → World → Prop},(∀ v wr a' w' x',K' v wr → Core B (D1 D nid) ((s.wr wr).put o.dst v) a' w' x' → next a' w') → wpOpIn (wR B.rd) 0 P ops Qx i next a w
theorem runOps_s {E : EvT} (hE : EvOk P T E) {ops : Array Oper} {Qx : Exit → Act → World → Prop} {nx : Nat} {K : St → Prop} (hd : (ops.all fun o=>match o.dst with | some k=>decide (k < s.nt) | none=>true) = true)
    (hQ : ∀ s' a' w' x',K s' → Core B (· < s'.nx) s' a' w' x' → Qx .normal a' w') :
    ∀ (l : List Oper) (i : Nat) (s' : St) (a : Act) (w : World) (x : Cx),(ops.toList.drop i = l) → s'.nt = s.nt → s'.nx = nx → Core B (· < nx + i) s' a w x → runOps E P T (dstsOf ops) l i s' K → wpOpsIn (wR B.rd) 0 P ops Qx (List.range' i l.length) a w
  | [],i,s',a,w,x,_,_,hnx,hC,h=>by
    refine hQ _ a w x h ?_
    exact ⟨hC.h,hC.t,hC.n,hC.d,hC.tr,hC.mo,hC.lo,by have:=hC.ln; show s'.lo ≤ s'.nx + i; omega,fun id g hdm=>by have:=hC.dom id g hdm; show id < s'.nx + i; omega⟩
  | o :: l,i,s',a,w,x,hl,hnt,hnx,hC,h=>by
    have hi : ops[i]? = some o:=by
      rw [← Array.getElem?_toList]
      have:=List.getElem?_drop (xs:=ops.toList) (i:=i) (j:=0)
      rw [hl] at this
      simpa using this.symm
    rw [List.length_cons,List.range'_succ,wpOpsIn_cons]
    have hdst : ∀ k,o.dst = some k → k < s'.nt:=fun k hk=>by
      have h1:=(Array.all_eq_true_iff_forall_mem.1 hd) o (Array.mem_of_getElem? hi)
      rw [hk] at h1
      rw [hnt]
      simpa using h1
    unfold runOps at h
    rw [hnx] at h
    refine hE hC (nid:=nx + i) (by omega) hi hdst h ?_
    intro v wr a' w' x' hk hC'
    refine runOps_s (nx:=nx) hE hd hQ l (i + 1) _ a' w' x' ?_ ?_ ?_ ?_ hk
    · rw [← List.drop_drop,hl]
      rfl
    · rw [← hnt]
      cases o.dst <;> rfl
    · rw [← hnx]
      cases o.dst <;> rfl
    · refine ⟨hC'.h,hC'.t,hC'.n,hC'.d,hC'.tr,hC'.mo,hC'.lo,hC'.ln,fun id g hdm=>?_⟩
      rcases hC'.dom id g hdm with h1 | h1 <;> omega
end
inductive Ky where
  | t (n : Nat)
  | o (n : Nat)
  | k (n : Nat) (a : Int)
  deriving DecidableEq
def St.at_ (s : St) : Ky → Option (AV ⊕ AObj)
  | .t n=>(look s.tm n).map .inl
  | .o n=>(look s.hp n).map .inr
  | .k _ _=>none
structure St.eqv (s s' : St) : Prop where
  tm : ∀ n,look s.tm n = look s'.tm n
  hp : ∀ n,look s.hp n = look s'.hp n
  nx : s.nx = s'.nx
  nt : s.nt = s'.nt
  lo : s.lo = s'.lo
theorem St.eqv.refl (s : St) : s.eqv s:=⟨fun _=>rfl,fun _=>rfl,rfl,rfl,rfl⟩
theorem St.eqv.symm {s s' : St} (h : s.eqv s') : s'.eqv s:=⟨fun n=>(h.tm n).symm,fun n=>(h.hp n).symm,h.nx.symm,h.nt.symm,h.lo.symm⟩
theorem St.eqv.trans {a b c : St} (h : a.eqv b) (k : b.eqv c) : a.eqv c:=⟨fun n=>(h.tm n).trans (k.tm n),fun n=>(h.hp n).trans (k.hp n),h.nx.trans k.nx,h.nt.trans k.nt,h.lo.trans k.lo⟩
def wrKeys (d : Option Nat) (wr : Wr) : List Ky:=(match d with | some d=>[.t d] | none=>[]) ++ wr.map fun p=>.o p.1
def wpQD (P : Program) (nid : Nat) (s : St) : Q → List Ky → (List Ky → AV → Wr → Prop) → Prop
  | .done v wr,rs,K=>K rs v wr
  | .call none f args,rs,K=>∃ H r H',(∀ p ∈ H,look s.hp p.1 = some p.2) ∧ Ctr P f args H r H' ∧ (args.all (AV.in3 H.has)) = true ∧ (H.all fun p=>p.2.inD H.has) = true ∧ (H'.all fun p=>H.has p.1 || p.1 == nid) = true ∧ ∃ R,Kept R H H' ∧ K (H.map (fun p=>.o p.1) ++ rs) r (callW (rmv R H) (rmv R H'))
  | .call (some c) f args,rs,K=>∃ r,(c = true → Ctr P f args [] r []) ∧ (args.all (AV.in3 fun _=>false)) = true ∧ K rs (.ifb c r) []
  | .need p k,rs,K=>p ∧ wpQD P nid s k rs K
  | .slot t k,rs,K=>match look s.tm t with
    | some v=>wpQD P nid s (k v) (.t t :: rs) K
    | none=>False
  | .obj id k,rs,K=>match look s.hp id with
    | some o=>wpQD P nid s (k o) (.o id :: rs) K
    | none=>False
  | .any _ _,_,_=>False
  | .ins id j a u,rs,K=>wpI (fun es n=>(keysOk j es = true ∧ newKey a es = true) ∧ K (.k id a :: .o id :: rs) .dead [(id,some (.mp (insS j a u es) (n + 1)))]) (look s.hp id)
  | .bad,_,_=>False
theorem wpI_some {f : List (Value × AV) → Nat → Prop} {o : Option AObj} (h : wpI f o) : ∃ es n,o = some (.mp es n) ∧ f es n:=by
  unfold wpI at h
  split at h
  · exact ⟨_,_,rfl,h⟩
  · exact h.elim
theorem wpQD_res {P : Program} {nid : Nat} {s : St} {q : Q} : ∀ {rs : List Ky} {K : List Ky → AV → Wr → Prop},wpQD P nid s q rs K → ∃ rs' v wr,K rs' v wr ∧ wpQD P nid s q rs fun a b c=>a = rs' ∧ b = v ∧ c = wr:=by
  induction q with
  | done v wr=>intro rs K h; exact ⟨rs,v,wr,h,rfl,rfl,rfl⟩
  | call g f args=>
    intro rs K h
    cases g with
    | none=>
      obtain ⟨H,r,H',h1,h2,h3,h4,h5,R,hR,h6⟩:=h
      exact ⟨_,_,_,h6,H,r,H',h1,h2,h3,h4,h5,R,hR,rfl,rfl,rfl⟩
    | some c=>
      obtain ⟨r,h1,h2,h3⟩:=h
      exact ⟨_,_,_,h3,r,h1,h2,rfl,rfl,rfl⟩
  | need p k ih=>
    intro rs K h
    obtain ⟨rs',v,wr,h1,h2⟩:=ih h.2
    exact ⟨rs',v,wr,h1,h.1,h2⟩
  | slot t k ih=>
    intro rs K h
    simp only [wpQD] at h ⊢
    cases hl : look s.tm t with
    | none=>rw [hl] at h; exact h.elim
    | some v=>rw [hl] at h; exact ih v h
  | obj id k ih=>
    intro rs K h
    simp only [wpQD] at h ⊢
    cases hl : look s.hp id with
    | none=>rw [hl] at h; exact h.elim
    | some v=>rw [hl] at h; exact ih v h
  | any p k ih=>intro rs K h; exact h.elim
  | ins id j a u=>
    intro rs K h
    obtain ⟨es,n,hl,h1,h2⟩:=wpI_some h
    refine ⟨_,_,_,h2,?_⟩
    show wpI _ _
    rw [hl]
    exact ⟨h1,rfl,rfl,rfl⟩
  | bad=>intro rs K h; exact h.elim
theorem wpQD_wpQ {P : Program} {nid : Nat} {s : St} {q : Q} : ∀ {rs : List Ky} {K : List Ky → AV → Wr → Prop},wpQD P nid s q rs K → wpQ P nid s q fun v wr=>∃ rs',K rs' v wr:=by
  induction q with
  | done v wr=>intro rs K h; exact ⟨rs,h⟩
  | call g f args=>
    intro rs K h
    cases g with
    | none=>
      obtain ⟨H,r,H',h1,h2,h3,h4,h5,R,hR,h6⟩:=h
      exact ⟨H,r,H',h1,h2,h3,h4,h5,R,hR,_,h6⟩
    | some c=>
      obtain ⟨r,h1,h2,h3⟩:=h
      exact ⟨r,h1,h2,_,h3⟩
  | need p k ih=>intro rs K h; exact ⟨h.1,ih h.2⟩
  | slot t k ih=>
    intro rs K h
    simp only [wpQD,wpQ] at h ⊢
    split
    · rename_i v hv
      rw [hv] at h
      exact ih v h
    · rename_i hv
      rw [hv] at h
      exact h
  | obj id k ih=>
    intro rs K h
    simp only [wpQD,wpQ] at h ⊢
    split
    · rename_i v hv
      rw [hv] at h
      exact ih v h
    · rename_i hv
      rw [hv] at h
      exact h
  | any p k ih=>intro rs K h; exact h.elim
  | ins id j a u=>
    intro rs K h
    obtain ⟨es,n,hl,h1,h2⟩:=wpI_some h
    show wpI _ _
    rw [hl]
    exact ⟨h1,_,h2⟩
  | bad=>intro rs K h; exact h.elim
theorem wpQD_grows {P : Program} {nid : Nat} {s : St} {q : Q} : ∀ {rs : List Ky} {rs' : List Ky} {v : AV} {wr : Wr},wpQD P nid s q rs (fun a b c=>a = rs' ∧ b = v ∧ c = wr) → ∀ k ∈ rs,k ∈ rs':=by
  induction q with
  | done v wr=>rintro rs rs' v wr ⟨rfl,_⟩ k hk; exact hk
  | call g f args=>
    intro rs rs' v wr h
    cases g with
    | none=>
      obtain ⟨H,r,H',h1,h2,h3,h4,h5,R,hR,rfl,_⟩:=h
      intro k hk
      simp [hk]
    | some c=>
      obtain ⟨r,h1,h2,rfl,_⟩:=h
      intro k hk
      exact hk
  | need p k ih=>intro rs rs' v wr h; exact ih h.2
  | slot t k ih=>
    intro rs rs' v wr h
    simp only [wpQD] at h
    split at h
    · intro k hk
      exact ih _ h k (by simp [hk])
    · exact h.elim
  | obj id k ih=>
    intro rs rs' v wr h
    simp only [wpQD] at h
    split at h
    · intro k hk
      exact ih _ h k (by simp [hk])
    · exact h.elim
  | any p k ih=>intro rs rs' v wr h; exact h.elim
  | ins id j a u=>
    intro rs rs' v wr h
    obtain ⟨es,n,hl,h1,rfl,h2⟩:=wpI_some h
    intro k hk
    simp [hk]
  | bad=>intro rs rs' v wr h; exact h.elim
theorem wpQD_local {P : Program} {nid : Nat} {s s' : St} {q : Q} : ∀ {rs : List Ky} {rs' : List Ky} {v : AV} {wr : Wr},wpQD P nid s q rs (fun a b c=>a = rs' ∧ b = v ∧ c = wr) → (∀ k ∈ rs',s'.at_ k = s.at_ k) → wpQD P nid s' q rs (fun a b c=>a = rs' ∧ b = v ∧ c = wr):=by
  induction q with
  | done v wr=>intro rs rs' v wr h _; exact h
  | call g f args=>
    intro rs rs' v wr h hag
    cases g with
    | none=>
      obtain ⟨H,r,H',h1,h2,h3,h4,h5,R,hR,rfl,h6⟩:=h
      refine ⟨H,r,H',fun p hp=>?_,h2,h3,h4,h5,R,hR,rfl,h6⟩
      have:=hag (.o p.1) (by simp only [List.mem_append,List.mem_map]; exact .inl ⟨p,hp,rfl⟩)
      simp only [St.at_,h1 p hp,Option.map_some] at this
      obtain ⟨o,h7,h8⟩:=Option.map_eq_some_iff.1 this
      injection h8 with h8
      rw [h7,h8]
    | some c=>exact h
  | need p k ih=>intro rs rs' v wr h hag; exact ⟨h.1,ih h.2 hag⟩
  | slot t k ih=>
    intro rs rs' v wr h hag
    simp only [wpQD] at h ⊢
    split at h
    · rename_i u hu
      have:=hag (.t t) (wpQD_grows h _ (by simp))
      simp only [St.at_,hu,Option.map_some] at this
      obtain ⟨o,h7,h8⟩:=Option.map_eq_some_iff.1 this
      injection h8 with h8
      rw [h7,h8]
      exact ih u h hag
    · exact h.elim
  | obj id k ih=>
    intro rs rs' v wr h hag
    simp only [wpQD] at h ⊢
    split at h
    · rename_i u hu
      have:=hag (.o id) (wpQD_grows h _ (by simp))
      simp only [St.at_,hu,Option.map_some] at this
      obtain ⟨o,h7,h8⟩:=Option.map_eq_some_iff.1 this
      injection h8 with h8
      rw [h7,h8]
      exact ih u h hag
    · exact h.elim
  | any p k ih=>intro rs rs' v wr h; exact h.elim
  | ins id j a u=>
    intro rs rs' v wr h hag
    obtain ⟨es,n,hl,h1,rfl,h2⟩:=wpI_some h
    have:=hag (.o id) (by simp)
    simp only [St.at_,hl,Option.map_some] at this
    obtain ⟨o,h7,h8⟩:=Option.map_eq_some_iff.1 this
    injection h8 with h8
    show wpI _ _
    rw [h7,h8]
    exact ⟨h1,rfl,h2⟩
  | bad=>intro rs rs' v wr h; exact h.elim
theorem keysOk_insS {j j' : IntKind} {a : Int} {u : AV} : ∀ {es : List (Value × AV)},keysOk j' (insS j a u es) = (decide (j = j') && keysOk j' es)
  | []=>by simp [insS,keysOk]
  | (k,v) :: r=>by
    cases k with
    | int k b=>
      simp only [insS]
      cases decide (a < b) with
      | true=>rfl
      | false=>
        simp only [cond_false,keysOk,keysOk_insS (es:=r)]
        cases decide (k = j') <;> cases decide (j = j') <;> rfl
    | _=>simp [insS,keysOk]
theorem newKey_insS {j : IntKind} {a c : Int} {u : AV} : ∀ {es : List (Value × AV)},newKey c (insS j a u es) = ((c != a) && newKey c es)
  | []=>by simp [insS,newKey]
  | (k,v) :: r=>by
    cases k with
    | int k b=>
      simp only [insS]
      cases decide (a < b) with
      | true=>rfl
      | false=>
        simp only [cond_false,newKey,newKey_insS (es:=r)]
        cases (c != b) <;> cases (c != a) <;> rfl
    | _=>simp [insS,newKey]
theorem insS_comm {j : IntKind} {a c : Int} {u v : AV} (hac : a ≠ c) : ∀ (es : List (Value × AV)),insS j a u (insS j c v es) = insS j c v (insS j a u es)
  | []=>by
    rcases Int.lt_or_gt_of_ne hac with h | h
    · have : ¬ c < a:=by omega
      simp [insS,h,this]
    · have : ¬ a < c:=by omega
      simp [insS,h,this]
  | (k,x) :: r=>by
    have ih:=insS_comm (j:=j) (u:=u) (v:=v) hac r
    cases k with
    | int k b=>
      by_cases h1 : a < b <;> by_cases h2 : c < b
      · rcases Int.lt_or_gt_of_ne hac with h | h
        · have : ¬ c < a:=by omega
          simp [insS,h1,h2,h,this]
        · have : ¬ a < c:=by omega
          simp [insS,h1,h2,h,this]
      · have h3 : ¬ c < a:=by omega
        simp [insS,h1,h2,h3]
      · have h3 : ¬ a < c:=by omega
        simp [insS,h1,h2,h3]
      · simp [insS,h1,h2,ih]
    | _=>simp [insS,ih]
theorem insQ_s {P : Program} {nid : Nat} {s : St} {q : Q} {id : Nat} {y : Int} {ra : List Ky} {v : AV} {wr : Wr} : ∀ {rs : List Ky},(∀ i z,Ky.k i z ∉ rs) → wpQD P nid s q rs (fun a b c=>a = .k id y :: .o id :: ra ∧ b = v ∧ c = wr) →
    (∀ k ∈ rs,k ∈ ra) ∧ ∃ j u es n,look s.hp id = some (.mp es n) ∧ keysOk j es = true ∧ newKey y es = true ∧ v = .dead ∧ wr = [(id,some (.mp (insS j y u es) (n + 1)))] ∧
      ∀ s',(∀ k ∈ ra,s'.at_ k = s.at_ k) → ∀ es' n',look s'.hp id = some (.mp es' n') → keysOk j es' = true → newKey y es' = true →
        wpQD P nid s' q rs (fun a b c=>a = .k id y :: .o id :: ra ∧ b = .dead ∧ c = [(id,some (.mp (insS j y u es') (n' + 1)))]):=by
  induction q with
  | done v' wr'=>
    rintro rs hk ⟨rfl,_⟩
    exact absurd (List.mem_cons_self) (hk id y)
  | call g f args=>
    intro rs hk h
    cases g with
    | none=>
      obtain ⟨H,r,H',h1,h2,h3,h4,h5,R,hR,e,_⟩:=h
      cases H with
      | nil=>
        simp only [List.map_nil,List.nil_append] at e
        subst e
        exact absurd (List.mem_cons_self) (hk id y)
      | cons p H=>
        simp only [List.map_cons,List.cons_append,List.cons.injEq] at e
        cases e.1
    | some c=>
      obtain ⟨r,h1,h2,rfl,_⟩:=h
      exact absurd (List.mem_cons_self) (hk id y)
  | need p k ih=>
    intro rs hk h
    obtain ⟨h1,j,u,es,n,e1,e2,e3,e4,e5,e6⟩:=ih hk h.2
    exact ⟨h1,j,u,es,n,e1,e2,e3,e4,e5,fun s' a es' n' b c d=>⟨h.1,e6 s' a es' n' b c d⟩⟩
  | slot t k ih=>
    intro rs hk h
    simp only [wpQD] at h
    split at h
    · rename_i w hw
      obtain ⟨h1,j,u,es,n,e1,e2,e3,e4,e5,e6⟩:=ih w (rs:=.t t :: rs) (by
        intro i z hm
        rcases List.mem_cons.1 hm with hm | hm
        · cases hm
        · exact hk i z hm) h
      refine ⟨fun k hm=>h1 k (List.mem_cons_of_mem _ hm),j,u,es,n,e1,e2,e3,e4,e5,fun s' a es' n' b c d=>?_⟩
      have:=a (.t t) (h1 _ List.mem_cons_self)
      simp only [St.at_,hw,Option.map_some] at this
      obtain ⟨o,h7,h8⟩:=Option.map_eq_some_iff.1 this
      injection h8 with h8
      simp only [wpQD,h7,h8]
      exact e6 s' a es' n' b c d
    · exact h.elim
  | obj id' k ih=>
    intro rs hk h
    simp only [wpQD] at h
    split at h
    · rename_i w hw
      obtain ⟨h1,j,u,es,n,e1,e2,e3,e4,e5,e6⟩:=ih w (rs:=.o id' :: rs) (by
        intro i z hm
        rcases List.mem_cons.1 hm with hm | hm
        · cases hm
        · exact hk i z hm) h
      refine ⟨fun k hm=>h1 k (List.mem_cons_of_mem _ hm),j,u,es,n,e1,e2,e3,e4,e5,fun s' a es' n' b c d=>?_⟩
      have:=a (.o id') (h1 _ List.mem_cons_self)
      simp only [St.at_,hw,Option.map_some] at this
      obtain ⟨o,h7,h8⟩:=Option.map_eq_some_iff.1 this
      injection h8 with h8
      simp only [wpQD,h7,h8]
      exact e6 s' a es' n' b c d
    · exact h.elim
  | any p k ih=>intro rs hk h; exact h.elim
  | ins id' j a u=>
    intro rs hk h
    obtain ⟨es,n,hl,h1,e,rfl,rfl⟩:=wpI_some h
    simp only [List.cons.injEq,Ky.k.injEq,Ky.o.injEq] at e
    obtain ⟨⟨rfl,rfl⟩,_,rfl⟩:=e
    refine ⟨fun k hm=>hm,j,u,es,n,hl,h1.1,h1.2,rfl,rfl,fun s' _ es' n' b c d=>?_⟩
    show wpI _ _
    rw [b]
    exact ⟨⟨c,d⟩,rfl,rfl,rfl⟩
  | bad=>intro rs hk h; exact h.elim
theorem look_applyW : ∀ (wr : Wr) (hp : Hp) (id : Nat),look (applyW wr hp) id = match (wr.reverse.find? fun p=>p.1 == id) with | some p=>p.2 | none=>look hp id:=by
  intro wr
  induction wr with
  | nil=>intro hp id; rfl
  | cons p r ih=>
    intro hp id
    obtain ⟨k,o⟩:=p
    have e : look (applyW ((k,o) :: r) hp) id = match (r.reverse.find? fun p=>p.1 == id) with | some p=>p.2 | none=>if id = k then o else look hp id:=by
      cases o with
      | none=>simp only [applyW]; rw [ih,look_delA]
      | some o=>simp only [applyW]; rw [ih,look_setA]
    rw [e,List.reverse_cons,List.find?_append]
    cases (r.reverse.find? fun p=>p.1 == id) with
    | some p=>rfl
    | none=>
      by_cases h : id = k
      · simp [h]
      · simp [h,Ne.symm h]
def eff (s : St) (d : Option Nat) (v : AV) (wr : Wr) : St:=(s.wr wr).put d v
theorem eff_nx {s : St} {d : Option Nat} {v : AV} {wr : Wr} : (eff s d v wr).nx = s.nx:=by cases d <;> rfl
theorem eff_nt {s : St} {d : Option Nat} {v : AV} {wr : Wr} : (eff s d v wr).nt = s.nt:=by cases d <;> rfl
theorem eff_lo {s : St} {d : Option Nat} {v : AV} {wr : Wr} : (eff s d v wr).lo = s.lo:=by cases d <;> rfl
theorem eff_tm {s : St} {d : Option Nat} {v : AV} {wr : Wr} (n : Nat) : look (eff s d v wr).tm n = if d = some n then some v else look s.tm n:=by
  cases d with
  | none=>rfl
  | some d=>
    simp only [eff,St.put,St.wr,look]
    by_cases h : n = d
    · simp [h]
    · simp [h,Ne.symm h]
theorem eff_hp {s : St} {d : Option Nat} {v : AV} {wr : Wr} (n : Nat) : look (eff s d v wr).hp n = match (wr.reverse.find? fun p=>p.1 == n) with | some p=>p.2 | none=>look s.hp n:=by
  have : (eff s d v wr).hp = applyW wr s.hp:=by cases d <;> rfl
  rw [this,look_applyW]
theorem eff_at {s : St} {d : Option Nat} {v : AV} {wr : Wr} {k : Ky} (h : k ∉ wrKeys d wr) : (eff s d v wr).at_ k = s.at_ k:=by
  cases k with
  | k _ _=>rfl
  | t n=>
    simp only [St.at_]
    rw [eff_tm,if_neg ?_]
    intro e
    subst e
    simp [wrKeys] at h
  | o n=>
    simp only [St.at_]
    rw [eff_hp]
    have : (wr.reverse.find? fun p=>p.1 == n) = none:=by
      rw [List.find?_eq_none]
      intro p hp
      simp only [beq_iff_eq]
      intro e
      apply h
      simp only [wrKeys,List.mem_append,List.mem_map]
      exact .inr ⟨p,by simpa using hp,by rw [e]⟩
    rw [this]
theorem eff_eqv {s s' : St} (h : s.eqv s') (d : Option Nat) (v : AV) (wr : Wr) : (eff s d v wr).eqv (eff s' d v wr):=by
  refine ⟨fun n=>?_,fun n=>?_,?_,?_,by rw [eff_lo,eff_lo,h.lo]⟩
  · rw [eff_tm,eff_tm,h.tm]
  · rw [eff_hp,eff_hp,h.hp]
  · rw [eff_nx,eff_nx,h.nx]
  · rw [eff_nt,eff_nt,h.nt]
theorem eff_swap {s : St} {d d' : Option Nat} {v v' : AV} {wr wr' : Wr} (h : ∀ k ∈ wrKeys d wr,k ∉ wrKeys d' wr') : (eff (eff s d v wr) d' v' wr').eqv (eff (eff s d' v' wr') d v wr):=by
  refine ⟨fun n=>?_,fun n=>?_,?_,?_,by simp [eff_lo]⟩
  · rw [eff_tm,eff_tm,eff_tm,eff_tm]
    by_cases h1 : d = some n
    · have h2 : d' ≠ some n:=fun e=>h (.t n) (by simp [wrKeys,h1]) (by simp [wrKeys,e])
      simp [h1,h2]
    · simp [h1]
  · rw [eff_hp,eff_hp,eff_hp,eff_hp]
    cases h1 : (wr.reverse.find? fun p=>p.1 == n) with
    | none=>rfl
    | some p=>
      have h2 : (wr'.reverse.find? fun p=>p.1 == n) = none:=by
        rw [List.find?_eq_none]
        intro p' hp'
        simp only [beq_iff_eq]
        intro e
        have h3:=List.mem_of_find?_eq_some h1
        have h4:=List.find?_some h1
        simp only [beq_iff_eq] at h4
        refine h (.o n) ?_ ?_
        · simp only [wrKeys,List.mem_append,List.mem_map]
          exact .inr ⟨p,by simpa using h3,by rw [h4]⟩
        · simp only [wrKeys,List.mem_append,List.mem_map]
          exact .inr ⟨p',by simpa using hp',by rw [e]⟩
      rw [h2]
  · simp [eff_nx]
  · simp [eff_nt]
section
variable {P : Program} {T : Nat → TI} {ops : Array Oper} {nx : Nat} {R : Nat → List Ky × List Ky} {E : EvT}
def Chain (E : EvT) (P : Program) (T : Nat → TI) (ops : Array Oper) (nx : Nat) (R : Nat → List Ky × List Ky) : List Nat → St → St → Prop
  | [],s,sf=>s.eqv sf
  | i :: l,s,sf=>∃ o v wr,ops[i]? = some o ∧ wrKeys o.dst wr = (R i).2 ∧ wpQD P (nx + i) s (E T (nx + i) (dstsOf ops) o) [] (fun a b c=>a = (R i).1 ∧ b = v ∧ c = wr) ∧ Chain E P T ops nx R l (eff s o.dst v wr) sf
theorem St.eqv.at_ {s s' : St} (h : s.eqv s') (k : Ky) : s'.at_ k = s.at_ k:=by cases k <;> simp [St.at_,h.tm,h.hp]
theorem Chain.congr : ∀ {l : List Nat} {s s' sf : St},Chain E P T ops nx R l s sf → s.eqv s' → Chain E P T ops nx R l s' sf
  | [],_,_,_,h,he=>he.symm.trans h
  | i :: l,s,s',sf,⟨o,v,wr,h1,h1',h2,h3⟩,he=>⟨o,v,wr,h1,h1',wpQD_local h2 (fun k _=>he.at_ k),h3.congr (eff_eqv he _ _ _)⟩
def Indep (a b : List Ky × List Ky) : Prop:=(∀ k ∈ a.2,k ∉ b.2 ∧ k ∉ b.1) ∧ ∀ k ∈ b.2,k ∉ a.1
structure InsP (a b : List Ky × List Ky) (id : Nat) (y z : Int) (ra rb : List Ky) : Prop where
  ea : a = (.k id y :: .o id :: ra,[.o id])
  eb : b = (.k id z :: .o id :: rb,[.o id])
  ne : y ≠ z
  na : Ky.o id ∉ ra
  nb : Ky.o id ∉ rb
def Comm (a b : List Ky × List Ky) : Prop:=Indep a b ∨ ∃ id y z ra rb,InsP a b id y z ra rb
theorem wrKeys_one {d : Option Nat} {id : Nat} {o : Option AObj} (h : wrKeys d [(id,o)] = [.o id]) : d = none:=by
  cases d with
  | none=>rfl
  | some d=>simp [wrKeys] at h
theorem Chain.swap {i j : Nat} {l : List Nat} {s sf : St} (h : Chain E P T ops nx R (i :: j :: l) s sf) (hi : Comm (R i) (R j)) : Chain E P T ops nx R (j :: i :: l) s sf:=by
  obtain ⟨oi,vi,wi,h1,k1,h2,oj,vj,wj,h3,k3,h4,h5⟩:=h
  rcases hi with hi | ⟨id,y,z,ra,rb,hi⟩
  · obtain ⟨d1,d2⟩:=hi
    have h4':=wpQD_local (s':=s) h4 (fun k hk=>(eff_at (fun hm=>(d1 k (by rw [← k1]; exact hm)).2 hk)).symm)
    have h2':=wpQD_local (s':=eff s oj.dst vj wj) h2 (fun k hk=>eff_at (fun hm=>d2 k (by rw [← k3]; exact hm) hk))
    exact ⟨oj,vj,wj,h3,k3,h4',oi,vi,wi,h1,k1,h2',h5.congr (eff_swap (fun k hk=>by rw [k3]; exact (d1 k (by rw [← k1]; exact hk)).1))⟩
  · have e1 : (R i).1 = .k id y :: .o id :: ra:=by rw [hi.ea]
    have e1' : (R i).2 = [.o id]:=by rw [hi.ea]
    have e2 : (R j).1 = .k id z :: .o id :: rb:=by rw [hi.eb]
    have e2' : (R j).2 = [.o id]:=by rw [hi.eb]
    rw [e1] at h2
    rw [e2] at h4
    obtain ⟨_,ji,ui,es,n,p1,p2,p3,rfl,rfl,p6⟩:=insQ_s (by intro _ _ h; cases h) h2
    obtain ⟨_,jj,uj,es1,n1,q1,q2,q3,rfl,rfl,q6⟩:=insQ_s (by intro _ _ h; cases h) h4
    have hdi:=wrKeys_one (k1.trans e1')
    have hdj:=wrKeys_one (k3.trans e2')
    rw [hdi] at q1 h5 q6
    rw [hdj] at h5
    have l1 : ∀ (s : St) (o : AObj),look (eff s none .dead [(id,some o)]).hp id = some o:=fun s o=>by simp [eff_hp]
    rw [l1] at q1
    injection q1 with q1
    injection q1 with q1 q1'
    subst q1
    subst q1'
    rw [keysOk_insS,Bool.and_eq_true,decide_eq_true_eq] at q2
    obtain ⟨rfl,q2⟩:=q2
    rw [newKey_insS,Bool.and_eq_true] at q3
    have a1 : ∀ (s : St) (o : AObj) (k : Ky),k ≠ .o id → (eff s none .dead [(id,some o)]).at_ k = s.at_ k:=fun s o k hk=>eff_at (by simpa [wrKeys] using hk)
    have r1:=q6 s (fun k hk=>(a1 s _ k (fun e=>hi.nb (e ▸ hk))).symm) es n p1 p2 q3.2
    have r2:=p6 (eff s none .dead [(id,some (.mp (insS ji z uj es) (n + 1)))]) (fun k hk=>a1 s _ k (fun e=>hi.na (e ▸ hk))) _ _ (l1 _ _) (by rw [keysOk_insS]; simp [p2]) (by rw [newKey_insS]; simp [p3,hi.ne])
    refine ⟨oj,.dead,_,h3,?_,by rw [e2]; exact r1,oi,.dead,_,h1,?_,by rw [e1,hdj]; exact r2,?_⟩
    · rw [hdj,e2']; rfl
    · rw [hdi,e1']; rfl
    · rw [hdi,hdj]
      refine h5.congr ⟨fun t=>by simp [eff_tm],fun t=>?_,rfl,rfl,rfl⟩
      simp only [eff_hp]
      rw [insS_comm hi.ne]
      by_cases ht : id = t
      · subst ht
        simp
      · have : (id == t) = false:=by simpa using ht
        simp [this]
theorem Chain.front : ∀ {l1 : List Nat} {j : Nat} {l2 : List Nat} {s sf : St},Chain E P T ops nx R (l1 ++ j :: l2) s sf → (∀ i ∈ l1,Comm (R i) (R j)) → Chain E P T ops nx R (j :: (l1 ++ l2)) s sf
  | [],_,_,_,_,h,_=>h
  | i :: l1,j,l2,s,sf,⟨o,v,wr,h1,h1',h2,h3⟩,hi=>by
    have ih:=Chain.front h3 (fun k hk=>hi k (by simp [hk]))
    exact Chain.swap ⟨o,v,wr,h1,h1',h2,ih⟩ (hi i (by simp))
inductive Anc (ops : Array Oper) : Nat → Nat → Prop where
  | one {j : Nat} {o : Oper} {e : Edge} (h : ops[j]? = some o) (he : e ∈ o.after) (hb : Region.binds .any e = true) : Anc ops e.on j
  | step {i j : Nat} {o : Oper} {e : Edge} (h : ops[j]? = some o) (he : e ∈ o.after) (hb : Region.binds .any e = true) (r : Anc ops i e.on) : Anc ops i j
def Closed (ops : Array Oper) (listed : Array Bool) : Prop:=∀ (j : Nat) (o : Oper),ops[j]? = some o → listed.getD j false = true → ∀ e ∈ o.after,Region.binds .any e = true → listed.getD e.on false = true
theorem Anc.listed {listed : Array Bool} (hc : Closed ops listed) {i j : Nat} (h : Anc ops i j) : (∀ o,ops[j]? = some o → ∀ e ∈ o.after,Region.binds .any e = true → listed.getD e.on false = true) → listed.getD i false = true:=by
  induction h with
  | one h he hb=>intro hr; exact hr _ h _ he hb
  | step h he hb r ih=>
    intro hr
    refine ih fun o ho e' he' hb'=>?_
    exact hc _ _ ho (hr _ h _ he hb) e' he' hb'
def maskOf (acc : List Nat) (o : Oper) : Nat:=o.after.toList.foldl (fun s e=>if Region.binds .any e then s ||| (2 ^ e.on ||| acc.getD e.on 0) else s) 0
def befs : List Oper → List Nat → List Nat
  | [],acc=>acc
  | o :: r,acc=>befs r (acc ++ [maskOf acc o])
theorem befs_anc : ∀ (l : List Oper) (acc : List Nat),ops.toList.drop acc.length = l → (∀ j i,(acc.getD j 0).testBit i = true → Anc ops i j) → ∀ j i,((befs l acc).getD j 0).testBit i = true → Anc ops i j
  | [],acc,_,h=>h
  | o :: l,acc,hl,h=>by
    have ho : ops[acc.length]? = some o:=by
      rw [← Array.getElem?_toList]
      have:=List.getElem?_drop (xs:=ops.toList) (i:=acc.length) (j:=0)
      rw [hl] at this
      simpa using this.symm
    refine befs_anc l (acc ++ [maskOf acc o]) ?_ ?_
    · rw [List.length_append,List.length_singleton,← List.drop_drop,hl]
      rfl
    · intro j i hb
      rcases Nat.lt_trichotomy j acc.length with hj | hj | hj
      · rw [List.getD_eq_getElem?_getD,List.getElem?_append_left hj,← List.getD_eq_getElem?_getD] at hb
        exact h j i hb
      · subst hj
        rw [List.getD_eq_getElem?_getD,List.getElem?_append_right (Nat.le_refl _)] at hb
        simp only [Nat.sub_self,List.getElem?_cons_zero,Option.getD_some] at hb
        unfold maskOf at hb
        have key : ∀ (es : List Edge) (m : Nat),(∀ e ∈ es,e ∈ o.after) → (m.testBit i = true → Anc ops i acc.length) → (es.foldl (fun s e=>if Region.binds .any e then s ||| (2 ^ e.on ||| acc.getD e.on 0) else s) m).testBit i = true → Anc ops i acc.length:=by
          intro es
          induction es with
          | nil=>intro m _ hm hb; exact hm hb
          | cons e es ih=>
            intro m hes hm hb
            refine ih _ (fun e' he'=>hes e' (by simp [he'])) ?_ hb
            intro hb2
            simp only at hb2
            split at hb2
            · rename_i hbd
              rw [Nat.testBit_or,Nat.testBit_or,Nat.testBit_two_pow] at hb2
              simp only [Bool.or_eq_true,decide_eq_true_eq] at hb2
              have hmem:=hes e (by simp)
              rcases hb2 with h1 | rfl | h1
              · exact hm h1
              · exact .one ho hmem hbd
              · exact .step ho hmem hbd (h _ _ h1)
            · exact hm hb2
        exact key _ 0 (fun e he=>by simpa using he) (fun h=>by simp at h) hb
      · rw [List.getD_eq_getElem?_getD,List.getElem?_eq_none (by simp; omega)] at hb
        simp at hb
end
section
variable {P : Program} {T : Nat → TI} {ops : Array Oper} {nx nt : Nat} {R : Nat → List Ky × List Ky} {E : EvT} {B : Base} {Qx : Exit → Act → World → Prop}
def runD (E : EvT) (P : Program) (T : Nat → TI) (dsts : List (Option Nat)) : List Oper → Nat → St → List (List Ky × List Ky) → (List (List Ky × List Ky) → St → Prop) → Prop
  | [],i,s,acc,K=>K acc { s with nx:=s.nx + i }
  | o :: r,i,s,acc,K=>wpQD P (s.nx + i) s (E T (s.nx + i) dsts o) [] fun rs v wr=>runD E P T dsts r (i + 1) ((s.wr wr).put o.dst v) (acc ++ [(rs,wrKeys o.dst wr)]) K
def meets (a b : List Ky) : Bool:=a.any fun k=>b.contains k
def insP : List Ky × List Ky → List Ky × List Ky → Bool
  | (.k i y :: .o i1 :: ra,[.o i2]),(.k j z :: .o j1 :: rb,[.o j2])=>i == i1 && i == i2 && j == i && j1 == i && j2 == i && y != z && !ra.contains (.o i) && !rb.contains (.o i)
  | _,_=>false
def dep (a b : List Ky × List Ky) : Bool:=(meets a.2 b.2 || meets a.2 b.1 || meets b.2 a.1) && !insP a b
theorem insP_s {a b : List Ky × List Ky} (h : insP a b = true) : ∃ id y z ra rb,InsP a b id y z ra rb:=by
  unfold insP at h
  split at h
  · simp only [Bool.and_eq_true,beq_iff_eq,bne_iff_ne,ne_eq,Bool.not_eq_true',List.contains_eq_mem,decide_eq_false_iff_not] at h
    obtain ⟨⟨⟨⟨⟨⟨⟨rfl,rfl⟩,rfl⟩,rfl⟩,rfl⟩,h6⟩,h7⟩,h8⟩:=h
    exact ⟨_,_,_,_,_,rfl,rfl,h6,h7,h8⟩
  · cases h
def ordOk (bef : List Nat) (recs : List (List Ky × List Ky)) : Bool:=recs.zipIdx.all fun (b,j)=>recs.zipIdx.all fun (a,i)=>decide (j ≤ i) || !dep a b || (bef.getD j 0).testBit i
theorem any_s (hE : EvOk P T E) (hd : ∀ (i : Nat) (o : Oper) (k : Nat),ops[i]? = some o → o.dst = some k → k < nt) (hind : ∀ i j,i < j → j < ops.size → ¬ Comm (R i) (R j) → Anc ops i j) (hback : ∀ (j : Nat) (o : Oper),ops[j]? = some o → ∀ e ∈ o.after,Region.binds .any e = true → e.on < j)
    {sf : St} (hQ : ∀ s' a' w' x' D,s'.eqv sf → s'.nt = nt → Core B D s' a' w' x' → (∀ id,D id → id < nx + ops.size) → Qx .normal a' w') :
    ∀ (fuel : Nat) (L : List Nat) (listed : Array Bool) (D : Nat → Prop) (s : St) (a : Act) (w : World) (x : Cx),L.length = fuel → L.Pairwise (· < ·) → (∀ i ∈ L,i < ops.size) → listed.size = ops.size → (∀ i,i < ops.size → (listed.getD i true = false ↔ i ∈ L)) → Closed ops listed →
      s.nt = nt → Chain E P T ops nx R L s sf → Core B D s a w x → (∀ id,D id → id < nx ∨ ∃ i,i < ops.size ∧ i ∉ L ∧ id = nx + i) → wpAnyIn (wR B.rd) 0 P .any ops Qx fuel listed a w:=by
  intro fuel
  induction fuel with
  | zero=>
    intro L listed D s a w x hl hpw hsz hls hmem hcl hnt hch hC hD
    have hnil : L = []:=List.eq_nil_of_length_eq_zero hl
    subst hnil
    refine ⟨?_,hQ s a w x D hch hnt hC fun id h=>?_⟩
    · rw [List.eq_nil_iff_forall_not_mem]
      intro j hj
      obtain ⟨h0,o,ho,_⟩:=mem_ready.1 hj
      have hlt:=(Array.getElem?_eq_some_iff.1 ho).1
      have:=(hmem j hlt).1 h0
      cases this
    · rcases hD id h with h | ⟨i,h1,_,h2⟩ <;> omega
  | succ fuel ih=>
    intro L listed D s a w x hl hpw hsz hls hmem hcl hnt hch hC hD
    refine ⟨fun hr=>?_,fun j hj=>?_⟩
    · exfalso
      cases L with
      | nil=>simp at hl
      | cons i L=>
        have hi:=hsz i (by simp)
        have hmr : i ∈ Region.ready .any ops listed:=by
          refine mem_ready.2 ⟨(hmem i hi).2 (by simp),ops[i],by simp [hi],fun e he hb=>?_⟩
          have hlt:=hback i ops[i] (by simp [hi]) e he hb
          cases hq : listed.getD e.on true with
          | true=>
            have h1 : e.on < listed.size:=by omega
            simpa [h1] using hq
          | false=>
            have hm:=(hmem e.on (by omega)).1 hq
            rcases List.mem_cons.1 hm with h2 | h2
            · omega
            · have:=List.rel_of_pairwise_cons hpw h2
              omega
        rw [hr] at hmr
        cases hmr
    · obtain ⟨hun,oj,hoj,hall⟩:=mem_ready.1 hj
      have hjlt : j < ops.size:=(Array.getElem?_eq_some_iff.1 hoj).1
      have hjL:=(hmem j hjlt).1 hun
      obtain ⟨L1,L2,rfl⟩:=List.append_of_mem hjL
      have hindep : ∀ i ∈ L1,Comm (R i) (R j):=by
        intro i hi
        have hij : i < j:=by
          rw [List.pairwise_append] at hpw
          exact hpw.2.2 i hi j (by simp)
        refine Classical.byContradiction fun hne=>?_
        have hanc:=hind i j hij hjlt hne
        have hli:=hanc.listed hcl (fun o ho e he hb=>by
          rw [hoj] at ho
          injection ho with ho
          subst ho
          exact hall e he hb)
        have hun':=(hmem i (by omega)).2 (by simp [hi])
        have h1 : i < listed.size:=by omega
        simp [h1] at hli hun'
        rw [hli] at hun'
        cases hun'
      obtain ⟨o,v,wr,ho,_,hres,hrest⟩:=hch.front hindep
      rw [hoj] at ho
      injection ho with ho
      subst ho
      have hnd : (L1 ++ j :: L2).Nodup:=hpw.imp (fun h=>Nat.ne_of_lt h)
      have hjn : j ∉ L1 ++ L2:=by
        rw [List.nodup_append] at hnd
        intro hm
        rcases List.mem_append.1 hm with h | h
        · exact hnd.2.2 j h j (by simp) rfl
        · exact (List.nodup_cons.1 hnd.2.1).1 h
      have hfr : ¬ D (nx + j):=fun h=>by
        rcases hD _ h with h1 | ⟨i,h1,h2,h3⟩
        · omega
        · have : i = j:=by omega
          subst this
          exact h2 (by simp)
      refine hE hC (nid:=nx + j) hfr hoj (fun k hk=>by rw [hnt]; exact hd j oj k hoj hk) (wpQD_wpQ hres) ?_
      rintro v wr a' w' x' ⟨rs',e1,e2,e3⟩ hC'
      subst e2
      subst e3
      refine ih (L1 ++ L2) (listed.setIfInBounds j true) _ _ a' w' x' (by simp at hl ⊢; omega) ?_ ?_ ?_ ?_ ?_ ?_ hrest hC' ?_
      · refine hpw.sublist ?_
        exact List.Sublist.append (List.Sublist.refl _) (List.sublist_cons_self _ _)
      · intro i hi
        rcases List.mem_append.1 hi with h | h
        · exact hsz i (by simp [h])
        · exact hsz i (by simp [h])
      · simp [hls]
      · intro i hi
        by_cases hij : j = i
        · subst hij
          have h1 : j < listed.size:=by omega
          simp [h1]
          exact ⟨fun h=>hjn (by simp [h]),fun h=>hjn (by simp [h])⟩
        · rw [getD_set_ne true hij,hmem i hi]
          simp [Ne.symm hij]
      · intro k o hk hlk e he hb
        by_cases hkj : j = k
        · subst hkj
          rw [hoj] at hk
          injection hk with hk
          subst hk
          exact getD_set_true (hall e he hb)
        · rw [getD_set_ne false hkj] at hlk
          exact getD_set_true (hcl k o hk hlk e he hb)
      · cases oj.dst <;> exact hnt
      · intro id h
        rcases h with h | h
        · rcases hD id h with h1 | ⟨i,h1,h2,h3⟩
          · exact .inl h1
          · refine .inr ⟨i,h1,fun hm=>h2 ?_,h3⟩
            rcases List.mem_append.1 hm with h4 | h4 <;> simp [h4]
        · exact .inr ⟨j,hjlt,hjn,h⟩
theorem runD_chain : ∀ (l : List Oper) (i : Nat) (s : St) (acc : List (List Ky × List Ky)) (K : List (List Ky × List Ky) → St → Prop),ops.toList.drop i = l → s.nx = nx → acc.length = i → runD E P T (dstsOf ops) l i s acc K →
    ∃ (Rl : List (List Ky × List Ky)) (sf : St),Rl.length = l.length ∧ K (acc ++ Rl) { sf with nx:=nx + (i + l.length) } ∧ sf.nx = nx ∧ sf.lo = s.lo ∧ sf.nt = s.nt ∧
      ∀ R : Nat → List Ky × List Ky,(∀ k r,Rl[k]? = some r → R (i + k) = r) → Chain E P T ops nx R (List.range' i l.length) s sf
  | [],i,s,acc,K,_,hnx,_,h=>⟨[],s,rfl,by simpa [runD,hnx] using h,hnx,rfl,rfl,fun R _=>St.eqv.refl s⟩
  | o :: l,i,s,acc,K,hl,hnx,hac,h=>by
    have hi : ops[i]? = some o:=by
      rw [← Array.getElem?_toList]
      have:=List.getElem?_drop (xs:=ops.toList) (i:=i) (j:=0)
      rw [hl] at this
      simpa using this.symm
    unfold runD at h
    obtain ⟨rs,v,wr,h1,h2⟩:=wpQD_res h
    rw [hnx] at h2
    obtain ⟨Rl,sf,h3,h4,h5,h5b,h6,h7⟩:=runD_chain l (i + 1) _ _ K (by rw [← List.drop_drop,hl]; rfl) (by rw [← hnx]; cases o.dst <;> rfl) (by simp [hac]) h1
    refine ⟨(rs,wrKeys o.dst wr) :: Rl,sf,by simp [h3],?_,h5,by rw [h5b]; cases o.dst <;> rfl,by rw [h6]; cases o.dst <;> rfl,?_⟩
    · simp only [List.length_cons]
      rw [show nx + (i + (l.length + 1)) = nx + (i + 1 + l.length) by omega]
      simpa using h4
    · intro R hR
      rw [List.length_cons,List.range'_succ]
      have hRi:=hR 0 _ rfl
      rw [Nat.add_zero] at hRi
      refine ⟨o,v,wr,hi,by rw [hRi],?_,?_⟩
      · rw [hRi]
        exact h2
      · exact h7 R (fun k r hk=>by rw [show i + 1 + k = i + (k + 1) by omega]; exact hR (k + 1) r (by simpa using hk))
theorem meets_no {a b : List Ky} (h : meets a b = false) : ∀ k ∈ a,k ∉ b:=by
  intro k hk hb
  unfold meets at h
  rw [List.any_eq_false] at h
  exact h k hk (by simpa using hb)
theorem regionD_s (hE : EvOk P T E) (hm : P.follows .mixedOrders = true) {id : Nat} {s : St} {a : Act} {w : World} {x : Cx} {K : St → Prop}
    (hd : (ops.all fun o=>match o.dst with | some k=>decide (k < s.nt) | none=>true) = true) (hback : (ops.toList.zipIdx.all fun (o,j)=>o.after.all fun e=>!Region.binds .any e || decide (e.on < j)) = true)
    (hC : Core B (· < s.nx) s a w x) (h : runD E P T (dstsOf ops) ops.toList 0 s [] fun recs s'=>ordOk (befs ops.toList []) recs = true ∧ K s')
    (hQ : ∀ s' s'' a' w' x',K s'' → s'.eqv s'' → Core B (· < s'.nx) s' a' w' x' → Qx .normal a' w') : (Code.region id ops true).wpIn (wR B.rd) 0 P Qx a w:=by
  refine wpIn_region_any hm ?_
  obtain ⟨Rl,sf,h1,⟨h2,h3⟩,h4,h5b,h5,h6⟩:=runD_chain ops.toList 0 s [] _ rfl rfl rfl h
  let R : Nat → List Ky × List Ky:=fun i=>Rl.getD i ([],[])
  have hch:=h6 R (fun k r hk=>by rw [Nat.zero_add]; simp [R,List.getD_eq_getElem?_getD,hk])
  have hback' : ∀ (j : Nat) (o : Oper),ops[j]? = some o → ∀ e ∈ o.after,Region.binds .any e = true → e.on < j:=by
    intro j o ho e he hb
    have:=(List.all_eq_true.1 hback) (o,j) (by rw [List.mem_zipIdx_iff_getElem?]; simpa using ho)
    simp only at this
    have:=(Array.all_eq_true_iff_forall_mem.1 this) e he
    simpa [hb] using this
  have hst : Core B (· < s.nx) s a { w with drawn:=w.drawn + 1 } x:=by
    have st:=Stp.drew hC.h
    exact ⟨st.h,fun t u ht=>(hC.t t u ht).mono st.mo,hC.n,hC.d.step hC.h st.tr,hC.tr.trans st.tr,hC.mo.trans st.mo,hC.lo,hC.ln,hC.dom⟩
  replace h1 : Rl.length = ops.size:=h1.trans (by simp)
  refine any_s (nt:=s.nt) (nx:=s.nx) (R:=R) hE (fun i o k ho hk=>?_) ?_ hback' (sf:=sf) ?_ ops.size (List.range ops.size) _ (· < s.nx) s a _ x (by simp) List.pairwise_lt_range (fun i hi=>by simpa using hi) (by simp) ?_ ?_ rfl ?_ hst (fun id h=>.inl h)
  · have h7:=(Array.all_eq_true_iff_forall_mem.1 hd) o (Array.mem_of_getElem? ho)
    rw [hk] at h7
    simpa using h7
  · intro i j hij hjn hne
    have hin : i < ops.size:=by omega
    unfold ordOk at h2
    simp only [List.nil_append] at h2
    have hrec : ∀ k,(hk : k < ops.size) → Rl[k]? = some (R k):=by
      intro k hk
      simp [R,List.getD_eq_getElem?_getD,List.getElem?_eq_getElem (show k < Rl.length by omega)]
    have h7:=(List.all_eq_true.1 h2) (R j,j) (by rw [List.mem_zipIdx_iff_getElem?]; exact hrec j hjn)
    simp only at h7
    have h8:=(List.all_eq_true.1 h7) (R i,i) (by rw [List.mem_zipIdx_iff_getElem?]; exact hrec i hin)
    simp only [Bool.or_eq_true,decide_eq_true_eq,Bool.not_eq_true'] at h8
    rcases h8 with (h8 | h8) | h8
    · omega
    · exfalso
      apply hne
      unfold dep at h8
      simp only [Bool.and_eq_false_iff,Bool.or_eq_false_iff,Bool.not_eq_false'] at h8
      rcases h8 with ⟨⟨m1,m2⟩,m3⟩ | h8
      · exact .inl ⟨fun k hk=>⟨meets_no m1 k hk,meets_no m2 k hk⟩,meets_no m3⟩
      · exact .inr (insP_s h8)
    · exact befs_anc ops.toList [] rfl (fun j i h=>by simp at h) j i h8
  · intro s' a' w' x' D he hnt hC' hD
    have hln : s'.lo ≤ s.nx + ops.size:=by
      have e1:=he.lo
      have:=hC.ln
      rw [e1,h5b]
      omega
    have hnx : ({ s' with nx:=s.nx + ops.size } : St).eqv { sf with nx:=s.nx + (0 + ops.toList.length) }:=⟨he.tm,he.hp,by simp,he.nt,he.lo⟩
    refine hQ { s' with nx:=s.nx + ops.size } _ a' w' x' h3 hnx ?_
    exact ⟨hC'.h,hC'.t,hC'.n,hC'.d,hC'.tr,hC'.mo,hC'.lo,hln,fun id g hdm=>hD id (hC'.dom id g hdm)⟩
  · intro i hi
    simp [hi]
  · intro j o ho hlj
    have : j < ops.size:=(Array.getElem?_eq_some_iff.1 ho).1
    simp [this] at hlj
  · rw [List.range_eq_range',← Array.length_toList]
    exact hch
end
section
variable {P : Program} {F : Fence} {n : Nat} {b : Frame} {a : Act} {k : List Item} {cs : List Frame} {w : World} {Q : Exit → Act → World → Prop}
theorem stepR_scope {c : Code} : step P (lone (b.atR a (.code (.scope c) :: k)) cs w) = .next (lone (b.atR a (.code c :: .inScope c :: k)) cs w):=
  step_lone_go (by simp [stepG,stepG.exec,Frame.atR])
theorem stepR_inScope {c : Code} : step P (lone (b.atR a (.inScope c :: k)) cs w) = .next (lone (b.atR a k) cs w):=
  step_lone_go (by simp [stepG,stepG.exec,Frame.atR])
theorem wpIn_scope_straight {c : Code} (h : c.wpIn F n P (Exit.noGoto Q) a w) : (Code.scope c).wpIn F n P Q a w:=by
  intro b k cs hro hb hr
  have h0 : (lone (b.atR a (.code (.scope c) :: k)) cs w).fenced P F:=fenced_calm hb hr rfl
  obtain ⟨e,a₁,w₁,hq,harr⟩:=h b (.inScope c :: k) cs hro hb hr
  cases e with
  | normal=>exact ⟨.normal,a₁,w₁,hq,.head h0 stepR_scope (StepsIn.trans harr (.one (fenced_calm hb hr rfl) stepR_inScope))⟩
  | exit id=>
    have hx : exitTo id (.inScope c :: k) = exitTo id k:=by simp [exitTo]
    exact ⟨.exit id,a₁,w₁,hq,fun k' hk=>.head h0 stepR_scope (harr.1 k' (by rw [hx]; exact hk)),
      fun hr' hk=>let ⟨k₁,h1,h2⟩:=harr.2 hr' (by rw [hx]; exact hk); ⟨k₁,h1,.head h0 stepR_scope h2⟩⟩
  | goto l=>exact hq.elim
  | ret=>exact ⟨_,a₁,w₁,hq,.of_steps (.one h0 stepR_scope) harr⟩
  | panic ch=>exact ⟨_,a₁,w₁,hq,.of_steps (.one h0 stepR_scope) harr⟩
  | outgrown=>exact ⟨_,a₁,w₁,hq,.of_steps (.one h0 stepR_scope) harr⟩
end
structure Shut (Ds : List Nat) (w w' : World) : Prop where
  os : w'.os = w.os
  tape : w'.tape = w.tape
  output : w'.output = w.output
  size : w'.heap.size = w.heap.size
  keep : ∀ b,b ∉ Ds → w'.heap[b]? = w.heap[b]?
theorem Shut.put {Ds : List Nat} {w w' : World} {D : Nat} {o : Obj} (h : Shut (D :: Ds) w w') (hlt : D < w.heap.size) : Shut (D :: Ds) w (w'.putObj D o):=
  ⟨h.os,h.tape,h.output,by simp [World.putObj,h.size],fun b hb=>by
    rw [World.putObj_heap_other (by rintro rfl; exact hb (by simp))]
    exact h.keep b hb⟩
theorem leaves_marks {P : Program} {fn : Func} {tmps : Array Value} {R : Ending → World → Prop} {w0 : World} {D0 : List Nat} (hR : ∀ w'',Shut D0 w0 w'' → ∃ v,(results fn tmps).run P w'' = .ok v w'' ∧ R (.returned v) w'') :
    ∀ (Ds : List Nat) (w : World),(∀ D ∈ Ds,D ∈ D0) → Ds.Nodup → (∀ D ∈ Ds,w.heap[D]? = some (.deferred (some []))) → Shut D0 w0 w → LeavesInM Fence.wide 0 P fn tmps R (Ds.map mark) .returning w
  | [],w,_,_,_,hs=>hR w hs
  | D :: Ds,w,hin,hnd,hD,hs=>by
    refine ⟨by simp,.inl ⟨D,w.putObj D (.deferred none),rfl,run_takeDeferred (hD D (by simp)),?_⟩⟩
    have hnd':=List.nodup_cons.1 hnd
    refine leaves_marks hR Ds _ (fun d hd=>hin d (by simp [hd])) hnd'.2 (fun d hd=>?_) ?_
    · rw [World.putObj_heap_other (by rintro rfl; exact hnd'.1 hd)]
      exact hD d (by simp [hd])
    · refine ⟨hs.os,hs.tape,hs.output,by simp [World.putObj,hs.size],fun b hb=>?_⟩
      rw [World.putObj_heap_other (by rintro rfl; exact hb (hin _ (by simp)))]
      exact hs.keep b hb
theorem Core.shut {B : Base} {D : Nat → Prop} {s : St} {a : Act} {w w' : World} {x : Cx} (hC : Core B D s a w x) {Ds : List Nat} (hd : ∀ d ∈ Ds,w.heap[d]? = some (.deferred (some [])) ∧ B.w.heap.size ≤ d ∧ ¬ x.ok d) (h : Shut Ds w w') : Core B D s { a with defers:=[] } w' x:=by
  have m : Mo w x s.hp w' x s.hp:=⟨fun _ h=>h,fun _ _ h=>h,fun b hb=>h.keep b fun hm=>(hd b hm).2.2 hb,fun _ _ h=>⟨h,rfl⟩,fun _ _ _ _ h=>⟨h,rfl,rfl⟩,fun _ _ h=>⟨h,rfl⟩⟩
  have hβ : ∀ id o b,look s.hp id = some o → x.β id = some b → w'.heap[b]? = w.heap[b]?:=fun id o b hl hb=>h.keep b fun hm=>by
    have ho:=hC.h.obj id o hl
    have e0:=(hd b hm).1
    cases o with
    | box t cs=>
      obtain ⟨b',vs,e1,e2,_⟩:=ho
      rw [hb] at e1
      injection e1 with e1
      subst e1
      rw [e0] at e2
      cases e2
    | row t sz g els=>
      rcases ho.2 with e | ⟨b',vs,e1,e2,_⟩
      · rw [hb] at e
        cases e.1
      · rw [hb] at e1
        injection e1 with e1
        subst e1
        rw [e0] at e2
        cases e2
    | mp es n=>
      obtain ⟨b',ms,e1,e2,_⟩:=ho
      rw [hb] at e1
      injection e1 with e1
      subst e1
      rw [e0] at e2
      cases e2
  refine ⟨⟨fun b hb=>by rw [h.size]; exact hC.h.okb b hb,hC.h.dom,hC.h.gen,hC.h.gdm,fun id o b hl hb=>by rw [h.size]; exact hC.h.liv id o b hl hb,hC.h.inj,fun id o hl=>(hC.h.obj id o hl).mono m rfl rfl (fun b hb=>hβ id o b hl hb)⟩,
    fun t u ht=>(hC.t t u ht).mono m,hC.n,Mk.nil _ _ _,?_,hC.mo.trans m,hC.lo,hC.ln,hC.dom⟩
  have t:=hC.tr
  exact ⟨h.os.trans t.os,h.tape.trans t.tape,h.output.trans t.output,by rw [h.size]; exact t.size,fun b hb hn=>(h.keep b fun hm=>by have:=(hd b hm).2.1; omega).trans (t.keep b hb hn),t.okx,t.newb⟩
def SRel (B : Base) (s : St) (a : Act) (w : World) : Prop:=∃ x,Core B (· < s.nx) s a w x
def VC (P : Program) (B : Base) (c : Code) (Q : Exit → St → Prop) (s : St) : Prop:=∀ a w,SRel B s a w → c.wpIn (wR B.rd) 0 P (fun e a' w'=>∃ s',Q e s' ∧ SRel B s' a' w') a w
def thn (next : St → Prop) (Q : Exit → St → Prop) : Exit → St → Prop
  | .normal,s=>next s
  | e,s=>Q e s
def inBk (id : Nat) (Q : Exit → St → Prop) : Exit → St → Prop
  | .exit i,s=>if i = id then Q .normal s else Q (.exit i) s
  | e,s=>Q e s
def noG (Q : Exit → St → Prop) : Exit → St → Prop
  | .goto _,_=>False
  | e,s=>Q e s
def keepL (m : List (Nat × AV)) : List Nat → List (Nat × AV)
  | []=>[]
  | t :: r=>match look m t with
    | some v=>(t,v) :: keepL m r
    | none=>keepL m r
def St.keep (l : List Nat) (s : St) : St:={ s with tm:=keepL s.tm l }
def dstOk (ops : Array Oper) (nt : Nat) : Bool:=ops.toList.all fun o=>match o.dst with | some k=>decide (k < nt) | none=>true
def backOk (ops : Array Oper) : Bool:=ops.toList.zipIdx.all fun (o,j)=>o.after.toList.all fun e=>!Region.binds .any e || decide (e.on < j)
section
variable {P : Program}
theorem wpQ_mono {nid : Nat} {s : St} {q : Q} : ∀ {K K' : AV → Wr → Prop},wpQ P nid s q K → (∀ v wr,K v wr → K' v wr) → wpQ P nid s q K':=by
  induction q with
  | done v wr=>intro K K' h hk; exact hk _ _ h
  | call g f args=>
    intro K K' h hk
    cases g with
    | none=>
      obtain ⟨H,r,H',h1,h2,h3,h4,h5,R,hR,h6⟩:=h
      exact ⟨H,r,H',h1,h2,h3,h4,h5,R,hR,hk _ _ h6⟩
    | some c=>
      obtain ⟨r,h1,h2,h3⟩:=h
      exact ⟨r,h1,h2,hk _ _ h3⟩
  | need p k ih=>intro K K' h hk; exact ⟨h.1,ih h.2 hk⟩
  | slot t k ih=>
    intro K K' h hk
    simp only [wpQ] at h ⊢
    split
    · rename_i v hv
      rw [hv] at h
      exact ih v h hk
    · rename_i hv
      rw [hv] at h
      exact h
  | obj id k ih=>
    intro K K' h hk
    simp only [wpQ] at h ⊢
    split
    · rename_i v hv
      rw [hv] at h
      exact ih v h hk
    · rename_i hv
      rw [hv] at h
      exact h
  | any p k ih=>intro K K' h hk b hb; exact ih b (h b hb) hk
  | ins id j a u=>
    intro K K' h hk
    obtain ⟨es,n,hl,h1,h2⟩:=wpI_some h
    show wpI _ _
    rw [hl]
    exact ⟨h1,hk _ _ h2⟩
  | bad=>intro K K' h hk; exact h
theorem wpQD_mono {nid : Nat} {s : St} {q : Q} {rs : List Ky} {K K' : List Ky → AV → Wr → Prop} (h : wpQD P nid s q rs K) (hk : ∀ rs v wr,K rs v wr → K' rs v wr) : wpQD P nid s q rs K':=by
  induction q generalizing rs with
  | done v wr=>exact hk _ _ _ h
  | call g f args=>
    cases g with
    | none=>
      obtain ⟨H,r,H',h1,h2,h3,h4,h5,R,hR,h6⟩:=h
      exact ⟨H,r,H',h1,h2,h3,h4,h5,R,hR,hk _ _ _ h6⟩
    | some c=>
      obtain ⟨r,h1,h2,h3⟩:=h
      exact ⟨r,h1,h2,hk _ _ _ h3⟩
  | need p k ih=>exact ⟨h.1,ih h.2⟩
  | slot t k ih=>
    simp only [wpQD] at h ⊢
    split
    · rename_i v hv
      rw [hv] at h
      exact ih v h
    · rename_i hv
      rw [hv] at h
      exact h
  | obj id k ih=>
    simp only [wpQD] at h ⊢
    split
    · rename_i v hv
      rw [hv] at h
      exact ih v h
    · rename_i hv
      rw [hv] at h
      exact h
  | any p k ih=>exact h
  | ins id j a u=>
    obtain ⟨es,n,hl,h1,h2⟩:=wpI_some h
    show wpI _ _
    rw [hl]
    exact ⟨h1,hk _ _ _ h2⟩
  | bad=>exact h
end
instance (i : TI) : Decidable i.known:=by unfold TI.known; split <;> infer_instance
section
variable {P : Program} {T : Nat → TI} {B : Base} {Q : Exit → St → Prop} {s : St}
theorem look_keep {m : List (Nat × AV)} {t : Nat} {v : AV} : ∀ {l : List Nat},look (keepL m l) t = some v → look m t = some v
  | [],h=>by simp [keepL,look] at h
  | k :: l,h=>by
    simp only [keepL] at h
    cases hk : look m k with
    | none=>rw [hk] at h; exact look_keep h
    | some u=>
      rw [hk] at h
      simp only [look] at h
      split at h
      · rename_i e
        injection h with h
        subst h
        rw [e]
        exact hk
      · exact look_keep h
theorem Core.keep {D : Nat → Prop} {a : Act} {w : World} {x : Cx} (l : List Nat) (h : Core B D s a w x) : Core B D (s.keep l) a w x:=
  ⟨h.h,fun t u ht=>h.t t u (look_keep ht),h.n,h.d,h.tr,h.mo,h.lo,h.ln,h.dom⟩
theorem SRel.keep {a : Act} {w : World} (l : List Nat) (h : SRel B s a w) : SRel B (s.keep l) a w:=let ⟨x,h⟩:=h; ⟨x,h.keep l⟩
theorem VC.skip (h : Q .normal s) : VC P B .skip Q s:=fun a w hs=>wpIn_skip ⟨s,h,hs⟩
theorem VC.label {l : Nat} (h : Q .normal s) : VC P B (.label l) Q s:=fun a w hs=>wpIn_label ⟨s,h,hs⟩
theorem VC.exit {id : Nat} (h : Q (.exit id) s) : VC P B (.exit id) Q s:=fun a w hs=>wpIn_exit ⟨s,h,hs⟩
theorem VC.ret (h : Q .ret s) : VC P B .ret Q s:=fun a w hs=>wpIn_ret ⟨s,h,hs⟩
theorem VC.mono {c : Code} {Q' : Exit → St → Prop} (h : VC P B c Q s) (hq : ∀ e s,Q e s → Q' e s) : VC P B c Q' s:=
  fun a w hs=>wpIn_mono (h a w hs) fun e a' w' ⟨s',h1,h2⟩=>⟨s',hq _ _ h1,h2⟩
theorem VC.seq {x y : Code} (h : VC P B x (thn (VC P B y Q) Q) s) : VC P B (.seq x y) Q s:=fun a w hs=>by
  refine wpIn_seq (wpIn_mono (h a w hs) ?_)
  rintro e a' w' ⟨s',h1,h2⟩
  cases e <;> first | exact h1 a' w' h2 | exact ⟨s',h1,h2⟩
theorem VC.block {id : Nat} {c : Code} (h : VC P B c (inBk id Q) s) : VC P B (.block id c) Q s:=fun a w hs=>by
  refine wpIn_block (wpIn_mono (h a w hs) ?_)
  rintro e a' w' ⟨s',h1,h2⟩
  cases e with
  | exit i=>
    simp only [inBk] at h1
    simp only [Exit.inBlock]
    split
    · rename_i e
      rw [if_pos e] at h1
      exact ⟨s',h1,h2⟩
    · rename_i e
      rw [if_neg e] at h1
      exact ⟨s',h1,h2⟩
  | _=>exact ⟨s',h1,h2⟩
theorem VC.scope {c : Code} (h : VC P B c (noG Q) s) : VC P B (.scope c) Q s:=fun a w hs=>by
  refine wpIn_scope_straight (wpIn_mono (h a w hs) ?_)
  rintro e a' w' ⟨s',h1,h2⟩
  cases e with
  | goto l=>exact h1.elim
  | _=>exact ⟨s',h1,h2⟩
theorem VC.cond {c : Operand} {x y : Code} {t : Nat} {b : Bool} (hc : c = .tmp t) (hl : look s.tm t = some (.raw (.bool b))) (ht : b = true → VC P B x Q s) (hf : b = false → VC P B y Q s) : VC P B (.cond c x y) Q s:=fun a w hs=>by
  obtain ⟨x0,hC⟩:=hs
  have:=(hC.t t _ hl).rawEq
  subst hc
  exact wpIn_cond_split (t:=b) this (fun h=>ht h a w ⟨x0,hC⟩) (fun h=>hf h a w ⟨x0,hC⟩)
theorem VC.regionE {E : EvT} (hE : EvOk P T E) {id : Nat} {ops : Array Oper} (hd : dstOk ops s.nt = true) (h : runOps E P T (dstsOf ops) ops.toList 0 s fun s'=>Q .normal s') : VC P B (.region id ops false) Q s:=fun a w hs=>by
  obtain ⟨x,hC⟩:=hs
  refine wpIn_region ?_
  have hd : (ops.all fun o=>match o.dst with | some k=>decide (k < s.nt) | none=>true) = true:=by rw [← Array.all_toList]; exact hd
  have:=runOps_s (nx:=s.nx) (Qx:=fun e a' w'=>∃ s',Q e s' ∧ SRel B s' a' w') hE hd (fun s' a' w' x' hK hC'=>⟨s',hK,x',hC'⟩) ops.toList 0 s a w x rfl rfl rfl (by simpa using hC) h
  rw [List.range_eq_range',← Array.length_toList]
  exact this
theorem SRel.eqv {s s' : St} {a : Act} {w : World} (he : s.eqv s') (h : SRel B s a w) : SRel B s' a w:=by
  obtain ⟨x,hC⟩:=h
  have m : Mo w x s.hp w x s'.hp:=⟨fun _ h=>h,fun _ _ h=>h,fun _ _=>rfl,fun id _ ⟨t,cs,h⟩=>⟨⟨t,cs,(he.hp id).trans h⟩,rfl⟩,fun id g sz _ ⟨t,cs,h⟩=>⟨⟨t,cs,(he.hp id).trans h⟩,rfl,rfl⟩,fun id _ ⟨t,cs,h⟩=>⟨⟨t,cs,(he.hp id).trans h⟩,rfl⟩⟩
  have hh : HRel w x s'.hp:=⟨hC.h.okb,fun id o hl=>hC.h.dom id o ((he.hp id).trans hl),fun id t sz g els g' hl=>hC.h.gen id t sz g els g' ((he.hp id).trans hl),fun id t sz g els hl=>hC.h.gdm id t sz g els ((he.hp id).trans hl),
    fun id o b hl=>hC.h.liv id o b ((he.hp id).trans hl),fun id id' o o' b hl hl'=>hC.h.inj id id' o o' b ((he.hp id).trans hl) ((he.hp id').trans hl'),fun id o hl=>(hC.h.obj id o ((he.hp id).trans hl)).mono m rfl rfl (fun _ _=>rfl)⟩
  refine ⟨x,hh,fun t u ht=>(hC.t t u ((he.tm t).trans ht)).mono m,hC.n.trans he.nt,hC.d,?_,hC.mo.trans m,by rw [← he.lo]; exact hC.lo,by rw [← he.lo,← he.nx]; exact hC.ln,fun id g hd=>?_⟩
  · exact ⟨hC.tr.os,hC.tr.tape,hC.tr.output,hC.tr.size,hC.tr.keep,hC.tr.okx,fun id o b hl=>hC.tr.newb id o b ((he.hp id).trans hl)⟩
  · show id < s'.nx
    rw [← he.nx]
    exact hC.dom id g hd
theorem VC.regionDE {E : EvT} (hE : EvOk P T E) (hm : P.follows .mixedOrders = true) {id : Nat} {ops : Array Oper} (hd : dstOk ops s.nt = true) (hb : backOk ops = true) (h : runD E P T (dstsOf ops) ops.toList 0 s [] fun recs s'=>ordOk (befs ops.toList []) recs = true ∧ Q .normal s') : VC P B (.region id ops true) Q s:=fun a w hs=>by
  obtain ⟨x,hC⟩:=hs
  have hd : (ops.all fun o=>match o.dst with | some k=>decide (k < s.nt) | none=>true) = true:=by rw [← Array.all_toList]; exact hd
  have hb : (ops.toList.zipIdx.all fun (o,j)=>o.after.all fun e=>!Region.binds .any e || decide (e.on < j)) = true:=by
    simp only [← Array.all_toList]
    exact hb
  exact regionD_s hE hm hd hb hC h fun s' s'' a' w' x' hK he hC'=>⟨s'',hK,SRel.eqv he ⟨x',hC'⟩⟩
theorem runOps_mono {E : EvT} {dsts : List (Option Nat)} {K K' : St → Prop} (hk : ∀ s,K s → K' s) : ∀ {ops : List Oper} {i : Nat} {s : St},runOps E P T dsts ops i s K → runOps E P T dsts ops i s K'
  | [],i,s,h=>hk _ h
  | o :: r,i,s,h=>wpQ_mono h fun v wr h=>runOps_mono hk h
theorem runD_mono {E : EvT} {dsts : List (Option Nat)} {K K' : List (List Ky × List Ky) → St → Prop} (hk : ∀ a s,K a s → K' a s) : ∀ {ops : List Oper} {i : Nat} {s : St} {acc : List (List Ky × List Ky)},runD E P T dsts ops i s acc K → runD E P T dsts ops i s acc K'
  | [],i,s,acc,h=>hk _ _ h
  | o :: r,i,s,acc,h=>wpQD_mono h fun rs v wr h=>runD_mono hk h
theorem VC.unkeep {c : Code} {l : List Nat} (h : VC P B c Q (s.keep l)) : VC P B c Q s:=fun a w hs=>h a w (hs.keep l)
theorem VC.seqRE {E : EvT} (hE : EvOk P T E) (ds : List (Option Nat)) (l : List Nat) {id : Nat} {ops : List Oper} {y : Code} (hds : ops.map (·.dst) = ds) (hd : dstOk ops.toArray s.nt = true) (h : ∀ K : St → Prop,(∀ s',VC P B y Q s' → K s') → runOps E P T ds ops 0 s fun s'=>K (s'.keep l)) : VC P B (.seq (.region id ops.toArray false) y) Q s:=by
  subst hds
  exact VC.seq (VC.regionE hE hd (runOps_mono (fun s' h=>VC.unkeep h) (h (fun s'=>VC P B y Q s') (fun _ h=>h))))
theorem VC.seqDE {E : EvT} (hE : EvOk P T E) (hm : P.follows .mixedOrders = true) (ds : List (Option Nat)) (l : List Nat) {id : Nat} {ops : List Oper} {y : Code} (hds : ops.map (·.dst) = ds) (hd : dstOk ops.toArray s.nt = true) (hb : backOk ops.toArray = true)
    (h : ∀ K : St → Prop,(∀ s',VC P B y Q s' → K s') → runD E P T ds ops 0 s [] fun recs s'=>ordOk (befs ops []) recs = true ∧ K (s'.keep l)) : VC P B (.seq (.region id ops.toArray true) y) Q s:=by
  subst hds
  exact VC.seq (VC.regionDE hE hm hd hb (runD_mono (fun _ s' h=>⟨h.1,VC.unkeep h.2⟩) (h (fun s'=>VC P B y Q s') (fun _ h=>h))))
def Sub (s s' : St) : Prop:=∀ B a w,SRel B s a w → SRel B s' a w
theorem Sub.refl (s : St) : Sub s s:=fun _ _ _ h=>h
theorem Sub.trans {s s' s'' : St} (h : Sub s s') (k : Sub s' s'') : Sub s s'':=fun B a w hs=>k B a w (h B a w hs)
theorem VC.sub {c : Code} {s' : St} (hs : Sub s s') (h : VC P B c Q s') : VC P B c Q s:=fun a w hr=>h a w (hs B a w hr)
def St.wf (s : St) : Bool:=(s.tm.all fun p=>p.2.in3 fun k=>decide (k < s.nx)) && s.hp.all fun p=>decide (p.1 < s.nx) && p.2.inD fun k=>decide (k < s.nx)
theorem look_all {α : Type} {p : Nat × α → Bool} : ∀ {l : List (Nat × α)} {k : Nat} {v : α},l.all p = true → look l k = some v → p (k,v) = true
  | [],k,v,_,h=>by simp [look] at h
  | (j,u) :: l,k,v,hp,h=>by
    simp only [List.all_cons,Bool.and_eq_true] at hp
    simp only [look] at h
    split at h
    · rename_i e
      injection h with h
      subst h
      subst e
      exact hp.1
    · exact look_all hp.2 h
theorem Sub.of {s s' : St} (h1 : ∀ p ∈ s'.tm,look s.tm p.1 = some p.2) (h2 : ∀ p ∈ s'.hp,look s.hp p.1 = some p.2) (h3 : s'.nt = s.nt ∧ s'.lo = s.lo ∧ s'.lo ≤ s'.nx) (h4 : s'.wf = true) : Sub s s':=fun B a w ⟨x,hC⟩=>by
  simp only [St.wf,Bool.and_eq_true] at h4
  have hS:=subH_of h2
  have hsub:=hC.h.sub hS (fun k=>decide (k < s'.nx)) (fun id o hl=>by
    have:=look_all h4.2 hl
    simp only [Bool.and_eq_true] at this
    exact this)
  have hm:=Mo.sub (w:=w) (x:=x.only fun k=>decide (k < s'.nx)) hS
  have hmo : Mo B.w B.x B.hp w (x.only fun k=>decide (k < s'.nx)) s'.hp:=by
    have m1:=hC.mo
    refine ⟨m1.ok,fun id g hd=>⟨m1.dom id g hd,?_⟩,m1.ag,fun id hd ⟨t,cs,h⟩=>m1.box id hd ⟨t,cs,hS _ _ h⟩,fun id g sz hd ⟨t,cs,h⟩=>m1.row id g sz hd ⟨t,cs,hS _ _ h⟩,fun id hd ⟨t,cs,h⟩=>m1.mp id hd ⟨t,cs,hS _ _ h⟩⟩
    have:=hC.lo id g hd
    rw [← h3.2.1] at this
    simp only [decide_eq_true_eq]
    omega
  refine ⟨_,hsub,fun t u ht=>?_,by rw [h3.1]; exact hC.n,hC.d,?_,hmo,by rw [h3.2.1]; exact hC.lo,h3.2.2,fun id g hd=>by simpa using hd.2⟩
  · have hlk : look s.tm t = some u:=by
      have : ∀ (l : List (Nat × AV)),(∀ p ∈ l,look s.tm p.1 = some p.2) → look l t = some u → look s.tm t = some u:=by
        intro l
        induction l with
        | nil=>intro _ h; simp [look] at h
        | cons p l ih=>
          obtain ⟨j,v⟩:=p
          intro hp h
          simp only [look] at h
          split at h
          · rename_i e
            injection h with h
            subst h
            subst e
            exact hp (t,v) (by simp)
          · exact ih (fun p hp'=>hp p (by simp [hp'])) h
      exact this _ h1 ht
    exact ((hC.t t u hlk).in3_ (look_all h4.1 ht)).mono hm
  · exact ⟨hC.tr.os,hC.tr.tape,hC.tr.output,hC.tr.size,hC.tr.keep,hC.tr.okx,fun id o b hl=>hC.tr.newb id o b (hS _ _ hl)⟩
theorem Sub.adopt {s : St} {b j e sz : Nat} {t : TypeId} {cs : List AV} (hb : look s.hp b = some (.box t cs)) (hj : cs[j]? = some (.sl true [])) :
    Sub s { s with hp:=Cb b (.box t (cs.set j (.row s.nx 0 sz 0 0))) (Cb s.nx (.row e sz 0 []) s.hp),nx:=s.nx + 1 }:=fun B a w ⟨x,hC⟩=>by
  have hfr : ∀ g,¬ x.dom s.nx g:=fun g hd=>by have:=hC.dom _ _ hd; simp at this
  have st:=Stp.add (w':=w) hC.h hfr (.row e sz 0 []) none 0 rfl rfl rfl (Nat.le_refl _) (fun _ _=>rfl) (fun b hb=>by cases hb) (fun m=>⟨fun i cs h=>by simp at h,.inl ⟨by simp [Cx.put],rfl⟩⟩)
  have hbn : b ≠ s.nx:=fun e=>hfr 0 (e ▸ hC.h.dom _ _ hb)
  have hb' : look (Cb s.nx (.row e sz 0 []) s.hp) b = some (.box t cs):=by rw [look_setA,if_neg hbn]; exact hb
  obtain ⟨bb,vs,h1,h2,h3,h4,h5⟩:=st.h.obj b _ hb'
  have hlt:=lt_of_get hj
  have hval:=(h5 j _ hj)
  have st2:=Stp.boxSet st.h hb' h1 h2 (cs':=cs.set j (.row s.nx 0 sz 0 0)) (vs':=vs) (by simpa using h3) h4 (fun i u hu=>by
    rw [List.getElem?_set] at hu
    split at hu
    · rename_i e2
      subst e2
      injection hu with hu
      subst hu
      generalize vs.getD j undef = val at hval
      cases hval with
      | dat hd=>
        cases hd with
        | sl _ _ A c sz' vals hc hm ht=>
          have:=ht rfl
          simp only [List.length_nil] at this
          subst this
          exact .row _ _ _ _ _ _ _ (.inr ⟨rfl,.inl rfl⟩) (Nat.le_refl _) fun _=>.inl ⟨rfl,rfl,by simp [Cx.put]⟩
    · exact h5 i u hu)
  rw [setRow_self w bb vs t (0,0) h2] at st2
  have st3:=st.trans st2
  refine ⟨_,st3.h,fun t u ht=>(hC.t t u ht).mono st3.mo,hC.n,hC.d.step hC.h st3.tr,hC.tr.trans st3.tr,hC.mo.trans st3.mo,hC.lo,Nat.le_succ_of_le hC.ln,fun id g hd=>?_⟩
  show id < s.nx + 1
  rcases dom_put hd with h | h
  · have:=hC.dom _ _ h
    omega
  · omega
theorem Sub.adoptT {s : St} {k e sz : Nat} (hj : look s.tm k = some (.sl true [])) : Sub s { s with tm:=Cb k (.row s.nx 0 sz 0 0) s.tm,hp:=Cb s.nx (.row e sz 0 []) s.hp,nx:=s.nx + 1 }:=fun B a w ⟨x,hC⟩=>by
  have hfr : ∀ g,¬ x.dom s.nx g:=fun g hd=>by have:=hC.dom _ _ hd; simp at this
  have st:=Stp.add (w':=w) hC.h hfr (.row e sz 0 []) none 0 rfl rfl rfl (Nat.le_refl _) (fun _ _=>rfl) (fun b hb=>by cases hb) (fun m=>⟨fun i cs h=>by simp at h,.inl ⟨by simp [Cx.put],rfl⟩⟩)
  refine ⟨_,st.h,fun t u ht=>?_,hC.n,hC.d.step hC.h st.tr,hC.tr.trans st.tr,hC.mo.trans st.mo,hC.lo,Nat.le_succ_of_le hC.ln,fun id g hd=>?_⟩
  · rw [look_setA] at ht
    split at ht
    · rename_i e1
      subst e1
      injection ht with ht
      subst ht
      have hval:=hC.t _ _ hj
      generalize a.tmps.getD t undef = val at hval
      cases hval with
      | dat hd=>
        cases hd with
        | sl _ _ A c sz' vals hc hm ht=>
          have:=ht rfl
          simp only [List.length_nil] at this
          subst this
          exact .row _ _ _ _ _ _ _ (.inr ⟨rfl,.inl rfl⟩) (Nat.le_refl _) fun _=>.inl ⟨rfl,rfl,by simp [Cx.put]⟩
    · exact (hC.t t u ht).mono st.mo
  · show id < s.nx + 1
    rcases dom_put hd with h | h
    · have:=hC.dom _ _ h
      omega
    · omega
theorem Sub.freeze (P : Program) {s : St} {b j id g sz lo n : Nat} {t rt : TypeId} {cs : List AV} {els : List (List AV)} (hb : look s.hp b = some (.box t cs)) (hj : cs[j]? = some (.row id g sz lo n)) (hr : look s.hp id = some (.row rt sz g els)) (hle : lo + n ≤ els.length) (hs : 0 < sz) :
    Sub s { s with hp:=Cb b (.box t (cs.set j (.sl false ((els.drop lo).take n)))) (delA id s.hp) }:=fun B a w ⟨x,hC⟩=>by
  have hne : b ≠ id:=fun e=>by rw [e,hr] at hb; cases hb
  have hlt:=lt_of_get hj
  obtain ⟨bb,vs,h1,h2,h3,h4,h5⟩:=hC.h.obj b _ hb
  obtain ⟨v,ids,hnorm,hids,hv⟩ : ∃ v ids,Norm w x s.hp (.row id g sz lo n) v (vs.getD j undef) ids ∧ ids = [id] ∧ v = .sl false ((els.drop lo).take n):=by
    obtain ⟨v,ids,h6,h7⟩:=normQ_s (P:=P) (nid:=0) (s:=s) (K:=fun _ _=>True) (k:=fun v wr=>.need (v = .sl false ((els.drop lo).take n) ∧ wr = [(id,none)]) (.done v wr)) hC (h5 j _ hj) (by
      simp only [normQ,wpQ,hr]
      exact ⟨⟨trivial,trivial,hle,hs⟩,⟨trivial,trivial⟩,trivial⟩)
    obtain ⟨⟨e1,e2⟩,_⟩:=h7
    refine ⟨v,ids,h6,?_,e1⟩
    cases ids with
    | nil=>simp at e2
    | cons i r=>
      simp only [List.map_cons,List.cons.injEq,Prod.mk.injEq,and_true] at e2
      obtain ⟨rfl,e3⟩:=e2
      rw [List.map_eq_nil_iff] at e3
      rw [e3]
  subst hids
  subst hv
  have st:=Stp.del hC.h hr
  have hb' : look (delA id s.hp) b = some (.box t cs):=by rw [look_delA,if_neg hne]; exact hb
  have hd:=hnorm.2 (x.free id) st.mo.ok (fun i hi _ bl hbl=>by simp at hi; subst hi; exact .inr hbl)
  have st2:=Stp.boxSet st.h hb' (show (x.free id).β b = some bb from h1) h2 (cs':=cs.set j (.sl false ((els.drop lo).take n))) (vs':=vs) (by simpa using h3) h4 (fun i u hu=>by
    rw [List.getElem?_set] at hu
    split at hu
    · rename_i e2
      subst e2
      injection hu with hu
      subst hu
      exact .dat hd
    · exact (h5 i u hu).mono st.mo)
  rw [setRow_self w bb vs t (0,0) h2] at st2
  have st3:=st.trans st2
  exact ⟨_,st3.h,fun t u ht=>(hC.t t u ht).mono st3.mo,hC.n,hC.d.step hC.h st3.tr,hC.tr.trans st3.tr,hC.mo.trans st3.mo,hC.lo,hC.ln,hC.dom⟩
theorem Sub.freezeT (P : Program) {s : St} {k id g sz lo n : Nat} {rt : TypeId} {els : List (List AV)} (hj : look s.tm k = some (.row id g sz lo n)) (hr : look s.hp id = some (.row rt sz g els)) (hle : lo + n ≤ els.length) (hs : 0 < sz) :
    Sub s { s with tm:=Cb k (.sl false ((els.drop lo).take n)) s.tm,hp:=delA id s.hp }:=fun B a w ⟨x,hC⟩=>by
  obtain ⟨v,ids,h6,h7⟩:=normQ_s (P:=P) (nid:=0) (s:=s) (K:=fun _ _=>True) (k:=fun v wr=>.need (v = .sl false ((els.drop lo).take n) ∧ wr = [(id,none)]) (.done v wr)) hC (hC.t k _ hj) (by
    simp only [normQ,wpQ,hr]
    exact ⟨⟨trivial,trivial,hle,hs⟩,⟨trivial,trivial⟩,trivial⟩)
  obtain ⟨⟨e1,e2⟩,_⟩:=h7
  subst e1
  have hids : ids = [id]:=by
    cases ids with
    | nil=>simp at e2
    | cons i r=>
      simp only [List.map_cons,List.cons.injEq,Prod.mk.injEq,and_true] at e2
      obtain ⟨rfl,e3⟩:=e2
      rw [List.map_eq_nil_iff] at e3
      rw [e3]
  subst hids
  have st:=Stp.del hC.h hr
  have hd:=h6.2 (x.free id) st.mo.ok (fun i hi _ bl hbl=>by simp at hi; subst hi; exact .inr hbl)
  refine ⟨_,st.h,fun t u ht=>?_,hC.n,hC.d.step hC.h st.tr,hC.tr.trans st.tr,hC.mo.trans st.mo,hC.lo,hC.ln,hC.dom⟩
  rw [look_setA] at ht
  split at ht
  · rename_i e1
    subst e1
    injection ht with ht
    subst ht
    exact .dat hd
  · exact (hC.t t u ht).mono st.mo
theorem VC.loop {c : Code} {X : Type} (S : X → St) (I : X → Prop) (μ : X → Nat) (h0 : ∃ x,I x ∧ Sub s (S x)) (round : ∀ x,I x → VC P B c (thn (fun s'=>∃ x',I x' ∧ μ x' < μ x ∧ Sub s' (S x')) Q) (S x)) : VC P B (.loop c) Q s:=fun a w hs=>by
  let J : Nat → Act → World → Prop:=fun n a w=>∃ x,I x ∧ μ x = n ∧ SRel B (S x) a w
  have least : ∀ a w,(∃ n,J n a w) → ∃ n,J n a w ∧ ∀ m,J m a w → n ≤ m:=by
    intro a w ⟨n,hn⟩
    induction n using Nat.strongRecOn with
    | _ n ih=>
      by_cases h : ∃ m,m < n ∧ J m a w
      · obtain ⟨m,h1,h2⟩:=h
        exact ih m h1 h2
      · exact ⟨n,hn,fun m hm=>Nat.le_of_not_lt fun hlt=>h ⟨m,hlt,hm⟩⟩
  open Classical in
  refine wpIn_loop (fun a w=>∃ n,J n a w) (fun a w=>if h : ∃ n,J n a w then Classical.choose (least a w h) else 0) ?_ ?_
  · obtain ⟨x,h1,h2⟩:=h0
    exact ⟨_,x,h1,rfl,h2 B a w hs⟩
  · intro a w hJ
    obtain ⟨h1,h2⟩:=Classical.choose_spec (least a w hJ)
    obtain ⟨x,hx1,hx2,hx3⟩:=h1
    refine wpIn_mono (round x hx1 a w hx3) ?_
    rintro e a' w' ⟨s',h3,h4⟩
    cases e with
    | normal=>
      obtain ⟨x',h5,h6,h7⟩:=h3
      have hJ' : J (μ x') a' w':=⟨x',h5,rfl,h7 B a' w' h4⟩
      refine ⟨⟨_,hJ'⟩,?_⟩
      show (if h : ∃ n,J n a' w' then Classical.choose (least a' w' h) else 0) < (if h : ∃ n,J n a w then Classical.choose (least a w h) else 0)
      rw [dif_pos ⟨_,hJ'⟩,dif_pos hJ]
      have h8:=(Classical.choose_spec (least a' w' ⟨_,hJ'⟩)).2 _ hJ'
      omega
    | _=>exact ⟨s',h3,h4⟩
def resV (T : Nat → TI) (s : St) : ResultVar → Option AV
  | .tmp t=>look s.tm t
  | .cell p t=>match look s.tm p with
    | some (.ref id off)=>match look s.hp id with
      | some (.box _ cs)=>if off + (T t).sz ≤ cs.length ∧ (T t).known ∧ ((T t).agg = false → (T t).sz = 1) then some (takeV T t cs off) else none
      | _=>none
    | _=>none
def resL (T : Nat → TI) (s : St) : List ResultVar → Option (List AV)
  | []=>some []
  | r :: l=>match resV T s r,resL T s l with
    | some v,some m=>some (v :: m)
    | _,_=>none
def resAV : List AV → AV
  | [v]=>v
  | l=>.tup l
end
section
variable {P : Program} {T : Nat → TI} {B : Base} {s : St}
def resS (tmps : Array Value) : ResultVar → Sem Value
  | .tmp t=>pure (tmps.getD t undef)
  | .cell a t=>do loadVar t (← asAddr (tmps.getD a undef))
theorem results_eq (fn : Func) (tmps : Array Value) : results fn tmps = (do let vs ← fn.results.mapM (resS tmps); pure (if h : vs.size = 1 then vs[0] else .tuple vs)):=rfl
theorem res_run (hT : TabOk P T) {D : Nat → Prop} {a : Act} {w : World} {x : Cx} (hC : Core B D s a w x) : ∀ {l : List ResultVar} {us : List AV},resL T s l = some us →
    ∃ vals,(l.mapM (resS a.tmps)).run P w = .ok vals w ∧ VRels w x s.hp us vals
  | [],us,h=>by
    simp only [resL,Option.some.injEq] at h
    subst h
    exact ⟨[],rfl,.nil⟩
  | r :: l,us,h=>by
    simp only [resL] at h
    split at h
    · rename_i v m hv hm
      injection h with h
      subst h
      obtain ⟨vals,h1,h2⟩:=res_run hT hC hm
      have key : ∃ val,(resS a.tmps r).run P w = .ok val w ∧ VRel w x s.hp v val:=by
        cases r with
        | tmp t=>exact ⟨_,rfl,hC.t t v hv⟩
        | cell p t=>
          simp only [resV] at hv
          split at hv
          · rename_i id off hp
            split at hv
            · rename_i bt cs hob
              split at hv
              · rename_i hcond
                injection hv with hv
                subst hv
                obtain ⟨hfit,hk,hz⟩:=hcond
                have h3:=hC.t p _ hp
                obtain ⟨b,vs,hb,hw,hvs,hone,hrel⟩:=box_of hC hob
                generalize hq : a.tmps.getD p undef = pv at h3
                cases h3 with
                | dat h=>cases h
                | ref _ _ q hid hh=>
                  obtain ⟨b',hb',rfl⟩:=hh ⟨_,_,hob⟩
                  rw [hb] at hb'
                  injection hb' with hb'
                  subst hb'
                  obtain ⟨r,hr,hv'⟩:=load_s (P:=P) (hp:=s.hp) (x:=x) hT hk hz (vs:=fun j=>vs.getD (off + j) undef) (p:=⟨b,off,none⟩) (cs:=cs) (off:=off) (fun j hj=>⟨cell_getD hw (by omega),hone _ (by omega)⟩) (fun j u hj hu=>hrel _ _ hu) hfit
                  refine ⟨r,?_,hv'⟩
                  show ((do loadVar t (← asAddr (a.tmps.getD p undef))) : Sem Value).run P w = _
                  rw [hq]
                  simp [asAddr,hr]
              · cases hv
            · cases hv
          · cases hv
      obtain ⟨val,h3,h4⟩:=key
      refine ⟨val :: vals,?_,.cons h4 h2⟩
      rw [List.mapM_cons]
      simp only [Sem.run_bind,h3,h1,Result.andThen_ok,Sem.run_pure]
    · cases h
def Post (T : Nat → TI) (rs : List ResultVar) (r : AV) (H' : Hp) (e : Exit) (s : St) : Prop:=
  (match e with | .normal=>True | .ret=>True | _=>False) ∧ (resL T s rs).map resAV = some r ∧ (∀ p ∈ H',look s.hp p.1 = some p.2) ∧ (r.in3 H'.has && H'.all fun p=>p.2.inD H'.has) = true
def enumA : Nat → List AV → List (Nat × AV)
  | _,[]=>[]
  | i,u :: l=>(i,u) :: enumA (i + 1) l
theorem look_enumA : ∀ (l : List AV) (i t : Nat) (u : AV),look (enumA i l) t = some u → i ≤ t ∧ l[t - i]? = some u
  | [],i,t,u,h=>by simp [enumA,look] at h
  | v :: l,i,t,u,h=>by
    simp only [enumA,look] at h
    split at h
    · rename_i e
      injection h with h
      subst e
      exact ⟨Nat.le_refl _,by simp [h]⟩
    · rename_i e
      obtain ⟨h1,h2⟩:=look_enumA l (i + 1) t u h
      refine ⟨by omega,?_⟩
      rw [show t - i = (t - (i + 1)) + 1 by omega]
      simpa using h2
theorem Ctr.of_ (hT : TabOk P T) {f : FuncId} {fn : Func} {c : Code} (hf : P.funcs[f]? = some fn) (hb : fn.body = some c) (hcall : ∀ vals w,(callFunc f vals).run P w = .ok (.enter f vals) w) {args : List AV} {H H' : Hp} {r : AV} (n nt : Nat) (hnt : fn.ntmps = nt) (rs : List ResultVar) (hrs : fn.results.toList = rs)
    (hn : decide (args.length ≤ nt) = true) (hids : (H.all fun p=>decide (p.1 < n)) = true) (h : ∀ B,B.rd = none → VC P B c (Post T rs r H') ⟨enumA 0 args,H,n,nt,n⟩) : Ctr P f args H r H':=by
  subst hnt
  subst hrs
  have hn:=of_decide_eq_true hn
  refine ⟨hcall,fun w x vals hH hdom hsz hargs=>callsIn_wide.1 (callsIn_of_wp_marks (F:=Fence.wide) (n:=0) hf hb trivial ?_)⟩
  have hlt : ∀ id,Hp.has H id = true → id < n:=fun id hid=>by
    obtain ⟨o,ho⟩:=Option.isSome_iff_exists.1 hid
    have:=look_all hids ho
    simpa using this
  let B : Base:=⟨w,x,H,none⟩
  have hC : Core B (· < n) ⟨enumA 0 args,H,n,fn.ntmps,n⟩ { tmps:=vals ++ Array.replicate (fn.ntmps - vals.size) undef,defers:=[] } w x:=by
    refine ⟨hH,fun t u ht=>?_,by simp; omega,Mk.nil _ _ _,Tr.refl _ _ _,Mo.refl _ _ _,fun id g hd=>hlt id (hdom id g hd),Nat.le_refl _,fun id g hd=>hlt id (hdom id g hd)⟩
    obtain ⟨_,h2⟩:=look_enumA args 0 t u ht
    rw [Nat.sub_zero] at h2
    have h3:=hargs t u h2
    have h4:=lt_of_get h2
    have e : (vals ++ Array.replicate (fn.ntmps - vals.size) undef).getD t undef = vals.getD t undef:=by
      simp only [Array.getD_eq_getD_getElem?]
      rw [Array.getElem?_append_left (by omega)]
    show VRel w x H u ((vals ++ Array.replicate (fn.ntmps - vals.size) undef).getD t undef)
    rw [e]
    exact h3
  refine wpIn_mono (h B rfl _ w ⟨x,hC⟩) ?_
  rintro e a' w0 ⟨s',⟨he,hres,hH',hin⟩,x',hC0⟩
  obtain ⟨Ds,hds,hnd,hDs,_⟩:=hC0.d
  have fin : ∀ w',Shut Ds w0 w' → ∃ v,(results fn a'.tmps).run P w' = .ok v w' ∧ (fun (e : Ending) w'=>∃ v x',e = .returned v ∧ Stp w x H w' x' H' ∧ VRel w' x' H' r v ∧ ∀ id g,x'.dom id g → Hp.has H' id = true ∨ Hp.has H id = true) (.returned v) w':=by
    intro w' hsh
    have hC':=hC0.shut hDs hsh
    simp only [Bool.and_eq_true] at hin
    obtain ⟨us,hus,rfl⟩:=Option.map_eq_some_iff.1 hres
    obtain ⟨vs,hvs,hrel⟩:=res_run hT hC' hus
    have hlen:=hrel.len
    have e1 : (results fn a'.tmps).run P w' = .ok (if h : vs.toArray.size = 1 then vs.toArray[0] else .tuple vs.toArray) w':=by
      rw [results_eq,Array.mapM_eq_mapM_toList]
      simp [hvs]
    have hrun : ∃ v,(results fn a'.tmps).run P w' = .ok v w' ∧ VRel w' x' s'.hp (resAV us) v:=by
      refine ⟨_,e1,?_⟩
      cases hrel with
      | nil=>exact .tup [] #[] rfl (fun i u h=>by simp at h)
      | @cons u v us vs h1 h2=>
        cases h2 with
        | nil=>simpa [resAV] using h1
        | @cons u2 v2 us vs h3 h4=>
          have : ¬ (v :: v2 :: vs).toArray.size = 1:=by simp
          rw [dif_neg this]
          exact .tup _ _ (by simpa using hlen) (VRels.at_ (.cons h1 (.cons h3 h4)))
    obtain ⟨v,hr,hv⟩:=hrun
    have hS:=subH_of hH'
    have hHin : ∀ id o,look H' id = some o → Hp.has H' id = true ∧ o.inD (Hp.has H') = true:=fun id o hl=>⟨by simp [Hp.has,hl],by
      have:=look_all hin.2 hl
      exact this⟩
    have hsub:=hC'.h.sub hS (Hp.has H') hHin
    have hv2:=(hv.in3_ hin.1).mono (Mo.sub (w:=w') (x:=x'.only (Hp.has H')) hS)
    obtain ⟨xf,hxf⟩ : ∃ xf : Cx,xf = { ok:=x'.ok,dom:=fun k g=>(x'.dom k g ∧ Hp.has H' k = true) ∨ x.dom k g,β:=x'.β,γ:=x'.γ }:=⟨_,rfl⟩
    have hmf : Mo w' (x'.only (Hp.has H')) H' w' xf H':=by
      subst hxf
      exact ⟨fun _ h=>h,fun k g h=>Or.inl h,fun _ _=>rfl,fun _ _ h=>⟨h,rfl⟩,fun _ _ _ _ h=>⟨h,rfl,rfl⟩,fun _ _ h=>⟨h,rfl⟩⟩
    have hst : Stp w x H w' xf H':=by
      subst hxf
      have m1:=hC'.mo
      have t1:=hC'.tr
      refine ⟨⟨m1.ok,fun id g hd=>Or.inr hd,m1.ag,fun id hd ⟨t,cs,h⟩=>m1.box id hd ⟨t,cs,hS _ _ h⟩,fun id g sz hd ⟨t,cs,h⟩=>m1.row id g sz hd ⟨t,cs,hS _ _ h⟩,fun id hd ⟨t,cs,h⟩=>m1.mp id hd ⟨t,cs,hS _ _ h⟩⟩,
        ⟨t1.os,t1.tape,t1.output,t1.size,t1.keep,t1.okx,fun id o b hl=>t1.newb id o b (hS _ _ hl)⟩,
        ⟨hsub.okb,fun id o hl=>Or.inl (hsub.dom id o hl),fun id t sz g els g' hl hd=>?_,fun id t sz g els hl=>Or.inl (hsub.gdm id t sz g els hl),hsub.liv,hsub.inj,fun id o hl=>(hsub.obj id o hl).mono hmf rfl rfl (fun _ _=>rfl)⟩⟩
      rcases hd with h | h
      · exact hsub.gen id t sz g els g' hl h
      · exact hC'.h.gen id t sz g els g' (hS _ _ hl) (m1.dom _ _ h)
    have hdf : ∀ id g,xf.dom id g → Hp.has H' id = true ∨ Hp.has H id = true:=fun id g hd=>by
      subst hxf
      rcases hd with h | h
      · exact .inl h.2
      · exact .inr (hdom id g h)
    exact ⟨v,hr,v,xf,rfl,hst,hv2.mono hmf,hdf⟩
  have hlv:=leaves_marks (P:=P) (fn:=fn) (tmps:=a'.tmps) (R:=fun e w'=>∃ v x',e = .returned v ∧ Stp w x H w' x' H' ∧ VRel w' x' H' r v ∧ ∀ id g,x'.dom id g → Hp.has H' id = true ∨ Hp.has H id = true) (D0:=Ds) (w0:=w0) fin Ds w0 (fun _ h=>h) hnd (fun D hD=>(hDs D hD).1) ⟨rfl,rfl,rfl,rfl,fun _ _=>rfl⟩
  rw [← hds] at hlv
  cases e with
  | normal=>exact hlv
  | ret=>exact hlv
  | _=>exact he.elim
theorem Ctr.of (hT : TabOk P T) {f : FuncId} {fn : Func} {c : Code} (hf : P.funcs[f]? = some fn) (hb : fn.body = some c) (hcall : ∀ vals w,(callFunc f vals).run P w = .ok (.enter f vals) w) {args : List AV} {H H' : Hp} {r : AV} (n nt : Nat) (hnt : fn.ntmps = nt) (rs : List ResultVar) (hrs : fn.results.toList = rs)
    (hn : decide (args.length ≤ nt) = true) (hids : (H.all fun p=>decide (p.1 < n)) = true) (h : ∀ B,VC P B c (Post T rs r H') ⟨enumA 0 args,H,n,nt,n⟩) : Ctr P f args H r H':=
  Ctr.of_ hT hf hb hcall n nt hnt rs hrs hn hids fun B _=>h B
theorem VC.lastRE {E : EvT} {Q : Exit → St → Prop} (hE : EvOk P T E) (ds : List (Option Nat)) {id : Nat} {ops : List Oper} (hds : ops.map (·.dst) = ds) (hd : dstOk ops.toArray s.nt = true) (h : ∀ K : St → Prop,(∀ s',Q .normal s' → K s') → runOps E P T ds ops 0 s fun s'=>K s') : VC P B (.region id ops.toArray false) Q s:=by
  subst hds
  exact VC.regionE hE hd (h _ fun _ h=>h)
theorem VC.lastDE {E : EvT} {Q : Exit → St → Prop} (hE : EvOk P T E) (hm : P.follows .mixedOrders = true) (ds : List (Option Nat)) {id : Nat} {ops : List Oper} (hds : ops.map (·.dst) = ds) (hd : dstOk ops.toArray s.nt = true) (hb : backOk ops.toArray = true)
    (h : ∀ K : St → Prop,(∀ s',Q .normal s' → K s') → runD E P T ds ops 0 s [] fun recs s'=>ordOk (befs ops []) recs = true ∧ K s') : VC P B (.region id ops.toArray true) Q s:=by
  subst hds
  exact VC.regionDE hE hm hd hb (h _ fun _ h=>h)
def updL {α : Type} : List (Nat × α) → List (Nat × α) → List (Nat × α)
  | [],l=>l
  | (k,v) :: r,l=>updL r (Cb k v l)
end
section
variable {P : Program} {T : Nat → TI} {B : Base} {Q : Exit → St → Prop} {s : St}
def AV.short : AV → Prop
  | .sl _ els=>els.length ≤ 9223372036854775807
  | _=>True
def AV.shorts : AV → Prop
  | .agg cs=>∀ u ∈ cs,u.short
  | .sl _ els=>els.length ≤ 9223372036854775807 ∧ ∀ cs ∈ els,∀ u ∈ cs,u.short
  | _=>True
def AObj.shorts : AObj → Prop
  | .box _ cs=>∀ u ∈ cs,u.shorts
  | .row _ _ _ els=>els.length ≤ 9223372036854775807
  | .mp _ _=>True
theorem Dat.short {w : World} {ok : Nat → Prop} {u : AV} {v : Value} (h : Dat w ok u v) : u.short:=by
  cases h with
  | raw=>trivial
  | sl _ els A c sz vals hc hm=>exact Nat.le_trans hc hm
theorem VRel.short {w : World} {x : Cx} {hp : Hp} {u : AV} {v : Value} (h : VRel w x hp u v) : u.short:=by
  cases h with
  | dat h=>exact h.short
  | _=>trivial
theorem VRel.shorts_ {w : World} {x : Cx} {hp : Hp} {u : AV} {v : Value} (h : VRel w x hp u v) : u.shorts:=by
  cases h with
  | dat h=>
    have h0:=h.short
    cases h with
    | raw=>trivial
    | sl _ els A c sz vals hc hm ht hsz hA hcell hd=>
      refine ⟨h0,fun cs hcs u hu=>?_⟩
      obtain ⟨i,hi⟩:=List.getElem?_of_mem hcs
      obtain ⟨j,hj⟩:=List.getElem?_of_mem hu
      exact (hd i j cs u hi hj).short
  | agg cs vs hl h1 h2=>
    intro u hu
    obtain ⟨j,hj⟩:=List.getElem?_of_mem hu
    exact (h2 j u hj).short
  | _=>trivial
theorem HRel.shorts {w : World} {x : Cx} {hp : Hp} {id : Nat} {o : AObj} (h : HRel w x hp) (hl : look hp id = some o) : o.shorts:=by
  have:=h.obj id o hl
  cases o with
  | box t cs=>
    obtain ⟨b,vs,_,_,_,_,h5⟩:=this
    intro u hu
    obtain ⟨j,hj⟩:=List.getElem?_of_mem hu
    exact (h5 j u hj).shorts_
  | row t sz g els=>
    obtain ⟨_,⟨_,rfl⟩ | ⟨b,vs,_,_,_,h4,h5,_⟩⟩:=this
    · exact Nat.zero_le _
    · exact Nat.le_trans h4 h5
  | mp es n=>trivial
theorem Post.ret {rs : List ResultVar} {r : AV} {H' : Hp} (h1 : (resL T s rs).map resAV = some r) (h2 : ∀ p ∈ H',look s.hp p.1 = some p.2) (h3 : (r.in3 H'.has && H'.all fun p=>p.2.inD H'.has) = true) : Post T rs r H' .ret s:=⟨trivial,h1,h2,h3⟩
theorem Post.nrm {rs : List ResultVar} {r : AV} {H' : Hp} (h1 : (resL T s rs).map resAV = some r) (h2 : ∀ p ∈ H',look s.hp p.1 = some p.2) (h3 : (r.in3 H'.has && H'.all fun p=>p.2.inD H'.has) = true) : Post T rs r H' .normal s:=⟨trivial,h1,h2,h3⟩
theorem wrap_i64 {n : Int} (h1 : -9223372036854775808 ≤ n) (h2 : n ≤ 9223372036854775807) : IntKind.i64.wrap n = n:=by
  rw [IntKind.wrap_i64]
  omega
theorem drop_get {α : Type} {l : List α} {i : Nat} {e : α} (h : l[i]? = some e) : l.drop i = e :: l.drop (i + 1):=by
  obtain ⟨hi,rfl⟩:=List.getElem?_eq_some_iff.1 h
  exact List.drop_eq_getElem_cons hi
end
def findA (a : Int) : List (Value × AV) → Option AV
  | []=>none
  | (.int _ b,u) :: r=>cond (a == b) (some u) (findA a r)
  | _ :: _=>none
def zeroK : TK → AV
  | .int j=>.raw (.int j 0)
  | _=>.dead
def zeroA (i : TI) : AV:=zeroK i.k
structure TabOkF (P : Program) (T : Nat → TI) : Prop where
  t : TabOk P T
  z : ∀ t j,(T t).k = .int j → ∃ ti,P.info? t = some ti ∧ ti.zero = some (.int j 0)
  i : ∀ t,(T t).known → ∃ ti zv,P.info? t = some ti ∧ ti.zero = some zv
def insertQ (T : Nat → TI) (t : Nat) (mv kv xv : AV) : Q:=match (T t).k,mv,kv with
  | .mp kt _,.mp id,.raw (.int j a)=>.need ((T kt).k = .int j) (.ins id j a xv)
  | _,_,_=>.bad
def foundQ (z : AV) (ok : Bool) : Option AV → Q
  | some u=>.done (if ok = true then .tup [u,.raw (.bool true)] else u) []
  | none=>.done (if ok = true then .tup [z,.raw (.bool false)] else z) []
def lookupQ (T : Nat → TI) (t : Nat) (mv kv : AV) (ok : Bool) : Q:=match (T t).k,mv,kv with
  | .mp kt et,.mp id,.raw (.int j a)=>.obj id fun o=>match o with
    | .mp es _=>.need ((T kt).k = .int j ∧ keysOk j es = true ∧ (T et).known) (foundQ (zeroA (T et)) ok (findA a es))
    | _=>.bad
  | _,_,_=>.bad
def isNilC : BinOp → Operand → Bool
  | .eql,.const (.slice none _ _)=>true
  | _,_=>false
def nilQ (T : Nat → TI) (t : Nat) (v : AV) : Q:=match (T t).k,v with
  | .sl _,.sl _ els=>.any (fun b=>b = true → els = []) fun b=>.done (.raw (.bool b)) []
  | _,_=>.bad
def emptyQ (T : Nat → TI) (nid t : Nat) : Q:=match (T t).k with
  | .sl e=>.need ((T e).known ∧ 0 < (T e).sz) (.done (.row nid 0 (T e).sz 0 0) [(nid,some (.row e (T e).sz 0 []))])
  | _=>.bad
def evOpF (T : Nat → TI) (nid : Nat) (o : Op) : Q:=match o with
  | .pick x a b=>opd true x fun cv=>match cv with
    | .raw (.bool cb)=>cond cb (opd true a fun v=>.done v []) (opd true b fun v=>.done v [])
    | _=>.bad
  | .binOp bo t y z u=>cond (isNilC bo z) (opd true y fun v=>nilQ T t v) (evOp T nid true (.binOp bo t y z u))
  | .buildSlice t n ps=>cond (n == 0 && ps.isEmpty) (emptyQ T nid t) (evOp T nid true (.buildSlice t n ps))
  | .makeMap _ none=>.done (.mp nid) [(nid,some (.mp [] 0))]
  | .insert t m k x=>opd true m fun mv=>opd true k fun kv=>opd true x fun xv=>insertQ T t mv kv xv
  | .lookup t m k ok=>opd true m fun mv=>opd true k fun kv=>lookupQ T t mv kv ok
  | o=>evOp T nid true o
def guardF (T : Nat → TI) (nid : Nat) (want : Bool) (op : Op) : Option Nat → Q
  | none=>.bad
  | some d=>.slot d fun g=>match g with
      | .raw (.bool b)=>cond (b == want) (evOpF T nid op) (.done (.ifb false .dead) [])
      | .ifb g .dead=>.need (g = false) (.done (.ifb false .dead) [])
      | _=>.bad
def evOperF : EvT:=fun T nid dsts o=>match o.guard with
  | none=>evOpF T nid o.op
  | some (j,want)=>guardF T nid want o.op (dsts.getD j none)
section
variable {P : Program} {T : Nat → TI} {B : Base} {D : Nat → Prop} {nid : Nat} {s : St} {a : Act} {w : World} {x : Cx} {K : AV → Wr → Prop} {hp : Hp}
theorem so_pickF (T : Nat → TI) (hC : Core B D s a w x) {o : Oper} {y y1 y2 : Operand} (ho : o.op = .pick y y1 y2) (h : wpQ P nid s (evOpF T nid (.pick y y1 y2)) K) : Fin P nid s a w x o K:=by
  obtain ⟨u,h1,h2⟩:=opd_s hC rfl h
  split at h2
  · rename_i cb
    have e:=h1.rawEq
    cases cb with
    | true=>
      obtain ⟨va,h3,h4⟩:=opd_s hC rfl h2
      exact Fin.quiet hC h4 (by simp [execOp,ho,e,asBool]) h3
    | false=>
      obtain ⟨va,h3,h4⟩:=opd_s hC rfl h2
      exact Fin.quiet hC h4 (by simp [execOp,ho,e,asBool]) h3
  · exact h2.elim
theorem so_makeMapF (hC : Core B D s a w x) (hfr : ¬ D nid) {o : Oper} {t : Nat} (ho : o.op = .makeMap t none) (h : wpQ P nid s (evOpF T nid (.makeMap t none)) K) : Fin P nid s a w x o K:=by
  have hβ : (x.put nid 0 (some w.heap.size) 0).β nid = some w.heap.size:=by simp [Cx.put]
  have st:=Stp.add (w':=w.alloc (.map #[] 0)) hC.h (id:=nid) (fun g hd=>hfr (hC.dom _ _ hd)) (.mp [] 0) (some w.heap.size) 0 rfl rfl rfl (by simp) (fun b hb=>Below.heap_alloc _ _ _ hb) (fun b hb=>by cases hb; simp)
    (fun m=>⟨w.heap.size,#[],hβ,heap_alloc_new _ _,⟨fun m h=>(by cases h),fun m _ h=>(by cases h)⟩,fun i k u hu=>by simp at hu⟩)
  exact ⟨_,_,.map (some w.heap.size),_,_,h,.inl (by simp [execOp,ho,Instr.makeMap]),st,.mp _ _ (.inr ⟨rfl,.inl rfl⟩) fun _=>hβ,fun id g hd=>(dom_put hd).imp (fun h=>h) .inl⟩
theorem findNow_l {j : IntKind} {a : Int} : ∀ {ms : List MapEntry} {i : Nat},(∀ m ∈ ms,∃ b,m.key = .int j b) →
    (∃ k m,m ∈ ms ∧ m.key = .int j a ∧ Instr.findNow (.int j) (.int j a) ms i = some (some (k,m.val))) ∨ ((∀ m ∈ ms,m.key ≠ .int j a) ∧ Instr.findNow (.int j) (.int j a) ms i = some none)
  | [],i,_=>.inr ⟨fun m h=>(by cases h),rfl⟩
  | m :: ms,i,hk=>by
    obtain ⟨b,hb⟩:=hk m (by simp)
    by_cases hab : a = b
    · subst hab
      exact .inl ⟨i,m,by simp,hb,by simp [Instr.findNow,Instr.sameNow,hb]⟩
    · have hab' : (a == b) = false:=by simpa using hab
      have e2 : Instr.findNow (.int j) (.int j a) (m :: ms) i = Instr.findNow (.int j) (.int j a) ms (i + 1):=by simp [Instr.findNow,Instr.sameNow,hb,hab']
      rw [e2]
      rcases findNow_l (a:=a) (ms:=ms) (i:=i + 1) (fun m h=>hk m (by simp [h])) with ⟨k,m',h1,h2,h3⟩ | ⟨h1,h2⟩
      · exact .inl ⟨k,m',by simp [h1],h2,h3⟩
      · refine .inr ⟨fun m' h=>?_,h2⟩
        rcases List.mem_cons.1 h with rfl | h
        · rw [hb]
          intro e
          injection e with _ e
          exact hab e.symm
        · exact h1 m' h
theorem keysOk_at {j : IntKind} : ∀ {es : List (Value × AV)},keysOk j es = true → ∀ k ∈ es.map (·.1),∃ b,k = .int j b
  | [],_,k,h=>(by cases h)
  | (k0,u) :: es,hk,k,h=>by
    cases k0 with
    | int j' b=>
      simp only [keysOk,Bool.and_eq_true,decide_eq_true_eq] at hk
      obtain ⟨rfl,hk⟩:=hk
      rcases List.mem_cons.1 h with rfl | h
      · exact ⟨b,rfl⟩
      · exact keysOk_at hk k h
    | _=>simp [keysOk] at hk
theorem findA_mem {j : IntKind} {a : Int} : ∀ {es : List (Value × AV)},keysOk j es = true → (∃ (u : AV) (i : Nat),findA a es = some u ∧ es[i]? = some (Value.int j a,u)) ∨ (findA a es = none ∧ ∀ k ∈ es.map (·.1),k ≠ Value.int j a)
  | [],_=>.inr ⟨rfl,fun k h=>(by cases h)⟩
  | (k0,u) :: es,hk=>by
    cases k0 with
    | int j' b=>
      simp only [keysOk,Bool.and_eq_true,decide_eq_true_eq] at hk
      obtain ⟨rfl,hk⟩:=hk
      by_cases hab : a = b
      · subst hab
        exact .inl ⟨u,0,by simp [findA],rfl⟩
      · have hab' : (a == b) = false:=by simpa using hab
        have e1 : findA a ((Value.int j' b,u) :: es) = findA a es:=by simp only [findA,hab',cond_false]
        rw [e1]
        rcases findA_mem (a:=a) hk with ⟨v,i,h1,h2⟩ | ⟨h1,h2⟩
        · exact .inl ⟨v,i + 1,h1,h2⟩
        · refine .inr ⟨h1,fun k h=>?_⟩
          rcases List.mem_cons.1 h with rfl | h
          · intro e
            injection e with _ e
            exact hab e.symm
          · exact h2 k h
    | _=>simp [keysOk] at hk
theorem findNow_s {j : IntKind} {a : Int} {es : List (Value × AV)} {ms : Array MapEntry} {i : Nat} (hd : KeyD ms (es.map (·.1))) (hr : ∀ (n : Nat) (k : Value) (u : AV),es[n]? = some (k,u) → ∃ m : MapEntry,m ∈ ms.toList ∧ m.key = k ∧ VRel w x hp u m.val) (hk : keysOk j es = true) :
    (∃ u k v,findA a es = some u ∧ Instr.findNow (.int j) (.int j a) ms.toList i = some (some (k,v)) ∧ VRel w x hp u v) ∨ (findA a es = none ∧ Instr.findNow (.int j) (.int j a) ms.toList i = some none):=by
  rcases findNow_l (j:=j) (a:=a) (ms:=ms.toList) (i:=i) (fun m hm=>keysOk_at hk _ (hd.key m hm)) with ⟨k,m,h1,h2,h3⟩ | ⟨h1,h2⟩
  · rcases findA_mem (a:=a) hk with ⟨u,n,e1,e2⟩ | ⟨e1,e2⟩
    · obtain ⟨m',f1,f2,f3⟩:=hr n _ _ e2
      have:=hd.one m m' h1 f1 (h2.trans f2.symm)
      subst this
      exact .inl ⟨u,k,m.val,e1,h3,f3⟩
    · exact absurd h2 (e2 _ (hd.key m h1))
  · rcases findA_mem (a:=a) hk with ⟨u,n,e1,e2⟩ | ⟨e1,e2⟩
    · obtain ⟨m',f1,f2,f3⟩:=hr n _ _ e2
      exact absurd f2 (h1 m' f1)
    · exact .inr ⟨e1,h2⟩
theorem insS_get {j : IntKind} {a : Int} {u : AV} : ∀ {es : List (Value × AV)} {i : Nat} {p : Value × AV},(insS j a u es)[i]? = some p → p = (Value.int j a,u) ∨ ∃ i' : Nat,es[i']? = some p
  | [],i,p,h=>by
    cases i with
    | zero=>simp [insS] at h; exact .inl h.symm
    | succ i=>simp [insS] at h
  | (k0,v) :: es,i,p,h=>by
    have key : ∀ {i : Nat},((k0,v) :: insS j a u es)[i]? = some p → p = (Value.int j a,u) ∨ ∃ i' : Nat,((k0,v) :: es)[i']? = some p:=by
      intro i h
      cases i with
      | zero=>exact .inr ⟨0,h⟩
      | succ i=>
        rcases insS_get (es:=es) (by simpa using h) with h | ⟨i',h⟩
        · exact .inl h
        · exact .inr ⟨i' + 1,by simpa using h⟩
    cases k0 with
    | int k b=>
      simp only [insS] at h
      cases hd : decide (a < b) with
      | true=>
        rw [hd,cond_true] at h
        cases i with
        | zero=>simp at h; exact .inl h.symm
        | succ i=>exact .inr ⟨i,by simpa using h⟩
      | false=>
        rw [hd,cond_false] at h
        exact key h
    | _=>exact key h
theorem insS_keys {j : IntKind} {a : Int} {u : AV} : ∀ {es : List (Value × AV)} {k : Value},k = .int j a ∨ k ∈ es.map (·.1) → k ∈ (insS j a u es).map (·.1)
  | [],k,h=>by rcases h with rfl | h <;> simp_all [insS]
  | (k0,v) :: es,k,h=>by
    have key : k ∈ ((k0,v) :: insS j a u es).map (·.1):=by
      rcases h with h | h
      · exact List.mem_cons_of_mem _ (insS_keys (es:=es) (.inl h))
      · rcases List.mem_cons.1 h with h | h
        · rw [h]; exact List.mem_cons_self
        · exact List.mem_cons_of_mem _ (insS_keys (es:=es) (.inr h))
    cases k0 with
    | int k' b=>
      simp only [insS]
      cases decide (a < b) with
      | true=>
        rcases h with rfl | h
        · exact List.mem_cons_self
        · exact List.mem_cons_of_mem _ h
      | false=>exact key
    | _=>exact key
theorem newKey_none {a : Int} {j : IntKind} : ∀ {es : List (Value × AV)},newKey a es = true → findA a es = none
  | [],_=>rfl
  | (k,u) :: es,h=>by
    cases k with
    | int k b=>
      simp only [newKey,Bool.and_eq_true,bne_iff_ne,ne_eq] at h
      simp only [findA]
      have : (a == b) = false:=by simpa using h.1
      rw [this]
      exact newKey_none (j:=j) h.2
    | _=>simp [newKey] at h
theorem und_mp (hT : TabOk P T) {t k e : Nat} (h : (T t).k = .mp k e) : P.underlying t = some (.map k e):=by have:=(hT.ty t).und; rw [h] at this; exact this
theorem so_insertF (hT : TabOk P T) (hC : Core B D s a w x) {o : Oper} {t : Nat} {m k y : Operand} (ho : o.op = .insert t m k y) (h : wpQ P nid s (evOpF T nid (.insert t m k y)) K) : Fin P nid s a w x o K:=by
  obtain ⟨mv,h1,h⟩:=opd_s hC rfl h
  obtain ⟨kv,h2,h⟩:=opd_s hC rfl h
  obtain ⟨xv,h3,h⟩:=opd_s hC rfl h
  unfold insertQ at h
  split at h
  · rename_i kt et id j b hk _ _
    obtain ⟨hkt,h⟩:=h
    obtain ⟨es,n,hob,⟨hko,hnk⟩,hK⟩:=wpI_some h
    · · have e2:=h2.rawEq
        generalize hm : a.eval m = mval at h1
        cases h1 with
        | dat hd=>cases hd
        | mp _ r hid hr=>
          obtain ⟨bb,ms,b1,b2,b3,b4⟩:=hC.h.obj id _ hob
          have hbr:=hr ⟨_,_,hob⟩
          rw [b1] at hbr
          injection hbr with hbr
          subst hbr
          have hu:=und_mp hT hk
          have hi:=und_int hT hkt
          have hf : Instr.findNow (.int j) (.int j b) ms.toList 0 = some none:=by
            rcases findNow_s (w:=w) (x:=x) (hp:=s.hp) (j:=j) (a:=b) (i:=0) b3 b4 hko with ⟨u,k,v,q1,_⟩ | ⟨_,q2⟩
            · rw [newKey_none (j:=j) hnk] at q1
              cases q1
            · exact q2
          have hc : (Instr.checkKey false 10000 kt (.int j b)).run P w = .ok () w:=MapKept.run_checkKey (k:=.int j b) hi (by simp [MapKept.IsKey]) false 9999
          obtain ⟨hs1,hs2⟩:=MapKept.heap_set (o':=.map (ms.push { key:=.int j b,val:=a.eval y,born:=n }) (n + 1)) b2
          have hrun : (execOp a.eval o).run P w = .ok .skip { w with heap:=w.heap.setIfInBounds bb (.map (ms.push { key:=.int j b,val:=a.eval y,born:=n }) (n + 1)) }:=by
            simp [execOp,ho,e2,hm,Instr.mapUpdate,run_underlying hu,MapKept.run_getObj_map b2,hc,MapKept.run_findKey hi hf,MapKept.run_setObj_map _ b2,Result.andThen]
          have st : Stp w x s.hp { w with heap:=w.heap.setIfInBounds bb (.map (ms.push { key:=.int j b,val:=a.eval y,born:=n }) (n + 1)) } x (Cb id (.mp (insS j b xv es) (n + 1)) s.hp):=by
            refine Stp.chg (w':={ w with heap:=w.heap.setIfInBounds bb (.map (ms.push { key:=.int j b,val:=a.eval y,born:=n }) (n + 1)) }) hC.h hob (.mp (insS j b xv es) (n + 1)) rfl rfl rfl (by simp) (fun b' _ hk=>hs2 b' (fun e=>hk (by rw [b1,e]))) rfl (fun _ _ h=>h) (fun _ _ h=>.inl h) (fun _ _=>rfl) (fun _ _=>rfl) ?_ ?_ ?_ ?_ ?_
            · intro b' hb'
              have:=(hC.h.liv id _ b' hob hb').1
              exact ⟨.inl hb',by simpa using this⟩
            · intro _ _ e
              cases e
            · intro _ _ _ _ e
              cases e
            · intro _ _ _
              exact ⟨⟨_,_,hob⟩,rfl⟩
            · intro mo
              have hno : ∀ m ∈ ms.toList,m.key ≠ .int j b:=by
                intro m1 hm1 e
                rcases findA_mem (a:=b) hko with ⟨u,_,q1,_⟩ | ⟨_,q2⟩
                · rw [newKey_none (j:=j) hnk] at q1
                  cases q1
                · exact q2 _ (b3.key m1 hm1) e
              refine ⟨bb,_,b1,hs1,⟨fun m1 hm1=>?_,fun m1 m2 hm1 hm2 he=>?_⟩,fun i k u hu=>?_⟩
              · rw [Array.toList_push,List.mem_append,List.mem_singleton] at hm1
                rcases hm1 with hm1 | rfl
                · exact insS_keys (.inr (b3.key m1 hm1))
                · exact insS_keys (.inl rfl)
              · rw [Array.toList_push,List.mem_append,List.mem_singleton] at hm1 hm2
                rcases hm1 with hm1 | rfl <;> rcases hm2 with hm2 | rfl
                · exact b3.one m1 m2 hm1 hm2 he
                · exact absurd he (hno m1 hm1)
                · exact absurd he.symm (hno m2 hm2)
                · rfl
              · rcases insS_get hu with e | ⟨i',hi'⟩
                · cases e
                  exact ⟨_,by rw [Array.toList_push]; exact List.mem_append.2 (.inr (List.mem_singleton.2 rfl)),rfl,h3.mono mo⟩
                · obtain ⟨m1,q1,q2,q3⟩:=b4 i' k u hi'
                  exact ⟨m1,by rw [Array.toList_push]; exact List.mem_append.2 (.inl q1),q2,q3.mono mo⟩
          exact ⟨_,_,undef,_,_,hK,.inr ⟨hrun,rfl⟩,st,.dead _,fun id g hd=>.inl hd⟩
  · exact h.elim
theorem zero_s (hT : TabOkF P T) {t : Nat} (hk : (T t).known) : ∃ zv,(zeroValue t).run P w = .ok zv w ∧ VRel w x hp (zeroA (T t)) zv:=by
  unfold zeroA
  cases hkk : (T t).k with
  | int j=>
    obtain ⟨ti,h1,h2⟩:=hT.z t j hkk
    exact ⟨_,by simp [zeroValue,typeInfo,h1,h2],.raw _⟩
  | _=>
    obtain ⟨ti,zv,h1,h2⟩:=hT.i t hk
    exact ⟨zv,by simp [zeroValue,typeInfo,h1,h2],.dead _⟩
theorem so_lookupF (hT : TabOkF P T) (hC : Core B D s a w x) {o : Oper} {t : Nat} {m k : Operand} {ok : Bool} (ho : o.op = .lookup t m k ok) (h : wpQ P nid s (evOpF T nid (.lookup t m k ok)) K) : Fin P nid s a w x o K:=by
  obtain ⟨mv,h1,h⟩:=opd_s hC rfl h
  obtain ⟨kv,h2,h⟩:=opd_s hC rfl h
  unfold lookupQ at h
  split at h
  · rename_i kt et id j b hk _
    simp only [wpQ] at h
    split at h
    · rename_i ob hob
      split at h
      · rename_i es n
        obtain ⟨⟨hkt,hko,hen⟩,hK⟩:=h
        have e2:=h2.rawEq
        generalize hm : a.eval m = mval at h1
        cases h1 with
        | dat hd=>cases hd
        | mp _ r hid hr=>
          obtain ⟨bb,ms,b1,b2,b3,b4⟩:=hC.h.obj id _ hob
          have hbr:=hr ⟨_,_,hob⟩
          rw [b1] at hbr
          injection hbr with hbr
          subst hbr
          have hu:=und_mp hT.t hk
          have hi:=und_int hT.t hkt
          have hc : ∀ e,(Instr.checkKey e 10000 kt (.int j b)).run P w = .ok () w:=fun e=>MapKept.run_checkKey (k:=.int j b) hi (by simp [MapKept.IsKey]) e 9999
          rcases findNow_s (w:=w) (x:=x) (hp:=s.hp) (j:=j) (a:=b) (i:=0) b3 b4 hko with ⟨u,k1,v,q1,q2,q3⟩ | ⟨q1,q2⟩
          · rw [q1] at hK
            simp only [foundQ,wpQ] at hK
            cases ok with
            | true=>exact Fin.quiet hC hK (by simp [execOp,ho,e2,hm,Instr.lookup,run_underlying hu,MapKept.run_getObj_map b2,hc,MapKept.run_findKey hi q2,Result.andThen]) (.tup _ #[v,.bool true] rfl (fun i u' hu'=>by
                match i,hu' with
                | 0,hu'=>simp at hu'; subst hu'; exact q3
                | 1,hu'=>simp at hu'; subst hu'; exact .raw _
                | i + 2,hu'=>simp at hu'))
            | false=>exact Fin.quiet hC hK (by simp [execOp,ho,e2,hm,Instr.lookup,run_underlying hu,MapKept.run_getObj_map b2,hc,MapKept.run_findKey hi q2,Result.andThen]) q3
          · rw [q1] at hK
            simp only [foundQ,wpQ] at hK
            obtain ⟨zv,z1,z2⟩:=zero_s (w:=w) (x:=x) (hp:=s.hp) hT hen
            cases ok with
            | true=>exact Fin.quiet hC hK (by simp [execOp,ho,e2,hm,Instr.lookup,run_underlying hu,MapKept.run_getObj_map b2,hc,MapKept.run_findKey hi q2,z1,Result.andThen]) (.tup _ #[zv,.bool false] rfl (fun i u' hu'=>by
                match i,hu' with
                | 0,hu'=>simp at hu'; subst hu'; exact z2
                | 1,hu'=>simp at hu'; subst hu'; exact .raw _
                | i + 2,hu'=>simp at hu'))
            | false=>exact Fin.quiet hC hK (by simp [execOp,ho,e2,hm,Instr.lookup,run_underlying hu,MapKept.run_getObj_map b2,hc,MapKept.run_findKey hi q2,z1,Result.andThen]) z2
      · exact h.elim
    · exact h.elim
  · exact h.elim
theorem isNilC_true {bo : BinOp} {z : Operand} (h : isNilC bo z = true) : bo = .eql ∧ ∃ n c,z = .const (.slice none n c):=by
  unfold isNilC at h
  split at h
  · exact ⟨rfl,_,_,rfl⟩
  · cases h
theorem so_nilF (hT : TabOk P T) (hC : Core B D s a w x) {o : Oper} {bo : BinOp} {t u : Nat} {y z : Operand} (ho : o.op = .binOp bo t y z u) (hz : isNilC bo z = true) (h : wpQ P nid s (opd true y fun v=>nilQ T t v) K) : Fin P nid s a w x o K:=by
  obtain ⟨rfl,n',c',rfl⟩:=isNilC_true hz
  obtain ⟨v,h1,h⟩:=opd_s hC rfl h
  have hz2 : a.eval (.const (.slice none n' c')) = .slice none n' c':=rfl
  have hrun : ∀ (A : Option Addr) (m c : Nat) (e : Nat),P.underlying t = some (.slice e) → a.eval y = .slice A m c → (execOp a.eval o).run P w = .ok (.value (.bool A.isNone)) w:=fun A m c e hu hv=>by
    have he : eqGuard .eql t y (.const (.slice none n' c')) (.slice A m c) (.slice none n' c') = pure ():=rfl
    simp [execOp,ho,hv,hz2,he,Lib.run_eql_slice_nil w t e A m c n' c' hu]
  unfold nilQ at h
  split at h
  · rename_i e tf els hk
    have hu:=und_sl hT (by assumption)
    generalize hv : a.eval y = val at h1
    cases h1 with
    | dat hd=>
      cases hd with
      | sl _ _ A c sz vals hc hm ht hsz hA hcell hd2=>
        have hb:=h A.isNone (fun hn=>by
          cases els with
          | nil=>rfl
          | cons e0 r=>
            obtain ⟨a0,e1,_⟩:=hA 0 e0 rfl
            rw [e1] at hn
            cases hn)
        exact Fin.quiet hC hb (hrun A _ c _ hu hv) (.raw _)
  · exact h.elim
theorem so_emptyF (hT : TabOk P T) (hC : Core B D s a w x) (hfr : ¬ D nid) {o : Oper} {t n : Nat} {ps : Array (Nat × Operand)} (ho : o.op = .buildSlice t n ps) (hz : (n == 0 && ps.isEmpty) = true) (h : wpQ P nid s (emptyQ T nid t) K) : Fin P nid s a w x o K:=by
  simp only [Bool.and_eq_true,beq_iff_eq,Array.isEmpty_iff] at hz
  obtain ⟨rfl,rfl⟩:=hz
  unfold emptyQ at h
  split at h
  · rename_i e hk
    obtain ⟨⟨hkn,hs0⟩,hK⟩:=h
    have hu:=und_sl hT hk
    obtain ⟨ti,zv,hi,hs,hb,hz,hzc,hzl,hone⟩:=info_of hT e hkn
    have hfr1 : ∀ g,¬ x.dom nid g:=fun g hd=>hfr (hC.dom _ _ hd)
    obtain ⟨st2,hv⟩:=Stp.row hC.h hfr1 w rfl rfl rfl rfl e (T e).sz [] #[] 0 (by simp) (by simp) (by unfold maxLen; omega) (by intro i cs h; simp at h) (by intro i h; simp at h) (by intro i j cs u h; simp at h)
    refine ⟨_,_,.slice (some ⟨w.heap.size,0,none⟩) 0 0,w.alloc (.cells #[] e),x.put nid 0 (some w.heap.size) 0,hK,.inl ?_,st2,hv,fun id g hd=>(dom_put hd).imp (fun h=>h) .inl⟩
    simp [execOp,ho,Instr.buildSlice,run_underlying hu,sizeOf,typeInfo,hi,Instr.fill,newRow]
    exact congrArg (fun q=>w.alloc (Obj.cells q e)) (Array.eq_empty_of_size_eq_zero (by simp))
  · exact h.elim
theorem evOpF_s (hT : TabOkF P T) (hC : Core B D s a w x) (hfr : ¬ D nid) {o : Oper} (h : wpQ P nid s (evOpF T nid o.op) K) {next : Act → World → Prop} {Qx : Exit → Act → World → Prop} (hn : Nxt nid s a w x o K next) : o.wp P a w next Qx:=by
  cases hop : o.op with
  | pick y y1 y2=>rw [hop] at h; exact (so_pickF T hC hop h).wp hn
  | binOp bo t y z u=>
    rw [hop] at h
    simp only [evOpF] at h
    cases hz : isNilC bo z with
    | true=>rw [hz] at h; exact (so_nilF hT.t hC hop hz h).wp hn
    | false=>rw [hz] at h; exact evOp_s hT.t hC hfr (c:=true) rfl (by rw [hop]; exact h) hn
  | buildSlice t n ps=>
    rw [hop] at h
    simp only [evOpF] at h
    cases hz : (n == 0 && ps.isEmpty) with
    | true=>rw [hz] at h; exact (so_emptyF hT.t hC hfr hop hz h).wp hn
    | false=>rw [hz] at h; exact evOp_s hT.t hC hfr (c:=true) rfl (by rw [hop]; exact h) hn
  | makeMap t r=>
    rw [hop] at h
    cases r with
    | none=>exact (so_makeMapF (T:=T) hC hfr hop h).wp hn
    | some r=>exact h.elim
  | insert t m k y=>rw [hop] at h; exact (so_insertF hT.t hC hop h).wp hn
  | lookup t m k ok=>rw [hop] at h; exact (so_lookupF hT hC hop h).wp hn
  | _=>rw [hop] at h; exact evOp_s hT.t hC hfr (c:=true) rfl (by rw [hop]; exact h) hn
theorem evOpF_nd {op : Op} (h : wpQ P nid s (evOpF T nid op) K) : ∀ d,op ≠ .defer d:=by
  rintro d rfl
  exact h
theorem evOperF_ok (hT : TabOkF P T) : EvOk P T evOperF:=by
  intro B D nid s a w x hC hfr ops Qx i o hi hdst K' h next hn
  have nxt : Nxt nid s a w x o K' next:=fun v wr val w' x' hk st hv hdom=>hn v wr _ w' x' hk (hC.next hdst st hv hdom)
  unfold wpOpIn
  rw [hi]
  simp only
  unfold evOperF at h
  split at h
  · rename_i hg
    have hw : Region.wanted o (yielded ops a.tmps) = true:=by simp [Region.wanted,hg]
    rw [if_pos hw]
    exact wpIn_of (evOpF_nd h) (evOpF_s hT hC hfr h nxt)
  · rename_i j want hg
    unfold guardF at h
    split at h
    · exact h.elim
    · rename_i d hd
      have hyd:=dsts_at hd
      simp only [wpQ] at h
      split at h
      · rename_i gv hgv
        have hgrel:=hC.t _ _ hgv
        split at h
        · rename_i b
          have hb:=yielded_of hC hyd hgrel.rawEq
          by_cases hbw : b = want
          · subst hbw
            have hw : Region.wanted o (yielded ops a.tmps) = true:=by simp [Region.wanted,hg,hb]
            rw [if_pos hw]
            simp only [beq_self_eq_true,cond_true] at h
            exact wpIn_of (evOpF_nd h) (evOpF_s hT hC hfr h nxt)
          · have hw : ¬ Region.wanted o (yielded ops a.tmps) = true:=by
              simp only [Region.wanted,hg,beq_iff_eq,hb]
              intro e
              injection e with e
              exact hbw e
            rw [if_neg hw]
            have hf : (b == want) = false:=by simp [hbw]
            rw [hf] at h
            refine ⟨fun _ _=>trivial,?_⟩
            exact hn _ [] _ w x h (hC.next hdst (Stp.refl hC.h) (.ifb _ _ _ (fun _=>rfl) fun h=>by cases h) (fun _ _ h=>.inl h))
        · rename_i g
          obtain ⟨hg0,hk⟩:=h
          subst hg0
          have hb:=yielded_no hC hyd (by
            cases hgrel with
            | dat h=>cases h
            | ifb _ _ v h0 h1=>exact h0 rfl)
          have hw : ¬ Region.wanted o (yielded ops a.tmps) = true:=by
            simp only [Region.wanted,hg,beq_iff_eq,hb]
            intro e
            cases e
          rw [if_neg hw]
          refine ⟨fun _ _=>trivial,?_⟩
          exact hn _ [] _ w x hk (hC.next hdst (Stp.refl hC.h) (.ifb _ _ _ (fun _=>rfl) fun h=>by cases h) (fun _ _ h=>.inl h))
        · exact h.elim
      · exact h.elim
end
def po {α β : Type} (x : Option α) (k : α → Option β) : Option β:=match x with
  | none=>none
  | some a=>k a
theorem Aa {α β : Type} {x : Option α} {k : α → Option β} {r : β} (h : po x k = some r) : ∃ a,x = some a ∧ k a = some r:=by
  cases x with
  | none=>cases h
  | some a=>exact ⟨a,rfl,h⟩
@[simp] theorem po_of {α β : Type} {a : α} {k : α → Option β} : po (some a) k = k a:=rfl
@[simp] theorem po_none {α β : Type} {k : α → Option β} : po none k = none:=rfl
def pl {α β : Type} (x : α) (k : α → Option β) : Option β:=k x
theorem Bo {α β : Type} {x : α} {k : α → Option β} {r : β} (h : pl x k = some r) : ∃ a,a = x ∧ k a = some r:=⟨x,rfl,h⟩
def pg {β : Type} (c : Prop) [Decidable c] (k : Option β) : Option β:=if c then k else none
theorem Bs {β : Type} {c : Prop} [Decidable c] {k : Option β} {r : β} (h : pg c k = some r) : c ∧ k = some r:=by
  unfold pg at h
  split at h
  · exact ⟨by assumption,h⟩
  · cases h
theorem Ep {β : Type} {c : Prop} [Decidable c] {k : Option β} (h : c) : pg c k = k:=if_pos h
def pm {α β : Type} (x : Option (α ⊕ β)) (k : α → Option β) : Option β:=match x with
  | none=>none
  | some (.inl a)=>k a
  | some (.inr b)=>some b
def finM {α β : Type} (k : α → Option β) (r : β) : α ⊕ β → Prop
  | .inl a=>k a = some r
  | .inr b=>some b = some r
theorem Jh0 {α β : Type} {x : Option (α ⊕ β)} {k : α → Option β} {r : β} (h : pm x k = some r) : ∃ v,x = some v ∧ finM k r v:=by
  cases x with
  | none=>cases h
  | some v=>cases v <;> exact ⟨_,rfl,h⟩
@[simp] theorem pm_inl {α β : Type} {a : α} {k : α → Option β} : pm (some (.inl a)) k = k a:=rfl
@[simp] theorem pm_inr {α β : Type} {b : β} {k : α → Option β} : pm (some (.inr b)) k = some b:=rfl
@[simp] theorem pm_none {α β : Type} {k : α → Option β} : pm none k = none:=rfl
def idx {α : Type} (l : List α) (n : Int) : Option α:=if 0 ≤ n then l[n.toNat]? else none
theorem idx_some {α : Type} {l : List α} {n : Int} {a : α} (h : idx l n = some a) : 0 ≤ n ∧ n < (l.length : Int) ∧ l[n.toNat]? = some a:=by
  unfold idx at h
  split at h
  · rename_i h0
    have:=(List.getElem?_eq_some_iff.1 h).1
    exact ⟨h0,by omega,h⟩
  · cases h
theorem idx_nat {α : Type} {l : List α} {n : Nat} : idx l (n : Int) = l[n]?:=by
  unfold idx
  rw [if_pos (Int.natCast_nonneg _),Int.toNat_natCast]
theorem idx_of {α : Type} {l : List α} {n : Int} {a : α} (h0 : 0 ≤ n) (h : l[n.toNat]? = some a) : idx l n = some a:=by
  unfold idx
  rw [if_pos h0,h]
def iterU {σ ρ : Type} (step : σ → Option (σ ⊕ ρ)) : Nat → σ → Option ρ
  | 0,_=>none
  | n + 1,s=>match step s with
    | none=>none
    | some (.inl s')=>iterU step n s'
    | some (.inr r)=>some r
theorem iterU_more {σ ρ : Type} {step : σ → Option (σ ⊕ ρ)} : ∀ {n : Nat} {s : σ} {r : ρ} (k : Nat),iterU step n s = some r → iterU step (n + k) s = some r
  | 0,_,_,_,h=>by cases h
  | n + 1,s,r,k,h=>by
    rw [show n + 1 + k = (n + k) + 1 by omega]
    simp only [iterU] at h ⊢
    split at h
    · cases h
    · exact iterU_more k h
    · exact h
theorem iterU_one {σ ρ : Type} {step : σ → Option (σ ⊕ ρ)} {n m : Nat} {s : σ} {r r' : ρ} (h : iterU step n s = some r) (h' : iterU step m s = some r') : r = r':=by
  have h1:=iterU_more m h
  have h2:=iterU_more n h'
  rw [Nat.add_comm] at h2
  rw [h1] at h2
  injection h2
open Classical in
noncomputable def lpU {σ ρ : Type} (step : σ → Option (σ ⊕ ρ)) (s : σ) : Option ρ:=if h : ∃ r n,iterU step n s = some r then some (Classical.choose h) else none
theorem lpU_some {σ ρ : Type} {step : σ → Option (σ ⊕ ρ)} {s : σ} {r : ρ} : lpU step s = some r ↔ ∃ n,iterU step n s = some r:=by
  unfold lpU
  constructor
  · intro h
    split at h
    · rename_i hx
      injection h with h
      rw [← h]
      exact Classical.choose_spec hx
    · cases h
  · rintro ⟨n,h⟩
    have hx : ∃ r n,iterU step n s = some r:=⟨r,n,h⟩
    rw [dif_pos hx]
    obtain ⟨m,hm⟩:=Classical.choose_spec hx
    rw [iterU_one hm h]
theorem lpU_eq {σ ρ : Type} {step : σ → Option (σ ⊕ ρ)} {s : σ} : lpU step s = match step s with | none=>none | some (.inl s')=>lpU step s' | some (.inr r)=>some r:=by
  cases hs : step s with
  | none=>
    cases hl : lpU step s with
    | none=>rfl
    | some r=>
      obtain ⟨n,h⟩:=lpU_some.1 hl
      cases n with
      | zero=>cases h
      | succ n=>simp [iterU,hs] at h
  | some v=>
    cases v with
    | inr r=>exact lpU_some.2 ⟨1,by simp [iterU,hs]⟩
    | inl s'=>
      simp only
      cases hl : lpU step s' with
      | some r=>
        obtain ⟨n,h⟩:=lpU_some.1 hl
        exact lpU_some.2 ⟨n + 1,by simp [iterU,hs,h]⟩
      | none=>
        cases hl2 : lpU step s with
        | none=>rfl
        | some r=>
          obtain ⟨n,h⟩:=lpU_some.1 hl2
          cases n with
          | zero=>cases h
          | succ n=>
            simp only [iterU,hs] at h
            rw [lpU_some.2 ⟨n,h⟩] at hl
            cases hl
theorem lpU_inl {σ ρ : Type} {step : σ → Option (σ ⊕ ρ)} {s s' : σ} (h : step s = some (.inl s')) : lpU step s = lpU step s':=by rw [lpU_eq,h]
theorem lpU_inr {σ ρ : Type} {step : σ → Option (σ ⊕ ρ)} {s : σ} {r : ρ} (h : step s = some (.inr r)) : lpU step s = some r:=by rw [lpU_eq,h]
section
variable {P : Program} {B : Base} {Q : Exit → St → Prop} {s : St} {x y c : Code}
theorem VC.seqJ {X : Type} (I : X → Prop) (S : X → St) (hx : VC P B x (thn (fun s'=>∃ v,I v ∧ Sub s' (S v)) Q) s) (hy : ∀ v,I v → VC P B y Q (S v)) : VC P B (.seq x y) Q s:=by
  refine VC.seq (VC.mono hx fun e s' h=>?_)
  cases e with
  | normal=>
    obtain ⟨v,hv,hs⟩:=h
    exact VC.sub hs (hy v hv)
  | _=>exact h
theorem VC.loopP {σ ρ : Type} {step : σ → Option (σ ⊕ ρ)} {x0 : σ} {v : ρ} (h : lpU step x0 = some v) (S : σ → St) (hs : Sub s (S x0))
    (round : ∀ x b,step x = some b → (∀ p,b = .inr p → p = v) → VC P B c (thn (fun s'=>∃ x',b = .inl x' ∧ Sub s' (S x')) Q) (S x)) : VC P B (.loop c) Q s:=by
  obtain ⟨n,hn⟩:=lpU_some.1 h
  refine VC.loop (X:=σ × Nat) (fun q=>S q.1) (fun q=>iterU step q.2 q.1 = some v) (fun q=>q.2) ⟨(x0,n),hn,hs⟩ ?_
  rintro ⟨x,n⟩ hn
  simp only at hn
  cases n with
  | zero=>cases hn
  | succ n=>
    simp only [iterU] at hn
    split at hn
    · cases hn
    · rename_i s' hst
      refine VC.mono (round x (.inl s') hst fun p hp=>by cases hp) fun e s'' h=>?_
      cases e with
      | normal=>
        obtain ⟨x',hx',hsub⟩:=h
        injection hx' with hx'
        subst hx'
        exact ⟨(s',n),hn,Nat.lt_succ_self n,hsub⟩
      | _=>exact h
    · rename_i r hst
      injection hn with hn
      subst hn
      refine VC.mono (round x (.inr r) hst fun p hp=>by injection hp with hp; exact hp.symm) fun e s'' h=>?_
      cases e with
      | normal=>
        obtain ⟨x',hx',hsub⟩:=h
        cases hx'
      | _=>exact h
theorem VC.seqF {T : Nat → TI} (hT : TabOkF P T) (ds : List (Option Nat)) (l : List Nat) {id : Nat} {ops : List Oper} {y : Code} (hds : ops.map (·.dst) = ds) (hd : dstOk ops.toArray s.nt = true) (h : ∀ K : St → Prop,(∀ s',VC P B y Q s' → K s') → runOps evOperF P T ds ops 0 s fun s'=>K (s'.keep l)) : VC P B (.seq (.region id ops.toArray false) y) Q s:=
  VC.seqRE (evOperF_ok hT) ds l hds hd h
theorem VC.seqFD {T : Nat → TI} (hT : TabOkF P T) (hm : P.follows .mixedOrders = true) (ds : List (Option Nat)) (l : List Nat) {id : Nat} {ops : List Oper} {y : Code} (hds : ops.map (·.dst) = ds) (hd : dstOk ops.toArray s.nt = true) (hb : backOk ops.toArray = true)
    (h : ∀ K : St → Prop,(∀ s',VC P B y Q s' → K s') → runD evOperF P T ds ops 0 s [] fun recs s'=>ordOk (befs ops []) recs = true ∧ K (s'.keep l)) : VC P B (.seq (.region id ops.toArray true) y) Q s:=
  VC.seqDE (evOperF_ok hT) hm ds l hds hd hb h
theorem VC.lastF {T : Nat → TI} (hT : TabOkF P T) (ds : List (Option Nat)) {id : Nat} {ops : List Oper} (hds : ops.map (·.dst) = ds) (hd : dstOk ops.toArray s.nt = true) (h : ∀ K : St → Prop,(∀ s',Q .normal s' → K s') → runOps evOperF P T ds ops 0 s fun s'=>K s') : VC P B (.region id ops.toArray false) Q s:=
  VC.lastRE (evOperF_ok hT) ds hds hd h
theorem VC.lastFD {T : Nat → TI} (hT : TabOkF P T) (hm : P.follows .mixedOrders = true) (ds : List (Option Nat)) {id : Nat} {ops : List Oper} (hds : ops.map (·.dst) = ds) (hd : dstOk ops.toArray s.nt = true) (hb : backOk ops.toArray = true)
    (h : ∀ K : St → Prop,(∀ s',Q .normal s' → K s') → runD evOperF P T ds ops 0 s [] fun recs s'=>ordOk (befs ops []) recs = true ∧ K s') : VC P B (.region id ops.toArray true) Q s:=
  VC.lastDE (evOperF_ok hT) hm ds hds hd hb h
end
def AV.lo0 : AV → AV
  | .sl _ els=>.sl false els
  | v=>v
def AV.lo1 : AV → AV
  | .agg cs=>.agg (cs.map AV.lo0)
  | v=>v.lo0
def AV.lo : AV → AV
  | .tup vs=>.tup (vs.map AV.lo1)
  | v=>v.lo1
def AObj.lo : AObj → AObj
  | .box t cs=>.box t (cs.map AV.lo0)
  | o=>o
theorem VRel.lo0 {w : World} {x : Cx} {hp : Hp} {u : AV} {v : Value} (h : VRel w x hp u v) : VRel w x hp u.lo0 v:=by
  unfold AV.lo0
  split
  · cases h with
    | dat h=>
      cases h with
      | sl _ _ A c sz vals hc hm ht hsz hA hcell hd=>exact .dat (.sl false _ A c sz vals hc hm (by intro h; cases h) hsz hA hcell hd)
  · exact h
theorem map_at {α β : Type} {f : α → β} {l : List α} {i : Nat} {u : β} (h : (l.map f)[i]? = some u) : ∃ a,l[i]? = some a ∧ u = f a:=by
  rw [List.getElem?_map] at h
  obtain ⟨a,h1,h2⟩:=Option.map_eq_some_iff.1 h
  exact ⟨a,h1,h2.symm⟩
theorem VRel.lo1 {w : World} {x : Cx} {hp : Hp} {u : AV} {v : Value} (h : VRel w x hp u v) : VRel w x hp u.lo1 v:=by
  unfold AV.lo1
  split
  · cases h with
    | dat h=>cases h
    | agg cs vs hl h1 h2=>
      refine .agg _ vs (by simpa using hl) h1 fun i u hu=>?_
      obtain ⟨a,ha,rfl⟩:=map_at hu
      exact (h2 i a ha).lo0
  · exact h.lo0
theorem VRel.lo_ {w : World} {x : Cx} {hp : Hp} {u : AV} {v : Value} (h : VRel w x hp u v) : VRel w x hp u.lo v:=by
  unfold AV.lo
  split
  · cases h with
    | dat h=>cases h
    | tup cs vs hl h2=>
      refine .tup _ vs (by simpa using hl) fun i u hu=>?_
      obtain ⟨a,ha,rfl⟩:=map_at hu
      exact (h2 i a ha).lo1
  · exact h.lo1
theorem look_map {α β : Type} (f : α → β) : ∀ (l : List (Nat × α)) (k : Nat),look (l.map fun p=>(p.1,f p.2)) k = (look l k).map f
  | [],k=>rfl
  | (j,v) :: l,k=>by
    simp only [List.map_cons,look]
    split
    · rfl
    · exact look_map f l k
def St.lo_ (s : St) : St:={ s with tm:=s.tm.map (fun p=>(p.1,p.2.lo)),hp:=s.hp.map (fun p=>(p.1,p.2.lo)) }
theorem look_lo {hp : Hp} {k : Nat} {o : AObj} (h : look (hp.map fun p=>(p.1,p.2.lo)) k = some o) : ∃ o0,look hp k = some o0 ∧ o = o0.lo:=by
  rw [look_map] at h
  obtain ⟨a,h1,h2⟩:=Option.map_eq_some_iff.1 h
  exact ⟨a,h1,h2.symm⟩
theorem Mo.lo (w : World) (x : Cx) (hp : Hp) : Mo w x hp w x (hp.map fun p=>(p.1,p.2.lo)):=by
  refine ⟨fun _ h=>h,fun _ _ h=>h,fun _ _=>rfl,fun id _ ⟨t,cs,h⟩=>?_,fun id g sz _ ⟨t,els,h⟩=>?_,fun id _ ⟨es,n,h⟩=>?_⟩
  · obtain ⟨o,h1,h2⟩:=look_lo h
    cases o with
    | box t' cs'=>exact ⟨⟨t',cs',h1⟩,rfl⟩
    | row _ _ _ _=>cases h2
    | mp _ _=>cases h2
  · obtain ⟨o,h1,h2⟩:=look_lo h
    cases o with
    | box t' cs'=>cases h2
    | row t' sz' g' els'=>cases h2; exact ⟨⟨t,els,h1⟩,rfl,rfl⟩
    | mp _ _=>cases h2
  · obtain ⟨o,h1,h2⟩:=look_lo h
    cases o with
    | box t' cs'=>cases h2
    | row _ _ _ _=>cases h2
    | mp es' n'=>cases h2; exact ⟨⟨_,_,h1⟩,rfl⟩
theorem HRel.lo {w : World} {x : Cx} {hp : Hp} (h : HRel w x hp) : HRel w x (hp.map fun p=>(p.1,p.2.lo)):=by
  have m:=Mo.lo w x hp
  refine ⟨h.okb,fun id o hl=>?_,fun id t sz g els g' hl hd=>?_,fun id t sz g els hl=>?_,fun id o b hl hb=>?_,fun id id' o o' b hl hl' hb hb'=>?_,fun id o hl=>?_⟩
  · obtain ⟨o0,h1,_⟩:=look_lo hl
    exact h.dom id o0 h1
  · obtain ⟨o0,h1,h2⟩:=look_lo hl
    cases o0 <;> cases h2
    exact h.gen _ _ _ _ _ _ h1 hd
  · obtain ⟨o0,h1,h2⟩:=look_lo hl
    cases o0 <;> cases h2
    exact h.gdm _ _ _ _ _ h1
  · obtain ⟨o0,h1,_⟩:=look_lo hl
    exact h.liv id o0 b h1 hb
  · obtain ⟨o0,h1,_⟩:=look_lo hl
    obtain ⟨o1,h2,_⟩:=look_lo hl'
    exact h.inj id id' o0 o1 b h1 h2 hb hb'
  · obtain ⟨o0,h1,h2⟩:=look_lo hl
    have h3:=(h.obj id o0 h1).mono m rfl rfl (fun _ _=>rfl)
    subst h2
    cases o0 with
    | box t cs=>
      obtain ⟨b,vs,e1,e2,e3,e4,e5⟩:=h3
      refine ⟨b,vs,e1,e2,by simpa using e3,e4,fun i u hu=>?_⟩
      obtain ⟨a,ha,rfl⟩:=map_at hu
      exact (e5 i a ha).lo0
    | row _ _ _ _=>exact h3
    | mp _ _=>exact h3
theorem Sub.lo (s : St) : Sub s s.lo_:=fun B a w ⟨x,hC⟩=>by
  have m:=Mo.lo w x s.hp
  refine ⟨x,hC.h.lo,fun t u ht=>?_,hC.n,hC.d,?_,hC.mo.trans m,hC.lo,hC.ln,hC.dom⟩
  · rw [St.lo_,look_map] at ht
    obtain ⟨u0,h1,h2⟩:=Option.map_eq_some_iff.1 ht
    rw [← h2]
    exact ((hC.t t u0 h1).mono m).lo_
  · exact ⟨hC.tr.os,hC.tr.tape,hC.tr.output,hC.tr.size,hC.tr.keep,hC.tr.okx,fun id o b hl=>by
      obtain ⟨o0,h1,_⟩:=look_lo hl
      exact hC.tr.newb id o0 b h1⟩
theorem Ctr.lo {P : Program} {f : FuncId} {args : List AV} {H H' : Hp} {r : AV} (h : Ctr P f (args.map AV.lo) H r H') : Ctr P f args H r H':=by
  refine ⟨h.1,fun w x vals hH hdom hsz hargs=>h.2 w x vals hH hdom (by simpa using hsz) fun i u hu=>?_⟩
  obtain ⟨a,ha,rfl⟩:=map_at hu
  exact (hargs i a ha).lo_
theorem Ctr.ofW {P : Program} {T : Nat → TI} (hT : TabOk P T) {f : FuncId} {fn : Func} {c : Code} (hf : P.funcs[f]? = some fn) (hb : fn.body = some c) (hcall : ∀ vals w,(callFunc f vals).run P w = .ok (.enter f vals) w) {args : List AV} {H H' : Hp} {r : AV} (n nt : Nat) (hnt : fn.ntmps = nt) (rs : List ResultVar) (hrs : fn.results.toList = rs)
    (hn : decide (args.length ≤ nt) = true) (hids : (H.all fun p=>decide (p.1 < n)) = true) (h : ∀ B,VC P B c (fun e s'=>∃ s'',Sub s' s'' ∧ Post T rs r H' e s'') ⟨enumA 0 args,H,n,nt,n⟩) : Ctr P f args H r H':=
  Ctr.of hT hf hb hcall n nt hnt rs hrs hn hids fun B a w hs=>wpIn_mono (h B a w hs) fun e a' w' ⟨s',⟨s'',hsub,hq⟩,hr⟩=>⟨s'',hq,hsub B a' w' hr⟩
def Cx.ren (x : Cx) (id i' : Nat) : Cx:={ ok:=x.ok,dom:=fun a h=>(x.dom a h ∧ a ≠ id ∧ a ≠ i') ∨ (a = i' ∧ h = 0),β:=fun a=>if a = i' then x.β id else x.β a,γ:=fun a=>if a = i' then x.γ id else x.γ a }
def off2 (a b : Nat) : Nat → Bool:=fun k=>k != a && k != b
theorem look_ren {hp : Hp} {id i' a : Nat} {o : AObj} : look (Cb i' o (delA id hp)) a = if a = i' then some o else if a = id then none else look hp a:=by rw [look_setA,look_delA]
section
variable {w : World} {x : Cx} {hp : Hp} {id i' g sz lo n : Nat} {rt : TypeId} {els : List (List AV)}
theorem ren_mo (hr : look hp id = some (.row rt sz g els)) : Mo w (x.only (off2 id i')) hp w (x.ren id i') (Cb i' (.row rt sz 0 els) (delA id hp)):=by
  have key : ∀ a h,(x.only (off2 id i')).dom a h → a ≠ id ∧ a ≠ i':=fun a h hd=>by
    have:=hd.2
    simpa [off2] using this
  have lk : ∀ a h,(x.only (off2 id i')).dom a h → look (Cb i' (AObj.row rt sz 0 els) (delA id hp)) a = look hp a:=fun a h hd=>by
    obtain ⟨h1,h2⟩:=key a h hd
    rw [look_ren,if_neg h2,if_neg h1]
  refine ⟨fun _ h=>h,fun a h hd=>.inl ⟨hd.1,key a h hd⟩,fun _ _=>rfl,fun a hd ⟨t,cs,h⟩=>?_,fun a h s hd ⟨t,cs,h1⟩=>?_,fun a hd ⟨t,cs,h⟩=>?_⟩
  · rw [lk a 0 hd] at h
    exact ⟨⟨t,cs,h⟩,if_neg (key a 0 hd).2⟩
  · rw [lk a h hd] at h1
    exact ⟨⟨t,cs,h1⟩,if_neg (key a h hd).2,if_neg (key a h hd).2⟩
  · rw [lk a 0 hd] at h
    exact ⟨⟨t,cs,h⟩,if_neg (key a 0 hd).2⟩
theorem ren_row (hr : look hp id = some (.row rt sz g els)) (h : ORel w x hp id (.row rt sz g els)) : ORel w (x.ren id i') (Cb i' (.row rt sz 0 els) (delA id hp)) i' (.row rt sz 0 els):=by
  obtain ⟨h1,h2⟩:=h
  refine ⟨h1,?_⟩
  have e1 : (x.ren id i').β i' = x.β id:=if_pos rfl
  have e2 : (x.ren id i').γ i' = x.γ id:=if_pos rfl
  rw [e1,e2]
  exact h2
theorem ren_val (hr : look hp id = some (.row rt sz g els)) {v : Value} (h : VRel w x hp (.row id g sz lo n) v) : VRel w (x.ren id i') (Cb i' (.row rt sz 0 els) (delA id hp)) (.row i' 0 sz lo n) v:=by
  cases h with
  | dat h=>cases h
  | row _ _ _ _ _ A c hid hc hh=>
    refine .row _ _ _ _ _ A c (.inr ⟨rfl,rfl⟩) hc fun _=>?_
    have e1 : (x.ren id i').β i' = x.β id:=if_pos rfl
    have e2 : (x.ren id i').γ i' = x.γ id:=if_pos rfl
    rw [e1,e2]
    exact hh ⟨rt,els,hr⟩
theorem ren_h (h : HRel w x hp) (hr : look hp id = some (.row rt sz g els)) (hfr : ∀ a o,look hp a = some o → a ≠ id → a ≠ i' ∧ o.inD (off2 id i') = true) : HRel w (x.ren id i') (Cb i' (.row rt sz 0 els) (delA id hp)):=by
  have lk : ∀ a o,look (Cb i' (AObj.row rt sz 0 els) (delA id hp)) a = some o → (a = i' ∧ o = .row rt sz 0 els) ∨ (a ≠ i' ∧ a ≠ id ∧ look hp a = some o):=fun a o hl=>by
    rw [look_ren] at hl
    split at hl
    · rename_i e
      injection hl with hl
      exact .inl ⟨e,hl.symm⟩
    · split at hl
      · cases hl
      · exact .inr ⟨by assumption,by assumption,hl⟩
  have b1 : (x.ren id i').β i' = x.β id:=if_pos rfl
  have b2 : ∀ a,a ≠ i' → (x.ren id i').β a = x.β a:=fun a ha=>if_neg ha
  have g2 : ∀ a,a ≠ i' → (x.ren id i').γ a = x.γ a:=fun a ha=>if_neg ha
  refine ⟨h.okb,fun a o hl=>?_,fun a t s g1 els1 g' hl hd=>?_,fun a t s g1 els1 hl=>?_,fun a o b hl hb=>?_,fun a a' o o' b hl hl' hb hb'=>?_,fun a o hl=>?_⟩
  · rcases lk a o hl with ⟨e,_⟩ | ⟨n1,n2,hl⟩
    · exact .inr ⟨e,rfl⟩
    · exact .inl ⟨h.dom a o hl,n2,n1⟩
  · rcases lk a _ hl with ⟨e,e2⟩ | ⟨n1,n2,hl⟩
    · cases e2
      rcases hd with hd | hd
      · exact absurd e hd.2.2
      · omega
    · rcases hd with hd | hd
      · exact h.gen a t s g1 els1 g' hl hd.1
      · exact absurd hd.1 n1
  · rcases lk a _ hl with ⟨e,e2⟩ | ⟨n1,n2,hl⟩
    · cases e2
      exact .inr ⟨e,rfl⟩
    · exact .inl ⟨h.gdm a t s g1 els1 hl,n2,n1⟩
  · rcases lk a o hl with ⟨e,e2⟩ | ⟨n1,n2,hl⟩
    · subst e
      rw [b1] at hb
      exact h.liv id _ b hr hb
    · rw [b2 a n1] at hb
      exact h.liv a o b hl hb
  · rcases lk a o hl with ⟨e,e2⟩ | ⟨n1,n2,hL⟩
    · rcases lk a' o' hl' with ⟨e',_⟩ | ⟨n1',n2',hL'⟩
      · rw [e,e']
      · rw [e,b1] at hb
        rw [b2 a' n1'] at hb'
        exact absurd (h.inj id a' _ o' b hr hL' hb hb').symm n2'
    · rcases lk a' o' hl' with ⟨e',_⟩ | ⟨n1',n2',hL'⟩
      · rw [e',b1] at hb'
        rw [b2 a n1] at hb
        exact absurd (h.inj a id o _ b hL hr hb hb') n2
      · rw [b2 a n1] at hb
        rw [b2 a' n1'] at hb'
        exact h.inj a a' o o' b hL hL' hb hb'
  · rcases lk a o hl with ⟨e,e2⟩ | ⟨n1,n2,hl⟩
    · subst e
      subst e2
      exact ren_row hr (h.obj id _ hr)
    · have h1:=(h.obj a o hl).only_ (H:=hp) (fun _ _ h=>h) (d:=off2 id i') (hfr a o hl n2).2
      exact h1.mono (ren_mo hr) (b2 a n1) (g2 a n1) (fun _ _=>rfl)
end
theorem look_del_all {α : Type} {p : Nat × α → Bool} {l : List (Nat × α)} {k j : Nat} {v : α} (h : ((delA k l).all p) = true) (hj : j ≠ k) (hl : look l j = some v) : p (j,v) = true:=
  look_all h (by rw [look_delA,if_neg hj]; exact hl)
theorem Sub.renT {s : St} {k id g sz lo n i' : Nat} {rt : TypeId} {els : List (List AV)} (hj : look s.tm k = some (.row id g sz lo n)) (hr : look s.hp id = some (.row rt sz g els)) (h1 : s.lo ≤ id) (h2 : s.lo ≤ i')
    (hf : ((delA k s.tm).all (fun p=>p.2.in3 (off2 id i')) && (delA id s.hp).all fun p=>p.1 != i' && p.2.inD (off2 id i')) = true) :
    Sub s { s with tm:=Cb k (.row i' 0 sz lo n) s.tm,hp:=Cb i' (.row rt sz 0 els) (delA id s.hp),nx:=max s.nx (i' + 1) }:=fun B a w ⟨x,hC⟩=>by
  simp only [Bool.and_eq_true] at hf
  have hfr : ∀ a o,look s.hp a = some o → a ≠ id → a ≠ i' ∧ o.inD (off2 id i') = true:=fun a o hl ha=>by
    have:=look_del_all hf.2 ha hl
    simpa using this
  have hH:=ren_h (i':=i') hC.h hr hfr
  have hm:=ren_mo (w:=w) (x:=x) (i':=i') hr
  have hlt : ∀ a g,B.x.dom a g → a ≠ id ∧ a ≠ i':=fun a g hd=>by
    have:=hC.lo a g hd
    omega
  have hmB : Mo B.w B.x B.hp w (x.only (off2 id i')) s.hp:=by
    have m1:=hC.mo
    refine ⟨m1.ok,fun a g hd=>⟨m1.dom a g hd,by simpa [off2] using hlt a g hd⟩,m1.ag,m1.box,m1.row,m1.mp⟩
  refine ⟨x.ren id i',hH,fun t u ht=>?_,hC.n,hC.d,?_,hmB.trans hm,hC.lo,Nat.le_trans hC.ln (Nat.le_max_left _ _),fun a g hd=>?_⟩
  · show VRel w _ _ u _
    replace ht : look (Cb k (.row i' 0 sz lo n) s.tm) t = some u:=ht
    rw [look_setA] at ht
    split at ht
    · rename_i e
      injection ht with ht
      subst ht
      rw [e]
      exact ren_val hr (hC.t _ _ hj)
    · rename_i e
      exact ((hC.t t u ht).in3_ (look_del_all hf.1 e ht)).mono hm
  · refine ⟨hC.tr.os,hC.tr.tape,hC.tr.output,hC.tr.size,hC.tr.keep,hC.tr.okx,fun a o b hl hb=>?_⟩
    rw [look_ren] at hl
    split at hl
    · rename_i e
      subst e
      have hb : (if a = a then x.β id else x.β a) = some b:=hb
      rw [if_pos rfl] at hb
      exact hC.tr.newb id _ b hr hb
    · rename_i e
      split at hl
      · cases hl
      · have hb : (if a = i' then x.β id else x.β a) = some b:=hb
        rw [if_neg e] at hb
        exact hC.tr.newb a o b hl hb
  · show a < max s.nx (i' + 1)
    rcases hd with hd | hd
    · have:=hC.dom a g hd.1
      omega
    · omega
theorem Sub.renB {s : St} {b j id g sz lo n i' : Nat} {t rt : TypeId} {cs : List AV} {els : List (List AV)} (hb : look s.hp b = some (.box t cs)) (hj : cs[j]? = some (.row id g sz lo n)) (hr : look s.hp id = some (.row rt sz g els)) (h1 : s.lo ≤ id) (h2 : s.lo ≤ i')
    (hf : (b != i' && ((cs.set j .dead).all (AV.in1 (off2 id i')) && ((s.tm).all (fun p=>p.2.in3 (off2 id i')) && (delA b (delA id s.hp)).all fun p=>p.1 != i' && p.2.inD (off2 id i')))) = true) :
    Sub s { s with hp:=Cb b (.box t (cs.set j (.row i' 0 sz lo n))) (Cb i' (.row rt sz 0 els) (delA id s.hp)),nx:=max s.nx (i' + 1) }:=fun B a w ⟨x,hC⟩=>by
  simp only [Bool.and_eq_true,bne_iff_ne] at hf
  obtain ⟨hbi,hcs,htm,hhp⟩:=hf
  have hbid : b ≠ id:=fun e=>by
    rw [e,hr] at hb
    cases hb
  obtain ⟨bb,vs,e1,e2,e3,e4,e5⟩:=hC.h.obj b _ hb
  have hjl:=lt_of_get hj
  -- first the cell is dead
  have stD:=Stp.boxSet hC.h hb e1 e2 (cs':=cs.set j .dead) (vs':=vs) (by simpa using e3) e4 (fun i u hu=>by
    rw [List.getElem?_set] at hu
    split at hu
    · injection hu with hu
      subst hu
      exact .dead _
    · exact e5 i u hu)
  rw [setRow_self w bb vs t (0,0) e2] at stD
  have hval:=e5 j _ hj
  obtain ⟨hp1,hhp1⟩ : ∃ hp1,hp1 = Cb b (.box t (cs.set j .dead)) s.hp:=⟨_,rfl⟩
  rw [← hhp1] at stD
  have hr1 : look hp1 id = some (.row rt sz g els):=by rw [hhp1,look_setA,if_neg (Ne.symm hbid)]; exact hr
  have hfr : ∀ a o,look hp1 a = some o → a ≠ id → a ≠ i' ∧ o.inD (off2 id i') = true:=fun a o hl ha=>by
    rw [hhp1,look_setA] at hl
    split at hl
    · rename_i e
      injection hl with hl
      subst hl
      subst e
      exact ⟨hbi,hcs⟩
    · rename_i e
      have : look (delA b (delA id s.hp)) a = some o:=by rw [look_delA,if_neg e,look_delA,if_neg ha]; exact hl
      have:=look_all hhp this
      simpa using this
  have hH:=ren_h (i':=i') stD.h hr1 hfr
  have hm:=ren_mo (w:=w) (x:=x) (i':=i') hr1
  have hlt : ∀ a g,B.x.dom a g → a ≠ id ∧ a ≠ i':=fun a g hd=>by
    have:=hC.lo a g hd
    omega
  have hmB : Mo B.w B.x B.hp w (x.only (off2 id i')) hp1:=by
    have m1:=hC.mo.trans stD.mo
    refine ⟨m1.ok,fun a g hd=>⟨m1.dom a g hd,by simpa [off2] using hlt a g hd⟩,m1.ag,m1.box,m1.row,m1.mp⟩
  have hm2:=hmB.trans hm
  -- then it is the row
  have hb2 : look (Cb i' (AObj.row rt sz 0 els) (delA id hp1)) b = some (.box t (cs.set j .dead)):=by
    rw [look_ren,if_neg hbi,if_neg hbid,hhp1,look_setA,if_pos rfl]
  obtain ⟨bb2,vs2,f1,f2,f3,f4,f5⟩:=hH.obj b _ hb2
  have hβ : (x.ren id i').β b = x.β b:=if_neg hbi
  have hbb : bb2 = bb:=by
    rw [hβ,e1] at f1
    injection f1 with f1
    exact f1.symm
  subst hbb
  have hvs : vs2 = vs:=by
    rw [e2] at f2
    injection f2 with f2
    cases f2
    rfl
  subst hvs
  have hval1 : VRel w x hp1 (.row id g sz lo n) (vs2.getD j undef):=hval.mono stD.mo
  have st2:=Stp.boxSet hH hb2 f1 f2 (cs':=cs.set j (.row i' 0 sz lo n)) (vs':=vs2) (by simpa using f3) f4 (fun i u hu=>by
    rw [List.getElem?_set] at hu
    split at hu
    · rename_i e
      injection hu with hu
      subst hu
      rw [← e]
      exact ren_val hr1 hval1
    · rename_i e
      refine f5 i u ?_
      rw [List.getElem?_set,if_neg e]
      exact hu)
  rw [setRow_self w bb2 vs2 t (0,0) f2] at st2
  have hsame : ∀ k,look (Cb b (AObj.box t (cs.set j (.row i' 0 sz lo n))) (Cb i' (AObj.row rt sz 0 els) (delA id hp1))) k = look (Cb b (AObj.box t (cs.set j (.row i' 0 sz lo n))) (Cb i' (AObj.row rt sz 0 els) (delA id s.hp))) k:=by
    intro k
    by_cases e : k = b
    · simp only [look_setA,if_pos e]
    · simp only [look_setA,if_neg e,look_delA,hhp1]
  have fin : SRel B ⟨s.tm,Cb b (AObj.box t (cs.set j (.row i' 0 sz lo n))) (Cb i' (AObj.row rt sz 0 els) (delA id hp1)),max s.nx (i' + 1),s.nt,s.lo⟩ a w:=by
    refine ⟨x.ren id i',st2.h,fun t u ht=>?_,hC.n,hC.d,?_,hm2.trans st2.mo,hC.lo,Nat.le_trans hC.ln (Nat.le_max_left _ _),fun a g hd=>?_⟩
    · exact ((((hC.t t u ht).mono stD.mo).in3_ (look_all htm ht)).mono hm).mono st2.mo
    · have t1 : Tr B.w B.x B.hp w (x.ren id i') (Cb i' (AObj.row rt sz 0 els) (delA id hp1)):=by
        have t0:=hC.tr.trans stD.tr
        refine ⟨t0.os,t0.tape,t0.output,t0.size,t0.keep,t0.okx,fun a o b hl hb=>?_⟩
        rw [look_ren] at hl
        split at hl
        · rename_i e
          subst e
          have hb : (if a = a then x.β id else x.β a) = some b:=hb
          rw [if_pos rfl] at hb
          exact t0.newb id _ b hr1 hb
        · rename_i e
          split at hl
          · cases hl
          · have hb : (if a = i' then x.β id else x.β a) = some b:=hb
            rw [if_neg e] at hb
            exact t0.newb a o b hl hb
      exact t1.trans st2.tr
    · show a < max s.nx (i' + 1)
      rcases hd with hd | hd
      · have:=hC.dom a g hd.1
        omega
      · omega
  refine SRel.eqv ?_ fin
  exact ⟨fun _=>rfl,hsame,rfl,rfl,rfl⟩
def AV.ren0 (π : Nat → Nat) : AV → AV
  | .ref id off=>.ref (π id) off
  | .elt id g sz i off=>.elt (π id) g sz i off
  | .row id g sz lo n=>.row (π id) g sz lo n
  | .bsl id off n=>.bsl (π id) off n
  | .rsl id g sz i off n=>.rsl (π id) g sz i off n
  | .mp id=>.mp (π id)
  | .raw v=>.raw v
  | .sl t els=>.sl t els
  | .dat sz els i off=>.dat sz els i off
  | _=>.dead
def AV.ren1 (π : Nat → Nat) : AV → AV
  | .fn f a b=>.fn f (a.map (AV.ren0 π)) (b.map (AV.ren0 π))
  | v=>v.ren0 π
def AV.ren2 (π : Nat → Nat) : AV → AV
  | .agg cs=>.agg (cs.map (AV.ren1 π))
  | v=>v.ren1 π
def AV.ren3 (π : Nat → Nat) : AV → AV
  | .tup cs=>.tup (cs.map (AV.ren2 π))
  | v=>v.ren2 π
def AObj.ren (π : Nat → Nat) : AObj → AObj
  | .box t cs=>.box t (cs.map (AV.ren1 π))
  | .row t sz g els=>.row t sz g els
  | .mp es n=>.mp (es.map fun p=>(p.1,p.2.ren1 π)) n
def renH (π : Nat → Nat) (H : Hp) : Hp:=H.map fun p=>(π p.1,p.2.ren π)
structure Bij (π σ : Nat → Nat) : Prop where
  a : ∀ k,σ (π k) = k
  b : ∀ k,π (σ k) = k
theorem Bij.symm {π σ : Nat → Nat} (h : Bij π σ) : Bij σ π:=⟨h.b,h.a⟩
def swp (a b k : Nat) : Nat:=if k = a then b else if k = b then a else k
theorem swp_swp (a b k : Nat) : swp a b (swp a b k) = k:=by
  unfold swp
  split
  · rename_i h
    split
    · rename_i h2
      omega
    · simp [h]
  · rename_i h
    split
    · rename_i h2
      simp [h2]
    · rfl
theorem Bij.id : Bij (fun k=>k) (fun k=>k):=⟨fun _=>rfl,fun _=>rfl⟩
theorem Bij.swp {π σ : Nat → Nat} (a b : Nat) (h : Bij π σ) : Bij (fun k=>Go.Proofs.YtcffmheeofjifaaGreat.swp a b (π k)) (fun k=>σ (Go.Proofs.YtcffmheeofjifaaGreat.swp a b k)):=⟨fun k=>by rw [swp_swp,h.a],fun k=>by rw [h.b,swp_swp]⟩
section
variable {π σ : Nat → Nat}
theorem look_renH (h : Bij π σ) : ∀ (H : Hp) (k : Nat),look (renH π H) k = (look H (σ k)).map (AObj.ren π)
  | [],k=>rfl
  | (j,o) :: H,k=>by
    simp only [renH,List.map_cons,look]
    by_cases e : k = π j
    · rw [if_pos e,if_pos (by rw [e,h.a])]
      rfl
    · rw [if_neg e,if_neg (fun e2=>e (by rw [← e2,h.b]))]
      exact look_renH h H k
def Cx.at_ (x : Cx) (σ : Nat → Nat) : Cx:={ ok:=x.ok,dom:=fun k g=>x.dom (σ k) g,β:=fun k=>x.β (σ k),γ:=fun k=>x.γ (σ k) }
variable {w : World} {x : Cx} {hp : Hp}
theorem boxL_ren (h : Bij π σ) {id : Nat} (hb : boxL (renH π hp) id) : boxL hp (σ id):=by
  obtain ⟨t,cs,e⟩:=hb
  rw [look_renH h] at e
  obtain ⟨o,e1,e2⟩:=Option.map_eq_some_iff.1 e
  cases o <;> cases e2
  exact ⟨_,_,e1⟩
theorem rowL_ren (h : Bij π σ) {id g sz : Nat} (hb : rowL (renH π hp) id g sz) : rowL hp (σ id) g sz:=by
  obtain ⟨t,cs,e⟩:=hb
  rw [look_renH h] at e
  obtain ⟨o,e1,e2⟩:=Option.map_eq_some_iff.1 e
  cases o <;> cases e2
  exact ⟨_,_,e1⟩
theorem mpL_ren (h : Bij π σ) {id : Nat} (hb : mpL (renH π hp) id) : mpL hp (σ id):=by
  obtain ⟨t,cs,e⟩:=hb
  rw [look_renH h] at e
  obtain ⟨o,e1,e2⟩:=Option.map_eq_some_iff.1 e
  cases o <;> cases e2
  exact ⟨_,_,e1⟩
theorem VRel.ren0 (h : Bij π σ) {u : AV} {v : Value} (hv : VRel w x hp u v) : VRel w (x.at_ σ) (renH π hp) (u.ren0 π) v:=by
  cases hv with
  | dat hd=>cases hd with
    | raw v=>exact .raw v
    | sl t els A c sz vals a1 a2 a3 a4 a5 a6 a7=>exact .dat (.sl t els A c sz vals a1 a2 a3 a4 a5 a6 a7)
  | agg cs vs hl h1 _=>exact .dead _
  | tup cs vs hl _=>exact .dead _
  | ref id off p hid hh=>
    refine .ref _ _ _ (by show x.dom (σ (π id)) 0; rw [h.a]; exact hid) fun hb=>?_
    have:=boxL_ren h hb
    rw [h.a] at this
    obtain ⟨b,e1,e2⟩:=hh this
    exact ⟨b,by show x.β (σ (π id)) = _; rw [h.a]; exact e1,e2⟩
  | elt id g sz i off p hid hh=>
    refine .elt _ _ _ _ _ _ (by show x.dom (σ (π id)) g; rw [h.a]; exact hid) fun hb=>?_
    have:=rowL_ren h hb
    rw [h.a] at this
    obtain ⟨b,e1,e2⟩:=hh this
    exact ⟨b,by show x.β (σ (π id)) = _; rw [h.a]; exact e1,e2⟩
  | datp els i off sz a vals hok hsz hcell hd=>exact .datp els i off sz a vals hok hsz hcell hd
  | row id g sz lo n A c hid hc hh=>
    refine .row _ _ _ _ _ _ _ (by show x.dom (σ (π id)) g; rw [h.a]; exact hid) hc fun hb=>?_
    have:=rowL_ren h hb
    rw [h.a] at this
    have e : (x.at_ σ).β (π id) = x.β id:=by show x.β (σ (π id)) = _; rw [h.a]
    have e2 : (x.at_ σ).γ (π id) = x.γ id:=by show x.γ (σ (π id)) = _; rw [h.a]
    rw [e,e2]
    exact hh this
  | bsl id off n A c hid hc hm hh=>
    refine .bsl _ _ _ _ _ (by show x.dom (σ (π id)) 0; rw [h.a]; exact hid) hc hm fun hb=>?_
    have:=boxL_ren h hb
    rw [h.a] at this
    have e : (x.at_ σ).β (π id) = x.β id:=by show x.β (σ (π id)) = _; rw [h.a]
    rw [e]
    exact hh this
  | rsl id g sz i off n A c hid hc hm hh=>
    refine .rsl _ _ _ _ _ _ _ _ (by show x.dom (σ (π id)) g; rw [h.a]; exact hid) hc hm fun hb=>?_
    have:=rowL_ren h hb
    rw [h.a] at this
    have e : (x.at_ σ).β (π id) = x.β id:=by show x.β (σ (π id)) = _; rw [h.a]
    rw [e]
    exact hh this
  | fn _ first caps fs cs hl hl' _ _=>exact .dead _
  | mp id r hid hh=>
    refine .mp _ _ (by show x.dom (σ (π id)) 0; rw [h.a]; exact hid) fun hb=>?_
    have:=mpL_ren h hb
    rw [h.a] at this
    have e : (x.at_ σ).β (π id) = x.β id:=by show x.β (σ (π id)) = _; rw [h.a]
    rw [e]
    exact hh this
  | ifb c u v h0 _=>exact .dead _
  | dead v=>exact .dead v
theorem VRel.ren1 (h : Bij π σ) {u : AV} {v : Value} (hv : VRel w x hp u v) : VRel w (x.at_ σ) (renH π hp) (u.ren1 π) v:=by
  unfold AV.ren1
  split
  · cases hv with
    | dat hd=>cases hd
    | fn f first caps fs cs hl hl' h1 h2=>
      refine .fn _ _ _ fs cs (by simpa using hl) (by simpa using hl') (fun i u hu=>?_) (fun i u hu=>?_)
      · obtain ⟨a,ha,rfl⟩:=map_at hu
        exact (h1 i a ha).ren0 h
      · obtain ⟨a,ha,rfl⟩:=map_at hu
        exact (h2 i a ha).ren0 h
  · exact hv.ren0 h
theorem VRel.ren2 (h : Bij π σ) {u : AV} {v : Value} (hv : VRel w x hp u v) : VRel w (x.at_ σ) (renH π hp) (u.ren2 π) v:=by
  unfold AV.ren2
  split
  · cases hv with
    | dat hd=>cases hd
    | agg cs vs hl h1 h2=>
      refine .agg _ vs (by simpa using hl) h1 fun i u hu=>?_
      obtain ⟨a,ha,rfl⟩:=map_at hu
      exact (h2 i a ha).ren1 h
  · exact hv.ren1 h
theorem VRel.ren3 (h : Bij π σ) {u : AV} {v : Value} (hv : VRel w x hp u v) : VRel w (x.at_ σ) (renH π hp) (u.ren3 π) v:=by
  unfold AV.ren3
  split
  · cases hv with
    | dat hd=>cases hd
    | tup cs vs hl h2=>
      refine .tup _ vs (by simpa using hl) fun i u hu=>?_
      obtain ⟨a,ha,rfl⟩:=map_at hu
      exact (h2 i a ha).ren2 h
  · exact hv.ren2 h
theorem renH_at (h : Bij π σ) {id : Nat} {o : AObj} (hl : look (renH π hp) id = some o) : ∃ o0,look hp (σ id) = some o0 ∧ o = o0.ren π:=by
  rw [look_renH h] at hl
  obtain ⟨o0,h1,h2⟩:=Option.map_eq_some_iff.1 hl
  exact ⟨o0,h1,h2.symm⟩
theorem σ_inj (h : Bij π σ) {a b : Nat} (e : σ a = σ b) : a = b:=by rw [← h.b a,e,h.b]
theorem HRel.ren (h : Bij π σ) (hH : HRel w x hp) : HRel w (x.at_ σ) (renH π hp):=by
  refine ⟨hH.okb,fun id o hl=>?_,fun id t sz g els g' hl hd=>?_,fun id t sz g els hl=>?_,fun id o b hl hb=>?_,fun id id' o o' b hl hl' hb hb'=>?_,fun id o hl=>?_⟩
  · obtain ⟨o0,h1,_⟩:=renH_at h hl
    exact hH.dom _ _ h1
  · obtain ⟨o0,h1,h2⟩:=renH_at h hl
    cases o0 <;> cases h2
    exact hH.gen _ _ _ _ _ _ h1 hd
  · obtain ⟨o0,h1,h2⟩:=renH_at h hl
    cases o0 <;> cases h2
    exact hH.gdm _ _ _ _ _ h1
  · obtain ⟨o0,h1,_⟩:=renH_at h hl
    exact hH.liv _ _ _ h1 hb
  · obtain ⟨o0,h1,_⟩:=renH_at h hl
    obtain ⟨o1,h2,_⟩:=renH_at h hl'
    exact σ_inj h (hH.inj _ _ _ _ _ h1 h2 hb hb')
  · obtain ⟨o0,h1,h2⟩:=renH_at h hl
    subst h2
    have h3:=hH.obj _ _ h1
    cases o0 with
    | box t cs=>
      obtain ⟨b,vs,e1,e2,e3,e4,e5⟩:=h3
      refine ⟨b,vs,e1,e2,by simpa using e3,e4,fun i u hu=>?_⟩
      obtain ⟨a,ha,rfl⟩:=map_at hu
      exact (e5 i a ha).ren1 h
    | row t sz g els=>exact h3
    | mp es n=>
      obtain ⟨b,ms,e1,e2,e3,e5⟩:=h3
      refine ⟨b,ms,e1,e2,by rw [List.map_map]; exact e3,fun i k u hu=>?_⟩
      obtain ⟨a,ha,e⟩:=map_at hu
      obtain ⟨k0,u0⟩:=a
      simp only [Prod.mk.injEq] at e
      obtain ⟨rfl,rfl⟩:=e
      obtain ⟨m,m1,m2,m3⟩:=e5 i _ _ ha
      exact ⟨m,m1,m2,m3.ren1 h⟩
theorem boxL_ren' (h : Bij π σ) {id : Nat} (hb : boxL hp (σ id)) : boxL (renH π hp) id:=by
  obtain ⟨t,cs,e⟩:=hb
  exact ⟨t,cs.map (AV.ren1 π),by rw [look_renH h,e]; rfl⟩
theorem rowL_ren' (h : Bij π σ) {id g sz : Nat} (hb : rowL hp (σ id) g sz) : rowL (renH π hp) id g sz:=by
  obtain ⟨t,cs,e⟩:=hb
  exact ⟨t,cs,by rw [look_renH h,e]; rfl⟩
theorem mpL_ren' (h : Bij π σ) {id : Nat} (hb : mpL hp (σ id)) : mpL (renH π hp) id:=by
  obtain ⟨es,n,e⟩:=hb
  exact ⟨_,n,by rw [look_renH h,e]; rfl⟩
theorem Stp.ren (h : Bij π σ) {w' : World} {x' : Cx} {hp' : Hp} (st : Stp w x hp w' x' hp') : Stp w (x.at_ σ) (renH π hp) w' (x'.at_ σ) (renH π hp'):=by
  have m:=st.mo
  have t:=st.tr
  refine ⟨⟨m.ok,fun id g hd=>m.dom _ g hd,m.ag,fun id hd hb=>?_,fun id g sz hd hb=>?_,fun id hd hb=>?_⟩,⟨t.os,t.tape,t.output,t.size,fun b hb hn=>?_,fun b hb=>?_,fun id o b hl hb=>?_⟩,st.h.ren h⟩
  · obtain ⟨h1,h2⟩:=m.box _ hd (boxL_ren h hb)
    exact ⟨boxL_ren' h h1,h2⟩
  · obtain ⟨h1,h2⟩:=m.row _ _ _ hd (rowL_ren h hb)
    exact ⟨rowL_ren' h h1,h2⟩
  · obtain ⟨h1,h2⟩:=m.mp _ hd (mpL_ren h hb)
    exact ⟨mpL_ren' h h1,h2⟩
  · refine t.keep b hb fun id o hl=>?_
    have:=hn (π id) (o.ren π) (by rw [look_renH h,h.a,hl]; rfl)
    have e : (x.at_ σ).β (π id) = x.β id:=by show x.β (σ (π id)) = _; rw [h.a]
    rw [e] at this
    exact this
  · rcases t.okx b hb with h1 | h1 | ⟨id,o,h1,h2⟩
    · exact .inl h1
    · exact .inr (.inl h1)
    · refine .inr (.inr ⟨π id,o.ren π,by rw [look_renH h,h.a,h1]; rfl,?_⟩)
      show x.β (σ (π id)) = _
      rw [h.a]
      exact h2
  · obtain ⟨o0,h1,_⟩:=renH_at h hl
    rcases t.newb _ _ b h1 hb with h2 | ⟨id,o,h2,h3⟩
    · exact .inl h2
    · refine .inr ⟨π id,o.ren π,by rw [look_renH h,h.a,h2]; rfl,?_⟩
      show x.β (σ (π id)) = _
      rw [h.a]
      exact h3
end
theorem Bij.at_at {π σ : Nat → Nat} (h : Bij π σ) (x : Cx) : (x.at_ π).at_ σ = x:=by
  unfold Cx.at_
  simp only [h.b]
theorem has_renH {π σ : Nat → Nat} (h : Bij π σ) (H : Hp) (k : Nat) : Hp.has (renH π H) k = Hp.has H (σ k):=by
  unfold Hp.has
  rw [look_renH h]
  cases look H (σ k) <;> rfl
theorem back_ren {π σ : Nat → Nat} (h : Bij π σ) {w : World} {x : Cx} {H H0' : Hp} {w' : World} {x' : Cx} (st : Stp w (x.at_ π) (renH σ H) w' x' H0') : Stp w x H w' (x'.at_ σ) (renH π H0'):=by
  have st2:=st.ren h
  rw [h.at_at] at st2
  have hS:=h.symm
  have rt : ∀ id o,look (renH π (renH σ H)) id = some o → ∃ o0,look H id = some o0:=fun id o hl=>by
    obtain ⟨o1,h1,_⟩:=renH_at h hl
    obtain ⟨o0,h2,_⟩:=renH_at hS h1
    rw [h.b] at h2
    exact ⟨o0,h2⟩
  have rt' : ∀ id o,look H id = some o → look (renH π (renH σ H)) id = some ((o.ren σ).ren π):=fun id o hl=>by
    rw [look_renH h,look_renH hS,h.b,hl]
    rfl
  have m:=st2.mo
  have t:=st2.tr
  refine ⟨⟨m.ok,m.dom,m.ag,fun id hd hb=>?_,fun id g sz hd hb=>?_,fun id hd hb=>?_⟩,⟨t.os,t.tape,t.output,t.size,fun b hb hn=>?_,fun b hb=>?_,fun id o b hl hb=>?_⟩,st2.h⟩
  · obtain ⟨h1,h2⟩:=m.box id hd hb
    have:=boxL_ren hS (boxL_ren h h1)
    rw [h.b] at this
    exact ⟨this,h2⟩
  · obtain ⟨h1,h2⟩:=m.row id g sz hd hb
    have:=rowL_ren hS (rowL_ren h h1)
    rw [h.b] at this
    exact ⟨this,h2⟩
  · obtain ⟨h1,h2⟩:=m.mp id hd hb
    have:=mpL_ren hS (mpL_ren h h1)
    rw [h.b] at this
    exact ⟨this,h2⟩
  · refine t.keep b hb fun id o hl=>?_
    obtain ⟨o0,h1⟩:=rt id o hl
    exact hn id o0 h1
  · rcases t.okx b hb with h1 | h1 | ⟨id,o,h1,h2⟩
    · exact .inl h1
    · exact .inr (.inl h1)
    · obtain ⟨o0,h3⟩:=rt id o h1
      exact .inr (.inr ⟨id,o0,h3,h2⟩)
  · rcases t.newb id o b hl hb with h2 | ⟨id0,o0,h2,h3⟩
    · exact .inl h2
    · obtain ⟨o1,h4⟩:=rt id0 o0 h2
      exact .inr ⟨id0,o1,h4,h3⟩
theorem Ctr.ren {P : Program} {f : FuncId} {π σ : Nat → Nat} (hB : Bij π σ) {args args0 : List AV} {H H0 H0' : Hp} {r0 : AV} (hc : Ctr P f args0 H0 r0 H0') (ha : args.map (AV.ren3 σ) = args0) (hH : renH σ H = H0) : Ctr P f args H (r0.ren3 π) (renH π H0'):=by
  refine ⟨hc.1,fun w x vals hx hdom hsz hargs=>?_⟩
  have hS:=hB.symm
  have h1:=hx.ren hS
  rw [hH] at h1
  refine Calls.mono (hc.2 w (x.at_ π) vals h1 (fun id g hd=>?_) (by rw [← ha]; simpa using hsz) (fun i u hu=>?_)) ?_
  · rw [← hH,has_renH hS]
    exact hdom _ g hd
  · rw [← ha] at hu
    obtain ⟨a,ha',rfl⟩:=map_at hu
    have:=(hargs i a ha').ren3 hS
    rw [hH] at this
    exact this
  · rintro e w' ⟨v,x',e1,e2,e3,e4⟩
    refine ⟨v,x'.at_ σ,e1,back_ren hB (by rw [hH]; exact e2),e3.ren3 hB,fun id g hd=>?_⟩
    rw [has_renH hB]
    rcases e4 _ g hd with h2 | h2
    · exact .inl h2
    · right
      rw [← hH,has_renH hS,hB.b] at h2
      exact h2
def AV.lend0 (H : Hp) : AV → AV
  | .raw v=>.raw v
  | .sl t els=>.sl false els
  | .row id g sz lo n=>match look H id with
    | some (.row _ sz' g' els)=>if g = g' ∧ sz = sz' ∧ lo + n ≤ els.length ∧ 0 < sz then .sl false ((els.drop lo).take n) else .dead
    | _=>.dead
  | _=>.dead
def AV.lend1 (H : Hp) : AV → AV
  | .agg cs=>.agg (cs.map (AV.lend0 H))
  | v=>v.lend0 H
def AV.rawy : AV → Bool
  | .raw _=>true
  | .tup vs=>vs.all fun v=>match v with | .raw _=>true | _=>false
  | _=>false
def Cx.lent (x : Cx) (H : Hp) : Cx:={ x with ok:=fun b=>x.ok b ∨ ∃ id o,look H id = some o ∧ x.β id = some b,dom:=fun _ _=>False }
theorem core_of {w : World} {x : Cx} {H : Hp} (h : HRel w x H) : Core ⟨w,{ x with dom:=fun _ _=>False },H,none⟩ (fun _=>True) ⟨[],H,0,0,0⟩ { tmps:=#[],defers:=[] } w x:=
  ⟨h,fun t u ht=>(by simp [look] at ht),rfl,Mk.nil _ _ _,⟨rfl,rfl,rfl,Nat.le_refl _,fun _ _ _=>rfl,fun b hb=>.inl hb,fun id o b h1 h2=>.inr ⟨id,o,h1,h2⟩⟩,⟨fun _ h=>h,fun _ _ h=>False.elim h,fun _ _=>rfl,fun _ h=>False.elim h,fun _ _ _ h=>False.elim h,fun _ h=>False.elim h⟩,fun _ _ h=>False.elim h,Nat.le_refl _,fun _ _ _=>trivial⟩
section
variable {w : World} {x : Cx} {H : Hp}
theorem VRel.lend0 (P : Program) (h : HRel w x H) {u : AV} {v : Value} (hv : VRel w x H u v) : VRel w (x.lent H) [] (u.lend0 H) v:=by
  unfold AV.lend0
  split
  · have e:=hv.rawEq
    subst e
    exact .raw _
  · cases hv with
    | dat hd=>
      have hd':=hd.mono (ok':=(x.lent H).ok) (w':=w) (fun b hb=>.inl hb) (fun _ _=>rfl)
      cases hd' with
      | sl _ _ A c sz vals hc hm ht hsz hA hcell hd2=>exact .dat (.sl false _ A c sz vals hc hm (fun h=>(by cases h)) hsz hA hcell hd2)
  · rename_i id g sz lo n
    split
    · rename_i t sz' g' els hl
      split
      · rename_i hc
        obtain ⟨rfl,rfl,hle,hs⟩:=hc
        obtain ⟨u',ids,h6,h7⟩:=normQ_s (P:=P) (nid:=0) (s:=⟨[],H,0,0,0⟩) (K:=fun _ _=>True) (k:=fun v wr=>.need (v = .sl false ((els.drop lo).take n) ∧ wr = [(id,none)]) (.done v wr)) (core_of h) hv (by
          simp only [normQ,wpQ,hl]
          exact ⟨⟨trivial,trivial,hle,hs⟩,⟨trivial,trivial⟩,trivial⟩)
        obtain ⟨⟨e1,e2⟩,_⟩:=h7
        subst e1
        exact .dat (h6.2 (x.lent H) (fun b hb=>.inl hb) (fun i hi hh bl hbl=>by
          obtain ⟨o,ho⟩:=Option.isSome_iff_exists.1 hh
          exact .inr ⟨i,o,ho,hbl⟩))
      · exact .dead _
    · exact .dead _
  · exact .dead _
theorem VRel.lend1 (P : Program) (h : HRel w x H) {u : AV} {v : Value} (hv : VRel w x H u v) : VRel w (x.lent H) [] (u.lend1 H) v:=by
  unfold AV.lend1
  split
  · cases hv with
    | dat hd=>cases hd
    | agg cs vs hl h1 h2=>
      refine .agg _ vs (by simpa using hl) h1 fun i u hu=>?_
      obtain ⟨a,ha,rfl⟩:=map_at hu
      exact (h2 i a ha).lend0 P h
  · exact hv.lend0 P h
theorem VRel.rawy_ {w' : World} {x' x2 : Cx} {hp hp2 : Hp} {u : AV} {v : Value} (hr : u.rawy = true) (hv : VRel w' x' hp u v) : VRel w' x2 hp2 u v:=by
  unfold AV.rawy at hr
  split at hr
  · have e:=hv.rawEq
    subst e
    exact .raw _
  · cases hv with
    | dat hd=>cases hd
    | tup cs vs hl h2=>
      refine .tup _ vs hl fun i u hu=>?_
      have h3:=all_at hr hu
      have h4:=h2 i u hu
      split at h3
      · have e:=h4.rawEq
        rw [e]
        exact .raw _
      · cases h3
  · cases hr
end
theorem Ctr.borrow {P : Program} {f : FuncId} {args args0 : List AV} {H : Hp} {r : AV} (hc : Ctr P f args0 [] r []) (ha : args.map (AV.lend1 H) = args0) (hr : r.rawy = true) : Ctr P f args H r H:=by
  refine ⟨hc.1,fun w x vals hx hdom hsz hargs=>?_⟩
  have hx0 : HRel w (x.lent H) []:=by
    refine ⟨fun b hb=>?_,fun id o hl=>by simp [look] at hl,fun id t sz g els g' hl=>by simp [look] at hl,fun id t sz g els hl=>by simp [look] at hl,fun id o b hl=>by simp [look] at hl,fun id id' o o' b hl=>by simp [look] at hl,fun id o hl=>by simp [look] at hl⟩
    rcases hb with h1 | ⟨id,o,h1,h2⟩
    · exact hx.okb b h1
    · exact (hx.liv id o b h1 h2).1
  refine Calls.mono (hc.2 w (x.lent H) vals hx0 (fun id g hd=>False.elim hd) (by rw [← ha]; simpa using hsz) (fun i u hu=>?_)) ?_
  · rw [← ha] at hu
    obtain ⟨a,ha',rfl⟩:=map_at hu
    exact (hargs i a ha').lend1 P hx
  · rintro e w' ⟨v,x',e1,st,e3,e4⟩
    have m:=st.mo
    have t:=st.tr
    have hb : ∀ id o b,look H id = some o → x.β id = some b → w'.heap[b]? = w.heap[b]?:=fun id o b h1 h2=>m.ag b (.inr ⟨id,o,h1,h2⟩)
    have mo : Mo w x H w' x H:=⟨fun _ h=>h,fun _ _ h=>h,fun b hb=>m.ag b (.inl hb),fun _ _ h=>⟨h,rfl⟩,fun _ _ _ _ h=>⟨h,rfl,rfl⟩,fun _ _ h=>⟨h,rfl⟩⟩
    refine ⟨v,x,e1,⟨mo,⟨t.os,t.tape,t.output,t.size,fun b hb _=>t.keep b hb (fun id o hl=>by simp [look] at hl),fun b hb=>.inl hb,fun id o b h1 h2=>.inr ⟨id,o,h1,h2⟩⟩,⟨fun b hb=>Nat.lt_of_lt_of_le (hx.okb b hb) t.size,hx.dom,hx.gen,hx.gdm,fun id o b h1 h2=>⟨Nat.lt_of_lt_of_le (hx.liv id o b h1 h2).1 t.size,(hx.liv id o b h1 h2).2⟩,hx.inj,fun id o hl=>(hx.obj id o hl).mono mo rfl rfl (fun b h2=>hb id o b hl h2)⟩⟩,e3.rawy_ hr,fun id g hd=>.inr (hdom id g hd)⟩
theorem Ctr.loH {P : Program} {f : FuncId} {args : List AV} {H H' : Hp} {r : AV} (h : Ctr P f (args.map AV.lo) (H.map fun p=>(p.1,p.2.lo)) r H') : Ctr P f args H r H':=by
  refine ⟨h.1,fun w x vals hH hdom hsz hargs=>?_⟩
  have m0:=Mo.lo w x H
  have has : ∀ id,Hp.has (H.map fun p=>(p.1,p.2.lo)) id = Hp.has H id:=fun id=>by
    unfold Hp.has
    rw [look_map]
    cases look H id <;> rfl
  refine Calls.mono (h.2 w x vals hH.lo (fun id g hd=>by rw [has]; exact hdom id g hd) (by simpa using hsz) (fun i u hu=>?_)) ?_
  · obtain ⟨a,ha,rfl⟩:=map_at hu
    exact ((hargs i a ha).mono m0).lo_
  · rintro e w' ⟨v,x',e1,st,e3,e4⟩
    have t:=st.tr
    have look' : ∀ id o,look (H.map fun p=>(p.1,p.2.lo)) id = some o → ∃ o0,look H id = some o0:=fun id o hl=>by
      obtain ⟨o0,h1,_⟩:=look_lo hl
      exact ⟨o0,h1⟩
    refine ⟨v,x',e1,⟨m0.trans st.mo,⟨t.os,t.tape,t.output,t.size,fun b hb hn=>t.keep b hb fun id o hl=>?_,fun b hb=>?_,fun id o b h1 h2=>?_⟩,st.h⟩,e3,fun id g hd=>by rw [← has]; exact e4 id g hd⟩
    · obtain ⟨o0,h1⟩:=look' id o hl
      exact hn id o0 h1
    · rcases t.okx b hb with h1 | h1 | ⟨id,o,h1,h2⟩
      · exact .inl h1
      · exact .inr (.inl h1)
      · obtain ⟨o0,h3⟩:=look' id o h1
        exact .inr (.inr ⟨id,o0,h3,h2⟩)
    · rcases t.newb id o b h1 h2 with h3 | ⟨id0,o0,h3,h4⟩
      · exact .inl h3
      · obtain ⟨o1,h5⟩:=look' id0 o0 h3
        exact .inr ⟨id0,o1,h5,h4⟩
theorem Ctr.consume {P : Program} {f : FuncId} {args args0 : List AV} {H H' : Hp} {r : AV} (hc : Ctr P f args0 [] r H') (ha : args.map (AV.lend1 H) = args0) (hd : (H'.all fun p=>!Hp.has H p.1) = true) : Ctr P f args H r H':=by
  refine ⟨hc.1,fun w x vals hx hdom hsz hargs=>?_⟩
  have hx0 : HRel w (x.lent H) []:=by
    refine ⟨fun b hb=>?_,fun id o hl=>by simp [look] at hl,fun id t sz g els g' hl=>by simp [look] at hl,fun id t sz g els hl=>by simp [look] at hl,fun id o b hl=>by simp [look] at hl,fun id id' o o' b hl=>by simp [look] at hl,fun id o hl=>by simp [look] at hl⟩
    rcases hb with h1 | ⟨id,o,h1,h2⟩
    · exact hx.okb b h1
    · exact (hx.liv id o b h1 h2).1
  have dis : ∀ id o,look H' id = some o → Hp.has H id = false:=fun id o hl=>by
    have:=look_all hd hl
    simpa using this
  refine Calls.mono (hc.2 w (x.lent H) vals hx0 (fun id g hd=>False.elim hd) (by rw [← ha]; simpa using hsz) (fun i u hu=>?_)) ?_
  · rw [← ha] at hu
    obtain ⟨a,ha',rfl⟩:=map_at hu
    exact (hargs i a ha').lend1 P hx
  · rintro e w' ⟨v,x',e1,st,e3,e4⟩
    have m:=st.mo
    have t:=st.tr
    have no : ∀ id g o,x.dom id g → look H' id = some o → False:=fun id g o h1 h2=>by
      have h3:=hdom id g h1
      rw [dis id o h2] at h3
      cases h3
    obtain ⟨x2,hx2⟩ : ∃ x2 : Cx,x2 = { ok:=x'.ok,dom:=fun id g=>x'.dom id g ∨ x.dom id g,β:=x'.β,γ:=x'.γ }:=⟨_,rfl⟩
    have m2 : Mo w' x' H' w' x2 H':=by
      subst hx2
      exact ⟨fun _ h=>h,fun _ _ h=>.inl h,fun _ _=>rfl,fun _ _ h=>⟨h,rfl⟩,fun _ _ _ _ h=>⟨h,rfl,rfl⟩,fun _ _ h=>⟨h,rfl⟩⟩
    have h2 : HRel w' x2 H':=by
      have h1:=st.h
      subst hx2
      refine ⟨h1.okb,fun id o hl=>.inl (h1.dom id o hl),fun id t sz g els g' hl hd=>?_,fun id t sz g els hl=>.inl (h1.gdm id t sz g els hl),h1.liv,h1.inj,fun id o hl=>(h1.obj id o hl).mono m2 rfl rfl (fun _ _=>rfl)⟩
      rcases hd with hd | hd
      · exact h1.gen id t sz g els g' hl hd
      · exact (no id g' _ hd hl).elim
    refine ⟨v,x2,e1,⟨?_,?_,h2⟩,e3.mono m2,fun id g hd=>?_⟩
    · subst hx2
      exact ⟨fun b hb=>m.ok b (.inl hb),fun id g hd=>.inr hd,fun b hb=>m.ag b (.inl hb),fun id hd ⟨_,_,hl⟩=>(no id 0 _ hd hl).elim,fun id g sz hd ⟨_,_,hl⟩=>(no id g _ hd hl).elim,fun id hd ⟨_,_,hl⟩=>(no id 0 _ hd hl).elim⟩
    · subst hx2
      refine ⟨t.os,t.tape,t.output,t.size,fun b hb _=>t.keep b hb (fun id o hl=>by simp [look] at hl),fun b hb=>?_,fun id o b h1 h2=>?_⟩
      · rcases t.okx b hb with h1 | h1 | ⟨id,o,h1,_⟩
        · exact h1.imp (fun h=>h) .inr
        · exact .inr (.inl h1)
        · simp [look] at h1
      · rcases t.newb id o b h1 h2 with h3 | ⟨id0,o0,h3,_⟩
        · exact .inl h3
        · simp [look] at h3
    · subst hx2
      rcases hd with hd | hd
      · rcases e4 id g hd with h | h
        · exact .inl h
        · simp [Hp.has,look] at h
      · exact .inr (hdom id g hd)
def runSeg (E : EvT) (P : Program) (T : Nat → TI) (dsts : List (Option Nat)) : List Oper → Nat → St → (Nat → St → Prop) → Prop
  | [],i,s,K=>K i s
  | o :: r,i,s,K=>wpQ P (s.nx + i) s (E T (s.nx + i) dsts o) fun v wr=>runSeg E P T dsts r (i + 1) ((s.wr wr).put o.dst v) K
section
variable {E : EvT} {P : Program} {T : Nat → TI} {dsts : List (Option Nat)}
theorem runSeg_app : ∀ {l1 l2 : List Oper} {i : Nat} {s : St} {K : St → Prop},runSeg E P T dsts l1 i s (fun i' s'=>runOps E P T dsts l2 i' s' K) → runOps E P T dsts (l1 ++ l2) i s K
  | [],l2,i,s,K,h=>h
  | o :: r,l2,i,s,K,h=>wpQ_mono h fun v wr h=>runSeg_app h
theorem Ag (n : Nat) {ops : List Oper} {i : Nat} {s : St} {K : St → Prop} (h : ∀ K' : Nat → St → Prop,(∀ i' s',runOps E P T dsts (ops.drop n) i' s' K → K' i' s') → runSeg E P T dsts (ops.take n) i s K') : runOps E P T dsts ops i s K:=by
  have:=runSeg_app (h _ fun _ _ h=>h)
  rw [List.take_append_drop] at this
  exact this
def runSegD (E : EvT) (P : Program) (T : Nat → TI) (dsts : List (Option Nat)) : List Oper → Nat → St → List (List Ky × List Ky) → (Nat → St → List (List Ky × List Ky) → Prop) → Prop
  | [],i,s,acc,K=>K i s acc
  | o :: r,i,s,acc,K=>wpQD P (s.nx + i) s (E T (s.nx + i) dsts o) [] fun rs v wr=>runSegD E P T dsts r (i + 1) ((s.wr wr).put o.dst v) (acc ++ [(rs,wrKeys o.dst wr)]) K
theorem runSegD_app : ∀ {l1 l2 : List Oper} {i : Nat} {s : St} {acc : List (List Ky × List Ky)} {K : List (List Ky × List Ky) → St → Prop},runSegD E P T dsts l1 i s acc (fun i' s' a'=>runD E P T dsts l2 i' s' a' K) → runD E P T dsts (l1 ++ l2) i s acc K
  | [],l2,i,s,acc,K,h=>h
  | o :: r,l2,i,s,acc,K,h=>wpQD_mono h fun rs v wr h=>runSegD_app h
theorem Ch (n : Nat) {ops : List Oper} {i : Nat} {s : St} {acc : List (List Ky × List Ky)} {K : List (List Ky × List Ky) → St → Prop} (h : ∀ K' : Nat → St → List (List Ky × List Ky) → Prop,(∀ i' s' a',runD E P T dsts (ops.drop n) i' s' a' K → K' i' s' a') → runSegD E P T dsts (ops.take n) i s acc K') : runD E P T dsts ops i s acc K:=by
  have:=runSegD_app (h _ fun _ _ _ h=>h)
  rw [List.take_append_drop] at this
  exact this
end
open Go Go.RowKit Go.Proofs.Tryz
def ti3 : TI:=⟨.int .i64,1,8,[.raw (.int .i64 0)]⟩
def ti4 : TI:=⟨.bool,1,1,[.raw (.bool false)]⟩
def ti22 : TI:=⟨.sl 96,1,24,[.sl true []]⟩
def ti24 : TI:=⟨.st [(0,3),(1,22)],2,32,[.raw (.int .i64 0),.sl true []]⟩
def ti25 : TI:=⟨.int .u32,1,4,[.raw (.int .u32 0)]⟩
def ti26 : TI:=⟨.arr 4 25,4,16,[.raw (.int .u32 0),.raw (.int .u32 0),.raw (.int .u32 0),.raw (.int .u32 0)]⟩
def ti27 : TI:=⟨.sl 53,1,24,[.sl true []]⟩
def ti29 : TI:=⟨.st [(0,26),(4,27),(5,25)],6,48,[.raw (.int .u32 0),.raw (.int .u32 0),.raw (.int .u32 0),.raw (.int .u32 0),.sl true [],.raw (.int .u32 0)]⟩
def ti33 : TI:=⟨.int .u64,1,8,[.raw (.int .u64 0)]⟩
def ti37 : TI:=⟨.st [(0,3),(1,3),(2,3),(3,3),(4,4),(5,3),(6,25)],7,56,[.raw (.int .i64 0),.raw (.int .i64 0),.raw (.int .i64 0),.raw (.int .i64 0),.raw (.bool false),.raw (.int .i64 0),.raw (.int .u32 0)]⟩
def ti38 : TI:=⟨.int .i64,1,8,[.raw (.int .i64 0)]⟩
def ti41 : TI:=⟨.sl 129,1,24,[.sl true []]⟩
def ti43 : TI:=⟨.st [(0,3),(1,41),(2,3),(3,4),(4,25),(5,38)],6,56,[.raw (.int .i64 0),.sl true [],.raw (.int .i64 0),.raw (.bool false),.raw (.int .u32 0),.raw (.int .i64 0)]⟩
def ti50 : TI:=⟨.st [(0,3),(1,3),(2,3),(3,3)],4,32,[.raw (.int .i64 0),.raw (.int .i64 0),.raw (.int .i64 0),.raw (.int .i64 0)]⟩
def ti51 : TI:=⟨.sl 66,1,24,[.sl true []]⟩
def ti53 : TI:=⟨.st [(0,50),(4,51),(5,25)],6,64,[.raw (.int .i64 0),.raw (.int .i64 0),.raw (.int .i64 0),.raw (.int .i64 0),.sl true [],.raw (.int .u32 0)]⟩
def ti54 : TI:=⟨.sl 71,1,24,[.sl true []]⟩
def ti56 : TI:=⟨.st [(0,54)],1,24,[.sl true []]⟩
def ti62 : TI:=⟨.sl 25,1,24,[.sl true []]⟩
def ti66 : TI:=⟨.st [(0,25),(1,62)],2,32,[.raw (.int .u32 0),.sl true []]⟩
def ti69 : TI:=⟨.sl 37,1,24,[.sl true []]⟩
def ti71 : TI:=⟨.st [(0,3),(1,69)],2,32,[.raw (.int .i64 0),.sl true []]⟩
def ti75 : TI:=⟨.st [(0,50),(4,56),(5,62),(6,53)],12,144,[.raw (.int .i64 0),.raw (.int .i64 0),.raw (.int .i64 0),.raw (.int .i64 0),.sl true [],.sl true [],.raw (.int .i64 0),.raw (.int .i64 0),.raw (.int .i64 0),.raw (.int .i64 0),.sl true [],.raw (.int .u32 0)]⟩
def ti84 : TI:=⟨.sl 3,1,24,[.sl true []]⟩
def ti94 : TI:=⟨.sl 33,1,24,[.sl true []]⟩
def ti96 : TI:=⟨.st [(0,3),(1,3),(2,94)],3,40,[.raw (.int .i64 0),.raw (.int .i64 0),.sl true []]⟩
def ti99 : TI:=⟨.int .u64,1,8,[.raw (.int .u64 0)]⟩
def ti101 : TI:=⟨.st [(0,3),(1,3),(2,4)],3,24,[.raw (.int .i64 0),.raw (.int .i64 0),.raw (.bool false)]⟩
def ti102 : TI:=⟨.arr 40 101,120,960,[.raw (.int .i64 0),.raw (.int .i64 0),.raw (.bool false),.raw (.int .i64 0),.raw (.int .i64 0),.raw (.bool false),.raw (.int .i64 0),.raw (.int .i64 0),.raw (.bool false),.raw (.int .i64 0),.raw (.int .i64 0),.raw (.bool false),.raw (.int .i64 0),.raw (.int .i64 0),.raw (.bool false),.raw (.int .i64 0),.raw (.int .i64 0),.raw (.bool false),.raw (.int .i64 0),.raw (.int .i64 0),.raw (.bool false),.raw (.int .i64 0),.raw (.int .i64 0),.raw (.bool false),.raw (.int .i64 0),.raw (.int .i64 0),.raw (.bool false),.raw (.int .i64 0),.raw (.int .i64 0),.raw (.bool false),.raw (.int .i64 0),.raw (.int .i64 0),.raw (.bool false),.raw (.int .i64 0),.raw (.int .i64 0),.raw (.bool false),.raw (.int .i64 0),.raw (.int .i64 0),.raw (.bool false),.raw (.int .i64 0),.raw (.int .i64 0),.raw (.bool false),.raw (.int .i64 0),.raw (.int .i64 0),.raw (.bool false),.raw (.int .i64 0),.raw (.int .i64 0),.raw (.bool false),.raw (.int .i64 0),.raw (.int .i64 0),.raw (.bool false),.raw (.int .i64 0),.raw (.int .i64 0),.raw (.bool false),.raw (.int .i64 0),.raw (.int .i64 0),.raw (.bool false),.raw (.int .i64 0),.raw (.int .i64 0),.raw (.bool false),.raw (.int .i64 0),.raw (.int .i64 0),.raw (.bool false),.raw (.int .i64 0),.raw (.int .i64 0),.raw (.bool false),.raw (.int .i64 0),.raw (.int .i64 0),.raw (.bool false),.raw (.int .i64 0),.raw (.int .i64 0),.raw (.bool false),.raw (.int .i64 0),.raw (.int .i64 0),.raw (.bool false),.raw (.int .i64 0),.raw (.int .i64 0),.raw (.bool false),.raw (.int .i64 0),.raw (.int .i64 0),.raw (.bool false),.raw (.int .i64 0),.raw (.int .i64 0),.raw (.bool false),.raw (.int .i64 0),.raw (.int .i64 0),.raw (.bool false),.raw (.int .i64 0),.raw (.int .i64 0),.raw (.bool false),.raw (.int .i64 0),.raw (.int .i64 0),.raw (.bool false),.raw (.int .i64 0),.raw (.int .i64 0),.raw (.bool false),.raw (.int .i64 0),.raw (.int .i64 0),.raw (.bool false),.raw (.int .i64 0),.raw (.int .i64 0),.raw (.bool false),.raw (.int .i64 0),.raw (.int .i64 0),.raw (.bool false),.raw (.int .i64 0),.raw (.int .i64 0),.raw (.bool false),.raw (.int .i64 0),.raw (.int .i64 0),.raw (.bool false),.raw (.int .i64 0),.raw (.int .i64 0),.raw (.bool false),.raw (.int .i64 0),.raw (.int .i64 0),.raw (.bool false),.raw (.int .i64 0),.raw (.int .i64 0),.raw (.bool false)]⟩
def ti107 : TI:=⟨.ptr 109,1,8,[.raw (.pointer none)]⟩
def ti109 : TI:=⟨.st [(0,43),(6,29)],12,104,[.raw (.int .i64 0),.sl true [],.raw (.int .i64 0),.raw (.bool false),.raw (.int .u32 0),.raw (.int .i64 0),.raw (.int .u32 0),.raw (.int .u32 0),.raw (.int .u32 0),.raw (.int .u32 0),.sl true [],.raw (.int .u32 0)]⟩
def ti110 : TI:=⟨.fn,1,8,[.raw (.nilFunc)]⟩
def ti111 : TI:=⟨.arr 8 110,8,64,[.raw (.nilFunc),.raw (.nilFunc),.raw (.nilFunc),.raw (.nilFunc),.raw (.nilFunc),.raw (.nilFunc),.raw (.nilFunc),.raw (.nilFunc)]⟩
def ti116 : TI:=⟨.fn,1,8,[.raw (.nilFunc)]⟩
def ti126 : TI:=⟨.arr 8 25,8,32,[.raw (.int .u32 0),.raw (.int .u32 0),.raw (.int .u32 0),.raw (.int .u32 0),.raw (.int .u32 0),.raw (.int .u32 0),.raw (.int .u32 0),.raw (.int .u32 0)]⟩
def ti127 : TI:=⟨.arr 16 25,16,64,List.replicate 16 (.raw (.int .u32 0))⟩
def ti129 : TI:=⟨.st [(0,3),(1,126),(9,127)],25,104,[.raw (.int .i64 0),.raw (.int .u32 0),.raw (.int .u32 0),.raw (.int .u32 0),.raw (.int .u32 0),.raw (.int .u32 0),.raw (.int .u32 0),.raw (.int .u32 0),.raw (.int .u32 0),.raw (.int .u32 0),.raw (.int .u32 0),.raw (.int .u32 0),.raw (.int .u32 0),.raw (.int .u32 0),.raw (.int .u32 0),.raw (.int .u32 0),.raw (.int .u32 0),.raw (.int .u32 0),.raw (.int .u32 0),.raw (.int .u32 0),.raw (.int .u32 0),.raw (.int .u32 0),.raw (.int .u32 0),.raw (.int .u32 0),.raw (.int .u32 0)]⟩
def ti140 : TI:=⟨.arr 9 101,27,216,[.raw (.int .i64 0),.raw (.int .i64 0),.raw (.bool false),.raw (.int .i64 0),.raw (.int .i64 0),.raw (.bool false),.raw (.int .i64 0),.raw (.int .i64 0),.raw (.bool false),.raw (.int .i64 0),.raw (.int .i64 0),.raw (.bool false),.raw (.int .i64 0),.raw (.int .i64 0),.raw (.bool false),.raw (.int .i64 0),.raw (.int .i64 0),.raw (.bool false),.raw (.int .i64 0),.raw (.int .i64 0),.raw (.bool false),.raw (.int .i64 0),.raw (.int .i64 0),.raw (.bool false),.raw (.int .i64 0),.raw (.int .i64 0),.raw (.bool false)]⟩
def ti141 : TI:=⟨.sl 101,1,24,[.sl true []]⟩
def ti143 : TI:=⟨.fn,1,8,[.raw (.nilFunc)]⟩
def ti148 : TI:=⟨.ptr 129,1,8,[.raw (.pointer none)]⟩
def ti155 : TI:=⟨.ptr 25,1,8,[.raw (.pointer none)]⟩
def ti162 : TI:=⟨.st [(0,25),(1,29),(7,3),(8,38)],9,72,[.raw (.int .u32 0),.raw (.int .u32 0),.raw (.int .u32 0),.raw (.int .u32 0),.raw (.int .u32 0),.sl true [],.raw (.int .u32 0),.raw (.int .i64 0),.raw (.int .i64 0)]⟩
def ti165 : TI:=⟨.sl 50,1,24,[.sl true []]⟩
def ti166 : TI:=⟨.sl 217,1,24,[.sl true []]⟩
def ti167 : TI:=⟨.sl 4,1,24,[.sl true []]⟩
def ti174 : TI:=⟨.fn,1,8,[.raw (.nilFunc)]⟩
def ti176 : TI:=⟨.fn,1,8,[.raw (.nilFunc)]⟩
def ti182 : TI:=⟨.fn,1,8,[.raw (.nilFunc)]⟩
def ti184 : TI:=⟨.fn,1,8,[.raw (.nilFunc)]⟩
def ti186 : TI:=⟨.sl 94,1,24,[.sl true []]⟩
def ti193 : TI:=⟨.fn,1,8,[.raw (.nilFunc)]⟩
def ti194 : TI:=⟨.fn,1,8,[.raw (.nilFunc)]⟩
def ti196 : TI:=⟨.st [(0,194)],1,8,[.raw (.nilFunc)]⟩
def ti197 : TI:=⟨.arr 11 196,11,88,List.replicate 11 (.raw (.nilFunc))⟩
def ti199 : TI:=⟨.mp 3 3,1,8,[.raw (.map none)]⟩
def ti202 : TI:=⟨.ptr 204,1,8,[.raw (.pointer none)]⟩
def ti204 : TI:=⟨.st [(0,53)],6,64,[.raw (.int .i64 0),.raw (.int .i64 0),.raw (.int .i64 0),.raw (.int .i64 0),.sl true [],.raw (.int .u32 0)]⟩
def ti206 : TI:=⟨.fn,1,8,[.raw (.nilFunc)]⟩
def ti207 : TI:=⟨.mp 3 206,1,8,[.raw (.map none)]⟩
def ti210 : TI:=⟨.ptr 212,1,8,[.raw (.pointer none)]⟩
def ti212 : TI:=⟨.st [(0,56),(1,3),(2,165),(3,166),(4,167),(5,3),(6,4)],7,120,[.sl true [],.raw (.int .i64 0),.sl true [],.sl true [],.sl true [],.raw (.int .i64 0),.raw (.bool false)]⟩
def ti213 : TI:=⟨.arr 8 4,8,8,[.raw (.bool false),.raw (.bool false),.raw (.bool false),.raw (.bool false),.raw (.bool false),.raw (.bool false),.raw (.bool false),.raw (.bool false)]⟩
def ti214 : TI:=⟨.cpx,1,16,[.raw (.complex .f64 0 0)]⟩
def ti215 : TI:=⟨.arr 8 214,8,128,[.raw (.complex .f64 0 0),.raw (.complex .f64 0 0),.raw (.complex .f64 0 0),.raw (.complex .f64 0 0),.raw (.complex .f64 0 0),.raw (.complex .f64 0 0),.raw (.complex .f64 0 0),.raw (.complex .f64 0 0)]⟩
def ti217 : TI:=⟨.st [(0,213),(8,215)],16,136,[.raw (.bool false),.raw (.bool false),.raw (.bool false),.raw (.bool false),.raw (.bool false),.raw (.bool false),.raw (.bool false),.raw (.bool false),.raw (.complex .f64 0 0),.raw (.complex .f64 0 0),.raw (.complex .f64 0 0),.raw (.complex .f64 0 0),.raw (.complex .f64 0 0),.raw (.complex .f64 0 0),.raw (.complex .f64 0 0),.raw (.complex .f64 0 0)]⟩
def ti221 : TI:=⟨.mp 3 223,1,8,[.raw (.map none)]⟩
def ti223 : TI:=⟨.fn,1,8,[.raw (.nilFunc)]⟩
def ti225 : TI:=⟨.fn,1,8,[.raw (.nilFunc)]⟩
def ti230 : TI:=⟨.int .i64,1,8,[.raw (.int .i64 0)]⟩
def ti234 : TI:=⟨.fn,1,8,[.raw (.nilFunc)]⟩
def ti241 : TI:=⟨.fn,1,8,[.raw (.nilFunc)]⟩
def ti242 : TI:=⟨.mp 3 241,1,8,[.raw (.map none)]⟩
def ti246 : TI:=⟨.st [(0,3),(1,4),(2,4),(3,3),(4,4)],5,32,[.raw (.int .i64 0),.raw (.bool false),.raw (.bool false),.raw (.int .i64 0),.raw (.bool false)]⟩
def ti247 : TI:=⟨.arr 8 246,40,256,[.raw (.int .i64 0),.raw (.bool false),.raw (.bool false),.raw (.int .i64 0),.raw (.bool false),.raw (.int .i64 0),.raw (.bool false),.raw (.bool false),.raw (.int .i64 0),.raw (.bool false),.raw (.int .i64 0),.raw (.bool false),.raw (.bool false),.raw (.int .i64 0),.raw (.bool false),.raw (.int .i64 0),.raw (.bool false),.raw (.bool false),.raw (.int .i64 0),.raw (.bool false),.raw (.int .i64 0),.raw (.bool false),.raw (.bool false),.raw (.int .i64 0),.raw (.bool false),.raw (.int .i64 0),.raw (.bool false),.raw (.bool false),.raw (.int .i64 0),.raw (.bool false),.raw (.int .i64 0),.raw (.bool false),.raw (.bool false),.raw (.int .i64 0),.raw (.bool false),.raw (.int .i64 0),.raw (.bool false),.raw (.bool false),.raw (.int .i64 0),.raw (.bool false)]⟩
def ti257 : TI:=⟨.ptr 259,1,8,[.raw (.pointer none)]⟩
def ti259 : TI:=⟨.st [(0,56),(1,29),(7,3),(8,3),(9,38)],10,96,[.sl true [],.raw (.int .u32 0),.raw (.int .u32 0),.raw (.int .u32 0),.raw (.int .u32 0),.sl true [],.raw (.int .u32 0),.raw (.int .i64 0),.raw (.int .i64 0),.raw (.int .i64 0)]⟩
def ti265 : TI:=⟨.fn,1,8,[.raw (.nilFunc)]⟩
def ti267 : TI:=⟨.arr 65 3,65,520,List.replicate 65 (.raw (.int .i64 0))⟩
def ti269 : TI:=⟨.int .u64,1,8,[.raw (.int .u64 0)]⟩
def ti273 : TI:=⟨.ptr 3,1,8,[.raw (.pointer none)]⟩
def ti281 : TI:=⟨.ptr 283,1,8,[.raw (.pointer none)]⟩
def ti283 : TI:=⟨.st [(0,257),(1,3),(2,3),(3,126),(11,213),(19,127),(35,4)],36,136,[.raw (.pointer none),.raw (.int .i64 0),.raw (.int .i64 0),.raw (.int .u32 0),.raw (.int .u32 0),.raw (.int .u32 0),.raw (.int .u32 0),.raw (.int .u32 0),.raw (.int .u32 0),.raw (.int .u32 0),.raw (.int .u32 0),.raw (.bool false),.raw (.bool false),.raw (.bool false),.raw (.bool false),.raw (.bool false),.raw (.bool false),.raw (.bool false),.raw (.bool false),.raw (.int .u32 0),.raw (.int .u32 0),.raw (.int .u32 0),.raw (.int .u32 0),.raw (.int .u32 0),.raw (.int .u32 0),.raw (.int .u32 0),.raw (.int .u32 0),.raw (.int .u32 0),.raw (.int .u32 0),.raw (.int .u32 0),.raw (.int .u32 0),.raw (.int .u32 0),.raw (.int .u32 0),.raw (.int .u32 0),.raw (.int .u32 0),.raw (.bool false)]⟩
def ti285 : TI:=⟨.fn,1,8,[.raw (.nilFunc)]⟩
def ti286 : TI:=⟨.arr 8 285,8,64,[.raw (.nilFunc),.raw (.nilFunc),.raw (.nilFunc),.raw (.nilFunc),.raw (.nilFunc),.raw (.nilFunc),.raw (.nilFunc),.raw (.nilFunc)]⟩
def ti306 : TI:=⟨.ptr 269,1,8,[.raw (.pointer none)]⟩
def ti311 : TI:=⟨.st [(0,33),(1,33)],2,16,[.raw (.int .u64 0),.raw (.int .u64 0)]⟩
def ti317 : TI:=⟨.fn,1,8,[.raw (.nilFunc)]⟩
def ti318 : TI:=⟨.arr 11 317,11,88,List.replicate 11 (.raw (.nilFunc))⟩
def ti320 : TI:=⟨.flt,1,8,[.raw (.float .f64 0)]⟩
def tab : Nat → TI
  | 3=>ti3
  | 4=>ti4
  | 22=>ti22
  | 24=>ti24
  | 25=>ti25
  | 26=>ti26
  | 27=>ti27
  | 29=>ti29
  | 33=>ti33
  | 37=>ti37
  | 38=>ti38
  | 41=>ti41
  | 43=>ti43
  | 50=>ti50
  | 51=>ti51
  | 53=>ti53
  | 54=>ti54
  | 56=>ti56
  | 62=>ti62
  | 66=>ti66
  | 69=>ti69
  | 71=>ti71
  | 75=>ti75
  | 84=>ti84
  | 94=>ti94
  | 96=>ti96
  | 99=>ti99
  | 101=>ti101
  | 102=>ti102
  | 107=>ti107
  | 109=>ti109
  | 110=>ti110
  | 111=>ti111
  | 116=>ti116
  | 126=>ti126
  | 127=>ti127
  | 129=>ti129
  | 140=>ti140
  | 141=>ti141
  | 143=>ti143
  | 148=>ti148
  | 155=>ti155
  | 162=>ti162
  | 165=>ti165
  | 166=>ti166
  | 167=>ti167
  | 174=>ti174
  | 176=>ti176
  | 182=>ti182
  | 184=>ti184
  | 186=>ti186
  | 193=>ti193
  | 194=>ti194
  | 196=>ti196
  | 197=>ti197
  | 199=>ti199
  | 202=>ti202
  | 204=>ti204
  | 206=>ti206
  | 207=>ti207
  | 210=>ti210
  | 212=>ti212
  | 213=>ti213
  | 214=>ti214
  | 215=>ti215
  | 217=>ti217
  | 221=>ti221
  | 223=>ti223
  | 225=>ti225
  | 230=>ti230
  | 234=>ti234
  | 241=>ti241
  | 242=>ti242
  | 246=>ti246
  | 247=>ti247
  | 257=>ti257
  | 259=>ti259
  | 265=>ti265
  | 267=>ti267
  | 269=>ti269
  | 273=>ti273
  | 281=>ti281
  | 283=>ti283
  | 285=>ti285
  | 286=>ti286
  | 306=>ti306
  | 311=>ti311
  | 317=>ti317
  | 318=>ti318
  | 320=>ti320
  | _=>⟨.other,0,0,[]⟩
theorem inm {t : Nat} {i : TI} (ti : TypeInfo) (zv : Value) (h1 : prog.info? t = some ti:=by kernel_rfl) (h2 : ti.size = i.sz:=by rfl) (h3 : ti.bytes = i.byt:=by rfl) (h4 : ti.zero = some zv:=by rfl) (h5 : i.z = zv.cells.toList.map ofV:=by rfl) (h6 : i.z.length = i.sz:=by rfl) (h7 : (List.all zv.cells.toList Value.oneCell') = true:=by rfl) : i.known → ∃ ti zv,prog.info? t = some ti ∧ ti.size = i.sz ∧ ti.bytes = i.byt ∧ ti.zero = some zv ∧ i.z = zv.cells.toList.map ofV ∧ i.z.length = i.sz ∧ (∀ v ∈ zv.cells.toList,v.oneCell' = true):=fun _=>⟨ti,zv,h1,h2,h3,h4,h5,h6,fun v hv=>(List.all_eq_true.1 h7) v hv⟩
theorem ty3 : TyOk prog 3 ti3:=⟨underlying3,inm t3 (.int .i64 0)⟩
theorem ty4 : TyOk prog 4 ti4:=⟨underlying4,inm t4 (.bool false)⟩
theorem ty22 : TyOk prog 22 ti22:=⟨underlying22,inm t22 (.slice none 0 0)⟩
theorem ty24 : TyOk prog 24 ti24:=⟨⟨_,underlying24,rfl,(by simp),stoodInHeld24,eqGuardType24⟩,inm t24 (.agg #[.int .i64 0,.slice none 0 0])⟩
theorem ty25 : TyOk prog 25 ti25:=⟨underlying25,inm t25 (.int .u32 0)⟩
theorem ty26 : TyOk prog 26 ti26:=⟨⟨underlying26,eqGuardType26⟩,inm t26 (.agg #[.int .u32 0,.int .u32 0,.int .u32 0,.int .u32 0])⟩
theorem ty27 : TyOk prog 27 ti27:=⟨underlying27,inm t27 (.slice none 0 0)⟩
theorem ty29 : TyOk prog 29 ti29:=⟨⟨_,underlying29,rfl,(by simp),stoodInHeld29,eqGuardType29⟩,inm t29 (.agg #[.int .u32 0,.int .u32 0,.int .u32 0,.int .u32 0,.slice none 0 0,.int .u32 0])⟩
theorem ty33 : TyOk prog 33 ti33:=⟨underlying33,inm t33 (.int .u64 0)⟩
theorem ty37 : TyOk prog 37 ti37:=⟨⟨_,underlying37,rfl,(by simp),stoodInHeld37,eqGuardType37⟩,inm t37 (.agg #[.int .i64 0,.int .i64 0,.int .i64 0,.int .i64 0,.bool false,.int .i64 0,.int .u32 0])⟩
theorem ty38 : TyOk prog 38 ti38:=⟨underlying38,inm t38 (.int .i64 0)⟩
theorem ty41 : TyOk prog 41 ti41:=⟨underlying41,inm t41 (.slice none 0 0)⟩
theorem ty43 : TyOk prog 43 ti43:=⟨⟨_,underlying43,rfl,(by simp),stoodInHeld43,eqGuardType43⟩,inm t43 (.agg #[.int .i64 0,.slice none 0 0,.int .i64 0,.bool false,.int .u32 0,.int .i64 0])⟩
theorem ty50 : TyOk prog 50 ti50:=⟨⟨_,underlying50,rfl,(by simp),stoodInHeld50,eqGuardType50⟩,inm t50 (.agg #[.int .i64 0,.int .i64 0,.int .i64 0,.int .i64 0])⟩
theorem ty51 : TyOk prog 51 ti51:=⟨underlying51,inm t51 (.slice none 0 0)⟩
theorem ty53 : TyOk prog 53 ti53:=⟨⟨_,underlying53,rfl,(by simp),stoodInHeld53,eqGuardType53⟩,inm t53 (.agg #[.int .i64 0,.int .i64 0,.int .i64 0,.int .i64 0,.slice none 0 0,.int .u32 0])⟩
theorem ty54 : TyOk prog 54 ti54:=⟨underlying54,inm t54 (.slice none 0 0)⟩
theorem ty56 : TyOk prog 56 ti56:=⟨⟨_,underlying56,rfl,(by simp),stoodInHeld56,eqGuardType56⟩,inm t56 (.agg #[.slice none 0 0])⟩
theorem ty62 : TyOk prog 62 ti62:=⟨underlying62,inm t62 (.slice none 0 0)⟩
theorem ty66 : TyOk prog 66 ti66:=⟨⟨_,underlying66,rfl,(by simp),stoodInHeld66,eqGuardType66⟩,inm t66 (.agg #[.int .u32 0,.slice none 0 0])⟩
theorem ty69 : TyOk prog 69 ti69:=⟨underlying69,inm t69 (.slice none 0 0)⟩
theorem ty71 : TyOk prog 71 ti71:=⟨⟨_,underlying71,rfl,(by simp),stoodInHeld71,eqGuardType71⟩,inm t71 (.agg #[.int .i64 0,.slice none 0 0])⟩
theorem ty75 : TyOk prog 75 ti75:=⟨⟨_,underlying75,rfl,(by simp),stoodInHeld75,eqGuardType75⟩,inm t75 (.agg #[.int .i64 0,.int .i64 0,.int .i64 0,.int .i64 0,.slice none 0 0,.slice none 0 0,.int .i64 0,.int .i64 0,.int .i64 0,.int .i64 0,.slice none 0 0,.int .u32 0])⟩
theorem ty84 : TyOk prog 84 ti84:=⟨underlying84,inm t84 (.slice none 0 0)⟩
theorem ty94 : TyOk prog 94 ti94:=⟨underlying94,inm t94 (.slice none 0 0)⟩
theorem ty96 : TyOk prog 96 ti96:=⟨⟨_,underlying96,rfl,(by simp),stoodInHeld96,eqGuardType96⟩,inm t96 (.agg #[.int .i64 0,.int .i64 0,.slice none 0 0])⟩
theorem ty99 : TyOk prog 99 ti99:=⟨underlying99,inm t99 (.int .u64 0)⟩
theorem ty101 : TyOk prog 101 ti101:=⟨⟨_,underlying101,rfl,(by simp),stoodInHeld101,eqGuardType101⟩,inm t101 (.agg #[.int .i64 0,.int .i64 0,.bool false])⟩
theorem ty102 : TyOk prog 102 ti102:=⟨⟨underlying102,eqGuardType102⟩,inm t102 (.agg #[.int .i64 0,.int .i64 0,.bool false,.int .i64 0,.int .i64 0,.bool false,.int .i64 0,.int .i64 0,.bool false,.int .i64 0,.int .i64 0,.bool false,.int .i64 0,.int .i64 0,.bool false,.int .i64 0,.int .i64 0,.bool false,.int .i64 0,.int .i64 0,.bool false,.int .i64 0,.int .i64 0,.bool false,.int .i64 0,.int .i64 0,.bool false,.int .i64 0,.int .i64 0,.bool false,.int .i64 0,.int .i64 0,.bool false,.int .i64 0,.int .i64 0,.bool false,.int .i64 0,.int .i64 0,.bool false,.int .i64 0,.int .i64 0,.bool false,.int .i64 0,.int .i64 0,.bool false,.int .i64 0,.int .i64 0,.bool false,.int .i64 0,.int .i64 0,.bool false,.int .i64 0,.int .i64 0,.bool false,.int .i64 0,.int .i64 0,.bool false,.int .i64 0,.int .i64 0,.bool false,.int .i64 0,.int .i64 0,.bool false,.int .i64 0,.int .i64 0,.bool false,.int .i64 0,.int .i64 0,.bool false,.int .i64 0,.int .i64 0,.bool false,.int .i64 0,.int .i64 0,.bool false,.int .i64 0,.int .i64 0,.bool false,.int .i64 0,.int .i64 0,.bool false,.int .i64 0,.int .i64 0,.bool false,.int .i64 0,.int .i64 0,.bool false,.int .i64 0,.int .i64 0,.bool false,.int .i64 0,.int .i64 0,.bool false,.int .i64 0,.int .i64 0,.bool false,.int .i64 0,.int .i64 0,.bool false,.int .i64 0,.int .i64 0,.bool false,.int .i64 0,.int .i64 0,.bool false,.int .i64 0,.int .i64 0,.bool false,.int .i64 0,.int .i64 0,.bool false,.int .i64 0,.int .i64 0,.bool false,.int .i64 0,.int .i64 0,.bool false,.int .i64 0,.int .i64 0,.bool false])⟩
theorem ty107 : TyOk prog 107 ti107:=⟨underlying107,inm t107 (.pointer none)⟩
theorem ty109 : TyOk prog 109 ti109:=⟨⟨_,underlying109,rfl,(by simp),stoodInHeld109,eqGuardType109⟩,inm t109 (.agg #[.int .i64 0,.slice none 0 0,.int .i64 0,.bool false,.int .u32 0,.int .i64 0,.int .u32 0,.int .u32 0,.int .u32 0,.int .u32 0,.slice none 0 0,.int .u32 0])⟩
theorem ty110 : TyOk prog 110 ti110:=⟨⟨_,_,_,underlying110⟩,inm t110 (.nilFunc)⟩
theorem ty111 : TyOk prog 111 ti111:=⟨⟨underlying111,eqGuardType111⟩,inm t111 (.agg #[.nilFunc,.nilFunc,.nilFunc,.nilFunc,.nilFunc,.nilFunc,.nilFunc,.nilFunc])⟩
theorem ty116 : TyOk prog 116 ti116:=⟨⟨_,_,_,underlying116⟩,inm t116 (.nilFunc)⟩
theorem ty126 : TyOk prog 126 ti126:=⟨⟨underlying126,eqGuardType126⟩,inm t126 (.agg #[.int .u32 0,.int .u32 0,.int .u32 0,.int .u32 0,.int .u32 0,.int .u32 0,.int .u32 0,.int .u32 0])⟩
theorem ty127 : TyOk prog 127 ti127:=⟨⟨underlying127,eqGuardType127⟩,inm t127 (.agg (Array.replicate 16 (.int .u32 0)))⟩
theorem ty129 : TyOk prog 129 ti129:=⟨⟨_,underlying129,rfl,(by simp),stoodInHeld129,eqGuardType129⟩,inm t129 (.agg #[.int .i64 0,.int .u32 0,.int .u32 0,.int .u32 0,.int .u32 0,.int .u32 0,.int .u32 0,.int .u32 0,.int .u32 0,.int .u32 0,.int .u32 0,.int .u32 0,.int .u32 0,.int .u32 0,.int .u32 0,.int .u32 0,.int .u32 0,.int .u32 0,.int .u32 0,.int .u32 0,.int .u32 0,.int .u32 0,.int .u32 0,.int .u32 0,.int .u32 0])⟩
theorem ty140 : TyOk prog 140 ti140:=⟨⟨underlying140,eqGuardType140⟩,inm t140 (.agg #[.int .i64 0,.int .i64 0,.bool false,.int .i64 0,.int .i64 0,.bool false,.int .i64 0,.int .i64 0,.bool false,.int .i64 0,.int .i64 0,.bool false,.int .i64 0,.int .i64 0,.bool false,.int .i64 0,.int .i64 0,.bool false,.int .i64 0,.int .i64 0,.bool false,.int .i64 0,.int .i64 0,.bool false,.int .i64 0,.int .i64 0,.bool false])⟩
theorem ty141 : TyOk prog 141 ti141:=⟨underlying141,inm t141 (.slice none 0 0)⟩
theorem ty143 : TyOk prog 143 ti143:=⟨⟨_,_,_,underlying143⟩,inm t143 (.nilFunc)⟩
theorem ty148 : TyOk prog 148 ti148:=⟨underlying148,inm t148 (.pointer none)⟩
theorem ty155 : TyOk prog 155 ti155:=⟨underlying155,inm t155 (.pointer none)⟩
theorem ty162 : TyOk prog 162 ti162:=⟨⟨_,underlying162,rfl,(by simp),stoodInHeld162,eqGuardType162⟩,inm t162 (.agg #[.int .u32 0,.int .u32 0,.int .u32 0,.int .u32 0,.int .u32 0,.slice none 0 0,.int .u32 0,.int .i64 0,.int .i64 0])⟩
theorem ty165 : TyOk prog 165 ti165:=⟨underlying165,inm t165 (.slice none 0 0)⟩
theorem ty166 : TyOk prog 166 ti166:=⟨underlying166,inm t166 (.slice none 0 0)⟩
theorem ty167 : TyOk prog 167 ti167:=⟨underlying167,inm t167 (.slice none 0 0)⟩
theorem ty174 : TyOk prog 174 ti174:=⟨⟨_,_,_,underlying174⟩,inm t174 (.nilFunc)⟩
theorem ty176 : TyOk prog 176 ti176:=⟨⟨_,_,_,underlying176⟩,inm t176 (.nilFunc)⟩
theorem ty182 : TyOk prog 182 ti182:=⟨⟨_,_,_,underlying182⟩,inm t182 (.nilFunc)⟩
theorem ty184 : TyOk prog 184 ti184:=⟨⟨_,_,_,underlying184⟩,inm t184 (.nilFunc)⟩
theorem ty186 : TyOk prog 186 ti186:=⟨underlying186,inm t186 (.slice none 0 0)⟩
theorem ty193 : TyOk prog 193 ti193:=⟨⟨_,_,_,underlying193⟩,inm t193 (.nilFunc)⟩
theorem ty194 : TyOk prog 194 ti194:=⟨⟨_,_,_,underlying194⟩,inm t194 (.nilFunc)⟩
theorem ty196 : TyOk prog 196 ti196:=⟨⟨_,underlying196,rfl,(by simp),stoodInHeld196,eqGuardType196⟩,inm t196 (.agg #[.nilFunc])⟩
theorem ty197 : TyOk prog 197 ti197:=⟨⟨underlying197,eqGuardType197⟩,inm t197 (.agg (Array.replicate 11 (.nilFunc)))⟩
theorem ty199 : TyOk prog 199 ti199:=⟨underlying199,inm t199 (.map none)⟩
theorem ty202 : TyOk prog 202 ti202:=⟨underlying202,inm t202 (.pointer none)⟩
theorem ty204 : TyOk prog 204 ti204:=⟨⟨_,underlying204,rfl,(by simp),stoodInHeld204,eqGuardType204⟩,inm t204 (.agg #[.int .i64 0,.int .i64 0,.int .i64 0,.int .i64 0,.slice none 0 0,.int .u32 0])⟩
theorem ty206 : TyOk prog 206 ti206:=⟨⟨_,_,_,underlying206⟩,inm t206 (.nilFunc)⟩
theorem ty207 : TyOk prog 207 ti207:=⟨underlying207,inm t207 (.map none)⟩
theorem ty210 : TyOk prog 210 ti210:=⟨underlying210,inm t210 (.pointer none)⟩
theorem ty212 : TyOk prog 212 ti212:=⟨⟨_,underlying212,rfl,(by simp),stoodInHeld212,eqGuardType212⟩,inm t212 (.agg #[.slice none 0 0,.int .i64 0,.slice none 0 0,.slice none 0 0,.slice none 0 0,.int .i64 0,.bool false])⟩
theorem ty213 : TyOk prog 213 ti213:=⟨⟨underlying213,eqGuardType213⟩,inm t213 (.agg #[.bool false,.bool false,.bool false,.bool false,.bool false,.bool false,.bool false,.bool false])⟩
theorem ty214 : TyOk prog 214 ti214:=⟨underlying214,inm t214 (.complex .f64 0 0)⟩
theorem ty215 : TyOk prog 215 ti215:=⟨⟨underlying215,eqGuardType215⟩,inm t215 (.agg #[.complex .f64 0 0,.complex .f64 0 0,.complex .f64 0 0,.complex .f64 0 0,.complex .f64 0 0,.complex .f64 0 0,.complex .f64 0 0,.complex .f64 0 0])⟩
theorem ty217 : TyOk prog 217 ti217:=⟨⟨_,underlying217,rfl,(by simp),stoodInHeld217,eqGuardType217⟩,inm t217 (.agg #[.bool false,.bool false,.bool false,.bool false,.bool false,.bool false,.bool false,.bool false,.complex .f64 0 0,.complex .f64 0 0,.complex .f64 0 0,.complex .f64 0 0,.complex .f64 0 0,.complex .f64 0 0,.complex .f64 0 0,.complex .f64 0 0])⟩
theorem ty221 : TyOk prog 221 ti221:=⟨underlying221,inm t221 (.map none)⟩
theorem ty223 : TyOk prog 223 ti223:=⟨⟨_,_,_,underlying223⟩,inm t223 (.nilFunc)⟩
theorem ty225 : TyOk prog 225 ti225:=⟨⟨_,_,_,underlying225⟩,inm t225 (.nilFunc)⟩
theorem ty230 : TyOk prog 230 ti230:=⟨underlying230,inm t230 (.int .i64 0)⟩
theorem ty234 : TyOk prog 234 ti234:=⟨⟨_,_,_,underlying234⟩,inm t234 (.nilFunc)⟩
theorem ty241 : TyOk prog 241 ti241:=⟨⟨_,_,_,underlying241⟩,inm t241 (.nilFunc)⟩
theorem ty242 : TyOk prog 242 ti242:=⟨underlying242,inm t242 (.map none)⟩
theorem ty246 : TyOk prog 246 ti246:=⟨⟨_,underlying246,rfl,(by simp),stoodInHeld246,eqGuardType246⟩,inm t246 (.agg #[.int .i64 0,.bool false,.bool false,.int .i64 0,.bool false])⟩
theorem ty247 : TyOk prog 247 ti247:=⟨⟨underlying247,eqGuardType247⟩,inm t247 (.agg #[.int .i64 0,.bool false,.bool false,.int .i64 0,.bool false,.int .i64 0,.bool false,.bool false,.int .i64 0,.bool false,.int .i64 0,.bool false,.bool false,.int .i64 0,.bool false,.int .i64 0,.bool false,.bool false,.int .i64 0,.bool false,.int .i64 0,.bool false,.bool false,.int .i64 0,.bool false,.int .i64 0,.bool false,.bool false,.int .i64 0,.bool false,.int .i64 0,.bool false,.bool false,.int .i64 0,.bool false,.int .i64 0,.bool false,.bool false,.int .i64 0,.bool false])⟩
theorem ty257 : TyOk prog 257 ti257:=⟨underlying257,inm t257 (.pointer none)⟩
theorem ty259 : TyOk prog 259 ti259:=⟨⟨_,underlying259,rfl,(by simp),stoodInHeld259,eqGuardType259⟩,inm t259 (.agg #[.slice none 0 0,.int .u32 0,.int .u32 0,.int .u32 0,.int .u32 0,.slice none 0 0,.int .u32 0,.int .i64 0,.int .i64 0,.int .i64 0])⟩
theorem ty265 : TyOk prog 265 ti265:=⟨⟨_,_,_,underlying265⟩,inm t265 (.nilFunc)⟩
theorem ty267 : TyOk prog 267 ti267:=⟨⟨underlying267,eqGuardType267⟩,inm t267 (.agg (Array.replicate 65 (.int .i64 0)))⟩
theorem ty269 : TyOk prog 269 ti269:=⟨underlying269,inm t269 (.int .u64 0)⟩
theorem ty273 : TyOk prog 273 ti273:=⟨underlying273,inm t273 (.pointer none)⟩
theorem ty281 : TyOk prog 281 ti281:=⟨underlying281,inm t281 (.pointer none)⟩
theorem ty283 : TyOk prog 283 ti283:=⟨⟨_,underlying283,rfl,(by simp),stoodInHeld283,eqGuardType283⟩,inm t283 (.agg #[.pointer none,.int .i64 0,.int .i64 0,.int .u32 0,.int .u32 0,.int .u32 0,.int .u32 0,.int .u32 0,.int .u32 0,.int .u32 0,.int .u32 0,.bool false,.bool false,.bool false,.bool false,.bool false,.bool false,.bool false,.bool false,.int .u32 0,.int .u32 0,.int .u32 0,.int .u32 0,.int .u32 0,.int .u32 0,.int .u32 0,.int .u32 0,.int .u32 0,.int .u32 0,.int .u32 0,.int .u32 0,.int .u32 0,.int .u32 0,.int .u32 0,.int .u32 0,.bool false])⟩
theorem ty285 : TyOk prog 285 ti285:=⟨⟨_,_,_,underlying285⟩,inm t285 (.nilFunc)⟩
theorem ty286 : TyOk prog 286 ti286:=⟨⟨underlying286,eqGuardType286⟩,inm t286 (.agg #[.nilFunc,.nilFunc,.nilFunc,.nilFunc,.nilFunc,.nilFunc,.nilFunc,.nilFunc])⟩
theorem ty306 : TyOk prog 306 ti306:=⟨underlying306,inm t306 (.pointer none)⟩
theorem ty311 : TyOk prog 311 ti311:=⟨⟨_,underlying311,rfl,(by simp),stoodInHeld311,eqGuardType311⟩,inm t311 (.agg #[.int .u64 0,.int .u64 0])⟩
theorem ty317 : TyOk prog 317 ti317:=⟨⟨_,_,_,underlying317⟩,inm t317 (.nilFunc)⟩
theorem ty318 : TyOk prog 318 ti318:=⟨⟨underlying318,eqGuardType318⟩,inm t318 (.agg (Array.replicate 11 (.nilFunc)))⟩
theorem ty320 : TyOk prog 320 ti320:=⟨underlying320,inm t320 (.float .f64 0)⟩
theorem tyO (t : Nat) : TyOk prog t ⟨.other,0,0,[]⟩:=⟨trivial,fun h=>h.elim⟩
theorem known_of {l : List (Nat × Nat)} (h : (l.all fun p=>decide (tab p.2).known) = true) : ∀ p ∈ l,(tab p.2).known:=fun p hp=>of_decide_eq_true ((List.all_eq_true.1 h) p hp)
theorem Ba : TabOk prog tab where
  ty t:=by
    unfold tab
    split
    · exact ty3
    · exact ty4
    · exact ty22
    · exact ty24
    · exact ty25
    · exact ty26
    · exact ty27
    · exact ty29
    · exact ty33
    · exact ty37
    · exact ty38
    · exact ty41
    · exact ty43
    · exact ty50
    · exact ty51
    · exact ty53
    · exact ty54
    · exact ty56
    · exact ty62
    · exact ty66
    · exact ty69
    · exact ty71
    · exact ty75
    · exact ty84
    · exact ty94
    · exact ty96
    · exact ty99
    · exact ty101
    · exact ty102
    · exact ty107
    · exact ty109
    · exact ty110
    · exact ty111
    · exact ty116
    · exact ty126
    · exact ty127
    · exact ty129
    · exact ty140
    · exact ty141
    · exact ty143
    · exact ty148
    · exact ty155
    · exact ty162
    · exact ty165
    · exact ty166
    · exact ty167
    · exact ty174
    · exact ty176
    · exact ty182
    · exact ty184
    · exact ty186
    · exact ty193
    · exact ty194
    · exact ty196
    · exact ty197
    · exact ty199
    · exact ty202
    · exact ty204
    · exact ty206
    · exact ty207
    · exact ty210
    · exact ty212
    · exact ty213
    · exact ty214
    · exact ty215
    · exact ty217
    · exact ty221
    · exact ty223
    · exact ty225
    · exact ty230
    · exact ty234
    · exact ty241
    · exact ty242
    · exact ty246
    · exact ty247
    · exact ty257
    · exact ty259
    · exact ty265
    · exact ty267
    · exact ty269
    · exact ty273
    · exact ty281
    · exact ty283
    · exact ty285
    · exact ty286
    · exact ty306
    · exact ty311
    · exact ty317
    · exact ty318
    · exact ty320
    · exact tyO _
  fk t fs h:=by
    revert h
    unfold tab
    split <;> (intro h; first | (cases h; done) | (cases h; exact fun p hp=>known_of (by decide) p hp))
  ak t n e h:=by
    revert h
    unfold tab
    split <;> (intro h; first | (cases h; done) | (cases h; exact trivial))
@[push_cast] theorem tab3 : tab 3 = ti3:=rfl
@[push_cast] theorem tab4 : tab 4 = ti4:=rfl
@[push_cast] theorem tab22 : tab 22 = ti22:=rfl
@[push_cast] theorem tab24 : tab 24 = ti24:=rfl
@[push_cast] theorem tab25 : tab 25 = ti25:=rfl
@[push_cast] theorem tab26 : tab 26 = ti26:=rfl
@[push_cast] theorem tab27 : tab 27 = ti27:=rfl
@[push_cast] theorem tab29 : tab 29 = ti29:=rfl
@[push_cast] theorem tab33 : tab 33 = ti33:=rfl
@[push_cast] theorem tab37 : tab 37 = ti37:=rfl
@[push_cast] theorem tab38 : tab 38 = ti38:=rfl
@[push_cast] theorem tab41 : tab 41 = ti41:=rfl
@[push_cast] theorem tab43 : tab 43 = ti43:=rfl
@[push_cast] theorem tab50 : tab 50 = ti50:=rfl
@[push_cast] theorem tab51 : tab 51 = ti51:=rfl
@[push_cast] theorem tab53 : tab 53 = ti53:=rfl
@[push_cast] theorem tab54 : tab 54 = ti54:=rfl
@[push_cast] theorem tab56 : tab 56 = ti56:=rfl
@[push_cast] theorem tab62 : tab 62 = ti62:=rfl
@[push_cast] theorem tab66 : tab 66 = ti66:=rfl
@[push_cast] theorem tab69 : tab 69 = ti69:=rfl
@[push_cast] theorem tab71 : tab 71 = ti71:=rfl
@[push_cast] theorem tab75 : tab 75 = ti75:=rfl
@[push_cast] theorem tab84 : tab 84 = ti84:=rfl
@[push_cast] theorem tab94 : tab 94 = ti94:=rfl
@[push_cast] theorem tab96 : tab 96 = ti96:=rfl
@[push_cast] theorem tab99 : tab 99 = ti99:=rfl
@[push_cast] theorem tab101 : tab 101 = ti101:=rfl
@[push_cast] theorem tab102 : tab 102 = ti102:=rfl
@[push_cast] theorem tab107 : tab 107 = ti107:=rfl
@[push_cast] theorem tab109 : tab 109 = ti109:=rfl
@[push_cast] theorem tab110 : tab 110 = ti110:=rfl
@[push_cast] theorem tab111 : tab 111 = ti111:=rfl
@[push_cast] theorem tab116 : tab 116 = ti116:=rfl
@[push_cast] theorem tab126 : tab 126 = ti126:=rfl
@[push_cast] theorem tab127 : tab 127 = ti127:=rfl
@[push_cast] theorem tab129 : tab 129 = ti129:=rfl
@[push_cast] theorem tab140 : tab 140 = ti140:=rfl
@[push_cast] theorem tab141 : tab 141 = ti141:=rfl
@[push_cast] theorem tab143 : tab 143 = ti143:=rfl
@[push_cast] theorem tab148 : tab 148 = ti148:=rfl
@[push_cast] theorem tab155 : tab 155 = ti155:=rfl
@[push_cast] theorem tab162 : tab 162 = ti162:=rfl
@[push_cast] theorem tab165 : tab 165 = ti165:=rfl
@[push_cast] theorem tab166 : tab 166 = ti166:=rfl
@[push_cast] theorem tab167 : tab 167 = ti167:=rfl
@[push_cast] theorem tab174 : tab 174 = ti174:=rfl
@[push_cast] theorem tab176 : tab 176 = ti176:=rfl
@[push_cast] theorem tab182 : tab 182 = ti182:=rfl
@[push_cast] theorem tab184 : tab 184 = ti184:=rfl
@[push_cast] theorem tab186 : tab 186 = ti186:=rfl
@[push_cast] theorem tab193 : tab 193 = ti193:=rfl
@[push_cast] theorem tab194 : tab 194 = ti194:=rfl
@[push_cast] theorem tab196 : tab 196 = ti196:=rfl
@[push_cast] theorem tab197 : tab 197 = ti197:=rfl
@[push_cast] theorem tab199 : tab 199 = ti199:=rfl
@[push_cast] theorem tab202 : tab 202 = ti202:=rfl
@[push_cast] theorem tab204 : tab 204 = ti204:=rfl
@[push_cast] theorem tab206 : tab 206 = ti206:=rfl
@[push_cast] theorem tab207 : tab 207 = ti207:=rfl
@[push_cast] theorem tab210 : tab 210 = ti210:=rfl
@[push_cast] theorem tab212 : tab 212 = ti212:=rfl
@[push_cast] theorem tab213 : tab 213 = ti213:=rfl
@[push_cast] theorem tab214 : tab 214 = ti214:=rfl
@[push_cast] theorem tab215 : tab 215 = ti215:=rfl
@[push_cast] theorem tab217 : tab 217 = ti217:=rfl
@[push_cast] theorem tab221 : tab 221 = ti221:=rfl
@[push_cast] theorem tab223 : tab 223 = ti223:=rfl
@[push_cast] theorem tab225 : tab 225 = ti225:=rfl
@[push_cast] theorem tab230 : tab 230 = ti230:=rfl
@[push_cast] theorem tab234 : tab 234 = ti234:=rfl
@[push_cast] theorem tab241 : tab 241 = ti241:=rfl
@[push_cast] theorem tab242 : tab 242 = ti242:=rfl
@[push_cast] theorem tab246 : tab 246 = ti246:=rfl
@[push_cast] theorem tab247 : tab 247 = ti247:=rfl
@[push_cast] theorem tab257 : tab 257 = ti257:=rfl
@[push_cast] theorem tab259 : tab 259 = ti259:=rfl
@[push_cast] theorem tab265 : tab 265 = ti265:=rfl
@[push_cast] theorem tab267 : tab 267 = ti267:=rfl
@[push_cast] theorem tab269 : tab 269 = ti269:=rfl
@[push_cast] theorem tab273 : tab 273 = ti273:=rfl
@[push_cast] theorem tab281 : tab 281 = ti281:=rfl
@[push_cast] theorem tab283 : tab 283 = ti283:=rfl
@[push_cast] theorem tab285 : tab 285 = ti285:=rfl
@[push_cast] theorem tab286 : tab 286 = ti286:=rfl
@[push_cast] theorem tab306 : tab 306 = ti306:=rfl
@[push_cast] theorem tab311 : tab 311 = ti311:=rfl
@[push_cast] theorem tab317 : tab 317 = ti317:=rfl
@[push_cast] theorem tab318 : tab 318 = ti318:=rfl
@[push_cast] theorem tab320 : tab 320 = ti320:=rfl
attribute [push_cast] ti3 ti4 ti22 ti24 ti25 ti26 ti27 ti29 ti33 ti37 ti38 ti41 ti43 ti50 ti51 ti53 ti54 ti56 ti62 ti66 ti69 ti71 ti75 ti84 ti94 ti96 ti99 ti101 ti102 ti107 ti109 ti110 ti111 ti116 ti126 ti127 ti129 ti140 ti141 ti143 ti148 ti155 ti162 ti165 ti166 ti167 ti174 ti176 ti182 ti184 ti186 ti193 ti194 ti196 ti197 ti199 ti202 ti204 ti206 ti207 ti210 ti212 ti213 ti214 ti215 ti217 ti221 ti223 ti225 ti230 ti234 ti241 ti242 ti246 ti247 ti257 ti259 ti265 ti267 ti269 ti273 ti281 ti283 ti285 ti286 ti306 ti311 ti317 ti318 ti320
theorem Fb : TabOkF prog tab where
  t:=Ba
  z t j h:=by
    have hc : t = 3 ∨ t = 25 ∨ t = 33 ∨ t = 38 ∨ t = 99 ∨ t = 230 ∨ t = 269:=by
      revert h
      unfold tab
      split <;> (intro h; first | (cases h; done) | decide)
    rcases hc with rfl | rfl | rfl | rfl | rfl | rfl | rfl
    · replace h : TK.int IntKind.i64 = TK.int j:=h; cases h; exact ⟨t3,(by kernel_rfl),rfl⟩
    · replace h : TK.int IntKind.u32 = TK.int j:=h; cases h; exact ⟨t25,(by kernel_rfl),rfl⟩
    · replace h : TK.int IntKind.u64 = TK.int j:=h; cases h; exact ⟨t33,(by kernel_rfl),rfl⟩
    · replace h : TK.int IntKind.i64 = TK.int j:=h; cases h; exact ⟨t38,(by kernel_rfl),rfl⟩
    · replace h : TK.int IntKind.u64 = TK.int j:=h; cases h; exact ⟨t99,(by kernel_rfl),rfl⟩
    · replace h : TK.int IntKind.i64 = TK.int j:=h; cases h; exact ⟨t230,(by kernel_rfl),rfl⟩
    · replace h : TK.int IntKind.u64 = TK.int j:=h; cases h; exact ⟨t269,(by kernel_rfl),rfl⟩
  i t h:=let ⟨ti,zv,h1,_,_,h2,_⟩:=(Ba.ty t).inf h; ⟨ti,zv,h1,h2⟩
end Go.Proofs.YtcffmheeofjifaaGreat
