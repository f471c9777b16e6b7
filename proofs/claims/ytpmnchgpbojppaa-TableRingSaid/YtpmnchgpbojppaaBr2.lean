/- Contracts of the old kind whose result is a row of one's own. -/
import Derived.Test.YtpmnchgpbojppaaCt
set_option linter.unusedVariables false
namespace Go.Proofs.Ytpmnchgpbojppaa
open Go Go.RowKit Go.Proofs.Try

def Cx.fresh1 (x : Cx) (w w' : World) (ob : Option Nat) (id c : Nat) : Cx :=
  { ok := fun b => x.ok b ∨ (w.heap.size ≤ b ∧ b < w'.heap.size ∧ ob ≠ some b), dom := fun k g => k = id ∧ g = 0, β := fun k => if k = id then ob else x.β k, γ := fun k => if k = id then c else x.γ k }
theorem Ctr.oldRow {P : Program} {f : FuncId} {args : List AV} {r : AV} {id : Nat} {t : TypeId} {sz : Nat} {els : List (List AV)} (hcall : ∀ vals w, (callFunc f vals).run P w = .ok (.enter f vals) w)
    (h : ∀ (w : World) (x : Cx) (vals : Array Value), HRel w x [] → vals.size = args.length → (∀ (i : Nat) (u : AV), args[i]? = some u → VRel w x [] u (vals.getD i undef)) →
      Calls P f vals w fun e w' => ∃ v ob c, e = .returned v ∧ Below w.heap.size w w' ∧ (∀ b, ob = some b → w.heap.size ≤ b ∧ b < w'.heap.size) ∧
        ORel w' (x.fresh1 w w' ob id c) [(id, .row t sz 0 els)] id (.row t sz 0 els) ∧ VRel w' (x.fresh1 w w' ob id c) [(id, .row t sz 0 els)] r v) : Ctr P f args [] r [(id, .row t sz 0 els)] := by
  refine ⟨hcall, fun w x vals hH hdom hsz hargs => Calls.mono (h w x vals hH hsz hargs) ?_⟩
  rintro e w' ⟨v, ob, c, he, hb, hob, hO, hv⟩
  have hno : ∀ k g, ¬ x.dom k g := fun k g hd => by have := hdom k g hd; simp [Hp.has, look] at this
  have hlk : ∀ k o, look [(id, AObj.row t sz 0 els)] k = some o → k = id ∧ o = .row t sz 0 els := fun k o hl => by
    simp only [look] at hl
    split at hl
    · rename_i e1
      injection hl with hl
      exact ⟨e1, hl.symm⟩
    · cases hl
  refine ⟨v, x.fresh1 w w' ob id c, he, ⟨⟨fun b hb => .inl hb, fun k g hd => absurd hd (hno k g), fun b hk => hb.block b (hH.okb b hk), fun k hd => absurd hd (hno k 0), fun k g s hd => absurd hd (hno k g), fun k hd => absurd hd (hno k 0)⟩,
    ⟨hb.os, hb.tape, hb.output, hb.size, fun b hk _ => hb.block b hk, ?_, ?_⟩, ⟨?_, ?_, ?_, ?_, ?_, ?_, ?_⟩⟩, hv, ?_⟩
  · rintro b (h1 | h1)
    · exact .inl h1
    · exact .inr (.inl h1.1)
  · intro k o b hl hβ
    obtain ⟨rfl, rfl⟩ := hlk k o hl
    have hβ : (if k = k then ob else x.β k) = some b := hβ
    rw [if_pos rfl] at hβ
    exact .inl (hob b hβ).1
  · rintro b (h1 | h1)
    · exact Nat.lt_of_lt_of_le (hH.okb b h1) hb.size
    · exact h1.2.1
  · intro k o hl
    exact ⟨(hlk k o hl).1, rfl⟩
  · intro k t' sz' g els' g' hl hd
    have := (hlk k _ hl).2
    injection this with _ _ e3
    have : g' = 0 := hd.2
    omega
  · intro k t' sz' g els' hl
    obtain ⟨h1, h2⟩ := hlk k _ hl
    injection h2 with _ _ e3
    exact ⟨h1, e3⟩
  · intro k o b hl hβ
    obtain ⟨rfl, rfl⟩ := hlk k o hl
    have hβ : (if k = k then ob else x.β k) = some b := hβ
    rw [if_pos rfl] at hβ
    refine ⟨(hob b hβ).2, ?_⟩
    rintro (h1 | h1)
    · have := hH.okb b h1
      have := (hob b hβ).1
      omega
    · exact h1.2.2 hβ
  · intro k k' o o' b hl hl' _ _
    rw [(hlk k o hl).1, (hlk k' o' hl').1]
  · intro k o hl
    obtain ⟨rfl, rfl⟩ := hlk k o hl
    exact hO
  · intro k g hd
    refine .inl ?_
    rw [hd.1]
    simp [Hp.has, look]
theorem own_rctr (f : Bool) (t : Tab) (id : Nat) (hfit : fits t.e) (hl0 : okEs t.e) : Ctr prog 54 [avTab f t] []
    (.agg [.raw (.int .i64 t.s.kind), .raw (.int .i64 t.s.cap), .raw (.int .i64 t.s.words), .raw (.int .i64 t.s.ver), .row id 0 2 0 t.e.length, .raw (.int .u32 (t.next : Int))])
    [(id, .row 39 2 0 (t.e.map encEnt))] := by
  refine Ctr.oldRow call54 fun w cx vals hH hsz ha => ?_
  obtain ⟨A0, c0, e0, hE0⟩ := avTab_inv hH.okb (ha 0 _ rfl) hl0
  have hv : vals = #[tabV t.s A0 t.e.length c0 t.next] := by
    refine arr_eq hsz fun i hi => ?_
    have hi : i < 1 := hi
    match i, hi with
    | 0, _ => exact e0
  subst hv
  refine Calls.mono (own_any t.s A0 _ c0 t.next t.e w hfit hE0) ?_
  rintro e w' ⟨A', us, rfl, hO, hb⟩
  have hres : ∀ {x : Cx} {hp : Hp} {rv : AV} , VRel w' x hp rv (.slice A' t.e.length t.e.length) → VRel w' x hp (.agg [.raw (.int .i64 t.s.kind), .raw (.int .i64 t.s.cap), .raw (.int .i64 t.s.words), .raw (.int .i64 t.s.ver), rv, .raw (.int .u32 (t.next : Int))]) (tabV t.s A' t.e.length t.e.length t.next) := by
    intro x hp rv h
    refine .agg _ _ rfl ?_ ?_
    · intro i hi
      have hi : i < 6 := hi
      match i, hi with
      | 0, _ => rfl
      | 1, _ => rfl
      | 2, _ => rfl
      | 3, _ => rfl
      | 4, _ => rfl
      | 5, _ => rfl
    · intro i u hu
      match i, hu with
      | 0, hu => cases hu; exact .raw _
      | 1, hu => cases hu; exact .raw _
      | 2, hu => cases hu; exact .raw _
      | 3, hu => cases hu; exact .raw _
      | 4, hu => cases hu; exact h
      | 5, hu => cases hu; exact .raw _
      | i + 6, hu => simp at hu
  have huni : ∀ (i : Nat) (cs : List AV), (t.e.map encEnt)[i]? = some cs → cs.length = 2 := by
    intro i cs hi
    rw [List.getElem?_map] at hi
    obtain ⟨x, _, rfl⟩ := Option.map_eq_some_iff.1 hi
    rfl
  rcases hO.row.2 with ⟨e1, h2⟩ | ⟨g, cap, cur, e1, h2, h3, h4, h5, h6, h7⟩
  · have hnil : t.e = [] := List.length_eq_zero_iff.1 h2
    injection e1 with e1 _ _
    subst e1
    refine ⟨_, none, 0, rfl, hb, fun b hb => by (cases hb), ⟨huni, .inl ⟨if_pos rfl, by rw [hnil]; rfl⟩⟩, hres ?_⟩
    rw [h2]
    exact .row id 0 2 0 0 none 0 ⟨rfl, rfl⟩ (Nat.le_refl _) fun _ => .inl ⟨rfl, rfl, by show (if id = id then 0 else _) ≤ 0; rw [if_pos rfl]; exact Nat.le_refl _⟩
  · injection e1 with e1 _ e3
    subst e1
    subst e3
    have hg := (Array.getElem?_eq_some_iff.1 h3).1
    have hcur : cur.toList = entCells t.e us := by
      rw [← h7, List.take_of_length_le]
      rw [Array.length_toList, h6]
      exact Nat.le_refl _
    have hus : ∀ i x, t.e[i]? = some x → ∃ u, us[i]? = some u := fun i x hx => by
      have := (List.getElem?_eq_some_iff.1 hx).1
      exact ⟨_, List.getElem?_eq_getElem (by rw [hO.len]; exact this)⟩
    have hok : ∀ (i : Nat) (x : Ent) (u : Value), t.e[i]? = some x → us[i]? = some u → Dat w' (cx.fresh1 w w' (some g) id t.e.length).ok (.sl false (x.v.map encW)) u := by
      intro i x u hx hu
      have hW := (hO.val i x u hx hu).1
      refine ownW_dat hW fun b hb1 hb2 hb3 => .inr ⟨hb2, hb3, ?_⟩
      rintro hgb
      injection hgb with hgb
      exact hW.blk_ne hO.row (b := b) (by simp [Value.ownBlock, hgb]) hb1
    have hone : ∀ u ∈ us, u.oneCell' = true := by
      intro u hu
      obtain ⟨i, hi⟩ := List.getElem?_of_mem hu
      have hil := (List.getElem?_eq_some_iff.1 hi).1
      rw [hO.len] at hil
      exact (hok i _ u (List.getElem?_eq_getElem hil) hi).one
    have hget : ∀ j, cur.getD j undef = (entCells t.e us)[j]?.getD undef := by
      intro j
      rw [← hcur]
      simp [Array.getD_eq_getD_getElem?]
    refine ⟨_, some g, t.e.length, rfl, hb, fun b hb => ?_, ⟨huni, .inr ⟨g, cur, if_pos rfl, h3, ?_, ?_, ?_, ?_, ?_⟩⟩, hres ?_⟩
    · injection hb with hb
      subst hb
      exact ⟨h2, hg⟩
    · show cur.size = (if id = id then t.e.length else _) * 2
      rw [if_pos rfl]
      exact h6
    · show (t.e.map encEnt).length ≤ (if id = id then t.e.length else _)
      rw [if_pos rfl, List.length_map]
      exact Nat.le_refl _
    · show (if id = id then t.e.length else _) ≤ maxLen
      rw [if_pos rfl]
      exact h5
    · intro i hi
      rw [hget]
      have hi' : i < (entCells t.e us).length := by rw [← hcur, Array.length_toList]; exact hi
      rw [List.getElem?_eq_getElem hi']
      exact entCells_one hone _ (List.getElem_mem hi')
    · intro i j cs u hi hu
      rw [List.getElem?_map] at hi
      obtain ⟨x, hx, rfl⟩ := Option.map_eq_some_iff.1 hi
      obtain ⟨v, hv⟩ := hus i x hx
      obtain ⟨c0, c1⟩ := entCells_get hx hv
      rw [hget]
      match j, hu with
      | 0, hu =>
        simp only [encEnt, List.getElem?_cons_zero, Option.some.injEq] at hu
        subst hu
        rw [Nat.add_zero, c0]
        exact .raw _
      | 1, hu =>
        simp only [encEnt, List.getElem?_cons_succ, List.getElem?_cons_zero, Option.some.injEq] at hu
        subst hu
        rw [c1]
        exact hok i x v hx hv
      | j + 2, hu => simp [encEnt] at hu
    · exact .row id 0 2 0 t.e.length _ t.e.length ⟨rfl, rfl⟩ (Nat.le_refl _) fun _ => .inr ⟨g, if_pos rfl, by rw [Nat.zero_mul], by show 0 + t.e.length = (if id = id then t.e.length else _); rw [if_pos rfl, Nat.zero_add]⟩
end Go.Proofs.Ytpmnchgpbojppaa
