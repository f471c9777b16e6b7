/- From contracts of the old kind to contracts of the abstract machine. -/
import Derived.Test.YtpmnchgpbojppaaEv
import Derived.Test.YtpmnchgpbojppaaOwnLib
set_option linter.unusedVariables false
namespace Go.Proofs.Ytpmnchgpbojppaa
open Go Go.RowKit Go.Proofs.Try

def okEs (es : List Ent) : Prop := ∀ e ∈ es, e.key < 4294967296 ∧ lt32 e.v
theorem dat_kW {w : World} {ok : Nat → Prop} (hok : ∀ b, ok b → b < w.heap.size) {f : Bool} {xs : List Nat} {v : Value} (h : Dat w ok (.sl f (xs.map encW)) v) (hl : lt32 xs) : ∃ A c, v = .slice A xs.length c ∧ kW.At w w.heap.size A xs.length c xs := by
  cases h with
  | sl _ _ A c sz vals hc hm ht hsz hA hcell hd =>
    rw [List.length_map] at hc
    refine ⟨A, c, by rw [List.length_map], rfl, hc, hm, fun i x hx => ?_⟩
    have hx' : (xs.map encW)[i]? = some (encW x) := by rw [List.getElem?_map, hx]; rfl
    have h1 : 1 = sz := hsz i _ hx'
    subst h1
    obtain ⟨a, rfl, ha⟩ := hA i _ hx'
    refine ⟨a, [.int .u32 (x : Int)], rfl, hok _ ha, ?_, rfl, hl x (List.mem_of_getElem? hx)⟩
    intro j u hu
    cases j with
    | zero =>
      simp only [List.getElem?_cons_zero, Option.some.injEq] at hu
      subst hu
      have h2 := (hcell i 0 _ a hx' (by omega) rfl).1
      have h3 := hd i 0 _ _ hx' rfl
      generalize vals i 0 = q at h2 h3
      cases h3
      exact h2
    | succ j => simp at hu
theorem dat_kEnt {w : World} {ok : Nat → Prop} (hok : ∀ b, ok b → b < w.heap.size) {f : Bool} {es : List Ent} {v : Value} (h : Dat w ok (.sl f (es.map encEnt)) v) (hl : okEs es) : ∃ A c, v = .slice A es.length c ∧ kEnt.At w w.heap.size A es.length c es := by
  cases h with
  | sl _ _ A c sz vals hc hm ht hsz hA hcell hd =>
    rw [List.length_map] at hc
    refine ⟨A, c, by rw [List.length_map], rfl, hc, hm, fun i x hx => ?_⟩
    have hx' : (es.map encEnt)[i]? = some (encEnt x) := by rw [List.getElem?_map, hx]; rfl
    have h1 : 2 = sz := hsz i _ hx'
    subst h1
    obtain ⟨a, rfl, ha⟩ := hA i _ hx'
    have hm := hl x (List.mem_of_getElem? hx)
    obtain ⟨A', c', e1, e2⟩ := dat_kW hok (hd i 1 _ _ hx' rfl) hm.2
    refine ⟨a, [.int .u32 (x.key : Int), .slice A' x.v.length c'], rfl, hok _ ha, ?_, A', _, c', rfl, hm.1, e2⟩
    intro j u hu
    match j, hu with
    | 0, hu =>
      simp only [List.getElem?_cons_zero, Option.some.injEq] at hu
      subst hu
      have h2 := (hcell i 0 _ a hx' (by omega) rfl).1
      have h3 := hd i 0 _ _ hx' rfl
      generalize vals i 0 = q at h2 h3
      cases h3
      exact h2
    | 1, hu =>
      simp only [List.getElem?_cons_succ, List.getElem?_cons_zero, Option.some.injEq] at hu
      subst hu
      have h2 := (hcell i 1 _ a hx' (by omega) rfl).1
      rw [e1] at h2
      exact h2
    | j + 2, hu => simp at hu
theorem ownW_dat {w : World} {base : Nat} {ok : Nat → Prop} {u : Value} {xs : List Nat} (h : OwnW w base u xs) (hok : ∀ b, u.ownBlock = some b → base ≤ b → b < w.heap.size → ok b) : Dat w ok (.sl false (xs.map encW)) u := by
  rcases h.row.2 with ⟨rfl, h2⟩ | ⟨g, cap, cur, rfl, h2, h3, h4, h5, h6, h7⟩
  · have : xs = [] := List.length_eq_zero_iff.1 h2
    subst this
    exact .nil _ _
  · have hg := (Array.getElem?_eq_some_iff.1 h3).1
    have hlen : (xs.map encW).length = xs.length := List.length_map _
    have key := Dat.sl (w := w) (ok := ok) false (xs.map encW) (some ⟨g, 0, none⟩) cap 1 (fun i j => .int .u32 (((xs[i]?).getD 0 : Nat) : Int)) (by rw [hlen]; exact h4) h5 (by intro h; cases h) ?_ ?_ ?_ ?_
    · rw [hlen] at key
      exact key
    · intro i cs hi
      rw [List.getElem?_map] at hi
      obtain ⟨x, _, rfl⟩ := Option.map_eq_some_iff.1 hi
      rfl
    · intro i cs hi
      exact ⟨_, rfl, hok g rfl h2 hg⟩
    · intro i j cs a hi hj ha
      injection ha with ha
      subst ha
      rw [List.getElem?_map] at hi
      obtain ⟨x, hx, rfl⟩ := Option.map_eq_some_iff.1 hi
      have : j = 0 := by omega
      subst this
      obtain ⟨g', c', e1, _, _, _, e2, _⟩ := h.cells_ hx
      injection e1 with e1
      injection e1 with e1
      injection e1 with e1
      subst e1
      rw [add_lit0, Nat.mul_one, Nat.add_zero, hx]
      exact ⟨e2, rfl⟩
    · intro i j cs u hi hu
      rw [List.getElem?_map] at hi
      obtain ⟨x, hx, rfl⟩ := Option.map_eq_some_iff.1 hi
      match j, hu with
      | 0, hu =>
        simp only [encW, List.getElem?_cons_zero, Option.some.injEq] at hu
        subst hu
        rw [hx]
        exact .raw _
      | j + 1, hu => simp [encW] at hu
theorem ownEs_dat {w : World} {base : Nat} {ok : Nat → Prop} {v : Value} {es : List Ent} {us : List Value} (h : OwnEs w base v es us) (hok : ∀ b, base ≤ b → b < w.heap.size → ok b) : Dat w ok (.sl false (es.map encEnt)) v := by
  rcases h.row.2 with ⟨rfl, h2⟩ | ⟨g, cap, cur, rfl, h2, h3, h4, h5, h6, h7⟩
  · have : es = [] := List.length_eq_zero_iff.1 h2
    subst this
    exact .nil _ _
  · have hg := (Array.getElem?_eq_some_iff.1 h3).1
    have hlen : (es.map encEnt).length = es.length := List.length_map _
    have hus : ∀ i x, es[i]? = some x → ∃ u, us[i]? = some u := fun i x hx => by
      have := (List.getElem?_eq_some_iff.1 hx).1
      exact ⟨_, List.getElem?_eq_getElem (by rw [h.len]; exact this)⟩
    have key := Dat.sl (w := w) (ok := ok) false (es.map encEnt) (some ⟨g, 0, none⟩) cap 2 (fun i j => if j = 0 then .int .u32 ((((es[i]?).map Ent.key).getD 0 : Nat) : Int) else (us[i]?).getD undef) (by rw [hlen]; exact h4) h5 (by intro h; cases h) ?_ ?_ ?_ ?_
    · rw [hlen] at key
      exact key
    · intro i cs hi
      rw [List.getElem?_map] at hi
      obtain ⟨x, _, rfl⟩ := Option.map_eq_some_iff.1 hi
      rfl
    · intro i cs hi
      exact ⟨_, rfl, hok g h2 hg⟩
    · intro i j cs a hi hj ha
      injection ha with ha
      subst ha
      rw [List.getElem?_map] at hi
      obtain ⟨x, hx, rfl⟩ := Option.map_eq_some_iff.1 hi
      obtain ⟨u, hu⟩ := hus i x hx
      obtain ⟨c0, c1⟩ := h.cells_ hx hu
      have hj2 : j = 0 ∨ j = 1 := by omega
      rcases hj2 with rfl | rfl
      · rw [add_lit0, Nat.add_zero, hx]
        exact ⟨c0, rfl⟩
      · rw [add_lit0, hu]
        exact ⟨c1, (ownW_dat (h.val i x u hx hu).1 fun b _ => hok b).one⟩
    · intro i j cs u hi hu
      rw [List.getElem?_map] at hi
      obtain ⟨x, hx, rfl⟩ := Option.map_eq_some_iff.1 hi
      match j, hu with
      | 0, hu =>
        simp only [encEnt, List.getElem?_cons_zero, Option.some.injEq] at hu
        subst hu
        rw [hx]
        exact .raw _
      | 1, hu =>
        simp only [encEnt, List.getElem?_cons_succ, List.getElem?_cons_zero, Option.some.injEq] at hu
        subst hu
        obtain ⟨u, hu⟩ := hus i x hx
        rw [hu]
        exact ownW_dat (h.val i x u hx hu).1 fun b _ => hok b
      | j + 2, hu => simp [encEnt] at hu

/-- What a call of the old kind leaves. -/
def Cx.fresh (x : Cx) (w w' : World) : Cx := { x with ok := fun b => x.ok b ∨ (w.heap.size ≤ b ∧ b < w'.heap.size) }
theorem Stp.fresh {w w' : World} {x : Cx} (h : HRel w x []) (hb : Below w.heap.size w w') : Stp w x [] w' (x.fresh w w') [] := by
  refine ⟨⟨fun b hb => .inl hb, fun _ _ h => h, fun b hk => hb.block b (h.okb b hk), ?_, ?_, ?_⟩, ⟨hb.os, hb.tape, hb.output, hb.size, fun b hk _ => hb.block b hk, ?_, ?_⟩, ⟨?_, ?_, ?_, ?_, ?_, ?_, ?_⟩⟩
  · rintro id _ ⟨t, cs, h⟩; simp [look] at h
  · rintro id g sz _ ⟨t, cs, h⟩; simp [look] at h
  · rintro id _ ⟨t, cs, h⟩; simp [look] at h
  · rintro b (h | h)
    · exact .inl h
    · exact .inr (.inl h.1)
  · intro id o b h; simp [look] at h
  · rintro b (h1 | h1)
    · exact Nat.lt_of_lt_of_le (h.okb b h1) hb.size
    · exact h1.2
  all_goals intros; simp_all [look]
theorem Ctr.old {P : Program} {f : FuncId} {args : List AV} {r : AV} (hcall : ∀ vals w, (callFunc f vals).run P w = .ok (.enter f vals) w)
    (h : ∀ (w : World) (x : Cx) (vals : Array Value), HRel w x [] → vals.size = args.length → (∀ (i : Nat) (u : AV), args[i]? = some u → VRel w x [] u (vals.getD i undef)) →
      Calls P f vals w fun e w' => ∃ v, e = .returned v ∧ Below w.heap.size w w' ∧ VRel w' (x.fresh w w') [] r v) : Ctr P f args [] r [] :=
  ⟨hcall, fun w x vals hH hdom hsz hargs => Calls.mono (h w x vals hH hsz hargs) fun e w' ⟨v, he, hb, hv⟩ => ⟨v, x.fresh w w', he, Stp.fresh hH hb, hv, fun id g hd => .inr (hdom id g hd)⟩⟩
theorem fresh_ok {x : Cx} {w w' : World} : ∀ b, w.heap.size ≤ b → b < w'.heap.size → (x.fresh w w').ok b := fun b h1 h2 => .inr ⟨h1, h2⟩
theorem VRel.rawInv {w : World} {x : Cx} {hp : Hp} {v u : Value} (h : VRel w x hp (.raw v) u) : u = v := h.rawEq
theorem VRel.slInv {w : World} {x : Cx} {hp : Hp} {f : Bool} {els : List (List AV)} {u : Value} (h : VRel w x hp (.sl f els) u) : Dat w x.ok (.sl f els) u := by cases h with | dat h => exact h
theorem VRel.aggInv {w : World} {x : Cx} {hp : Hp} {cs : List AV} {u : Value} (h : VRel w x hp (.agg cs) u) : ∃ vs : Array Value, u = .agg vs ∧ vs.size = cs.length ∧ ∀ (i : Nat) (c : AV), cs[i]? = some c → VRel w x hp c (vs.getD i undef) := by
  cases h with
  | dat h => cases h
  | agg _ vs hl h1 h => exact ⟨vs, rfl, hl, h⟩
theorem arr_eq {vs us : Array Value} (hl : vs.size = us.size) (h : ∀ i, i < us.size → vs.getD i undef = us.getD i undef) : vs = us := by
  refine Array.ext hl fun i h1 h2 => ?_
  have := h i h2
  simpa [Array.getD, h1, h2] using this
theorem avTab_inv {w : World} {x : Cx} {hp : Hp} {f : Bool} {t : Tab} {u : Value} (hok : ∀ b, x.ok b → b < w.heap.size) (h : VRel w x hp (avTab f t) u) (hl : okEs t.e) : ∃ A c, u = tabV t.s A t.e.length c t.next ∧ kEnt.At w w.heap.size A t.e.length c t.e := by
  obtain ⟨vs, rfl, hs, hv⟩ := h.aggInv
  obtain ⟨A, c, e1, e2⟩ := dat_kEnt hok (hv 4 _ rfl).slInv hl
  refine ⟨A, c, ?_, e2⟩
  refine congrArg Value.agg (arr_eq hs fun i hi => ?_)
  have hi : i < 6 := hi
  match i, hi with
  | 0, _ => exact (hv 0 _ rfl).rawEq
  | 1, _ => exact (hv 1 _ rfl).rawEq
  | 2, _ => exact (hv 2 _ rfl).rawEq
  | 3, _ => exact (hv 3 _ rfl).rawEq
  | 4, _ => exact e1
  | 5, _ => exact (hv 5 _ rfl).rawEq
theorem avSch_inv {w : World} {x : Cx} {hp : Hp} {s : Sch} {u : Value} (h : VRel w x hp (avSch s) u) : u = .agg #[.int .i64 s.kind, .int .i64 s.cap, .int .i64 s.words, .int .i64 s.ver] := by
  obtain ⟨vs, rfl, hs, hv⟩ := h.aggInv
  refine congrArg Value.agg (arr_eq hs fun i hi => ?_)
  have hi : i < 4 := hi
  match i, hi with
  | 0, _ => exact (hv 0 _ rfl).rawEq
  | 1, _ => exact (hv 1 _ rfl).rawEq
  | 2, _ => exact (hv 2 _ rfl).rawEq
  | 3, _ => exact (hv 3 _ rfl).rawEq
theorem avTab_of {w : World} {x : Cx} {hp : Hp} {f : Bool} {t : Tab} {A : Option Addr} {n c : Nat} (h : Dat w x.ok (.sl f (t.e.map encEnt)) (.slice A n c)) : VRel w x hp (avTab f t) (tabV t.s A n c t.next) := by
  refine .agg _ _ rfl ?_ ?_
  · intro i hi
    have hi : i < 6 := hi
    match i, hi with
    | 0, _ => rfl
    | 1, _ => rfl
    | 2, _ => rfl
    | 3, _ => rfl
    | 4, _ => rfl
    | 5, _ => rfl
  · intro i u hu
    match i, hu with
    | 0, hu => cases hu; exact .raw _
    | 1, hu => cases hu; exact .raw _
    | 2, hu => cases hu; exact .raw _
    | 3, hu => cases hu; exact .raw _
    | 4, hu => cases hu; exact .dat h
    | 5, hu => cases hu; exact .raw _
    | i + 6, hu => simp [cellsTab] at hu
end Go.Proofs.Ytpmnchgpbojppaa
