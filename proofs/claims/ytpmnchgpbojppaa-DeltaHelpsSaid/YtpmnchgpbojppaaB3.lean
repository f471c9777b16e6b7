/- Packed texts: OwnLib, Br, Own, Last, May2, Find, May, May3, Keyed, Get, App, Set, New, DelLib, Delete, Del, Awake, Few, Eqs, Same, Same2, Ct, Br2, Plain, Back, DelP. -/
import Derived.Test.YtpmnchgpbojppaaB2
import Derived.Test.YtpmnchgpbojppaaProg
import Derived.StillTailTactics
import Derived.BigQuiet
import Derived.Deep.QuietTactic
import Derived.Deep.RegionHeld3
import Derived.Deep.RegionLawGrows
import Derived.Maps.AppendAt
import Derived.Deep.DeepCutAuto
import Derived.Deep.CutBlock
/- Rows of words and of entries that the call itself made. -/
namespace Go.Proofs.Ytpmnchgpbojppaa
open Go Go.RowKit Go.Proofs.Try

theorem info_ent : (prog.info? 39).map (fun i => (i.zero, i.size, i.bytes)) = some (some (.agg #[.int .u32 0, .slice none 0 0]), 2, 32) := by kernel_rfl
theorem info_u32 : (prog.info? 25).map (fun i => (i.zero, i.size, i.bytes)) = some (some (.int .u32 0), 1, 4) := by kernel_rfl
/-- What is copied is not too great. -/
def fits (es : List Ent) : Prop := es.length ≤ 1048576 ∧ ∀ e ∈ es, e.v.length ≤ 1048576
def u32s (xs : List Nat) : List Value := xs.map fun (x : Nat) => Value.int .u32 (x : Int)
theorem u32s_length (xs : List Nat) : (u32s xs).length = xs.length := by simp [u32s]
theorem u32s_get {xs : List Nat} {i : Nat} {x : Nat} (h : xs[i]? = some x) : (u32s xs)[i]? = some (.int .u32 (x : Int)) := by simp [u32s, h]
theorem u32s_one (xs : List Nat) : ∀ u ∈ u32s xs, u.oneCell' = true := by
  intro u hu
  obtain ⟨_, _, rfl⟩ := List.mem_map.1 hu
  rfl
def lt32 (xs : List Nat) : Prop := ∀ x ∈ xs, x < 4294967296

/-- A row of words of the call's own. -/
structure OwnW (w : World) (base : Nat) (u : Value) (xs : List Nat) : Prop where
  row : w.ownsRow base 25 1 u xs.length (u32s xs)
  lt : lt32 xs
theorem OwnW.reads {w : World} {base : Nat} {u : Value} {xs : List Nat} (h : OwnW w base u xs) : ∃ A c, u = .slice A xs.length c ∧ kW.At w w.heap.size A xs.length c xs := by
  refine own_reads (k := kW) h.row rfl fun i x hx => ?_
  refine ⟨?_, h.lt x (List.mem_of_getElem? hx)⟩
  have := u32s_get hx
  show ((u32s xs).drop (i * 1)).take 1 = _
  rw [Nat.mul_one, List.drop_eq_getElem_cons (by rw [u32s_length]; exact (List.getElem?_eq_some_iff.1 hx).1)]
  simp only [List.take_succ_cons, List.take_zero, List.cons.injEq, and_true]
  rw [List.getElem?_eq_getElem (by rw [u32s_length]; exact (List.getElem?_eq_some_iff.1 hx).1)] at this
  exact Option.some.inj this
theorem OwnW.below {w w' : World} {base : Nat} {u : Value} {xs : List Nat} (h : OwnW w base u xs) (hb : Below w.heap.size w w') : OwnW w' base u xs := ⟨own_below h.row hb, h.lt⟩
theorem OwnW.mono {w : World} {base base' : Nat} {u : Value} {xs : List Nat} (h : OwnW w base u xs) (hb : base' ≤ base) : OwnW w base' u xs := ⟨own_mono h.row hb, h.lt⟩
theorem OwnW.only {w w' : World} {base g : Nat} {u : Value} {xs : List Nat} (h : OwnW w base u xs) (ho : Only g w w') (hg : u.ownBlock ≠ some g) : OwnW w' base u xs := ⟨h.row.kept ho (.inr hg), h.lt⟩

/-- The cells of entries whose values lie in rows us. -/
def entCells : List Ent → List Value → List Value
  | e :: es, u :: us => .int .u32 (e.key : Int) :: u :: entCells es us
  | _, _ => []
theorem entCells_length : ∀ {es : List Ent} {us : List Value}, us.length = es.length → (entCells es us).length = es.length * 2
  | [], [], _ => rfl
  | e :: es, u :: us, h => by
    simp only [entCells, List.length_cons]
    rw [entCells_length (by simpa using h)]
    omega
  | [], _ :: _, h => by simp at h
  | _ :: _, [], h => by simp at h
theorem entCells_get : ∀ {es : List Ent} {us : List Value} {i : Nat} {e : Ent} {u : Value}, es[i]? = some e → us[i]? = some u → (entCells es us)[i * 2]? = some (.int .u32 (e.key : Int)) ∧ (entCells es us)[i * 2 + 1]? = some u
  | [], _, _, _, _, h, _ => by simp at h
  | _ :: _, [], _, _, _, _, h => by simp at h
  | x :: es, y :: us, 0, e, u, he, hu => by
    simp at he hu
    simp [entCells, he, hu]
  | x :: es, y :: us, i + 1, e, u, he, hu => by
    have ih := entCells_get (es := es) (us := us) (i := i) (by simpa using he) (by simpa using hu)
    rw [show (i + 1) * 2 = i * 2 + 1 + 1 by omega]
    simpa [entCells] using ih
theorem entCells_one {es : List Ent} : ∀ {us : List Value}, (∀ u ∈ us, u.oneCell' = true) → ∀ v ∈ entCells es us, v.oneCell' = true := by
  induction es with
  | nil => intro us _ v hv; cases us <;> simp [entCells] at hv
  | cons e es ih =>
    intro us h v hv
    cases us with
    | nil => simp [entCells] at hv
    | cons u us =>
      simp only [entCells, List.mem_cons] at hv
      rcases hv with rfl | rfl | hv
      · rfl
      · exact h _ (by simp)
      · exact ih (fun u hu => h u (by simp [hu])) v hv
theorem entCells_append : ∀ {es es' : List Ent} {us us' : List Value}, us.length = es.length → entCells (es ++ es') (us ++ us') = entCells es us ++ entCells es' us'
  | [], _, [], _, _ => rfl
  | e :: es, es', u :: us, us', h => by
    simp only [List.cons_append, entCells, List.cons.injEq, true_and]
    exact entCells_append (by simpa using h)
  | [], _, _ :: _, _, h => by simp at h
  | _ :: _, _, [], _, h => by simp at h

theorem entCells_inv : ∀ {es : List Ent} {us : List Value} {j : Nat} {v : Value}, (entCells es us)[j]? = some v → ∃ (i : Nat) (e : Ent) (u : Value), es[i]? = some e ∧ us[i]? = some u ∧ ((j = i * 2 ∧ v = .int .u32 (e.key : Int)) ∨ (j = i * 2 + 1 ∧ v = u))
  | [], us, j, v, h => by cases us <;> simp [entCells] at h
  | _ :: _, [], j, v, h => by simp [entCells] at h
  | x :: es, y :: us, 0, v, h => by
    simp [entCells] at h
    exact ⟨0, x, y, rfl, rfl, .inl ⟨rfl, h.symm⟩⟩
  | x :: es, y :: us, 1, v, h => by
    simp [entCells] at h
    exact ⟨0, x, y, rfl, rfl, .inr ⟨rfl, h.symm⟩⟩
  | x :: es, y :: us, j + 2, v, h => by
    obtain ⟨i, e, u, he, hu, hj⟩ := entCells_inv (es := es) (us := us) (j := j) (v := v) (by simpa [entCells] using h)
    refine ⟨i + 1, e, u, by simpa using he, by simpa using hu, ?_⟩
    rcases hj with ⟨rfl, rfl⟩ | ⟨rfl, rfl⟩
    · exact .inl ⟨by omega, rfl⟩
    · exact .inr ⟨by omega, rfl⟩
theorem entCells_set : ∀ {es : List Ent} {us : List Value} {i : Nat} {u : Value}, (entCells es us).set (i * 2 + 1) u = entCells es (us.set i u)
  | [], us, i, u => by cases us <;> cases i <;> simp [entCells]
  | _ :: _, [], i, u => by cases i <;> simp [entCells]
  | x :: es, y :: us, 0, u => by simp [entCells]
  | x :: es, y :: us, i + 1, u => by
    rw [show (i + 1) * 2 + 1 = i * 2 + 1 + 1 + 1 by omega]
    simp only [entCells, List.set_cons_succ]
    rw [entCells_set]
/-- One for each place. -/
theorem choose_list {α : Type} {p : Nat → α → Prop} : ∀ (n : Nat), (∀ i, i < n → ∃ v, p i v) → ∃ vs : List α, vs.length = n ∧ ∀ (i : Nat) (v : α), vs[i]? = some v → p i v
  | 0, _ => ⟨[], rfl, fun i v h => by simp at h⟩
  | n + 1, h => by
    obtain ⟨vs, hl, hv⟩ := choose_list n (fun i hi => h i (by omega))
    obtain ⟨x, hx⟩ := h n (by omega)
    refine ⟨vs ++ [x], by simp [hl], fun i v hi => ?_⟩
    rcases Nat.lt_or_ge i n with h' | h'
    · rw [List.getElem?_append_left (by omega)] at hi
      exact hv i v hi
    · rw [List.getElem?_append_right (by omega)] at hi
      have h1 := (List.getElem?_eq_some_iff.1 hi).1
      simp at h1
      obtain rfl : i = n := by omega
      simp [hl] at hi
      subst hi
      exact hx
/-- The source's cells, as cells of entries. -/
theorem kEnt.cells {w : World} {B : Nat} {A : Option Addr} {n c : Nat} {es : List Ent} (h : kEnt.At w B A n c es) :
    ∃ vs : List Value, vs.length = n ∧ (∀ (i : Nat) (e : Ent) (v : Value), es[i]? = some e → vs[i]? = some v → e.key < 4294967296 ∧ ∃ A' m d, v = .slice A' m d ∧ kW.At w B A' m d e.v) ∧
      (0 < n → ∃ ad, A = some ad ∧ ad.block < B ∧ ∀ (j : Nat) (u : Value), (entCells es vs)[j]? = some u → w.cell? (ad.add j) = some u) := by
  rcases Nat.eq_zero_or_pos n with hn | hn
  · subst hn
    exact ⟨[], rfl, fun i e v _ hv => by simp at hv, fun hp => absurd hp (by omega)⟩
  · obtain ⟨e0, ad, _, _, _, _, rfl, hB, _⟩ := kEnt.get h hn
    obtain ⟨vs, hl, hv⟩ := choose_list (p := fun i v => ∃ e, es[i]? = some e ∧ e.key < 4294967296 ∧ (∃ A' m d, v = Value.slice A' m d ∧ kW.At w B A' m d e.v) ∧ w.cell? (ad.add (i * 2)) = some (.int .u32 (e.key : Int)) ∧ w.cell? (ad.add (i * 2 + 1)) = some v) n
      (fun i hi => by
        obtain ⟨e, ad', A', m, d, he, had, _, h0, h1, hk, hv⟩ := kEnt.get h hi
        injection had with had
        subst had
        exact ⟨.slice A' m d, e, he, hk, ⟨A', m, d, rfl, hv⟩, h0, by rw [show i * 2 + 1 = i * 2 + (0 + 1) by omega, add_fld]; exact h1⟩)
    refine ⟨vs, hl, fun i e v he hvi => ?_, fun _ => ⟨ad, rfl, hB, fun j u hu => ?_⟩⟩
    · obtain ⟨e', he', hk, hx, _⟩ := hv i v hvi
      rw [he] at he'
      cases he'
      exact ⟨hk, hx⟩
    · obtain ⟨i, e, v, he, hvi, hj⟩ := entCells_inv hu
      obtain ⟨e', he', hk, _, h0, h1⟩ := hv i v hvi
      rw [he] at he'
      cases he'
      rcases hj with ⟨rfl, rfl⟩ | ⟨rfl, rfl⟩
      · exact h0
      · exact h1
/-- No two of these values own one block. -/
def Lone (us : List Value) : Prop := ∀ (i j : Nat) (u v : Value) (b : Nat), i ≠ j → us[i]? = some u → us[j]? = some v → u.ownBlock = some b → v.ownBlock ≠ some b

/-- A row of entries of the call's own, each with a row of words of its own. -/
structure OwnEs (w : World) (base : Nat) (v : Value) (es : List Ent) (us : List Value) : Prop where
  len : us.length = es.length
  row : w.ownsRow base 39 2 v es.length (entCells es us)
  val : ∀ (i : Nat) (e : Ent) (u : Value), es[i]? = some e → us[i]? = some u → OwnW w base u e.v ∧ e.key < 4294967296
  lone : Lone us
theorem OwnW.blk_ne {w : World} {base base' : Nat} {u v : Value} {xs : List Nat} {n : Nat} {cs : List Value} (h : OwnW w base u xs) (hr : w.ownsRow base' 39 2 v n cs) {b : Nat} (hv : v.ownBlock = some b) : u.ownBlock ≠ some b := by
  intro hu
  rcases h.row.2 with ⟨rfl, _⟩ | ⟨g, cap, cur, rfl, _, hg, _⟩
  · simp [Value.ownBlock] at hu
  · rcases hr.2 with ⟨rfl, _⟩ | ⟨g', cap', cur', rfl, _, hg', _⟩
    · simp [Value.ownBlock] at hv
    · simp only [Value.ownBlock, Option.some.injEq] at hu hv
      subst hu
      subst hv
      rw [hg] at hg'
      simp at hg'
theorem OwnW.not_row' {w : World} {base base' m cu gu : Nat} {v : Value} {xs : List Nat} {n : Nat} {cs : List Value} (h : OwnW w base (.slice (some ⟨gu, 0, none⟩) m cu) xs) (hr : w.ownsRow base' 39 2 v n cs) : v.ownBlock ≠ some gu := by
  intro hv
  exact h.blk_ne hr hv rfl
theorem OwnEs.below {w w' : World} {base : Nat} {v : Value} {es : List Ent} {us : List Value} (h : OwnEs w base v es us) (hb : Below w.heap.size w w') : OwnEs w' base v es us :=
  ⟨h.len, own_below h.row hb, fun i e u he hu => ⟨(h.val i e u he hu).1.below hb, (h.val i e u he hu).2⟩, h.lone⟩
theorem OwnEs.mono {w : World} {base base' : Nat} {v : Value} {es : List Ent} {us : List Value} (h : OwnEs w base v es us) (hb : base' ≤ base) : OwnEs w base' v es us :=
  ⟨h.len, own_mono h.row hb, fun i e u he hu => ⟨(h.val i e u he hu).1.mono hb, (h.val i e u he hu).2⟩, h.lone⟩
theorem OwnEs.reads {w : World} {base : Nat} {v : Value} {es : List Ent} {us : List Value} (h : OwnEs w base v es us) : ∃ A c, v = .slice A es.length c ∧ kEnt.At w w.heap.size A es.length c es := by
  refine own_reads (k := kEnt) h.row rfl fun i e he => ?_
  have hi : i < us.length := by rw [h.len]; exact (List.getElem?_eq_some_iff.1 he).1
  have hu := List.getElem?_eq_getElem hi
  obtain ⟨hw, hk⟩ := h.val i e _ he hu
  obtain ⟨A, c, hsl, hat⟩ := hw.reads
  obtain ⟨h0, h1⟩ := entCells_get he hu
  refine ⟨A, _, c, ?_, hk, hat⟩
  show ((entCells es us).drop (i * 2)).take 2 = _
  apply List.ext_getElem?
  intro j
  match j with
  | 0 => rw [List.getElem?_take, if_pos (by omega), List.getElem?_drop, Nat.add_zero, h0]; rfl
  | 1 => rw [List.getElem?_take, if_pos (by omega), List.getElem?_drop, h1, hsl]; rfl
  | j + 2 => rw [List.getElem?_take, if_neg (by omega)]; rfl
/-- The same, of a slice written out. -/
theorem OwnEs.at_ {w : World} {base : Nat} {A : Option Addr} {n c : Nat} {es : List Ent} {us : List Value} (h : OwnEs w base (.slice A n c) es us) : kEnt.At w w.heap.size A n c es := by
  obtain ⟨A', c', he, hat⟩ := h.reads
  cases he
  exact hat
/-- What is not empty lies in a block. -/
theorem OwnEs.block {w : World} {base : Nat} {A : Option Addr} {n c : Nat} {es : List Ent} {us : List Value} (h : OwnEs w base (.slice A n c) es us) (hn : 0 < n) : ∃ g, A = some ⟨g, 0, none⟩ ∧ base ≤ g ∧ g < w.heap.size ∧ es.length = n := by
  have hl := h.at_.len
  rcases h.row.2 with ⟨_, h2⟩ | ⟨g, cap, cur, he, h2, h3, _⟩
  · omega
  · cases he
    exact ⟨g, rfl, h2, (Array.getElem?_eq_some_iff.1 h3).1, hl⟩
theorem OwnW.at_ {w : World} {base : Nat} {A : Option Addr} {n c : Nat} {xs : List Nat} (h : OwnW w base (.slice A n c) xs) : kW.At w w.heap.size A n c xs := by
  obtain ⟨A', c', he, hat⟩ := h.reads
  cases he
  exact hat
theorem OwnW.far {w w' : World} {base g : Nat} {u : Value} {xs : List Nat} (h : OwnW w base u xs) (ho : Only g w w') (hg : g < base) : OwnW w' base u xs :=
  h.only ho (fun hb => by have := (h.row.lt g hb).1; omega)
theorem OwnEs.far {w w' : World} {base g : Nat} {v : Value} {es : List Ent} {us : List Value} (h : OwnEs w base v es us) (ho : Only g w w') (hg : g < base) : OwnEs w' base v es us :=
  ⟨h.len, h.row.kept ho (.inr (fun hb => by have := (h.row.lt g hb).1; omega)), fun i e u he hu => ⟨(h.val i e u he hu).1.far ho hg, (h.val i e u he hu).2⟩, h.lone⟩
theorem OwnEs.cells_ {w : World} {base g n c : Nat} {es : List Ent} {us : List Value} {j : Nat} {e : Ent} {u : Value} (h : OwnEs w base (.slice (some ⟨g, 0, none⟩) n c) es us) (he : es[j]? = some e) (hu : us[j]? = some u) :
    w.cell? ⟨g, j * 2, none⟩ = some (.int .u32 (e.key : Int)) ∧ w.cell? ⟨g, j * 2 + 1, none⟩ = some u := by
  obtain ⟨h0, h1⟩ := entCells_get he hu
  have a0 := h.row.cells (g := g) rfl _ _ h0
  have a1 := h.row.cells (g := g) rfl _ _ h1
  rw [add_lit0] at a0 a1
  exact ⟨a0, a1⟩
theorem OwnW.cells_ {w : World} {base : Nat} {u : Value} {xs : List Nat} {f x : Nat} (h : OwnW w base u xs) (hf : xs[f]? = some x) :
    ∃ g c, u = .slice (some ⟨g, 0, none⟩) xs.length c ∧ base ≤ g ∧ g < w.heap.size ∧ xs.length ≤ c ∧ w.cell? ⟨g, f, none⟩ = some (.int .u32 (x : Int)) ∧ ∀ i, w.frozen? ⟨g, i, none⟩ = false := by
  have hl := (List.getElem?_eq_some_iff.1 hf).1
  rcases h.row.2 with ⟨_, h2⟩ | ⟨g, cap, cur, rfl, h2, h3, h4, h5, h6, h7⟩
  · omega
  · refine ⟨g, cap, rfl, h2, (Array.getElem?_eq_some_iff.1 h3).1, h4, ?_, fun i => frozen_of_row w g i cur _ h3⟩
    have := h.row.cells (g := g) rfl f _ (u32s_get hf)
    rwa [add_lit0] at this
theorem entCells_same_key : ∀ {es : List Ent} {us : List Value} {j : Nat} {e e' : Ent}, es[j]? = some e → e'.key = e.key → entCells (es.set j e') us = entCells es us
  | [], _, _, _, _, h, _ => by simp at h
  | _ :: _, [], j, _, _, _, _ => by cases j <;> simp [entCells]
  | x :: es, y :: us, 0, e, e', h, hk => by
    simp at h
    subst h
    simp [entCells, hk]
  | x :: es, y :: us, j + 1, e, e', h, hk => by
    simp only [List.set_cons_succ, entCells]
    rw [entCells_same_key (by simpa using h) hk]
/-- A word of a value set anew. -/
theorem OwnEs.setWord {w : World} {base gu m cu j f x : Nat} {v : Value} {es : List Ent} {us : List Value} {e : Ent} (h : OwnEs w base v es us) (he : es[j]? = some e) (hu : us[j]? = some (.slice (some ⟨gu, 0, none⟩) m cu)) (hx : x < 4294967296) :
    OwnEs (w.setCell ⟨gu, f, none⟩ (.int .u32 (x : Int))) base v (es.set j { e with v := e.v.set f x }) us := by
  have hj := (List.getElem?_eq_some_iff.1 he).1
  obtain ⟨hval, hkey⟩ := h.val j e _ he hu
  have hne := hval.not_row' h.row
  refine ⟨by rw [List.length_set]; exact h.len, ?_, fun i e' u' he' hu' => ?_, h.lone⟩
  · rw [List.length_set, entCells_same_key (e' := { e with v := e.v.set f x }) he rfl]
    exact h.row.kept (Only.setCell w gu f _) (.inr hne)
  · by_cases hij : j = i
    · subst hij
      rw [List.getElem?_set_self hj] at he'
      cases he'
      rw [hu] at hu'
      cases hu'
      have hm : e.v.length = m := by
        have := hval.at_.len
        exact this
      have hr := hval.row
      rw [hm] at hr
      refine ⟨⟨?_, ?_⟩, hkey⟩
      · have hs := (hr.stored f (.int .u32 (x : Int))).1
        simp only [List.length_set, hm]
        have e1 : u32s (e.v.set f x) = (u32s e.v).set f (.int .u32 (x : Int)) := by simp [u32s, List.map_set]
        rw [e1]
        exact hs
      · intro y hy
        rcases List.mem_or_eq_of_mem_set hy with hy | rfl
        · exact hval.lt y hy
        · exact hx
    · rw [List.getElem?_set_ne hij] at he'
      obtain ⟨h1, h2⟩ := h.val i e' u' he' hu'
      exact ⟨h1.only (Only.setCell w gu f _) (h.lone j i _ u' gu hij hu hu' rfl), h2⟩
theorem OwnW.ne_blk {w : World} {base gu m cu b : Nat} {xs : List Nat} {t : TypeId} {cs : Array Value} (h : OwnW w base (.slice (some ⟨gu, 0, none⟩) m cu) xs) (hb : Blk w b t cs) (ht : t ≠ 25) : gu ≠ b := by
  rintro rfl
  rcases h.row.2 with ⟨h1, _⟩ | ⟨g', cap, cur, he, _, hg', _⟩
  · cases h1
  · cases he
    unfold Blk at hb
    rw [hg'] at hb
    cases hb
    exact ht rfl
theorem OwnEs.nil_ (w : World) (base : Nat) : OwnEs w base (.slice none 0 0) [] [] :=
  ⟨rfl, World.ownsRow_nil w base _ 2, fun i e u he _ => by simp at he, fun i j u v b _ hu _ _ => by simp at hu⟩
/-- A row of noughts that was made. -/
theorem OwnW.made {w : World} {base g m : Nat} (h : Blk w g 25 (madeCells #[.int .u32 0] m)) (hb : base ≤ g) (hm : m ≤ maxLen) : OwnW w base (.slice (some ⟨g, 0, none⟩) m m) (List.replicate m 0) := by
  refine ⟨⟨by simp [u32s_length], .inr ⟨g, m, _, by simp, hb, h, by simp, hm, by simp [size_madeCells], ?_⟩⟩, fun x hx => by simp at hx; omega⟩
  have := toList_madeCells_one (.int .u32 0) m
  rw [this]
  simp [u32s]
theorem row_ne_box {w : World} {base b size n : Nat} {e t : TypeId} {v : Value} {xs : List Value} {cs : Array Value} (h : w.ownsRow base e size v n xs) (hb : Blk w b t cs) (ht : t ≠ e) : v.ownBlock ≠ some b := by
  intro hv
  rcases h.2 with ⟨rfl, _⟩ | ⟨g', cap, cur, rfl, _, hg', _⟩
  · simp [Value.ownBlock] at hv
  · simp only [Value.ownBlock, Option.some.injEq] at hv
    subst hv
    unfold Blk at hb
    rw [hg'] at hb
    cases hb
    exact ht rfl
/-- A box of another type is written: what is owned stays. -/
theorem OwnEs.box {w w' : World} {base b : Nat} {t : TypeId} {cs : Array Value} {v : Value} {es : List Ent} {us : List Value} (h : OwnEs w base v es us) (hb : Blk w b t cs) (ho : Only b w w') (h1 : t ≠ 39) (h2 : t ≠ 25) : OwnEs w' base v es us :=
  ⟨h.len, h.row.kept ho (.inr (row_ne_box h.row hb h1)), fun i e u he hu => ⟨(h.val i e u he hu).1.only ho (row_ne_box (h.val i e u he hu).1.row hb h2), (h.val i e u he hu).2⟩, h.lone⟩
theorem OwnEs.ne_box {w : World} {base b g n c : Nat} {t : TypeId} {cs : Array Value} {es : List Ent} {us : List Value} (h : OwnEs w base (.slice (some ⟨g, 0, none⟩) n c) es us) (hb : Blk w b t cs) (h1 : t ≠ 39) : g ≠ b := fun e => row_ne_box h.row hb h1 (by rw [e]; rfl)
end Go.Proofs.Ytpmnchgpbojppaa

/- From contracts of the old kind to contracts of the abstract machine. -/
set_option linter.unusedVariables false
namespace Go.Proofs.Ytpmnchgpbojppaa
open Go Go.RowKit Go.Proofs.Try

def okEs (es : List Ent) : Prop := ∀ e ∈ es, e.key < 4294967296 ∧ lt32 e.v
theorem dat_kW {w : World} {ok : Nat → Prop} (hok : ∀ b, ok b → b < w.heap.size) {f : Bool} {xs : List Nat} {v : Value} (h : Dat w ok (.sl f (xs.map encW)) v) (hl : lt32 xs) : ∃ A c, v = .slice A xs.length c ∧ kW.At w w.heap.size A xs.length c xs := by
  cases h with
  | sl _ _ A c sz vals hc hm ht hsz hA hcell hd =>
    rw [List.length_map] at hc
    refine ⟨A, c, by rw [List.length_map], rfl, hc, hm, fun i x hx => ?_⟩
    have hx' : (xs.map encW)[i]? = some (encW x) := by rw [List.getElem?_map, hx]; rfl
    have h1 : 1 = sz := hsz i _ hx'
    subst h1
    obtain ⟨a, rfl, ha⟩ := hA i _ hx'
    refine ⟨a, [.int .u32 (x : Int)], rfl, hok _ ha, ?_, rfl, hl x (List.mem_of_getElem? hx)⟩
    intro j u hu
    cases j with
    | zero =>
      simp only [List.getElem?_cons_zero, Option.some.injEq] at hu
      subst hu
      have h2 := (hcell i 0 _ a hx' (by omega) rfl).1
      have h3 := hd i 0 _ _ hx' rfl
      generalize vals i 0 = q at h2 h3
      cases h3
      exact h2
    | succ j => simp at hu
theorem dat_kEnt {w : World} {ok : Nat → Prop} (hok : ∀ b, ok b → b < w.heap.size) {f : Bool} {es : List Ent} {v : Value} (h : Dat w ok (.sl f (es.map encEnt)) v) (hl : okEs es) : ∃ A c, v = .slice A es.length c ∧ kEnt.At w w.heap.size A es.length c es := by
  cases h with
  | sl _ _ A c sz vals hc hm ht hsz hA hcell hd =>
    rw [List.length_map] at hc
    refine ⟨A, c, by rw [List.length_map], rfl, hc, hm, fun i x hx => ?_⟩
    have hx' : (es.map encEnt)[i]? = some (encEnt x) := by rw [List.getElem?_map, hx]; rfl
    have h1 : 2 = sz := hsz i _ hx'
    subst h1
    obtain ⟨a, rfl, ha⟩ := hA i _ hx'
    have hm := hl x (List.mem_of_getElem? hx)
    obtain ⟨A', c', e1, e2⟩ := dat_kW hok (hd i 1 _ _ hx' rfl) hm.2
    refine ⟨a, [.int .u32 (x.key : Int), .slice A' x.v.length c'], rfl, hok _ ha, ?_, A', _, c', rfl, hm.1, e2⟩
    intro j u hu
    match j, hu with
    | 0, hu =>
      simp only [List.getElem?_cons_zero, Option.some.injEq] at hu
      subst hu
      have h2 := (hcell i 0 _ a hx' (by omega) rfl).1
      have h3 := hd i 0 _ _ hx' rfl
      generalize vals i 0 = q at h2 h3
      cases h3
      exact h2
    | 1, hu =>
      simp only [List.getElem?_cons_succ, List.getElem?_cons_zero, Option.some.injEq] at hu
      subst hu
      have h2 := (hcell i 1 _ a hx' (by omega) rfl).1
      rw [e1] at h2
      exact h2
    | j + 2, hu => simp at hu
theorem ownW_dat {w : World} {base : Nat} {ok : Nat → Prop} {u : Value} {xs : List Nat} (h : OwnW w base u xs) (hok : ∀ b, u.ownBlock = some b → base ≤ b → b < w.heap.size → ok b) : Dat w ok (.sl false (xs.map encW)) u := by
  rcases h.row.2 with ⟨rfl, h2⟩ | ⟨g, cap, cur, rfl, h2, h3, h4, h5, h6, h7⟩
  · have : xs = [] := List.length_eq_zero_iff.1 h2
    subst this
    exact .nil _ _
  · have hg := (Array.getElem?_eq_some_iff.1 h3).1
    have hlen : (xs.map encW).length = xs.length := List.length_map _
    have key := Dat.sl (w := w) (ok := ok) false (xs.map encW) (some ⟨g, 0, none⟩) cap 1 (fun i j => .int .u32 (((xs[i]?).getD 0 : Nat) : Int)) (by rw [hlen]; exact h4) h5 (by intro h; cases h) ?_ ?_ ?_ ?_
    · rw [hlen] at key
      exact key
    · intro i cs hi
      rw [List.getElem?_map] at hi
      obtain ⟨x, _, rfl⟩ := Option.map_eq_some_iff.1 hi
      rfl
    · intro i cs hi
      exact ⟨_, rfl, hok g rfl h2 hg⟩
    · intro i j cs a hi hj ha
      injection ha with ha
      subst ha
      rw [List.getElem?_map] at hi
      obtain ⟨x, hx, rfl⟩ := Option.map_eq_some_iff.1 hi
      have : j = 0 := by omega
      subst this
      obtain ⟨g', c', e1, _, _, _, e2, _⟩ := h.cells_ hx
      injection e1 with e1
      injection e1 with e1
      injection e1 with e1
      subst e1
      rw [add_lit0, Nat.mul_one, Nat.add_zero, hx]
      exact ⟨e2, rfl⟩
    · intro i j cs u hi hu
      rw [List.getElem?_map] at hi
      obtain ⟨x, hx, rfl⟩ := Option.map_eq_some_iff.1 hi
      match j, hu with
      | 0, hu =>
        simp only [encW, List.getElem?_cons_zero, Option.some.injEq] at hu
        subst hu
        rw [hx]
        exact .raw _
      | j + 1, hu => simp [encW] at hu
theorem ownEs_dat {w : World} {base : Nat} {ok : Nat → Prop} {v : Value} {es : List Ent} {us : List Value} (h : OwnEs w base v es us) (hok : ∀ b, base ≤ b → b < w.heap.size → ok b) : Dat w ok (.sl false (es.map encEnt)) v := by
  rcases h.row.2 with ⟨rfl, h2⟩ | ⟨g, cap, cur, rfl, h2, h3, h4, h5, h6, h7⟩
  · have : es = [] := List.length_eq_zero_iff.1 h2
    subst this
    exact .nil _ _
  · have hg := (Array.getElem?_eq_some_iff.1 h3).1
    have hlen : (es.map encEnt).length = es.length := List.length_map _
    have hus : ∀ i x, es[i]? = some x → ∃ u, us[i]? = some u := fun i x hx => by
      have := (List.getElem?_eq_some_iff.1 hx).1
      exact ⟨_, List.getElem?_eq_getElem (by rw [h.len]; exact this)⟩
    have key := Dat.sl (w := w) (ok := ok) false (es.map encEnt) (some ⟨g, 0, none⟩) cap 2 (fun i j => if j = 0 then .int .u32 ((((es[i]?).map Ent.key).getD 0 : Nat) : Int) else (us[i]?).getD undef) (by rw [hlen]; exact h4) h5 (by intro h; cases h) ?_ ?_ ?_ ?_
    · rw [hlen] at key
      exact key
    · intro i cs hi
      rw [List.getElem?_map] at hi
      obtain ⟨x, _, rfl⟩ := Option.map_eq_some_iff.1 hi
      rfl
    · intro i cs hi
      exact ⟨_, rfl, hok g h2 hg⟩
    · intro i j cs a hi hj ha
      injection ha with ha
      subst ha
      rw [List.getElem?_map] at hi
      obtain ⟨x, hx, rfl⟩ := Option.map_eq_some_iff.1 hi
      obtain ⟨u, hu⟩ := hus i x hx
      obtain ⟨c0, c1⟩ := h.cells_ hx hu
      have hj2 : j = 0 ∨ j = 1 := by omega
      rcases hj2 with rfl | rfl
      · rw [add_lit0, Nat.add_zero, hx]
        exact ⟨c0, rfl⟩
      · rw [add_lit0, hu]
        exact ⟨c1, (ownW_dat (h.val i x u hx hu).1 fun b _ => hok b).one⟩
    · intro i j cs u hi hu
      rw [List.getElem?_map] at hi
      obtain ⟨x, hx, rfl⟩ := Option.map_eq_some_iff.1 hi
      match j, hu with
      | 0, hu =>
        simp only [encEnt, List.getElem?_cons_zero, Option.some.injEq] at hu
        subst hu
        rw [hx]
        exact .raw _
      | 1, hu =>
        simp only [encEnt, List.getElem?_cons_succ, List.getElem?_cons_zero, Option.some.injEq] at hu
        subst hu
        obtain ⟨u, hu⟩ := hus i x hx
        rw [hu]
        exact ownW_dat (h.val i x u hx hu).1 fun b _ => hok b
      | j + 2, hu => simp [encEnt] at hu

/-- What a call of the old kind leaves. -/
def Cx.fresh (x : Cx) (w w' : World) : Cx := { x with ok := fun b => x.ok b ∨ (w.heap.size ≤ b ∧ b < w'.heap.size) }
theorem Stp.fresh {w w' : World} {x : Cx} (h : HRel w x []) (hb : Below w.heap.size w w') : Stp w x [] w' (x.fresh w w') [] := by
  refine ⟨⟨fun b hb => .inl hb, fun _ _ h => h, fun b hk => hb.block b (h.okb b hk), ?_, ?_, ?_⟩, ⟨hb.os, hb.tape, hb.output, hb.size, fun b hk _ => hb.block b hk, ?_, ?_⟩, ⟨?_, ?_, ?_, ?_, ?_, ?_, ?_⟩⟩
  · rintro id _ ⟨t, cs, h⟩; simp [look] at h
  · rintro id g sz _ ⟨t, cs, h⟩; simp [look] at h
  · rintro id _ ⟨t, cs, h⟩; simp [look] at h
  · rintro b (h | h)
    · exact .inl h
    · exact .inr (.inl h.1)
  · intro id o b h; simp [look] at h
  · rintro b (h1 | h1)
    · exact Nat.lt_of_lt_of_le (h.okb b h1) hb.size
    · exact h1.2
  all_goals intros; simp_all [look]
theorem Ctr.old {P : Program} {f : FuncId} {args : List AV} {r : AV} (hcall : ∀ vals w, (callFunc f vals).run P w = .ok (.enter f vals) w)
    (h : ∀ (w : World) (x : Cx) (vals : Array Value), HRel w x [] → vals.size = args.length → (∀ (i : Nat) (u : AV), args[i]? = some u → VRel w x [] u (vals.getD i undef)) →
      Calls P f vals w fun e w' => ∃ v, e = .returned v ∧ Below w.heap.size w w' ∧ VRel w' (x.fresh w w') [] r v) : Ctr P f args [] r [] :=
  ⟨hcall, fun w x vals hH hdom hsz hargs => Calls.mono (h w x vals hH hsz hargs) fun e w' ⟨v, he, hb, hv⟩ => ⟨v, x.fresh w w', he, Stp.fresh hH hb, hv, fun id g hd => .inr (hdom id g hd)⟩⟩
theorem fresh_ok {x : Cx} {w w' : World} : ∀ b, w.heap.size ≤ b → b < w'.heap.size → (x.fresh w w').ok b := fun b h1 h2 => .inr ⟨h1, h2⟩
theorem VRel.rawInv {w : World} {x : Cx} {hp : Hp} {v u : Value} (h : VRel w x hp (.raw v) u) : u = v := h.rawEq
theorem VRel.slInv {w : World} {x : Cx} {hp : Hp} {f : Bool} {els : List (List AV)} {u : Value} (h : VRel w x hp (.sl f els) u) : Dat w x.ok (.sl f els) u := by cases h with | dat h => exact h
theorem VRel.aggInv {w : World} {x : Cx} {hp : Hp} {cs : List AV} {u : Value} (h : VRel w x hp (.agg cs) u) : ∃ vs : Array Value, u = .agg vs ∧ vs.size = cs.length ∧ ∀ (i : Nat) (c : AV), cs[i]? = some c → VRel w x hp c (vs.getD i undef) := by
  cases h with
  | dat h => cases h
  | agg _ vs hl h1 h => exact ⟨vs, rfl, hl, h⟩
theorem arr_eq {vs us : Array Value} (hl : vs.size = us.size) (h : ∀ i, i < us.size → vs.getD i undef = us.getD i undef) : vs = us := by
  refine Array.ext hl fun i h1 h2 => ?_
  have := h i h2
  simpa [Array.getD, h1, h2] using this
theorem avTab_inv {w : World} {x : Cx} {hp : Hp} {f : Bool} {t : Tab} {u : Value} (hok : ∀ b, x.ok b → b < w.heap.size) (h : VRel w x hp (avTab f t) u) (hl : okEs t.e) : ∃ A c, u = tabV t.s A t.e.length c t.next ∧ kEnt.At w w.heap.size A t.e.length c t.e := by
  obtain ⟨vs, rfl, hs, hv⟩ := h.aggInv
  obtain ⟨A, c, e1, e2⟩ := dat_kEnt hok (hv 4 _ rfl).slInv hl
  refine ⟨A, c, ?_, e2⟩
  refine congrArg Value.agg (arr_eq hs fun i hi => ?_)
  have hi : i < 6 := hi
  match i, hi with
  | 0, _ => exact (hv 0 _ rfl).rawEq
  | 1, _ => exact (hv 1 _ rfl).rawEq
  | 2, _ => exact (hv 2 _ rfl).rawEq
  | 3, _ => exact (hv 3 _ rfl).rawEq
  | 4, _ => exact e1
  | 5, _ => exact (hv 5 _ rfl).rawEq
theorem avSch_inv {w : World} {x : Cx} {hp : Hp} {s : Sch} {u : Value} (h : VRel w x hp (avSch s) u) : u = .agg #[.int .i64 s.kind, .int .i64 s.cap, .int .i64 s.words, .int .i64 s.ver] := by
  obtain ⟨vs, rfl, hs, hv⟩ := h.aggInv
  refine congrArg Value.agg (arr_eq hs fun i hi => ?_)
  have hi : i < 4 := hi
  match i, hi with
  | 0, _ => exact (hv 0 _ rfl).rawEq
  | 1, _ => exact (hv 1 _ rfl).rawEq
  | 2, _ => exact (hv 2 _ rfl).rawEq
  | 3, _ => exact (hv 3 _ rfl).rawEq
theorem avTab_of {w : World} {x : Cx} {hp : Hp} {f : Bool} {t : Tab} {A : Option Addr} {n c : Nat} (h : Dat w x.ok (.sl f (t.e.map encEnt)) (.slice A n c)) : VRel w x hp (avTab f t) (tabV t.s A n c t.next) := by
  refine .agg _ _ rfl ?_ ?_
  · intro i hi
    have hi : i < 6 := hi
    match i, hi with
    | 0, _ => rfl
    | 1, _ => rfl
    | 2, _ => rfl
    | 3, _ => rfl
    | 4, _ => rfl
    | 5, _ => rfl
  · intro i u hu
    match i, hu with
    | 0, hu => cases hu; exact .raw _
    | 1, hu => cases hu; exact .raw _
    | 2, hu => cases hu; exact .raw _
    | 3, hu => cases hu; exact .raw _
    | 4, hu => cases hu; exact .dat h
    | 5, hu => cases hu; exact .raw _
    | i + 6, hu => simp [cellsTab] at hu
end Go.Proofs.Ytpmnchgpbojppaa

/- table.own. -/
namespace Go.Proofs.Ytpmnchgpbojppaa
open Go Go.RowKit Go.Proofs.Try

/-- The loop's relation: behind k rounds. -/
structure OwnRel (g b0 : Nat) (es : List Ent) (vs : List Value) (k : Nat) (us : List Value) (wr : World) : Prop where
  len : us.length = es.length
  rest : ∀ i, k ≤ i → us[i]? = vs[i]?
  blk : Blk wr g 39 (entCells es us).toArray
  own : ∀ (i : Nat) (e : Ent) (u : Value), i < k → es[i]? = some e → us[i]? = some u → OwnW wr b0 u e.v
  lone : ∀ (i j : Nat) (u v : Value) (b : Nat), i < k → j < k → i ≠ j → us[i]? = some u → us[j]? = some v → u.ownBlock = some b → v.ownBlock ≠ some b

theorem OwnRel.step {g b0 gv : Nat} {es : List Ent} {vs us : List Value} {k : Nat} {e : Ent} {wr w' : World} (h : OwnRel g b0 es vs k us wr) (he : es[k]? = some e) (hw : ∀ i, i < wr.heap.size → i ≠ g → w'.heap[i]? = wr.heap[i]?)
    (hos : w'.os = wr.os) (htape : w'.tape = wr.tape) (hout : w'.output = wr.output) (hsize : wr.heap.size ≤ w'.heap.size) (hgv : gv = wr.heap.size) (hb0 : b0 ≤ gv)
    (hg : Blk w' g 39 ((entCells es us).set (k * 2 + 1) (.slice (some ⟨gv, 0, none⟩) e.v.length e.v.length)).toArray) (hv : Blk w' gv 25 (u32s e.v).toArray) (hlt : lt32 e.v) (hm : e.v.length ≤ maxLen) :
    OwnRel g b0 es vs (k + 1) (us.set k (.slice (some ⟨gv, 0, none⟩) e.v.length e.v.length)) w' := by
  have hgr : wr.grownBy w' (some g) := ⟨hos, htape, hout, hsize, fun i hi hn => hw i hi (fun e => hn (by rw [e]))⟩
  have hku : k < us.length := by rw [h.len]; exact (List.getElem?_eq_some_iff.1 he).1
  refine ⟨by simp [h.len], fun i hi => ?_, by rw [entCells_set] at hg; exact hg, fun i e' u hi he' hu => ?_, fun i j u v b hi hj hij hu hv' hb => ?_⟩
  · rw [List.getElem?_set_ne (by omega)]
    exact h.rest i (by omega)
  · rcases Nat.lt_or_ge i k with hik | hik
    · rw [List.getElem?_set_ne (by omega)] at hu
      have ho := h.own i e' u hik he' hu
      refine ho.only hgr ?_
      intro hb
      rcases ho.row.2 with ⟨rfl, _⟩ | ⟨g', cap, cur, rfl, _, hg', _⟩
      · simp [Value.ownBlock] at hb
      · simp only [Value.ownBlock, Option.some.injEq] at hb
        subst hb
        have := h.blk
        unfold Blk at this
        rw [hg'] at this
        simp at this
    · obtain rfl : i = k := by omega
      rw [he] at he'
      cases he'
      rw [List.getElem?_set_self hku] at hu
      cases hu
      refine ⟨⟨by simp [u32s_length], .inr ⟨gv, _, _, rfl, hb0, hv, Nat.le_refl _, hm, by simp [u32s_length], ?_⟩⟩, hlt⟩
      rw [List.toList_toArray, List.take_of_length_le (by simp [u32s_length])]
  · have old : ∀ (i : Nat) (u : Value) (b : Nat), i < k → us[i]? = some u → u.ownBlock = some b → b < gv := by
      intro i u b hi hu hb
      have hil : i < es.length := by rw [← h.len]; exact (List.getElem?_eq_some_iff.1 hu).1
      have := (h.own i _ u hi (List.getElem?_eq_getElem hil) hu).row.lt b hb
      omega
    rcases Nat.lt_or_ge i k with hik | hik
    · rw [List.getElem?_set_ne (by omega)] at hu
      rcases Nat.lt_or_ge j k with hjk | hjk
      · rw [List.getElem?_set_ne (by omega)] at hv'
        exact h.lone i j u v b hik hjk hij hu hv' hb
      · obtain rfl : j = k := by omega
        rw [List.getElem?_set_self hku] at hv'
        cases hv'
        have := old i u b hik hu hb
        simp only [Value.ownBlock, ne_eq, Option.some.injEq]
        omega
    · obtain rfl : i = k := by omega
      rw [List.getElem?_set_self hku] at hu
      cases hu
      simp only [Value.ownBlock, Option.some.injEq] at hb
      subst hb
      rw [List.getElem?_set_ne (by omega)] at hv'
      intro hvb
      have := old j v _ (by omega) hv' hvb
      omega

set_option maxRecDepth 100000 in
set_option maxHeartbeats 2000000 in
theorem own_any (s : Sch) (A : Option Addr) (n c nx : Nat) (es : List Ent) (w : World) (hf : fits es) (hE : kEnt.At w w.heap.size A n c es) :
    Calls prog 54 #[tabV s A n c nx] w fun e w' => ∃ A' us, e = .returned (tabV s A' n n nx) ∧ OwnEs w' w.heap.size (.slice A' n n) es us ∧ Below w.heap.size w w' := by
  have hn := hE.nle
  have hl := Lib.hid hE.len
  have hn2 : n ≤ 1048576 := by have := hf.1; rw [hE.len] at this; exact this
  obtain ⟨vs, hvl, hvs, hsrc⟩ := kEnt.cells hE
  replace hvl := Lib.hid hvl
  replace hvs := Lib.hid hvs
  replace hsrc := Lib.hid hsrc
  unfold tabV
  obtain ⟨W1, hW1, hB1, hS1, hG1, hO1, hP1⟩ := boxedB w _ rfl #[.int .i64 s.kind, .int .i64 s.cap, .int .i64 s.words, .int .i64 s.ver, .slice A n c, .int .u32 (nx : Int)] 27
  obtain ⟨W2, hW2, hB2, hS2, hG2, hO2, hP2⟩ := boxedB W1 _ hS1 #[.int .i64 0, .int .i64 0, .int .i64 0, .int .i64 0, .slice none 0 0, .int .u32 0] 27
  have hmk := run_makeN (P := prog) 24 39 _ 2 32 underlying24 info_ent n (by omega) (by omega)
  obtain ⟨W3, hW3, hB3, hS3, hG3, hO3, hP3⟩ := boxedB W2 _ hS2 (madeCells #[.int .u32 0, .slice none 0 0] (n * 2)) 39
  have hC1 := hG1.cell
  have hC1' := boxAt (hB2.trans (hB3.mono (Nat.le_succ _))) (Nat.lt_succ_self _) hC1
  have hB := hB1.trans ((hB2.trans (hB3.mono (Nat.le_succ _))).mono (Nat.le_succ _))
  obtain ⟨ie, hie, _, hsz, _⟩ := info_parts info_ent
  obtain ⟨iw, hiw, _, hsw, _⟩ := info_parts info_u32
  have hcl : (entCells es vs).length = n * 2 := by rw [entCells_length (by rw [hvl.out, hl.out]), hl.out]
  replace hcl := Lib.hid hcl
  have hG3' : Blk W3 (w.heap.size + 1 + 1) 39 (madeCells #[.int .u32 0, .slice none 0 0] (n * 2)).toList.toArray := by simpa using hG3
  have hone : ∀ v ∈ entCells es vs, v.oneCell' = true := entCells_one (fun u hu => by
    obtain ⟨i, hi⟩ := List.mem_iff_getElem?.1 hu
    have hil : i < es.length := by rw [hl.out, ← hvl.out]; exact (List.getElem?_eq_some_iff.1 hi).1
    obtain ⟨_, A', m, d, rfl, _⟩ := hvs.out i _ u (List.getElem?_eq_getElem hil) hi
    rfl)
  replace hone := Lib.hid hone
  have hcn : (entCells es vs).length = Nat.min n n * 2 := by rw [hcl.out]; simp
  replace hcn := Lib.hid hcn
  have hpos : 0 < (entCells es vs).length → some (⟨w.heap.size + 1 + 1, 0, none⟩ : Addr) = some ⟨w.heap.size + 1 + 1, 0, none⟩ ∧ ∃ ad, A = some ad ∧ ∀ (j : Nat) (u : Value), (entCells es vs)[j]? = some u → W3.cell? (ad.add j) = some u := by
    intro hp
    obtain ⟨ad, rfl, hadB, hcs⟩ := hsrc.out (by rw [hcl.out] at hp; omega)
    exact ⟨rfl, ad, rfl, fun j u hu => (hB.cell (by rw [add_block]; exact hadB)).trans (hcs j u hu)⟩
  replace hpos := Lib.hid hpos
  have hfit : 0 + (entCells es vs).length ≤ (madeCells #[.int .u32 0, .slice none 0 0] (n * 2)).toList.length := by rw [hcl.out]; simp [size_madeCells]
  replace hfit := Lib.hid hfit
  have hspl : splice (madeCells #[.int .u32 0, .slice none 0 0] (n * 2)).toList 0 (entCells es vs) = entCells es vs := by
    unfold splice
    rw [List.take_zero, List.nil_append, List.drop_eq_nil_of_le (by rw [Nat.zero_add, hcl.out]; simp [size_madeCells]), List.append_nil]
  replace hspl := Lib.hid hspl
  go_enter func54, ntmps54
  go_wp2_with (refine wpList_copyS (o := ⟨some 12, _, _, _, _, _⟩) rfl _ _ _ _ rfl 39 ie 2 underlying24 hie hsz (by omega) _ _ _ _ _ _ rfl rfl (w.heap.size + 1 + 1) 0 _ 39 hG3' (entCells es vs) hcn.out hpos.out hfit.out hone.out ?_)
  intro w4 hG4 ho4 hs4
  rw [hspl.out] at hG4
  have hs4 : w4.heap.size = w.heap.size + 1 + 1 + 1 := by first | exact hs4 | exact hs4.trans hS3
  have hB4 : Below (w.heap.size + 1 + 1) W2 w4 := Only.below hB3 ho4 (Nat.le_refl _) (by omega)
  have hC4 := boxAt hB4 (by omega) (boxAt hB2 (Nat.lt_succ_self _) hC1)
  have hb4 := hB1.trans ((hB2.trans (hB4.mono (Nat.le_succ _))).mono (Nat.le_succ _))
  clear hpos hfit hcn hmk hW3
  go_wp2_with fail
  go_loopw [15] (fun i wr => ∃ k : Nat, k ≤ n ∧ i = .int .i64 k ∧ Below (w.heap.size + 1 + 1) W2 wr ∧ w.heap.size + 1 + 1 < wr.heap.size ∧ ∃ us, OwnRel (w.heap.size + 1 + 1) (w.heap.size + 1 + 1) es vs k us wr) (fun i _ => n - (intOf i).toNat)
  case atStart =>
    refine ⟨0, Nat.zero_le _, rfl, hB4, by omega, vs, by rw [hvl.out, hl.out], fun _ _ => rfl, hG4, fun i e u h => absurd h (by omega), fun i j u v b h => absurd h (by omega)⟩
  case round =>
    obtain ⟨k, hk, rfl, hbr, hgr, us, hrel⟩ := hrel
    have hul := Lib.hid hrel.len
    have hCr := boxAt hbr (by omega) (boxAt hB2 (Nat.lt_succ_self _) hC1)
    have hwr := hB1.trans ((hB2.trans (hbr.mono (Nat.le_succ _))).mono (Nat.le_succ _))
    replace hrel := Lib.hid hrel
    by_cases hlt : k < n
    · obtain ⟨e, ad, D, m, d, he, rfl, hadB, hk0, hk1, hkey, hv⟩ := kEnt.get (hE.below hwr) hlt
      have hm2 : m ≤ 1048576 := by have := hf.2 e (List.mem_of_getElem? he); rw [hv.len] at this; exact this
      replace he := Lib.hid he
      have hki : (k : Int) < (n : Int) := by omega
      have hmk := run_makeN (P := prog) 36 25 _ 1 4 underlying36 info_u32 m (by omega) (by omega)
      have hvl2 := Lib.hid hv.len
      have hvn : (u32s e.v).length = Nat.min m m * 1 := by rw [u32s_length, hv.len]; simp
      replace hvn := Lib.hid hvn
      have hvfit : 0 + (u32s e.v).length ≤ (madeCells #[.int .u32 0] m).toList.length := by rw [u32s_length, hv.len]; simp [size_madeCells]
      replace hvfit := Lib.hid hvfit
      have hvspl : splice (madeCells #[.int .u32 0] m).toList 0 (u32s e.v) = u32s e.v := by
        unfold splice
        rw [List.take_zero, List.nil_append, List.drop_eq_nil_of_le (by rw [Nat.zero_add, u32s_length, hv.len]; simp [size_madeCells]), List.append_nil]
      replace hvspl := Lib.hid hvspl
      have hlt32 : lt32 e.v := fun x hx => by
        obtain ⟨i, hi⟩ := List.mem_iff_getElem?.1 hx
        obtain ⟨_, _, _, _, _, hk⟩ := hv.el i x hi
        exact hk.2
      have hgr2 : ¬ wr.heap.size = w.heap.size + 1 + 1 := by omega
      obtain ⟨vk, hvk⟩ : ∃ vk, us[k]? = some vk := ⟨_, List.getElem?_eq_getElem (by rw [hul.out, hl.out]; exact hlt)⟩
      have hgc : wr.cell? ⟨w.heap.size + 1 + 1, k * 2 + 1, none⟩ = some vk := by rw [hrel.out.blk.cell]; simpa using (entCells_get he.out hvk).2
      clear hvk
      have hgf : ∀ i, wr.frozen? ⟨w.heap.size + 1 + 1, i, none⟩ = false := hrel.out.blk.frozen
      obtain ⟨W5, hW5, hB5, hS5, hG5, hO5, hP5⟩ := boxedB wr _ rfl (madeCells #[.int .u32 0] m) 25
      have hG5g := hrel.out.blk.below hB5 hgr
      obtain ⟨W6, hW6, ho6, hs6, hG6, hO6, hP6⟩ := storedB hG5g (k * 2 + 1) (.slice (some ⟨wr.heap.size, 0, none⟩) m m)
      have hgc5 : W5.cell? ⟨w.heap.size + 1 + 1, k * 2 + 1, none⟩ = some vk := (hO5 _ _ hgr).trans hgc
      have hgf5 : ∀ i, W5.frozen? ⟨w.heap.size + 1 + 1, i, none⟩ = false := fun i => (hP5 _ i hgr).trans (hgf i)
      have hwlt : w.heap.size < wr.heap.size := by omega
      have hk16 : W6.cell? ⟨(ad.add (k * 2)).block, (ad.add (k * 2)).off + 1, none⟩ = some (.slice D m d) := ho6.cell ((hB5.cell (by show (ad.add (k * 2)).block < _; rw [add_block]; omega)).trans hk1) (by show (ad.add (k * 2)).block ≠ _; rw [add_block]; omega)
      have hgc6 : W6.cell? ⟨w.heap.size + 1 + 1, k * 2 + 1, none⟩ = some (.slice (some ⟨wr.heap.size, 0, none⟩) m m) := by
        rw [hG6.cell]
        have : k * 2 + 1 < (entCells es us).length := by rw [entCells_length (by rw [hul.out]), hl.out]; omega
        simp [this]
      have hGv : Blk W6 wr.heap.size 25 (madeCells #[.int .u32 0] m).toList.toArray := by simpa using hG5.grown ho6 (by simp; omega)
      have hC6 : ∀ i, W6.cell? ⟨w.heap.size, i, none⟩ = #[.int .i64 s.kind, .int .i64 s.cap, .int .i64 s.words, .int .i64 s.ver, .slice (some ad) n c, .int .u32 (nx : Int)][i]? := fun i => ((hO6 _ i (by omega)).trans (hO5 _ i hwlt)).trans (hCr i)
      clear hO6 hO5
      have hvpos : 0 < (u32s e.v).length → some (⟨wr.heap.size, 0, none⟩ : Addr) = some ⟨wr.heap.size, 0, none⟩ ∧ ∃ ad, D = some ad ∧ ∀ (j : Nat) (u : Value), (u32s e.v)[j]? = some u → W6.drew.cell? (ad.add j) = some u := by
        intro hp
        rw [u32s_length, hv.len] at hp
        obtain ⟨x0, ad2, _, rfl, hb2, _⟩ := kW.get hv hp
        refine ⟨rfl, ad2, rfl, fun j u hu => ?_⟩
        have hj : j < m := by rw [← hv.len, ← u32s_length]; exact (List.getElem?_eq_some_iff.1 hu).1
        obtain ⟨x, ad3, hx, had, hb3, hc3, _⟩ := kW.get hv hj
        injection had with had
        subst had
        rw [u32s_get hx] at hu
        cases hu
        exact ho6.cell ((hB5.cell (by rw [add_block]; omega)).trans hc3) (by rw [add_block]; omega)
      replace hvpos := Lib.hid hvpos
      go_wp2_with fail
      go_still_tail 11, (by kernel_rfl)
      change wpList _ _ _ _ _ W6.drew
      refine wpList_copyS rfl _ _ _ _ rfl 25 iw 1 underlying36 hiw hsw (by omega) _ _ _ _ _ _ rfl rfl wr.heap.size 0 _ 25 (show Blk W6.drew _ _ _ from hGv) (u32s e.v) hvn.out (fun hp => ⟨rfl, (hvpos.out hp).2⟩) hvfit.out (u32s_one _) ?_
      intro w7 hG7 ho7 hs7
      rw [hvspl.out] at hG7
      have hob : ∀ i, i < wr.heap.size → i ≠ w.heap.size + 1 + 1 → w7.heap[i]? = wr.heap[i]? := by
        intro i hi hne
        have a1 := ho7.block i (by show i < W6.heap.size; omega) (by simp; omega)
        have a2 := ho6.block i (by omega) (by simp; omega)
        exact a1.trans (a2.trans (hB5.block i hi))
      have hG7g : Blk w7 (w.heap.size + 1 + 1) 39 ((entCells es us).set (k * 2 + 1) (.slice (some ⟨wr.heap.size, 0, none⟩) m m)).toArray := by
        have := Blk.grown (w := W6.drew) (show Blk W6.drew _ _ _ from hG6) ho7 (by simp; omega)
        simpa using this
      have hs76 : W6.drew.heap.size = W6.heap.size := rfl
      have hBr7 : Below (w.heap.size + 1 + 1) W2 w7 := Only.below (w := W6.drew) (Below.drew (Only.below (hbr.trans (hB5.mono (by omega))) ho6 (Nat.le_refl _) (by omega))) ho7 (by omega) (by omega)
      go_wp2_with fail
      refine ⟨⟨k + 1, by omega, by go_num, hBr7, by omega, _, hvl2.out ▸ hrel.out.step he.out hob (ho7.os.trans (ho6.os.trans hB5.os)) (ho7.tape.trans (ho6.tape.trans hB5.tape)) (ho7.output.trans (ho6.output.trans hB5.output)) (by omega) rfl (by omega) (by rw [hvl2.out]; exact hG7g) hG7 hlt32 (by rw [hvl2.out]; simp only [maxLen]; omega)⟩, by simp [intOf]; omega⟩
    · obtain rfl : k = n := by omega
      have hG1r := (hG1.below hB2 (Nat.lt_succ_self _)).below hbr (by omega)
      have hG2r := hG2.below hbr (Nat.lt_succ_self _)
      have hF1r := hG1r.frozen
      obtain ⟨W8, hW8, ho8, hs8, hG8, hO8, hP8⟩ := storedB hG1r 4 (.slice (some ⟨w.heap.size + 1 + 1, 0, none⟩) k k)
      have hG28 := hG2r.grown ho8 (by simp)
      have hC2r := hG28.cell
      have hF2r := hG28.frozen
      have hC18 := hG8.cell
      have hres := Lib.hid (hG28.setBox [.int .i64 s.kind, .int .i64 s.cap, .int .i64 s.words, .int .i64 s.ver, .slice (some ⟨w.heap.size + 1 + 1, 0, none⟩) k k, .int .u32 (nx : Int)] rfl)
      have ho9 := setAll_only (w.heap.size + 1) [.int .i64 s.kind, .int .i64 s.cap, .int .i64 s.words, .int .i64 s.ver, .slice (some ⟨w.heap.size + 1 + 1, 0, none⟩) k k, .int .u32 (nx : Int)] 0 W8
      have hb8 := Only.below hwr ho8 (Nat.le_refl _) (by omega)
      have hb9 := Only.below hb8 ho9 (by omega) (by omega)
      clear hO8 hP8
      go_wp2_with fail
      refine bodyPost_ret (results_c results54 rfl hres.out underlying27 rfl (by kernel_rfl)) rfl ?_
      refine ⟨some ⟨w.heap.size + 1 + 1, 0, none⟩, us, rfl, ?_, hb9⟩
      have hRel := hrel.out
      have hfar : ∀ g, g ≠ w.heap.size → g ≠ w.heap.size + 1 → g < wr.heap.size → (setAll W8 (w.heap.size + 1) 0 [.int .i64 s.kind, .int .i64 s.cap, .int .i64 s.words, .int .i64 s.ver, .slice (some ⟨w.heap.size + 1 + 1, 0, none⟩) k k, .int .u32 (nx : Int)]).heap[g]? = wr.heap[g]? := by
        intro g h1 h2 h3
        exact (ho9.block g (by omega) (by simp; omega)).trans (ho8.block g h3 (by simp; omega))
      have hgr9 := fun (g : Nat) (h1 : w.heap.size + 1 + 1 ≤ g) (h2 : g < wr.heap.size) => hfar g (by omega) (by omega) h2
      refine ⟨hRel.len, ⟨by rw [entCells_length hRel.len], .inr ⟨w.heap.size + 1 + 1, k, _, by rw [hl.out], by omega, (hgr9 _ (Nat.le_refl _) hgr).trans hRel.blk, by rw [hl.out]; exact Nat.le_refl _, by simp only [maxLen]; omega, by simp [entCells_length hRel.len, hl.out], ?_⟩⟩, fun i e u he hu => ?_, fun i j u v b hij hu hv hb => ?_⟩
      · rw [List.toList_toArray, List.take_of_length_le (by rw [entCells_length hRel.len]; exact Nat.le_refl _)]
      · have hi : i < k := by rw [← hl.out]; exact (List.getElem?_eq_some_iff.1 he).1
        refine ⟨?_, ?_⟩
        · have ho := hRel.own i e u hi he hu
          have hlt' := ho.row.lt
          refine OwnW.mono ⟨?_, ho.lt⟩ (show w.heap.size ≤ w.heap.size + 1 + 1 by omega)
          refine ⟨ho.row.1, ?_⟩
          rcases ho.row.2 with h1 | ⟨g, cap, cur, rfl, h2, h3, h4⟩
          · exact .inl h1
          · exact .inr ⟨g, cap, cur, rfl, h2, (hgr9 g h2 (Array.getElem?_eq_some_iff.1 h3).1).trans h3, h4⟩
        · obtain ⟨e', _, _, _, _, he', _, _, _, _, hk', _⟩ := kEnt.get hE hi
          rw [he] at he'
          cases he'
          exact hk'
      · have hi : i < k := by rw [← hl.out, ← hRel.len]; exact (List.getElem?_eq_some_iff.1 hu).1
        have hj : j < k := by rw [← hl.out, ← hRel.len]; exact (List.getElem?_eq_some_iff.1 hv).1
        exact hRel.lone i j u v b hi hj hij hu hv hb
end Go.Proofs.Ytpmnchgpbojppaa

/- table.last. -/
namespace Go.Proofs.Ytpmnchgpbojppaa
open Go Go.RowKit Go.Proofs.Try

/-- The i-th goes last. -/
def toLast {α : Type} (l : List α) (i : Nat) : List α := l.eraseIdx i ++ (l[i]?).toList
theorem toLast_length {α : Type} {l : List α} {i : Nat} (h : i < l.length) : (toLast l i).length = l.length := by
  unfold toLast
  rw [List.length_append, List.length_eraseIdx, if_pos h, List.getElem?_eq_getElem h]
  simp
  omega
theorem toLast_get {α : Type} {l : List α} {i : Nat} (h : i < l.length) (j : Nat) : (toLast l i)[j]? = if j < i then l[j]? else if j + 1 < l.length then l[j + 1]? else if j + 1 = l.length then l[i]? else none := by
  unfold toLast
  have hl : (l.eraseIdx i).length = l.length - 1 := by rw [List.length_eraseIdx, if_pos h]
  by_cases h1 : j < i
  · rw [if_pos h1, List.getElem?_append_left (by omega), List.getElem?_eraseIdx_of_lt h1]
  · rw [if_neg h1]
    by_cases h2 : j + 1 < l.length
    · rw [if_pos h2, List.getElem?_append_left (by omega), List.getElem?_eraseIdx_of_ge (by omega)]
    · rw [if_neg h2, List.getElem?_append_right (by omega), hl]
      by_cases h3 : j + 1 = l.length
      · rw [if_pos h3, show j - (l.length - 1) = 0 by omega, List.getElem?_eq_getElem h]
        rfl
      · rw [if_neg h3, List.getElem?_eq_getElem h]
        simp
        omega
theorem toLast_at {α : Type} {l : List α} {i j : Nat} {x : α} (h : i < l.length) (hx : (toLast l i)[j]? = some x) : ∃ m, l[m]? = some x ∧ m = (if j < i then j else if j + 1 < l.length then j + 1 else i) := by
  rw [toLast_get h] at hx
  split at hx
  · rename_i h1; exact ⟨j, hx, by rw [if_pos h1]⟩
  · rename_i h1
    split at hx
    · rename_i h2; exact ⟨j + 1, hx, by rw [if_neg h1, if_pos h2]⟩
    · rename_i h2
      split at hx
      · exact ⟨i, hx, by rw [if_neg h1, if_neg h2]⟩
      · cases hx
theorem toLast_lone {us : List Value} {i : Nat} (hi : i < us.length) (h : Lone us) : Lone (toLast us i) := by
  intro p q u v b hpq hu hv hb
  have hp := (List.getElem?_eq_some_iff.1 hu).1
  have hq := (List.getElem?_eq_some_iff.1 hv).1
  rw [toLast_length hi] at hp hq
  obtain ⟨m, hm, em⟩ := toLast_at hi hu
  obtain ⟨m', hm', em'⟩ := toLast_at hi hv
  refine h m m' u v b ?_ hm hm' hb
  split at em <;> (try split at em) <;> split at em' <;> (try split at em') <;> omega

/-- The list behind a key's being met: of an Lru it goes last. -/
def touch {α : Type} (kind : Int) (l : List α) (i : Nat) : List α := if kind = 2 then toLast l i else l
theorem touch_length {α : Type} {kind : Int} {l : List α} {i : Nat} (h : i < l.length) : (touch kind l i).length = l.length := by
  unfold touch
  split
  · exact toLast_length h
  · rfl
def tpos (kind : Int) (n i : Nat) : Nat := if kind = 2 then n - 1 else i
theorem tpos_lt {kind : Int} {n i : Nat} (h : i < n) : tpos kind n i < n := by unfold tpos; split <;> omega
theorem touch_get {α : Type} {kind : Int} {l : List α} {i : Nat} (h : i < l.length) : (touch kind l i)[tpos kind l.length i]? = l[i]? := by
  unfold touch tpos
  split
  · rw [toLast_get h, if_neg (by omega), if_neg (by omega), if_pos (by omega)]
  · rfl
theorem touch_set {α : Type} {kind : Int} {l : List α} {i : Nat} (h : i < l.length) (x : α) : (touch kind l i).set (tpos kind l.length i) x = touch kind (l.set i x) i := by
  unfold touch tpos
  split
  · unfold toLast
    have hl : (l.eraseIdx i).length = l.length - 1 := by rw [List.length_eraseIdx, if_pos h]
    rw [List.getElem?_eq_getElem h, List.getElem?_set_self h, List.eraseIdx_set_eq, ← hl]
    simp
  · rfl
/-- What the copy and the store make of a row's cells. -/
theorem entCells_toLast {L : List Value} {es : List Ent} {us : List Value} {i n : Nat} {e : Ent} {u : Value} (hn : es.length = n) (hu : us.length = n) (hi : i < n) (hL : L.take (n * 2) = entCells es us) (hLl : n * 2 ≤ L.length) (he : es[i]? = some e) (hui : us[i]? = some u) :
    (((splice L (i * 2) ((L.take (n * 2)).drop ((i + 1) * 2))).set ((n - 1) * 2) (.int .u32 (e.key : Int))).set ((n - 1) * 2 + 1) u).take (n * 2) = entCells (toLast es i) (toLast us i) := by
  have hlen : ((L.take (n * 2)).drop ((i + 1) * 2)).length = (n - 1 - i) * 2 := by
    rw [List.length_drop, List.length_take, Nat.min_eq_left hLl]; omega
  have hsl : (splice L (i * 2) ((L.take (n * 2)).drop ((i + 1) * 2))).length = L.length := length_splice _ _ _ (by rw [hlen]; omega)
  have hel : ∀ j, j < n * 2 → (((splice L (i * 2) ((L.take (n * 2)).drop ((i + 1) * 2))).set ((n - 1) * 2) (.int .u32 (e.key : Int))).set ((n - 1) * 2 + 1) u)[j]? =
      if j = (n - 1) * 2 + 1 then some u else if j = (n - 1) * 2 then some (.int .u32 (e.key : Int)) else if j < i * 2 then (entCells es us)[j]? else (entCells es us)[j + 2]? := by
    intro j hj
    rw [List.getElem?_set]
    by_cases h1 : (n - 1) * 2 + 1 = j
    · rw [if_pos h1, if_pos (by simp [hsl]; omega), if_pos h1.symm]
    · rw [if_neg h1, if_neg (Ne.symm h1), List.getElem?_set]
      by_cases h2 : (n - 1) * 2 = j
      · rw [if_pos h2, if_pos (by rw [hsl]; omega), if_pos h2.symm]
      · rw [if_neg h2, if_neg (Ne.symm h2), ← hL]
        unfold splice
        by_cases h3 : j < i * 2
        · rw [if_pos h3, List.getElem?_append_left (by rw [List.length_take]; omega), List.getElem?_take, if_pos h3, List.getElem?_take, if_pos hj]
        · rw [if_neg h3, List.getElem?_append_right (by rw [List.length_take]; omega), List.length_take, Nat.min_eq_left (by omega),
            List.getElem?_append_left (by rw [hlen]; omega), List.getElem?_drop, show (i + 1) * 2 + (j - i * 2) = j + 2 by omega]
  have hne : (toLast es i).length = n := by rw [toLast_length (by omega), hn]
  have hnu : (toLast us i).length = n := by rw [toLast_length (by omega), hu]
  apply List.ext_getElem?
  intro j
  by_cases hj : j < n * 2
  · rw [List.getElem?_take, if_pos hj, hel j hj]
    obtain ⟨m, hm⟩ : ∃ m, j = m * 2 ∨ j = m * 2 + 1 := ⟨j / 2, by omega⟩
    have hmn : m < n := by omega
    have hem : (toLast es i)[m]? = some ((toLast es i)[m]'(by omega)) := List.getElem?_eq_getElem (by omega)
    have hum : (toLast us i)[m]? = some ((toLast us i)[m]'(by omega)) := List.getElem?_eq_getElem (by omega)
    obtain ⟨g0, g1⟩ := entCells_get hem hum
    obtain ⟨p, hp, ep⟩ := toLast_at (by omega) hem
    obtain ⟨q, hq, eq⟩ := toLast_at (by omega) hum
    rw [hn] at ep
    rw [hu] at eq
    obtain rfl : p = q := by rw [ep, eq]
    obtain ⟨k0, k1⟩ := entCells_get hp hq
    rcases hm with rfl | rfl
    · rw [g0, ← k0]
      by_cases h1 : m < i
      · rw [if_pos h1] at ep
        subst ep
        rw [if_neg (by omega), if_neg (by omega), if_pos (by omega)]
      · rw [if_neg h1] at ep
        by_cases h2 : m + 1 < n
        · rw [if_pos h2] at ep
          subst ep
          rw [if_neg (by omega), if_neg (by omega), if_neg (by omega), show m * 2 + 2 = (m + 1) * 2 by omega]
        · rw [if_neg h2] at ep
          subst ep
          rw [he] at hp
          cases hp
          rw [if_neg (by omega), if_pos (by omega), k0]
    · rw [g1, ← k1]
      by_cases h1 : m < i
      · rw [if_pos h1] at ep
        subst ep
        rw [if_neg (by omega), if_neg (by omega), if_pos (by omega)]
      · rw [if_neg h1] at ep
        by_cases h2 : m + 1 < n
        · rw [if_pos h2] at ep
          subst ep
          rw [if_neg (by omega), if_neg (by omega), if_neg (by omega), show m * 2 + 1 + 2 = (m + 1) * 2 + 1 by omega]
        · rw [if_neg h2] at ep
          subst ep
          rw [hui] at hq
          rw [if_pos (by omega), k1, hq]
  · rw [List.getElem?_eq_none (by rw [List.length_take]; omega), List.getElem?_eq_none (by rw [entCells_length (by omega)]; omega)]

set_option maxHeartbeats 1000000 in
theorem last_other (s : Sch) (hk : (s.kind != 2) = true) (A : Option Addr) (n c nx i : Nat) (w : World) :
    Calls prog 57 #[tabV s A n c nx, .int .i64 (i : Int)] w fun e w' => e = .returned (.int .i64 (i : Int)) ∧ Below w.heap.size w w' := by
  unfold tabV
  obtain ⟨W1, hW1, hB1, hS1, hG1, hO1, hP1⟩ := boxedB w _ rfl #[.int .i64 s.kind, .int .i64 s.cap, .int .i64 s.words, .int .i64 s.ver, .slice A n c, .int .u32 (nx : Int)] 27
  have hC1 := hG1.cell
  go_enter func57, ntmps57
  go_wp2_with fail
  go_ret
  exact ⟨rfl, hB1⟩

set_option maxRecDepth 100000 in
set_option maxHeartbeats 2000000 in
theorem last_lru (s : Sch) (hk : (s.kind != 2) = false) (g n c nx i : Nat) (es : List Ent) (us : List Value) (w : World) (base : Nat) (hO : OwnEs w base (.slice (some ⟨g, 0, none⟩) n c) es us) (hn : es.length = n) (hi : i < n) :
    Calls prog 57 #[tabV s (some ⟨g, 0, none⟩) n c nx, .int .i64 (i : Int)] w fun e w' => e = .returned (.int .i64 ((n : Int) - 1)) ∧ Only g w w' ∧ OwnEs w' base (.slice (some ⟨g, 0, none⟩) n c) (toLast es i) (toLast us i) := by
  obtain ⟨cur, hbg, hG, hnc, hcm, hcs, htake⟩ : ∃ cur, base ≤ g ∧ Blk w g 39 cur ∧ n ≤ c ∧ c ≤ maxLen ∧ cur.size = c * 2 ∧ cur.toList.take (n * 2) = entCells es us := by
    have hr := hO.row
    rw [hn] at hr
    rcases hr.2 with ⟨h', _⟩ | ⟨g', cap', cur, h', h2, h3, h4, h5, h6, h7⟩
    · cases h'
    · simp only [Value.slice.injEq, Option.some.injEq, Addr.mk.injEq, and_true, true_and] at h'
      obtain ⟨rfl, rfl⟩ := h'
      exact ⟨cur, h2, h3, h4, h5, h6, h7⟩
  have hnm : n ≤ 9223372036854775807 := by simp only [maxLen] at hcm; omega
  have hcm' : c ≤ 9223372036854775807 := by simp only [maxLen] at hcm; omega
  have hgl := hG.lt
  have hus := hO.len
  rw [hn] at hus
  obtain ⟨e, he⟩ : ∃ e, es[i]? = some e := ⟨_, List.getElem?_eq_getElem (by omega)⟩
  obtain ⟨u, hu⟩ : ∃ u, us[i]? = some u := ⟨_, List.getElem?_eq_getElem (by omega)⟩
  obtain ⟨hval, hkey⟩ := hO.val i e u he hu
  obtain ⟨Au, cu, hus', _⟩ := hval.reads
  obtain ⟨e0, e1⟩ := entCells_get he hu
  rw [← htake, List.getElem?_take, if_pos (by omega)] at e0 e1
  have hk0 : w.cell? ⟨g, i * 2, none⟩ = some (.int .u32 (e.key : Int)) := by rw [hG.cell]; simpa using e0
  have hk1 : w.cell? ⟨g, i * 2 + 1, none⟩ = some u := by rw [hG.cell]; simpa using e1
  subst hus'
  have hfin := entCells_toLast (L := cur.toList) hn hus hi htake (by simp; omega) he hu
  replace hfin := Lib.hid hfin
  replace htake := Lib.hid htake
  replace hn := Lib.hid hn
  replace hus := Lib.hid hus
  clear e0 e1 he hu
  unfold tabV
  obtain ⟨W1, hW1, hB1, hS1, hG1, hO1, hP1⟩ := boxedB w _ rfl #[.int .i64 s.kind, .int .i64 s.cap, .int .i64 s.words, .int .i64 s.ver, .slice (some ⟨g, 0, none⟩) n c, .int .u32 (nx : Int)] 27
  have hC1 := hG1.cell
  have hk01 : W1.cell? ⟨g, i * 2, none⟩ = some (.int .u32 (e.key : Int)) := (hO1 _ _ hgl).trans hk0
  have hk11 : W1.cell? ⟨g, i * 2 + 1, none⟩ = some (.slice Au e.v.length cu) := (hO1 _ _ hgl).trans hk1
  obtain ⟨W2, hW2, hB2, hS2, hG2, hO2, hP2⟩ := boxedB W1 _ hS1 #[.int .u32 (e.key : Int), .slice Au e.v.length cu] 39
  have hC2 := hG2.cell
  have hC12 := (hG1.below hB2 (Nat.lt_succ_self _)).cell
  obtain ⟨ie, hie, _, hsz, _⟩ := info_parts info_ent
  have hG2g := (hG.below hB1 hgl).below hB2 (by omega)
  have hcl : ((cur.toList.take (n * 2)).drop ((i + 1) * 2)).length = (n - 1 - i) * 2 := by rw [List.length_drop, List.length_take, Array.length_toList]; omega
  have hcn : ((cur.toList.take (n * 2)).drop ((i + 1) * 2)).length = Nat.min (n - (i + 1)) (n - i) * 2 := by
    have hmin : Nat.min (n - (i + 1)) (n - i) = n - (i + 1) := Nat.min_eq_left (by omega)
    rw [hcl, hmin]; omega
  replace hcn := Lib.hid hcn
  have hfit : i * 2 + ((cur.toList.take (n * 2)).drop ((i + 1) * 2)).length ≤ cur.toList.length := by rw [hcl]; simp; omega
  replace hfit := Lib.hid hfit
  have hone : ∀ v ∈ (cur.toList.take (n * 2)).drop ((i + 1) * 2), v.oneCell' = true := fun v hv => by
    rw [htake.out] at hv
    refine entCells_one (es := es) (us := us) (fun u hu => ?_) v (List.mem_of_mem_drop hv)
    obtain ⟨j, hj⟩ := List.mem_iff_getElem?.1 hu
    have hjl : j < es.length := by rw [hn.out, ← hus.out]; exact (List.getElem?_eq_some_iff.1 hj).1
    obtain ⟨A, c', rfl, _⟩ := (hO.val j _ u (List.getElem?_eq_getElem hjl) hj).1.reads
    rfl
  replace hone := Lib.hid hone
  have hpos : 0 < ((cur.toList.take (n * 2)).drop ((i + 1) * 2)).length → cutA (some ⟨g, 0, none⟩) c i 2 = some ⟨g, i * 2, none⟩ ∧ ∃ ad, cutA (some ⟨g, 0, none⟩) c (i + 1) 2 = some ad ∧ ∀ (j : Nat) (v : Value), ((cur.toList.take (n * 2)).drop ((i + 1) * 2))[j]? = some v → W2.drew.cell? (ad.add j) = some v := by
    intro hp
    rw [hcl] at hp
    refine ⟨by rw [cutA_lt (by omega), add_lit0], _, cutA_lt (by omega), fun j v hv => ?_⟩
    rw [add_add, add_lit0]
    rw [List.getElem?_drop, List.getElem?_take] at hv
    split at hv
    · exact (hG2g.cell _).trans (by simpa using hv)
    · cases hv
  replace hpos := Lib.hid hpos
  have hi1 : ((i : Int) + 1) = ((i + 1 : Nat) : Int) := by omega
  have hsl1 := run_cut (P := prog) 24 39 2 underlying24 (by kernel_rfl) (some ⟨g, 0, none⟩) n c i (i : Int) rfl (by omega)
  have hsl2 := run_cut (P := prog) 24 39 2 underlying24 (by kernel_rfl) (some ⟨g, 0, none⟩) n c (i + 1) ((i : Int) + 1) hi1 (by omega)
  replace hi1 := Lib.hid hi1
  have hic : (i : Int) < (n : Int) := by omega
  have hnn : ((n : Int) - 1).toNat = n - 1 := by omega
  have hn1 : (1 : Int) ≤ (n : Int) := by omega
  have hwr : IntKind.i64.wrap ((i : Int) + 1) = (i : Int) + 1 := IntWalk.i64_in _ (by omega)
  go_enter func57, ntmps57
  go_wp2_with fail
  go_still_tail 9, (by kernel_rfl)
  change wpList _ _ _ _ _ W2.drew
  refine wpList_copyS rfl _ _ _ _ rfl 39 ie 2 underlying24 hie hsz (by omega) _ _ _ _ _ _ rfl rfl g (i * 2) cur.toList 39 (show Blk W2.drew _ _ _ from hG2g) ((cur.toList.take (n * 2)).drop ((i + 1) * 2)) hcn.out hpos.out hfit.out hone.out ?_
  intro w3 hG3 ho3 hs3
  replace ho3 := ho3.of_drew
  have hs3' : w3.heap.size = w.heap.size + 1 + 1 := hs3.trans hS2
  have hC13 := ((hG1.below hB2 (Nat.lt_succ_self _)).grown ho3 (by simp; omega)).cell
  have hC23 := (hG2.grown ho3 (by simp; omega)).cell
  have hlen3 : (splice cur.toList (i * 2) ((cur.toList.take (n * 2)).drop ((i + 1) * 2))).length = cur.size := by rw [length_splice _ _ _ hfit.out]; simp
  obtain ⟨va, hva⟩ : ∃ va, w3.cell? ⟨g, (n - 1) * 2, none⟩ = some va := ⟨_, by rw [hG3.cell]; exact Array.getElem?_eq_getElem (by simp only [List.size_toArray, hlen3]; omega)⟩
  obtain ⟨vb, hvb⟩ : ∃ vb, w3.cell? ⟨g, (n - 1) * 2 + 1, none⟩ = some vb := ⟨_, by rw [hG3.cell]; exact Array.getElem?_eq_getElem (by simp only [List.size_toArray, hlen3]; omega)⟩
  have hf3 := hG3.frozen
  obtain ⟨W4, hW4, ho4, hs4, hG4, hO4, hP4⟩ := storedB hG3 ((n - 1) * 2) (.int .u32 (e.key : Int))
  have hvb4 : W4.cell? ⟨g, (n - 1) * 2 + 1, none⟩ = some vb := by rw [← hW4, World.cell?_setCell_other _ _ _ _ (by simp)]; exact hvb
  obtain ⟨W5, hW5, ho5, hs5, hG5, hO5, hP5⟩ := storedB hG4 ((n - 1) * 2 + 1) (.slice Au e.v.length cu)
  have hC15 : ∀ j, W5.cell? ⟨w.heap.size, j, none⟩ = #[.int .i64 s.kind, .int .i64 s.cap, .int .i64 s.words, .int .i64 s.ver, .slice (some ⟨g, 0, none⟩) n c, .int .u32 (nx : Int)][j]? := fun j => ((hO5 _ j (by omega)).trans (hO4 _ j (by omega))).trans (hC13 j)
  clear hO4 hO5
  go_wp2_with fail
  go_ret
  have hO5 : Only g w W5 := (Only.of_below (hB1.trans (hB2.mono (Nat.le_succ _)))).trans (ho3.trans (ho4.trans ho5))
  have hn' := hn.out
  have hus' := hus.out
  refine ⟨rfl, hO5, by rw [toLast_length (by omega), toLast_length (by omega)]; exact hO.len, ⟨?_, .inr ⟨g, c, _, by rw [toLast_length (by omega), hn'], hbg, hG5, by rw [toLast_length (by omega), hn']; exact hnc, hcm, by simp [hlen3, hcs], ?_⟩⟩, fun j e' u' he' hu' => ?_, toLast_lone (by omega) hO.lone⟩
  · rw [entCells_length (by rw [toLast_length (by omega), toLast_length (by omega)]; exact hO.len)]
  · rw [toLast_length (by omega), hn']
    simpa using hfin.out
  · obtain ⟨p, hp, ep⟩ := toLast_at (by omega) he'
    obtain ⟨q, hq, eq⟩ := toLast_at (by omega) hu'
    rw [hn'] at ep
    rw [hus'] at eq
    obtain rfl : p = q := by rw [ep, eq]
    obtain ⟨h1, h2⟩ := hO.val p e' u' hp hq
    exact ⟨h1.only hO5 (h1.blk_ne hO.row rfl), h2⟩

/-- Where the entry is then. -/
theorem last_any (s : Sch) (g n c nx i : Nat) (es : List Ent) (us : List Value) (w : World) (base : Nat) (hO : OwnEs w base (.slice (some ⟨g, 0, none⟩) n c) es us) (hn : es.length = n) (hi : i < n) :
    Calls prog 57 #[tabV s (some ⟨g, 0, none⟩) n c nx, .int .i64 (i : Int)] w fun e w' => e = .returned (.int .i64 ((tpos s.kind n i : Nat) : Int)) ∧ Only g w w' ∧ OwnEs w' base (.slice (some ⟨g, 0, none⟩) n c) (touch s.kind es i) (touch s.kind us i) := by
  rcases hk : (s.kind != 2) with _ | _
  · have hk2 : s.kind = 2 := by simpa using hk
    refine (last_lru s hk g n c nx i es us w base hO hn hi).mono ?_
    rintro e w' ⟨rfl, ho, hO'⟩
    unfold touch tpos
    rw [if_pos hk2, if_pos hk2, if_pos hk2]
    exact ⟨by rw [show ((n : Int) - 1) = ((n - 1 : Nat) : Int) by omega], ho, hO'⟩
  · have hk2 : s.kind ≠ 2 := by simpa using hk
    refine (last_other s hk _ n c nx i w).mono ?_
    rintro e w' ⟨rfl, hb⟩
    unfold touch tpos
    rw [if_neg hk2, if_neg hk2, if_neg hk2]
    exact ⟨rfl, Only.of_below hb, hO.below hb⟩
end Go.Proofs.Ytpmnchgpbojppaa

/- drydockref04.May, drydockref05.At. -/
namespace Go.Proofs.Ytpmnchgpbojppaa
open Go Go.RowKit Go.Proofs.Try

set_option maxHeartbeats 1000000 in
theorem refSchMay_any (k c n v : Int) (w : World) : Calls prog 66 #[.agg #[.int .i64 k, .int .i64 c, .int .i64 n, .int .i64 v]] w fun e w' => e = .returned (.bool (Sch.may ⟨k, c, n, v⟩)) ∧ Below w.heap.size w w' := by
  obtain ⟨W1, hW1, hB1, hS1, hC1, hF1, hO1⟩ := boxed w _ rfl #[.int .i64 k, .int .i64 c, .int .i64 n, .int .i64 v] 23
  go_enter func66, ntmps66
  go_wp2_with fail
  all_goals
    go_ret
    refine ⟨ret_bool ?_, hB1⟩
    rw [eq_comm, Bool.eq_iff_iff]
    simp only [Sch.may, inB, Bool.and_eq_true, decide_eq_true_eq]
    by_cases h3 : k = 3
    · rw [if_pos h3]; simp [h3] at * <;> omega
    · rw [if_neg h3]; simp [h3] at * <;> omega

theorem fidx_found {key : Nat} : ∀ {es : List Ent} {j k : Nat} {e : Ent}, es[k]? = some e → e.key = key → (∀ (i : Nat) (x : Ent), i < k → es[i]? = some x → x.key ≠ key) → fidx key es j = ((j + k : Nat) : Int)
  | [], j, k, e, h, _, _ => by simp at h
  | x :: es, j, 0, e, h, hk, _ => by
    simp at h
    subst h
    simp [fidx, hk]
  | x :: es, j, k + 1, e, h, hk, hn => by
    have hx : x.key ≠ key := hn 0 x (by omega) rfl
    have ih := fidx_found (es := es) (j := j + 1) (k := k) (by simpa using h) hk (fun i y hi hy => hn (i + 1) y (by omega) (by simpa using hy))
    simp only [fidx, if_neg hx]
    rw [ih]
    omega
theorem fidx_none {key : Nat} : ∀ {es : List Ent} {j : Nat}, (∀ (i : Nat) (x : Ent), es[i]? = some x → x.key ≠ key) → fidx key es j = -1
  | [], j, _ => rfl
  | x :: es, j, hn => by
    have hx : x.key ≠ key := hn 0 x rfl
    simp only [fidx, if_neg hx]
    exact fidx_none (fun i y hy => hn (i + 1) y (by simpa using hy))

set_option maxHeartbeats 1000000 in
theorem at_any (s : Sch) (A : Option Addr) (n c nx key : Nat) (es : List Ent) (w : World) (B : Nat) (hB : B ≤ w.heap.size) (hE : kEnt.At w B A n c es) :
    Calls prog 25 #[tabV s A n c nx, .int .u32 (key : Int)] w fun e w' => e = .returned (.int .i64 (fidx key es 0)) ∧ Below w.heap.size w w' := by
  have hn := hE.nle
  unfold tabV
  obtain ⟨W1, hW1, hB1, hS1, hC1, hF1, hO1⟩ := boxed w _ rfl #[.int .i64 s.kind, .int .i64 s.cap, .int .i64 s.words, .int .i64 s.ver, .slice A n c, .int .u32 (nx : Int)] 27
  go_enter func25, ntmps25
  go_wp2_with fail
  go_loop [5] (fun i => ∃ k : Nat, k ≤ n ∧ i = .int .i64 k ∧ (∀ (i : Nat) (x : Ent), i < k → es[i]? = some x → x.key ≠ key)) (fun i => n - (intOf i).toNat)
  case atStart => exact ⟨0, Nat.zero_le _, rfl, fun i x h => absurd h (by omega)⟩
  case round =>
    obtain ⟨k, hk, rfl, hno⟩ := hrel
    replace hno := Lib.hid hno
    by_cases hlt : k < n
    · obtain ⟨e, ad, A', n', c', he, rfl, hadB, h0, h1, hkey, hv⟩ := kEnt.get (hE.below (hB1.mono hB)) hlt
      replace he := Lib.hid he
      have hki : (k : Int) < (n : Int) := by omega
      by_cases hkk : e.key = key
      · have hd : ((e.key : Int) == (key : Int)) = true := by simp [hkk]
        have hfin := Lib.hid (fidx_found (j := 0) he.out hkk hno.out)
        replace hkk := Lib.hid hkk
        go_wp2_with fail
        go_ret
        exact ⟨ret_int (by rw [hfin.out]; simp), hB1⟩
      · have hd : ((e.key : Int) == (key : Int)) = false := by simp; omega
        replace hkk := Lib.hid hkk
        go_wp2_with fail
        go_round
        case rel =>
          refine ⟨k + 1, by omega, by go_num, fun i x hi hx => ?_⟩
          rcases Nat.lt_or_ge i k with h | h
          · exact hno.out i x h hx
          · obtain rfl : i = k := by omega
            rw [he.out] at hx
            cases hx
            exact hkk.out
        case measure => simp [intOf]; omega
    · obtain rfl : k = n := by omega
      have hfin := Lib.hid (fidx_none (key := key) (es := es) (j := 0) (fun i x hx => hno.out i x (by rw [← hE.len]; exact (List.getElem?_eq_some_iff.1 hx).1) hx))
      go_wp2_with fail
      go_ret
      exact ⟨ret_int (by rw [hfin.out]), hB1⟩
end Go.Proofs.Ytpmnchgpbojppaa

/- schema.in, schema.May, drydockref04.May, table.find, drydockref05.At. -/
namespace Go.Proofs.Ytpmnchgpbojppaa
open Go Go.RowKit Go.Proofs.Try


theorem in_any (n lo hi : Int) (w : World) : Calls prog 78 #[.int .i64 n, .int .i64 lo, .int .i64 hi] w fun e w' => e = .returned (.bool (inB n lo hi)) ∧ w = w' := by
  unfold inB
  go_enter func78, ntmps78
  go_wp2
  all_goals (go_ret; simp_all; try omega)

theorem schMay_any (k c n v : Int) (w : World) : Calls prog 58 #[.agg #[.int .i64 k, .int .i64 c, .int .i64 n, .int .i64 v]] w fun e w' => e = .returned (.bool (Sch.may ⟨k, c, n, v⟩)) ∧ Below w.heap.size w w' := by
  go_enter func58, ntmps58
  go_wp2_with ((go_at_call 78; refine (in_any _ _ _ _).mono ?_; rintro e w' ⟨rfl, rfl⟩))
  all_goals
    go_ret
    refine ⟨ret_bool ?_, (Below.refl _ _).alloc (Nat.le_refl _) _⟩
    simp_all [Sch.may]

set_option maxHeartbeats 400000 in
theorem find_any (s : Sch) (A : Option Addr) (n c nx key : Nat) (es : List Ent) (w : World) (B : Nat) (hB : B ≤ w.heap.size) (hE : kEnt.At w B A n c es) :
    Calls prog 55 #[tabV s A n c nx, .int .u32 (key : Int)] w fun e w' => e = .returned (.int .i64 (fidx key es 0)) ∧ Below w.heap.size w w' := by
  have hn := hE.nle
  unfold tabV
  go_enter func55, ntmps55
  go_wp2
  go_step3
  go_wp2
  go_step3
  go_wp2
  go_loopw [5, 11] (fun a i wr => ∃ k : Nat, k ≤ n ∧ a = .int .i64 (-1) ∧ i = .int .i64 k ∧ Below w.heap.size w wr ∧ (∀ (i : Nat) (x : Ent), i < k → es[i]? = some x → x.key ≠ key)) (fun _ i _ => n - (intOf i).toNat)
  case atStart => exact ⟨0, Nat.zero_le _, rfl, rfl, (Below.refl _ _).alloc (Nat.le_refl _) _, fun i x h => absurd h (by omega)⟩
  case round =>
    obtain ⟨k, hk, rfl, rfl, hb, hno⟩ := hrel
    replace hno := Lib.hid hno
    by_cases hlt : k < n
    · obtain ⟨e, ad, A', n', c', he, rfl, hadB, h0, h1, hkey, hv⟩ := kEnt.get (hE.below (hb.mono hB)) hlt
      replace he := Lib.hid he
      have hbs := hb.size
      by_cases hkk : e.key = key
      · have hd : ((e.key : Int) == (key : Int)) = true := by simp [hkk]
        have hfin := Lib.hid (fidx_found (j := 0) he.out hkk hno.out)
        go_wp2
        rw [Exit.noGoto_ret]
        go_ret
        exact ⟨ret_int (by rw [hfin.out]; simp), hb.alloc hbs _⟩
      · have hd : ((e.key : Int) == (key : Int)) = false := by simp; omega
        go_wp2
        go_roundw
        case rel =>
          refine ⟨k + 1, by omega, rfl, by go_num, hb.alloc hbs _, fun i x hi hx => ?_⟩
          rcases Nat.lt_or_ge i k with h | h
          · exact hno.out i x h hx
          · obtain rfl : i = k := by omega
            rw [he.out] at hx
            cases hx
            exact hkk
        case measure => simp [intOf]; omega
    · obtain rfl : k = n := by omega
      have hfin := Lib.hid (fidx_none (key := key) (es := es) (j := 0) (fun i x hx => hno.out i x (by rw [← hE.len]; exact (List.getElem?_eq_some_iff.1 hx).1) hx))
      go_wp2
      rw [Exit.noGoto_ret]
      go_ret
      exact ⟨ret_int (by rw [hfin.out]), hb⟩
end Go.Proofs.Ytpmnchgpbojppaa

/- table.May. -/
namespace Go.Proofs.Ytpmnchgpbojppaa
open Go Go.RowKit Go.Proofs.Try

/-- What a round adds. -/
theorem allOk_succ {t : Tab} {k : Nat} {e : Ent} (h : ∀ (i : Nat) (x : Ent), i < k → t.e[i]? = some x → t.elOk i x = true) (he : t.e[k]? = some e) (hok : t.elOk k e = true) :
    ∀ (i : Nat) (x : Ent), i < k + 1 → t.e[i]? = some x → t.elOk i x = true := by
  intro i x hi hx
  rcases Nat.lt_or_ge i k with h' | h'
  · exact h i x h' hx
  · obtain rfl : i = k := by omega
    rw [he] at hx
    cases hx
    exact hok
theorem Tab.may_yes {t : Tab} (hh : t.headOk = true) (h : ∀ (i : Nat) (x : Ent), i < t.e.length → t.e[i]? = some x → t.elOk i x = true) : t.may = true :=
  (t.may_iff).2 ⟨hh, fun i e hi => h i e (List.getElem?_eq_some_iff.1 hi).1 hi⟩

set_option maxRecDepth 100000 in
set_option maxHeartbeats 4000000 in
theorem tabMay_any (s : Sch) (A : Option Addr) (n c nx : Nat) (es : List Ent) (w : World) (hx : nx < 4294967296) (hE : kEnt.At w w.heap.size A n c es) :
    Calls prog 23 #[tabV s A n c nx] w fun e w' => e = .returned (.bool (Tab.may ⟨s, es, nx⟩)) ∧ Below w.heap.size w w' := by
  have hn := hE.nle
  have hl := Lib.hid hE.len
  rcases h3 : (s.kind == 3) with _ | _ <;> rcases h0 : (s.kind == 0) with _ | _
  case true.true => simp at h3 h0; omega
  all_goals
    unfold tabV
    go_enter func23, ntmps23
    go_wp2_with fail
    go_quiet (fail)
    go_wp2_with fail
    refine (schMay_any _ _ _ _ _).mono ?_
    rintro e w1 ⟨rfl, hb1⟩
    have hw1 := below_of (below_drewN (below_box _ _) _) hb1
    obtain ⟨hc1, hf1⟩ := bcell hb1
    rcases hm : Sch.may s with _ | _
    · go_wp2_with fail
      go_ret
      exact ⟨ret_bool (Tab.may_head _ (by simp [Tab.headOk, hm])).symm, hw1⟩
    by_cases hcap : s.cap < (n : Int)
    · go_wp2_with fail
      go_ret
      exact ⟨ret_bool (Tab.may_head _ (by simp [Tab.headOk, hl.out]; omega)).symm, hw1⟩
  · by_cases hnx : nx = 0
    · subst hnx
      go_wp2_with fail
      go_loopw [61] (fun i wr => ∃ k : Nat, k ≤ n ∧ i = .int .i64 k ∧ Below (w.heap.size + 1) w1 wr ∧ (∀ (i : Nat) (x : Ent), i < k → es[i]? = some x → Tab.elOk ⟨s, es, 0⟩ i x = true)) (fun i _ => n - (intOf i).toNat)
      case atStart => exact ⟨0, Nat.zero_le _, rfl, Below.refl _ _, fun i x h => absurd h (by omega)⟩
      case round =>
        obtain ⟨k, hk, rfl, hb, hno⟩ := hrel
        replace hno := Lib.hid hno
        have hbr := hw1.trans (hb.mono (Nat.le_succ _))
        have hsz := hb.size
        have hsz1 := hb1.size
        simp only [World.size_alloc, World.heap_drewN] at hsz1
        have hszr : w.heap.size < wr.heap.size := by omega
        obtain ⟨hc2, hf2⟩ := bcell hb
        by_cases hlt : k < n
        · obtain ⟨e, ad, A', n', c', he, rfl, hadB, hk0, hk1, hkey, hv⟩ := kEnt.get (hE.below hbr) hlt
          replace he := Lib.hid he
          replace hv := Lib.hid hv.len
          by_cases q2 : (n' : Int) = s.words
          case neg =>
            have q2b : ((n' : Int) != s.words) = true := by simp [q2]
            replace q2 := Lib.hid q2
            go_wp2_with fail
            go_ret
            exact ⟨ret_bool (Tab.may_no _ he.out (Tab.elOk_no (by rintro ⟨r1, _⟩; rw [hv.out] at r1; exact q2.out r1))).symm, hbr.alloc (by omega) _⟩
          have q2b : ((n' : Int) != s.words) = false := by simp [q2]
          replace q2 := Lib.hid q2
          rcases q3 : (fidx e.key es 0 != (k : Int)) with _ | _
          · go_wp2_with (go_at_call 55; refine (find_any _ _ _ _ _ _ es _ w.heap.size (by simp; omega) (by exact hE.below (hbr.alloc (by omega) _))).mono ?_; rintro e1 w2 ⟨rfl, hb2⟩)
            refine ⟨⟨k + 1, by omega, by go_num, (hb.alloc (by omega) _).trans (hb2.mono (by simp; omega)), ?_⟩, by simp [intOf]; omega⟩
            refine allOk_succ (t := ⟨s, es, 0⟩) hno.out he.out ((Tab.elOk_iff _ _ _).2 ⟨by rw [hv.out]; exact q2.out, by simpa using q3, fun q => by simp at h0; exact absurd q h0, fun q => by simp at h3; exact absurd q h3⟩)
          · go_wp2_with (go_at_call 55; refine (find_any _ _ _ _ _ _ es _ w.heap.size (by simp; omega) (by exact hE.below (hbr.alloc (by omega) _))).mono ?_; rintro e1 w2 ⟨rfl, hb2⟩)
            go_ret
            exact ⟨ret_bool (Tab.may_no _ he.out (Tab.elOk_no (by rintro ⟨_, r2, _⟩; simp [r2] at q3))).symm, (hbr.alloc (by omega) _).trans (hb2.mono (by simp; omega))⟩
        · go_wp2_with fail
          go_ret
          obtain rfl : k = n := by omega
          refine ⟨ret_bool (Tab.may_yes ?_ (by rw [hl.out]; exact hno.out)).symm, hbr⟩
          simp [Tab.headOk, hl.out, hm] at h3 h0 ⊢
          omega
    · go_wp2_with fail
      go_ret
      exact ⟨ret_bool (Tab.may_head _ (by simp at h3; simp [Tab.headOk, h3, hnx])).symm, hw1⟩
  · by_cases hnx : nx = 0
    · subst hnx
      by_cases hnc : (n : Int) = s.cap
      case neg =>
        have hnc' : ((n : Int) != s.cap) = true := by simp [hnc]
        go_wp2_with fail
        go_ret
        exact ⟨ret_bool (Tab.may_head _ (by simp at h0; simp [Tab.headOk, h0, hl.out, hnc])).symm, hw1⟩
      have hb16 := (Sch.may_bounds hm).2.2.2.1
      have hnc' : ((n : Int) != s.cap) = false := by simp [hnc]
      replace hnc := Lib.hid hnc
      go_wp2_with fail
      go_loopw [61] (fun i wr => ∃ k : Nat, k ≤ n ∧ i = .int .i64 k ∧ Below (w.heap.size + 1) w1 wr ∧ (∀ (i : Nat) (x : Ent), i < k → es[i]? = some x → Tab.elOk ⟨s, es, 0⟩ i x = true)) (fun i _ => n - (intOf i).toNat)
      case atStart => exact ⟨0, Nat.zero_le _, rfl, Below.refl _ _, fun i x h => absurd h (by omega)⟩
      case round =>
        obtain ⟨k, hk, rfl, hb, hno⟩ := hrel
        replace hno := Lib.hid hno
        have hbr := hw1.trans (hb.mono (Nat.le_succ _))
        have hsz := hb.size
        have hsz1 := hb1.size
        simp only [World.size_alloc, World.heap_drewN] at hsz1
        have hszr : w.heap.size < wr.heap.size := by omega
        obtain ⟨hc2, hf2⟩ := bcell hb
        by_cases hlt : k < n
        · obtain ⟨e, ad, A', n', c', he, rfl, hadB, hk0, hk1, hkey, hv⟩ := kEnt.get (hE.below hbr) hlt
          replace he := Lib.hid he
          replace hv := Lib.hid hv.len
          have hk16 : k < 4294967296 := by omega
          by_cases q1 : e.key = k
          case neg =>
            have q1b : ((e.key : Int) != (k : Int)) = true := by simp; omega
            replace q1 := Lib.hid q1
            go_wp2_with fail
            go_ret
            exact ⟨ret_bool (Tab.may_no _ he.out (Tab.elOk_no (by rintro ⟨_, _, r3, _⟩; simp at h0; exact q1.out (r3 h0)))).symm, hbr.alloc (by omega) _⟩
          have q1b : ((e.key : Int) != (k : Int)) = false := by simp [q1]
          replace q1 := Lib.hid q1
          by_cases q2 : (n' : Int) = s.words
          case neg =>
            have q2b : ((n' : Int) != s.words) = true := by simp [q2]
            replace q2 := Lib.hid q2
            go_wp2_with fail
            go_ret
            exact ⟨ret_bool (Tab.may_no _ he.out (Tab.elOk_no (by rintro ⟨r1, _⟩; rw [hv.out] at r1; exact q2.out r1))).symm, hbr.alloc (by omega) _⟩
          have q2b : ((n' : Int) != s.words) = false := by simp [q2]
          replace q2 := Lib.hid q2
          rcases q3 : (fidx e.key es 0 != (k : Int)) with _ | _
          · go_wp2_with (go_at_call 55; refine (find_any _ _ _ _ _ _ es _ w.heap.size (by simp; omega) (by exact hE.below (hbr.alloc (by omega) _))).mono ?_; rintro e1 w2 ⟨rfl, hb2⟩)
            refine ⟨⟨k + 1, by omega, by go_num, (hb.alloc (by omega) _).trans (hb2.mono (by simp; omega)), ?_⟩, by simp [intOf]; omega⟩
            refine allOk_succ (t := ⟨s, es, 0⟩) hno.out he.out ((Tab.elOk_iff _ _ _).2 ⟨by rw [hv.out]; exact q2.out, by simpa using q3, fun _ => q1.out, fun q => by simp at h3; exact absurd q h3⟩)
          · go_wp2_with (go_at_call 55; refine (find_any _ _ _ _ _ _ es _ w.heap.size (by simp; omega) (by exact hE.below (hbr.alloc (by omega) _))).mono ?_; rintro e1 w2 ⟨rfl, hb2⟩)
            go_ret
            exact ⟨ret_bool (Tab.may_no _ he.out (Tab.elOk_no (by rintro ⟨_, r2, _⟩; simp [r2] at q3))).symm, (hbr.alloc (by omega) _).trans (hb2.mono (by simp; omega))⟩
        · go_wp2_with fail
          go_ret
          obtain rfl : k = n := by omega
          refine ⟨ret_bool (Tab.may_yes ?_ (by rw [hl.out]; exact hno.out)).symm, hbr⟩
          have := hnc.out
          simp [Tab.headOk, hl.out, hm] at h3 h0 ⊢
          omega
    · go_wp2_with fail
      go_ret
      exact ⟨ret_bool (Tab.may_head _ (by simp at h3; simp [Tab.headOk, h3, hnx])).symm, hw1⟩
  · · have hb16 := (Sch.may_bounds hm).2.2.2.1
      go_wp2_with fail
      go_loopw [61] (fun i wr => ∃ k : Nat, k ≤ n ∧ i = .int .i64 k ∧ Below (w.heap.size + 1) w1 wr ∧ (∀ (i : Nat) (x : Ent), i < k → es[i]? = some x → Tab.elOk ⟨s, es, nx⟩ i x = true)) (fun i _ => n - (intOf i).toNat)
      case atStart => exact ⟨0, Nat.zero_le _, rfl, Below.refl _ _, fun i x h => absurd h (by omega)⟩
      case round =>
        obtain ⟨k, hk, rfl, hb, hno⟩ := hrel
        replace hno := Lib.hid hno
        have hbr := hw1.trans (hb.mono (Nat.le_succ _))
        have hsz := hb.size
        have hsz1 := hb1.size
        simp only [World.size_alloc, World.heap_drewN] at hsz1
        have hszr : w.heap.size < wr.heap.size := by omega
        obtain ⟨hc2, hf2⟩ := bcell hb
        by_cases hlt : k < n
        · obtain ⟨e, ad, A', n', c', he, rfl, hadB, hk0, hk1, hkey, hv⟩ := kEnt.get (hE.below hbr) hlt
          replace he := Lib.hid he
          replace hv := Lib.hid hv.len
          have hkx : (((nx + (4294967296 - es.length) + k) % 4294967296 : Nat) : Int) = ((nx : Int) - n + k) % 4294967296 := by rw [hl.out]; omega
          replace hkx := Lib.hid hkx
          rcases q1 : ((e.key : Int) != ((nx : Int) - n + k) % 4294967296) with _ | _
          case true =>
            go_wp2_with fail
            go_ret
            exact ⟨ret_bool (Tab.may_no _ he.out (Tab.elOk_no (by rintro ⟨_, _, _, r4⟩; simp at h3; have r5 := r4 h3; have := hkx.out; simp only at r5; rw [← r5] at this; simp [this] at q1))).symm, hbr.alloc (by omega) _⟩
          by_cases q2 : (n' : Int) = s.words
          case neg =>
            have q2b : ((n' : Int) != s.words) = true := by simp [q2]
            replace q2 := Lib.hid q2
            go_wp2_with fail
            go_ret
            exact ⟨ret_bool (Tab.may_no _ he.out (Tab.elOk_no (by rintro ⟨r1, _⟩; rw [hv.out] at r1; exact q2.out r1))).symm, hbr.alloc (by omega) _⟩
          have q2b : ((n' : Int) != s.words) = false := by simp [q2]
          replace q2 := Lib.hid q2
          rcases q3 : (fidx e.key es 0 != (k : Int)) with _ | _
          · go_wp2_with (go_at_call 55; refine (find_any _ _ _ _ _ _ es _ w.heap.size (by simp; omega) (by exact hE.below (hbr.alloc (by omega) _))).mono ?_; rintro e1 w2 ⟨rfl, hb2⟩)
            refine ⟨⟨k + 1, by omega, by go_num, (hb.alloc (by omega) _).trans (hb2.mono (by simp; omega)), ?_⟩, by simp [intOf]; omega⟩
            refine allOk_succ (t := ⟨s, es, nx⟩) hno.out he.out ((Tab.elOk_iff _ _ _).2 ⟨by rw [hv.out]; exact q2.out, by simpa using q3, fun q => by simp at h0; exact absurd q h0, fun _ => by have := hkx.out; simp at q1; simp only; omega⟩)
          · go_wp2_with (go_at_call 55; refine (find_any _ _ _ _ _ _ es _ w.heap.size (by simp; omega) (by exact hE.below (hbr.alloc (by omega) _))).mono ?_; rintro e1 w2 ⟨rfl, hb2⟩)
            go_ret
            exact ⟨ret_bool (Tab.may_no _ he.out (Tab.elOk_no (by rintro ⟨_, r2, _⟩; simp [r2] at q3))).symm, (hbr.alloc (by omega) _).trans (hb2.mono (by simp; omega))⟩
        · go_wp2_with fail
          go_ret
          obtain rfl : k = n := by omega
          refine ⟨ret_bool (Tab.may_yes ?_ (by rw [hl.out]; exact hno.out)).symm, hbr⟩
          simp [Tab.headOk, hl.out, hm] at h3 h0 ⊢
          omega
end Go.Proofs.Ytpmnchgpbojppaa

/- drydockref05.May. -/
namespace Go.Proofs.Ytpmnchgpbojppaa
open Go Go.RowKit Go.Proofs.Try

set_option maxRecDepth 100000 in
set_option maxHeartbeats 4000000 in
theorem refMay_any (s : Sch) (A : Option Addr) (n c nx : Nat) (es : List Ent) (w : World) (hx : nx < 4294967296) (hE : kEnt.At w w.heap.size A n c es) :
    Calls prog 38 #[tabV s A n c nx] w fun e w' => e = .returned (.bool (Tab.may ⟨s, es, nx⟩)) ∧ Below w.heap.size w w' := by
  have hn := hE.nle
  have hl := Lib.hid hE.len
  unfold tabV
  obtain ⟨W1, hW1, hB1, hS1, hC1, hF1, hO1⟩ := boxed w _ rfl #[.int .i64 s.kind, .int .i64 s.cap, .int .i64 s.words, .int .i64 s.ver, .slice A n c, .int .u32 (nx : Int)] 27
  rcases h3 : (s.kind == 3) with _ | _ <;> rcases h0 : (s.kind == 0) with _ | _
  case true.true => simp at h3 h0; omega
  all_goals
    have h3' : (s.kind != 3) = !(s.kind == 3) := rfl
    rw [h3] at h3'
    simp only [Bool.not_false, Bool.not_true] at h3'
    go_enter func38, ntmps38
    go_wp2_with fail
    refine (refSchMay_any _ _ _ _ _).mono ?_
    rintro e w1 ⟨rfl, hb1⟩
    have hw1 := hB1.trans (hb1.mono hB1.size)
    have hC2 := boxAt hb1 (by omega) hC1
    have hsz1 := hb1.size
    rcases hm : Sch.may s with _ | _
    · go_wp2_with fail
      go_ret
      exact ⟨ret_bool (Tab.may_head _ (by simp [Tab.headOk, hm])).symm, hw1⟩
    have hb16 := (Sch.may_bounds hm).2.2.2.1
    by_cases hcap : s.cap < (n : Int)
    · go_wp2_with fail
      go_ret
      exact ⟨ret_bool (Tab.may_head _ (by simp [Tab.headOk, hl.out]; omega)).symm, hw1⟩
  · by_cases hnx : nx = 0
    case neg =>
      have hnxb : ((nx : Int) != 0) = true := by simp; omega
      replace hnx := Lib.hid hnx
      go_wp2_with fail
      go_ret
      exact ⟨ret_bool (Tab.may_head _ (by have := hnx.out; simp at h3; simp [Tab.headOk, h3, this])).symm, hw1⟩
    have hnxb : ((nx : Int) != 0) = false := by simp; omega
    replace hnx := Lib.hid hnx
    go_wp2_with fail
    go_loopw [5] (fun i wr => ∃ k : Nat, k ≤ n ∧ i = .int .i64 k ∧ Below (w.heap.size + 1) w1 wr ∧ (∀ (i : Nat) (x : Ent), i < k → es[i]? = some x → Tab.elOk ⟨s, es, nx⟩ i x = true)) (fun i _ => n - (intOf i).toNat)
    case atStart => exact ⟨0, Nat.zero_le _, rfl, Below.refl _ _, fun i x h => absurd h (by omega)⟩
    case round =>
      obtain ⟨k, hk, rfl, hb, hno⟩ := hrel
      replace hno := Lib.hid hno
      have hbr := hw1.trans (hb.mono (Nat.le_succ _))
      have hsz := hb.size
      have hszr : w.heap.size < wr.heap.size := by omega
      have hCr := boxAt hb (Nat.lt_succ_self _) hC2
      by_cases hlt : k < n
      · obtain ⟨e, ad, A', n', c', he, rfl, hadB, hk0, hk1, hkey, hv⟩ := kEnt.get (hE.below hbr) hlt
        replace he := Lib.hid he
        replace hv := Lib.hid hv.len
        have hki : (k : Int) < (n : Int) := by omega
        have hadB2 : (ad.add (k * 2)).block < w.heap.size + 1 := by rw [add_block]; omega
        by_cases q2 : (n' : Int) = s.words
        case neg =>
          have q2b : ((n' : Int) != s.words) = true := by simp [q2]
          replace q2 := Lib.hid q2
          go_wp2_with fail
          go_quiet (fail)
          go_wp2_with fail
          go_ret
          exact ⟨ret_bool (Tab.may_no _ he.out (Tab.elOk_no (by rintro ⟨r1, _⟩; rw [hv.out] at r1; exact q2.out r1))).symm, below_drewN hbr _⟩
        have q2b : ((n' : Int) != s.words) = false := by simp [q2]
        replace q2 := Lib.hid q2
        rcases q3 : (fidx e.key es 0 != (k : Int)) with _ | _
        case true =>
          go_wp2_with fail
          go_region_held3 (fun w' => ∀ b o, b < w.heap.size + 1 → w'.cell? ⟨b, o, none⟩ = wr.cell? ⟨b, o, none⟩)
              (first | exact fun _ _ _ => rfl | exact fun b o h => (hb2.cell (p := ⟨b, o, none⟩) (by simp; omega)))
            (first | (go_at_call 25; refine (at_any _ _ _ _ _ _ es _ w.heap.size ?_ ?_).mono ?_; (simp; omega); (exact hE.below (below_drewN hbr _)); rintro e1 w2 ⟨rfl, hb2⟩))
          have hbx : Below (w.heap.size + 1) w1 w2 := hb.trans ((below_drewN (Below.refl _ _) 1).trans (hb2.mono (by simp; omega)))
          have hC3 := boxAt hbx (Nat.lt_succ_self _) hC2
          have hbz := hw1.trans (hbx.mono (Nat.le_succ _))
          go_wp2_with fail
          go_ret
          exact ⟨ret_bool (Tab.may_no _ he.out (Tab.elOk_no (by rintro ⟨_, r2, _⟩; simp [r2] at q3))).symm, hbz⟩
        have q1 : True := trivial
        · go_wp2_with fail
          go_region_held3 (fun w' => ∀ b o, b < w.heap.size + 1 → w'.cell? ⟨b, o, none⟩ = wr.cell? ⟨b, o, none⟩)
              (first | exact fun _ _ _ => rfl | exact fun b o h => (hb2.cell (p := ⟨b, o, none⟩) (by simp; omega)))
            (first | (go_at_call 25; refine (at_any _ _ _ _ _ _ es _ w.heap.size ?_ ?_).mono ?_; (simp; omega); (exact hE.below (below_drewN hbr _)); rintro e1 w2 ⟨rfl, hb2⟩))
          have hbx : Below (w.heap.size + 1) w1 w2 := hb.trans ((below_drewN (Below.refl _ _) 1).trans (hb2.mono (by simp; omega)))
          have hC3 := boxAt hbx (Nat.lt_succ_self _) hC2
          have hbz := hw1.trans (hbx.mono (Nat.le_succ _))
          go_wp2_with fail
          refine ⟨⟨k + 1, by omega, by go_num, hbx, ?_⟩, by simp [intOf]; omega⟩
          refine allOk_succ (t := ⟨s, es, nx⟩) hno.out he.out ((Tab.elOk_iff _ _ _).2 ⟨by rw [hv.out]; exact q2.out, by simpa using q3, fun q => by simp at h0; exact absurd q h0, fun q => by simp at h3; exact absurd q h3⟩)
      · go_wp2_with fail
        go_ret
        obtain rfl : k = n := by omega
        refine ⟨ret_bool (Tab.may_yes ?_ (by rw [hl.out]; exact hno.out)).symm, hbr⟩
        have := hnx.out
        simp [Tab.headOk, hl.out, hm] at h3 h0 ⊢
        omega
  · by_cases hnx : nx = 0
    case neg =>
      have hnxb : ((nx : Int) != 0) = true := by simp; omega
      replace hnx := Lib.hid hnx
      go_wp2_with fail
      go_ret
      exact ⟨ret_bool (Tab.may_head _ (by have := hnx.out; simp at h3; simp [Tab.headOk, h3, this])).symm, hw1⟩
    have hnxb : ((nx : Int) != 0) = false := by simp; omega
    replace hnx := Lib.hid hnx
    by_cases hnc : (n : Int) < s.cap
    case pos =>
      go_wp2_with fail
      go_ret
      exact ⟨ret_bool (Tab.may_head _ (by simp at h0; simp [Tab.headOk, h0, hl.out]; omega)).symm, hw1⟩
    go_wp2_with fail
    go_loopw [5] (fun i wr => ∃ k : Nat, k ≤ n ∧ i = .int .i64 k ∧ Below (w.heap.size + 1) w1 wr ∧ (∀ (i : Nat) (x : Ent), i < k → es[i]? = some x → Tab.elOk ⟨s, es, nx⟩ i x = true)) (fun i _ => n - (intOf i).toNat)
    case atStart => exact ⟨0, Nat.zero_le _, rfl, Below.refl _ _, fun i x h => absurd h (by omega)⟩
    case round =>
      obtain ⟨k, hk, rfl, hb, hno⟩ := hrel
      replace hno := Lib.hid hno
      have hbr := hw1.trans (hb.mono (Nat.le_succ _))
      have hsz := hb.size
      have hszr : w.heap.size < wr.heap.size := by omega
      have hCr := boxAt hb (Nat.lt_succ_self _) hC2
      by_cases hlt : k < n
      · obtain ⟨e, ad, A', n', c', he, rfl, hadB, hk0, hk1, hkey, hv⟩ := kEnt.get (hE.below hbr) hlt
        replace he := Lib.hid he
        replace hv := Lib.hid hv.len
        have hki : (k : Int) < (n : Int) := by omega
        have hadB2 : (ad.add (k * 2)).block < w.heap.size + 1 := by rw [add_block]; omega
        by_cases q2 : (n' : Int) = s.words
        case neg =>
          have q2b : ((n' : Int) != s.words) = true := by simp [q2]
          replace q2 := Lib.hid q2
          go_wp2_with fail
          go_quiet (fail)
          go_wp2_with fail
          go_ret
          exact ⟨ret_bool (Tab.may_no _ he.out (Tab.elOk_no (by rintro ⟨r1, _⟩; rw [hv.out] at r1; exact q2.out r1))).symm, below_drewN hbr _⟩
        have q2b : ((n' : Int) != s.words) = false := by simp [q2]
        replace q2 := Lib.hid q2
        rcases q3 : (fidx e.key es 0 != (k : Int)) with _ | _
        case true =>
          go_wp2_with fail
          go_region_held3 (fun w' => ∀ b o, b < w.heap.size + 1 → w'.cell? ⟨b, o, none⟩ = wr.cell? ⟨b, o, none⟩)
              (first | exact fun _ _ _ => rfl | exact fun b o h => (hb2.cell (p := ⟨b, o, none⟩) (by simp; omega)))
            (first | (go_at_call 25; refine (at_any _ _ _ _ _ _ es _ w.heap.size ?_ ?_).mono ?_; (simp; omega); (exact hE.below (below_drewN hbr _)); rintro e1 w2 ⟨rfl, hb2⟩))
          have hbx : Below (w.heap.size + 1) w1 w2 := hb.trans ((below_drewN (Below.refl _ _) 1).trans (hb2.mono (by simp; omega)))
          have hC3 := boxAt hbx (Nat.lt_succ_self _) hC2
          have hbz := hw1.trans (hbx.mono (Nat.le_succ _))
          go_wp2_with fail
          go_ret
          exact ⟨ret_bool (Tab.may_no _ he.out (Tab.elOk_no (by rintro ⟨_, r2, _⟩; simp [r2] at q3))).symm, hbz⟩
        rcases q1 : ((e.key : Int) != (k : Int)) with _ | _
        case true =>
          go_wp2_with fail
          go_region_held3 (fun w' => ∀ b o, b < w.heap.size + 1 → w'.cell? ⟨b, o, none⟩ = wr.cell? ⟨b, o, none⟩)
              (first | exact fun _ _ _ => rfl | exact fun b o h => (hb2.cell (p := ⟨b, o, none⟩) (by simp; omega)))
            (first | (go_at_call 25; refine (at_any _ _ _ _ _ _ es _ w.heap.size ?_ ?_).mono ?_; (simp; omega); (exact hE.below (below_drewN hbr _)); rintro e1 w2 ⟨rfl, hb2⟩))
          have hbx : Below (w.heap.size + 1) w1 w2 := hb.trans ((below_drewN (Below.refl _ _) 1).trans (hb2.mono (by simp; omega)))
          have hC3 := boxAt hbx (Nat.lt_succ_self _) hC2
          have hbz := hw1.trans (hbx.mono (Nat.le_succ _))
          go_wp2_with fail
          go_ret
          exact ⟨ret_bool (Tab.may_no _ he.out (Tab.elOk_no (by rintro ⟨_, _, r3, _⟩; simp at h0; have := r3 h0; simp [this] at q1))).symm, hbz⟩
        · go_wp2_with fail
          go_region_held3 (fun w' => ∀ b o, b < w.heap.size + 1 → w'.cell? ⟨b, o, none⟩ = wr.cell? ⟨b, o, none⟩)
              (first | exact fun _ _ _ => rfl | exact fun b o h => (hb2.cell (p := ⟨b, o, none⟩) (by simp; omega)))
            (first | (go_at_call 25; refine (at_any _ _ _ _ _ _ es _ w.heap.size ?_ ?_).mono ?_; (simp; omega); (exact hE.below (below_drewN hbr _)); rintro e1 w2 ⟨rfl, hb2⟩))
          have hbx : Below (w.heap.size + 1) w1 w2 := hb.trans ((below_drewN (Below.refl _ _) 1).trans (hb2.mono (by simp; omega)))
          have hC3 := boxAt hbx (Nat.lt_succ_self _) hC2
          have hbz := hw1.trans (hbx.mono (Nat.le_succ _))
          go_wp2_with fail
          refine ⟨⟨k + 1, by omega, by go_num, hbx, ?_⟩, by simp [intOf]; omega⟩
          refine allOk_succ (t := ⟨s, es, nx⟩) hno.out he.out ((Tab.elOk_iff _ _ _).2 ⟨by rw [hv.out]; exact q2.out, by simpa using q3, fun _ => by simp at q1; (try simp only); omega, fun q => by simp at h3; exact absurd q h3⟩)
      · go_wp2_with fail
        go_ret
        obtain rfl : k = n := by omega
        refine ⟨ret_bool (Tab.may_yes ?_ (by rw [hl.out]; exact hno.out)).symm, hbr⟩
        have := hnx.out
        simp [Tab.headOk, hl.out, hm] at h3 h0 ⊢
        omega
  · have hnx : True := trivial
    go_wp2_with fail
    go_loopw [5] (fun i wr => ∃ k : Nat, k ≤ n ∧ i = .int .i64 k ∧ Below (w.heap.size + 1) w1 wr ∧ (∀ (i : Nat) (x : Ent), i < k → es[i]? = some x → Tab.elOk ⟨s, es, nx⟩ i x = true)) (fun i _ => n - (intOf i).toNat)
    case atStart => exact ⟨0, Nat.zero_le _, rfl, Below.refl _ _, fun i x h => absurd h (by omega)⟩
    case round =>
      obtain ⟨k, hk, rfl, hb, hno⟩ := hrel
      replace hno := Lib.hid hno
      have hbr := hw1.trans (hb.mono (Nat.le_succ _))
      have hsz := hb.size
      have hszr : w.heap.size < wr.heap.size := by omega
      have hCr := boxAt hb (Nat.lt_succ_self _) hC2
      by_cases hlt : k < n
      · obtain ⟨e, ad, A', n', c', he, rfl, hadB, hk0, hk1, hkey, hv⟩ := kEnt.get (hE.below hbr) hlt
        replace he := Lib.hid he
        replace hv := Lib.hid hv.len
        have hki : (k : Int) < (n : Int) := by omega
        have hadB2 : (ad.add (k * 2)).block < w.heap.size + 1 := by rw [add_block]; omega
        by_cases q2 : (n' : Int) = s.words
        case neg =>
          have q2b : ((n' : Int) != s.words) = true := by simp [q2]
          replace q2 := Lib.hid q2
          go_wp2_with fail
          go_quiet (fail)
          go_wp2_with fail
          go_ret
          exact ⟨ret_bool (Tab.may_no _ he.out (Tab.elOk_no (by rintro ⟨r1, _⟩; rw [hv.out] at r1; exact q2.out r1))).symm, below_drewN hbr _⟩
        have q2b : ((n' : Int) != s.words) = false := by simp [q2]
        replace q2 := Lib.hid q2
        rcases q3 : (fidx e.key es 0 != (k : Int)) with _ | _
        case true =>
          go_wp2_with fail
          go_region_held3 (fun w' => ∀ b o, b < w.heap.size + 1 → w'.cell? ⟨b, o, none⟩ = wr.cell? ⟨b, o, none⟩)
              (first | exact fun _ _ _ => rfl | exact fun b o h => (hb2.cell (p := ⟨b, o, none⟩) (by simp; omega)))
            (first | (go_at_call 25; refine (at_any _ _ _ _ _ _ es _ w.heap.size ?_ ?_).mono ?_; (simp; omega); (exact hE.below (below_drewN hbr _)); rintro e1 w2 ⟨rfl, hb2⟩))
          have hbx : Below (w.heap.size + 1) w1 w2 := hb.trans ((below_drewN (Below.refl _ _) 1).trans (hb2.mono (by simp; omega)))
          have hC3 := boxAt hbx (Nat.lt_succ_self _) hC2
          have hbz := hw1.trans (hbx.mono (Nat.le_succ _))
          go_wp2_with fail
          go_ret
          exact ⟨ret_bool (Tab.may_no _ he.out (Tab.elOk_no (by rintro ⟨_, r2, _⟩; simp [r2] at q3))).symm, hbz⟩
        have hkx : (((nx + (4294967296 - es.length) + k) % 4294967296 : Nat) : Int) = ((nx : Int) - n + k) % 4294967296 := by rw [hl.out]; omega
        replace hkx := Lib.hid hkx
        rcases q1 : (((e.key : Int) + ((n : Int) - k)) % 4294967296 != (nx : Int)) with _ | _
        case true =>
          go_wp2_with fail
          go_region_held3 (fun w' => ∀ b o, b < w.heap.size + 1 → w'.cell? ⟨b, o, none⟩ = wr.cell? ⟨b, o, none⟩)
              (first | exact fun _ _ _ => rfl | exact fun b o h => (hb2.cell (p := ⟨b, o, none⟩) (by simp; omega)))
            (first | (go_at_call 25; refine (at_any _ _ _ _ _ _ es _ w.heap.size ?_ ?_).mono ?_; (simp; omega); (exact hE.below (below_drewN hbr _)); rintro e1 w2 ⟨rfl, hb2⟩))
          have hbx : Below (w.heap.size + 1) w1 w2 := hb.trans ((below_drewN (Below.refl _ _) 1).trans (hb2.mono (by simp; omega)))
          have hC3 := boxAt hbx (Nat.lt_succ_self _) hC2
          have hbz := hw1.trans (hbx.mono (Nat.le_succ _))
          go_wp2_with fail
          go_ret
          exact ⟨ret_bool (Tab.may_no _ he.out (Tab.elOk_no (by rintro ⟨_, _, _, r4⟩; simp at h3; have r5 := r4 h3; have := hkx.out; simp only at r5; rw [← r5] at this; rw [this] at q1; simp at q1; omega))).symm, hbz⟩
        · go_wp2_with fail
          go_region_held3 (fun w' => ∀ b o, b < w.heap.size + 1 → w'.cell? ⟨b, o, none⟩ = wr.cell? ⟨b, o, none⟩)
              (first | exact fun _ _ _ => rfl | exact fun b o h => (hb2.cell (p := ⟨b, o, none⟩) (by simp; omega)))
            (first | (go_at_call 25; refine (at_any _ _ _ _ _ _ es _ w.heap.size ?_ ?_).mono ?_; (simp; omega); (exact hE.below (below_drewN hbr _)); rintro e1 w2 ⟨rfl, hb2⟩))
          have hbx : Below (w.heap.size + 1) w1 w2 := hb.trans ((below_drewN (Below.refl _ _) 1).trans (hb2.mono (by simp; omega)))
          have hC3 := boxAt hbx (Nat.lt_succ_self _) hC2
          have hbz := hw1.trans (hbx.mono (Nat.le_succ _))
          go_wp2_with fail
          refine ⟨⟨k + 1, by omega, by go_num, hbx, ?_⟩, by simp [intOf]; omega⟩
          refine allOk_succ (t := ⟨s, es, nx⟩) hno.out he.out ((Tab.elOk_iff _ _ _).2 ⟨by rw [hv.out]; exact q2.out, by simpa using q3, fun q => by simp at h0; exact absurd q h0, fun _ => by have := hkx.out; simp at q1; simp only; omega⟩)
      · go_wp2_with fail
        go_ret
        obtain rfl : k = n := by omega
        refine ⟨ret_bool (Tab.may_yes ?_ (by rw [hl.out]; exact hno.out)).symm, hbr⟩
        simp [Tab.headOk, hl.out, hm] at h3 h0 ⊢
        omega
end Go.Proofs.Ytpmnchgpbojppaa

/- table.words, drydockref05.keyed. -/
namespace Go.Proofs.Ytpmnchgpbojppaa
open Go Go.RowKit Go.Proofs.Try

/-- May a table be, has it keys, and such a word? -/
def Tab.keyed (t : Tab) (field : Nat) : Bool := t.may && !decide (t.s.kind = 3) && decide ((field : Int) < t.s.words)
theorem Tab.may_sch {t : Tab} (h : t.may = true) : t.s.may = true := by
  have h1 := (t.may_iff.1 h).1
  simp only [Tab.headOk, Bool.and_eq_true] at h1
  exact h1.1.1.1
theorem Tab.may_len {t : Tab} (h : t.may = true) : (t.e.length : Int) ≤ t.s.cap := by
  have h1 := (t.may_iff.1 h).1
  simp only [Tab.headOk, Bool.and_eq_true, decide_eq_true_eq] at h1
  exact h1.1.1.2

set_option maxHeartbeats 2000000 in
theorem words_tab (s : Sch) (A : Option Addr) (n c nx f : Nat) (es : List Ent) (w : World) (hx : nx < 4294967296) (_hf : f < 4294967296) (hE : kEnt.At w w.heap.size A n c es) :
    Calls prog 56 #[tabV s A n c nx, .int .u32 (f : Int)] w fun e w' => e = .returned (.bool (Tab.keyed ⟨s, es, nx⟩ f)) ∧ Below w.heap.size w w' := by
  unfold tabV
  obtain ⟨W1, hW1, hB1, hS1, hC1, hF1, hO1⟩ := boxed w _ rfl #[.int .i64 s.kind, .int .i64 s.cap, .int .i64 s.words, .int .i64 s.ver, .slice A n c, .int .u32 (nx : Int)] 27
  rcases hm : Tab.may ⟨s, es, nx⟩ with _ | _
  · go_enter func56, ntmps56
    go_wp2_with (go_at_call 23; refine (tabMay_any _ _ _ _ _ es _ hx (by exact (hE.below hB1).mono (by omega))).mono ?_; rintro e1 w2 ⟨rfl, hb2⟩)
    go_ret
    exact ⟨ret_bool (by simp [Tab.keyed, hm]), hB1.trans (hb2.mono (by omega))⟩
  · have hb := Sch.may_bounds (Tab.may_sch hm)
    simp only at hb
    obtain ⟨hb1, hb2, hb3, hb4, hb5, hb6, hb7, hb8⟩ := hb
    clear hb7 hb8
    rcases h3 : (s.kind != 3) with _ | _
    all_goals
      go_enter func56, ntmps56
      go_wp2_with (go_at_call 23; refine (tabMay_any _ _ _ _ _ es _ hx (by exact (hE.below hB1).mono (by omega))).mono ?_; rintro e1 w2 ⟨rfl, hb2⟩; have hC2 := boxAt hb2 (by omega) hC1)
      go_ret
      refine ⟨ret_bool ?_, hB1.trans (hb2.mono (by omega))⟩
    · simp at h3
      simp [Tab.keyed, h3]
    · simp at h3
      simp [Tab.keyed, hm, h3]

set_option maxHeartbeats 2000000 in
theorem keyed_any (s : Sch) (A : Option Addr) (n c nx f : Nat) (es : List Ent) (w : World) (hx : nx < 4294967296) (_hf : f < 4294967296) (hE : kEnt.At w w.heap.size A n c es) :
    Calls prog 63 #[tabV s A n c nx, .int .u32 (f : Int)] w fun e w' => e = .returned (.bool (Tab.keyed ⟨s, es, nx⟩ f)) ∧ Below w.heap.size w w' := by
  unfold tabV
  obtain ⟨W1, hW1, hB1, hS1, hC1, hF1, hO1⟩ := boxed w _ rfl #[.int .i64 s.kind, .int .i64 s.cap, .int .i64 s.words, .int .i64 s.ver, .slice A n c, .int .u32 (nx : Int)] 27
  rcases hm : Tab.may ⟨s, es, nx⟩ with _ | _
  · go_enter func63, ntmps63
    go_wp2_with (go_at_call 38; refine (refMay_any _ _ _ _ _ es _ hx (by exact (hE.below hB1).mono (by omega))).mono ?_; rintro e1 w2 ⟨rfl, hb2⟩)
    go_ret
    exact ⟨ret_bool (by simp [Tab.keyed, hm]), hB1.trans (hb2.mono (by omega))⟩
  · have hb := Sch.may_bounds (Tab.may_sch hm)
    simp only at hb
    obtain ⟨hb1, hb2, hb3, hb4, hb5, hb6, hb7, hb8⟩ := hb
    clear hb7 hb8
    rcases h3 : (s.kind != 3) with _ | _
    all_goals
      go_enter func63, ntmps63
      go_wp2_with (go_at_call 38; refine (refMay_any _ _ _ _ _ es _ hx (by exact (hE.below hB1).mono (by omega))).mono ?_; rintro e1 w2 ⟨rfl, hb2⟩; have hC2 := boxAt hb2 (by omega) hC1)
      go_ret
      refine ⟨ret_bool ?_, hB1.trans (hb2.mono (by omega))⟩
    · simp at h3
      simp [Tab.keyed, h3]
    · simp at h3
      simp [Tab.keyed, hm, h3]
end Go.Proofs.Ytpmnchgpbojppaa

/- table.Get. -/
namespace Go.Proofs.Ytpmnchgpbojppaa
open Go Go.RowKit Go.Proofs.Try

/-- Has a table such a word of such a key? -/
def Tab.has (t : Tab) (key f : Nat) : Bool := t.keyed f && decide (0 ≤ fidx key t.e 0)
def Tab.idx (t : Tab) (key : Nat) : Nat := (fidx key t.e 0).toNat
def Tab.word (t : Tab) (i f : Nat) : Nat := (((t.e[i]?).elim [] Ent.v)[f]?).getD 0
def Tab.get (t : Tab) (key f : Nat) : Tab × Nat × Bool :=
  if t.has key f then ({ t with e := touch t.s.kind t.e (t.idx key) }, t.word (t.idx key) f, true) else (t, 0, false)
theorem fidx_nat {key : Nat} {es : List Ent} (h : 0 ≤ fidx key es 0) : fidx key es 0 = (((fidx key es 0).toNat : Nat) : Int) ∧ (fidx key es 0).toNat < es.length := by
  have := fidx_lt key es 0
  omega
theorem Tab.keyed_may {t : Tab} {f : Nat} (h : t.keyed f = true) : t.may = true ∧ t.s.kind ≠ 3 ∧ (f : Int) < t.s.words := by
  simpa [Tab.keyed, and_assoc] using h

set_option maxRecDepth 100000 in
set_option maxHeartbeats 2000000 in
theorem get_any (s : Sch) (A : Option Addr) (n c nx key f : Nat) (es : List Ent) (w : World) (hx : nx < 4294967296) (hf : f < 4294967296) (hfit : fits es) (hE : kEnt.At w w.heap.size A n c es) :
    Calls prog 22 #[tabV s A n c nx, .int .u32 (key : Int), .int .u32 (f : Int)] w fun e w' => ∃ A' c' us, e = .returned (.tuple #[tabV s A' n c' nx, .int .u32 ((Tab.get ⟨s, es, nx⟩ key f).2.1 : Int), .bool (Tab.get ⟨s, es, nx⟩ key f).2.2]) ∧ OwnEs w' w.heap.size (.slice A' n c') (Tab.get ⟨s, es, nx⟩ key f).1.e us ∧ Below w.heap.size w w' := by
  have hl := Lib.hid hE.len
  unfold tabV
  obtain ⟨W1, hW1, hB1, hS1, hG1, hO1, hP1⟩ := boxedB w _ rfl #[.int .i64 s.kind, .int .i64 s.cap, .int .i64 s.words, .int .i64 s.ver, .slice A n c, .int .u32 (nx : Int)] 27
  obtain ⟨W2, hW2, hB2, hS2, hG2, hO2, hP2⟩ := boxedB W1 _ hS1 #[.int .i64 0, .int .i64 0, .int .i64 0, .int .i64 0, .slice none 0 0, .int .u32 0] 27
  have hC1 := (hG1.below hB2 (Nat.lt_succ_self _)).cell
  have hb2 := hB1.trans (hB2.mono (Nat.le_succ _))
  clear hO1 hP1 hO2 hP2
  rcases hkd : Tab.keyed ⟨s, es, nx⟩ f with _ | _ <;> rcases hpos : decide (0 ≤ fidx key es 0) with _ | _
  all_goals
    obtain ⟨x, hfi, hx1⟩ : ∃ x : Int, fidx key es 0 = x ∧ Hid (x = fidx key es 0) := ⟨_, rfl, rfl⟩
    replace hfi := Lib.hid hfi
    go_enter func22, ntmps22
    go_wp2_with fail
    refine (own_any s A n c nx es _ hfit (by exact (hE.below hb2).mono (by omega))).mono ?_
    rintro e1 w3 ⟨A', us, rfl, hown, hb3⟩
    rw [hS2] at hown hb3
    have hs3 := hb3.size
    have hb03 := hb2.trans (hb3.mono (by omega))
    have hC13 := ((hG1.below hB2 (Nat.lt_succ_self _)).below hb3 (by omega)).cell
    obtain ⟨W4, hW4, hB4, hS4, hG4, hO4, hP4⟩ := boxedB w3 _ rfl #[.int .i64 s.kind, .int .i64 s.cap, .int .i64 s.words, .int .i64 s.ver, .slice A' n n, .int .u32 (nx : Int)] 27
    have hC4 := hG4.cell
    have hb04 := hb03.trans (hB4.mono (by omega))
    clear hO4 hP4
    unfold tabV
    have hE3 := hown.at_
    have hE4 := (hE3.below hB4).mono (B' := W4.heap.size) (by omega)
    go_wp2_with fail
    refine (find_any s A' n n nx key es _ W4.heap.size (by omega) hE4).mono ?_
    rintro e1 w5 ⟨rfl, hb5⟩
    rw [hfi.out]
    have hs5 := hb5.size
    have hC15 := (((hG1.below hB2 (Nat.lt_succ_self _)).below hb3 (by omega)).below hB4 (by omega)).below hb5 (by omega)
    have hC15' := hC15.cell
    have hG45 := hG4.below hb5 (by omega)
    have hC45 := hG45.cell
    have hb05 := hb04.trans (hb5.mono (by omega))
    go_wp2_with fail
    refine (words_tab s A n c nx f es _ hx hf (by exact (hE.below hb05).mono (by omega))).mono ?_
    rintro e1 w6 ⟨rfl, hb6⟩
    have hs6 := hb6.size
    have hG46 := hG45.below hb6 (by omega)
    have hC46 := hG46.cell
    have hG26 := (((hG2.below hb3 (by omega)).below hB4 (by omega)).below hb5 (by omega)).below hb6 (by omega)
    have hC26 := hG26.cell
    have hF26 := hG26.frozen
    have hb06 := hb05.trans (hb6.mono (by omega))
    have hO6 := ((hown.below hB4).below (hb5.mono (by omega))).below (hb6.mono (by omega))
  · have hg : Tab.get ⟨s, es, nx⟩ key f = (⟨s, es, nx⟩, 0, false) := by simp [Tab.get, Tab.has, hkd]
    replace hg := Lib.hid hg
    have hres := hG26.setBox [.int .i64 s.kind, .int .i64 s.cap, .int .i64 s.words, .int .i64 s.ver, .slice A' n n, .int .u32 (nx : Int)] rfl
    have ho7 := setAll_only (w.heap.size + 1) [.int .i64 s.kind, .int .i64 s.cap, .int .i64 s.words, .int .i64 s.ver, .slice A' n n, .int .u32 (nx : Int)] 0 w6
    go_wp2_with fail
    refine bodyPost_ret (results_ctt results22 rfl hres underlying27 rfl (by kernel_rfl)) rfl ?_
    rw [hg.out]
    exact ⟨A', n, us, rfl, (hO6.far ho7 (by omega)).mono (by omega), Only.below hb06 ho7 (by omega) (by omega)⟩
  · have hg : Tab.get ⟨s, es, nx⟩ key f = (⟨s, es, nx⟩, 0, false) := by simp [Tab.get, Tab.has, hkd]
    replace hg := Lib.hid hg
    have hres := hG26.setBox [.int .i64 s.kind, .int .i64 s.cap, .int .i64 s.words, .int .i64 s.ver, .slice A' n n, .int .u32 (nx : Int)] rfl
    have ho7 := setAll_only (w.heap.size + 1) [.int .i64 s.kind, .int .i64 s.cap, .int .i64 s.words, .int .i64 s.ver, .slice A' n n, .int .u32 (nx : Int)] 0 w6
    go_wp2_with fail
    refine bodyPost_ret (results_ctt results22 rfl hres underlying27 rfl (by kernel_rfl)) rfl ?_
    rw [hg.out]
    exact ⟨A', n, us, rfl, (hO6.far ho7 (by omega)).mono (by omega), Only.below hb06 ho7 (by omega) (by omega)⟩
  · have hxm : (x == -1) = true := by
      have := fidx_lt key es 0
      have := hx1.out
      simp at hpos ⊢
      omega
    have hg : Tab.get ⟨s, es, nx⟩ key f = (⟨s, es, nx⟩, 0, false) := by simp [Tab.get, Tab.has, hkd, hpos]
    replace hg := Lib.hid hg
    have hres := hG26.setBox [.int .i64 s.kind, .int .i64 s.cap, .int .i64 s.words, .int .i64 s.ver, .slice A' n n, .int .u32 (nx : Int)] rfl
    have ho7 := setAll_only (w.heap.size + 1) [.int .i64 s.kind, .int .i64 s.cap, .int .i64 s.words, .int .i64 s.ver, .slice A' n n, .int .u32 (nx : Int)] 0 w6
    go_wp2_with fail
    refine bodyPost_ret (results_ctt results22 rfl hres underlying27 rfl (by kernel_rfl)) rfl ?_
    rw [hg.out]
    exact ⟨A', n, us, rfl, (hO6.far ho7 (by omega)).mono (by omega), Only.below hb06 ho7 (by omega) (by omega)⟩
  · simp only [decide_eq_true_eq] at hpos
    obtain ⟨hxi, hil⟩ := fidx_nat hpos
    obtain ⟨i, hii⟩ : ∃ i, i = (fidx key es 0).toNat := ⟨_, rfl⟩
    rw [← hii] at hxi hil
    have hxi' : x = (i : Int) := hx1.out.trans hxi
    subst hxi'
    have hin : i < n := by rw [← hl.out]; exact hil
    have hxm : ((i : Int) == -1) = false := by simp
    have hg : Tab.get ⟨s, es, nx⟩ key f = (⟨s, touch s.kind es i, nx⟩, Tab.word ⟨s, es, nx⟩ i f, true) := by
      simp [Tab.get, Tab.has, hkd, hpos, Tab.idx, ← hii]
    obtain ⟨g, rfl, hg1, hg2, _⟩ := hown.block (by omega)
    obtain ⟨e, he⟩ : ∃ e, es[i]? = some e := ⟨_, List.getElem?_eq_getElem hil⟩
    obtain ⟨u, hu⟩ : ∃ u, us[i]? = some u := ⟨_, List.getElem?_eq_getElem (by rw [hO6.len]; exact hil)⟩
    obtain ⟨hmay, hk3, hfw⟩ := Tab.keyed_may hkd
    have hew := ((Tab.elOk_iff _ _ _).1 ((Tab.may_iff _).1 hmay |>.2 i e he)).1
    simp only at hew hfw
    obtain ⟨y, hy⟩ : ∃ y, e.v[f]? = some y := ⟨_, List.getElem?_eq_getElem (by omega)⟩
    have hword : Tab.word ⟨s, es, nx⟩ i f = y := by simp [Tab.word, he, hy]
    rw [hword] at hg
    replace hg := Lib.hid hg
    have hfl : (f : Int) < (e.v.length : Int) := by omega
    replace hew := Lib.hid hew
    clear hfi hword hpos hxi hii hx1 hmay
    go_wp2_with fail
    refine (last_any s g n n nx i es us _ (w.heap.size + 1 + 1) hO6 hl.out hin).mono ?_
    rintro e1 w7 ⟨rfl, ho7, hO7⟩
    obtain ⟨us', hus'⟩ : ∃ us', us' = touch s.kind us i := ⟨_, rfl⟩
    obtain ⟨j, hj2⟩ : ∃ j, j = tpos s.kind n i := ⟨_, rfl⟩
    have hj : j < n := by rw [hj2]; exact tpos_lt hin
    have he7 : (touch s.kind es i)[j]? = es[i]? := by rw [hj2, ← hl.out]; exact touch_get hil
    have hu7 : us'[j]? = us[i]? := by rw [hj2, hus', ← hl.out, ← hO6.len]; exact touch_get (by rw [hO6.len]; exact hil)
    rw [← hus'] at hO7
    rw [← hj2]
    clear hus' hj2
    have hs7 := ho7.size
    have hG47 := (hG46.grown ho7 (by simp; omega)).cell
    have hG27 := hG26.grown ho7 (by simp; omega)
    have hC27 := hG27.cell
    have hF27 := hG27.frozen
    have hb07 := Only.below hb06 ho7 (by omega) (by omega)
    obtain ⟨c0, c1⟩ := hO7.cells_ (he7.trans he) (hu7.trans hu)
    obtain ⟨hval, _⟩ := hO7.val j e u (he7.trans he) (hu7.trans hu)
    obtain ⟨gu, cu, rfl, hgu1, hgu2, hcu, hcw, hfz⟩ := hval.cells_ hy
    have hji : (j : Int) < (n : Int) := by omega
    replace hu := Lib.hid hu
    replace he := Lib.hid he
    replace hu7 := Lib.hid hu7
    replace he7 := Lib.hid he7
    replace hy := Lib.hid hy
    go_wp2_with fail
    have hne1 : ¬ w3.heap.size = w.heap.size + 1 := by omega
    have hne2 : ¬ g = w.heap.size + 1 := by omega
    have hne3 : ¬ gu = w.heap.size + 1 := by omega
    go_region_held3 (fun w' => ∀ b o, b ≠ w.heap.size + 1 → w'.cell? ⟨b, o, none⟩ = w7.cell? ⟨b, o, none⟩)
      ((intro b o hb; simp only [World.cell?_drew, cell_set_ne hb]))
      (fail)
    have hres := hG27.setBox [.int .i64 s.kind, .int .i64 s.cap, .int .i64 s.words, .int .i64 s.ver, .slice (some ⟨g, 0, none⟩) n n, .int .u32 (nx : Int)] rfl
    have hres' := hres.drew
    have ho8 := setAll_only (w.heap.size + 1) [.int .i64 s.kind, .int .i64 s.cap, .int .i64 s.words, .int .i64 s.ver, .slice (some ⟨g, 0, none⟩) n n, .int .u32 (nx : Int)] 0 w7
    have hb8 := Only.below hb07 ho8 (by omega) (by omega)
    have hO8 := (hO7.far ho8 (by omega)).mono (show w.heap.size ≤ w.heap.size + 1 + 1 by omega)
    go_wp2_with fail
    refine bodyPost_ret (results_ctt results22 rfl hres' underlying27 rfl (by kernel_rfl)) rfl ?_
    rw [hg.out]
    exact ⟨some ⟨g, 0, none⟩, n, us', rfl, hO8.below (below_drewN (Below.refl _ _) 1), below_drewN hb8 1⟩
end Go.Proofs.Ytpmnchgpbojppaa

/- append of one entry onto entries of the call's own; clear. -/
namespace Go.Proofs.Ytpmnchgpbojppaa
open Go Go.RowKit Go.Proofs.Try

section
variable {P : Program} {ops : Array Oper} {rest : List Oper} {o : Oper} {a : Act} {w w' : World} {K : Act → World → Prop} {Q : Exit → Act → World → Prop} {E : Prop}
/-- append, its run being known. -/
theorem wp_runApp (s x : Operand) (t u : TypeId) (ho : o.op = .call { callee := .builtin .append, args := #[s, x], argTypes := #[t, u] }) {vs vx v' : Value} (hs : a.eval s = vs) (hx : a.eval x = vx)
    (hrun : (Builtin.append_ #[t, u] o.type #[vs, vx]).run P w = .ok v' w') (h : K (a.put o.dst v') w') : o.wp P a w K Q := by
  unfold Oper.wp execOp
  simp only [ho, resolve, invoke, builtin, Sem.run_bind, Sem.run_pure, Result.andThen_ok, List.map_toArray, List.map_cons, List.map_nil, hs, hx, hrun]
  exact h
theorem wpList_runApp (hgd : o.guard = none) (s x : Operand) (t u : TypeId) (ho : o.op = .call { callee := .builtin .append, args := #[s, x], argTypes := #[t, u] }) {vs vx v' : Value} (hs : a.eval s = vs) (hx : a.eval x = vx)
    (hrun : (Builtin.append_ #[t, u] o.type #[vs, vx]).run P w = .ok v' w') (h : wpList P ops Q rest (a.put o.dst v') w') : wpList P ops Q (o :: rest) a w :=
  wpList_plain hgd fun _ hK => wp_runApp s x t u ho hs hx hrun (hK _ _ h)
theorem step_runApp (hgd : o.guard = none) (s x : Operand) (t u : TypeId) (ho : o.op = .call { callee := .builtin .append, args := #[s, x], argTypes := #[t, u] }) {vs vx v' : Value} (hs : a.eval s = vs) (hx : a.eval x = vx)
    (hrun : (Builtin.append_ #[t, u] o.type #[vs, vx]).run P w = .ok v' w') (h : K (a.put o.dst v') w') : if Region.wanted o (yielded ops a.tmps) = true then Oper.wp P o a w K Q else E := by
  have hw : Region.wanted o (yielded ops a.tmps) = true := by simp [Region.wanted, hgd]
  rw [if_pos hw]
  exact wp_runApp s x t u ho hs hx hrun h
end

theorem OwnW.kept {w w' : World} {base : Nat} {u : Value} {xs : List Nat} {row : Option Nat} (h : OwnW w base u xs) (hg : w.grownBy w' row) (hne : u.ownBlock = none ∨ u.ownBlock ≠ row) : OwnW w' base u xs := ⟨h.row.kept hg hne, h.lt⟩
theorem OwnW.not_row {w : World} {base base' : Nat} {u v : Value} {xs : List Nat} {n : Nat} {cs : List Value} (h : OwnW w base u xs) (hr : w.ownsRow base' 39 2 v n cs) : u.ownBlock = none ∨ u.ownBlock ≠ v.ownBlock := by
  cases hv : v.ownBlock with
  | none => cases hu : u.ownBlock <;> simp
  | some b => exact .inr (h.blk_ne hr hv)

/-- The entries behind an append: a row that holds them, the old values kept, the new one. -/
theorem OwnEs.snoc {w w' : World} {base base' : Nat} {v' u : Value} {es : List Ent} {us : List Value} {e : Ent} {row : Option Nat} (hlen : us.length = es.length)
    (hval : ∀ (i : Nat) (e : Ent) (u : Value), es[i]? = some e → us[i]? = some u → OwnW w base u e.v ∧ e.key < 4294967296) (hl : Lone us)
    (hrow : w'.ownsRow base' 39 2 v' (es.length + 1) (entCells es us ++ [.int .u32 (e.key : Int), u])) (hb : base ≤ base') (hg : w.grownBy w' row) (hne : ∀ u' ∈ us ++ [u], u'.ownBlock = none ∨ u'.ownBlock ≠ row)
    (hu : OwnW w base u e.v) (hk : e.key < 4294967296) (hlone : ∀ (i : Nat) (u' : Value) (b : Nat), us[i]? = some u' → u.ownBlock = some b → u'.ownBlock ≠ some b) : OwnEs w' base v' (es ++ [e]) (us ++ [u]) := by
  refine ⟨by simp [hlen], ?_, fun i e' u' he hu' => ?_, fun i j x y b hij hx hy hb' => ?_⟩
  · rw [entCells_append hlen, List.length_append]
    exact own_mono hrow hb
  · rcases Nat.lt_or_ge i es.length with hi | hi
    · rw [List.getElem?_append_left hi] at he
      rw [List.getElem?_append_left (by omega)] at hu'
      obtain ⟨h1, h2⟩ := hval i e' u' he hu'
      exact ⟨h1.kept hg (hne u' (List.mem_append_left _ (List.mem_of_getElem? hu'))), h2⟩
    · have h1 := (List.getElem?_eq_some_iff.1 he).1
      simp at h1
      obtain rfl : i = es.length := by omega
      rw [List.getElem?_append_right (by omega)] at he hu'
      simp [hlen] at he hu'
      subst he
      subst hu'
      exact ⟨hu.kept hg (hne u (by simp)), hk⟩
  · have hi := (List.getElem?_eq_some_iff.1 hx).1
    have hj := (List.getElem?_eq_some_iff.1 hy).1
    simp at hi hj
    rcases Nat.lt_or_ge i us.length with h1 | h1
    · rw [List.getElem?_append_left h1] at hx
      rcases Nat.lt_or_ge j us.length with h2 | h2
      · rw [List.getElem?_append_left h2] at hy
        exact hl i j x y b hij hx hy hb'
      · obtain rfl : j = us.length := by omega
        rw [List.getElem?_append_right (by omega)] at hy
        simp at hy
        subst hy
        intro hyb
        exact hlone i x b hx hyb hb'
    · obtain rfl : i = us.length := by omega
      rw [List.getElem?_append_right (by omega)] at hx
      simp at hx
      subst hx
      rw [List.getElem?_append_left (by omega)] at hy
      exact hlone j y b hy hb'

theorem pair_cells {w : World} {ad : Addr} {x y : Value} (h0 : w.cell? ad = some x) (h1 : w.cell? (ad.add 1) = some y) : ∀ (j : Nat) (u : Value), [x, y][j]? = some u → w.cell? (ad.add j) = some u := by
  intro j u hu
  match j with
  | 0 => cases hu; rw [show ad.add 0 = ad from rfl]; exact h0
  | 1 => cases hu; exact h1
  | j + 2 => simp at hu

/-- append onto a row of the call's own. -/
theorem run_appEnt {w : World} {base : Nat} {v u : Value} {es : List Ent} {us : List Value} {e : Ent} (hO : OwnEs w base v es us) (ad : Addr) (h0 : w.cell? ad = some (.int .u32 (e.key : Int))) (h1 : w.cell? (ad.add 1) = some u)
    (hu : OwnW w base u e.v) (hk : e.key < 4294967296) (hlone : ∀ (i : Nat) (u' : Value) (b : Nat), us[i]? = some u' → u.ownBlock = some b → u'.ownBlock ≠ some b) (hl : es.length ≤ 1048576) (hbase : base ≤ w.heap.size) :
    ∃ v' w', (Builtin.append_ #[24, 24] 24 #[v, .slice (some ad) 1 1]).run prog w = .ok v' w' ∧ OwnEs w' base v' (es ++ [e]) (us ++ [u]) ∧ w.grownBy w' v.ownBlock ∧ (v'.ownBlock = v.ownBlock ∨ v'.ownBlock = some w.heap.size) := by
  obtain ⟨i, hi, hz, hs, hb⟩ := info_parts info_ent
  obtain ⟨_, c, rfl, _⟩ := hu.reads
  obtain ⟨v', w', hrun, hrow, hg, _, hat⟩ := run_append_own_at (P := prog) w base 24 24 39 i _ 2 32 underlying24 hi hz hs hb rfl (by omega) v es.length (entCells es us) hO.row ad 1 1
    [.int .u32 (e.key : Int), _] rfl (pair_cells h0 h1) (by intro x hx; simp at hx; rcases hx with rfl | rfl <;> rfl) (by simp only [maxLen]; omega) (by omega) hbase
  refine ⟨v', w', hrun, OwnEs.snoc hO.len hO.val hO.lone hrow (Nat.le_refl _) hg ?_ hu hk hlone, hg, hat⟩
  intro u' hm
  rcases List.mem_append.1 hm with hm | hm
  · obtain ⟨i, hi⟩ := List.mem_iff_getElem?.1 hm
    have hil : i < es.length := by rw [← hO.len]; exact (List.getElem?_eq_some_iff.1 hi).1
    exact (hO.val i _ u' (List.getElem?_eq_getElem hil) hi).1.not_row hO.row
  · simp at hm
    subst hm
    exact hu.not_row hO.row

theorem entCells_drop1 {es : List Ent} {us : List Value} (h : us.length = es.length) : (entCells es us).drop 2 = entCells (es.drop 1) (us.drop 1) := by
  cases es <;> cases us <;> simp [entCells] at h ⊢

/-- append onto a row that lost its first entry, and has no room. -/
theorem run_appCut {w : World} {base g n : Nat} {u : Value} {es : List Ent} {us : List Value} {e : Ent} (hO : OwnEs w base (.slice (some ⟨g, 0, none⟩) n n) es us) (hn : es.length = n) (hn0 : 0 < n) (ad : Addr) (h0 : w.cell? ad = some (.int .u32 (e.key : Int))) (h1 : w.cell? (ad.add 1) = some u)
    (hu : OwnW w base u e.v) (hk : e.key < 4294967296) (hlone : ∀ (i : Nat) (u' : Value) (b : Nat), us[i]? = some u' → u.ownBlock = some b → u'.ownBlock ≠ some b) (hl : n ≤ 1048576) (hbase : base ≤ w.heap.size) :
    ∃ v' w', (Builtin.append_ #[24, 24] 24 #[.slice (cutA (some ⟨g, 0, none⟩) n 1 2) (n - 1) (n - 1), .slice (some ad) 1 1]).run prog w = .ok v' w' ∧ OwnEs w' base v' (es.drop 1 ++ [e]) (us.drop 1 ++ [u]) ∧ w.grownBy w' none := by
  obtain ⟨i, hi, hz, hs, hb⟩ := info_parts info_ent
  obtain ⟨_, c, rfl, _⟩ := hu.reads
  have hus := hO.len
  rw [hn] at hus
  obtain ⟨b, hcut, holds⟩ : ∃ b, cutA (some ⟨g, 0, none⟩) n 1 2 = some b ∧ ∀ (j : Nat) (u : Value), (entCells (es.drop 1) (us.drop 1))[j]? = some u → w.cell? (b.add j) = some u := by
    rcases Nat.lt_or_ge 1 n with h1n | h1n
    · refine ⟨_, cutA_lt h1n, fun j x hx => ?_⟩
      rw [← entCells_drop1 hO.len, List.getElem?_drop] at hx
      rw [add_add, show 1 * 2 + j = 2 + j by omega]
      exact hO.row.cells (g := g) rfl _ _ hx
    · obtain rfl : n = 1 := by omega
      refine ⟨⟨g, 0, none⟩, by simp [cutA], fun j x hx => ?_⟩
      rw [List.drop_eq_nil_of_le (by omega)] at hx
      simp [entCells] at hx
  rw [hcut]
  have hlen : (entCells (es.drop 1) (us.drop 1)).length = (n - 1) * 2 := by rw [entCells_length (by simp [hO.len]), List.length_drop, hn]
  obtain ⟨v', w', hrun, hrow, hg⟩ := run_append_arg_grows (P := prog) w 24 24 39 i _ 2 32 underlying24 hi hz hs hb rfl (by omega) b (n - 1) (n - 1) (entCells (es.drop 1) (us.drop 1)) hlen holds ad 1 1
    [.int .u32 (e.key : Int), _] rfl (pair_cells h0 h1) (by omega) (by simp only [maxLen]; omega) (by omega)
  refine ⟨v', w', hrun, OwnEs.snoc (by simp [hO.len]) (fun i e' u' he hu' => ?_) ?_ (by rw [List.length_drop, hn]; exact hrow) hbase hg ?_ hu hk ?_, hg⟩
  · rw [List.getElem?_drop] at he hu'
    exact hO.val _ e' u' he hu'
  · intro p q x y b hpq hx hy hb
    rw [List.getElem?_drop] at hx hy
    exact hO.lone _ _ x y b (by omega) hx hy hb
  · intro u' _
    cases u'.ownBlock <;> simp
  · intro i u' b' hu' hb'
    rw [List.getElem?_drop] at hu'
    exact hlone _ u' b' hu' hb'
end Go.Proofs.Ytpmnchgpbojppaa

/- table.Set. -/
namespace Go.Proofs.Ytpmnchgpbojppaa
open Go Go.RowKit Go.Proofs.Try

/-- A word of an entry's value set anew. -/
def updE (l : List Ent) (i f x : Nat) : List Ent :=
  match l[i]? with
  | some e => l.set i { e with v := e.v.set f x }
  | none => l
def Tab.zero : Tab := ⟨⟨0, 0, 0, 0⟩, [], 0⟩
/-- The entries with a new key behind them. -/
def Tab.grow (t : Tab) (key : Nat) : List Ent :=
  (if (t.e.length : Int) = t.s.cap then t.e.drop 1 else t.e) ++ [⟨key, List.replicate t.s.words.toNat 0⟩]
def Tab.set (t : Tab) (key f x : Nat) : Tab × Int :=
  if t.keyed f = false then (Tab.zero, 1)
  else if 0 ≤ fidx key t.e 0 then ({ t with e := touch t.s.kind (updE t.e (t.idx key) f x) (t.idx key) }, 0)
  else if t.s.kind = 0 then (Tab.zero, 3)
  else if t.s.kind = 1 ∧ (t.e.length : Int) = t.s.cap then (Tab.zero, 4)
  else ({ t with e := touch t.s.kind (updE (t.grow key) ((t.grow key).length - 1) f x) ((t.grow key).length - 1) }, 0)

/-- What holds ahead of an entry's being met. -/
structure SetMid (s : Sch) (b0 b10 : Nat) (w : World) (nx f x : Nat) (T : Tab × Int) (i g n c : Nat) (es : List Ent) (us : List Value) (wx : World) : Prop where
  lt : i < n
  len : es.length = n
  small : n ≤ 1048577
  own : OwnEs wx (b0 + 1 + 1) (.slice (some ⟨g, 0, none⟩) n c) es us
  box : Blk wx b10 27 #[.int .i64 s.kind, .int .i64 s.cap, .int .i64 s.words, .int .i64 s.ver, .slice (some ⟨g, 0, none⟩) n c, .int .u32 (nx : Int)]
  res : Blk wx (b0 + 1) 27 #[.int .i64 0, .int .i64 0, .int .i64 0, .int .i64 0, .slice none 0 0, .int .u32 0]
  below : Below b0 w wx
  ne : g ≠ b10
  spec : T = (⟨s, touch s.kind (updE es i f x) i, nx⟩, 0)
  word : ∀ e, es[i]? = some e → f < e.v.length

set_option maxRecDepth 100000 in
set_option maxHeartbeats 4000000 in
theorem set_any (s : Sch) (A : Option Addr) (n c nx key f x : Nat) (es : List Ent) (w : World) (hx : nx < 4294967296) (hf : f < 4294967296) (hk : key < 4294967296) (hxx : x < 4294967296) (hfit : fits es) (hE : kEnt.At w w.heap.size A n c es) :
    Calls prog 21 #[tabV s A n c nx, .int .u32 (key : Int), .int .u32 (f : Int), .int .u32 (x : Int)] w fun e w' => ∃ A' n' c' us, e = .returned (.tuple #[tabV (Tab.set ⟨s, es, nx⟩ key f x).1.s A' n' c' (Tab.set ⟨s, es, nx⟩ key f x).1.next, .int .i64 (Tab.set ⟨s, es, nx⟩ key f x).2]) ∧ OwnEs w' w.heap.size (.slice A' n' c') (Tab.set ⟨s, es, nx⟩ key f x).1.e us ∧ Below w.heap.size w w' := by
  have hl := Lib.hid hE.len
  obtain ⟨T, hT⟩ : ∃ T, T = Tab.set ⟨s, es, nx⟩ key f x := ⟨_, rfl⟩
  rw [← hT]
  replace hT := Lib.hid hT
  unfold tabV
  obtain ⟨W1, hW1, hB1, hS1, hG1, hO1, hP1⟩ := boxedB w _ rfl #[.int .i64 s.kind, .int .i64 s.cap, .int .i64 s.words, .int .i64 s.ver, .slice A n c, .int .u32 (nx : Int)] 27
  obtain ⟨W2, hW2, hB2, hS2, hG2, hO2, hP2⟩ := boxedB W1 _ hS1 #[.int .i64 0, .int .i64 0, .int .i64 0, .int .i64 0, .slice none 0 0, .int .u32 0] 27
  have hC1 := (hG1.below hB2 (Nat.lt_succ_self _)).cell
  have hb2 := hB1.trans (hB2.mono (Nat.le_succ _))
  clear hO1 hP1 hO2 hP2
  obtain ⟨xx, hfi, hx1⟩ : ∃ xx : Int, fidx key es 0 = xx ∧ Hid (xx = fidx key es 0) := ⟨_, rfl, rfl⟩
  replace hfi := Lib.hid hfi
  go_enter func21, ntmps21
  go_wp2_with fail
  refine (own_any s A n c nx es _ hfit (by exact (hE.below hb2).mono (by omega))).mono ?_
  rintro e1 w3 ⟨A', us, rfl, hown, hb3⟩
  rw [hS2] at hown hb3
  have hs3 := hb3.size
  have hb03 := hb2.trans (hb3.mono (by omega))
  obtain ⟨W4, hW4, hB4, hS4, hG4, hO4, hP4⟩ := boxedB w3 _ rfl #[.int .i64 s.kind, .int .i64 s.cap, .int .i64 s.words, .int .i64 s.ver, .slice A' n n, .int .u32 (nx : Int)] 27
  have hC4 := hG4.cell
  have hb04 := hb03.trans (hB4.mono (by omega))
  clear hO4 hP4
  unfold tabV
  have hE3 := hown.at_
  have hE4 := (hE3.below hB4).mono (B' := W4.heap.size) (by omega)
  go_wp2_with fail
  refine (find_any s A' n n nx key es _ W4.heap.size (by omega) hE4).mono ?_
  rintro e1 w5 ⟨rfl, hb5⟩
  rw [hfi.out]
  have hs5 := hb5.size
  have hG15 := (((hG1.below hB2 (Nat.lt_succ_self _)).below hb3 (by omega)).below hB4 (by omega)).below hb5 (by omega)
  have hC15 := hG15.cell
  have hG45 := hG4.below hb5 (by omega)
  have hC45 := hG45.cell
  have hb05 := hb04.trans (hb5.mono (by omega))
  go_upto_block 0 with fail
  go_cut [11, 12] (fun s11 s12 wx => ∃ (i g n1 c1 : Nat) (es1 : List Ent) (us1 : List Value), s11 = .int .i64 (i : Int) ∧ SetMid s w.heap.size w3.heap.size w nx f x T i g n1 c1 es1 us1 wx)
  case first =>
    go_wp2_with fail
    refine (words_tab s A n c nx f es _ hx hf (by exact (hE.below hb05).mono (by omega))).mono ?_
    rintro e1 w6 ⟨rfl, hb6⟩
    have hs6 := hb6.size
    have hG46 := hG45.below hb6 (by omega)
    have hC46 := hG46.cell
    have hG26 := (((hG2.below hb3 (by omega)).below hB4 (by omega)).below hb5 (by omega)).below hb6 (by omega)
    have hC26 := hG26.cell
    have hF26 := hG26.frozen
    have hb06 := hb05.trans (hb6.mono (by omega))
    have hO6 := ((hown.below hB4).below (hb5.mono (by omega))).below (hb6.mono (by omega))
    rcases hkd : Tab.keyed ⟨s, es, nx⟩ f with _ | _
    · have hTv : T = (Tab.zero, 1) := by rw [hT.out]; simp [Tab.set, hkd]
      replace hTv := Lib.hid hTv
      have hr7 := hG26.setBox [.int .i64 0, .int .i64 0, .int .i64 0, .int .i64 0, .slice none 0 0, .int .u32 0] rfl
      have ho7 := setAll_only (w.heap.size + 1) [.int .i64 0, .int .i64 0, .int .i64 0, .int .i64 0, .slice none 0 0, .int .u32 0] 0 w6
      have hb7 := Only.below hb06 ho7 (by omega) (by omega)
      go_wp2_with fail
      refine bodyPost_ret (results_ct results21 rfl hr7 underlying27 rfl (by kernel_rfl)) rfl ?_
      rw [hTv.out]
      exact ⟨none, 0, 0, [], rfl, OwnEs.nil_ _ _, hb7⟩
    obtain ⟨hmay, hk3, hfw⟩ := Tab.keyed_may hkd
    simp only at hk3 hfw
    have hsch := Sch.may_bounds (Tab.may_sch hmay)
    simp only at hsch
    have hlen := Tab.may_len hmay
    simp only [hl.out] at hlen
    by_cases hpos : 0 ≤ fidx key es 0
    · obtain ⟨hxi, hil⟩ := fidx_nat hpos
      obtain ⟨i, hii⟩ : ∃ i, i = (fidx key es 0).toNat := ⟨_, rfl⟩
      rw [← hii] at hxi hil
      have hxi' : xx = (i : Int) := hx1.out.trans hxi
      subst hxi'
      have hin : i < n := by rw [← hl.out]; exact hil
      have hxm : ((i : Int) != -1) = true := by simp
      have hTv : T = (⟨s, touch s.kind (updE es i f x) i, nx⟩, 0) := by rw [hT.out]; simp [Tab.set, hkd, hpos, Tab.idx, ← hii]
      replace hTv := Lib.hid hTv
      obtain ⟨g, rfl, hg1, hg2, _⟩ := hown.block (by omega)
      have hwd : ∀ e, es[i]? = some e → f < e.v.length := by
        intro e he
        have := ((Tab.elOk_iff _ _ _).1 ((Tab.may_iff _).1 hmay |>.2 i e he)).1
        simp only at this
        omega
      replace hwd := Lib.hid hwd
      have hn16 : n ≤ 1048577 := by omega
      clear hpos hxi hii hx1 hmay hfi
      go_wp2_with fail
      go_meet
      exact ⟨i, g, n, n, es, us, rfl, hin, hl.out, hn16, hO6, hG46, hG26, hb06, by omega, hTv.out, hwd.out⟩
    have hxm : (xx != -1) = false := by
      have := fidx_lt key es 0
      have := hx1.out
      simp
      omega
    by_cases hk0 : s.kind = 0
    · have hTv : T = (Tab.zero, 3) := by rw [hT.out]; simp [Tab.set, hkd, hpos, hk0]
      replace hTv := Lib.hid hTv
      have hk0' : (s.kind == 0) = true := by simp [hk0]
      clear hk0 hpos
      have hr7 := hG26.setBox [.int .i64 0, .int .i64 0, .int .i64 0, .int .i64 0, .slice none 0 0, .int .u32 0] rfl
      have ho7 := setAll_only (w.heap.size + 1) [.int .i64 0, .int .i64 0, .int .i64 0, .int .i64 0, .slice none 0 0, .int .u32 0] 0 w6
      have hb7 := Only.below hb06 ho7 (by omega) (by omega)
      go_wp2_with fail
      refine bodyPost_ret (results_ct results21 rfl hr7 underlying27 rfl (by kernel_rfl)) rfl ?_
      rw [hTv.out]
      exact ⟨none, 0, 0, [], rfl, OwnEs.nil_ _ _, hb7⟩
    have hk0' : (s.kind == 0) = false := by simp [hk0]
    by_cases hk1 : s.kind = 1 ∧ (n : Int) = s.cap
    · have hTv : T = (Tab.zero, 4) := by rw [hT.out]; simp [Tab.set, hkd, hpos, hk1.1, hl.out, hk1.2]
      replace hTv := Lib.hid hTv
      have hk1' : (s.kind == 1) = true := by simp [hk1.1]
      have hf1' : ((n : Int) == s.cap) = true := by simp [hk1.2]
      clear hk0 hpos hk1
      have hr7 := hG26.setBox [.int .i64 0, .int .i64 0, .int .i64 0, .int .i64 0, .slice none 0 0, .int .u32 0] rfl
      have ho7 := setAll_only (w.heap.size + 1) [.int .i64 0, .int .i64 0, .int .i64 0, .int .i64 0, .slice none 0 0, .int .u32 0] 0 w6
      have hb7 := Only.below hb06 ho7 (by omega) (by omega)
      go_wp2_with fail
      refine bodyPost_ret (results_ct results21 rfl hr7 underlying27 rfl (by kernel_rfl)) rfl ?_
      rw [hTv.out]
      exact ⟨none, 0, 0, [], rfl, OwnEs.nil_ _ _, hb7⟩
    obtain ⟨m, hm⟩ : ∃ m : Nat, s.words = (m : Int) := ⟨s.words.toNat, by omega⟩
    have hm4 : m ≤ 4 := by omega
    have hmk : ∀ W : World, (Instr.makeSlice 36 (.int .i64 s.words) (.int .i64 s.words)).run prog W = .ok (.slice (some ⟨W.heap.size, 0, none⟩) m m) (W.alloc (.cells (madeCells #[.int .u32 0] m) 25)) := by
      intro W
      rw [hm]
      have := run_makeN (P := prog) 36 25 _ 1 4 underlying36 info_u32 m (by omega) (by omega) W
      rw [Nat.mul_one] at this
      exact this
    have hmt : s.words.toNat = m := by omega
    have hgrow := Lib.hid (show Tab.grow ⟨s, es, nx⟩ key = (if (es.length : Int) = s.cap then es.drop 1 else es) ++ [⟨key, List.replicate s.words.toNat 0⟩] from rfl)
    have hTg : T = (⟨s, touch s.kind (updE (Tab.grow ⟨s, es, nx⟩ key) ((Tab.grow ⟨s, es, nx⟩ key).length - 1) f x) ((Tab.grow ⟨s, es, nx⟩ key).length - 1), nx⟩, 0) := by
      rw [hT.out]
      unfold Tab.set
      rw [if_neg (by simp [hkd]), if_neg (by simpa using hpos), if_neg (by simpa using hk0), if_neg (by simpa [hl.out] using hk1)]
    replace hTg := Lib.hid hTg
    have hfm : f < m := by omega
    have hcap1 := hsch.2.2.1
    replace hm := Lib.hid hm
    by_cases hfull : (n : Int) = s.cap
    case neg =>
      have hf1' : ((n : Int) == s.cap) = false := by simp [hfull]
      have hn15 : n ≤ 15 := by omega
      obtain ⟨W7, hW7, hB7, hS7, hG7, hO7, hP7⟩ := boxedB w6 _ rfl (madeCells #[.int .u32 0] m) 25
      obtain ⟨W8, hW8, hB8, hS8, hG8, hO8, hP8⟩ := boxedB W7 _ hS7 #[.int .u32 (key : Int), .slice (some ⟨w6.heap.size, 0, none⟩) m m] 39
      have hB68 := hB7.trans (hB8.mono (Nat.le_succ _))
      have hown8 := hO6.below hB68
      have hG78 := hG7.below hB8 (Nat.lt_succ_self _)
      have hu8 := OwnW.made (base := w.heap.size + 1 + 1) hG78 (by omega) (by simp only [maxLen]; omega)
      have hC8 := hG8.cell
      obtain ⟨v9, w9, hrun, hO9, hg9, hat9⟩ := run_appEnt (w := W8.drew) (e := ⟨key, List.replicate m 0⟩) (hown8.below (below_drewN (Below.refl _ _) 1)) ⟨w6.heap.size + 1, 0, none⟩ ((hC8 0).trans rfl) (by rw [add_lit0]; exact (hC8 1).trans rfl)
        (hu8.below (below_drewN (Below.refl _ _) 1)) hk (fun i u' b hu' hb hb' => by
          have hil : i < es.length := by rw [← hO6.len]; exact (List.getElem?_eq_some_iff.1 hu').1
          have := ((hO6.val i _ u' (List.getElem?_eq_getElem hil) hu').1.row.lt b hb').2
          simp only [Value.ownBlock, Option.some.injEq] at hb
          omega) (by rw [hl.out]; omega) (show w.heap.size + 1 + 1 ≤ W8.heap.size by omega)
      have hE9 := hO9.reads
      obtain ⟨A9, c9, rfl, _⟩ := hE9
      obtain ⟨g9, rfl, hg9b, hg9l, _⟩ := hO9.block (by simp)
      have hln : (es ++ [Ent.mk key (List.replicate m 0)]).length = n + 1 := by simp [hl.out]
      rw [hln] at hrun hO9 hat9
      have hb4 : w3.heap.size < W8.heap.size := by omega
      have hne9 : ∀ b, b < w3.heap.size + 1 → w3.heap.size ≤ b ∨ b = w.heap.size + 1 ∨ b < w.heap.size → some b ≠ (Value.slice A' n n).ownBlock := by
        intro b hb hb' he
        have := (hown.row.lt b (by rw [he])).2
        have := (hown.row.lt b (by rw [he])).1
        omega
      have hG49 : Blk w9 w3.heap.size _ _ := ((hG46.below hB68 (by omega)).drew).grown hg9 (hne9 _ (by omega) (by omega))
      have hG29 : Blk w9 (w.heap.size + 1) _ _ := ((hG26.below hB68 (by omega)).drew).grown hg9 (hne9 _ (by omega) (by omega))
      have hC49 := hG49.cell
      have hF49 := hG49.frozen
      have hb09 : Below w.heap.size w w9 := (Below.drew (hb06.trans (hB68.mono (by omega)))).grown hg9 (show w.heap.size ≤ W8.heap.size by omega) (fun b hb => by have := (hown.row.lt b hb).1; omega)
      obtain ⟨W10, hW10, ho10, hs10, hG10, hO10, hP10⟩ := storedB hG49 4 (.slice (some ⟨g9, 0, none⟩) (n + 1) c9)
      have hC10 := hG10.cell
      have hb010 := Only.below hb09 ho10 (by omega) (by have := hg9.size; simp at this; omega)
      have hgrn : Tab.grow ⟨s, es, nx⟩ key = es ++ [⟨key, List.replicate m 0⟩] := by rw [hgrow.out, if_neg (by rw [hl.out]; exact hfull), hmt]
      replace hgrn := Lib.hid hgrn
      have hCb := ((hG46.below hB68 (by omega))).cell
      have hCa := ((hG46.below hB7 (by omega))).cell
      have hwd : ∀ e, (es ++ [Ent.mk key (List.replicate m 0)])[n]? = some e → f < e.v.length := by
        intro e he
        rw [List.getElem?_append_right (by rw [hl.out]; exact Nat.le_refl _), hl.out] at he
        simp at he
        subst he
        simp
        exact hfm
      have hTv : T = (⟨s, touch s.kind (updE (es ++ [Ent.mk key (List.replicate m 0)]) n f x) n, nx⟩, 0) := by
        rw [hTg.out, hgrn.out, hln]
        rfl
      replace hTv := Lib.hid hTv
      replace hwd := Lib.hid hwd
      have hmid : SetMid s w.heap.size w3.heap.size w nx f x T n g9 (n + 1) c9 (es ++ [Ent.mk key (List.replicate m 0)]) (us ++ [Value.slice (some ⟨w6.heap.size, 0, none⟩) m m]) W10 :=
        ⟨by omega, hln, by omega, hO9.box hG49 ho10 (by decide) (by decide), hG10, hG29.grown ho10 (by simp; omega), hb010, hO9.ne_box hG49 (by decide), hTv.out, hwd.out⟩
      replace hmid := Lib.hid hmid
      rcases hk1b : (s.kind == 1) with _ | _
      all_goals
        clear hO10 hP10 hO7 hP7 hO8 hP8
        go_wp2_with fail
        go_region_law (refine step_runApp rfl _ _ _ _ rfl rfl rfl hrun ?_)
        all_goals
          go_wp2_with fail
          go_meet
          exact ⟨n, g9, n + 1, c9, _, _, rfl, hmid⟩
    obtain ⟨g, rfl, hg1, hg2, _⟩ := hown.block (by omega)
    have hf1' : ((n : Int) == s.cap) = true := by simp [hfull]
    have hk1b : (s.kind == 1) = false := by simp; omega
    have hn16 : n ≤ 16 := by omega
    have hn1 : 1 ≤ n := by omega
    replace hfull := Lib.hid hfull
    have hsl := run_cut (P := prog) 24 39 2 underlying24 (by kernel_rfl) (some ⟨g, 0, none⟩) n n 1 1 rfl hn1
    obtain ⟨W61, hW61, ho61, hs61, hG461, hO1_, hP1_⟩ := storedB hG46 4 (.slice (cutA (some ⟨g, 0, none⟩) n 1 2) (n - 1) (n - 1))
    have hO61 := hO6.box hG46 ho61 (by decide) (by decide)
    have hG261 := hG26.grown ho61 (by simp; omega)
    have hC461 := hG461.cell
    have hF46 := hG46.frozen
    have hb061 := Only.below hb06 ho61 (by omega) (by omega)
    obtain ⟨W7, hW7, hB7, hS7, hG7, hO7, hP7⟩ := boxedB W61 _ hs61 (madeCells #[.int .u32 0] m) 25
    obtain ⟨W8, hW8, hB8, hS8, hG8, hO8, hP8⟩ := boxedB W7 _ hS7 #[.int .u32 (key : Int), .slice (some ⟨w6.heap.size, 0, none⟩) m m] 39
    have hB68 := hB7.trans (hB8.mono (Nat.le_succ _))
    have hown8 := hO61.below (hs61 ▸ hB68)
    have hG78 := hG7.below hB8 (Nat.lt_succ_self _)
    have hu8 := OwnW.made (base := w.heap.size + 1 + 1) hG78 (by omega) (by simp only [maxLen]; omega)
    have hC8 := hG8.cell
    obtain ⟨v9, w9, hrun, hO9, hg9⟩ := run_appCut (w := W8.drew) (e := ⟨key, List.replicate m 0⟩) (hown8.below (below_drewN (Below.refl _ _) 1)) hl.out (by omega) ⟨w6.heap.size + 1, 0, none⟩ ((hC8 0).trans rfl) (by rw [add_lit0]; exact (hC8 1).trans rfl)
      (hu8.below (below_drewN (Below.refl _ _) 1)) hk (fun i u' b hu' hb hb' => by
        have hil : i < es.length := by rw [← hO6.len]; exact (List.getElem?_eq_some_iff.1 hu').1
        have := ((hO6.val i _ u' (List.getElem?_eq_getElem hil) hu').1.row.lt b hb').2
        simp only [Value.ownBlock, Option.some.injEq] at hb
        omega) (by omega) (show w.heap.size + 1 + 1 ≤ W8.heap.size by omega)
    have hE9 := hO9.reads
    obtain ⟨A9, c9, rfl, _⟩ := hE9
    obtain ⟨g9, rfl, hg9b, hg9l, _⟩ := hO9.block (by simp)
    have hln : (es.drop 1 ++ [Ent.mk key (List.replicate m 0)]).length = n := by simp [hl.out]; omega
    rw [hln] at hrun hO9
    have hb4 : w3.heap.size < W8.heap.size := by omega
    have hG49 := ((hG461.below hB68 (by omega)).drew).grown hg9 (by simp)
    have hG29 := ((hG261.below hB68 (by omega)).drew).grown hg9 (by simp)
    have hC49 := hG49.cell
    have hF49 := hG49.frozen
    have hb09 : Below w.heap.size w w9 := (Below.drew (hb061.trans (hB68.mono (by omega)))).grown hg9 (show w.heap.size ≤ W8.heap.size by omega) (fun b hb => by cases hb)
    obtain ⟨W10, hW10, ho10, hs10, hG10, hO10, hP10⟩ := storedB hG49 4 (.slice (some ⟨g9, 0, none⟩) n c9)
    have hC10 := hG10.cell
    have hb010 := Only.below hb09 ho10 (by omega) (by have := hg9.size; simp at this; omega)
    have hgrn : Tab.grow ⟨s, es, nx⟩ key = es.drop 1 ++ [⟨key, List.replicate m 0⟩] := by rw [hgrow.out, if_pos (by rw [hl.out]; exact hfull.out), hmt]
    replace hgrn := Lib.hid hgrn
    have hCb := ((hG461.below hB68 (by omega))).cell
    have hCa := ((hG461.below hB7 (by omega))).cell
    have hwd : ∀ e, (es.drop 1 ++ [Ent.mk key (List.replicate m 0)])[n - 1]? = some e → f < e.v.length := by
      intro e he
      have hdl : (es.drop 1).length = n - 1 := by rw [List.length_drop, hl.out]
      rw [List.getElem?_append_right (by rw [hdl]; exact Nat.le_refl _), hdl, Nat.sub_self] at he
      simp at he
      subst he
      simp
      exact hfm
    have hTv : T = (⟨s, touch s.kind (updE (es.drop 1 ++ [Ent.mk key (List.replicate m 0)]) (n - 1) f x) (n - 1), nx⟩, 0) := by
      rw [hTg.out, hgrn.out, hln]
    replace hTv := Lib.hid hTv
    replace hwd := Lib.hid hwd
    have hmid : SetMid s w.heap.size w3.heap.size w nx f x T (n - 1) g9 n c9 (es.drop 1 ++ [Ent.mk key (List.replicate m 0)]) (us.drop 1 ++ [Value.slice (some ⟨w6.heap.size, 0, none⟩) m m]) W10 :=
      ⟨by omega, hln, by omega, hO9.box hG49 ho10 (by decide) (by decide), hG10, hG29.grown ho10 (by simp; omega), hb010, hO9.ne_box hG49 (by decide), hTv.out, hwd.out⟩
    replace hmid := Lib.hid hmid
    clear hO10 hP10 hO7 hP7 hO8 hP8 hO1_ hP1_
    go_wp2_with fail
    go_region_law (refine step_runApp rfl _ _ _ _ rfl rfl rfl hrun ?_)
    all_goals
      go_wp2_with fail
      go_meet
      exact ⟨n - 1, g9, n, c9, _, _, by rw [show ((n : Int) - 1) = ((n - 1 : Nat) : Int) by omega], hmid⟩
  case rest =>
    obtain ⟨i, g, n1, c1, es1, us1, rfl, hm⟩ := hcut
    have hC4c := hm.box.cell
    have hwc := hm.below
    have hgl : g < wc.heap.size := by
      obtain ⟨g', hg', _, hlt, _⟩ := hm.own.block (by have := hm.lt; omega)
      cases hg'
      exact hlt
    have hgb : w.heap.size + 1 + 1 ≤ g := by
      obtain ⟨g', hg', hlt, _⟩ := hm.own.block (by have := hm.lt; omega)
      cases hg'
      exact hlt
    have hbox := hm.box.lt
    have hres := hm.res
    have hne := hm.ne
    have hmO := Lib.hid hm.own
    have hil : i < es1.length := by rw [hm.len]; exact hm.lt
    have hiu : i < us1.length := by rw [hm.own.len]; exact hil
    obtain ⟨e, he⟩ : ∃ e, es1[i]? = some e := ⟨_, List.getElem?_eq_getElem hil⟩
    obtain ⟨u, hu⟩ : ∃ u, us1[i]? = some u := ⟨_, List.getElem?_eq_getElem hiu⟩
    have hfe := hm.word e he
    obtain ⟨y, hy⟩ : ∃ y, e.v[f]? = some y := ⟨_, List.getElem?_eq_getElem hfe⟩
    have hfl : (f : Int) < (e.v.length : Int) := by omega
    go_wp2_with fail
    refine (last_any s g n1 c1 nx i es1 us1 _ (w.heap.size + 1 + 1) hm.own hm.len hm.lt).mono ?_
    rintro e1 w7 ⟨rfl, ho7, hO7⟩
    have hs7 := ho7.size
    have hj0 := tpos_lt (kind := s.kind) hm.lt
    have he7 : (touch s.kind es1 i)[tpos s.kind n1 i]? = some e := by rw [← hm.len, touch_get hil, he]
    have hu7 : (touch s.kind us1 i)[tpos s.kind n1 i]? = some u := by rw [← hm.len, ← hm.own.len, touch_get hiu, hu]
    have hspec : touch s.kind (updE es1 i f x) i = (touch s.kind es1 i).set (tpos s.kind n1 i) { e with v := e.v.set f x } := by
      rw [← hm.len, touch_set hil]
      simp [updE, he]
    replace hspec := Lib.hid hspec
    obtain ⟨j, hj⟩ : ∃ j, tpos s.kind n1 i = j := ⟨_, rfl⟩
    rw [hj] at he7 hu7 hspec hj0 ⊢
    clear hj
    obtain ⟨c0, c1'⟩ := hO7.cells_ he7 hu7
    obtain ⟨hval, _⟩ := hO7.val j e u he7 hu7
    obtain ⟨gu, cu, rfl, hgu1, hgu2, hcu, hcw, hfz⟩ := hval.cells_ hy
    have hG47 := hm.box.grown ho7 (by simp; omega)
    have hG27 := hm.res.grown ho7 (by simp; omega)
    have hgu4 := hval.ne_blk hG47 (by decide)
    have hC47 := hG47.cell
    have hji : (j : Int) < (n1 : Int) := by omega
    have hO8 := hO7.setWord he7 hu7 hxx (f := f)
    obtain ⟨W8, hW8⟩ : ∃ W, w7.setCell ⟨gu, f, none⟩ (.int .u32 (x : Int)) = W := ⟨_, rfl⟩
    rw [hW8] at hO8
    have ho8 : Only gu w7 W8 := by rw [← hW8]; exact Only.setCell _ _ _ _
    have hs8 := ho8.size
    have hG48 := hG47.grown ho8 (by simp; omega)
    have hG28 := hG27.grown ho8 (by simp; omega)
    have hC48 := hG48.cell
    have hC28 := hG28.cell
    have hF28 := hG28.frozen
    have hr9 := hG28.setBox [.int .i64 s.kind, .int .i64 s.cap, .int .i64 s.words, .int .i64 s.ver, .slice (some ⟨g, 0, none⟩) n1 c1, .int .u32 (nx : Int)] rfl
    have ho9 := setAll_only (w.heap.size + 1) [.int .i64 s.kind, .int .i64 s.cap, .int .i64 s.words, .int .i64 s.ver, .slice (some ⟨g, 0, none⟩) n1 c1, .int .u32 (nx : Int)] 0 W8
    have hb9 := Only.below (Only.below (Only.below hm.below ho7 (by omega) (by have := hm.below.size; omega)) ho8 (by omega) (by have := hm.below.size; omega)) ho9 (by omega) (by have := hm.below.size; omega)
    have hO9 := (hO8.far ho9 (by omega)).mono (show w.heap.size ≤ w.heap.size + 1 + 1 by omega)
    have hsp := Lib.hid hm.spec
    clear he hu he7 hu7 hy hC4c c0
    clear hm
    go_wp2_with fail
    refine bodyPost_ret (results_ct results21 rfl hr9 underlying27 rfl (by kernel_rfl)) rfl ?_
    rw [hsp.out]
    refine ⟨some ⟨g, 0, none⟩, n1, c1, touch s.kind us1 i, rfl, ?_, hb9⟩
    simp only
    rw [hspec.out]
    exact hO9
end Go.Proofs.Ytpmnchgpbojppaa

/- table.New. -/
namespace Go.Proofs.Ytpmnchgpbojppaa
open Go Go.RowKit Go.Proofs.Try

def newEs (k m : Nat) : List Ent := (List.range k).map fun i => ⟨i, List.replicate m 0⟩
theorem newEs_succ (k m : Nat) : newEs (k + 1) m = newEs k m ++ [⟨k, List.replicate m 0⟩] := by simp [newEs, List.range_succ]
theorem newEs_length (k m : Nat) : (newEs k m).length = k := by simp [newEs]
theorem newEs_zero (m : Nat) : newEs 0 m = [] := rfl
def Tab.new (s : Sch) : Tab × Int :=
  if s.may = false then (Tab.zero, 1) else (⟨s, if s.kind = 0 then newEs s.cap.toNat s.words.toNat else [], 0⟩, 0)

/-- The loop's relation. -/
structure NewRel (s : Sch) (b0 b4 m : Nat) (w : World) (k : Nat) (A : Option Addr) (c : Nat) (us : List Value) (wr : World) : Prop where
  own : OwnEs wr (b0 + 1 + 1) (.slice A k c) (newEs k m) us
  box : Blk wr b4 27 #[.int .i64 s.kind, .int .i64 s.cap, .int .i64 s.words, .int .i64 s.ver, .slice A k c, .int .u32 0]
  res : Blk wr (b0 + 1) 27 #[.int .i64 0, .int .i64 0, .int .i64 0, .int .i64 0, .slice none 0 0, .int .u32 0]
  par : Blk wr b0 23 #[.int .i64 s.kind, .int .i64 s.cap, .int .i64 s.words, .int .i64 s.ver]
  below : Below b0 w wr

set_option maxRecDepth 100000 in
set_option maxHeartbeats 4000000 in
theorem new_any (s : Sch) (w : World) :
    Calls prog 24 #[.agg #[.int .i64 s.kind, .int .i64 s.cap, .int .i64 s.words, .int .i64 s.ver]] w fun e w' => ∃ A' n' c' us, e = .returned (.tuple #[tabV (Tab.new s).1.s A' n' c' (Tab.new s).1.next, .int .i64 (Tab.new s).2]) ∧ OwnEs w' w.heap.size (.slice A' n' c') (Tab.new s).1.e us ∧ Below w.heap.size w w' := by
  obtain ⟨T, hT⟩ : ∃ T, T = Tab.new s := ⟨_, rfl⟩
  rw [← hT]
  replace hT := Lib.hid hT
  obtain ⟨W1, hW1, hB1, hS1, hG1, hO1, hP1⟩ := boxedB w _ rfl #[.int .i64 s.kind, .int .i64 s.cap, .int .i64 s.words, .int .i64 s.ver] 23
  obtain ⟨W2, hW2, hB2, hS2, hG2, hO2, hP2⟩ := boxedB W1 _ hS1 #[.int .i64 0, .int .i64 0, .int .i64 0, .int .i64 0, .slice none 0 0, .int .u32 0] 27
  have hC1 := (hG1.below hB2 (Nat.lt_succ_self _)).cell
  have hb2 := hB1.trans (hB2.mono (Nat.le_succ _))
  clear hO1 hP1 hO2 hP2
  go_enter func24, ntmps24
  go_wp2_with fail
  refine (schMay_any _ _ _ _ _).mono ?_
  rintro e1 w3 ⟨rfl, hb3⟩
  rw [hS2] at hb3
  have hs3 := hb3.size
  have hG13 := (hG1.below hB2 (Nat.lt_succ_self _)).below hb3 (by omega)
  have hC13 := hG13.cell
  have hG23 := hG2.below hb3 (by omega)
  have hC23 := hG23.cell
  have hF23 := hG23.frozen
  have hb03 := hb2.trans (hb3.mono (by omega))
  rcases hm : Sch.may ⟨s.kind, s.cap, s.words, s.ver⟩ with _ | _
  · have hTv : T = (Tab.zero, 1) := by
      rw [hT.out]
      unfold Tab.new
      rw [if_pos (by exact hm)]
    replace hTv := Lib.hid hTv
    have hr7 := hG23.setBox [.int .i64 0, .int .i64 0, .int .i64 0, .int .i64 0, .slice none 0 0, .int .u32 0] rfl
    have ho7 := setAll_only (w.heap.size + 1) [.int .i64 0, .int .i64 0, .int .i64 0, .int .i64 0, .slice none 0 0, .int .u32 0] 0 w3
    have hb7 := Only.below hb03 ho7 (by omega) (by omega)
    go_wp2_with fail
    refine bodyPost_ret (results_ct results24 rfl hr7 underlying27 rfl (by kernel_rfl)) rfl ?_
    rw [hTv.out]
    exact ⟨none, 0, 0, [], rfl, OwnEs.nil_ _ _, hb7⟩
  have hsch := Sch.may_bounds hm
  simp only at hsch
  obtain ⟨m, hmw⟩ : ∃ m : Nat, s.words = (m : Int) := ⟨s.words.toNat, by omega⟩
  obtain ⟨cp, hcp⟩ : ∃ cp : Nat, s.cap = (cp : Int) := ⟨s.cap.toNat, by omega⟩
  have hm4 : m ≤ 4 := by omega
  have hc16 : cp ≤ 16 := by omega
  have hTg : T = (⟨s, if s.kind = 0 then newEs cp m else [], 0⟩, 0) := by
    rw [hT.out]
    unfold Tab.new
    rw [if_neg (by rw [show s.may = true from hm]; simp), show s.cap.toNat = cp by omega, show s.words.toNat = m by omega]
  replace hTg := Lib.hid hTg
  have hmk : ∀ W : World, (Instr.makeSlice 36 (.int .i64 s.words) (.int .i64 s.words)).run prog W = .ok (.slice (some ⟨W.heap.size, 0, none⟩) m m) (W.alloc (.cells (madeCells #[.int .u32 0] m) 25)) := by
    intro W
    rw [hmw]
    have := run_makeN (P := prog) 36 25 _ 1 4 underlying36 info_u32 m (by omega) (by omega) W
    rw [Nat.mul_one] at this
    exact this
  obtain ⟨W4, hW4, hB4, hS4, hG4, hO4, hP4⟩ := boxedB w3 _ rfl #[.int .i64 s.kind, .int .i64 s.cap, .int .i64 s.words, .int .i64 s.ver, .slice none 0 0, .int .u32 0] 27
  obtain ⟨W5, hW5, ho5, hs5, hG5, hO5, hP5⟩ := storedB hG4 4 (.slice none 0 0)
  obtain ⟨W6, hW6, ho6, hs6, hG6, hO6, hP6⟩ := storedB hG5 5 (.int .u32 0)
  have hG6 : Blk W6 w3.heap.size 27 #[.int .i64 s.kind, .int .i64 s.cap, .int .i64 s.words, .int .i64 s.ver, .slice none 0 0, .int .u32 0] := hG6
  have hb04 := Only.below (Only.below (hb03.trans (hB4.mono (by omega))) ho5 (by omega) (by omega)) ho6 (by omega) (by omega)
  have hG14 := ((hG13.below hB4 (by omega)).grown ho5 (by simp; omega)).grown ho6 (by simp; omega)
  have hG24 := ((hG23.below hB4 (by omega)).grown ho5 (by simp; omega)).grown ho6 (by simp; omega)
  have hC4 := hG4.cell
  have hF4 := hG4.frozen
  have hC5 := hG5.cell
  have hF5 := hG5.frozen
  have hC6 := hG6.cell
  have hF6 := hG6.frozen
  clear hO5 hP5 hO6 hP6
  replace hmw := Lib.hid hmw
  replace hcp := Lib.hid hcp
  clear hO4 hP4
  rcases hk0 : (s.kind == 0) with _ | _
  · have hTv : T = (⟨s, [], 0⟩, 0) := by
      rw [hTg.out, if_neg (by simpa using hk0)]
    replace hTv := Lib.hid hTv
    have hC14 := hG14.cell
    have hC24 := hG24.cell
    have hF24 := hG24.frozen
    have hr7 := hG24.setBox [.int .i64 s.kind, .int .i64 s.cap, .int .i64 s.words, .int .i64 s.ver, .slice none 0 0, .int .u32 0] rfl
    have ho7 := setAll_only (w.heap.size + 1) [.int .i64 s.kind, .int .i64 s.cap, .int .i64 s.words, .int .i64 s.ver, .slice none 0 0, .int .u32 0] 0 W6
    have hb7 := Only.below hb04 ho7 (by omega) (by omega)
    go_wp2_with fail
    go_loopw [5] (fun i wr => i = .int .i64 0 ∧ wr = W6) (fun i _ => 0)
    case atStart => exact ⟨rfl, rfl⟩
    case round =>
      obtain ⟨rfl, rfl⟩ := hrel
      go_wp2_with fail
      refine bodyPost_ret (results_ct results24 rfl hr7 underlying27 rfl (by kernel_rfl)) rfl ?_
      rw [hTv.out]
      exact ⟨none, 0, 0, [], rfl, OwnEs.nil_ _ _, hb7⟩
  have hTv : T = (⟨s, newEs cp m, 0⟩, 0) := by
    rw [hTg.out, if_pos (by simpa using hk0)]
  replace hTv := Lib.hid hTv
  have hC14 := hG14.cell
  go_wp2_with fail
  go_loopw [5] (fun i wr => ∃ k : Nat, k ≤ cp ∧ i = .int .i64 k ∧ w3.heap.size < wr.heap.size ∧ ∃ A c us, NewRel s w.heap.size w3.heap.size m w k A c us wr) (fun i _ => cp - (intOf i).toNat)
  case atStart =>
    exact ⟨0, Nat.zero_le _, rfl, by omega, none, 0, [], OwnEs.nil_ _ _, hG6, hG24, hG14, hb04⟩
  case round =>
    obtain ⟨k, hk, rfl, hsz, A, c, us, hrel⟩ := hrel
    have hb0r := hrel.below
    have hown := hrel.own
    have hboxr := hrel.box
    have hresr := hrel.res
    have hparr := hrel.par
    have hCb := hboxr.cell
    have hFb := hboxr.frozen
    have hCp := hparr.cell
    have hnl := Lib.hid (newEs_length k m)
    clear hrel
    by_cases hlt : k < cp
    · have hki : (k : Int) < s.cap := by rw [hcp.out]; omega
      have hk32 : IntKind.u32.wrap (k : Int) = (k : Int) := IntWalk.u32_in _ (by omega)
      obtain ⟨W7, hW7, hB7, hS7, hG7, hO7, hP7⟩ := boxedB wr _ rfl (madeCells #[.int .u32 0] m) 25
      obtain ⟨W8, hW8, hB8, hS8, hG8, hO8, hP8⟩ := boxedB W7 _ hS7 #[.int .u32 (k : Int), .slice (some ⟨wr.heap.size, 0, none⟩) m m] 39
      have hB68 := hB7.trans (hB8.mono (Nat.le_succ _))
      have hown8 := hown.below hB68
      have hG78 := hG7.below hB8 (Nat.lt_succ_self _)
      have hs0 : w.heap.size + 1 + 1 ≤ wr.heap.size := by omega
      have hu8 := OwnW.made (base := w.heap.size + 1 + 1) hG78 hs0 (by simp only [maxLen]; omega)
      have hC8 := hG8.cell
      obtain ⟨v9, w9, hrun, hO9, hg9, hat9⟩ := run_appEnt (w := W8.drew) (e := ⟨k, List.replicate m 0⟩) (hown8.below (below_drewN (Below.refl _ _) 1)) ⟨wr.heap.size + 1, 0, none⟩ ((hC8 0).trans rfl) (by rw [add_lit0]; exact (hC8 1).trans rfl)
        (hu8.below (below_drewN (Below.refl _ _) 1)) (show k < 4294967296 by omega) (fun i u' b hu' hb hb' => by
          have hil : i < (newEs k m).length := by rw [← hown.len]; exact (List.getElem?_eq_some_iff.1 hu').1
          have := ((hown.val i _ u' (List.getElem?_eq_getElem hil) hu').1.row.lt b hb').2
          simp only [Value.ownBlock, Option.some.injEq] at hb
          omega) (by rw [hnl.out]; omega) (show w.heap.size + 1 + 1 ≤ W8.heap.size by omega)
      rw [← newEs_succ] at hO9
      have hE9 := hO9.reads
      obtain ⟨A9, c9, rfl, _⟩ := hE9
      have hln : (newEs (k + 1) m).length = k + 1 := newEs_length _ _
      rw [hln] at hrun hO9 hat9
      have hne9 : ∀ {b t cs}, Blk wr b t cs → t ≠ 39 → some b ≠ (Value.slice A k c).ownBlock := fun hb ht he => row_ne_box hown.row hb ht he.symm
      have hG49 : Blk w9 w3.heap.size _ _ := ((hboxr.below hB68 (by omega)).drew).grown hg9 (hne9 hboxr (by decide))
      have hG29 : Blk w9 (w.heap.size + 1) _ _ := ((hresr.below hB68 (by omega)).drew).grown hg9 (hne9 hresr (by decide))
      have hG19 : Blk w9 w.heap.size _ _ := ((hparr.below hB68 (by omega)).drew).grown hg9 (hne9 hparr (by decide))
      have hC49 := hG49.cell
      have hF49 := hG49.frozen
      have hb09 : Below w.heap.size w w9 := (Below.drew (hb0r.trans (hB68.mono (by omega)))).grown hg9 (show w.heap.size ≤ W8.heap.size by omega) (fun b hb => by have := (hown.row.lt b hb).1; omega)
      have hs9 : W8.heap.size ≤ w9.heap.size := hg9.size
      obtain ⟨W10, hW10, ho10, hs10, hG10, hO10, hP10⟩ := storedB hG49 4 (.slice A9 (k + 1) c9)
      have hb010 := Only.below hb09 ho10 (by omega) (by omega)
      have hCbb := (hboxr.below hB68 (by omega)).cell
      have hCba := (hboxr.below hB7 (by omega)).cell
      have hCpb := (hparr.below hB68 (by omega)).cell
      have hCpa := (hparr.below hB7 (by omega)).cell
      have hfin : NewRel s w.heap.size w3.heap.size m w (k + 1) A9 c9 (us ++ [.slice (some ⟨wr.heap.size, 0, none⟩) m m]) W10 :=
        ⟨hO9.box hG49 ho10 (by decide) (by decide), hG10, hG29.grown ho10 (by simp; omega), hG19.grown ho10 (by simp; omega), hb010⟩
      replace hfin := Lib.hid hfin
      clear hO10 hP10 hO7 hP7 hO8 hP8
      go_wp2_with fail
      go_region_law (refine step_runApp rfl _ _ _ _ rfl rfl rfl hrun ?_)
      all_goals
        go_wp2_with fail
        exact ⟨⟨k + 1, by omega, by go_num, by omega, A9, c9, _, hfin.out⟩, by simp [intOf]; omega⟩
    · obtain rfl : k = cp := by omega
      have hki : ¬ (k : Int) < s.cap := by rw [hcp.out]; omega
      have hC2r := hresr.cell
      have hF2r := hresr.frozen
      have hr7 := hresr.setBox [.int .i64 s.kind, .int .i64 s.cap, .int .i64 s.words, .int .i64 s.ver, .slice A k c, .int .u32 0] rfl
      have ho7 := setAll_only (w.heap.size + 1) [.int .i64 s.kind, .int .i64 s.cap, .int .i64 s.words, .int .i64 s.ver, .slice A k c, .int .u32 0] 0 wr
      have hb7 := Only.below hb0r ho7 (by omega) (by omega)
      have hO7 := (hown.far ho7 (by omega)).mono (show w.heap.size ≤ w.heap.size + 1 + 1 by omega)
      go_wp2_with fail
      refine bodyPost_ret (results_ct results24 rfl hr7 underlying27 rfl (by kernel_rfl)) rfl ?_
      rw [hTv.out]
      exact ⟨A, k, c, rfl, ⟨us, hO7⟩, hb7⟩
end Go.Proofs.Ytpmnchgpbojppaa

/- clear of a slice; append in place; a value of an entry made anew. -/
namespace Go.Proofs.Ytpmnchgpbojppaa
open Go Go.RowKit Go.Proofs.Try

section
variable {P : Program}
/-- 'clear(s)', s of n > 0 elements, whatever their size. -/
theorem run_clearN (w : World) (t e ty : TypeId) (i : TypeInfo) (z : Value) (ht : P.underlying t = some (.slice e)) (hi : P.info? e = some i) (hz : i.zero = some z) (g o n c : Nat) (hn : 0 < n) (tt : TypeId) (cur : List Value) (hg : Blk w g tt cur.toArray)
    (hfit : o + (Builtin.zeroCells z.cells n).toList.length ≤ cur.length) (h1 : ∀ v ∈ (Builtin.zeroCells z.cells n).toList, v.oneCell' = true) :
    (Builtin.clear_ #[t] ty #[.slice (some ⟨g, o, none⟩) n c]).run P w = .ok (.tuple #[]) (w.setRow g (splice cur o (Builtin.zeroCells z.cells n).toList).toArray) := by
  have hst := run_storeCells_at P g o tt (Builtin.zeroCells z.cells n).toList 0 cur.toArray w hg (by simpa using hfit) h1
  have hv : ∀ w, (zeroValue e).run P w = .ok z w := by intro w; simp [zeroValue, typeInfo, hi, hz]
  obtain ⟨m, rfl⟩ : ∃ m, n = m + 1 := ⟨n - 1, by omega⟩
  simp only [Nat.add_zero] at hst
  simp [Builtin.clear_, run_underlying ht, hv, hst, splice]

variable {w : World} {ops : Array Oper} {rest : List Oper} {o : Oper} {a : Act} {K : Act → World → Prop} {Q : Exit → Act → World → Prop}
/-- clear as one step. -/
theorem wpList_clear (hgd : o.guard = none) (s : Operand) (t : TypeId) (ho : o.op = .call { callee := .builtin .clear, args := #[s], argTypes := #[t] }) {vs v' : Value} {w' : World} (hs : a.eval s = vs)
    (hrun : (Builtin.clear_ #[t] o.type #[vs]).run P w = .ok v' w') (h : wpList P ops Q rest (a.put o.dst v') w') : wpList P ops Q (o :: rest) a w := by
  refine wpList_plain hgd fun _ hK => ?_
  unfold Oper.wp
  simp only [execOp, ho, resolve, invoke, builtin, Sem.run_bind, Sem.run_pure, Result.andThen_ok, List.map_toArray, List.map_cons, List.map_nil, hs, hrun]
  exact hK _ _ h

/-- append where there is room: the row's cells said whole. -/
theorem run_append_roomS (t ty e : TypeId) (i : TypeInfo) (size : Nat) (ht : P.underlying t = some (.slice e)) (hi : P.info? e = some i) (hsz : i.size = size)
    (g off sLen sCap : Nat) (A : Option Addr) (m c : Nat) (news : List Value) (hl : news.length = m * size) (tt : TypeId) (cur : List Value) (hg : Blk w g tt cur.toArray)
    (hnews : 0 < m → ∃ ad, A = some ad ∧ ∀ j u, news[j]? = some u → w.cell? (ad.add j) = some u) (hA : ∃ ad, A = some ad) (h1 : ∀ u ∈ news, u.oneCell' = true)
    (hroom : sLen + m ≤ sCap) (hfit : off + sLen * size + news.length ≤ cur.length) :
    (Builtin.append_ #[t, t] ty #[.slice (some ⟨g, off, none⟩) sLen sCap, .slice A m c]).run P w = .ok (.slice (some ⟨g, off, none⟩) (sLen + m) sCap) (w.setRow g (splice cur (off + sLen * size) news).toArray) := by
  obtain ⟨ad, rfl⟩ := hA
  have hn : ∀ j u, news[j]? = some u → w.cell? (ad.add j) = some u := by
    intro j u hu
    rcases Nat.eq_zero_or_pos m with rfl | hm
    · have : news = [] := List.eq_nil_of_length_eq_zero (by omega)
      subst this
      simp at hu
    · obtain ⟨ad', h, hh⟩ := hnews hm
      cases h
      exact hh j u hu
  subst hsz
  have hfc := run_firstCells_some (P := P) w i.size m ad m c news hl hn
  have hst := run_storeCells_at P g (off + sLen * i.size) tt news 0 cur.toArray w hg (by simpa using hfit) h1
  simp only [Nat.add_zero] at hst
  simp [Builtin.append_, run_underlying ht, sizeOf, typeInfo, hi, Builtin.lenOf, hroom, hfc, Addr.add_lit, hst, splice]
end

/-- A value of an entry made anew, in its own row. -/
theorem OwnEs.setV {w w' : World} {base gu m cu j : Nat} {v : Value} {es : List Ent} {us : List Value} {e : Ent} {xs : List Nat} (h : OwnEs w base v es us) (he : es[j]? = some e) (hu : us[j]? = some (.slice (some ⟨gu, 0, none⟩) m cu)) (ho : Only gu w w')
    (hn : OwnW w' base (.slice (some ⟨gu, 0, none⟩) m cu) xs) : OwnEs w' base v (es.set j { e with v := xs }) us := by
  have hj := (List.getElem?_eq_some_iff.1 he).1
  obtain ⟨hval, hkey⟩ := h.val j e _ he hu
  have hne := hval.not_row' h.row
  refine ⟨by rw [List.length_set]; exact h.len, ?_, fun i e' u' he' hu' => ?_, h.lone⟩
  · rw [List.length_set, entCells_same_key (e' := { e with v := xs }) he rfl]
    exact h.row.kept ho (.inr hne)
  · by_cases hij : j = i
    · subst hij
      rw [List.getElem?_set_self hj] at he'
      cases he'
      rw [hu] at hu'
      cases hu'
      exact ⟨hn, hkey⟩
    · rw [List.getElem?_set_ne hij] at he'
      obtain ⟨h1, h2⟩ := h.val i e' u' he' hu'
      exact ⟨h1.only ho (h.lone j i _ u' gu hij hu hu' rfl), h2⟩

theorem zeroCells_u32 (m : Nat) : (Builtin.zeroCells (Value.int .u32 0).cells m).toList = List.replicate m (.int .u32 0) := by
  simp [Builtin.zeroCells, Value.cells]
  apply List.ext_getElem
  · simp
  · intro i h1 h2
    simp [Nat.mod_one]
end Go.Proofs.Ytpmnchgpbojppaa

/- slices.Delete of one entry. -/
namespace Go.Proofs.Ytpmnchgpbojppaa
open Go Go.RowKit Go.Proofs.Try

theorem entCells_erase : ∀ {es : List Ent} {us : List Value} {i : Nat}, us.length = es.length → i < es.length → entCells (es.eraseIdx i) (us.eraseIdx i) = (entCells es us).take (i * 2) ++ (entCells es us).drop ((i + 1) * 2)
  | [], _, _, _, h => by simp at h
  | _ :: _, [], _, h, _ => by simp at h
  | e :: es, u :: us, 0, _, _ => by simp [entCells]
  | e :: es, u :: us, i + 1, hl, hi => by
    have ih := entCells_erase (es := es) (us := us) (i := i) (by simpa using hl) (by simpa using hi)
    rw [List.eraseIdx_cons_succ, List.eraseIdx_cons_succ]
    simp only [entCells]
    rw [ih, show (i + 1 + 1) * 2 = (i + 1) * 2 + 1 + 1 by omega]
    have h1 : List.take ((i + 1) * 2) (.int .u32 (e.key : Int) :: u :: entCells es us) = .int .u32 (e.key : Int) :: u :: List.take (i * 2) (entCells es us) := by rw [show (i + 1) * 2 = i * 2 + 1 + 1 by omega]; rfl
    rw [h1]
    rfl

theorem erase_get {α : Type} {l : List α} {i j : Nat} {x : α} (h : (l.eraseIdx i)[j]? = some x) : l[if j < i then j else j + 1]? = some x := by
  rw [List.getElem?_eraseIdx] at h
  split at h
  · rename_i hj; rw [if_pos hj]; exact h
  · rename_i hj; rw [if_neg hj]; exact h

theorem OwnEs.erase {w w' : World} {base g n i : Nat} {es : List Ent} {us : List Value} {cs : List Value} (h : OwnEs w base (.slice (some ⟨g, 0, none⟩) n n) es us) (hn : es.length = n) (hi : i < n) (ho : Only g w w')
    (hg : Blk w' g 39 cs.toArray) (hcl : cs.length = n * 2) (hct : cs.take ((n - 1) * 2) = entCells (es.eraseIdx i) (us.eraseIdx i)) (hm : n ≤ maxLen) :
    OwnEs w' base (.slice (some ⟨g, 0, none⟩) (n - 1) n) (es.eraseIdx i) (us.eraseIdx i) := by
  have hbg : base ≤ g := (h.row.lt g rfl).1
  have hel : (es.eraseIdx i).length = n - 1 := by rw [List.length_eraseIdx, if_pos (by omega), hn]
  have hul : (us.eraseIdx i).length = (es.eraseIdx i).length := by rw [List.length_eraseIdx, List.length_eraseIdx, h.len]
  refine ⟨hul, ⟨by rw [entCells_length hul], .inr ⟨g, n, cs.toArray, by rw [hel], hbg, hg, by omega, hm, by simpa using hcl, by rw [hel]; exact hct⟩⟩, fun j e u he hu => ?_, fun j k u v b hjk hu hv hb => ?_⟩
  · obtain ⟨a, b⟩ := h.val _ e u (erase_get he) (erase_get hu)
    exact ⟨a.only ho (a.blk_ne h.row rfl), b⟩
  · exact h.lone _ _ u v b (by split <;> split <;> omega) (erase_get hu) (erase_get hv) hb

theorem agg_zero : (Builtin.zeroCells (Value.agg #[.int .u32 0, .slice none 0 0]).cells 1).toList = [.int .u32 0, .slice none 0 0] := by kernel_rfl

set_option maxRecDepth 100000 in
set_option maxHeartbeats 2000000 in
theorem delete_any (g n i : Nat) (es : List Ent) (us : List Value) (w : World) (base : Nat) (hO : OwnEs w base (.slice (some ⟨g, 0, none⟩) n n) es us) (hn : es.length = n) (hi : i < n) (hn2 : n ≤ 1048576) :
    Calls prog 59 #[.slice (some ⟨g, 0, none⟩) n n, .int .i64 (i : Int), .int .i64 ((i : Int) + 1)] w fun e w' => e = .returned (.slice (some ⟨g, 0, none⟩) (n - 1) n) ∧ Only g w w' ∧ OwnEs w' base (.slice (some ⟨g, 0, none⟩) (n - 1) n) (es.eraseIdx i) (us.eraseIdx i) := by
  obtain ⟨ie, hie, hz, hsz, hb⟩ := info_parts info_ent
  have hu24 : prog.underlying 24 = some (.slice 39) := underlying24
  have hel : prog.elem 24 = 39 := by simp [Program.elem, hu24]
  have hu' : prog.underlying 24 = some (.slice (prog.elem 24)) := by rw [hel]; exact hu24
  have hcl : (entCells es us).length = n * 2 := by rw [entCells_length hO.len, hn]
  have hG : Blk w g 39 (entCells es us).toArray := by
    rcases hO.row.2 with ⟨h1, _⟩ | ⟨g', cap, cur, he, _, hg', _, _, hcs, hct⟩
    · cases h1
    · cases he
      rw [hn, List.take_of_length_le (by rw [Array.length_toList, hcs]; exact Nat.le_refl _)] at hct
      rw [← hct]
      exact hg'
  have hone : ∀ v ∈ entCells es us, v.oneCell' = true := entCells_one (fun u hu => by
    obtain ⟨j, hj⟩ := List.mem_iff_getElem?.1 hu
    have hil : j < es.length := by rw [← hO.len]; exact (List.getElem?_eq_some_iff.1 hj).1
    obtain ⟨A, c, rfl, _⟩ := (hO.val j _ u (List.getElem?_eq_getElem hil) hj).1.reads
    rfl)
  have hs1 : ∀ W : World, ∃ x, (Instr.slice 24 (.slice (some ⟨g, 0, none⟩) n n) (some (.int .i64 (i : Int))) (some (.int .i64 ((i : Int) + 1))) (some (.int .i64 (n : Int)))).run prog W = .ok x W := by
    intro W
    rw [run_slice_lhm W 24 (some ⟨g, 0, none⟩) n n hu' .i64 .i64 .i64 (i : Int) ((i : Int) + 1) (n : Int) (by omega) (by omega) (by omega) (by omega), hel]
    simp [sizeOf, typeInfo, hie, Result.andThen]
  have hs2 : ∀ W : World, (Instr.slice 24 (.slice (some ⟨g, 0, none⟩) n n) none (some (.int .i64 (i : Int))) none).run prog W = .ok (.slice (some ⟨g, 0, none⟩) i n) W := by
    intro W
    rw [run_slice_h W 24 (some ⟨g, 0, none⟩) n n hu' .i64 (i : Int) (by omega) (by omega), hel]
    simp [sizeOf, typeInfo, hie, hsz, sliced, Result.andThen, add_lit0]
  have hs3 := run_cut (P := prog) 24 39 2 hu24 (by kernel_rfl) (some ⟨g, 0, none⟩) n n (i + 1) ((i : Int) + 1) (by omega) (by omega)
  have hs4 : ∀ W : World, (Instr.slice 24 (.slice (some ⟨g, 0, none⟩) (n - 1) n) (some (.int .i64 ((n - 1 : Nat) : Int))) (some (.int .i64 (n : Int))) none).run prog W = .ok (.slice (some ⟨g, (n - 1) * 2, none⟩) 1 1) W := by
    intro W
    rw [run_slice_lh W 24 (some ⟨g, 0, none⟩) (n - 1) n hu' .i64 .i64 ((n - 1 : Nat) : Int) (n : Int) (by omega) (by omega) (by omega), hel]
    simp [sizeOf, typeInfo, hie, hsz, sliced, Result.andThen, add_lit0, show ¬ n = n - 1 by omega, show n - (n - 1) = 1 by omega]
  obtain ⟨news, hnews⟩ : ∃ news, news = (entCells es us).drop ((i + 1) * 2) := ⟨_, rfl⟩
  have hnl : news.length = (n - (i + 1)) * 2 := by rw [hnews, List.length_drop, hcl]; omega
  have hrun : ∀ ty, (Builtin.append_ #[24, 24] ty #[.slice (some ⟨g, 0, none⟩) i n, .slice (cutA (some ⟨g, 0, none⟩) n (i + 1) 2) (n - (i + 1)) (n - (i + 1))]).run prog w.drew = .ok (.slice (some ⟨g, 0, none⟩) (n - 1) n) (w.drew.setRow g (splice (entCells es us) (i * 2) news).toArray) := by
    intro ty
    have := run_append_roomS (P := prog) (w := w.drew) 24 ty 39 ie 2 hu24 hie hsz g 0 i n (cutA (some ⟨g, 0, none⟩) n (i + 1) 2) (n - (i + 1)) (n - (i + 1)) news hnl 39 (entCells es us) hG
      (fun hm => ⟨_, cutA_lt (by omega), fun j u hu => by
        rw [hnews, List.getElem?_drop] at hu
        rw [add_add, add_lit0]
        exact (hG.cell _).trans (by simpa using hu)⟩) (by unfold cutA; split <;> exact ⟨_, rfl⟩) (fun u hu => hone u (by rw [hnews] at hu; exact List.mem_of_mem_drop hu)) (by omega) (by rw [hcl, hnl]; omega)
    rw [show i + (n - (i + 1)) = n - 1 by omega, Nat.zero_add] at this
    exact this
  obtain ⟨W1, hW1⟩ : ∃ W, w.drew.setRow g (splice (entCells es us) (i * 2) news).toArray = W := ⟨_, rfl⟩
  have ho1 : Only g w W1 := by rw [← hW1]; exact Only.of_drew (Only.setRow _ _ _)
  have hG1 : Blk W1 g 39 (splice (entCells es us) (i * 2) news).toArray := by
    rw [← hW1]
    exact setRow_heap w.drew g (entCells es us).toArray (splice (entCells es us) (i * 2) news).toArray _ (0, 0) hG
  have hsl : (splice (entCells es us) (i * 2) news).length = n * 2 := by rw [length_splice _ _ _ (by rw [hcl, hnl]; omega), hcl]
  have hclr : ∀ ty, (Builtin.clear_ #[24] ty #[.slice (some ⟨g, (n - 1) * 2, none⟩) 1 1]).run prog W1 = .ok (.tuple #[]) (W1.setRow g (splice (splice (entCells es us) (i * 2) news) ((n - 1) * 2) [.int .u32 0, .slice none 0 0]).toArray) := by
    intro ty
    have := run_clearN (P := prog) W1 24 39 ty ie (.agg #[.int .u32 0, .slice none 0 0]) hu24 hie hz g ((n - 1) * 2) 1 1 (by omega) 39 (splice (entCells es us) (i * 2) news) hG1 (by rw [agg_zero, hsl]; simp; omega) (by rw [agg_zero]; intro v hv; simp at hv; rcases hv with rfl | rfl <;> rfl)
    rw [agg_zero] at this
    exact this
  obtain ⟨W2, hW2⟩ : ∃ W, W1.setRow g (splice (splice (entCells es us) (i * 2) news) ((n - 1) * 2) [.int .u32 0, .slice none 0 0]).toArray = W := ⟨_, rfl⟩
  have ho2 : Only g w W2 := ho1.trans (by rw [← hW2]; exact Only.setRow _ _ _)
  have hG2 : Blk W2 g 39 (splice (splice (entCells es us) (i * 2) news) ((n - 1) * 2) [.int .u32 0, .slice none 0 0]).toArray := by
    rw [← hW2]
    exact setRow_heap W1 g _ (splice (splice (entCells es us) (i * 2) news) ((n - 1) * 2) [.int .u32 0, .slice none 0 0]).toArray _ (0, 0) hG1
  have hfin := OwnEs.erase hO hn hi ho2 hG2 (by rw [length_splice _ _ _ (by rw [hsl]; simp; omega), hsl]) (by
    rw [entCells_erase hO.len (by omega), ← hnews]
    unfold splice
    rw [List.take_append_of_le_length (by simp [hcl, hnl]; omega)]
    rw [List.take_take, Nat.min_self, List.take_append]
    have e1 : ((entCells es us).take (i * 2)).length = i * 2 := by rw [List.length_take, hcl]; omega
    rw [e1, List.take_of_length_le (l := (entCells es us).take (i * 2)) (by omega), List.take_append_of_le_length (by omega), List.take_of_length_le (l := news) (by omega)]) (by simp only [maxLen]; omega)
  rw [hW1] at hrun
  rw [hW2] at hclr
  replace hfin := Lib.hid hfin
  have hne : ((i : Int) == (i : Int) + 1) = false := by simp; omega
  obtain ⟨x1, hx1⟩ : ∃ x, ∀ W : World, (Instr.slice 24 (.slice (some ⟨g, 0, none⟩) n n) (some (.int .i64 (i : Int))) (some (.int .i64 ((i : Int) + 1))) (some (.int .i64 (n : Int)))).run prog W = .ok x W := by
    refine ⟨sliced (some ⟨g, 0, none⟩) i (i + 1) n 2, fun W => ?_⟩
    rw [run_slice_lhm W 24 (some ⟨g, 0, none⟩) n n hu' .i64 .i64 .i64 (i : Int) ((i : Int) + 1) (n : Int) (by omega) (by omega) (by omega) (by omega), hel]
    simp [sizeOf, typeInfo, hie, hsz, Result.andThen]
  clear hs1 hG hG1 hG2 hW1 hW2 hone hO
  go_enter func59, ntmps59
  go_wp2_with fail
  go_region_law (refine step_runApp rfl _ _ _ _ rfl rfl rfl (hrun _) ?_)
  all_goals
    go_wp2_with (refine wpList_clear rfl _ _ rfl rfl (hclr _) ?_)
    go_wp2_with fail
    go_ret
    exact ⟨rfl, ho2, hfin.out⟩
end Go.Proofs.Ytpmnchgpbojppaa

/- table.Del. -/
namespace Go.Proofs.Ytpmnchgpbojppaa
open Go Go.RowKit Go.Proofs.Try

/-- An entry's words made noughts. -/
def zeroE (l : List Ent) (i : Nat) : List Ent :=
  match l[i]? with
  | some e => l.set i { e with v := List.replicate e.v.length 0 }
  | none => l
def Tab.del (t : Tab) (key : Nat) : Tab × Bool :=
  if t.has key 0 = false then (t, false)
  else if t.s.kind = 0 then ({ t with e := zeroE t.e (t.idx key) }, true)
  else ({ t with e := t.e.eraseIdx (t.idx key) }, true)

theorem splice_all {α : Type} {l r : List α} (h : l.length = r.length) : splice l 0 r = r := by
  unfold splice
  rw [List.take_zero, List.nil_append, List.drop_eq_nil_of_le (by omega), List.append_nil]

set_option maxRecDepth 100000 in
set_option maxHeartbeats 4000000 in
theorem del_any (s : Sch) (A : Option Addr) (n c nx key : Nat) (es : List Ent) (w : World) (hx : nx < 4294967296) (hfit : fits es) (hE : kEnt.At w w.heap.size A n c es) :
    Calls prog 29 #[tabV s A n c nx, .int .u32 (key : Int)] w fun e w' => ∃ A' n' c' us, e = .returned (.tuple #[tabV s A' n' c' nx, .bool (Tab.del ⟨s, es, nx⟩ key).2]) ∧ OwnEs w' w.heap.size (.slice A' n' c') (Tab.del ⟨s, es, nx⟩ key).1.e us ∧ Below w.heap.size w w' := by
  have hl := Lib.hid hE.len
  obtain ⟨T, hT⟩ : ∃ T, T = Tab.del ⟨s, es, nx⟩ key := ⟨_, rfl⟩
  rw [← hT]
  replace hT := Lib.hid hT
  unfold tabV
  obtain ⟨W1, hW1, hB1, hS1, hG1, hO1, hP1⟩ := boxedB w _ rfl #[.int .i64 s.kind, .int .i64 s.cap, .int .i64 s.words, .int .i64 s.ver, .slice A n c, .int .u32 (nx : Int)] 27
  obtain ⟨W2, hW2, hB2, hS2, hG2, hO2, hP2⟩ := boxedB W1 _ hS1 #[.int .i64 0, .int .i64 0, .int .i64 0, .int .i64 0, .slice none 0 0, .int .u32 0] 27
  have hC1 := (hG1.below hB2 (Nat.lt_succ_self _)).cell
  have hb2 := hB1.trans (hB2.mono (Nat.le_succ _))
  clear hO1 hP1 hO2 hP2
  go_enter func29, ntmps29
  go_wp2_with fail
  refine (own_any s A n c nx es _ hfit (by exact (hE.below hb2).mono (by omega))).mono ?_
  rintro e1 w3 ⟨A', us, rfl, hown, hb3⟩
  rw [hS2] at hown hb3
  have hs3 := hb3.size
  have hb03 := hb2.trans (hb3.mono (by omega))
  obtain ⟨W4, hW4, hB4, hS4, hG4, hO4, hP4⟩ := boxedB w3 _ rfl #[.int .i64 s.kind, .int .i64 s.cap, .int .i64 s.words, .int .i64 s.ver, .slice A' n n, .int .u32 (nx : Int)] 27
  have hC4 := hG4.cell
  have hb04 := hb03.trans (hB4.mono (by omega))
  clear hO4 hP4
  unfold tabV
  have hE4 := (hown.at_.below hB4).mono (B' := W4.heap.size) (by omega)
  go_wp2_with fail
  refine (find_any s A' n n nx key es _ W4.heap.size (by omega) hE4).mono ?_
  rintro e1 w5 ⟨rfl, hb5⟩
  have hs5 := hb5.size
  have hG15 := (((hG1.below hB2 (Nat.lt_succ_self _)).below hb3 (by omega)).below hB4 (by omega)).below hb5 (by omega)
  have hC15 := hG15.cell
  have hb05 := hb04.trans (hb5.mono (by omega))
  obtain ⟨xx, hfi, hx1⟩ : ∃ xx : Int, fidx key es 0 = xx ∧ Hid (xx = fidx key es 0) := ⟨_, rfl, rfl⟩
  rw [hfi]
  replace hfi := Lib.hid hfi
  go_wp2_with fail
  refine (words_tab s A n c nx 0 es _ hx (by omega) (by exact (hE.below hb05).mono (by omega))).mono ?_
  rintro e1 w6 ⟨rfl, hb6⟩
  have hs6 := hb6.size
  have hG46 := (hG4.below hb5 (by omega)).below hb6 (by omega)
  have hC46 := hG46.cell
  have hF46 := hG46.frozen
  have hG26 := (((hG2.below hb3 (by omega)).below hB4 (by omega)).below hb5 (by omega)).below hb6 (by omega)
  have hC26 := hG26.cell
  have hF26 := hG26.frozen
  have hb06 := hb05.trans (hb6.mono (by omega))
  have hO6 := ((hown.below hB4).below (hb5.mono (by omega))).below (hb6.mono (by omega))
  by_cases hh : Tab.has ⟨s, es, nx⟩ key 0 = false
  · have hTv : T = (⟨s, es, nx⟩, false) := by rw [hT.out]; unfold Tab.del; rw [if_pos hh]
    replace hTv := Lib.hid hTv
    have hr7 := hG26.setBox [.int .i64 s.kind, .int .i64 s.cap, .int .i64 s.words, .int .i64 s.ver, .slice A' n n, .int .u32 (nx : Int)] rfl
    have ho7 := setAll_only (w.heap.size + 1) [.int .i64 s.kind, .int .i64 s.cap, .int .i64 s.words, .int .i64 s.ver, .slice A' n n, .int .u32 (nx : Int)] 0 w6
    have hb7 := Only.below hb06 ho7 (by omega) (by omega)
    have hO7 := (hO6.far ho7 (by omega)).mono (show w.heap.size ≤ w.heap.size + 1 + 1 by omega)
    rcases hkd : Tab.keyed ⟨s, es, nx⟩ 0 with _ | _
    · clear hh
      go_wp2_with fail
      refine bodyPost_ret (results_ct results29 rfl hr7 underlying27 rfl (by kernel_rfl)) rfl ?_
      rw [hTv.out]
      exact ⟨A', n, n, us, rfl, hO7, hb7⟩
    · have hxm : (xx == -1) = true := by
        have h1 := fidx_lt key es 0
        have h2 := hx1.out
        have h3 : ¬ 0 ≤ fidx key es 0 := by simpa [Tab.has, hkd] using hh
        simp
        omega
      clear hh
      go_wp2_with fail
      refine bodyPost_ret (results_ct results29 rfl hr7 underlying27 rfl (by kernel_rfl)) rfl ?_
      rw [hTv.out]
      exact ⟨A', n, n, us, rfl, hO7, hb7⟩
  obtain ⟨hkd, hpos⟩ : Tab.keyed ⟨s, es, nx⟩ 0 = true ∧ 0 ≤ fidx key es 0 := by simpa [Tab.has] using hh
  obtain ⟨hmay, hk3, hfw⟩ := Tab.keyed_may hkd
  simp only at hk3 hfw
  have hsch := Sch.may_bounds (Tab.may_sch hmay)
  simp only at hsch
  have hlen := Tab.may_len hmay
  simp only [hl.out] at hlen
  obtain ⟨hxi, hil⟩ := fidx_nat hpos
  obtain ⟨i, hii⟩ : ∃ i, i = (fidx key es 0).toNat := ⟨_, rfl⟩
  rw [← hii] at hxi hil
  have hxi' : xx = (i : Int) := hx1.out.trans hxi
  subst hxi'
  have hin : i < n := by rw [← hl.out]; exact hil
  have hxm : ((i : Int) == -1) = false := by simp
  have hid : Tab.idx ⟨s, es, nx⟩ key = i := by unfold Tab.idx; exact hii.symm
  have hn16 : n ≤ 16 := by omega
  obtain ⟨g, rfl, hg1, hg2, _⟩ := hown.block (by omega)
  have hiu : i < us.length := by rw [hO6.len, hl.out]; exact hin
  obtain ⟨e, he⟩ : ∃ e, es[i]? = some e := ⟨_, List.getElem?_eq_getElem hil⟩
  obtain ⟨u, hu⟩ : ∃ u, us[i]? = some u := ⟨_, List.getElem?_eq_getElem hiu⟩
  have hji : (i : Int) < (n : Int) := by omega
  have hgne := hO6.ne_box hG46 (by decide)
  rcases hk0 : (s.kind == 0) with _ | _
  · have hk0' : ¬ s.kind = 0 := by simpa using hk0
    have hTv : T = (⟨s, es.eraseIdx i, nx⟩, true) := by
      rw [hT.out]
      unfold Tab.del
      rw [if_neg hh, if_neg (by simpa using hk0'), hid]
    replace hTv := Lib.hid hTv
    clear hpos hxi hii hx1 hmay hfi hk0' hh hT
    go_wp2_with fail
    refine (delete_any g n i es us _ (w.heap.size + 1 + 1) hO6 hl.out hin (by omega)).mono ?_
    rintro e1 w7 ⟨rfl, ho7, hO7⟩
    have hs7 := ho7.size
    have hG47 := hG46.grown ho7 (by simp; omega)
    have hC47 := hG47.cell
    have hF47 := hG47.frozen
    have hG27 := hG26.grown ho7 (by simp; omega)
    obtain ⟨W8, hW8, ho8, hs8, hG8, hO8, hP8⟩ := storedB hG47 4 (.slice (some ⟨g, 0, none⟩) (n - 1) n)
    have hC8 := hG8.cell
    have hG28 := hG27.grown ho8 (by simp; omega)
    have hC28 := hG28.cell
    have hF28 := hG28.frozen
    clear hO8 hP8
    have hr9 := hG28.setBox [.int .i64 s.kind, .int .i64 s.cap, .int .i64 s.words, .int .i64 s.ver, .slice (some ⟨g, 0, none⟩) (n - 1) n, .int .u32 (nx : Int)] rfl
    have ho9 := setAll_only (w.heap.size + 1) [.int .i64 s.kind, .int .i64 s.cap, .int .i64 s.words, .int .i64 s.ver, .slice (some ⟨g, 0, none⟩) (n - 1) n, .int .u32 (nx : Int)] 0 W8
    have hb9 := Only.below (Only.below (Only.below hb06 ho7 (by omega) (by omega)) ho8 (by omega) (by omega)) ho9 (by omega) (by omega)
    have hO9 := ((hO7.box hG47 ho8 (by decide) (by decide)).far ho9 (by omega)).mono (show w.heap.size ≤ w.heap.size + 1 + 1 by omega)
    go_wp2_with fail
    refine bodyPost_ret (results_ct results29 rfl hr9 underlying27 rfl (by kernel_rfl)) rfl ?_
    rw [hTv.out]
    exact ⟨some ⟨g, 0, none⟩, n - 1, n, us.eraseIdx i, rfl, hO9, hb9⟩
  · have hk0' : s.kind = 0 := by simpa using hk0
    have hTv : T = (⟨s, es.set i { e with v := List.replicate e.v.length 0 }, nx⟩, true) := by
      rw [hT.out]
      unfold Tab.del
      rw [if_neg hh, if_pos (by simpa using hk0'), hid]
      simp [zeroE, he]
    replace hTv := Lib.hid hTv
    have hwd : 0 < e.v.length := by
      have := ((Tab.elOk_iff _ _ _).1 ((Tab.may_iff _).1 hmay |>.2 i e he)).1
      simp only at this
      omega
    have hwd4 : e.v.length ≤ 4 := by
      have := ((Tab.elOk_iff _ _ _).1 ((Tab.may_iff _).1 hmay |>.2 i e he)).1
      simp only at this
      omega
    obtain ⟨c0, c1'⟩ := hO6.cells_ he hu
    obtain ⟨hval, _⟩ := hO6.val i e u he hu
    obtain ⟨y, hy⟩ : ∃ y, e.v[0]? = some y := ⟨_, List.getElem?_eq_getElem hwd⟩
    obtain ⟨gu, cu, rfl, hgu1, hgu2, hcu, hcw, hfz⟩ := hval.cells_ hy
    have hgu4 := hval.ne_blk hG46 (by decide)
    obtain ⟨cap, cur, hGu, hcuq, hcs, hct⟩ : ∃ (cap : Nat) (cur : Array Value), Blk w6 gu 25 cur ∧ cap = cu ∧ cur.size = cap * 1 ∧ cap ≤ maxLen := by
      rcases hval.row.2 with ⟨h1, _⟩ | ⟨g', cap, cur, hee, _, hg', _, hm, hcs, _⟩
      · cases h1
      · cases hee
        exact ⟨_, cur, hg', rfl, hcs, hm⟩
    subst hcuq
    obtain ⟨iw, hiw, hzw, hsw, _⟩ := info_parts info_u32
    have hcl : (List.replicate e.v.length (Value.int .u32 0)).length ≤ cur.toList.length := by simp [hcs]; omega
    have hclr : ∀ ty, (Builtin.clear_ #[36] ty #[.slice (some ⟨gu, 0, none⟩) e.v.length cap]).run prog w6 = .ok (.tuple #[]) (w6.setRow gu (splice cur.toList 0 (List.replicate e.v.length (.int .u32 0))).toArray) := by
      intro ty
      have := run_clearN (P := prog) w6 36 25 ty iw (.int .u32 0) underlying36 hiw hzw gu 0 e.v.length cap hwd 25 cur.toList (by simpa using hGu) (by rw [zeroCells_u32]; simpa using hcl) (by rw [zeroCells_u32]; intro v hv; rw [List.eq_of_mem_replicate hv]; rfl)
      rw [zeroCells_u32] at this
      exact this
    obtain ⟨W7, hW7⟩ : ∃ W, w6.setRow gu (splice cur.toList 0 (List.replicate e.v.length (.int .u32 0))).toArray = W := ⟨_, rfl⟩
    have ho7 : Only gu w6 W7 := by rw [← hW7]; exact Only.setRow _ _ _
    have hs7 := ho7.size
    have hGu7 : Blk W7 gu 25 (splice cur.toList 0 (List.replicate e.v.length (.int .u32 0))).toArray := by
      rw [← hW7]
      exact setRow_heap w6 gu cur (splice cur.toList 0 (List.replicate e.v.length (.int .u32 0))).toArray _ (0, 0) hGu
    have hnew : OwnW W7 (w.heap.size + 1 + 1) (.slice (some ⟨gu, 0, none⟩) e.v.length cap) (List.replicate e.v.length 0) := by
      refine ⟨⟨by simp [u32s_length], .inr ⟨gu, cap, _, by simp, hgu1, hGu7, by simpa using hcu, hct, ?_, ?_⟩⟩, fun z hz => by simp at hz; omega⟩
      · rw [List.size_toArray, length_splice _ _ _ (by simpa using hcl), Array.length_toList]
        exact hcs
      · unfold splice
        simp [u32s]
    have hO7 := hO6.setV he hu ho7 hnew
    rw [hW7] at hclr
    have hG47 := hG46.grown ho7 (by simp; omega)
    have hC47 := hG47.cell
    have hG27 := hG26.grown ho7 (by simp; omega)
    have hC27 := hG27.cell
    have hF27 := hG27.frozen
    have hr9 := hG27.setBox [.int .i64 s.kind, .int .i64 s.cap, .int .i64 s.words, .int .i64 s.ver, .slice (some ⟨g, 0, none⟩) n n, .int .u32 (nx : Int)] rfl
    have ho9 := setAll_only (w.heap.size + 1) [.int .i64 s.kind, .int .i64 s.cap, .int .i64 s.words, .int .i64 s.ver, .slice (some ⟨g, 0, none⟩) n n, .int .u32 (nx : Int)] 0 W7
    have hb9 := Only.below (Only.below hb06 ho7 (by omega) (by omega)) ho9 (by omega) (by omega)
    have hO9 := (hO7.far ho9 (by omega)).mono (show w.heap.size ≤ w.heap.size + 1 + 1 by omega)
    replace hO9 := Lib.hid hO9
    clear hpos hxi hii hx1 hmay hfi hk0' hh hT he hu hy hO7 hO6 hval c0
    go_wp2_with (refine wpList_clear rfl _ _ rfl rfl (hclr _) ?_)
    go_wp2_with fail
    refine bodyPost_ret (results_ct results29 rfl hr9 underlying27 rfl (by kernel_rfl)) rfl ?_
    rw [hTv.out]
    exact ⟨some ⟨g, 0, none⟩, n, n, us, rfl, hO9.out, hb9⟩
end Go.Proofs.Ytpmnchgpbojppaa

/- drydocklaw05.awake is true. -/
namespace Go.Proofs.Ytpmnchgpbojppaa
open Go Go.RowKit Go.Proofs.Try

/-- A box of six cells stored anew. -/
theorem stored6 {w : World} {g : Nat} {t : TypeId} {cs : Array Value} (h : Blk w g t cs) (hs : cs.size = 6) (v0 v1 v2 v3 v4 v5 : Value) :
    ∃ W, (((((w.setCell ⟨g, 0, none⟩ v0).setCell ⟨g, 1, none⟩ v1).setCell ⟨g, 2, none⟩ v2).setCell ⟨g, 3, none⟩ v3).setCell ⟨g, 4, none⟩ v4).setCell ⟨g, 5, none⟩ v5 = W ∧ Only g w W ∧ W.heap.size = w.heap.size ∧ Blk W g t #[v0, v1, v2, v3, v4, v5] :=
  ⟨_, rfl, setAll_only g [v0, v1, v2, v3, v4, v5] 0 w, setAll_size g [v0, v1, v2, v3, v4, v5] 0 w, h.setBox [v0, v1, v2, v3, v4, v5] (by simp [hs])⟩

def tabA (s : Sch) (A : Option Addr) (n c next : Nat) : Array Value := #[.int .i64 s.kind, .int .i64 s.cap, .int .i64 s.words, .int .i64 s.ver, .slice A n c, .int .u32 (next : Int)]

theorem fits_small {es : List Ent} (h : es.length ≤ 20) (h2 : ∀ e ∈ es, e.v.length ≤ 6) : fits es := ⟨by omega, fun e he => by have := h2 e he; omega⟩

set_option maxRecDepth 100000 in
set_option maxHeartbeats 4000000 in
theorem awake5_any (w : World) : Calls prog 19 #[] w fun e w' => e = .returned (.bool true) ∧ Below w.heap.size w w' := by
  have h1 : Tab.new ⟨2, 2, 1, 0⟩ = (⟨⟨2, 2, 1, 0⟩, [], 0⟩, 0) := by kernel_rfl
  have h2 : Tab.set ⟨⟨2, 2, 1, 0⟩, [], 0⟩ 1 0 7 = (⟨⟨2, 2, 1, 0⟩, [⟨1, [7]⟩], 0⟩, 0) := by kernel_rfl
  have h3 : Tab.set ⟨⟨2, 2, 1, 0⟩, [⟨1, [7]⟩], 0⟩ 2 0 8 = (⟨⟨2, 2, 1, 0⟩, [⟨1, [7]⟩, ⟨2, [8]⟩], 0⟩, 0) := by kernel_rfl
  have h4 : Tab.get ⟨⟨2, 2, 1, 0⟩, [⟨1, [7]⟩, ⟨2, [8]⟩], 0⟩ 1 0 = (⟨⟨2, 2, 1, 0⟩, [⟨2, [8]⟩, ⟨1, [7]⟩], 0⟩, 7, true) := by kernel_rfl
  have h5 : Tab.set ⟨⟨2, 2, 1, 0⟩, [⟨2, [8]⟩, ⟨1, [7]⟩], 0⟩ 3 0 9 = (⟨⟨2, 2, 1, 0⟩, [⟨1, [7]⟩, ⟨3, [9]⟩], 0⟩, 0) := by kernel_rfl
  have h6 : Tab.get ⟨⟨2, 2, 1, 0⟩, [⟨1, [7]⟩, ⟨3, [9]⟩], 0⟩ 2 0 = (⟨⟨2, 2, 1, 0⟩, [⟨1, [7]⟩, ⟨3, [9]⟩], 0⟩, 0, false) := by kernel_rfl
  have h7 : Tab.may ⟨⟨2, 2, 1, 0⟩, [⟨1, [7]⟩, ⟨3, [9]⟩], 0⟩ = true := by kernel_rfl
  replace h1 := Lib.hid h1
  replace h2 := Lib.hid h2
  replace h3 := Lib.hid h3
  replace h4 := Lib.hid h4
  replace h5 := Lib.hid h5
  replace h6 := Lib.hid h6
  replace h7 := Lib.hid h7
  go_enter func19, ntmps19
  go_wp2_with fail
  refine (new_any ⟨2, 2, 1, 0⟩ _).mono ?_
  rintro e1 w1 ⟨A1, n1, c1, us1, rfl, hO1, hb1⟩
  rw [h1.out] at hO1 ⊢
  obtain rfl : n1 = 0 := hO1.at_.len.symm
  have hs1 := hb1.size
  unfold tabV
  simp only at hO1
  obtain ⟨W0, hW0, hB0, hS0, hG0, hx0, hy0⟩ := boxedB w1 _ rfl #[.int .i64 2, .int .i64 2, .int .i64 1, .int .i64 0, .slice A1 0 c1, .int .u32 0] 27
  have hC0 := hG0.cell
  have hF0 := hG0.frozen
  obtain ⟨W1, hW1, ho1, hS1, hG1, hx1, hy1⟩ := storedB hG0 5 (.int .u32 0)
  have hG1 : Blk W1 w1.heap.size 27 #[.int .i64 2, .int .i64 2, .int .i64 1, .int .i64 0, .slice A1 0 c1, .int .u32 0] := hG1
  clear hx0 hy0 hx1 hy1
  have hbw1 := Only.below (hb1.trans (hB0.mono (by omega))) ho1 (by omega) (by omega)
  have hP1 := (hO1.below hB0).box hG0 ho1 (by decide) (by decide)
  have hC1 := hG1.cell
  have hF1 := hG1.frozen
  go_wp2_with fail
  refine (set_any ⟨2, 2, 1, 0⟩ A1 0 c1 0 1 0 7 [] _ (by omega) (by omega) (by omega) (by omega) (fits_small (by decide) (by decide)) hP1.at_).mono ?_
  rintro e2 w2 ⟨A2, n2, c2, us2, rfl, hO2, hb2⟩
  rw [h2.out] at hO2 ⊢
  obtain rfl : n2 = 1 := hO2.at_.len.symm
  have hs2 := hb2.size
  unfold tabV
  simp only at hO2
  have hH2 := hG1.below hb2 (by omega)
  have hK2 := hH2.frozen
  have hJ2 := hH2.cell
  obtain ⟨W2, hW2, ho2, hS2, hG2⟩ := stored6 hH2 rfl (.int .i64 2) (.int .i64 2) (.int .i64 1) (.int .i64 0) (.slice A2 1 c2) (.int .u32 0)
  have hbw2 := Only.below (hbw1.trans (hb2.mono (by omega))) ho2 (by omega) (by omega)
  have hP2 := hO2.box hH2 ho2 (by decide) (by decide)
  have hC2 := hG2.cell
  have hF2 := hG2.frozen
  go_wp2_with fail
  refine (set_any ⟨2, 2, 1, 0⟩ A2 1 c2 0 2 0 8 [⟨1, [7]⟩] _ (by omega) (by omega) (by omega) (by omega) (fits_small (by decide) (by decide)) hP2.at_).mono ?_
  rintro e3 w3 ⟨A3, n3, c3, us3, rfl, hO3, hb3⟩
  rw [h3.out] at hO3 ⊢
  obtain rfl : n3 = 2 := hO3.at_.len.symm
  have hs3 := hb3.size
  unfold tabV
  simp only at hO3
  have hH3 := hG2.below hb3 (by omega)
  have hK3 := hH3.frozen
  have hJ3 := hH3.cell
  obtain ⟨W3, hW3, ho3, hS3, hG3⟩ := stored6 hH3 rfl (.int .i64 2) (.int .i64 2) (.int .i64 1) (.int .i64 0) (.slice A3 2 c3) (.int .u32 0)
  have hbw3 := Only.below (hbw2.trans (hb3.mono (by omega))) ho3 (by omega) (by omega)
  have hP3 := hO3.box hH3 ho3 (by decide) (by decide)
  have hC3 := hG3.cell
  have hF3 := hG3.frozen
  go_wp2_with fail
  refine (get_any ⟨2, 2, 1, 0⟩ A3 2 c3 0 1 0 [⟨1, [7]⟩, ⟨2, [8]⟩] _ (by omega) (by omega) (fits_small (by decide) (by decide)) hP3.at_).mono ?_
  rintro e4 w4 ⟨A4, c4, us4, rfl, hO4, hb4⟩
  rw [h4.out] at hO4 ⊢
  have hs4 := hb4.size
  unfold tabV
  simp only at hO4
  have hH4 := hG3.below hb4 (by omega)
  have hK4 := hH4.frozen
  have hJ4 := hH4.cell
  obtain ⟨W4, hW4, ho4, hS4, hG4⟩ := stored6 hH4 rfl (.int .i64 2) (.int .i64 2) (.int .i64 1) (.int .i64 0) (.slice A4 2 c4) (.int .u32 0)
  have hbw4 := Only.below (hbw3.trans (hb4.mono (by omega))) ho4 (by omega) (by omega)
  have hP4 := hO4.box hH4 ho4 (by decide) (by decide)
  have hC4 := hG4.cell
  have hF4 := hG4.frozen
  go_wp2_with fail
  refine (set_any ⟨2, 2, 1, 0⟩ A4 2 c4 0 3 0 9 [⟨2, [8]⟩, ⟨1, [7]⟩] _ (by omega) (by omega) (by omega) (by omega) (fits_small (by decide) (by decide)) hP4.at_).mono ?_
  rintro e5 w5 ⟨A5, n5, c5, us5, rfl, hO5, hb5⟩
  rw [h5.out] at hO5 ⊢
  obtain rfl : n5 = 2 := hO5.at_.len.symm
  have hs5 := hb5.size
  unfold tabV
  simp only at hO5
  have hH5 := hG4.below hb5 (by omega)
  have hK5 := hH5.frozen
  have hJ5 := hH5.cell
  obtain ⟨W5, hW5, ho5, hS5, hG5⟩ := stored6 hH5 rfl (.int .i64 2) (.int .i64 2) (.int .i64 1) (.int .i64 0) (.slice A5 2 c5) (.int .u32 0)
  have hbw5 := Only.below (hbw4.trans (hb5.mono (by omega))) ho5 (by omega) (by omega)
  have hP5 := hO5.box hH5 ho5 (by decide) (by decide)
  have hC5 := hG5.cell
  have hF5 := hG5.frozen
  go_wp2_with fail
  refine (get_any ⟨2, 2, 1, 0⟩ A5 2 c5 0 2 0 [⟨1, [7]⟩, ⟨3, [9]⟩] _ (by omega) (by omega) (fits_small (by decide) (by decide)) hP5.at_).mono ?_
  rintro e6 w6 ⟨A6, c6, us6, rfl, hO6, hb6⟩
  rw [h6.out] at hO6 ⊢
  have hs6 := hb6.size
  unfold tabV
  simp only at hO6
  have hH6 := hG5.below hb6 (by omega)
  have hK6 := hH6.frozen
  have hJ6 := hH6.cell
  obtain ⟨V6, hV6, hB6, hS6, hG6, hx6, hy6⟩ := boxedB w6 _ rfl #[.int .i64 2, .int .i64 2, .int .i64 1, .int .i64 0, .slice A6 2 c6, .int .u32 0] 27
  have hL6' := hG6
  have hL6 := hG6.cell
  have hM6 := hG6.frozen
  obtain ⟨W6, hW6, ho6, hT6, hG6, hx6, hy6⟩ := storedB hG6 5 (.int .u32 0)
  clear hx6 hy6
  have hbw6 := Only.below ((hbw5.trans (hb6.mono (by omega))).trans (hB6.mono (by omega))) ho6 (by omega) (by omega)
  have hI6 := (hH6.below hB6 hH6.lt).grown ho6 (by have := hH6.lt; simp; omega)
  have hC6 := hI6.cell
  have hE6 := (((hP5.below (hb6.mono (Nat.le_refl _))).below hB6).box hL6' ho6 (by decide) (by decide)).at_
  go_wp2_with fail
  refine (tabMay_any ⟨2, 2, 1, 0⟩ A5 2 c5 0 [⟨1, [7]⟩, ⟨3, [9]⟩] _ (by omega) hE6).mono ?_
  rintro e7 w7 ⟨rfl, hb7⟩
  rw [h7.out]
  go_wp2_with fail
  go_ret
  exact ⟨rfl, hbw6.trans (hb7.mono (by omega))⟩
end Go.Proofs.Ytpmnchgpbojppaa

/- drydockref05.Few. -/
namespace Go.Proofs.Ytpmnchgpbojppaa
open Go Go.RowKit Go.Proofs.Try

/-- A table is not too great. -/
def Tab.small (t : Tab) : Bool := decide (t.e.length ≤ 20) && t.e.all fun e => decide (e.v.length ≤ 6)
def fewB (ts : List Tab) : Bool := decide (ts.length ≤ 6) && ts.all Tab.small
theorem Tab.small_iff (t : Tab) : t.small = true ↔ t.e.length ≤ 20 ∧ ∀ e ∈ t.e, e.v.length ≤ 6 := by
  simp [Tab.small]

theorem kTab.get {w : World} {B : Nat} {A : Option Addr} {n c : Nat} {ts : List Tab} (h : kTab.At w B A n c ts) {i : Nat} (hi : i < n) :
    ∃ t ad A' n' c', ts[i]? = some t ∧ A = some ad ∧ ad.block < B ∧ w.cell? (ad.add (i * 6)) = some (.int .i64 t.s.kind) ∧
      w.cell? ⟨(ad.add (i * 6)).block, (ad.add (i * 6)).off + 1, none⟩ = some (.int .i64 t.s.cap) ∧
      w.cell? ⟨(ad.add (i * 6)).block, (ad.add (i * 6)).off + 2, none⟩ = some (.int .i64 t.s.words) ∧
      w.cell? ⟨(ad.add (i * 6)).block, (ad.add (i * 6)).off + 3, none⟩ = some (.int .i64 t.s.ver) ∧
      w.cell? ⟨(ad.add (i * 6)).block, (ad.add (i * 6)).off + 4, none⟩ = some (.slice A' n' c') ∧
      w.cell? ⟨(ad.add (i * 6)).block, (ad.add (i * 6)).off + 5, none⟩ = some (.int .u32 (t.next : Int)) ∧ t.s.Ok ∧ t.next < 4294967296 ∧ kEnt.At w B A' n' c' t.e := by
  obtain ⟨x, ad, cs, hx, e, hB, hc, hk⟩ := h.get hi
  obtain ⟨A', n', c', rfl, hs, hlt, hv⟩ := hk
  refine ⟨x, ad, A', n', c', hx, e, hB, ?_, ?_, ?_, ?_, ?_, ?_, hs, hlt, hv⟩
  · simpa [kTab] using hc 0 _ rfl
  all_goals (rw [← add_fld]; exact hc _ _ rfl)

theorem all_take_succ {α : Type} {p : α → Bool} {xs : List α} {k : Nat} {x : α} (h : xs[k]? = some x) : (xs.take (k + 1)).all p = ((xs.take k).all p && p x) := by
  rw [List.take_add_one, h, List.all_append]
  simp

def fewK (ts : List Tab) (k : Nat) : Bool := decide (ts.length ≤ 6) && (ts.take k).all Tab.small
def smallK (t : Tab) (k : Nat) : Bool := decide (t.e.length ≤ 20) && (t.e.take k).all fun e => decide (e.v.length ≤ 6)
theorem fewK_all {ts : List Tab} {n : Nat} (h : ts.length = n) : fewK ts n = fewB ts := by
  unfold fewK fewB
  rw [List.take_of_length_le (by omega)]
theorem smallK_all {t : Tab} {n : Nat} (h : t.e.length = n) : smallK t n = t.small := by
  unfold smallK Tab.small
  rw [List.take_of_length_le (by omega)]
theorem all_take {α : Type} {p : α → Bool} {xs : List α} {k : Nat} (h : (xs.take k).all p = false) : xs.all p = false := by
  cases hx : xs.all p with
  | false => rfl
  | true =>
    rw [List.all_eq_true] at hx
    have : (xs.take k).all p = true := by
      rw [List.all_eq_true]
      intro x hm
      exact hx x (List.mem_of_mem_take hm)
    rw [h] at this
    cases this
theorem fewK_no {ts : List Tab} {k : Nat} (h : fewK ts k = false) : fewB ts = false := by
  unfold fewK at h
  unfold fewB
  rw [Bool.and_eq_false_iff] at h ⊢
  exact h.imp id all_take
theorem smallK_no {t : Tab} {k : Nat} (h : smallK t k = false) : t.small = false := by
  unfold smallK at h
  unfold Tab.small
  rw [Bool.and_eq_false_iff] at h ⊢
  exact h.imp id all_take
theorem fewK_succ {ts : List Tab} {k : Nat} {t : Tab} (h : fewK ts k = true) (ht : ts[k]? = some t) : fewK ts (k + 1) = t.small := by
  unfold fewK at h ⊢
  rw [all_take_succ ht]
  rw [Bool.and_eq_true] at h
  simp [h.1, h.2]
theorem smallK_succ {t : Tab} {k : Nat} {e : Ent} (h : smallK t k = true) (he : t.e[k]? = some e) : smallK t (k + 1) = decide (e.v.length ≤ 6) := by
  unfold smallK at h ⊢
  rw [all_take_succ he]
  rw [Bool.and_eq_true] at h
  simp [h.1, h.2]

set_option maxRecDepth 100000 in
set_option maxHeartbeats 2000000 in
theorem few_any (A : Option Addr) (n c : Nat) (ts : List Tab) (w : World) (B : Nat) (hT : kTab.At w B A n c ts) :
    Calls prog 40 #[.slice A n c] w fun e w' => e = .returned (.bool (fewB ts)) ∧ w = w' := by
  have hn := hT.nle
  have hl := Lib.hid hT.len
  go_enter func40, ntmps40
  go_wp2_with fail
  go_loop [3, 4] (fun ok i => ∃ k : Nat, k ≤ n ∧ i = .int .i64 k ∧ ok = .bool (fewK ts k)) (fun _ i => n - (intOf i).toNat)
  case atStart =>
    refine ⟨0, Nat.zero_le _, rfl, ?_⟩
    simp [fewK, hl.out]
    omega
  case round =>
    obtain ⟨k, hk, rfl, rfl⟩ := hrel
    rcases hok : fewK ts k with _ | _
    · by_cases hlt : k < n
      all_goals
        have hki : decide ((k : Int) < (n : Int)) = decide (k < n) := by simp
        go_wp2_with fail
        go_ret
        exact ⟨ret_bool (fewK_no hok).symm, rfl⟩
    by_cases hlt : k < n
    case neg =>
      go_wp2_with fail
      go_ret
      obtain rfl : k = n := by omega
      exact ⟨ret_bool (by rw [← fewK_all hl.out, hok]), rfl⟩
    obtain ⟨t, ad, A', m, c', ht, rfl, hadB, q0, q1, q2, q3, q4, q5, hs, hnx, hE⟩ := kTab.get hT hlt
    have hm := hE.nle
    have hlm := Lib.hid hE.len
    replace ht := Lib.hid ht
    go_wp2_with fail
    go_loop [3, 5] (fun ok j => ∃ q : Nat, q ≤ m ∧ j = .int .i64 q ∧ ok = .bool (smallK t q)) (fun _ j => m - (intOf j).toNat)
    case atStart =>
      refine ⟨0, Nat.zero_le _, rfl, ?_⟩
      simp [smallK, hlm.out]
      omega
    case round =>
      obtain ⟨q, hq, rfl, rfl⟩ := hrel
      have hend : ∀ b : Bool, b = t.small → fewK ts (k + 1) = b := fun b hb => by rw [hb]; exact fewK_succ hok ht.out
      replace hend := Lib.hid hend
      rcases hok' : smallK t q with _ | _
      · have hfin := Lib.hid (hend.out false (smallK_no hok').symm)
        by_cases hlt' : q < m
        all_goals
          go_wp2_with fail
          refine ⟨⟨k + 1, by omega, by go_num, by rw [hfin.out]⟩, by simp [intOf]; omega⟩
      by_cases hlt' : q < m
      case neg =>
        obtain rfl : q = m := by omega
        have hfin := Lib.hid (hend.out true (by rw [← smallK_all hlm.out, hok']))
        go_wp2_with fail
        refine ⟨⟨k + 1, by omega, by go_num, by rw [hfin.out]⟩, by simp [intOf]; omega⟩
      obtain ⟨e, ad', D, m', d, he, rfl, hb1, hk0, hk1, hkey, hv⟩ := kEnt.get hE hlt'
      have hv' := hv.nle
      have hfin := Lib.hid (smallK_succ hok' he)
      have hvl := Lib.hid hv.len
      clear he
      go_wp2_with fail
      refine ⟨⟨q + 1, by omega, by go_num, ?_⟩, by simp [intOf]; omega⟩
      rw [hfin.out, hvl.out]
      simp
      omega

set_option maxHeartbeats 1000000 in
theorem few1_any (s : Sch) (A : Option Addr) (n c nx : Nat) (es : List Ent) (w : World) (hs : s.Ok) (hx : nx < 4294967296) (hE : kEnt.At w w.heap.size A n c es) :
    Calls prog 20 #[tabV s A n c nx] w fun e w' => e = .returned (.bool (Tab.small ⟨s, es, nx⟩)) ∧ Below w.heap.size w w' := by
  unfold tabV
  obtain ⟨W1, hW1, hB1, hS1, hC1, hF1, hO1⟩ := boxed w _ rfl #[.int .i64 s.kind, .int .i64 s.cap, .int .i64 s.words, .int .i64 s.ver, .slice A n c, .int .u32 (nx : Int)] 27
  obtain ⟨W2, hW2, hB2, hS2, hC2, hF2, hO2⟩ := boxed W1 _ hS1 #[.int .i64 s.kind, .int .i64 s.cap, .int .i64 s.words, .int .i64 s.ver, .slice A n c, .int .u32 (nx : Int)] 27
  have hB := hB1.trans (hB2.mono (Nat.le_succ _))
  have hT : kTab.At W2 W2.heap.size (some ⟨w.heap.size + 1, 0, none⟩) 1 1 [Tab.mk s es nx] := by
    refine ⟨rfl, Nat.le_refl _, by simp [maxLen], fun i x hi => ?_⟩
    obtain rfl : i = 0 := by
      have := (List.getElem?_eq_some_iff.1 hi).1
      simp at this
      omega
    simp at hi
    subst hi
    refine ⟨_, _, rfl, by simp [hS2], ?_, ⟨A, n, c, rfl, hs, hx, (hE.below hB).mono (by omega)⟩⟩
    intro j u hu
    rw [add_lit0]
    simp only [Nat.zero_mul, Nat.zero_add]
    rw [hC2 j]
    simpa using hu
  have hfin : fewB [Tab.mk s es nx] = Tab.small ⟨s, es, nx⟩ := by simp [fewB]
  replace hfin := Lib.hid hfin
  go_enter func20, ntmps20
  go_wp2_with (go_at_call 40; refine (few_any _ _ _ [Tab.mk s es nx] _ _ hT).mono ?_; rintro e1 w2 ⟨rfl, rfl⟩)
  go_ret
  exact ⟨ret_bool hfin.out, hB⟩
end Go.Proofs.Ytpmnchgpbojppaa

/- drydockref01.Words, slices.Equal. -/
namespace Go.Proofs.Ytpmnchgpbojppaa
open Go Go.RowKit Go.Proofs.Try

set_option maxHeartbeats 1000000 in
theorem words_any (A A' : Option Addr) (n n' c c' : Nat) (xs ys : List Nat) (w : World) (B : Nat) (hx : kW.At w B A n c xs) (hy : kW.At w B A' n' c' ys) :
    Calls prog 53 #[.slice A n c, .slice A' n' c'] w fun e w' => e = .returned (.bool (sameB xs ys)) ∧ Drawn w w' := by
  have hn := hx.nle
  have hlx := Lib.hid hx.len
  have hly := Lib.hid hy.len
  rcases hnn : ((n : Int) != (n' : Int)) with _ | _
  · have e1 : n' = n := by simp at hnn; omega
    subst e1
    go_enter func53, ntmps53
    go_wp2_with fail
    go_loopw [5] (fun i wr => ∃ k : Nat, k ≤ n' ∧ i = .int .i64 k ∧ Drawn w wr ∧ (∀ i, i < k → xs[i]? = ys[i]?)) (fun i _ => n' - (intOf i).toNat)
    case atStart => exact ⟨0, Nat.zero_le _, rfl, Drawn.refl _, fun i h => absurd h (by omega)⟩
    case round =>
      obtain ⟨k, hk, rfl, hd, hall⟩ := hrel
      replace hall := Lib.hid hall
      by_cases hlt : k < n'
      · obtain ⟨x, ad, h1, rfl, hb1, hc1, hx1⟩ := kW.get (hx.below hd.below) hlt
        obtain ⟨y, ad', h2, rfl, hb2, hc2, hy1⟩ := kW.get (hy.below hd.below) hlt
        replace h1 := Lib.hid h1
        replace h2 := Lib.hid h2
        have hki : (k : Int) < (n' : Int) := by omega
        rcases hxy : ((x : Int) != (y : Int)) with _ | _
        · go_wp2_with fail
          go_quiet (fail)
          go_wp2_with fail
          refine ⟨⟨k + 1, by omega, by go_num, hd.step _, fun i hi => ?_⟩, by simp [intOf]; omega⟩
          rcases Nat.lt_or_ge i k with h | h
          · exact hall.out i h
          · obtain rfl : i = k := by omega
            rw [h1.out, h2.out]
            simp at hxy
            rw [show x = y by omega]
        · go_wp2_with fail
          go_quiet (fail)
          go_wp2_with fail
          go_ret
          refine ⟨ret_bool ?_, hd.step _⟩
          symm
          rw [sameB_no]
          rintro rfl
          have h3 := h1.out.symm.trans h2.out
          simp at h3
          simp [h3] at hxy
      · go_wp2_with fail
        go_ret
        obtain rfl : k = n' := by omega
        exact ⟨ret_bool (sameB_iff.2 (list_same hlx.out hly.out hall.out)).symm, hd⟩
  · go_enter func53, ntmps53
    go_wp2_with fail
    go_ret
    refine ⟨ret_bool ?_, Drawn.refl _⟩
    symm
    rw [sameB_no]
    rintro rfl
    have := hlx.out.symm.trans hly.out
    simp [this] at hnn

set_option maxHeartbeats 1000000 in
theorem equal_any (A A' : Option Addr) (n n' c c' : Nat) (xs ys : List Nat) (w : World) (B : Nat) (hx : kW.At w B A n c xs) (hy : kW.At w B A' n' c' ys) :
    Calls prog 62 #[.slice A n c, .slice A' n' c'] w fun e w' => e = .returned (.bool (sameB xs ys)) ∧ Drawn w w' := by
  have hn := hx.nle
  have hlx := Lib.hid hx.len
  have hly := Lib.hid hy.len
  rcases hnn : ((n : Int) != (n' : Int)) with _ | _
  · have e1 : n' = n := by simp at hnn; omega
    subst e1
    go_enter func62, ntmps62
    go_wp2_with fail
    go_loopw [13] (fun i wr => ∃ k : Nat, k ≤ n' ∧ i = .int .i64 k ∧ Drawn w wr ∧ (∀ i, i < k → xs[i]? = ys[i]?)) (fun i _ => n' - (intOf i).toNat)
    case atStart => exact ⟨0, Nat.zero_le _, rfl, Drawn.refl _, fun i h => absurd h (by omega)⟩
    case round =>
      obtain ⟨k, hk, rfl, hd, hall⟩ := hrel
      replace hall := Lib.hid hall
      by_cases hlt : k < n'
      · obtain ⟨x, ad, h1, rfl, hb1, hc1, hx1⟩ := kW.get (hx.below hd.below) hlt
        obtain ⟨y, ad', h2, rfl, hb2, hc2, hy1⟩ := kW.get (hy.below hd.below) hlt
        replace h1 := Lib.hid h1
        replace h2 := Lib.hid h2
        have hki : (k : Int) < (n' : Int) := by omega
        rcases hxy : ((x : Int) != (y : Int)) with _ | _
        · go_wp2_with fail
          go_quiet (fail)
          go_wp2_with fail
          refine ⟨⟨k + 1, by omega, by go_num, hd.step _, fun i hi => ?_⟩, by simp [intOf]; omega⟩
          rcases Nat.lt_or_ge i k with h | h
          · exact hall.out i h
          · obtain rfl : i = k := by omega
            rw [h1.out, h2.out]
            simp at hxy
            rw [show x = y by omega]
        · go_wp2_with fail
          go_quiet (fail)
          go_wp2_with fail
          go_ret
          refine ⟨ret_bool ?_, hd.step _⟩
          symm
          rw [sameB_no]
          rintro rfl
          have h3 := h1.out.symm.trans h2.out
          simp at h3
          simp [h3] at hxy
      · go_wp2_with fail
        go_ret
        obtain rfl : k = n' := by omega
        exact ⟨ret_bool (sameB_iff.2 (list_same hlx.out hly.out hall.out)).symm, hd⟩
  · go_enter func62, ntmps62
    go_wp2_with fail
    go_ret
    refine ⟨ret_bool ?_, Drawn.refl _⟩
    symm
    rw [sameB_no]
    rintro rfl
    have := hlx.out.symm.trans hly.out
    simp [this] at hnn
end Go.Proofs.Ytpmnchgpbojppaa

/- drydockref05.Same, table.Same. -/
namespace Go.Proofs.Ytpmnchgpbojppaa
open Go Go.RowKit Go.Proofs.Try

set_option maxRecDepth 100000 in
set_option maxHeartbeats 2000000 in
theorem refSame_any (s s' : Sch) (A A' : Option Addr) (n n' c c' nx nx' : Nat) (es es' : List Ent) (w : World) (hE : kEnt.At w w.heap.size A n c es) (hE' : kEnt.At w w.heap.size A' n' c' es') :
    Calls prog 26 #[tabV s A n c nx, tabV s' A' n' c' nx'] w fun e w' => e = .returned (.bool (sameB (Tab.mk s es nx) (Tab.mk s' es' nx'))) ∧ Below w.heap.size w w' := by
  have hn := hE.nle
  have hl := Lib.hid hE.len
  have hl' := Lib.hid hE'.len
  unfold tabV
  obtain ⟨W1, hW1, hB1, hS1, hC1, hF1, hO1⟩ := boxed w _ rfl #[.int .i64 s.kind, .int .i64 s.cap, .int .i64 s.words, .int .i64 s.ver, .slice A n c, .int .u32 (nx : Int)] 27
  obtain ⟨W2, hW2, hB2, hS2, hC2, hF2, hO2⟩ := boxed W1 _ hS1 #[.int .i64 s'.kind, .int .i64 s'.cap, .int .i64 s'.words, .int .i64 s'.ver, .slice A' n' c', .int .u32 (nx' : Int)] 27
  have hB := hB1.trans (hB2.mono (Nat.le_succ _))
  by_cases hss : s = s' ∧ nx = nx'
  case neg =>
    replace hss := Lib.hid hss
    go_enter func26, ntmps26
    go_wp2_with fail
    all_goals first
      | (go_ret
         refine ⟨ret_bool (sameB_no.2 ?_).symm, hB⟩
         intro h
         simp only [Tab.mk.injEq] at h
         exact hss.out ⟨h.1, h.2.2⟩)
      | (exfalso
         refine hss.out ⟨?_, by omega⟩
         cases s; cases s'
         simp_all)
  obtain ⟨rfl, rfl⟩ := hss
  rcases hnn : ((n : Int) != (n' : Int)) with _ | _
  case true =>
    go_enter func26, ntmps26
    go_wp2_with fail
    go_ret
    refine ⟨ret_bool (sameB_no.2 ?_).symm, hB⟩
    intro h
    simp only [Tab.mk.injEq] at h
    obtain ⟨_, rfl, _⟩ := h
    have := hl.out.symm.trans hl'.out
    simp [this] at hnn
  have e1 : n' = n := by simp at hnn; omega
  subst e1
  go_enter func26, ntmps26
  go_wp2_with fail
  go_loopw [5] (fun i wr => ∃ k : Nat, k ≤ n' ∧ i = .int .i64 k ∧ Drawn W2 wr ∧ (∀ i, i < k → es[i]? = es'[i]?)) (fun i _ => n' - (intOf i).toNat)
  case atStart => exact ⟨0, Nat.zero_le _, rfl, Drawn.refl _, fun i h => absurd h (by omega)⟩
  case round =>
    obtain ⟨k, hk, rfl, hd, hall⟩ := hrel
    replace hall := Lib.hid hall
    have hbr := hB.trans hd.below
    obtain ⟨hc3, hf3⟩ := bcell (hd.below (B := w.heap.size + 2))
    by_cases hlt : k < n'
    · obtain ⟨e, ad, D, m, d, h1, rfl, hb1, hk0, hk1, hkey, hv⟩ := kEnt.get (hE.below hbr) hlt
      obtain ⟨e', ad', D', m', d', h1', rfl, hb1', hk0', hk1', hkey', hv'⟩ := kEnt.get (hE'.below hbr) hlt
      replace h1 := Lib.hid h1
      replace h1' := Lib.hid h1'
      have hki : (k : Int) < (n' : Int) := by omega
      rcases hvv : sameB e.v e'.v with _ | _
      · go_wp2_with fail
        go_quiet ((go_at_call 53; exact Drawn.quiet (words_any _ _ _ _ _ _ _ _ _ _ (by exact hv.below (below_drewN (Below.refl _ _) _)) (by exact hv'.below (below_drewN (Below.refl _ _) _)))))
        go_wp2_with fail
        go_quiet (fail)
        go_wp2_with fail
        go_ret
        refine ⟨ret_bool (sameB_no.2 ?_).symm, by first | exact below_drewN hbr _ | exact below_drewN (below_drewN hbr _) _⟩
        intro h
        simp only [Tab.mk.injEq] at h
        obtain ⟨_, rfl, _⟩ := h
        obtain rfl : e = e' := by have := h1.out.symm.trans h1'.out; simpa using this
        rw [sameB_self] at hvv
        cases hvv
      rcases hkk : ((e.key : Int) != (e'.key : Int)) with _ | _
      · go_wp2_with fail
        go_quiet ((go_at_call 53; exact Drawn.quiet (words_any _ _ _ _ _ _ _ _ _ _ (by exact hv.below (below_drewN (Below.refl _ _) _)) (by exact hv'.below (below_drewN (Below.refl _ _) _)))))
        go_wp2_with fail
        go_quiet (fail)
        go_wp2_with fail
        refine ⟨⟨k + 1, by omega, by go_num, by first | exact hd.step _ | exact (hd.step _).step _, fun i hi => ?_⟩, by simp [intOf]; omega⟩
        rcases Nat.lt_or_ge i k with h | h
        · exact hall.out i h
        · obtain rfl : i = k := by omega
          rw [h1.out, h1'.out]
          have hvv' := sameB_iff.1 hvv
          cases e; cases e'
          simp at hkk hvv' ⊢
          exact ⟨by omega, hvv'⟩
      · go_wp2_with fail
        go_quiet ((go_at_call 53; exact Drawn.quiet (words_any _ _ _ _ _ _ _ _ _ _ (by exact hv.below (below_drewN (Below.refl _ _) _)) (by exact hv'.below (below_drewN (Below.refl _ _) _)))))
        go_wp2_with fail
        go_quiet (fail)
        go_wp2_with fail
        go_ret
        refine ⟨ret_bool (sameB_no.2 ?_).symm, by first | exact below_drewN hbr _ | exact below_drewN (below_drewN hbr _) _⟩
        intro h
        simp only [Tab.mk.injEq] at h
        obtain ⟨_, rfl, _⟩ := h
        obtain rfl : e = e' := by have := h1.out.symm.trans h1'.out; simpa using this
        simp at hkk
    · go_wp2_with fail
      go_ret
      obtain rfl : k = n' := by omega
      refine ⟨ret_bool (sameB_iff.2 ?_).symm, hbr⟩
      rw [list_same hl.out hl'.out hall.out]
end Go.Proofs.Ytpmnchgpbojppaa

/- table.Same: its closure, slices.EqualFunc, itself. -/
namespace Go.Proofs.Ytpmnchgpbojppaa
open Go Go.RowKit Go.Proofs.Try

set_option maxHeartbeats 1000000 in
theorem entEq_any (k k' : Nat) (A A' : Option Addr) (n n' c c' : Nat) (xs ys : List Nat) (w : World) (hx : kW.At w w.heap.size A n c xs) (hy : kW.At w w.heap.size A' n' c' ys) :
    Calls prog 61 #[.agg #[.int .u32 (k : Int), .slice A n c], .agg #[.int .u32 (k' : Int), .slice A' n' c']] w fun e w' => e = .returned (.bool (sameB (Ent.mk k xs) (Ent.mk k' ys))) ∧ Below w.heap.size w w' := by
  obtain ⟨W1, hW1, hB1, hS1, hC1, hF1, hO1⟩ := boxed w _ rfl #[.int .u32 (k : Int), .slice A n c] 39
  obtain ⟨W2, hW2, hB2, hS2, hC2, hF2, hO2⟩ := boxed W1 _ hS1 #[.int .u32 (k' : Int), .slice A' n' c'] 39
  have hB := hB1.trans (hB2.mono (Nat.le_succ _))
  rcases hk : ((k : Int) == (k' : Int)) with _ | _
  · go_enter func61, ntmps61
    go_wp2_with fail
    go_ret
    refine ⟨ret_bool (sameB_no.2 ?_).symm, hB⟩
    intro h
    simp only [Ent.mk.injEq] at h
    simp [h.1] at hk
  · rcases hv : sameB xs ys with _ | _
    all_goals
      go_enter func61, ntmps61
      go_wp2_with (go_at_call 62; refine (equal_any _ _ _ _ _ _ xs ys _ _ (by exact hx.below hB) (by exact hy.below hB)).mono ?_; rintro e1 w2 ⟨rfl, hd⟩)
      go_ret
    · exact ⟨ret_bool (by rw [eq_comm, sameB_no]; intro h; simp only [Ent.mk.injEq] at h; exact sameB_no.1 hv h.2), hB.trans hd.below⟩
    · have e1 := sameB_iff.1 hv
      have e2 : k = k' := by simp at hk; omega
      exact ⟨ret_bool (by rw [e1, e2, sameB_self]), hB.trans hd.below⟩

set_option maxRecDepth 100000 in
set_option maxHeartbeats 2000000 in
theorem eqFunc_any (A A' : Option Addr) (n n' c c' : Nat) (es es' : List Ent) (w : World) (hE : kEnt.At w w.heap.size A n c es) (hE' : kEnt.At w w.heap.size A' n' c' es') :
    Calls prog 60 #[.slice A n c, .slice A' n' c', .func (.func 61) #[] #[]] w fun e w' => e = .returned (.bool (sameB es es')) ∧ Below w.heap.size w w' := by
  have hn := hE.nle
  have hl := Lib.hid hE.len
  have hl' := Lib.hid hE'.len
  rcases hnn : ((n : Int) != (n' : Int)) with _ | _
  case true =>
    go_enter func60, ntmps60
    go_wp2_with fail
    go_ret
    refine ⟨ret_bool (sameB_no.2 ?_).symm, Below.refl _ _⟩
    rintro rfl
    have := hl.out.symm.trans hl'.out
    simp [this] at hnn
  have e1 : n' = n := by simp at hnn; omega
  subst e1
  go_enter func60, ntmps60
  go_wp2_with fail
  go_loopw [17] (fun i wr => ∃ k : Nat, k ≤ n' ∧ i = .int .i64 k ∧ Below w.heap.size w wr ∧ (∀ i, i < k → es[i]? = es'[i]?)) (fun i _ => n' - (intOf i).toNat)
  case atStart => exact ⟨0, Nat.zero_le _, rfl, Below.refl _ _, fun i h => absurd h (by omega)⟩
  case round =>
    obtain ⟨k, hk, rfl, hb, hall⟩ := hrel
    replace hall := Lib.hid hall
    have hsz := hb.size
    by_cases hlt : k < n'
    · obtain ⟨e, ad, D, m, d, h1, rfl, hb1, hk0, hk1, hkey, hv⟩ := kEnt.get (hE.below hb) hlt
      obtain ⟨e', ad', D', m', d', h1', rfl, hb1', hk0', hk1', hkey', hv'⟩ := kEnt.get (hE'.below hb) hlt
      replace h1 := Lib.hid h1
      replace h1' := Lib.hid h1'
      have hki : (k : Int) < (n' : Int) := by omega
      obtain ⟨W1, hW1, hB1, hS1, hC1, hF1, hO1⟩ := boxed wr _ rfl #[.int .u32 (e.key : Int), .slice D m d] 39
      have hx1 : W1.cell? (ad'.add (k * 2)) = some (Value.int IntKind.u32 ↑e'.key) := (hB1.cell (by rw [add_block]; omega)).trans hk0'
      have hx2 : W1.cell? ⟨(ad'.add (k * 2)).block, (ad'.add (k * 2)).off + 1, none⟩ = some (Value.slice D' m' d') := (hB1.cell (by show (ad'.add (k * 2)).block < _; rw [add_block]; omega)).trans hk1'
      obtain ⟨W2, hW2, hB2, hS2, hC2, hF2, hO2⟩ := boxed W1 _ hS1 #[.int .u32 (e'.key : Int), .slice D' m' d'] 39
      have hB := hB1.trans (hB2.mono (Nat.le_succ _))
      have hbn := hb.trans (hB.mono hsz)
      rcases hee : sameB e e' with _ | _
      · replace hee : sameB (Ent.mk e.key e.v) (Ent.mk e'.key e'.v) = false := hee
        go_wp2_with (go_at_call 61; refine (entEq_any _ _ _ _ _ _ _ _ e.v e'.v _ (by exact (hv.below (hB.mono hsz)).mono (by omega)) (by exact (hv'.below (hB.mono hsz)).mono (by omega))).mono ?_; rintro e1 w2 ⟨rfl, hb2⟩)
        go_ret
        refine ⟨ret_bool (sameB_no.2 ?_).symm, hbn.trans (hb2.mono (by omega))⟩
        rintro rfl
        have := h1.out.symm.trans h1'.out
        simp only [Option.some.injEq] at this
        rw [this, sameB_self] at hee
        cases hee
      · have hee' := sameB_iff.1 hee
        replace hee : sameB (Ent.mk e.key e.v) (Ent.mk e'.key e'.v) = true := hee
        replace hee' := Lib.hid hee'
        go_wp2_with (go_at_call 61; refine (entEq_any _ _ _ _ _ _ _ _ e.v e'.v _ (by exact (hv.below (hB.mono hsz)).mono (by omega)) (by exact (hv'.below (hB.mono hsz)).mono (by omega))).mono ?_; rintro e1 w2 ⟨rfl, hb2⟩)
        refine ⟨⟨k + 1, by omega, by go_num, hbn.trans (hb2.mono (by omega)), fun i hi => ?_⟩, by simp [intOf]; omega⟩
        rcases Nat.lt_or_ge i k with h | h
        · exact hall.out i h
        · obtain rfl : i = k := by omega
          rw [h1.out, h1'.out, hee'.out]
    · go_wp2_with fail
      go_ret
      obtain rfl : k = n' := by omega
      exact ⟨ret_bool (sameB_iff.2 (list_same hl.out hl'.out hall.out)).symm, hb⟩

set_option maxRecDepth 100000 in
set_option maxHeartbeats 2000000 in
theorem tabSame_any (s s' : Sch) (A A' : Option Addr) (n n' c c' nx nx' : Nat) (es es' : List Ent) (w : World) (hE : kEnt.At w w.heap.size A n c es) (hE' : kEnt.At w w.heap.size A' n' c' es') :
    Calls prog 31 #[tabV s A n c nx, tabV s' A' n' c' nx'] w fun e w' => e = .returned (.bool (sameB (Tab.mk s es nx) (Tab.mk s' es' nx'))) ∧ Below w.heap.size w w' := by
  unfold tabV
  obtain ⟨W1, hW1, hB1, hS1, hC1, hF1, hO1⟩ := boxed w _ rfl #[.int .i64 s.kind, .int .i64 s.cap, .int .i64 s.words, .int .i64 s.ver, .slice A n c, .int .u32 (nx : Int)] 27
  obtain ⟨W2, hW2, hB2, hS2, hC2, hF2, hO2⟩ := boxed W1 _ hS1 #[.int .i64 s'.kind, .int .i64 s'.cap, .int .i64 s'.words, .int .i64 s'.ver, .slice A' n' c', .int .u32 (nx' : Int)] 27
  have hB := hB1.trans (hB2.mono (Nat.le_succ _))
  by_cases hss : s = s' ∧ nx = nx'
  case neg =>
    replace hss := Lib.hid hss
    go_enter func31, ntmps31
    go_wp2_with fail
    all_goals first
      | (go_ret
         refine ⟨ret_bool (sameB_no.2 ?_).symm, hB⟩
         intro h
         simp only [Tab.mk.injEq] at h
         exact hss.out ⟨h.1, h.2.2⟩)
      | (exfalso
         refine hss.out ⟨?_, by omega⟩
         cases s; cases s'
         simp_all)
  obtain ⟨rfl, rfl⟩ := hss
  rcases hee : sameB es es' with _ | _
  all_goals
    go_enter func31, ntmps31
    go_wp2_with (go_at_call 60; refine (eqFunc_any _ _ _ _ _ _ es es' _ (by exact (hE.below hB).mono (by omega)) (by exact (hE'.below hB).mono (by omega))).mono ?_; rintro e1 w2 ⟨rfl, hb2⟩)
    go_ret
  · exact ⟨ret_bool (by rw [eq_comm, sameB_no]; intro h; simp only [Tab.mk.injEq] at h; exact sameB_no.1 hee h.2.1), hB.trans (hb2.mono (by omega))⟩
  · exact ⟨ret_bool (by rw [sameB_iff.1 hee, sameB_self]), hB.trans (hb2.mono (by omega))⟩
end Go.Proofs.Ytpmnchgpbojppaa

/- The contracts of table's functions, for the abstract machine. -/
set_option linter.unusedVariables false
namespace Go.Proofs.Ytpmnchgpbojppaa
open Go Go.RowKit Go.Proofs.Try

theorem get_s (t : Tab) (key fl : Nat) : (t.get key fl).1.s = t.s ∧ (t.get key fl).1.next = t.next := by
  unfold Tab.get
  split <;> exact ⟨rfl, rfl⟩
theorem del_s (t : Tab) (key : Nat) : (t.del key).1.s = t.s ∧ (t.del key).1.next = t.next := by
  unfold Tab.del
  split
  · exact ⟨rfl, rfl⟩
  · split <;> exact ⟨rfl, rfl⟩
theorem avTab_ofs {w : World} {x : Cx} {hp : Hp} {f : Bool} {t : Tab} {s : Sch} {A : Option Addr} {n c nx : Nat} (h1 : t.s = s) (h2 : t.next = nx) (h : Dat w x.ok (.sl f (t.e.map encEnt)) (.slice A n c)) : VRel w x hp (avTab f t) (tabV s A n c nx) := by
  subst h1
  subst h2
  exact avTab_of h

theorem new_ctr (s : Sch) : Ctr prog 24 [avSch s] [] (.tup [avTab false (Tab.new s).1, .raw (.int .i64 (Tab.new s).2)]) [] := by
  refine Ctr.old call24 fun w cx vals hH hsz ha => ?_
  have e0 := avSch_inv (ha 0 _ rfl)
  have hv : vals = #[.agg #[.int .i64 s.kind, .int .i64 s.cap, .int .i64 s.words, .int .i64 s.ver]] := by
    refine arr_eq hsz fun i hi => ?_
    have hi : i < 1 := hi
    match i, hi with
    | 0, _ => exact e0
  subst hv
  refine Calls.mono (new_any s w) ?_
  rintro e w' ⟨A', n', c', us, rfl, hO, hb⟩
  refine ⟨_, rfl, hb, .tup _ _ rfl (fun i u hu => ?_)⟩
  match i, hu with
  | 0, hu => cases hu; exact avTab_of (ownEs_dat hO fresh_ok)
  | 1, hu => cases hu; exact .raw _
  | i + 2, hu => simp at hu

theorem own_ctr (f : Bool) (t : Tab) (hfit : fits t.e) (hl0 : okEs t.e) : Ctr prog 54 [avTab f t] [] (avTab false t) [] := by
  refine Ctr.old call54 fun w cx vals hH hsz ha => ?_
  obtain ⟨A0, c0, e0, hE0⟩ := avTab_inv hH.okb (ha 0 _ rfl) hl0
  have hv : vals = #[tabV t.s A0 t.e.length c0 t.next] := by
    refine arr_eq hsz fun i hi => ?_
    have hi : i < 1 := hi
    match i, hi with
    | 0, _ => exact e0
  subst hv
  refine Calls.mono (own_any t.s A0 _ c0 t.next t.e w hfit hE0) ?_
  rintro e w' ⟨A', us, rfl, hO, hb⟩
  exact ⟨_, rfl, hb, avTab_of (ownEs_dat hO fresh_ok)⟩

theorem get_ctr (f : Bool) (t : Tab) (key fl : Nat) (hx : t.next < 4294967296) (hf : fl < 4294967296) (hfit : fits t.e) (hl0 : okEs t.e) : Ctr prog 22 [avTab f t, .raw (.int .u32 (key : Int)), .raw (.int .u32 (fl : Int))] [] (.tup [avTab false (t.get key fl).1, .raw (.int .u32 ((t.get key fl).2.1 : Int)), .raw (.bool (t.get key fl).2.2)]) [] := by
  refine Ctr.old call22 fun w cx vals hH hsz ha => ?_
  obtain ⟨A0, c0, e0, hE0⟩ := avTab_inv hH.okb (ha 0 _ rfl) hl0
  have e1 := (ha 1 _ rfl).rawEq
  have e2 := (ha 2 _ rfl).rawEq
  have hv : vals = #[tabV t.s A0 t.e.length c0 t.next, .int .u32 (key : Int), .int .u32 (fl : Int)] := by
    refine arr_eq hsz fun i hi => ?_
    have hi : i < 3 := hi
    match i, hi with
    | 0, _ => exact e0
    | 1, _ => exact e1
    | 2, _ => exact e2
  subst hv
  refine Calls.mono (get_any t.s A0 _ c0 t.next key fl t.e w hx hf hfit hE0) ?_
  rintro e w' ⟨A', c', us, rfl, hO, hb⟩
  refine ⟨_, rfl, hb, .tup _ _ rfl (fun i u hu => ?_)⟩
  match i, hu with
  | 0, hu => cases hu; exact avTab_ofs (get_s t key fl).1 (get_s t key fl).2 (ownEs_dat hO fresh_ok)
  | 1, hu => cases hu; exact .raw _
  | 2, hu => cases hu; exact .raw _
  | i + 3, hu => simp at hu

theorem set_ctr (f : Bool) (t : Tab) (key fl x : Nat) (hx : t.next < 4294967296) (hf : fl < 4294967296) (hk : key < 4294967296) (hxx : x < 4294967296) (hfit : fits t.e) (hl0 : okEs t.e) : Ctr prog 21 [avTab f t, .raw (.int .u32 (key : Int)), .raw (.int .u32 (fl : Int)), .raw (.int .u32 (x : Int))] [] (.tup [avTab false (t.set key fl x).1, .raw (.int .i64 (t.set key fl x).2)]) [] := by
  refine Ctr.old call21 fun w cx vals hH hsz ha => ?_
  obtain ⟨A0, c0, e0, hE0⟩ := avTab_inv hH.okb (ha 0 _ rfl) hl0
  have e1 := (ha 1 _ rfl).rawEq
  have e2 := (ha 2 _ rfl).rawEq
  have e3 := (ha 3 _ rfl).rawEq
  have hv : vals = #[tabV t.s A0 t.e.length c0 t.next, .int .u32 (key : Int), .int .u32 (fl : Int), .int .u32 (x : Int)] := by
    refine arr_eq hsz fun i hi => ?_
    have hi : i < 4 := hi
    match i, hi with
    | 0, _ => exact e0
    | 1, _ => exact e1
    | 2, _ => exact e2
    | 3, _ => exact e3
  subst hv
  refine Calls.mono (set_any t.s A0 _ c0 t.next key fl x t.e w hx hf hk hxx hfit hE0) ?_
  rintro e w' ⟨A', n', c', us, rfl, hO, hb⟩
  refine ⟨_, rfl, hb, .tup _ _ rfl (fun i u hu => ?_)⟩
  match i, hu with
  | 0, hu => cases hu; exact avTab_of (ownEs_dat hO fresh_ok)
  | 1, hu => cases hu; exact .raw _
  | i + 2, hu => simp at hu

theorem del_ctr (f : Bool) (t : Tab) (key : Nat) (hx : t.next < 4294967296) (hfit : fits t.e) (hl0 : okEs t.e) : Ctr prog 29 [avTab f t, .raw (.int .u32 (key : Int))] [] (.tup [avTab false (t.del key).1, .raw (.bool (t.del key).2)]) [] := by
  refine Ctr.old call29 fun w cx vals hH hsz ha => ?_
  obtain ⟨A0, c0, e0, hE0⟩ := avTab_inv hH.okb (ha 0 _ rfl) hl0
  have e1 := (ha 1 _ rfl).rawEq
  have hv : vals = #[tabV t.s A0 t.e.length c0 t.next, .int .u32 (key : Int)] := by
    refine arr_eq hsz fun i hi => ?_
    have hi : i < 2 := hi
    match i, hi with
    | 0, _ => exact e0
    | 1, _ => exact e1
  subst hv
  refine Calls.mono (del_any t.s A0 _ c0 t.next key t.e w hx hfit hE0) ?_
  rintro e w' ⟨A', n', c', us, rfl, hO, hb⟩
  refine ⟨_, rfl, hb, .tup _ _ rfl (fun i u hu => ?_)⟩
  match i, hu with
  | 0, hu => cases hu; exact avTab_ofs (del_s t key).1 (del_s t key).2 (ownEs_dat hO fresh_ok)
  | 1, hu => cases hu; exact .raw _
  | i + 2, hu => simp at hu

theorem may_ctr (f : Bool) (t : Tab) (hx : t.next < 4294967296) (hl0 : okEs t.e) : Ctr prog 23 [avTab f t] [] (.raw (.bool t.may)) [] := by
  refine Ctr.old call23 fun w cx vals hH hsz ha => ?_
  obtain ⟨A0, c0, e0, hE0⟩ := avTab_inv hH.okb (ha 0 _ rfl) hl0
  have hv : vals = #[tabV t.s A0 t.e.length c0 t.next] := by
    refine arr_eq hsz fun i hi => ?_
    have hi : i < 1 := hi
    match i, hi with
    | 0, _ => exact e0
  subst hv
  refine Calls.mono (tabMay_any t.s A0 _ c0 t.next t.e w hx hE0) ?_
  rintro e w' ⟨rfl, hb⟩
  exact ⟨_, rfl, hb, .raw _⟩

theorem rmay_ctr (f : Bool) (t : Tab) (hx : t.next < 4294967296) (hl0 : okEs t.e) : Ctr prog 38 [avTab f t] [] (.raw (.bool t.may)) [] := by
  refine Ctr.old call38 fun w cx vals hH hsz ha => ?_
  obtain ⟨A0, c0, e0, hE0⟩ := avTab_inv hH.okb (ha 0 _ rfl) hl0
  have hv : vals = #[tabV t.s A0 t.e.length c0 t.next] := by
    refine arr_eq hsz fun i hi => ?_
    have hi : i < 1 := hi
    match i, hi with
    | 0, _ => exact e0
  subst hv
  refine Calls.mono (refMay_any t.s A0 _ c0 t.next t.e w hx hE0) ?_
  rintro e w' ⟨rfl, hb⟩
  exact ⟨_, rfl, hb, .raw _⟩

theorem rsame_ctr (f f2 : Bool) (t t2 : Tab) (hl0 : okEs t.e) (hl1 : okEs t2.e) : Ctr prog 26 [avTab f t, avTab f2 t2] [] (.raw (.bool (sameB t t2))) [] := by
  refine Ctr.old call26 fun w cx vals hH hsz ha => ?_
  obtain ⟨A0, c0, e0, hE0⟩ := avTab_inv hH.okb (ha 0 _ rfl) hl0
  obtain ⟨A1, c1, e1, hE1⟩ := avTab_inv hH.okb (ha 1 _ rfl) hl1
  have hv : vals = #[tabV t.s A0 t.e.length c0 t.next, tabV t2.s A1 t2.e.length c1 t2.next] := by
    refine arr_eq hsz fun i hi => ?_
    have hi : i < 2 := hi
    match i, hi with
    | 0, _ => exact e0
    | 1, _ => exact e1
  subst hv
  refine Calls.mono (refSame_any t.s t2.s A0 A1 _ _ c0 c1 t.next t2.next t.e t2.e w hE0 hE1) ?_
  rintro e w' ⟨rfl, hb⟩
  exact ⟨_, rfl, hb, .raw _⟩

theorem same_ctr (f f2 : Bool) (t t2 : Tab) (hl0 : okEs t.e) (hl1 : okEs t2.e) : Ctr prog 31 [avTab f t, avTab f2 t2] [] (.raw (.bool (sameB t t2))) [] := by
  refine Ctr.old call31 fun w cx vals hH hsz ha => ?_
  obtain ⟨A0, c0, e0, hE0⟩ := avTab_inv hH.okb (ha 0 _ rfl) hl0
  obtain ⟨A1, c1, e1, hE1⟩ := avTab_inv hH.okb (ha 1 _ rfl) hl1
  have hv : vals = #[tabV t.s A0 t.e.length c0 t.next, tabV t2.s A1 t2.e.length c1 t2.next] := by
    refine arr_eq hsz fun i hi => ?_
    have hi : i < 2 := hi
    match i, hi with
    | 0, _ => exact e0
    | 1, _ => exact e1
  subst hv
  refine Calls.mono (tabSame_any t.s t2.s A0 A1 _ _ c0 c1 t.next t2.next t.e t2.e w hE0 hE1) ?_
  rintro e w' ⟨rfl, hb⟩
  exact ⟨_, rfl, hb, .raw _⟩

theorem few_ctr (f : Bool) (t : Tab) (hs : t.s.Ok) (hx : t.next < 4294967296) (hl0 : okEs t.e) : Ctr prog 20 [avTab f t] [] (.raw (.bool t.small)) [] := by
  refine Ctr.old call20 fun w cx vals hH hsz ha => ?_
  obtain ⟨A0, c0, e0, hE0⟩ := avTab_inv hH.okb (ha 0 _ rfl) hl0
  have hv : vals = #[tabV t.s A0 t.e.length c0 t.next] := by
    refine arr_eq hsz fun i hi => ?_
    have hi : i < 1 := hi
    match i, hi with
    | 0, _ => exact e0
  subst hv
  refine Calls.mono (few1_any t.s A0 _ c0 t.next t.e w hs hx hE0) ?_
  rintro e w' ⟨rfl, hb⟩
  exact ⟨_, rfl, hb, .raw _⟩

theorem awake5_ctr  : Ctr prog 19 [] [] (.raw (.bool true)) [] := by
  refine Ctr.old call19 fun w cx vals hH hsz ha => ?_
  have hv : vals = #[] := by
    refine arr_eq hsz fun i hi => ?_
    exact absurd hi (by simp)
  subst hv
  refine Calls.mono (awake5_any w) ?_
  rintro e w' ⟨rfl, hb⟩
  exact ⟨_, rfl, hb, .raw _⟩

end Go.Proofs.Ytpmnchgpbojppaa

/- Contracts of the old kind whose result is a row of one's own. -/
set_option linter.unusedVariables false
namespace Go.Proofs.Ytpmnchgpbojppaa
open Go Go.RowKit Go.Proofs.Try

def Cx.fresh1 (x : Cx) (w w' : World) (ob : Option Nat) (id c : Nat) : Cx :=
  { ok := fun b => x.ok b ∨ (w.heap.size ≤ b ∧ b < w'.heap.size ∧ ob ≠ some b), dom := fun k g => k = id ∧ g = 0, β := fun k => if k = id then ob else x.β k, γ := fun k => if k = id then c else x.γ k }
theorem Ctr.oldRow {P : Program} {f : FuncId} {args : List AV} {r : AV} {id : Nat} {t : TypeId} {sz : Nat} {els : List (List AV)} (hcall : ∀ vals w, (callFunc f vals).run P w = .ok (.enter f vals) w)
    (h : ∀ (w : World) (x : Cx) (vals : Array Value), HRel w x [] → vals.size = args.length → (∀ (i : Nat) (u : AV), args[i]? = some u → VRel w x [] u (vals.getD i undef)) →
      Calls P f vals w fun e w' => ∃ v ob c, e = .returned v ∧ Below w.heap.size w w' ∧ (∀ b, ob = some b → w.heap.size ≤ b ∧ b < w'.heap.size) ∧
        ORel w' (x.fresh1 w w' ob id c) [(id, .row t sz 0 els)] id (.row t sz 0 els) ∧ VRel w' (x.fresh1 w w' ob id c) [(id, .row t sz 0 els)] r v) : Ctr P f args [] r [(id, .row t sz 0 els)] := by
  refine ⟨hcall, fun w x vals hH hdom hsz hargs => Calls.mono (h w x vals hH hsz hargs) ?_⟩
  rintro e w' ⟨v, ob, c, he, hb, hob, hO, hv⟩
  have hno : ∀ k g, ¬ x.dom k g := fun k g hd => by have := hdom k g hd; simp [Hp.has, look] at this
  have hlk : ∀ k o, look [(id, AObj.row t sz 0 els)] k = some o → k = id ∧ o = .row t sz 0 els := fun k o hl => by
    simp only [look] at hl
    split at hl
    · rename_i e1
      injection hl with hl
      exact ⟨e1, hl.symm⟩
    · cases hl
  refine ⟨v, x.fresh1 w w' ob id c, he, ⟨⟨fun b hb => .inl hb, fun k g hd => absurd hd (hno k g), fun b hk => hb.block b (hH.okb b hk), fun k hd => absurd hd (hno k 0), fun k g s hd => absurd hd (hno k g), fun k hd => absurd hd (hno k 0)⟩,
    ⟨hb.os, hb.tape, hb.output, hb.size, fun b hk _ => hb.block b hk, ?_, ?_⟩, ⟨?_, ?_, ?_, ?_, ?_, ?_, ?_⟩⟩, hv, ?_⟩
  · rintro b (h1 | h1)
    · exact .inl h1
    · exact .inr (.inl h1.1)
  · intro k o b hl hβ
    obtain ⟨rfl, rfl⟩ := hlk k o hl
    have hβ : (if k = k then ob else x.β k) = some b := hβ
    rw [if_pos rfl] at hβ
    exact .inl (hob b hβ).1
  · rintro b (h1 | h1)
    · exact Nat.lt_of_lt_of_le (hH.okb b h1) hb.size
    · exact h1.2.1
  · intro k o hl
    exact ⟨(hlk k o hl).1, rfl⟩
  · intro k t' sz' g els' g' hl hd
    have := (hlk k _ hl).2
    injection this with _ _ e3
    have : g' = 0 := hd.2
    omega
  · intro k t' sz' g els' hl
    obtain ⟨h1, h2⟩ := hlk k _ hl
    injection h2 with _ _ e3
    exact ⟨h1, e3⟩
  · intro k o b hl hβ
    obtain ⟨rfl, rfl⟩ := hlk k o hl
    have hβ : (if k = k then ob else x.β k) = some b := hβ
    rw [if_pos rfl] at hβ
    refine ⟨(hob b hβ).2, ?_⟩
    rintro (h1 | h1)
    · have := hH.okb b h1
      have := (hob b hβ).1
      omega
    · exact h1.2.2 hβ
  · intro k k' o o' b hl hl' _ _
    rw [(hlk k o hl).1, (hlk k' o' hl').1]
  · intro k o hl
    obtain ⟨rfl, rfl⟩ := hlk k o hl
    exact hO
  · intro k g hd
    refine .inl ?_
    rw [hd.1]
    simp [Hp.has, look]
theorem own_rctr (f : Bool) (t : Tab) (id : Nat) (hfit : fits t.e) (hl0 : okEs t.e) : Ctr prog 54 [avTab f t] []
    (.agg [.raw (.int .i64 t.s.kind), .raw (.int .i64 t.s.cap), .raw (.int .i64 t.s.words), .raw (.int .i64 t.s.ver), .row id 0 2 0 t.e.length, .raw (.int .u32 (t.next : Int))])
    [(id, .row 39 2 0 (t.e.map encEnt))] := by
  refine Ctr.oldRow call54 fun w cx vals hH hsz ha => ?_
  obtain ⟨A0, c0, e0, hE0⟩ := avTab_inv hH.okb (ha 0 _ rfl) hl0
  have hv : vals = #[tabV t.s A0 t.e.length c0 t.next] := by
    refine arr_eq hsz fun i hi => ?_
    have hi : i < 1 := hi
    match i, hi with
    | 0, _ => exact e0
  subst hv
  refine Calls.mono (own_any t.s A0 _ c0 t.next t.e w hfit hE0) ?_
  rintro e w' ⟨A', us, rfl, hO, hb⟩
  have hres : ∀ {x : Cx} {hp : Hp} {rv : AV} , VRel w' x hp rv (.slice A' t.e.length t.e.length) → VRel w' x hp (.agg [.raw (.int .i64 t.s.kind), .raw (.int .i64 t.s.cap), .raw (.int .i64 t.s.words), .raw (.int .i64 t.s.ver), rv, .raw (.int .u32 (t.next : Int))]) (tabV t.s A' t.e.length t.e.length t.next) := by
    intro x hp rv h
    refine .agg _ _ rfl ?_ ?_
    · intro i hi
      have hi : i < 6 := hi
      match i, hi with
      | 0, _ => rfl
      | 1, _ => rfl
      | 2, _ => rfl
      | 3, _ => rfl
      | 4, _ => rfl
      | 5, _ => rfl
    · intro i u hu
      match i, hu with
      | 0, hu => cases hu; exact .raw _
      | 1, hu => cases hu; exact .raw _
      | 2, hu => cases hu; exact .raw _
      | 3, hu => cases hu; exact .raw _
      | 4, hu => cases hu; exact h
      | 5, hu => cases hu; exact .raw _
      | i + 6, hu => simp at hu
  have huni : ∀ (i : Nat) (cs : List AV), (t.e.map encEnt)[i]? = some cs → cs.length = 2 := by
    intro i cs hi
    rw [List.getElem?_map] at hi
    obtain ⟨x, _, rfl⟩ := Option.map_eq_some_iff.1 hi
    rfl
  rcases hO.row.2 with ⟨e1, h2⟩ | ⟨g, cap, cur, e1, h2, h3, h4, h5, h6, h7⟩
  · have hnil : t.e = [] := List.length_eq_zero_iff.1 h2
    injection e1 with e1 _ _
    subst e1
    refine ⟨_, none, 0, rfl, hb, fun b hb => by (cases hb), ⟨huni, .inl ⟨if_pos rfl, by rw [hnil]; rfl⟩⟩, hres ?_⟩
    rw [h2]
    exact .row id 0 2 0 0 none 0 ⟨rfl, rfl⟩ (Nat.le_refl _) fun _ => .inl ⟨rfl, rfl, by show (if id = id then 0 else _) ≤ 0; rw [if_pos rfl]; exact Nat.le_refl _⟩
  · injection e1 with e1 _ e3
    subst e1
    subst e3
    have hg := (Array.getElem?_eq_some_iff.1 h3).1
    have hcur : cur.toList = entCells t.e us := by
      rw [← h7, List.take_of_length_le]
      rw [Array.length_toList, h6]
      exact Nat.le_refl _
    have hus : ∀ i x, t.e[i]? = some x → ∃ u, us[i]? = some u := fun i x hx => by
      have := (List.getElem?_eq_some_iff.1 hx).1
      exact ⟨_, List.getElem?_eq_getElem (by rw [hO.len]; exact this)⟩
    have hok : ∀ (i : Nat) (x : Ent) (u : Value), t.e[i]? = some x → us[i]? = some u → Dat w' (cx.fresh1 w w' (some g) id t.e.length).ok (.sl false (x.v.map encW)) u := by
      intro i x u hx hu
      have hW := (hO.val i x u hx hu).1
      refine ownW_dat hW fun b hb1 hb2 hb3 => .inr ⟨hb2, hb3, ?_⟩
      rintro hgb
      injection hgb with hgb
      exact hW.blk_ne hO.row (b := b) (by simp [Value.ownBlock, hgb]) hb1
    have hone : ∀ u ∈ us, u.oneCell' = true := by
      intro u hu
      obtain ⟨i, hi⟩ := List.getElem?_of_mem hu
      have hil := (List.getElem?_eq_some_iff.1 hi).1
      rw [hO.len] at hil
      exact (hok i _ u (List.getElem?_eq_getElem hil) hi).one
    have hget : ∀ j, cur.getD j undef = (entCells t.e us)[j]?.getD undef := by
      intro j
      rw [← hcur]
      simp [Array.getD_eq_getD_getElem?]
    refine ⟨_, some g, t.e.length, rfl, hb, fun b hb => ?_, ⟨huni, .inr ⟨g, cur, if_pos rfl, h3, ?_, ?_, ?_, ?_, ?_⟩⟩, hres ?_⟩
    · injection hb with hb
      subst hb
      exact ⟨h2, hg⟩
    · show cur.size = (if id = id then t.e.length else _) * 2
      rw [if_pos rfl]
      exact h6
    · show (t.e.map encEnt).length ≤ (if id = id then t.e.length else _)
      rw [if_pos rfl, List.length_map]
      exact Nat.le_refl _
    · show (if id = id then t.e.length else _) ≤ maxLen
      rw [if_pos rfl]
      exact h5
    · intro i hi
      rw [hget]
      have hi' : i < (entCells t.e us).length := by rw [← hcur, Array.length_toList]; exact hi
      rw [List.getElem?_eq_getElem hi']
      exact entCells_one hone _ (List.getElem_mem hi')
    · intro i j cs u hi hu
      rw [List.getElem?_map] at hi
      obtain ⟨x, hx, rfl⟩ := Option.map_eq_some_iff.1 hi
      obtain ⟨v, hv⟩ := hus i x hx
      obtain ⟨c0, c1⟩ := entCells_get hx hv
      rw [hget]
      match j, hu with
      | 0, hu =>
        simp only [encEnt, List.getElem?_cons_zero, Option.some.injEq] at hu
        subst hu
        rw [Nat.add_zero, c0]
        exact .raw _
      | 1, hu =>
        simp only [encEnt, List.getElem?_cons_succ, List.getElem?_cons_zero, Option.some.injEq] at hu
        subst hu
        rw [c1]
        exact hok i x v hx hv
      | j + 2, hu => simp [encEnt] at hu
    · exact .row id 0 2 0 t.e.length _ t.e.length ⟨rfl, rfl⟩ (Nat.le_refl _) fun _ => .inr ⟨g, if_pos rfl, by rw [Nat.zero_mul], by show 0 + t.e.length = (if id = id then t.e.length else _); rw [if_pos rfl, Nat.zero_add]⟩
end Go.Proofs.Ytpmnchgpbojppaa

/- Plain laws of tables. -/
namespace Go.Proofs.Ytpmnchgpbojppaa
open Go Go.RowKit Go.Proofs.Try

def keys (es : List Ent) : List Nat := es.map Ent.key
theorem keys_inj {es : List Ent} (h : (keys es).Nodup) {i j : Nat} {a b : Ent} (ha : es[i]? = some a) (hb : es[j]? = some b) (hk : a.key = b.key) : i = j := by
  have hi : i < (keys es).length := by simp only [keys, List.length_map]; exact (List.getElem?_eq_some_iff.1 ha).1
  exact (List.getElem?_inj hi h).1 (by simp [keys, ha, hb, hk])
theorem fidx_eq {es : List Ent} (h : (keys es).Nodup) {i : Nat} {e : Ent} (he : es[i]? = some e) : fidx e.key es 0 = (i : Int) := by
  have := fidx_found (j := 0) he rfl (fun j x hj hx hk => by have := keys_inj h hx he hk; omega)
  simpa using this
theorem nodup_of_fidx {es : List Ent} (h : ∀ (i : Nat) (e : Ent), es[i]? = some e → fidx e.key es 0 = (i : Int)) : (keys es).Nodup := by
  unfold keys List.Nodup
  rw [List.pairwise_iff_getElem]
  intro i j hi hj hij he
  simp only [List.length_map] at hi hj
  simp only [List.getElem_map] at he
  have h1 := h i _ (List.getElem?_eq_getElem hi)
  have h2 := h j _ (List.getElem?_eq_getElem hj)
  rw [he, h2] at h1
  omega
theorem may_std {t : Tab} (h3 : t.s.kind ≠ 3) : t.may = true ↔ t.s.may = true ∧ (t.e.length : Int) ≤ t.s.cap ∧ t.next = 0 ∧ (t.s.kind = 0 → (t.e.length : Int) = t.s.cap ∧ ∀ (i : Nat) (e : Ent), t.e[i]? = some e → e.key = i) ∧
    (∀ e ∈ t.e, (e.v.length : Int) = t.s.words) ∧ (keys t.e).Nodup := by
  rw [Tab.may_iff]
  simp only [Tab.headOk, Bool.and_eq_true, Bool.or_eq_true, Bool.not_eq_true', decide_eq_true_eq, decide_eq_false_iff_not]
  constructor
  · rintro ⟨⟨⟨⟨a, b⟩, c⟩, d⟩, e⟩
    refine ⟨a, b, c.resolve_left h3, fun hk => ⟨d.resolve_left (fun q => q hk), fun i x hx => ((t.elOk_iff i x).1 (e i x hx)).2.2.1 hk⟩, fun x hx => ?_, nodup_of_fidx fun i x hx => ((t.elOk_iff i x).1 (e i x hx)).2.1⟩
    obtain ⟨i, hi⟩ := List.mem_iff_getElem?.1 hx
    exact ((t.elOk_iff i x).1 (e i x hi)).1
  · rintro ⟨a, b, c, d, e, g⟩
    refine ⟨⟨⟨⟨a, b⟩, .inr c⟩, ?_⟩, fun i x hx => (t.elOk_iff i x).2 ⟨e x (List.mem_of_getElem? hx), fidx_eq g hx, fun hk => (d hk).2 i x hx, fun hk => absurd hk h3⟩⟩
    by_cases hk : t.s.kind = 0
    · exact .inr (d hk).1
    · exact .inl hk

theorem keyed_iff {t : Tab} {f : Nat} : t.keyed f = true ↔ t.may = true ∧ t.s.kind ≠ 3 ∧ (f : Int) < t.s.words := by simp [Tab.keyed, and_assoc]
theorem get_mem {t : Tab} {key f : Nat} {e : Ent} (hk : t.keyed f = true) (he : e ∈ t.e) (hkey : e.key = key) : (t.get key f).2 = ((e.v[f]?).getD 0, true) := by
  obtain ⟨hm, h3, _⟩ := keyed_iff.1 hk
  obtain ⟨_, _, _, _, _, hn⟩ := (may_std h3).1 hm
  obtain ⟨i, hi⟩ := List.mem_iff_getElem?.1 he
  have hf := fidx_eq hn hi
  rw [hkey] at hf
  have hh : t.has key f = true := by simp [Tab.has, hk, hf]
  unfold Tab.get
  rw [if_pos hh]
  simp [Tab.word, Tab.idx, hf, hi]
theorem get_no {t : Tab} {key f : Nat} (h : ∀ e ∈ t.e, e.key ≠ key) : (t.get key f).2 = (0, false) := by
  have hf : fidx key t.e 0 = -1 := fidx_none fun i x hx => h x (List.mem_of_getElem? hx)
  have hh : t.has key f = false := by simp [Tab.has, hf]
  unfold Tab.get
  rw [if_neg (by simp [hh])]
theorem get_unkeyed {t : Tab} {key f : Nat} (h : t.keyed f = false) : (t.get key f).2 = (0, false) := by
  have hh : t.has key f = false := by simp [Tab.has, h]
  unfold Tab.get
  rw [if_neg (by simp [hh])]

theorem erase_perm {α : Type} : ∀ {l : List α} {i : Nat} {x : α}, l[i]? = some x → (x :: l.eraseIdx i).Perm l
  | [], i, x, h => by simp at h
  | a :: l, 0, x, h => by
    simp at h
    subst h
    exact List.Perm.refl _
  | a :: l, i + 1, x, h => by
    rw [List.eraseIdx_cons_succ]
    exact (List.Perm.swap a x _).trans ((erase_perm (by simpa using h)).cons a)
theorem set_perm {α : Type} {l : List α} {i : Nat} (h : i < l.length) (a : α) : (l.set i a).Perm (a :: l.eraseIdx i) := by
  have := erase_perm (l := l.set i a) (i := i) (x := a) (by simp [h])
  rw [List.eraseIdx_set_eq] at this
  exact this.symm
theorem toLast_perm {α : Type} {l : List α} {i : Nat} (h : i < l.length) : (toLast l i).Perm l := by
  unfold toLast
  rw [List.getElem?_eq_getElem h]
  exact List.perm_append_comm.trans (erase_perm (List.getElem?_eq_getElem h))
theorem touch_perm {α : Type} {kind : Int} {l : List α} {i : Nat} (h : i < l.length) : (touch kind l i).Perm l := by
  unfold touch
  split
  · exact toLast_perm h
  · exact List.Perm.refl _
theorem fidx_none_iff {key : Nat} : ∀ {es : List Ent} {k : Nat}, ¬ 0 ≤ fidx key es k → ∀ e ∈ es, e.key ≠ key
  | [], _, _ => by simp
  | a :: l, k, h => by
    unfold fidx at h
    split at h
    · omega
    · rename_i hk
      intro e he
      rcases List.mem_cons.1 he with rfl | he
      · exact hk
      · exact fidx_none_iff h e he
theorem fidx_some {key : Nat} : ∀ {es : List Ent} {k : Nat} {x : Int}, fidx key es k = x → 0 ≤ x → ∃ (i : Nat) (e : Ent), x = ((k + i : Nat) : Int) ∧ es[i]? = some e ∧ e.key = key
  | [], k, x, h, h0 => by simp [fidx] at h; omega
  | a :: l, k, x, h, h0 => by
    unfold fidx at h
    split at h
    · rename_i hk
      exact ⟨0, a, by omega, rfl, hk⟩
    · obtain ⟨i, e, h1, h2, h3⟩ := fidx_some h h0
      exact ⟨i + 1, e, by omega, h2, h3⟩

/-- What is set, said of the entries but for their order. -/
theorem set_ok {t : Tab} {key f x : Nat} (h : (t.set key f x).2 = 0) :
    t.keyed f = true ∧ (t.set key f x).1.s = t.s ∧ (t.set key f x).1.next = t.next ∧ ∃ (e0 : Ent) (base : List Ent), e0.key = key ∧ (e0.v.length : Int) = t.s.words ∧ (∀ e ∈ base, e.key ≠ key) ∧
      (t.set key f x).1.e.Perm ({ e0 with v := e0.v.set f x } :: base) ∧
      (((e0 :: base).Perm t.e ∧ (t.s.kind = 0 → keys (t.set key f x).1.e = keys t.e)) ∨
        ((∀ e ∈ t.e, e.key ≠ key) ∧ t.s.kind ≠ 0 ∧ ((base = t.e ∧ (t.e.length : Int) < t.s.cap) ∨ (base = t.e.drop 1 ∧ t.s.kind = 2 ∧ (t.e.length : Int) = t.s.cap)))) := by
  unfold Tab.set at h ⊢
  split at h
  · exact absurd h (by decide)
  · rename_i hkd
    have hkd : t.keyed f = true := by simpa using hkd
    rw [if_neg (by simp [hkd])]
    obtain ⟨hm, h3, hfw⟩ := keyed_iff.1 hkd
    obtain ⟨hsm, hlc, _, _, hw, hn⟩ := (may_std h3).1 hm
    have hsb := Sch.may_bounds hsm
    split at h
    · rename_i hp
      rw [if_pos hp]
      obtain ⟨i, e, hi, he, hek⟩ := fidx_some rfl hp
      have hid : t.idx key = i := by unfold Tab.idx; omega
      have hil : i < t.e.length := (List.getElem?_eq_some_iff.1 he).1
      have hupd : updE t.e i f x = t.e.set i { e with v := e.v.set f x } := by simp [updE, he]
      refine ⟨hkd, rfl, rfl, e, t.e.eraseIdx i, hek, hw e (List.mem_of_getElem? he), fun y hy hyk => ?_, ?_, .inl ⟨?_, fun h0 => ?_⟩⟩
      · obtain ⟨j, hj⟩ := List.mem_iff_getElem?.1 hy
        rw [List.getElem?_eraseIdx] at hj
        split at hj
        · have := keys_inj hn hj he (by rw [hyk, hek]); omega
        · have := keys_inj hn hj he (by rw [hyk, hek]); omega
      · simp only [hid, hupd]
        refine (touch_perm (by simpa using hil)).trans ?_
        exact set_perm hil _
      · exact erase_perm he
      · simp only [hid, hupd]
        unfold touch
        rw [if_neg (by omega)]
        unfold keys
        rw [List.map_set]
        refine List.ext_getElem? fun j => ?_
        rw [List.getElem?_set]
        split
        · rename_i hj
          subst hj
          simp [hil, (List.getElem?_eq_some_iff.1 he).2]
        · rfl
    · rename_i hp
      rw [if_neg hp]
      have hno := fidx_none_iff hp
      split at h
      · exact absurd h (by decide)
      · rename_i hk0
        rw [if_neg hk0]
        split at h
        · exact absurd h (by decide)
        · rename_i hk1
          rw [if_neg hk1]
          obtain ⟨base, hbase⟩ : ∃ base, base = (if (t.e.length : Int) = t.s.cap then t.e.drop 1 else t.e) := ⟨_, rfl⟩
          have hgr : t.grow key = base ++ [⟨key, List.replicate t.s.words.toNat 0⟩] := by unfold Tab.grow; rw [hbase]
          have hlast : updE (t.grow key) ((t.grow key).length - 1) f x = base ++ [⟨key, (List.replicate t.s.words.toNat 0).set f x⟩] := by
            rw [hgr]
            simp [updE]
          refine ⟨hkd, rfl, rfl, ⟨key, List.replicate t.s.words.toNat 0⟩, base, rfl, by simp; omega, fun y hy => ?_, ?_, .inr ⟨hno, hk0, ?_⟩⟩
          · refine hno y ?_
            rw [hbase] at hy
            split at hy
            · exact List.mem_of_mem_drop hy
            · exact hy
          · simp only [hlast]
            refine (touch_perm (by rw [hgr]; simp)).trans ?_
            exact List.perm_append_comm
          · by_cases hfull : (t.e.length : Int) = t.s.cap
            · rw [if_pos hfull] at hbase
              exact .inr ⟨hbase, by omega, hfull⟩
            · rw [if_neg hfull] at hbase
              exact .inl ⟨hbase, by omega⟩
theorem set_err {t : Tab} {key f x : Nat} (h : (t.set key f x).2 ≠ 0) : (t.set key f x).1.e = [] := by
  unfold Tab.set at h ⊢
  repeat' split
  all_goals first | rfl | (simp_all; done)
end Go.Proofs.Ytpmnchgpbojppaa

/- TableBack's plain law. -/
namespace Go.Proofs.Ytpmnchgpbojppaa
open Go Go.RowKit Go.Proofs.Try

theorem set_may {t : Tab} {key f x : Nat} (h : (t.set key f x).2 = 0) : (t.set key f x).1.may = true ∧ ((t.set key f x).1.e.length : Int) ≤ t.s.cap ∧ (t.set key f x).1.e.length ≤ t.e.length + 1 ∧ (∀ p, (t.set key f x).1.keyed p = t.keyed p) ∧ (t.set key f x).1.s = t.s := by
  obtain ⟨hkd, hs, hx, e0, base, hk0, hw0, hb, hp, hc⟩ := set_ok h
  obtain ⟨hm, h3, hfw⟩ := keyed_iff.1 hkd
  obtain ⟨hsm, hlc, hnx, har, hw, hn⟩ := (may_std h3).1 hm
  have hsb := Sch.may_bounds hsm
  generalize (t.set key f x).1 = T at *
  have hlen : T.e.length = base.length + 1 := by rw [hp.length_eq]; rfl
  have hbase : base.length + 1 = t.e.length ∨ (base.length = t.e.length ∧ (t.e.length : Int) < t.s.cap) ∨ (base.length + 1 = t.e.length) := by
    rcases hc with ⟨hq, _⟩ | ⟨_, _, ⟨rfl, hq⟩ | ⟨rfl, _, hq⟩⟩
    · exact .inl hq.length_eq
    · exact .inr (.inl ⟨rfl, hq⟩)
    · rw [List.length_drop]; omega
  have hsub : ∀ e ∈ base, e ∈ t.e := by
    intro e he
    rcases hc with ⟨hq, _⟩ | ⟨_, _, ⟨rfl, _⟩ | ⟨rfl, _⟩⟩
    · exact hq.subset (List.mem_cons_of_mem _ he)
    · exact he
    · exact List.mem_of_mem_drop he
  have hbn : (keys base).Nodup := by
    rcases hc with ⟨hq, _⟩ | ⟨_, _, ⟨rfl, _⟩ | ⟨rfl, _⟩⟩
    · have := (hq.map Ent.key).nodup_iff.2 hn
      exact (List.nodup_cons.1 this).2
    · exact hn
    · exact List.Nodup.sublist ((List.drop_sublist 1 t.e).map Ent.key) hn
  have hTm : T.may = true := by
    refine (may_std (by rw [hs]; exact h3)).2 ⟨by rw [hs]; exact hsm, by rw [hs]; omega, by rw [hx]; exact hnx, fun h0 => ?_, fun e he => ?_, ?_⟩
    · rw [hs] at h0
      rcases hc with ⟨hq, hkk⟩ | ⟨_, hk, _⟩
      · have hkk := hkk h0
        have hl2 : T.e.length = t.e.length := by have := congrArg List.length hkk; simpa [keys] using this
        refine ⟨by rw [hs, hl2]; exact (har h0).1, fun i e he => ?_⟩
        have h1 : (keys T.e)[i]? = some e.key := by simp [keys, he]
        rw [hkk] at h1
        simp only [keys, List.getElem?_map, Option.map_eq_some_iff] at h1
        obtain ⟨e', he', hke⟩ := h1
        rw [← hke]
        exact (har h0).2 i e' he'
      · exact absurd h0 hk
    · rw [hs]
      rcases List.mem_cons.1 (hp.subset he) with rfl | he
      · simpa using hw0
      · exact hw e (hsub e he)
    · refine (hp.map Ent.key).nodup_iff.2 ?_
      refine List.nodup_cons.2 ⟨fun hm => ?_, hbn⟩
      obtain ⟨e, he, hke⟩ := List.mem_map.1 hm
      exact hb e he (hke.trans hk0)
  refine ⟨hTm, by omega, by omega, fun p => ?_, hs⟩
  rw [Bool.eq_iff_iff, keyed_iff, keyed_iff, hs]
  simp [hTm, hm]

theorem back_got {t : Tab} {key f x : Nat} (h : (t.set key f x).2 = 0) : ((t.set key f x).1.get key f).2 = (x, true) := by
  obtain ⟨_, _, _, hkp, hs⟩ := set_may h
  obtain ⟨hkd, _, hx, e0, base, hk0, hw0, hb, hp, hc⟩ := set_ok h
  obtain ⟨hm, h3, hfw⟩ := keyed_iff.1 hkd
  rw [get_mem (by rw [hkp]; exact hkd) (hp.symm.subset (List.mem_cons_self ..)) hk0]
  have : f < e0.v.length := by omega
  simp [this]

theorem back_same {t : Tab} {key f x place : Nat} (h : (t.set key f x).2 = 0) (had : (t.get key place).2.2 = true) :
    ((t.set key f x).1.get key place).2.2 = true ∧ (place = f ∨ ((t.set key f x).1.get key place).2.1 = (t.get key place).2.1) := by
  obtain ⟨_, _, _, hkp, hs⟩ := set_may h
  obtain ⟨hkd, _, hx, e0, base, hk0, hw0, hb, hp, hc⟩ := set_ok h
  have hkl : t.keyed place = true := by
    cases hq : t.keyed place with
    | true => rfl
    | false => rw [get_unkeyed hq] at had; cases had
  rw [get_mem (by rw [hkp]; exact hkl) (hp.symm.subset (List.mem_cons_self ..)) hk0]
  rcases hc with ⟨hq, _⟩ | ⟨hno, _⟩
  · rw [get_mem hkl (hq.subset (List.mem_cons_self ..)) hk0]
    refine ⟨rfl, ?_⟩
    by_cases hpf : place = f
    · exact .inl hpf
    · right
      simp [List.getElem?_set_ne (Ne.symm hpf)]
  · rw [get_no hno] at had
    cases had

theorem back_other {t : Tab} {key f x other place : Nat} (h : (t.set key f x).2 = 0) (ho : other ≠ key) :
    (((t.set key f x).1.get other place).2 = (t.get other place).2) ∨ (((t.set key f x).1.get other place).2.2 = false ∧ (t.get other place).2.2 = true ∧ t.s.kind = 2 ∧ (t.e.length : Int) = t.s.cap) := by
  obtain ⟨_, _, _, hkp, hs⟩ := set_may h
  obtain ⟨hkd, _, hx, e0, base, hk0, hw0, hb, hp, hc⟩ := set_ok h
  cases hkl : t.keyed place with
  | false =>
    rw [get_unkeyed hkl, get_unkeyed (by rw [hkp]; exact hkl)]
    exact .inl rfl
  | true =>
    have hkT : (t.set key f x).1.keyed place = true := by rw [hkp]; exact hkl
    by_cases hin : ∃ e ∈ base, e.key = other
    · obtain ⟨e, he, hke⟩ := hin
      have hsub : e ∈ t.e := by
        rcases hc with ⟨hq, _⟩ | ⟨_, _, ⟨rfl, _⟩ | ⟨rfl, _⟩⟩
        · exact hq.subset (List.mem_cons_of_mem _ he)
        · exact he
        · exact List.mem_of_mem_drop he
      rw [get_mem hkT (hp.symm.subset (List.mem_cons_of_mem _ he)) hke, get_mem hkl hsub hke]
      exact .inl rfl
    · have hT : ∀ e ∈ (t.set key f x).1.e, e.key ≠ other := by
        intro e he hke
        rcases List.mem_cons.1 (hp.subset he) with rfl | he
        · exact ho (hke.symm.trans hk0)
        · exact hin ⟨e, he, hke⟩
      rw [get_no hT]
      by_cases hold : ∃ e ∈ t.e, e.key = other
      · obtain ⟨e, he, hke⟩ := hold
        rw [get_mem hkl he hke]
        rcases hc with ⟨hq, _⟩ | ⟨_, _, ⟨rfl, _⟩ | ⟨_, h2, hf⟩⟩
        · rcases List.mem_cons.1 (hq.symm.subset he) with rfl | he
          · exact absurd (hke.symm.trans hk0) ho
          · exact absurd ⟨e, he, hke⟩ hin
        · exact absurd ⟨e, he, hke⟩ hin
        · exact .inr ⟨rfl, rfl, h2, hf⟩
      · rw [get_no (fun e he hke => hold ⟨e, he, hke⟩)]
        exact .inl rfl
end Go.Proofs.Ytpmnchgpbojppaa

/- TableDel's plain law. -/
namespace Go.Proofs.Ytpmnchgpbojppaa
open Go Go.RowKit Go.Proofs.Try

theorem has_get {t : Tab} {key f : Nat} : (t.get key f).2.2 = t.has key f := by
  unfold Tab.get
  cases h : t.has key f <;> simp
theorem get_not {t : Tab} {key f : Nat} (h : t.has key f = false) : (t.get key f).2 = (0, false) := by
  unfold Tab.get
  rw [if_neg (by simp [h])]

theorem del_ok {t : Tab} {key : Nat} (hm : t.may = true) :
    (t.del key).1.s = t.s ∧ (t.del key).1.next = t.next ∧ (t.del key).2 = t.has key 0 ∧ (t.del key).1.may = true ∧ (t.has key 0 = false → t.del key = (t, false)) ∧
      ((t.del key).1.get key 0).2 = (0, t.has key 0 && decide (t.s.kind = 0)) ∧ (∀ other, other ≠ key → ((t.del key).1.get other 0).2 = (t.get other 0).2) := by
  cases hh : t.has key 0 with
  | false =>
    have hd : t.del key = (t, false) := by unfold Tab.del; rw [if_pos hh]
    rw [hd]
    exact ⟨rfl, rfl, rfl, hm, fun _ => rfl, get_not hh, fun _ _ => rfl⟩
  | true =>
    obtain ⟨hkd, hp⟩ : t.keyed 0 = true ∧ 0 ≤ fidx key t.e 0 := by simpa [Tab.has] using hh
    obtain ⟨_, h3, hfw⟩ := keyed_iff.1 hkd
    obtain ⟨hsm, hlc, hnx, har, hw, hn⟩ := (may_std h3).1 hm
    obtain ⟨i, e, hi, he, hek⟩ := fidx_some rfl hp
    have hid : t.idx key = i := by unfold Tab.idx; omega
    have hil : i < t.e.length := (List.getElem?_eq_some_iff.1 he).1
    by_cases hk0 : t.s.kind = 0
    · have hd : t.del key = ({ t with e := t.e.set i { e with v := List.replicate e.v.length 0 } }, true) := by
        unfold Tab.del
        rw [if_neg (by simp [hh]), if_pos hk0, hid]
        simp [zeroE, he]
      rw [hd]
      have hkk : keys (t.e.set i { e with v := List.replicate e.v.length 0 }) = keys t.e := by
        unfold keys
        rw [List.map_set]
        refine List.ext_getElem? fun j => ?_
        rw [List.getElem?_set]
        split
        · rename_i hj
          subst hj
          simp [hil, (List.getElem?_eq_some_iff.1 he).2]
        · rfl
      have hm2 : ({ t with e := t.e.set i { e with v := List.replicate e.v.length 0 } } : Tab).may = true := by
        refine (may_std (t := { t with e := t.e.set i { e with v := List.replicate e.v.length 0 } }) h3).2 ⟨hsm, by simpa using hlc, hnx, fun h0 => ⟨by simpa using (har h0).1, fun j x hx => ?_⟩, fun x hx => ?_, by rw [hkk]; exact hn⟩
        · have h1 : (keys (t.e.set i { e with v := List.replicate e.v.length 0 }))[j]? = some x.key := by unfold keys; rw [List.getElem?_map]; simp only at hx; rw [hx]; rfl
          rw [hkk] at h1
          simp only [keys, List.getElem?_map, Option.map_eq_some_iff] at h1
          obtain ⟨x', hx', hke⟩ := h1
          rw [← hke]
          exact (har h0).2 j x' hx'
        · rcases List.mem_or_eq_of_mem_set hx with hx | rfl
          · exact hw x hx
          · simpa using hw e (List.mem_of_getElem? he)
      have hkd2 : ({ t with e := t.e.set i { e with v := List.replicate e.v.length 0 } } : Tab).keyed 0 = true := keyed_iff.2 ⟨hm2, h3, hfw⟩
      have hin : ({ e with v := List.replicate e.v.length 0 } : Ent) ∈ t.e.set i { e with v := List.replicate e.v.length 0 } := List.mem_of_getElem? (i := i) (by simp [hil])
      refine ⟨rfl, rfl, rfl, hm2, fun h => (by cases h), ?_, fun other ho => ?_⟩
      · rw [get_mem hkd2 hin hek]
        have := hw e (List.mem_of_getElem? he)
        simp [hk0, show 0 < e.v.length by omega]
      · by_cases hex : ∃ x ∈ t.e, x.key = other
        · obtain ⟨x, hx, hkx⟩ := hex
          obtain ⟨j, hj⟩ := List.mem_iff_getElem?.1 hx
          have hij : i ≠ j := by
            rintro rfl
            rw [he] at hj
            cases hj
            exact ho (hkx.symm.trans hek)
          rw [get_mem hkd hx hkx, get_mem hkd2 (e := x) (List.mem_of_getElem? (i := j) (by simp only [List.getElem?_set_ne hij]; exact hj)) hkx]
        · have hno : ∀ x ∈ t.e, x.key ≠ other := fun x hx hk => hex ⟨x, hx, hk⟩
          rw [get_no hno, get_no]
          intro x hx hk
          have h1 : x.key ∈ keys (t.e.set i { e with v := List.replicate e.v.length 0 }) := List.mem_map_of_mem hx
          rw [hkk] at h1
          obtain ⟨y, hy, hky⟩ := List.mem_map.1 h1
          exact hno y hy (hky.trans hk)
    · have hd : t.del key = ({ t with e := t.e.eraseIdx i }, true) := by
        unfold Tab.del
        rw [if_neg (by simp [hh]), if_neg hk0, hid]
      rw [hd]
      have hperm := erase_perm he
      have hnn : (keys (e :: t.e.eraseIdx i)).Nodup := (hperm.map Ent.key).nodup_iff.2 hn
      have hlen : (t.e.eraseIdx i).length + 1 = t.e.length := by have := hperm.length_eq; simpa using this
      have hm2 : ({ t with e := t.e.eraseIdx i } : Tab).may = true :=
        (may_std (t := { t with e := t.e.eraseIdx i }) h3).2 ⟨hsm, by simp only; omega, hnx, fun h0 => absurd h0 hk0, fun x hx => hw x (hperm.subset (List.mem_cons_of_mem _ hx)), (List.nodup_cons.1 hnn).2⟩
      have hkd2 : ({ t with e := t.e.eraseIdx i } : Tab).keyed 0 = true := keyed_iff.2 ⟨hm2, h3, hfw⟩
      refine ⟨rfl, rfl, rfl, hm2, fun h => (by cases h), ?_, fun other ho => ?_⟩
      · rw [get_no]
        · simp [hk0]
        · intro x hx hk
          exact (List.nodup_cons.1 hnn).1 (by rw [hek, ← hk]; exact List.mem_map_of_mem hx)
      · by_cases hex : ∃ x ∈ t.e, x.key = other
        · obtain ⟨x, hx, hkx⟩ := hex
          rcases List.mem_cons.1 (hperm.symm.subset hx) with rfl | hx'
          · exact absurd (hkx.symm.trans hek) ho
          · rw [get_mem hkd hx hkx, get_mem hkd2 (e := x) hx' hkx]
        · have hno : ∀ x ∈ t.e, x.key ≠ other := fun x hx hk => hex ⟨x, hx, hk⟩
          rw [get_no hno, get_no]
          intro x hx hk
          exact hno x (hperm.subset (List.mem_cons_of_mem _ hx)) hk
end Go.Proofs.Ytpmnchgpbojppaa

