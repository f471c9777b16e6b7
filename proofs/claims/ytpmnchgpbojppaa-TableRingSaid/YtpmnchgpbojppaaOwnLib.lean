/- Rows of words and of entries that the call itself made. -/
import Derived.Test.YtpmnchgpbojppaaProg
import Derived.Test.YtpmnchgpbojppaaLaws
import Derived.Test.YtpmnchgpbojppaaTabLib
namespace Go.Proofs.Ytpmnchgpbojppaa
open Go Go.RowKit Go.Proofs.Try

theorem info_ent : (prog.info? 39).map (fun i => (i.zero, i.size, i.bytes)) = some (some (.agg #[.int .u32 0, .slice none 0 0]), 2, 32) := by kernel_rfl
theorem info_u32 : (prog.info? 25).map (fun i => (i.zero, i.size, i.bytes)) = some (some (.int .u32 0), 1, 4) := by kernel_rfl
/-- What is copied is not too great. -/
def fits (es : List Ent) : Prop := es.length ≤ 1048576 ∧ ∀ e ∈ es, e.v.length ≤ 1048576
def u32s (xs : List Nat) : List Value := xs.map fun (x : Nat) => Value.int .u32 (x : Int)
theorem u32s_length (xs : List Nat) : (u32s xs).length = xs.length := by simp [u32s]
theorem u32s_get {xs : List Nat} {i : Nat} {x : Nat} (h : xs[i]? = some x) : (u32s xs)[i]? = some (.int .u32 (x : Int)) := by simp [u32s, h]
theorem u32s_one (xs : List Nat) : ∀ u ∈ u32s xs, u.oneCell' = true := by
  intro u hu
  obtain ⟨_, _, rfl⟩ := List.mem_map.1 hu
  rfl
def lt32 (xs : List Nat) : Prop := ∀ x ∈ xs, x < 4294967296

/-- A row of words of the call's own. -/
structure OwnW (w : World) (base : Nat) (u : Value) (xs : List Nat) : Prop where
  row : w.ownsRow base 25 1 u xs.length (u32s xs)
  lt : lt32 xs
theorem OwnW.reads {w : World} {base : Nat} {u : Value} {xs : List Nat} (h : OwnW w base u xs) : ∃ A c, u = .slice A xs.length c ∧ kW.At w w.heap.size A xs.length c xs := by
  refine own_reads (k := kW) h.row rfl fun i x hx => ?_
  refine ⟨?_, h.lt x (List.mem_of_getElem? hx)⟩
  have := u32s_get hx
  show ((u32s xs).drop (i * 1)).take 1 = _
  rw [Nat.mul_one, List.drop_eq_getElem_cons (by rw [u32s_length]; exact (List.getElem?_eq_some_iff.1 hx).1)]
  simp only [List.take_succ_cons, List.take_zero, List.cons.injEq, and_true]
  rw [List.getElem?_eq_getElem (by rw [u32s_length]; exact (List.getElem?_eq_some_iff.1 hx).1)] at this
  exact Option.some.inj this
theorem OwnW.below {w w' : World} {base : Nat} {u : Value} {xs : List Nat} (h : OwnW w base u xs) (hb : Below w.heap.size w w') : OwnW w' base u xs := ⟨own_below h.row hb, h.lt⟩
theorem OwnW.mono {w : World} {base base' : Nat} {u : Value} {xs : List Nat} (h : OwnW w base u xs) (hb : base' ≤ base) : OwnW w base' u xs := ⟨own_mono h.row hb, h.lt⟩
theorem OwnW.only {w w' : World} {base g : Nat} {u : Value} {xs : List Nat} (h : OwnW w base u xs) (ho : Only g w w') (hg : u.ownBlock ≠ some g) : OwnW w' base u xs := ⟨h.row.kept ho (.inr hg), h.lt⟩

/-- The cells of entries whose values lie in rows us. -/
def entCells : List Ent → List Value → List Value
  | e :: es, u :: us => .int .u32 (e.key : Int) :: u :: entCells es us
  | _, _ => []
theorem entCells_length : ∀ {es : List Ent} {us : List Value}, us.length = es.length → (entCells es us).length = es.length * 2
  | [], [], _ => rfl
  | e :: es, u :: us, h => by
    simp only [entCells, List.length_cons]
    rw [entCells_length (by simpa using h)]
    omega
  | [], _ :: _, h => by simp at h
  | _ :: _, [], h => by simp at h
theorem entCells_get : ∀ {es : List Ent} {us : List Value} {i : Nat} {e : Ent} {u : Value}, es[i]? = some e → us[i]? = some u → (entCells es us)[i * 2]? = some (.int .u32 (e.key : Int)) ∧ (entCells es us)[i * 2 + 1]? = some u
  | [], _, _, _, _, h, _ => by simp at h
  | _ :: _, [], _, _, _, _, h => by simp at h
  | x :: es, y :: us, 0, e, u, he, hu => by
    simp at he hu
    simp [entCells, he, hu]
  | x :: es, y :: us, i + 1, e, u, he, hu => by
    have ih := entCells_get (es := es) (us := us) (i := i) (by simpa using he) (by simpa using hu)
    rw [show (i + 1) * 2 = i * 2 + 1 + 1 by omega]
    simpa [entCells] using ih
theorem entCells_one {es : List Ent} : ∀ {us : List Value}, (∀ u ∈ us, u.oneCell' = true) → ∀ v ∈ entCells es us, v.oneCell' = true := by
  induction es with
  | nil => intro us _ v hv; cases us <;> simp [entCells] at hv
  | cons e es ih =>
    intro us h v hv
    cases us with
    | nil => simp [entCells] at hv
    | cons u us =>
      simp only [entCells, List.mem_cons] at hv
      rcases hv with rfl | rfl | hv
      · rfl
      · exact h _ (by simp)
      · exact ih (fun u hu => h u (by simp [hu])) v hv
theorem entCells_append : ∀ {es es' : List Ent} {us us' : List Value}, us.length = es.length → entCells (es ++ es') (us ++ us') = entCells es us ++ entCells es' us'
  | [], _, [], _, _ => rfl
  | e :: es, es', u :: us, us', h => by
    simp only [List.cons_append, entCells, List.cons.injEq, true_and]
    exact entCells_append (by simpa using h)
  | [], _, _ :: _, _, h => by simp at h
  | _ :: _, _, [], _, h => by simp at h

theorem entCells_inv : ∀ {es : List Ent} {us : List Value} {j : Nat} {v : Value}, (entCells es us)[j]? = some v → ∃ (i : Nat) (e : Ent) (u : Value), es[i]? = some e ∧ us[i]? = some u ∧ ((j = i * 2 ∧ v = .int .u32 (e.key : Int)) ∨ (j = i * 2 + 1 ∧ v = u))
  | [], us, j, v, h => by cases us <;> simp [entCells] at h
  | _ :: _, [], j, v, h => by simp [entCells] at h
  | x :: es, y :: us, 0, v, h => by
    simp [entCells] at h
    exact ⟨0, x, y, rfl, rfl, .inl ⟨rfl, h.symm⟩⟩
  | x :: es, y :: us, 1, v, h => by
    simp [entCells] at h
    exact ⟨0, x, y, rfl, rfl, .inr ⟨rfl, h.symm⟩⟩
  | x :: es, y :: us, j + 2, v, h => by
    obtain ⟨i, e, u, he, hu, hj⟩ := entCells_inv (es := es) (us := us) (j := j) (v := v) (by simpa [entCells] using h)
    refine ⟨i + 1, e, u, by simpa using he, by simpa using hu, ?_⟩
    rcases hj with ⟨rfl, rfl⟩ | ⟨rfl, rfl⟩
    · exact .inl ⟨by omega, rfl⟩
    · exact .inr ⟨by omega, rfl⟩
theorem entCells_set : ∀ {es : List Ent} {us : List Value} {i : Nat} {u : Value}, (entCells es us).set (i * 2 + 1) u = entCells es (us.set i u)
  | [], us, i, u => by cases us <;> cases i <;> simp [entCells]
  | _ :: _, [], i, u => by cases i <;> simp [entCells]
  | x :: es, y :: us, 0, u => by simp [entCells]
  | x :: es, y :: us, i + 1, u => by
    rw [show (i + 1) * 2 + 1 = i * 2 + 1 + 1 + 1 by omega]
    simp only [entCells, List.set_cons_succ]
    rw [entCells_set]
/-- One for each place. -/
theorem choose_list {α : Type} {p : Nat → α → Prop} : ∀ (n : Nat), (∀ i, i < n → ∃ v, p i v) → ∃ vs : List α, vs.length = n ∧ ∀ (i : Nat) (v : α), vs[i]? = some v → p i v
  | 0, _ => ⟨[], rfl, fun i v h => by simp at h⟩
  | n + 1, h => by
    obtain ⟨vs, hl, hv⟩ := choose_list n (fun i hi => h i (by omega))
    obtain ⟨x, hx⟩ := h n (by omega)
    refine ⟨vs ++ [x], by simp [hl], fun i v hi => ?_⟩
    rcases Nat.lt_or_ge i n with h' | h'
    · rw [List.getElem?_append_left (by omega)] at hi
      exact hv i v hi
    · rw [List.getElem?_append_right (by omega)] at hi
      have h1 := (List.getElem?_eq_some_iff.1 hi).1
      simp at h1
      obtain rfl : i = n := by omega
      simp [hl] at hi
      subst hi
      exact hx
/-- The source's cells, as cells of entries. -/
theorem kEnt.cells {w : World} {B : Nat} {A : Option Addr} {n c : Nat} {es : List Ent} (h : kEnt.At w B A n c es) :
    ∃ vs : List Value, vs.length = n ∧ (∀ (i : Nat) (e : Ent) (v : Value), es[i]? = some e → vs[i]? = some v → e.key < 4294967296 ∧ ∃ A' m d, v = .slice A' m d ∧ kW.At w B A' m d e.v) ∧
      (0 < n → ∃ ad, A = some ad ∧ ad.block < B ∧ ∀ (j : Nat) (u : Value), (entCells es vs)[j]? = some u → w.cell? (ad.add j) = some u) := by
  rcases Nat.eq_zero_or_pos n with hn | hn
  · subst hn
    exact ⟨[], rfl, fun i e v _ hv => by simp at hv, fun hp => absurd hp (by omega)⟩
  · obtain ⟨e0, ad, _, _, _, _, rfl, hB, _⟩ := kEnt.get h hn
    obtain ⟨vs, hl, hv⟩ := choose_list (p := fun i v => ∃ e, es[i]? = some e ∧ e.key < 4294967296 ∧ (∃ A' m d, v = Value.slice A' m d ∧ kW.At w B A' m d e.v) ∧ w.cell? (ad.add (i * 2)) = some (.int .u32 (e.key : Int)) ∧ w.cell? (ad.add (i * 2 + 1)) = some v) n
      (fun i hi => by
        obtain ⟨e, ad', A', m, d, he, had, _, h0, h1, hk, hv⟩ := kEnt.get h hi
        injection had with had
        subst had
        exact ⟨.slice A' m d, e, he, hk, ⟨A', m, d, rfl, hv⟩, h0, by rw [show i * 2 + 1 = i * 2 + (0 + 1) by omega, add_fld]; exact h1⟩)
    refine ⟨vs, hl, fun i e v he hvi => ?_, fun _ => ⟨ad, rfl, hB, fun j u hu => ?_⟩⟩
    · obtain ⟨e', he', hk, hx, _⟩ := hv i v hvi
      rw [he] at he'
      cases he'
      exact ⟨hk, hx⟩
    · obtain ⟨i, e, v, he, hvi, hj⟩ := entCells_inv hu
      obtain ⟨e', he', hk, _, h0, h1⟩ := hv i v hvi
      rw [he] at he'
      cases he'
      rcases hj with ⟨rfl, rfl⟩ | ⟨rfl, rfl⟩
      · exact h0
      · exact h1
/-- No two of these values own one block. -/
def Lone (us : List Value) : Prop := ∀ (i j : Nat) (u v : Value) (b : Nat), i ≠ j → us[i]? = some u → us[j]? = some v → u.ownBlock = some b → v.ownBlock ≠ some b

/-- A row of entries of the call's own, each with a row of words of its own. -/
structure OwnEs (w : World) (base : Nat) (v : Value) (es : List Ent) (us : List Value) : Prop where
  len : us.length = es.length
  row : w.ownsRow base 39 2 v es.length (entCells es us)
  val : ∀ (i : Nat) (e : Ent) (u : Value), es[i]? = some e → us[i]? = some u → OwnW w base u e.v ∧ e.key < 4294967296
  lone : Lone us
theorem OwnW.blk_ne {w : World} {base base' : Nat} {u v : Value} {xs : List Nat} {n : Nat} {cs : List Value} (h : OwnW w base u xs) (hr : w.ownsRow base' 39 2 v n cs) {b : Nat} (hv : v.ownBlock = some b) : u.ownBlock ≠ some b := by
  intro hu
  rcases h.row.2 with ⟨rfl, _⟩ | ⟨g, cap, cur, rfl, _, hg, _⟩
  · simp [Value.ownBlock] at hu
  · rcases hr.2 with ⟨rfl, _⟩ | ⟨g', cap', cur', rfl, _, hg', _⟩
    · simp [Value.ownBlock] at hv
    · simp only [Value.ownBlock, Option.some.injEq] at hu hv
      subst hu
      subst hv
      rw [hg] at hg'
      simp at hg'
theorem OwnW.not_row' {w : World} {base base' m cu gu : Nat} {v : Value} {xs : List Nat} {n : Nat} {cs : List Value} (h : OwnW w base (.slice (some ⟨gu, 0, none⟩) m cu) xs) (hr : w.ownsRow base' 39 2 v n cs) : v.ownBlock ≠ some gu := by
  intro hv
  exact h.blk_ne hr hv rfl
theorem OwnEs.below {w w' : World} {base : Nat} {v : Value} {es : List Ent} {us : List Value} (h : OwnEs w base v es us) (hb : Below w.heap.size w w') : OwnEs w' base v es us :=
  ⟨h.len, own_below h.row hb, fun i e u he hu => ⟨(h.val i e u he hu).1.below hb, (h.val i e u he hu).2⟩, h.lone⟩
theorem OwnEs.mono {w : World} {base base' : Nat} {v : Value} {es : List Ent} {us : List Value} (h : OwnEs w base v es us) (hb : base' ≤ base) : OwnEs w base' v es us :=
  ⟨h.len, own_mono h.row hb, fun i e u he hu => ⟨(h.val i e u he hu).1.mono hb, (h.val i e u he hu).2⟩, h.lone⟩
theorem OwnEs.reads {w : World} {base : Nat} {v : Value} {es : List Ent} {us : List Value} (h : OwnEs w base v es us) : ∃ A c, v = .slice A es.length c ∧ kEnt.At w w.heap.size A es.length c es := by
  refine own_reads (k := kEnt) h.row rfl fun i e he => ?_
  have hi : i < us.length := by rw [h.len]; exact (List.getElem?_eq_some_iff.1 he).1
  have hu := List.getElem?_eq_getElem hi
  obtain ⟨hw, hk⟩ := h.val i e _ he hu
  obtain ⟨A, c, hsl, hat⟩ := hw.reads
  obtain ⟨h0, h1⟩ := entCells_get he hu
  refine ⟨A, _, c, ?_, hk, hat⟩
  show ((entCells es us).drop (i * 2)).take 2 = _
  apply List.ext_getElem?
  intro j
  match j with
  | 0 => rw [List.getElem?_take, if_pos (by omega), List.getElem?_drop, Nat.add_zero, h0]; rfl
  | 1 => rw [List.getElem?_take, if_pos (by omega), List.getElem?_drop, h1, hsl]; rfl
  | j + 2 => rw [List.getElem?_take, if_neg (by omega)]; rfl
/-- The same, of a slice written out. -/
theorem OwnEs.at_ {w : World} {base : Nat} {A : Option Addr} {n c : Nat} {es : List Ent} {us : List Value} (h : OwnEs w base (.slice A n c) es us) : kEnt.At w w.heap.size A n c es := by
  obtain ⟨A', c', he, hat⟩ := h.reads
  cases he
  exact hat
/-- What is not empty lies in a block. -/
theorem OwnEs.block {w : World} {base : Nat} {A : Option Addr} {n c : Nat} {es : List Ent} {us : List Value} (h : OwnEs w base (.slice A n c) es us) (hn : 0 < n) : ∃ g, A = some ⟨g, 0, none⟩ ∧ base ≤ g ∧ g < w.heap.size ∧ es.length = n := by
  have hl := h.at_.len
  rcases h.row.2 with ⟨_, h2⟩ | ⟨g, cap, cur, he, h2, h3, _⟩
  · omega
  · cases he
    exact ⟨g, rfl, h2, (Array.getElem?_eq_some_iff.1 h3).1, hl⟩
theorem OwnW.at_ {w : World} {base : Nat} {A : Option Addr} {n c : Nat} {xs : List Nat} (h : OwnW w base (.slice A n c) xs) : kW.At w w.heap.size A n c xs := by
  obtain ⟨A', c', he, hat⟩ := h.reads
  cases he
  exact hat
theorem OwnW.far {w w' : World} {base g : Nat} {u : Value} {xs : List Nat} (h : OwnW w base u xs) (ho : Only g w w') (hg : g < base) : OwnW w' base u xs :=
  h.only ho (fun hb => by have := (h.row.lt g hb).1; omega)
theorem OwnEs.far {w w' : World} {base g : Nat} {v : Value} {es : List Ent} {us : List Value} (h : OwnEs w base v es us) (ho : Only g w w') (hg : g < base) : OwnEs w' base v es us :=
  ⟨h.len, h.row.kept ho (.inr (fun hb => by have := (h.row.lt g hb).1; omega)), fun i e u he hu => ⟨(h.val i e u he hu).1.far ho hg, (h.val i e u he hu).2⟩, h.lone⟩
theorem OwnEs.cells_ {w : World} {base g n c : Nat} {es : List Ent} {us : List Value} {j : Nat} {e : Ent} {u : Value} (h : OwnEs w base (.slice (some ⟨g, 0, none⟩) n c) es us) (he : es[j]? = some e) (hu : us[j]? = some u) :
    w.cell? ⟨g, j * 2, none⟩ = some (.int .u32 (e.key : Int)) ∧ w.cell? ⟨g, j * 2 + 1, none⟩ = some u := by
  obtain ⟨h0, h1⟩ := entCells_get he hu
  have a0 := h.row.cells (g := g) rfl _ _ h0
  have a1 := h.row.cells (g := g) rfl _ _ h1
  rw [add_lit0] at a0 a1
  exact ⟨a0, a1⟩
theorem OwnW.cells_ {w : World} {base : Nat} {u : Value} {xs : List Nat} {f x : Nat} (h : OwnW w base u xs) (hf : xs[f]? = some x) :
    ∃ g c, u = .slice (some ⟨g, 0, none⟩) xs.length c ∧ base ≤ g ∧ g < w.heap.size ∧ xs.length ≤ c ∧ w.cell? ⟨g, f, none⟩ = some (.int .u32 (x : Int)) ∧ ∀ i, w.frozen? ⟨g, i, none⟩ = false := by
  have hl := (List.getElem?_eq_some_iff.1 hf).1
  rcases h.row.2 with ⟨_, h2⟩ | ⟨g, cap, cur, rfl, h2, h3, h4, h5, h6, h7⟩
  · omega
  · refine ⟨g, cap, rfl, h2, (Array.getElem?_eq_some_iff.1 h3).1, h4, ?_, fun i => frozen_of_row w g i cur _ h3⟩
    have := h.row.cells (g := g) rfl f _ (u32s_get hf)
    rwa [add_lit0] at this
theorem entCells_same_key : ∀ {es : List Ent} {us : List Value} {j : Nat} {e e' : Ent}, es[j]? = some e → e'.key = e.key → entCells (es.set j e') us = entCells es us
  | [], _, _, _, _, h, _ => by simp at h
  | _ :: _, [], j, _, _, _, _ => by cases j <;> simp [entCells]
  | x :: es, y :: us, 0, e, e', h, hk => by
    simp at h
    subst h
    simp [entCells, hk]
  | x :: es, y :: us, j + 1, e, e', h, hk => by
    simp only [List.set_cons_succ, entCells]
    rw [entCells_same_key (by simpa using h) hk]
/-- A word of a value set anew. -/
theorem OwnEs.setWord {w : World} {base gu m cu j f x : Nat} {v : Value} {es : List Ent} {us : List Value} {e : Ent} (h : OwnEs w base v es us) (he : es[j]? = some e) (hu : us[j]? = some (.slice (some ⟨gu, 0, none⟩) m cu)) (hx : x < 4294967296) :
    OwnEs (w.setCell ⟨gu, f, none⟩ (.int .u32 (x : Int))) base v (es.set j { e with v := e.v.set f x }) us := by
  have hj := (List.getElem?_eq_some_iff.1 he).1
  obtain ⟨hval, hkey⟩ := h.val j e _ he hu
  have hne := hval.not_row' h.row
  refine ⟨by rw [List.length_set]; exact h.len, ?_, fun i e' u' he' hu' => ?_, h.lone⟩
  · rw [List.length_set, entCells_same_key (e' := { e with v := e.v.set f x }) he rfl]
    exact h.row.kept (Only.setCell w gu f _) (.inr hne)
  · by_cases hij : j = i
    · subst hij
      rw [List.getElem?_set_self hj] at he'
      cases he'
      rw [hu] at hu'
      cases hu'
      have hm : e.v.length = m := by
        have := hval.at_.len
        exact this
      have hr := hval.row
      rw [hm] at hr
      refine ⟨⟨?_, ?_⟩, hkey⟩
      · have hs := (hr.stored f (.int .u32 (x : Int))).1
        simp only [List.length_set, hm]
        have e1 : u32s (e.v.set f x) = (u32s e.v).set f (.int .u32 (x : Int)) := by simp [u32s, List.map_set]
        rw [e1]
        exact hs
      · intro y hy
        rcases List.mem_or_eq_of_mem_set hy with hy | rfl
        · exact hval.lt y hy
        · exact hx
    · rw [List.getElem?_set_ne hij] at he'
      obtain ⟨h1, h2⟩ := h.val i e' u' he' hu'
      exact ⟨h1.only (Only.setCell w gu f _) (h.lone j i _ u' gu hij hu hu' rfl), h2⟩
theorem OwnW.ne_blk {w : World} {base gu m cu b : Nat} {xs : List Nat} {t : TypeId} {cs : Array Value} (h : OwnW w base (.slice (some ⟨gu, 0, none⟩) m cu) xs) (hb : Blk w b t cs) (ht : t ≠ 25) : gu ≠ b := by
  rintro rfl
  rcases h.row.2 with ⟨h1, _⟩ | ⟨g', cap, cur, he, _, hg', _⟩
  · cases h1
  · cases he
    unfold Blk at hb
    rw [hg'] at hb
    cases hb
    exact ht rfl
theorem OwnEs.nil_ (w : World) (base : Nat) : OwnEs w base (.slice none 0 0) [] [] :=
  ⟨rfl, World.ownsRow_nil w base _ 2, fun i e u he _ => by simp at he, fun i j u v b _ hu _ _ => by simp at hu⟩
/-- A row of noughts that was made. -/
theorem OwnW.made {w : World} {base g m : Nat} (h : Blk w g 25 (madeCells #[.int .u32 0] m)) (hb : base ≤ g) (hm : m ≤ maxLen) : OwnW w base (.slice (some ⟨g, 0, none⟩) m m) (List.replicate m 0) := by
  refine ⟨⟨by simp [u32s_length], .inr ⟨g, m, _, by simp, hb, h, by simp, hm, by simp [size_madeCells], ?_⟩⟩, fun x hx => by simp at hx; omega⟩
  have := toList_madeCells_one (.int .u32 0) m
  rw [this]
  simp [u32s]
theorem row_ne_box {w : World} {base b size n : Nat} {e t : TypeId} {v : Value} {xs : List Value} {cs : Array Value} (h : w.ownsRow base e size v n xs) (hb : Blk w b t cs) (ht : t ≠ e) : v.ownBlock ≠ some b := by
  intro hv
  rcases h.2 with ⟨rfl, _⟩ | ⟨g', cap, cur, rfl, _, hg', _⟩
  · simp [Value.ownBlock] at hv
  · simp only [Value.ownBlock, Option.some.injEq] at hv
    subst hv
    unfold Blk at hb
    rw [hg'] at hb
    cases hb
    exact ht rfl
/-- A box of another type is written: what is owned stays. -/
theorem OwnEs.box {w w' : World} {base b : Nat} {t : TypeId} {cs : Array Value} {v : Value} {es : List Ent} {us : List Value} (h : OwnEs w base v es us) (hb : Blk w b t cs) (ho : Only b w w') (h1 : t ≠ 39) (h2 : t ≠ 25) : OwnEs w' base v es us :=
  ⟨h.len, h.row.kept ho (.inr (row_ne_box h.row hb h1)), fun i e u he hu => ⟨(h.val i e u he hu).1.only ho (row_ne_box (h.val i e u he hu).1.row hb h2), (h.val i e u he hu).2⟩, h.lone⟩
theorem OwnEs.ne_box {w : World} {base b g n c : Nat} {t : TypeId} {cs : Array Value} {es : List Ent} {us : List Value} (h : OwnEs w base (.slice (some ⟨g, 0, none⟩) n c) es us) (hb : Blk w b t cs) (h1 : t ≠ 39) : g ≠ b := fun e => row_ne_box h.row hb h1 (by rw [e]; rfl)
end Go.Proofs.Ytpmnchgpbojppaa
