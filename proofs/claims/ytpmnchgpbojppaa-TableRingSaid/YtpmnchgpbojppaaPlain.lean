/- Plain laws of tables. -/
import Derived.Test.YtpmnchgpbojppaaSet
import Derived.Test.YtpmnchgpbojppaaFew
namespace Go.Proofs.Ytpmnchgpbojppaa
open Go Go.RowKit Go.Proofs.Try

def keys (es : List Ent) : List Nat := es.map Ent.key
theorem keys_inj {es : List Ent} (h : (keys es).Nodup) {i j : Nat} {a b : Ent} (ha : es[i]? = some a) (hb : es[j]? = some b) (hk : a.key = b.key) : i = j := by
  have hi : i < (keys es).length := by simp only [keys, List.length_map]; exact (List.getElem?_eq_some_iff.1 ha).1
  exact (List.getElem?_inj hi h).1 (by simp [keys, ha, hb, hk])
theorem fidx_eq {es : List Ent} (h : (keys es).Nodup) {i : Nat} {e : Ent} (he : es[i]? = some e) : fidx e.key es 0 = (i : Int) := by
  have := fidx_found (j := 0) he rfl (fun j x hj hx hk => by have := keys_inj h hx he hk; omega)
  simpa using this
theorem nodup_of_fidx {es : List Ent} (h : ∀ (i : Nat) (e : Ent), es[i]? = some e → fidx e.key es 0 = (i : Int)) : (keys es).Nodup := by
  unfold keys List.Nodup
  rw [List.pairwise_iff_getElem]
  intro i j hi hj hij he
  simp only [List.length_map] at hi hj
  simp only [List.getElem_map] at he
  have h1 := h i _ (List.getElem?_eq_getElem hi)
  have h2 := h j _ (List.getElem?_eq_getElem hj)
  rw [he, h2] at h1
  omega
theorem may_std {t : Tab} (h3 : t.s.kind ≠ 3) : t.may = true ↔ t.s.may = true ∧ (t.e.length : Int) ≤ t.s.cap ∧ t.next = 0 ∧ (t.s.kind = 0 → (t.e.length : Int) = t.s.cap ∧ ∀ (i : Nat) (e : Ent), t.e[i]? = some e → e.key = i) ∧
    (∀ e ∈ t.e, (e.v.length : Int) = t.s.words) ∧ (keys t.e).Nodup := by
  rw [Tab.may_iff]
  simp only [Tab.headOk, Bool.and_eq_true, Bool.or_eq_true, Bool.not_eq_true', decide_eq_true_eq, decide_eq_false_iff_not]
  constructor
  · rintro ⟨⟨⟨⟨a, b⟩, c⟩, d⟩, e⟩
    refine ⟨a, b, c.resolve_left h3, fun hk => ⟨d.resolve_left (fun q => q hk), fun i x hx => ((t.elOk_iff i x).1 (e i x hx)).2.2.1 hk⟩, fun x hx => ?_, nodup_of_fidx fun i x hx => ((t.elOk_iff i x).1 (e i x hx)).2.1⟩
    obtain ⟨i, hi⟩ := List.mem_iff_getElem?.1 hx
    exact ((t.elOk_iff i x).1 (e i x hi)).1
  · rintro ⟨a, b, c, d, e, g⟩
    refine ⟨⟨⟨⟨a, b⟩, .inr c⟩, ?_⟩, fun i x hx => (t.elOk_iff i x).2 ⟨e x (List.mem_of_getElem? hx), fidx_eq g hx, fun hk => (d hk).2 i x hx, fun hk => absurd hk h3⟩⟩
    by_cases hk : t.s.kind = 0
    · exact .inr (d hk).1
    · exact .inl hk

theorem keyed_iff {t : Tab} {f : Nat} : t.keyed f = true ↔ t.may = true ∧ t.s.kind ≠ 3 ∧ (f : Int) < t.s.words := by simp [Tab.keyed, and_assoc]
theorem get_mem {t : Tab} {key f : Nat} {e : Ent} (hk : t.keyed f = true) (he : e ∈ t.e) (hkey : e.key = key) : (t.get key f).2 = ((e.v[f]?).getD 0, true) := by
  obtain ⟨hm, h3, _⟩ := keyed_iff.1 hk
  obtain ⟨_, _, _, _, _, hn⟩ := (may_std h3).1 hm
  obtain ⟨i, hi⟩ := List.mem_iff_getElem?.1 he
  have hf := fidx_eq hn hi
  rw [hkey] at hf
  have hh : t.has key f = true := by simp [Tab.has, hk, hf]
  unfold Tab.get
  rw [if_pos hh]
  simp [Tab.word, Tab.idx, hf, hi]
theorem get_no {t : Tab} {key f : Nat} (h : ∀ e ∈ t.e, e.key ≠ key) : (t.get key f).2 = (0, false) := by
  have hf : fidx key t.e 0 = -1 := fidx_none fun i x hx => h x (List.mem_of_getElem? hx)
  have hh : t.has key f = false := by simp [Tab.has, hf]
  unfold Tab.get
  rw [if_neg (by simp [hh])]
theorem get_unkeyed {t : Tab} {key f : Nat} (h : t.keyed f = false) : (t.get key f).2 = (0, false) := by
  have hh : t.has key f = false := by simp [Tab.has, h]
  unfold Tab.get
  rw [if_neg (by simp [hh])]

theorem erase_perm {α : Type} : ∀ {l : List α} {i : Nat} {x : α}, l[i]? = some x → (x :: l.eraseIdx i).Perm l
  | [], i, x, h => by simp at h
  | a :: l, 0, x, h => by
    simp at h
    subst h
    exact List.Perm.refl _
  | a :: l, i + 1, x, h => by
    rw [List.eraseIdx_cons_succ]
    exact (List.Perm.swap a x _).trans ((erase_perm (by simpa using h)).cons a)
theorem set_perm {α : Type} {l : List α} {i : Nat} (h : i < l.length) (a : α) : (l.set i a).Perm (a :: l.eraseIdx i) := by
  have := erase_perm (l := l.set i a) (i := i) (x := a) (by simp [h])
  rw [List.eraseIdx_set_eq] at this
  exact this.symm
theorem toLast_perm {α : Type} {l : List α} {i : Nat} (h : i < l.length) : (toLast l i).Perm l := by
  unfold toLast
  rw [List.getElem?_eq_getElem h]
  exact List.perm_append_comm.trans (erase_perm (List.getElem?_eq_getElem h))
theorem touch_perm {α : Type} {kind : Int} {l : List α} {i : Nat} (h : i < l.length) : (touch kind l i).Perm l := by
  unfold touch
  split
  · exact toLast_perm h
  · exact List.Perm.refl _
theorem fidx_none_iff {key : Nat} : ∀ {es : List Ent} {k : Nat}, ¬ 0 ≤ fidx key es k → ∀ e ∈ es, e.key ≠ key
  | [], _, _ => by simp
  | a :: l, k, h => by
    unfold fidx at h
    split at h
    · omega
    · rename_i hk
      intro e he
      rcases List.mem_cons.1 he with rfl | he
      · exact hk
      · exact fidx_none_iff h e he
theorem fidx_some {key : Nat} : ∀ {es : List Ent} {k : Nat} {x : Int}, fidx key es k = x → 0 ≤ x → ∃ (i : Nat) (e : Ent), x = ((k + i : Nat) : Int) ∧ es[i]? = some e ∧ e.key = key
  | [], k, x, h, h0 => by simp [fidx] at h; omega
  | a :: l, k, x, h, h0 => by
    unfold fidx at h
    split at h
    · rename_i hk
      exact ⟨0, a, by omega, rfl, hk⟩
    · obtain ⟨i, e, h1, h2, h3⟩ := fidx_some h h0
      exact ⟨i + 1, e, by omega, h2, h3⟩

/-- What is set, said of the entries but for their order. -/
theorem set_ok {t : Tab} {key f x : Nat} (h : (t.set key f x).2 = 0) :
    t.keyed f = true ∧ (t.set key f x).1.s = t.s ∧ (t.set key f x).1.next = t.next ∧ ∃ (e0 : Ent) (base : List Ent), e0.key = key ∧ (e0.v.length : Int) = t.s.words ∧ (∀ e ∈ base, e.key ≠ key) ∧
      (t.set key f x).1.e.Perm ({ e0 with v := e0.v.set f x } :: base) ∧
      (((e0 :: base).Perm t.e ∧ (t.s.kind = 0 → keys (t.set key f x).1.e = keys t.e)) ∨
        ((∀ e ∈ t.e, e.key ≠ key) ∧ t.s.kind ≠ 0 ∧ ((base = t.e ∧ (t.e.length : Int) < t.s.cap) ∨ (base = t.e.drop 1 ∧ t.s.kind = 2 ∧ (t.e.length : Int) = t.s.cap)))) := by
  unfold Tab.set at h ⊢
  split at h
  · exact absurd h (by decide)
  · rename_i hkd
    have hkd : t.keyed f = true := by simpa using hkd
    rw [if_neg (by simp [hkd])]
    obtain ⟨hm, h3, hfw⟩ := keyed_iff.1 hkd
    obtain ⟨hsm, hlc, _, _, hw, hn⟩ := (may_std h3).1 hm
    have hsb := Sch.may_bounds hsm
    split at h
    · rename_i hp
      rw [if_pos hp]
      obtain ⟨i, e, hi, he, hek⟩ := fidx_some rfl hp
      have hid : t.idx key = i := by unfold Tab.idx; omega
      have hil : i < t.e.length := (List.getElem?_eq_some_iff.1 he).1
      have hupd : updE t.e i f x = t.e.set i { e with v := e.v.set f x } := by simp [updE, he]
      refine ⟨hkd, rfl, rfl, e, t.e.eraseIdx i, hek, hw e (List.mem_of_getElem? he), fun y hy hyk => ?_, ?_, .inl ⟨?_, fun h0 => ?_⟩⟩
      · obtain ⟨j, hj⟩ := List.mem_iff_getElem?.1 hy
        rw [List.getElem?_eraseIdx] at hj
        split at hj
        · have := keys_inj hn hj he (by rw [hyk, hek]); omega
        · have := keys_inj hn hj he (by rw [hyk, hek]); omega
      · simp only [hid, hupd]
        refine (touch_perm (by simpa using hil)).trans ?_
        exact set_perm hil _
      · exact erase_perm he
      · simp only [hid, hupd]
        unfold touch
        rw [if_neg (by omega)]
        unfold keys
        rw [List.map_set]
        refine List.ext_getElem? fun j => ?_
        rw [List.getElem?_set]
        split
        · rename_i hj
          subst hj
          simp [hil, (List.getElem?_eq_some_iff.1 he).2]
        · rfl
    · rename_i hp
      rw [if_neg hp]
      have hno := fidx_none_iff hp
      split at h
      · exact absurd h (by decide)
      · rename_i hk0
        rw [if_neg hk0]
        split at h
        · exact absurd h (by decide)
        · rename_i hk1
          rw [if_neg hk1]
          obtain ⟨base, hbase⟩ : ∃ base, base = (if (t.e.length : Int) = t.s.cap then t.e.drop 1 else t.e) := ⟨_, rfl⟩
          have hgr : t.grow key = base ++ [⟨key, List.replicate t.s.words.toNat 0⟩] := by unfold Tab.grow; rw [hbase]
          have hlast : updE (t.grow key) ((t.grow key).length - 1) f x = base ++ [⟨key, (List.replicate t.s.words.toNat 0).set f x⟩] := by
            rw [hgr]
            simp [updE]
          refine ⟨hkd, rfl, rfl, ⟨key, List.replicate t.s.words.toNat 0⟩, base, rfl, by simp; omega, fun y hy => ?_, ?_, .inr ⟨hno, hk0, ?_⟩⟩
          · refine hno y ?_
            rw [hbase] at hy
            split at hy
            · exact List.mem_of_mem_drop hy
            · exact hy
          · simp only [hlast]
            refine (touch_perm (by rw [hgr]; simp)).trans ?_
            exact List.perm_append_comm
          · by_cases hfull : (t.e.length : Int) = t.s.cap
            · rw [if_pos hfull] at hbase
              exact .inr ⟨hbase, by omega, hfull⟩
            · rw [if_neg hfull] at hbase
              exact .inl ⟨hbase, by omega⟩
theorem set_err {t : Tab} {key f x : Nat} (h : (t.set key f x).2 ≠ 0) : (t.set key f x).1.e = [] := by
  unfold Tab.set at h ⊢
  repeat' split
  all_goals first | rfl | (simp_all; done)
end Go.Proofs.Ytpmnchgpbojppaa
