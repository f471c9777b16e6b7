/-
  PROVED: the statement DeltaHelps of the given seat: whatever the helper, the environment and the words, drydocklaw19.DeltaHelps returns true, and what was handed in reads as it did.
  Conditions: none beyond the statement's own.
-/
import Derived.Test.YtpmnchgpbojppaaDhe2
import Derived.Test.YtpmnchgpbojppaaRows
/- DeltaHelps, plainly. -/
set_option linter.unusedVariables false
set_option linter.unusedSimpArgs false
namespace Go.Proofs.Ytpmnchgpbojppaa
open Go Go.RowKit Go.Proofs.Try

theorem words_some {a b : List UInt32} (ha : a.length ≤ 1048576) : ∃ r, p_drydockref01_Words a b = some r ∧ (a = b → r = true) := by
  unfold p_drydockref01_Words
  by_cases hl : a.length = b.length
  · have hb : ((a.length : Int) != (b.length : Int)) = false := by simp; omega
    simp only [hb, cond_false]
    obtain ⟨r, h1, h2⟩ := lp_inv (step := fun x => p_drydockref01_Words_L3 a b x) (fun s => ∃ n : Nat, s = (n : Int) ∧ n ≤ a.length) (fun s => ((a.length : Int) - s).toNat) (fun r => r = .inl () ∨ (r = .inr false ∧ a ≠ b)) (by
      rintro s ⟨n, rfl, hn⟩
      simp only [p_drydockref01_Words_L3]
      by_cases hlt : n < a.length
      · have hd : decide ((n : Int) < (a.length : Int)) = true := by simp; omega
        obtain ⟨x, hx⟩ : ∃ x, a[n]? = some x := ⟨_, List.getElem?_eq_getElem hlt⟩
        obtain ⟨y, hy⟩ : ∃ y, b[n]? = some y := ⟨_, List.getElem?_eq_getElem (by omega)⟩
        simp only [hd, cond_true, idx_nat, hx, hy, po_of]
        by_cases he : x = y
        · left
          have : ((x.toNat : Int) != (y.toNat : Int)) = false := by rw [he]; simp
          simp only [this, cond_false]
          exact ⟨_, rfl, ⟨n + 1, w64 (by omega), by omega⟩, by simp only [w64 (show n < 9223372036854775807 by omega)]; omega⟩
        · right
          have : ((x.toNat : Int) != (y.toNat : Int)) = true := by
            rw [bne_iff_ne]
            intro h
            exact he (UInt32.toNat_inj.1 (Int.ofNat_inj.1 h))
          simp only [this, cond_true]
          exact ⟨_, rfl, .inr ⟨rfl, fun h => he (by rw [h, hy] at hx; injection hx with hx; exact hx.symm)⟩⟩
      · right
        have hd : decide ((n : Int) < (a.length : Int)) = false := by simp; omega
        simp only [hd, cond_false]
        exact ⟨_, rfl, .inl rfl⟩) 0 ⟨0, rfl, Nat.zero_le _⟩
    rw [h1]
    rcases h2 with rfl | ⟨rfl, h3⟩
    · exact ⟨true, rfl, fun _ => rfl⟩
    · exact ⟨false, rfl, fun h => absurd h h3⟩
  · have hb : ((a.length : Int) != (b.length : Int)) = true := by simp; omega
    simp only [hb, cond_true]
    exact ⟨_, rfl, fun h => absurd (congrArg List.length h) hl⟩
theorem at_is {t : T_Table} (o : UInt32) (hl : t.E.length ≤ 1048576) : p_drydockref05_At t o = some (fidx o.toNat (toT t).e 0) := by
  have getT : ∀ (j : Nat) (x : Ent), (toT t).e[j]? = some x → ∃ e, t.E[j]? = some e ∧ x.key = e.Key.toNat := fun j x hx => by
    have hx' : (t.E.map toE)[j]? = some x := hx
    rw [List.getElem?_map, Option.map_eq_some_iff] at hx'
    obtain ⟨e, he, rfl⟩ := hx'
    exact ⟨e, he, rfl⟩
  have key := lp_inv (step := fun x => p_drydockref05_At_L2 t o x) (fun s => ∃ n : Nat, s = (n : Int) ∧ n ≤ t.E.length ∧ ∀ (j : Nat) (e : T_Entry), j < n → t.E[j]? = some e → e.Key ≠ o) (fun s => ((t.E.length : Int) - s).toNat)
    (fun r => (r = .inl () ∧ fidx o.toNat (toT t).e 0 = -1) ∨ r = .inr (fidx o.toNat (toT t).e 0)) (by
    rintro s ⟨n, rfl, hn, hno⟩
    simp only [p_drydockref05_At_L2]
    by_cases hlt : n < t.E.length
    · have hd : decide ((n : Int) < (t.E.length : Int)) = true := by simp; omega
      obtain ⟨x, hx⟩ : ∃ x, t.E[n]? = some x := ⟨_, List.getElem?_eq_getElem hlt⟩
      simp only [hd, cond_true, idx_nat, hx, po_of]
      by_cases he : x.Key = o
      · right
        have : ((x.Key.toNat : Int) == (o.toNat : Int)) = true := by rw [he]; simp
        simp only [this, cond_true]
        refine ⟨_, rfl, .inr ?_⟩
        have hx2 : (toT t).e[n]? = some (toE x) := by
          show (t.E.map toE)[n]? = _
          rw [List.getElem?_map, hx]
          rfl
        rw [fidx_found (j := 0) (k := n) hx2 (by rw [← he]; rfl) fun j y hj hy hk => by
          obtain ⟨e, h1, h2⟩ := getT j y hy
          exact hno j e hj h1 (UInt32.toNat_inj.1 (by rw [← h2, hk]))]
        simp
      · left
        have : ((x.Key.toNat : Int) == (o.toNat : Int)) = false := by
          rw [beq_eq_false_iff_ne]
          intro h
          exact he (UInt32.toNat_inj.1 (Int.ofNat_inj.1 h))
        simp only [this, cond_false]
        refine ⟨_, rfl, ⟨n + 1, w64 (by omega), by omega, fun j e hj hje => ?_⟩, by simp only [w64 (show n < 9223372036854775807 by omega)]; omega⟩
        rcases Nat.lt_or_ge j n with h | h
        · exact hno j e h hje
        · rw [show j = n by omega, hx] at hje
          injection hje with hje
          subst hje
          exact he
    · right
      have hd : decide ((n : Int) < (t.E.length : Int)) = false := by simp; omega
      simp only [hd, cond_false]
      refine ⟨_, rfl, .inl ⟨rfl, fidx_none fun j y hy hk => ?_⟩⟩
      obtain ⟨e, h1, h2⟩ := getT j y hy
      exact hno j e (by have := get_lt h1; omega) h1 (UInt32.toNat_inj.1 (by rw [← h2, hk]))) 0 ⟨0, rfl, Nat.zero_le _, fun j e hj => by omega⟩
  obtain ⟨r, h1, h2⟩ := key
  unfold p_drydockref05_At
  rw [h1]
  rcases h2 with ⟨rfl, h3⟩ | rfl
  · rw [h3]; rfl
  · rfl
/-- Two tables of one mind of a key. -/
def Agree (t u : T_Table) (o : UInt32) : Prop := t = u ∨ ((keys (toT t).e).Nodup ∧ (keys (toT u).e).Nodup ∧ ∀ e : Ent, e.key = o.toNat → (e ∈ (toT t).e ↔ e ∈ (toT u).e))
theorem toE_inj {a b : T_Entry} (h : toE a = toE b) : a = b := by rw [← ofE_toE a, h, ofE_toE]
theorem agree_at {t u : T_Table} {o : UInt32} (h : Agree t u o) : (fidx o.toNat (toT t).e 0 < 0 ∧ fidx o.toNat (toT u).e 0 < 0) ∨
    (0 ≤ fidx o.toNat (toT t).e 0 ∧ 0 ≤ fidx o.toNat (toT u).e 0 ∧ ∀ x y, idx t.E (fidx o.toNat (toT t).e 0) = some x → idx u.E (fidx o.toNat (toT u).e 0) = some y → x.V = y.V) := by
  rcases h with rfl | ⟨n1, n2, h⟩
  · by_cases hq : fidx o.toNat (toT t).e 0 < 0
    · exact .inl ⟨hq, hq⟩
    · exact .inr ⟨by omega, by omega, fun x y hx hy => by rw [hx] at hy; injection hy with hy; rw [hy]⟩
  · have has : ∀ (l : List Ent), (0 ≤ fidx o.toNat l 0) ↔ ∃ e ∈ l, e.key = o.toNat := fun l => by
      constructor
      · intro h0
        obtain ⟨i, e, _, h2, h3⟩ := fidx_some rfl h0
        exact ⟨e, List.mem_of_getElem? h2, h3⟩
      · rintro ⟨e, he, hk⟩
        apply Decidable.byContradiction
        intro hn
        exact fidx_none_iff hn e he hk
    have iff : (0 ≤ fidx o.toNat (toT t).e 0) ↔ (0 ≤ fidx o.toNat (toT u).e 0) := by
      rw [has, has]
      constructor
      · rintro ⟨e, he, hk⟩
        exact ⟨e, (h e hk).1 he, hk⟩
      · rintro ⟨e, he, hk⟩
        exact ⟨e, (h e hk).2 he, hk⟩
    by_cases hq : 0 ≤ fidx o.toNat (toT t).e 0
    · refine .inr ⟨hq, iff.1 hq, fun x y hx hy => ?_⟩
      obtain ⟨i, e, h1, h2, h3⟩ := fidx_some rfl hq
      obtain ⟨j, f, h4, h5, h6⟩ := fidx_some rfl (iff.1 hq)
      have hx2 : (toT t).e[i]? = some (toE x) := by
        show (t.E.map toE)[i]? = _
        rw [h1, Nat.zero_add, idx_nat] at hx
        rw [List.getElem?_map, hx]
        rfl
      have hy2 : (toT u).e[j]? = some (toE y) := by
        show (u.E.map toE)[j]? = _
        rw [h4, Nat.zero_add, idx_nat] at hy
        rw [List.getElem?_map, hy]
        rfl
      rw [h2] at hx2
      rw [h5] at hy2
      injection hx2 with hx2
      injection hy2 with hy2
      have he := (h e h3).1 (List.mem_of_getElem? h2)
      obtain ⟨j', hj'⟩ := List.mem_iff_getElem?.1 he
      have : j' = j := keys_inj n2 hj' h5 (by rw [h3, h6])
      subst this
      rw [h5] at hj'
      injection hj' with hj'
      have : x = y := toE_inj (by rw [← hx2, ← hy2, hj'])
      rw [this]
    · exact .inl ⟨by omega, by have := fun h0 => hq (iff.2 h0); omega⟩
theorem mem_perm {l b : List Ent} {a y : Ent} (hp : l.Perm (a :: b)) (h : y.key ≠ a.key) : y ∈ l ↔ y ∈ b := by
  rw [hp.mem_iff, List.mem_cons]
  exact ⟨fun q => q.resolve_left fun e => h (by rw [e]), .inr⟩
theorem nodup_of_may {t : Tab} (hm : t.may = true) (h3 : t.s.kind ≠ 3) : (keys t.e).Nodup := ((may_std h3).1 hm).2.2.2.2.2
theorem act_agree {n : Int} {t u : T_Table} {a : List UInt32} {v : UInt32} (hm : (toT t).may = true) (hf : fitsN n (toT t).s = true) (hk2 : t.S.Kind ≠ 2) (hk3 : t.S.Kind ≠ 3) (h : ActR t n a u v) (o : UInt32) :
    Agree t u o ∨ ((n = 1 ∧ a.length = 4 ∨ n = 2 ∧ a.length = 2) ∧ a[1]? = some o) := by
  obtain ⟨k1, k2⟩ := act_keeps hm h
  have hn1 := nodup_of_may hm hk3
  have hn2 := nodup_of_may k1 (by show u.S.Kind ≠ 3; rw [k2]; exact hk3)
  cases h with
  | get x k f =>
    left
    left
    rw [(gets_ok hm).2.2.2.2.2.2.2.1 hk2, ofT_toT]
  | set x k f w h0 =>
    by_cases hko : k = o
    · subst hko
      exact .inr ⟨.inl ⟨rfl, rfl⟩, rfl⟩
    · left
      right
      refine ⟨hn1, hn2, fun e he => ?_⟩
      rw [to_set]
      obtain ⟨hkd, hs, hx, e0, base, hk0, hw0, hb, hp, hc⟩ := set_ok h0
      have hne : e.key ≠ k.toNat := fun q => hko (UInt32.toNat_inj.1 (by rw [← q, he]))
      rw [mem_perm hp (by show e.key ≠ e0.key; rw [hk0]; exact hne)]
      rcases hc with ⟨hq, _⟩ | ⟨_, _, ⟨rfl, _⟩ | ⟨_, hk, _⟩⟩
      · exact mem_perm hq.symm (by rw [hk0]; exact hne)
      · exact Iff.rfl
      · exact absurd hk hk2
  | setE x k f w h0 => exact .inl (.inl rfl)
  | del x k =>
    by_cases hko : k = o
    · subst hko
      exact .inr ⟨.inr ⟨rfl, rfl⟩, rfl⟩
    · left
      right
      refine ⟨hn1, hn2, fun y hy => ?_⟩
      rw [to_del]
      have hne : y.key ≠ k.toNat := fun q => hko (UInt32.toNat_inj.1 (by rw [← q, hy]))
      cases hh : (toT t).has k.toNat 0 with
      | false =>
        have hd : (toT t).del k.toNat = (toT t, false) := by unfold Tab.del; rw [if_pos hh]
        rw [hd]
      | true =>
        obtain ⟨hkd, hp⟩ : (toT t).keyed 0 = true ∧ 0 ≤ fidx k.toNat (toT t).e 0 := by simpa [Tab.has] using hh
        obtain ⟨i, e, hi, he, hek⟩ := fidx_some rfl hp
        have hid : (toT t).idx k.toNat = i := by unfold Tab.idx; omega
        have hil : i < (toT t).e.length := (List.getElem?_eq_some_iff.1 he).1
        have hye : y.key ≠ e.key := by rw [hek]; exact hne
        by_cases hk0 : (toT t).s.kind = 0
        · have hd : ((toT t).del k.toNat).1.e = (toT t).e.set i { e with v := List.replicate e.v.length 0 } := by
            unfold Tab.del
            rw [if_neg (by simp [hh]), if_pos hk0, hid]
            simp [zeroE, he]
          rw [hd, mem_perm (set_perm hil { e with v := List.replicate e.v.length 0 }) hye]
          exact mem_perm (erase_perm he).symm hye
        · have hd : ((toT t).del k.toNat).1.e = (toT t).e.eraseIdx i := by
            unfold Tab.del
            rw [if_neg (by simp [hh]), if_neg hk0, hid]
          rw [hd]
          exact mem_perm (erase_perm he).symm hye
  | has x k => exact .inl (.inl rfl)
  | push x w h0 =>
    exfalso
    simp [fitsN, toT, toS] at hf
    exact hk3 (of_decide_eq_true hf.2)
  | pushE x w h0 => exact .inl (.inl rfl)
/-- What delta.Of tells. -/
def ofN (n : Int) (a : List UInt32) : UInt32 × UInt32 × Bool := if n = 1 ∧ a.length = 4 ∨ n = 2 ∧ a.length = 2 then ((a[0]?).getD 0, (a[1]?).getD 0, true) else (0, 0, false)
theorem of_is (n : Int) (a : List UInt32) : p_delta_Of n a = some (ofN n a) := by
  unfold p_delta_Of ofN
  have ne : ∀ k : Int, ¬ n = k → (n == k) = false := fun k h => by simpa using h
  have l4 : ∀ k : Nat, ((a.length : Int) == (k : Int)) = decide (a.length = k) := fun k => by
    rw [Bool.eq_iff_iff]
    simp
    omega
  have l4' : ((a.length : Int) == 4) = decide (a.length = 4) := l4 4
  have l2' : ((a.length : Int) == 2) = decide (a.length = 2) := l4 2
  have fin : ∀ b, (b = true → 2 ≤ a.length) → p_delta_Of_J1 a b = some (if b = true then ((a[0]?).getD 0, (a[1]?).getD 0, true) else (0, 0, false)) := fun b hb => by
    cases b with
    | false => rfl
    | true =>
      have := hb rfl
      obtain ⟨x, hx⟩ : ∃ x, a[0]? = some x := ⟨_, List.getElem?_eq_getElem (by omega)⟩
      obtain ⟨y, hy⟩ : ∃ y, a[1]? = some y := ⟨_, List.getElem?_eq_getElem (by omega)⟩
      simp only [p_delta_Of_J1, cond_true, hx, hy, po_of, Option.getD_some, if_true]
  rw [l4', l2']
  by_cases h1 : n = 1
  · subst h1
    by_cases h4 : a.length = 4
    · simp only [beq_self_eq_true, cond_true, h4, decide_true, po_of]
      rw [fin true (fun _ => by omega)]
      simp
    · have z : ((1 : Int) == 2) = false := rfl
      simp only [beq_self_eq_true, cond_true, h4, decide_false, cond_false, z, po_of]
      rw [fin false (fun q => by cases q)]
      simp
  · simp only [ne _ h1, cond_false]
    by_cases h2 : n = 2
    · subst h2
      simp only [beq_self_eq_true, cond_true, po_of]
      rw [fin _ (fun q => by simp at q; omega)]
      simp
    · simp only [ne _ h2, cond_false, po_of]
      rw [fin false (fun q => by cases q)]
      simp [h1, h2]
theorem helps_cmp {t u : T_Table} {o : UInt32} {s : T_Env} (ht : t.E.length ≤ 1048576) (hu : u.E.length ≤ 1048576) (hv : ∀ e ∈ t.E, e.V.length ≤ 1048576) :
    ∃ i j, p_drydockref05_At t o = some i ∧ p_drydockref05_At u o = some j ∧ ∃ b, (Agree t u o → b = true) ∧
      (cond (decide (i < 0)) (cond (decide (j < 0)) (some (s, true)) (cond (decide (i ≥ 0)) (cond (decide (j ≥ 0)) (po (idx t.E i) fun x29 => po (idx u.E j) fun x30 => po (p_drydockref01_Words x29.V x30.V) fun r31 => some (s, r31)) (some (s, false))) (some (s, false))))
        (cond (decide (i ≥ 0)) (cond (decide (j ≥ 0)) (po (idx t.E i) fun x34 => po (idx u.E j) fun x35 => po (p_drydockref01_Words x34.V x35.V) fun r36 => some (s, r36)) (some (s, false))) (some (s, false))) : Option (T_Env × Bool)) = some (s, b) := by
  refine ⟨_, _, at_is o ht, at_is o hu, ?_⟩
  have hlt := fidx_lt o.toNat (toT t).e 0
  have hlu := fidx_lt o.toNat (toT u).e 0
  have et : (toT t).e.length = t.E.length := by simp [toT]
  have eu : (toT u).e.length = u.E.length := by simp [toT]
  have ha : Agree t u o → _ := agree_at
  generalize fidx o.toNat (toT t).e 0 = i at *
  generalize fidx o.toNat (toT u).e 0 = j at *
  by_cases hi : i < 0
  · have d1 : decide (i < 0) = true := by simpa using hi
    have d2 : decide (i ≥ 0) = false := by simpa using hi
    by_cases hj : j < 0
    · have d3 : decide (j < 0) = true := by simpa using hj
      exact ⟨true, fun _ => rfl, by simp only [d1, d3, cond_true]⟩
    · have d3 : decide (j < 0) = false := by simpa using hj
      refine ⟨false, fun h => ?_, by simp only [d1, d2, d3, cond_true, cond_false]⟩
      have := ha h
      omega
  · have d1 : decide (i < 0) = false := by simpa using hi
    have d2 : decide (i ≥ 0) = true := by simpa using hi
    by_cases hj : j < 0
    · have d4 : decide (j ≥ 0) = false := by simpa using hj
      refine ⟨false, fun h => ?_, by simp only [d1, d2, d4, cond_true, cond_false]⟩
      have := ha h
      omega
    · have d4 : decide (j ≥ 0) = true := by simpa using hj
      obtain ⟨i', rfl⟩ := Int.eq_ofNat_of_zero_le (show 0 ≤ i by omega)
      obtain ⟨j', rfl⟩ := Int.eq_ofNat_of_zero_le (show 0 ≤ j by omega)
      obtain ⟨x, hx⟩ : ∃ x, t.E[i']? = some x := ⟨_, List.getElem?_eq_getElem (by omega)⟩
      obtain ⟨y, hy⟩ : ∃ y, u.E[j']? = some y := ⟨_, List.getElem?_eq_getElem (by omega)⟩
      obtain ⟨r, hr, hr2⟩ := words_some (a := x.V) (b := y.V) (hv x (List.mem_of_getElem? hx))
      refine ⟨r, fun h => hr2 ?_, by simp only [d1, d2, d4, cond_true, cond_false, idx_nat, hx, hy, po_of, hr]⟩
      rcases ha h with h | ⟨_, _, h⟩
      · omega
      · exact h x y (by rw [idx_nat]; exact hx) (by rw [idx_nat]; exact hy)
/-- What a call that went well leaves. -/
structure Helped (n : Int) (e : T_Env) (a : List UInt32) (r : T_Env × UInt32 × Int) : Prop where
  len : r.1.T.length = e.T.length
  tab : ∀ (j : Nat) (u t : T_Table), r.1.T[j]? = some u → e.T[j]? = some t → u.E.length ≤ 1048576 ∧ (t.S.Kind ≠ 3 → t.S.Kind ≠ 2 → ∀ o, Agree t u o ∨ ((n = 1 ∧ a.length = 4 ∨ n = 2 ∧ a.length = 2) ∧ a[1]? = some o ∧ a[0]?.map UInt32.toNat = some j))
theorem helped {n : Int} {e : T_Env} {a : List UInt32} {r : T_Env × UInt32 × Int} (hF : Fits e.T) (h : CallR n e a r) : r.2.2 ≠ 0 ∨ Helped n e a r := by
  have same : ∀ (j : Nat) (u t : T_Table), e.T[j]? = some u → e.T[j]? = some t → u.E.length ≤ 1048576 ∧ (t.S.Kind ≠ 3 → t.S.Kind ≠ 2 → ∀ o, Agree t u o ∨ ((n = 1 ∧ a.length = 4 ∨ n = 2 ∧ a.length = 2) ∧ a[1]? = some o ∧ a[0]?.map UInt32.toNat = some j)) := fun j u t hu ht => by
    rw [hu] at ht
    injection ht with ht
    subst ht
    exact ⟨hF.e _ (List.mem_of_getElem? hu), fun _ _ _ => .inl (.inl rfl)⟩
  cases h with
  | arg h => exact .inl (fun q => absurd (show (1 : Int) = 0 from q) (by decide))
  | draw h ha d => exact .inr ⟨rfl, same⟩
  | fault h hn x hx hw => exact .inl (fun q => absurd (show (10 : Int) = 0 from q) (by decide))
  | act h hn x t0 u0 v hx ht0 hm hf hfd hA =>
    right
    refine ⟨List.length_set, fun j u t hu ht => ?_⟩
    have hu' : (e.T.set x.toNat u0)[j]? = some u := hu
    rw [List.getElem?_set] at hu'
    split at hu'
    · rename_i hj
      subst hj
      rw [ht0] at ht
      injection ht with ht
      subst ht
      rw [if_pos (get_lt ht0)] at hu'
      injection hu' with hu'
      subst hu'
      refine ⟨by simpa [toT] using (mayFits (act_keeps hm hA).1).1, fun h3 h2 o => ?_⟩
      rcases act_agree hm hf h2 h3 hA o with h | ⟨h, h'⟩
      · exact .inl h
      · exact .inr ⟨h, h', by rw [hx]; rfl⟩
    · exact same j u t hu' ht
theorem helps_step {n : Int} {e : T_Env} {a : List UInt32} {r : T_Env × UInt32 × Int} {o : UInt32} (hF : Fits e.T) (hk : Helped n e a r) {m : Nat} (hlt : m < e.T.length) :
    p_drydocklaw19_DeltaHelps_L13 e o (ofN n a) r.1 m = some (.inl (r.1, ((m + 1 : Nat) : Int))) := by
  have hd : decide ((m : Int) < (e.T.length : Int)) = true := by simp; omega
  have hl2 := hk.len
  have hl3 := hF.len
  obtain ⟨u, hu⟩ : ∃ u, r.1.T[m]? = some u := ⟨_, List.getElem?_eq_getElem (by omega)⟩
  obtain ⟨t, ht⟩ : ∃ t, e.T[m]? = some t := ⟨_, List.getElem?_eq_getElem hlt⟩
  obtain ⟨q1, q2⟩ := hk.tab m u t hu ht
  have w := w64 (show m < 9223372036854775807 by omega)
  have htm := List.mem_of_getElem? ht
  unfold p_drydocklaw19_DeltaHelps_L13
  simp only [hd, cond_true, idx_nat, ht, po_of]
  have done : ∀ X, X = some (.inl r.1) → pm X (fun x => p_drydocklaw19_DeltaHelps_J15 (m : Int) x) = some (.inl (r.1, ((m + 1 : Nat) : Int))) := fun X hX => by
    subst hX
    show p_drydocklaw19_DeltaHelps_J15 (m : Int) r.1 = _
    simp only [p_drydocklaw19_DeltaHelps_J15, w]
  refine done _ ?_
  by_cases h3 : t.S.Kind = 3
  · have b3 : (t.S.Kind == 3) = true := by simpa using h3
    simp only [b3, cond_true, po_of, p_drydocklaw19_DeltaHelps_J16]
  have b3 : (t.S.Kind == 3) = false := by simpa using h3
  simp only [b3, cond_false, po_of]
  by_cases h2 : t.S.Kind = 2
  · have b2 : (t.S.Kind == 2) = true := by simpa using h2
    simp only [b2, cond_true, p_drydocklaw19_DeltaHelps_J16]
  have b2 : (t.S.Kind == 2) = false := by simpa using h2
  obtain ⟨i, j, e1, e2, b, hb, e3⟩ := helps_cmp (o := o) (s := r.1) (hF.e _ htm) q1 (hF.v _ htm)
  simp only [b2, p_drydocklaw19_DeltaHelps_J16, cond_false, idx_nat, ht, hu, po_of, e1, e2]
  rw [e3]
  simp only [po_of, p_drydocklaw19_DeltaHelps_J24]
  rcases q2 h3 h2 o with hq | ⟨hq, h5, h6⟩
  · rw [hb hq]
    rfl
  · have hof : ofN n a = ((a[0]?).getD 0, o, true) := by
      unfold ofN
      rw [if_pos hq, h5]
      rfl
    rw [hof]
    have h7 : ((a[0]?).getD 0).toNat = m := by
      cases hx : a[0]? with
      | none => rw [hx] at h6; cases h6
      | some x => rw [hx] at h6; injection h6 with h6
    have b4 : (((((a[0]?).getD 0).toNat : Nat) : Int) != (m : Int)) = false := by rw [h7]; simp
    cases b with
    | true => rfl
    | false =>
      simp only [cond_false, cond_true, b4, bne_self_eq_false, po_of, p_drydocklaw19_DeltaHelps_J37]
theorem helps_true (n : Int) (e : T_Env) (a : List UInt32) (o : UInt32) : p_drydocklaw19_DeltaHelps n e a o = some true := by
  obtain ⟨b, hb1, hb2⟩ := few_tells e.T
  unfold p_drydocklaw19_DeltaHelps
  simp only [awake19, hb1, po_of, cond_true]
  cases b with
  | false => rfl
  | true =>
    have hF := (hb2 rfl).fits
    simp only [cond_true, po_of]
    rcases Bool.eq_false_or_eq_true (decide ((a.length : Int) > 4)) with h8 | h8
    · rw [h8]; rfl
    · rw [h8]
      obtain ⟨r, hr, hR⟩ := call_tells (n := n) (a := a) hF
      simp only [p_drydocklaw19_DeltaHelps_J2, cond_false, hr, of_is, po_of]
      by_cases h0 : r.2.2 = 0
      case neg =>
        have b0 : (r.2.2 != 0) = true := by simpa using h0
        simp only [b0, cond_true, po_of, p_drydocklaw19_DeltaHelps_J9]
      have b0 : (r.2.2 != 0) = false := by simpa using h0
      have hk := (helped hF hR).resolve_left (fun q => q h0)
      have c2 : ((r.1.T.length : Int) != (e.T.length : Int)) = false := by simp [hk.len]
      simp only [b0, c2, cond_false, po_of, p_drydocklaw19_DeltaHelps_J9]
      have key := lp_inv (step := fun x => p_drydocklaw19_DeltaHelps_L13 e o (ofN n a) x.1 x.2) (fun s => s.1 = r.1 ∧ ∃ m : Nat, s.2 = (m : Int) ∧ m ≤ e.T.length) (fun s => ((e.T.length : Int) - s.2).toNat) (fun q => q = .inl ()) (by
        rintro ⟨s, i⟩ ⟨h5, m, h6, h7⟩
        simp only at h5 h6
        subst h5
        subst h6
        by_cases hlt : m < e.T.length
        · left
          refine ⟨_, helps_step hF hk hlt, ⟨rfl, m + 1, rfl, by omega⟩, ?_⟩
          show ((e.T.length : Int) - ((m + 1 : Nat) : Int)).toNat < ((e.T.length : Int) - (m : Int)).toNat
          omega
        · right
          have hd : decide ((m : Int) < (e.T.length : Int)) = false := by simp; omega
          refine ⟨.inl (), ?_, rfl⟩
          simp only [p_drydocklaw19_DeltaHelps_L13, hd, cond_false]) (r.1, 0) ⟨rfl, 0, rfl, Nat.zero_le _⟩
      obtain ⟨q, h6, rfl⟩ := key
      rw [h6]
      rfl
end Go.Proofs.Ytpmnchgpbojppaa

/-
  PROVED: the statement DeltaHelps of the given seat: whatever the helper, the environment and the words, drydocklaw19.DeltaHelps returns true, and what was handed in reads as it did.
  Conditions: none beyond the statement's own.
-/
set_option linter.unusedVariables false
set_option linter.unusedSimpArgs false
namespace Go.Proofs.Ytpmnchgpbojppaa
open Go Go.ChangeShapes Go.WideShapes Go.ChangeAt Go.RowKit Go.Proofs.Try

theorem o_3 {H : Type} {enc : TypeId × Value → H} {w : World} {base : Nat} {spare : Nat → Bool} {held : Bool} {fuel : Nat} {cs : List Value} {x : DataW H × List MemPlace} (h : DataW.trod enc prog w base spare held fuel 3 cs = some x) : ∃ a : Int, DRels w (okW w) (encI64 a) cs:= oI64 underlying3 h
theorem o_25 {H : Type} {enc : TypeId × Value → H} {w : World} {base : Nat} {spare : Nat → Bool} {held : Bool} {fuel : Nat} {cs : List Value} {x : DataW H × List MemPlace} (h : DataW.trod enc prog w base spare held fuel 25 cs = some x) : ∃ a : UInt32, DRels w (okW w) (encU32 a) cs:= oU32 underlying25 h
theorem o_53 {H : Type} {enc : TypeId × Value → H} {w : World} {base : Nat} {spare : Nat → Bool} {held : Bool} {fuel : Nat} {cs : List Value} {x : DataW H × List MemPlace} (h : DataW.trod enc prog w base spare held fuel 53 cs = some x) : ∃ a : (A4 UInt32), DRels w (okW w) ((encA4 encU32) a) cs := by
  obtain ⟨xs, m, _, _, hl, hxl, hg⟩ := DataW.trod_array underlying53 h
  have hl : cs.length = 4 := hl.trans (by kernel_rfl)
  replace hxl : xs.length = 4 := hxl
  have e0 : prog.cellsOf 25 = 1 := by kernel_rfl
  have h0 := hg 0 (by decide)
  simp only [e0, Nat.reduceMul] at h0
  obtain ⟨b0, r0⟩ := o_25 (h0.trans (List.getElem?_eq_getElem (by omega)))
  have e1 : prog.cellsOf 25 = 1 := by kernel_rfl
  have h1 := hg 1 (by decide)
  simp only [e1, Nat.reduceMul] at h1
  obtain ⟨b1, r1⟩ := o_25 (h1.trans (List.getElem?_eq_getElem (by omega)))
  have e2 : prog.cellsOf 25 = 1 := by kernel_rfl
  have h2 := hg 2 (by decide)
  simp only [e2, Nat.reduceMul] at h2
  obtain ⟨b2, r2⟩ := o_25 (h2.trans (List.getElem?_eq_getElem (by omega)))
  have e3 : prog.cellsOf 25 = 1 := by kernel_rfl
  have h3 := hg 3 (by decide)
  simp only [e3, Nat.reduceMul] at h3
  obtain ⟨b3, r3⟩ := o_25 (h3.trans (List.getElem?_eq_getElem (by omega)))
  have r := (DRels.cat (DRels.cat (DRels.cat r0 r1) r2) r3)
  refine ⟨A4.mk b0 b1 b2 b3, ?_⟩
  have hf := full hl
  rw [← hf]
  exact r
theorem o_23 {H : Type} {enc : TypeId × Value → H} {w : World} {base : Nat} {spare : Nat → Bool} {held : Bool} {fuel : Nat} {cs : List Value} {x : DataW H × List MemPlace} (h : DataW.trod enc prog w base spare held fuel 23 cs = some x) : ∃ a : T_Schema, DRels w (okW w) (enc_Schema a) cs := by
  obtain ⟨xs, m, _, _, hl, hxl, hg⟩ := DataW.trod_struct underlying23 h
  have hl : cs.length = 4 := hl.trans (by kernel_rfl)
  replace hxl : xs.length = 4 := hxl
  have e0 : prog.cellsOf 3 = 1 := by kernel_rfl
  have h0 : DataW.trod enc prog w base spare held m 3 ((cs.drop 0).take (prog.cellsOf 3)) = xs[0]? := hg 0 _ rfl
  simp only [e0, Nat.reduceMul] at h0
  obtain ⟨b0, r0⟩ := o_3 (h0.trans (List.getElem?_eq_getElem (by omega)))
  have e1 : prog.cellsOf 3 = 1 := by kernel_rfl
  have h1 : DataW.trod enc prog w base spare held m 3 ((cs.drop 1).take (prog.cellsOf 3)) = xs[1]? := hg 1 _ rfl
  simp only [e1, Nat.reduceMul] at h1
  obtain ⟨b1, r1⟩ := o_3 (h1.trans (List.getElem?_eq_getElem (by omega)))
  have e2 : prog.cellsOf 3 = 1 := by kernel_rfl
  have h2 : DataW.trod enc prog w base spare held m 3 ((cs.drop 2).take (prog.cellsOf 3)) = xs[2]? := hg 2 _ rfl
  simp only [e2, Nat.reduceMul] at h2
  obtain ⟨b2, r2⟩ := o_3 (h2.trans (List.getElem?_eq_getElem (by omega)))
  have e3 : prog.cellsOf 3 = 1 := by kernel_rfl
  have h3 : DataW.trod enc prog w base spare held m 3 ((cs.drop 3).take (prog.cellsOf 3)) = xs[3]? := hg 3 _ rfl
  simp only [e3, Nat.reduceMul] at h3
  obtain ⟨b3, r3⟩ := o_3 (h3.trans (List.getElem?_eq_getElem (by omega)))
  have r := (DRels.cat (DRels.cat (DRels.cat r0 r1) r2) r3)
  refine ⟨T_Schema.mk b0 b1 b2 b3, ?_⟩
  have hf := full hl
  rw [← hf]
  exact r
theorem o_36 {H : Type} {enc : TypeId × Value → H} {w : World} {base : Nat} {spare : Nat → Bool} {held : Bool} {fuel : Nat} {cs : List Value} {x : DataW H × List MemPlace} (h : DataW.trod enc prog w base spare held fuel 36 cs = some x) : ∃ a : (List UInt32), DRels w (okW w) ((encL encU32) a) cs:= oSl (f := encU32) (sz := 1) underlying36 (by kernel_rfl) (by decide) (fun _ => rfl) (fun _ _ _ h => o_25 h) h
theorem o_39 {H : Type} {enc : TypeId × Value → H} {w : World} {base : Nat} {spare : Nat → Bool} {held : Bool} {fuel : Nat} {cs : List Value} {x : DataW H × List MemPlace} (h : DataW.trod enc prog w base spare held fuel 39 cs = some x) : ∃ a : T_Entry, DRels w (okW w) (enc_Entry a) cs := by
  obtain ⟨xs, m, _, _, hl, hxl, hg⟩ := DataW.trod_struct underlying39 h
  have hl : cs.length = 2 := hl.trans (by kernel_rfl)
  replace hxl : xs.length = 2 := hxl
  have e0 : prog.cellsOf 25 = 1 := by kernel_rfl
  have h0 : DataW.trod enc prog w base spare held m 25 ((cs.drop 0).take (prog.cellsOf 25)) = xs[0]? := hg 0 _ rfl
  simp only [e0, Nat.reduceMul] at h0
  obtain ⟨b0, r0⟩ := o_25 (h0.trans (List.getElem?_eq_getElem (by omega)))
  have e1 : prog.cellsOf 36 = 1 := by kernel_rfl
  have h1 : DataW.trod enc prog w base spare held m 36 ((cs.drop 1).take (prog.cellsOf 36)) = xs[1]? := hg 1 _ rfl
  simp only [e1, Nat.reduceMul] at h1
  obtain ⟨b1, r1⟩ := o_36 (h1.trans (List.getElem?_eq_getElem (by omega)))
  have r := (DRels.cat r0 r1)
  refine ⟨T_Entry.mk b0 b1, ?_⟩
  have hf := full hl
  rw [← hf]
  exact r
theorem o_24 {H : Type} {enc : TypeId × Value → H} {w : World} {base : Nat} {spare : Nat → Bool} {held : Bool} {fuel : Nat} {cs : List Value} {x : DataW H × List MemPlace} (h : DataW.trod enc prog w base spare held fuel 24 cs = some x) : ∃ a : (List T_Entry), DRels w (okW w) ((encL enc_Entry) a) cs:= oSl (f := enc_Entry) (sz := 2) underlying24 (by kernel_rfl) (by decide) (fun _ => rfl) (fun _ _ _ h => o_39 h) h
theorem o_27 {H : Type} {enc : TypeId × Value → H} {w : World} {base : Nat} {spare : Nat → Bool} {held : Bool} {fuel : Nat} {cs : List Value} {x : DataW H × List MemPlace} (h : DataW.trod enc prog w base spare held fuel 27 cs = some x) : ∃ a : T_Table, DRels w (okW w) (enc_Table a) cs := by
  obtain ⟨xs, m, _, _, hl, hxl, hg⟩ := DataW.trod_struct underlying27 h
  have hl : cs.length = 6 := hl.trans (by kernel_rfl)
  replace hxl : xs.length = 3 := hxl
  have e0 : prog.cellsOf 23 = 4 := by kernel_rfl
  have h0 : DataW.trod enc prog w base spare held m 23 ((cs.drop 0).take (prog.cellsOf 23)) = xs[0]? := hg 0 _ rfl
  simp only [e0, Nat.reduceMul] at h0
  obtain ⟨b0, r0⟩ := o_23 (h0.trans (List.getElem?_eq_getElem (by omega)))
  have e1 : prog.cellsOf 24 = 1 := by kernel_rfl
  have h1 : DataW.trod enc prog w base spare held m 24 ((cs.drop 4).take (prog.cellsOf 24)) = xs[1]? := hg 1 _ rfl
  simp only [e1, Nat.reduceMul] at h1
  obtain ⟨b1, r1⟩ := o_24 (h1.trans (List.getElem?_eq_getElem (by omega)))
  have e2 : prog.cellsOf 25 = 1 := by kernel_rfl
  have h2 : DataW.trod enc prog w base spare held m 25 ((cs.drop 5).take (prog.cellsOf 25)) = xs[2]? := hg 2 _ rfl
  simp only [e2, Nat.reduceMul] at h2
  obtain ⟨b2, r2⟩ := o_25 (h2.trans (List.getElem?_eq_getElem (by omega)))
  have r := (DRels.cat (DRels.cat r0 r1) r2)
  refine ⟨T_Table.mk b0 b1 b2, ?_⟩
  have hf := full hl
  rw [← hf]
  exact r
theorem o_51 {H : Type} {enc : TypeId × Value → H} {w : World} {base : Nat} {spare : Nat → Bool} {held : Bool} {fuel : Nat} {cs : List Value} {x : DataW H × List MemPlace} (h : DataW.trod enc prog w base spare held fuel 51 cs = some x) : ∃ a : (List T_Table), DRels w (okW w) ((encL enc_Table) a) cs:= oSl (f := enc_Table) (sz := 6) underlying51 (by kernel_rfl) (by decide) (fun _ => rfl) (fun _ _ _ h => o_27 h) h
theorem o_55 {H : Type} {enc : TypeId × Value → H} {w : World} {base : Nat} {spare : Nat → Bool} {held : Bool} {fuel : Nat} {cs : List Value} {x : DataW H × List MemPlace} (h : DataW.trod enc prog w base spare held fuel 55 cs = some x) : ∃ a : T_Env, DRels w (okW w) (enc_Env a) cs := by
  obtain ⟨xs, m, _, _, hl, hxl, hg⟩ := DataW.trod_struct underlying55 h
  have hl : cs.length = 6 := hl.trans (by kernel_rfl)
  replace hxl : xs.length = 3 := hxl
  have e0 : prog.cellsOf 53 = 4 := by kernel_rfl
  have h0 : DataW.trod enc prog w base spare held m 53 ((cs.drop 0).take (prog.cellsOf 53)) = xs[0]? := hg 0 _ rfl
  simp only [e0, Nat.reduceMul] at h0
  obtain ⟨b0, r0⟩ := o_53 (h0.trans (List.getElem?_eq_getElem (by omega)))
  have e1 : prog.cellsOf 51 = 1 := by kernel_rfl
  have h1 : DataW.trod enc prog w base spare held m 51 ((cs.drop 4).take (prog.cellsOf 51)) = xs[1]? := hg 1 _ rfl
  simp only [e1, Nat.reduceMul] at h1
  obtain ⟨b1, r1⟩ := o_51 (h1.trans (List.getElem?_eq_getElem (by omega)))
  have e2 : prog.cellsOf 25 = 1 := by kernel_rfl
  have h2 : DataW.trod enc prog w base spare held m 25 ((cs.drop 5).take (prog.cellsOf 25)) = xs[2]? := hg 2 _ rfl
  simp only [e2, Nat.reduceMul] at h2
  obtain ⟨b2, r2⟩ := o_25 (h2.trans (List.getElem?_eq_getElem (by omega)))
  have r := (DRels.cat (DRels.cat r0 r1) r2)
  refine ⟨T_Env.mk b0 b1 b2, ?_⟩
  have hf := full hl
  rw [← hf]
  exact r

theorem deltaHelpsOwn : ownKnob Try.prog.godebug = none := by kernel_rfl
theorem deltaHelpsLaid : laidOutB Try.prog = true := by kernel_rfl

set_option maxRecDepth 100000 in
theorem deltaHelps_lifted (os : Os) (started : os.Started) (H : Type) (enc : TypeId × Value → H) :
    ReturnsInHanded {} Try.checked os 18 .any (Rows.deltaHelpsSpec.pre6 enc Try.prog Try.f18 Rows.deltaHelpsRow.domain false) (Rows.deltaHelpsSpec.post enc Try.prog Try.f18 false true false false) := by
  refine returnsInHanded_of_change (C := Try.checked) deltaHelpsOwn started (by kernel_rfl) Try.func18
    (ChangeSpec.witness6 (enc := enc) (C := Try.checked) false ⟨#[], #[.int .i64 0, .agg #[.int .u32 0, .int .u32 0, .int .u32 0, .int .u32 0, .slice none 0 0, .int .u32 0], .slice none 0 0, .int .u32 0], []⟩ 8 (by kernel_rfl) (by kernel_rfl) (by kernel_rfl) (by kernel_rfl)) ?_
  intro W base args ds gs before hval0 hW _ _
  have hval : ∀ (j : Nat) t v, Try.f18.params[j]? = some t → args[j]? = some v → Value.okWide Try.prog W .any base t v := hval0
  have hW' := hW
  obtain ⟨p, q, hA0, hV, rfl, hfz, hnd⟩ := hW
  have hA : DataW.TrodAll enc Try.prog W 0 (fun _ => true) true Try.f18.params.toList args.toList ds p := hA0
  rw [Try.params18] at hA hval
  obtain ⟨l⟩ := args
  obtain ⟨v0, l0, d0, ds0, p0, q0, rfl, rfl, _, h0, hA1⟩ := trodAll_cons hA
  obtain ⟨v1, l1, d1, ds1, p1, q1, rfl, rfl, _, h1, hA2⟩ := trodAll_cons hA1
  obtain ⟨v2, l2, d2, ds2, p2, q2, rfl, rfl, _, h2, hA3⟩ := trodAll_cons hA2
  obtain ⟨v3, l3, d3, ds3, p3, q3, rfl, rfl, _, h3, hA4⟩ := trodAll_cons hA3
  obtain ⟨rfl, rfl, _⟩ := trodAll_nil hA4
  obtain ⟨rfl, rfl⟩ := trodVars_none hV
  obtain ⟨z0, rfl⟩ := okWide_int underlying3 (hval 0 _ v0 rfl rfl)
  obtain ⟨fuel0, hf0⟩ := h0
  obtain ⟨a0, r0⟩ := o_3 hf0
  obtain ⟨cs1, rfl, _⟩ := okWide_struct underlying55 (hval 1 _ v1 rfl rfl)
  obtain ⟨fuel1, hf1⟩ := h1
  obtain ⟨a1, r1⟩ := o_55 hf1
  obtain ⟨A2, n2, c2, rfl⟩ := okWide_slice underlying36 (hval 2 _ v2 rfl rfl)
  obtain ⟨fuel2, hf2⟩ := h2
  obtain ⟨a2, r2⟩ := o_36 hf2
  obtain ⟨z3, rfl⟩ := okWide_int underlying25 (hval 3 _ v3 rfl rfl)
  obtain ⟨fuel3, hf3⟩ := h3
  obtain ⟨a3, r3⟩ := o_25 hf3
  refine (Ctr.law (c_drydocklaw19_DeltaHelps a0 a1 a2 a3 (helps_true a0 a1 a2 a3)) rfl (VRels.of1 (.cons (arg_one r0) (.cons (arg_agg r1) (.cons (arg_one r2) (.cons (arg_one r3) (.nil))))))).mono fun e W' ⟨he, hw⟩ => ?_
  subst he
  exact ⟨_, rfl, post_law deltaHelpsLaid hW' rfl rfl (by kernel_rfl) rfl rfl rfl hw⟩

theorem deltaHelps_holds : Rows.DeltaHelpsSaid :=
  OpenClaim.holds_of_wide 18 Try.f18 rfl rfl rfl rfl rfl rfl rfl ⟨rfl, rfl, rfl, rfl, rfl⟩ rfl rfl rfl rfl rfl (by kernel_rfl) Try.func18 (by kernel_rfl)
    (of_decide_eq_true (by kernel_rfl)) (by unfold Func.isWrapper; first | (rw [if_pos (by decide +kernel)]; kernel_rfl) | (rw [if_neg (by decide +kernel)]; exact ⟨rfl, rfl⟩))
    (fun os started H enc _ => deltaHelps_lifted os started H enc)
end Go.Proofs.Ytpmnchgpbojppaa

