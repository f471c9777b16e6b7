/-
  PROVED: the statement ShiftKeeps of the given seat: whatever the map, the schema and the program, drydocklaw18.ShiftKeeps returns true, and what was handed in reads as it did.
  Conditions: none beyond the statement's own.
-/
import Derived.Test.YtcffmheeofjifaaGreatSe6
import Derived.ProofKit
import Derived.Deep.Slices
import Derived.OpenShut
import Derived.Test.YtcffmheeofjifaaGreatRows
set_option linter.unusedVariables false
set_option linter.unusedSimpArgs false
set_option maxHeartbeats 4000000
set_option maxRecDepth 100000
namespace Go.Proofs.YtcffmheeofjifaaGreat
open Go Go.RowKit Go.Proofs.Tryz
theorem pin (a b c : Int) : Db a b c = some (inB a b c) := by
  unfold Db Iv inB
  by_cases h : a ≥ b
  · rw [decide_eq_true h]
    rfl
  · rw [decide_eq_false h]
    rfl
theorem smay (s : T_Schema) : Bw s = some (toS s).may := by
  unfold Bw
  have key : ∀ m, Fk s m = some (inB s.Kind 0 3 && inB s.Cap 1 16 && inB s.Words 1 m && inB s.Ver 0 1000) := by
    intro m
    unfold Fk Hk
    simp only [pin, po_of]
    cases inB s.Kind 0 3 <;> cases inB s.Cap 1 16 <;> cases inB s.Words 1 m <;> rfl
  by_cases h : s.Kind = 3
  · have h2 : (s.Kind == 3) = true := by simpa using h
    rw [h2]
    simp only [cond_true, po_of, key]
    simp [Sch.may, toS, h]
  · have h2 : (s.Kind == 3) = false := by simpa using h
    rw [h2]
    simp only [cond_false, po_of, key]
    simp [Sch.may, toS, h]
theorem step_all (a b : T_Schema) : ∃ r, Jv a b = some r ∧ (r = 1 → (toS b).may = true ∧ a.Kind = b.Kind) := by
  unfold Jv
  rw [smay, smay]
  have n2 : (2 : Int) = 1 → False := by decide
  have n0 : (0 : Int) = 1 → False := by decide
  cases h1 : (toS a).may with
  | false => exact ⟨2, rfl, fun h => (n2 h).elim⟩
  | true =>
    cases h2 : (toS b).may with
    | false => exact ⟨2, rfl, fun h => (n2 h).elim⟩
    | true =>
      simp only [po_of, Bool.not_true, cond_false]
      unfold Lk
      simp only [cond_false]
      cases h3 : ((a.Kind == b.Kind) && ((a.Cap == b.Cap) && ((a.Words == b.Words) && (a.Ver == b.Ver)))) with
      | true => exact ⟨0, rfl, fun h => (n0 h).elim⟩
      | false =>
        simp only [cond_false]
        cases h4 : (a.Kind == b.Kind) with
        | false => exact ⟨2, rfl, fun h => (n2 h).elim⟩
        | true =>
          simp only [cond_true, po_of]
          unfold Ln
          cases (b.Ver == IntKind.i64.wrap (a.Ver + 1)) with
          | true => exact ⟨1, rfl, fun _ => ⟨by first | exact h2 | trivial, by simpa using h4⟩⟩
          | false => exact ⟨2, rfl, fun h => (n2 h).elim⟩
theorem few03 (p : T_Prog) : ∃ b, Hi p = some b ∧ (b = true → p.Fns.length ≤ 12) := by
  obtain ⟨r, h1, h2⟩ := lp_inv (step := fun x => En p x.1 x.2) (fun s => (s.1 = true → p.Fns.length ≤ 12) ∧ ∃ n : Nat, s.2 = (n : Int) ∧ n ≤ p.Fns.length) (fun s => ((p.Fns.length : Int) - s.2).toNat) (fun r => r = true → p.Fns.length ≤ 12) (by
    rintro ⟨b, i⟩ ⟨h1, n, h2, h3⟩
    simp only at h1 h2
    subst h2
    simp only [En]
    by_cases hlt : n < p.Fns.length
    · have hd : decide ((n : Int) < (p.Fns.length : Int)) = true := by simp; omega
      rw [hd]
      cases b with
      | true =>
        left
        have hn := h1 rfl
        simp only [cond_true, po_of, Hs, idx_nat, List.getElem?_eq_getElem hlt, w64 (show n < 9223372036854775807 by omega)]
        exact ⟨_, rfl, ⟨fun _ => hn, n + 1, rfl, by omega⟩, by simp only; omega⟩
      | false =>
        right
        exact ⟨false, rfl, fun h => by cases h⟩
    · have hd : decide ((n : Int) < (p.Fns.length : Int)) = false := by simp; omega
      rw [hd]
      right
      exact ⟨b, rfl, h1⟩) (decide ((p.Fns.length : Int) ≤ 12), 0) ⟨fun h => by simp at h; omega, 0, rfl, Nat.zero_le _⟩
  exact ⟨r, by simp only [Hi, h1, po_of, Hx], h2⟩
theorem few18 (p : T_Prog) (l : List T_Table) (d : List UInt32) : ∃ b, Hg p l d = some b ∧ (b = true → p.Fns.length ≤ 12 ∧ FewL l) := by
  obtain ⟨b, hb, h1⟩ := few03 p
  obtain ⟨c, hc, h2⟩ := few_tells l
  unfold Hg
  simp only [hb, po_of]
  cases b with
  | false => exact ⟨false, rfl, fun h => by cases h⟩
  | true =>
    simp only [cond_true, hc, po_of]
    cases c with
    | false => exact ⟨false, rfl, fun h => by cases h⟩
    | true => exact ⟨_, rfl, fun _ => ⟨h1 rfl, h2 rfl⟩⟩
def newT (s : T_Schema) : T_Table := ⟨s, if s.Kind = 0 then (List.range s.Cap.toNat).map (fun i => ⟨UInt32.ofNat i, List.replicate s.Words.toNat 0⟩) else [], 0⟩
theorem new_is {s : T_Schema} (h : (toS s).may = true) : Mm s = some (newT s, 0) := by
  have hnew : Tab.new (toS s) = (⟨toS s, if (toS s).kind = 0 then newEs (toS s).cap.toNat (toS s).words.toNat else [], 0⟩, 0) := by
    unfold Tab.new
    rw [if_neg (by rw [h]; simp)]
  unfold Mm
  rw [hnew]
  congr 1
  unfold newT ofT
  simp only
  by_cases hk : s.Kind = 0
  · rw [if_pos (show (toS s).kind = 0 from hk), if_pos hk]
    simp only [newEs, List.map_map, Prod.mk.injEq, and_true]
    congr 1
    congr 1
    funext i
    simp [Function.comp, ofE, toS]
  · rw [if_neg (show (toS s).kind ≠ 0 from hk), if_neg hk]
    rfl
theorem fits_tells (a b : T_Schema) {p : T_Prog} (hf : p.Fns.length ≤ 1000) : ∃ r, Ff a b p = some r ∧ (r = 0 → (toS b).may = true ∧ a.Kind = b.Kind ∧ a.Cap ≤ b.Cap ∧ a.Kind ≠ 3 ∧ ∃ n, Ci p [] = some (n, 0)) := by
  unfold Ff
  have n9 : (9 : Int) = 0 → False := by decide
  have j1 : Dr p true = some 9 := rfl
  obtain ⟨⟨n, e⟩, hv, _⟩ := verify_ok p [] (by decide) hf
  have j0 : Dr p false = some e := by
    unfold Dr
    simp only [cond_false, hv, po_of]
  cases h1 : (a.Kind == 3) with
  | true => exact ⟨9, by simp only [cond_true, po_of, j1], fun h => (n9 h).elim⟩
  | false =>
    obtain ⟨r, hr, hq⟩ := step_all a b
    simp only [cond_false, hr, po_of]
    cases h2 : (r != 1) with
    | true => exact ⟨9, by simp only [cond_true, po_of, j1], fun h => (n9 h).elim⟩
    | false =>
      have hr1 : r = 1 := by simpa using h2
      obtain ⟨q1, q2⟩ := hq hr1
      simp only [cond_false, po_of]
      by_cases h3 : b.Cap < a.Cap
      · exact ⟨9, by simp only [decide_eq_true h3, j1], fun h => (n9 h).elim⟩
      · exact ⟨e, by simp only [decide_eq_false h3, j0], fun h => ⟨q1, q2, by omega, by simpa using h1, n, by rw [hv, h]⟩⟩
structure Good (t : T_Table) (s : T_Schema) (p : T_Prog) : Prop where
  may : (toT t).may = true
  smay : (toS s).may = true
  kind : t.S.Kind = s.Kind
  ring : t.S.Kind ≠ 3
  cap : t.S.Cap ≤ s.Cap
  ver : ∃ n, Ci p [] = some (n, 0)
section
variable {t : T_Table} {s : T_Schema} {p : T_Prog}
theorem Good.new (g : Good t s p) : Mm s = some (newT s, 0) := new_is g.smay
theorem Good.words (g : Good t s p) : ∃ W : Nat, s.Words = (W : Int) ∧ 1 ≤ W ∧ W ≤ 4 := by
  have hb := Sch.may_bounds g.smay
  have c2 : (toS s).words = s.Words := rfl
  rw [c2] at hb
  exact ⟨s.Words.toNat, by omega, by omega, by omega⟩
theorem Good.caps (g : Good t s p) : 1 ≤ s.Cap ∧ s.Cap ≤ 16 := by
  have hb := Sch.may_bounds g.smay
  have c1 : (toS s).cap = s.Cap := rfl
  rw [c1] at hb
  omega
theorem Good.std (g : Good t s p) : (toT t).s.may = true ∧ ((toT t).e.length : Int) ≤ (toT t).s.cap ∧ (toT t).next = 0 ∧ ((toT t).s.kind = 0 → ((toT t).e.length : Int) = (toT t).s.cap ∧ ∀ (i : Nat) (e : Ent), (toT t).e[i]? = some e → e.key = i) ∧
    (∀ e ∈ (toT t).e, (e.v.length : Int) = (toT t).s.words) ∧ (keys (toT t).e).Nodup := (may_std (show t.S.Kind ≠ 3 from g.ring)).1 g.may
theorem Good.tlen (g : Good t s p) : (t.E.length : Int) ≤ t.S.Cap := by
  have := g.std.2.1
  simpa [toT, toS] using this
theorem Good.v (g : Good t s p) {e : T_Entry} (he : e ∈ t.E) : e.V ≠ [] := by
  intro hn
  have hbt := Sch.may_bounds (Tab.may_sch g.may)
  have := g.std.2.2.2.2.1 (toE e) (by simp only [toT]; exact List.mem_map_of_mem he)
  rw [show (toE e).v = [] by simp [toE, hn]] at this
  simp at this
  omega
theorem Good.key0 (g : Good t s p) (h0 : s.Kind = 0) : (t.E.length : Int) = t.S.Cap ∧ ∀ (i : Nat) (e : T_Entry), t.E[i]? = some e → e.Key.toNat = i := by
  obtain ⟨q1, q2⟩ := g.std.2.2.2.1 (show t.S.Kind = 0 by rw [g.kind, h0])
  refine ⟨by simpa [toT, toS] using q1, fun i e he => ?_⟩
  exact q2 i (toE e) (by simp [toT, he])
theorem newT_len (g : Good t s p) : ((newT s).E.length : Int) = if s.Kind = 0 then s.Cap else 0 := by
  have := g.caps
  unfold newT
  by_cases h : s.Kind = 0
  · simp only [if_pos h, List.length_map, List.length_range]
    omega
  · simp only [if_neg h]
    rfl
theorem may_tells (t : T_Table) (s : T_Schema) {p : T_Prog} (hf : p.Fns.length ≤ 1000) : ∃ r, Iu t s p = some r ∧ (r = 0 → Good t s p ∧ Ff t.S s p = some 0) := by
  unfold Iu Kl
  simp only [po_of]
  cases hm : (toT t).may with
  | false => exact ⟨1, rfl, fun h => absurd h (by decide)⟩
  | true =>
    obtain ⟨e, he, hq⟩ := fits_tells t.S s hf
    simp only [Bool.not_true, cond_false, he, po_of]
    refine ⟨e, rfl, fun h => ?_⟩
    obtain ⟨q1, q2, q3, q4, q5⟩ := hq h
    exact ⟨⟨hm, q1, q2, q4, q3, q5⟩, by rw [h]⟩
theorem put_tells {W : Nat} (hW : s.Words = (W : Int)) (h1 : 1 ≤ W) (h4 : W ≤ 4) (p : T_Prog) (key : UInt32) {v : List UInt32} (hv : v ≠ []) :
    Ok (Dc s p key v) fun r => (r.2 = 0 ∧ r.1.length = W) ∨ (r.2 = 10 ∧ r.1 = []) := by
  unfold Dc
  rw [hW]
  have hl : 0 < v.length := List.length_pos_iff.2 hv
  refine .pg (by omega) (.pl ?_)
  refine .pm (P := fun r => match r with | .inl l => l.length = W | .inr r => r.2 = 10 ∧ r.1 = []) ?_ (fun l h => .mk (.inl ⟨rfl, h⟩)) fun r h => .inr h
  refine .lp (fun x => x.1.length = W ∧ ∃ n : Nat, x.2 = (n : Int) ∧ n ≤ W) (fun x => ((W : Int) - x.2).toNat) ⟨by simp, 0, rfl, Nat.zero_le _⟩ ?_
  rintro ⟨l, i⟩ ⟨hll, n, hn, hnW⟩
  simp only at hll hn
  subst hn
  unfold Jd
  rw [hW]
  refine .cond (fun hlt => ?_) fun _ => .mk hll
  have hlt : (n : Int) < (W : Int) := of_decide_eq_true hlt
  refine .po (P := fun x : List UInt32 × UInt32 => x.1 = l) (.cond (fun h => .po (Ok.idx (l := v) rfl (by have := of_decide_eq_true h; omega)) fun x _ => .mk rfl) fun _ => .mk rfl) ?_
  rintro ⟨l', o⟩ hl'
  simp only at hl'
  subst hl'
  unfold Jc
  refine .po (Ok.at_ (l := v) hl) fun x0 _ => .pl ?_
  obtain ⟨r, hr, _⟩ := keeps_run (p := p) (e := ⟨⟨key, UInt32.ofInt (n : Int), o, x0⟩, [], 0⟩) (fu := 2000) ⟨rfl⟩
  rw [hr, po_of]
  refine .po (P := fun x : List UInt32 × Bool => x.1 = l') (.cond (fun _ => .mk rfl) fun _ => .mk rfl) ?_
  rintro ⟨l2, b⟩ hl2
  simp only at hl2
  subst hl2
  unfold Kh
  refine .cond (fun _ => .mk ⟨rfl, rfl⟩) fun _ => .po (Ok.idx (l := l2) rfl (by omega)) fun y _ => .pl (.mk ⟨⟨by simpa using hll, n + 1, w1 (by omega), by omega⟩, ?_⟩)
  simp only [w1 (show n < 1000000 by omega)]
  omega
structure PutE (t : T_Table) (s : T_Schema) (p : T_Prog) (n : Nat) (E : List T_Entry) : Prop where
  len : E.length = n
  at_ : ∀ (j : Nat) (e : T_Entry), j < n → t.E[j]? = some e → ∃ v, Dc s p e.Key e.V = some (v, 0) ∧ E[j]? = some ⟨e.Key, v⟩
abbrev zeroT : T_Table := ⟨⟨0, 0, 0, 0⟩, [], 0⟩
theorem PutE.zero : PutE t s p 0 [] := ⟨rfl, fun j e h => by omega⟩
theorem PutE.succ {n : Nat} {E : List T_Entry} (h : PutE t s p n E) {e : T_Entry} (he : t.E[n]? = some e) {v : List UInt32} (hv : Dc s p e.Key e.V = some (v, 0)) : PutE t s p (n + 1) (E ++ [⟨e.Key, v⟩]) := by
  refine ⟨by simp [h.len], fun j e' hj he' => ?_⟩
  rcases Nat.lt_or_ge j n with hjn | hjn
  · obtain ⟨v', q1, q2⟩ := h.at_ j e' hjn he'
    exact ⟨v', q1, by rw [List.getElem?_append_left (by rw [h.len]; exact hjn)]; exact q2⟩
  · have : j = n := by omega
    subst this
    rw [he] at he'
    injection he' with he'
    subst he'
    exact ⟨v, hv, by rw [List.getElem?_append_right (by rw [h.len]; exact Nat.le_refl _), h.len]; simp⟩
theorem minN (a b : Nat) : minI (a : Int) (b : Int) = ((min a b : Nat) : Int) := by
  unfold minI
  split <;> omega
theorem image_tells (g : Good t s p) (hm : Iu t s p = some 0) : ∃ x e, De t s p = some (x, e) ∧ (e ≠ 0 → e = 10 ∧ x = zeroT) ∧
    (e = 0 → ∃ E, PutE t s p t.E.length E ∧ x = ⟨s, E ++ (newT s).E.drop (min t.E.length (newT s).E.length), 0⟩) := by
  obtain ⟨W, hW, hW1, hW4⟩ := g.words
  have htl := g.tlen
  have hcap := g.caps
  have hgc := g.cap
  have hN := newT_len g
  have hN16 : (newT s).E.length ≤ 16 := by split at hN <;> omega
  unfold De
  simp only [hm, po_of, bne_self_eq_false, cond_false, g.new]
  rw [minN, pg_of (by omega)]
  simp only [pl, Int.toNat_natCast]
  have key : Ok (lpU (fun x => Ec t s p x.1 x.2) (⟨(newT s).S, [], (newT s).Next⟩, 0)) fun r => match r with
      | .inl x => ∃ E, PutE t s p t.E.length E ∧ x = ⟨s, E, 0⟩
      | .inr r => r.2 = 10 ∧ r.1 = zeroT := by
    refine .lp (fun x => ∃ (n : Nat) (E : List T_Entry), x.2 = (n : Int) ∧ n ≤ t.E.length ∧ PutE t s p n E ∧ x.1 = ⟨s, E, 0⟩) (fun x => ((t.E.length : Int) - x.2).toNat) ⟨0, [], rfl, Nat.zero_le _, .zero, rfl⟩ ?_
    rintro ⟨u, i⟩ ⟨n, E, hn, hnl, hE, hu⟩
    simp only at hn hu
    subst hn
    subst hu
    unfold Ec
    refine .cond (fun hlt => ?_) fun hlt => ?_
    · have hlt : (n : Int) < (t.E.length : Int) := of_decide_eq_true hlt
      refine .po (Ok.idx (l := t.E) rfl (by omega)) fun e he => ?_
      obtain ⟨⟨v, f⟩, hp, hc⟩ := put_tells hW hW1 hW4 p e.Key (g.v he.2)
      rw [hp, po_of]
      have hel := hE.len
      refine .cond (fun q => .mk ?_) fun q => .pg (by simp only; omega) (.pl (.mk ⟨⟨n + 1, _, w1 (by omega), by omega, hE.succ he.1 ?_, rfl⟩, ?_⟩))
      · rcases hc with hc | hc
        · have hc := hc.1
          simp only at hc
          rw [hc] at q
          cases q
        · exact ⟨hc.1, rfl⟩
      · have q : f = 0 := by simpa using q
        rw [hp, q]
      · simp only [w1 (show n < 1000000 by omega)]
        omega
    · have hlt : ¬ (n : Int) < (t.E.length : Int) := of_decide_eq_false hlt
      have : n = t.E.length := by omega
      subst this
      exact .mk ⟨E, hE, rfl⟩
  obtain ⟨r, hr, hq⟩ := key
  rw [hr]
  cases r with
  | inl x =>
    obtain ⟨E, hE, rfl⟩ := hq
    have hel := hE.len
    have hdl : ((newT s).E.drop (min t.E.length (newT s).E.length)).length ≤ 16 := by rw [List.length_drop]; omega
    simp only [pm_inl]
    unfold Jf
    rw [pg_of (by simp only; omega)]
    exact ⟨_, _, rfl, fun h => absurd rfl h, fun _ => ⟨E, hE, rfl⟩⟩
  | inr r =>
    obtain ⟨x, e⟩ := r
    obtain ⟨h1, h2⟩ := hq
    simp only at h1 h2
    exact ⟨x, e, rfl, fun _ => ⟨h1, h2⟩, fun h => by rw [h1] at h; exact absurd h (by decide)⟩
theorem put_len (g : Good t s p) {E : List T_Entry} (hE : PutE t s p t.E.length E) : ((E ++ (newT s).E.drop (min t.E.length (newT s).E.length)).length : Int) = if s.Kind = 0 then s.Cap else (t.E.length : Int) := by
  have hN := newT_len g
  have hel := hE.len
  have htl := g.tlen
  have hgc := g.cap
  rw [List.length_append, List.length_drop]
  by_cases h : s.Kind = 0
  · rw [if_pos h] at hN ⊢
    omega
  · rw [if_neg h] at hN ⊢
    omega
theorem put_may (g : Good t s p) {E : List T_Entry} (hE : PutE t s p t.E.length E) : (toT ⟨s, E ++ (newT s).E.drop (min t.E.length (newT s).E.length), 0⟩).may = true := by
  obtain ⟨W, hW, hW1, hW4⟩ := g.words
  have hN := newT_len g
  have hel := hE.len
  have htl := g.tlen
  have hgc := g.cap
  have hcap := g.caps
  have hk3 : s.Kind ≠ 3 := by rw [← g.kind]; exact g.ring
  have hlen := put_len g hE
  generalize hX : E ++ (newT s).E.drop (min t.E.length (newT s).E.length) = X at hlen
  -- entries
  have hold : ∀ (j : Nat) (x : T_Entry), j < t.E.length → X[j]? = some x → ∃ e, t.E[j]? = some e ∧ x.Key = e.Key ∧ x.V.length = W := by
    intro j x hj hx
    rw [← hX, List.getElem?_append_left (by omega)] at hx
    obtain ⟨e, he⟩ : ∃ e, t.E[j]? = some e := ⟨_, List.getElem?_eq_getElem hj⟩
    obtain ⟨v, q1, q2⟩ := hE.at_ j e hj he
    rw [hx] at q2
    injection q2 with q2
    subst q2
    obtain ⟨r, hr, hc⟩ := put_tells hW hW1 hW4 p e.Key (g.v (List.mem_of_getElem? he))
    rw [q1] at hr
    injection hr with hr
    subst hr
    refine ⟨e, he, rfl, ?_⟩
    rcases hc with hc | hc
    · exact hc.2
    · exact absurd (show (0 : Int) = 10 from hc.1) (by decide)
  have hnew : ∀ (j : Nat) (x : T_Entry), t.E.length ≤ j → X[j]? = some x → s.Kind = 0 ∧ x.Key.toNat = j ∧ x.V.length = W := by
    intro j x hj hx
    have hlt := get_lt hx
    by_cases h0 : s.Kind = 0
    · have hk := g.key0 h0
      rw [if_pos h0] at hN hlen
      have hmin : min t.E.length (newT s).E.length = t.E.length := by omega
      rw [hmin] at hX
      rw [← hX, List.getElem?_append_right (by omega), List.getElem?_drop, hel, show t.E.length + (j - t.E.length) = j by omega] at hx
      unfold newT at hx
      simp only [if_pos h0, List.getElem?_map] at hx
      obtain ⟨i, hi, rfl⟩ := Option.map_eq_some_iff.1 hx
      obtain ⟨h6, h7⟩ := List.getElem?_eq_some_iff.1 hi
      rw [List.getElem_range] at h7
      subst h7
      refine ⟨h0, ?_, ?_⟩
      · show (UInt32.ofNat j).toNat = j
        exact to_of32 (by omega)
      · simp only [List.length_replicate]
        omega
    · rw [if_neg h0] at hlen
      omega
  refine (may_std (show s.Kind ≠ 3 from hk3)).2 ⟨g.smay, ?_, rfl, fun h0 => ⟨?_, ?_⟩, ?_, ?_⟩
  · show ((X.map toE).length : Int) ≤ s.Cap
    rw [List.length_map]
    split at hlen <;> omega
  · show ((X.map toE).length : Int) = s.Cap
    rw [List.length_map]
    rw [if_pos (show s.Kind = 0 from h0)] at hlen
    omega
  · intro i e he
    have he : (X.map toE)[i]? = some e := he
    rw [List.getElem?_map] at he
    obtain ⟨x, hx, rfl⟩ := Option.map_eq_some_iff.1 he
    rcases Nat.lt_or_ge i t.E.length with hi | hi
    · obtain ⟨e', h1, h2, _⟩ := hold i x hi hx
      show x.Key.toNat = i
      rw [h2]
      exact (g.key0 h0).2 i e' h1
    · exact (hnew i x hi hx).2.1
  · intro e he
    have he : e ∈ X.map toE := he
    obtain ⟨x, hx, rfl⟩ := List.mem_map.1 he
    obtain ⟨j, hj⟩ := List.mem_iff_getElem?.1 hx
    have hl : x.V.length = W := by
      rcases Nat.lt_or_ge j t.E.length with hi | hi
      · exact (hold j x hi hj).choose_spec.2.2
      · exact (hnew j x hi hj).2.2
    show ((x.V.map UInt32.toNat).length : Int) = s.Words
    rw [List.length_map, hl, hW]
  · show (keys (X.map toE)).Nodup
    by_cases h0 : s.Kind = 0
    · have hr : keys (X.map toE) = List.range X.length := by
        apply List.ext_getElem?
        intro i
        simp only [keys, List.getElem?_map]
        rcases Nat.lt_or_ge i X.length with hi | hi
        · have hx := List.getElem?_eq_getElem hi
          rw [hx, List.getElem?_range hi]
          simp only [Option.map_some, Option.some.injEq]
          show X[i].Key.toNat = i
          rcases Nat.lt_or_ge i t.E.length with hi2 | hi2
          · obtain ⟨e', h1, h2, _⟩ := hold i _ hi2 hx
            rw [h2]
            exact (g.key0 h0).2 i e' h1
          · exact (hnew i _ hi2 hx).2.1
        · rw [List.getElem?_eq_none hi, List.getElem?_eq_none (by simpa using hi)]
          rfl
      rw [hr]
      exact List.nodup_range
    · rw [if_neg h0] at hlen
      have hr : keys (X.map toE) = keys (toT t).e := by
        apply List.ext_getElem?
        intro i
        simp only [keys, List.getElem?_map, toT]
        rcases Nat.lt_or_ge i X.length with hi | hi
        · have hx := List.getElem?_eq_getElem hi
          obtain ⟨e', h1, h2, _⟩ := hold i _ (by omega) hx
          rw [hx, h1]
          simp only [Option.map_some, Option.some.injEq]
          show X[i].Key.toNat = e'.Key.toNat
          rw [h2]
        · rw [List.getElem?_eq_none hi, List.getElem?_eq_none (show t.E.length ≤ i by omega)]
      rw [hr]
      exact g.std.2.2.2.2.2
theorem one_tells (g : Good t s p) {e : T_Entry} (he : e ∈ t.E) : Ir s p e.Key e.V = Dc s p e.Key e.V := by
  unfold Ir
  rw [smay, g.smay]
  have hal : ((e.V.length : Int) == 0) = false := by
    have : e.V.length ≠ 0 := fun h => g.v he (List.length_eq_zero_iff.1 h)
    simp only [beq_eq_false_iff_ne]
    omega
  obtain ⟨n, hv⟩ := g.ver
  simp only [po_of, cond_true, hal, Jb, cond_false, hv, bne_self_eq_false]
  cases Dc s p e.Key e.V <;> rfl
end
theorem words_same (l : List UInt32) (hl : l.length ≤ 1048576) : Bo l l = some true := by
  unfold Bo
  simp only [bne_self_eq_false, cond_false]
  have key : Ok (lpU (fun x => Cl l l x) 0) fun r => r = .inl () := by
    refine .lp (fun x => ∃ n : Nat, x = (n : Int) ∧ n ≤ l.length) (fun x => ((l.length : Int) - x).toNat) ⟨0, rfl, Nat.zero_le _⟩ ?_
    rintro i ⟨n, rfl, hn⟩
    unfold Cl
    refine .cond (fun hlt => ?_) fun _ => .mk rfl
    have hlt := of_decide_eq_true hlt
    obtain ⟨x, hx, _⟩ := Ok.idx (l := l) (n := n) rfl (by omega)
    rw [hx, po_of, po_of]
    simp only [bne_self_eq_false, cond_false]
    refine .mk ⟨⟨n + 1, w64 (by omega), by omega⟩, ?_⟩
    simp only [w64 (show n < 9223372036854775807 by omega)]
    omega
  obtain ⟨r, hr, rfl⟩ := key
  rw [hr]
  rfl
noncomputable def Gr (i_2 : Bool) : Option (Bool) :=
  some i_2
noncomputable def Cu (i_8 : Int) (s_16 : T_Table) (i_17 : Bool) : Option ((T_Table × Int) ⊕ ((T_Table) ⊕ (Bool))) :=
  cond i_17 (
  some (Sum.inr (Sum.inr false))) (
  some (Sum.inl (s_16, (IntKind.i64.wrap (i_8 + 1)))))
noncomputable def Cd (a0 : T_Table) (a1 : T_Schema) (a2 : T_Prog) (s_7 : T_Table) (i_8 : Int) : Option ((T_Table × Int) ⊕ ((T_Table) ⊕ (Bool))) :=
  cond (decide (i_8 < (a0.E.length : Int))) (
  po (idx a0.E i_8) fun x20 =>
  po (Ir a1 a2 x20.Key x20.V) fun r21 =>
  po (
  po (idx s_7.E i_8) fun x23 =>
  cond ((x23.Key.toNat : Int) != (x20.Key.toNat : Int)) (
  some (s_7, true)) (
  cond (r21.2 != 0) (
  some (s_7, true)) (
  po (Bo r21.1 x23.V) fun r26 =>
  some (s_7, (!r26))))) (fun x => Cu i_8 x.1 x.2)) (
  some (Sum.inr (Sum.inl s_7)))
noncomputable def Cr (i_18 : Bool) : Option (Bool) :=
  some i_18
noncomputable def Cs (a0 : T_Table) (a1 : T_Schema) (s_15 : T_Table) : Option (Bool) :=
  po (
  cond ((s_15.E.length : Int) == (a0.E.length : Int)) (
  some true) (
  cond (a1.Kind == 0) (
  some ((s_15.E.length : Int) == a1.Cap)) (
  some false))) (fun x => Cr x)
noncomputable def Cv (a0 : T_Table) (a1 : T_Schema) (a2 : T_Prog) (s_3 : T_Table) (i_4 : Bool) : Option (Bool) :=
  cond i_4 (
  some false) (
  pm (
  lpU (fun x => Cd a0 a1 a2 x.1 x.2) (s_3, 0)) (fun x => Cs a0 a1 x))
noncomputable def Dk (a0 : T_Table) (a1 : T_Schema) (a2 : T_Prog) (r1 : Bool) (i_1 : Bool) : Option (Bool) :=
  cond i_1 (
  some r1) (
  po (De a0 a1 a2) fun r6 =>
  cond (r6.2 != 0) (
  po (
  cond ((r6.1.E.length : Int) == 0) (
  some (r6.1.S.Cap == 0)) (
  some false)) (fun x => Gr x)) (
  po (
  po (Kl r6.1) fun r11 =>
  cond r11 (
  cond ((r6.1.S.Kind == a1.Kind) && ((r6.1.S.Cap == a1.Cap) && ((r6.1.S.Words == a1.Words) && (r6.1.S.Ver == a1.Ver)))) (
  cond (decide (r6.1.E.length < a0.E.length)) (
  some (r6.1, true)) (
  po (Ff a0.S a1 a2) fun r15 =>
  some (r6.1, (r15 != 0)))) (
  some (r6.1, true))) (
  some (r6.1, true))) (fun x => Cv a0 a1 a2 x.1 x.2)))
noncomputable def Ew (a0 : T_Table) (a1 : T_Schema) (a2 : T_Prog) : Option (Bool) :=
  po (Dg) fun r1 =>
  po (Hg a2 ([a0]) []) fun r2 =>
  po (
  cond r1 (
  some (!r2)) (
  some true)) (fun x => Dk a0 a1 a2 r1 x)
theorem Rs {a0 : T_Table} {a1 : T_Schema} {a2 : T_Prog} {r : Bool} (h : Ew a0 a1 a2 = some r) : Ctr prog 4 [.agg (enc_Table a0), .agg (enc_Schema a1), .agg (enc_Prog a2)] [] (rb r) [] := by
 unfold Ew at h;refine Ctr.ofW tabOk func4 rfl call4 0 _ ntmps4 [.tmp 6] rfl rfl rfl (fun B => ?_);refine vs [3,4,5] (fun K hK => ?_);push_cast;apply hK;clear hK K;obtain ⟨r1,hr1,h⟩ := po_some h;refine vs [3,4,5,7] (fun K hK => ?_);push_cast;refine cp (Uo hr1) ?_;push_cast;apply hK;clear hK K;obtain ⟨r2,hr2,h⟩ := po_some h;refine vs [3,4,5,7,8] (fun K hK => ?_);push_cast;refine ch (H := [(8,.row 53 6 0 (([a0]).map enc_Table))]) (H' := _) (Ctr.borrow (Vw hr2) (by push_cast) rfl) (by push_cast) ?_;push_cast;apply hK;clear hK K;refine VC.sub (s' := ⟨[(3,.ref 0 0),(4,.ref 1 0),(5,.ref 2 0),(7,rb r1),(8,rb r2)],[(0,.box 53 (enc_Table a0)),(1,.box 50 (enc_Schema a1)),(2,.box 56 [.sl false (a2.Fns.map enc_Fn)])],11,144,0⟩) (so (by push_cast)) ?_;refine VC.seq ?_;refine vj h (fun x => ⟨[(3,.ref 0 0),(4,.ref 1 0),(5,.ref 2 0),(7,rb r1),(24,rb x)],[(0,.box 53 (enc_Table a0)),(1,.box 50 (enc_Schema a1)),(2,.box 56 [.sl false (a2.Fns.map enc_Fn)])],17,144,0⟩) (fun v3 h hk3 => ?_) ?_
 ·rcases Bool.eq_false_or_eq_true r1 with hb4 | hb4
  ·replace h := cond_yes hb4 h;refine vlG [some 19,some 20,some 21,some 22,some 23,some 24] (fun K hK => ?_);push_cast [hb4];(repeat refine ao ?_);apply hK;clear hK K;refine ar h hk3 ?_;exact sl (by push_cast [hb4])
  ·replace h := cond_no hb4 h;refine vlG [some 19,some 20,some 21,some 22,some 23,some 24] (fun K hK => ?_);push_cast [hb4];(repeat refine ao ?_);apply hK;clear hK K;refine ar h hk3 ?_;exact sl (by push_cast [hb4])
 ·rintro i_1 (h : Dk a0 a1 a2 r1 i_1 = some r);(try push_cast);unfold Dk at h;refine vc h (fun hb5 h => ?_) (fun hb5 h => ?_)
  ·refine vs [6] (fun K hK => ?_);push_cast;apply hK;clear hK K;refine VC.ret ?_;replace h := Option.some.inj h;subst h;exact en (by push_cast [hb5])
  ·refine VC.skip ?_;obtain ⟨r6,hr6,h⟩ := po_some h;refine vs [3,4,5,9,10] (fun K hK => ?_);push_cast;refine ch (H := []) (Ctr.loH (Ctr.ren (Bij.swp 0 20 Bij.id) (Uu hr6) (by push_cast) (by push_cast))) (by push_cast) ?_;push_cast;apply hK;clear hK K;refine VC.sub (s' := ⟨[(3,.ref 0 0),(4,.ref 1 0),(5,.ref 2 0),(9,.ref 24 0),(10,ri r6.2)],[(0,.box 53 (enc_Table a0)),(1,.box 50 (enc_Schema a1)),(2,.box 56 [.sl false (a2.Fns.map enc_Fn)]),(20,.row 66 2 0 (r6.1.E.map enc_Entry)),(24,.box 53 [ri r6.1.S.Kind,ri r6.1.S.Cap,ri r6.1.S.Words,ri r6.1.S.Ver,.row 20 0 2 0 r6.1.E.length,ru r6.1.Next])],27,144,0⟩) (so (by push_cast [hb5])) ?_;refine VC.seq ?_;refine vs [3,4,5,9,34] (fun K hK => ?_);push_cast;apply hK;clear hK K;refine vc h (fun hb7 h => ?_) (fun hb7 h => ?_)
   ·refine vj h (fun x => ⟨[(6,rb x)],[],40,144,0⟩) (fun v8 h hk8 => ?_) ?_
    ·rcases Bool.eq_false_or_eq_true ((r6.1.E.length : Int) == 0) with hb9 | hb9
     ·replace h := cond_yes hb9 h;refine vlG [some 35,some 36,some 37,some 38,some 39,some 40,some 41,some 42,some 43,some 44,some 6] (fun K hK => ?_);refine runOps_cut 8 (fun K2 hK2 => ?_);push_cast [hb9];(repeat refine ao ?_);refine hK2 _ _ ?_;clear hK2 K2;simp only [List.drop_succ_cons,List.drop_zero];push_cast [hb9];(repeat refine ao ?_);apply hK;clear hK K;refine ar h hk8 ?_;exact sl (by push_cast [hb5,hb7,hb9])
     ·replace h := cond_no hb9 h;refine vlG [some 35,some 36,some 37,some 38,some 39,some 40,some 41,some 42,some 43,some 44,some 6] (fun K hK => ?_);refine runOps_cut 8 (fun K2 hK2 => ?_);push_cast [hb9];(repeat refine ao ?_);refine hK2 _ _ ?_;clear hK2 K2;simp only [List.drop_succ_cons,List.drop_zero];push_cast [hb9];(repeat refine ao ?_);apply hK;clear hK K;refine ar h hk8 ?_;exact sl (by push_cast [hb5,hb7,hb9])
    ·rintro i_2 (h : Gr i_2 = some r);(try push_cast);unfold Gr at h;refine VC.ret ?_;replace h := Option.some.inj h;subst h;exact en (by push_cast [hb5,hb7])
   ·refine VC.skip ?_;refine VC.seq ?_;refine vj h (fun x => ⟨[(3,.ref 0 0),(4,.ref 1 0),(5,.ref 2 0),(9,.ref 24 0),(70,rb x.2)],[(0,.box 53 (enc_Table a0)),(1,.box 50 (enc_Schema a1)),(2,.box 56 [.sl false (a2.Fns.map enc_Fn)]),(20,.row 66 2 0 (x.1.E.map enc_Entry)),(24,.box 53 [ri x.1.S.Kind,ri x.1.S.Cap,ri x.1.S.Words,ri x.1.S.Ver,.row 20 0 2 0 x.1.E.length,ru x.1.Next])],55,144,0⟩) (fun v10 h hk10 => ?_) ?_
    ·obtain ⟨r11,hr11,h⟩ := po_some h;rcases Bool.eq_false_or_eq_true r11 with hb12 | hb12
     ·replace h := cond_yes hb12 h;rcases Bool.eq_false_or_eq_true ((r6.1.S.Kind == a1.Kind) && ((r6.1.S.Cap == a1.Cap) && ((r6.1.S.Words == a1.Words) && (r6.1.S.Ver == a1.Ver)))) with hb13 | hb13
      ·replace h := cond_yes hb13 h;rcases Bool.eq_false_or_eq_true (decide (r6.1.E.length < a0.E.length)) with hb14 | hb14
       ·replace h := cond_yes hb14 h;refine vlG [some 45,some 46,some 47,some 48,some 49,some 50,some 51,some 52,some 53,some 54,some 55,some 56,some 57,some 58,some 59,some 60,some 61,some 62,some 63,some 64,some 65,some 66,some 67,some 68,some 69,some 70] (fun K hK => ?_);refine runOps_cut 8 (fun K2 hK2 => ?_);push_cast [hb12,hb13,hb14];(repeat refine ao ?_);refine ch (H := [(20,.row 66 2 0 (r6.1.E.map enc_Entry))]) (H' := _) (Ctr.borrow (Oh r6.1 hr11) (by push_cast [hb12,hb13,hb14]) rfl) (by push_cast [hb12,hb13,hb14]) ?_;push_cast [hb12,hb13,hb14];(repeat refine ao ?_);refine hK2 _ _ ?_;clear hK2 K2;simp only [List.drop_succ_cons,List.drop_zero];refine runOps_cut 8 (fun K2 hK2 => ?_);push_cast [hb12,hb13,hb14];(repeat refine ao ?_);refine hK2 _ _ ?_;clear hK2 K2;simp only [List.drop_succ_cons,List.drop_zero];push_cast [hb12,hb13,hb14];(repeat refine ao ?_);apply hK;clear hK K;refine ar h hk10 ?_;exact sl (by push_cast [hb5,hb7,hb12,hb13,hb14])
       ·replace h := cond_no hb14 h;obtain ⟨r15,hr15,h⟩ := po_some h;refine vlG [some 45,some 46,some 47,some 48,some 49,some 50,some 51,some 52,some 53,some 54,some 55,some 56,some 57,some 58,some 59,some 60,some 61,some 62,some 63,some 64,some 65,some 66,some 67,some 68,some 69,some 70] (fun K hK => ?_);refine runOps_cut 8 (fun K2 hK2 => ?_);push_cast [hb12,hb13,hb14];(repeat refine ao ?_);refine ch (H := [(20,.row 66 2 0 (r6.1.E.map enc_Entry))]) (H' := _) (Ctr.borrow (Oh r6.1 hr11) (by push_cast [hb12,hb13,hb14]) rfl) (by push_cast [hb12,hb13,hb14]) ?_;push_cast [hb12,hb13,hb14];(repeat refine ao ?_);refine hK2 _ _ ?_;clear hK2 K2;simp only [List.drop_succ_cons,List.drop_zero];refine runOps_cut 8 (fun K2 hK2 => ?_);push_cast [hb12,hb13,hb14];(repeat refine ao ?_);refine hK2 _ _ ?_;clear hK2 K2;simp only [List.drop_succ_cons,List.drop_zero];push_cast [hb12,hb13,hb14];(repeat refine ao ?_);refine cp (Vm hr15) ?_;push_cast [hb12,hb13,hb14];(repeat refine ao ?_);apply hK;clear hK K;refine ar h hk10 ?_;exact sl (by push_cast [hb5,hb7,hb12,hb13,hb14])
      ·replace h := cond_no hb13 h;refine vlG [some 45,some 46,some 47,some 48,some 49,some 50,some 51,some 52,some 53,some 54,some 55,some 56,some 57,some 58,some 59,some 60,some 61,some 62,some 63,some 64,some 65,some 66,some 67,some 68,some 69,some 70] (fun K hK => ?_);refine runOps_cut 8 (fun K2 hK2 => ?_);push_cast [hb12,hb13];(repeat refine ao ?_);refine ch (H := [(20,.row 66 2 0 (r6.1.E.map enc_Entry))]) (H' := _) (Ctr.borrow (Oh r6.1 hr11) (by push_cast [hb12,hb13]) rfl) (by push_cast [hb12,hb13]) ?_;push_cast [hb12,hb13];(repeat refine ao ?_);refine hK2 _ _ ?_;clear hK2 K2;simp only [List.drop_succ_cons,List.drop_zero];refine runOps_cut 8 (fun K2 hK2 => ?_);push_cast [hb12,hb13];(repeat refine ao ?_);refine hK2 _ _ ?_;clear hK2 K2;simp only [List.drop_succ_cons,List.drop_zero];push_cast [hb12,hb13];(repeat refine ao ?_);apply hK;clear hK K;refine ar h hk10 ?_;exact sl (by push_cast [hb5,hb7,hb12,hb13])
     ·replace h := cond_no hb12 h;refine vlG [some 45,some 46,some 47,some 48,some 49,some 50,some 51,some 52,some 53,some 54,some 55,some 56,some 57,some 58,some 59,some 60,some 61,some 62,some 63,some 64,some 65,some 66,some 67,some 68,some 69,some 70] (fun K hK => ?_);refine runOps_cut 8 (fun K2 hK2 => ?_);push_cast [hb12];(repeat refine ao ?_);refine ch (H := [(20,.row 66 2 0 (r6.1.E.map enc_Entry))]) (H' := _) (Ctr.borrow (Oh r6.1 hr11) (by push_cast [hb12]) rfl) (by push_cast [hb12]) ?_;push_cast [hb12];(repeat refine ao ?_);refine hK2 _ _ ?_;clear hK2 K2;simp only [List.drop_succ_cons,List.drop_zero];refine runOps_cut 8 (fun K2 hK2 => ?_);push_cast [hb12];(repeat refine ao ?_);refine hK2 _ _ ?_;clear hK2 K2;simp only [List.drop_succ_cons,List.drop_zero];push_cast [hb12];(repeat refine ao ?_);apply hK;clear hK K;refine ar h hk10 ?_;exact sl (by push_cast [hb5,hb7,hb12])
    ·rintro ⟨s_3,i_4⟩ (h : Cv a0 a1 a2 s_3 i_4 = some r);(try push_cast);unfold Cv at h;refine vc h (fun hb16 h => ?_) (fun hb16 h => ?_)
     ·refine vs [6] (fun K hK => ?_);push_cast;apply hK;clear hK K;refine VC.ret ?_;replace h := Option.some.inj h;subst h;exact en (by push_cast [hb5,hb7,hb16])
     ·refine VC.skip ?_;refine vm h (fun x => ⟨[(3,.ref 0 0),(4,.ref 1 0),(9,.ref 24 0)],[(0,.box 53 (enc_Table a0)),(1,.box 50 (enc_Schema a1)),(20,.row 66 2 0 (x.E.map enc_Entry)),(24,.box 53 [ri x.S.Kind,ri x.S.Cap,ri x.S.Words,ri x.S.Ver,.row 20 0 2 0 x.E.length,ru x.Next])],117,144,0⟩) (fun v17 h hk17 => ?_) ?_
      ·refine vs [3,4,5,9,11] (fun K hK => ?_);push_cast;apply hK;clear hK K;refine VC.block ?_;refine VC.loopP h (fun x => ⟨[(3,.ref 0 0),(4,.ref 1 0),(5,.ref 2 0),(9,.ref 24 0),(11,ri x.2)],[(0,.box 53 (enc_Table a0)),(1,.box 50 (enc_Schema a1)),(2,.box 56 [.sl false (a2.Fns.map enc_Fn)]),(20,.row 66 2 0 (x.1.E.map enc_Entry)),(24,.box 53 [ri x.1.S.Kind,ri x.1.S.Cap,ri x.1.S.Words,ri x.1.S.Ver,.row 20 0 2 0 x.1.E.length,ru x.1.Next])],112,144,0⟩) ?_ ?_
       ·exact sl (by push_cast [hb5,hb7,hb16])
       rintro ⟨s_7,i_8⟩ b18 (h : Cd a0 a1 a2 s_7 i_8 = some b18) hf18;(try push_cast);unfold Cd at h;refine VC.seq ?_;refine vs [3,4,5,9,11,75] (fun K hK => ?_);push_cast;apply hK;clear hK K;refine vc h (fun hb19 h => ?_) (fun hb19 h => ?_)
       ·refine VC.skip ?_;refine VC.seq ?_;refine VC.block ?_;obtain ⟨x20,hx20,h⟩ := po_some h;replace hx20 := idx_some4 hx20;obtain ⟨r21,hr21,h⟩ := po_some h;refine vsD [some 79,some 80,some 81,some 82,some 83,some 84,some 85,some 86,some 87,some 88,some 89,some 90,some 91,some 92,some 93,some 78,some 94,some 95,some 12,some 13] [3,4,5,9,11,12,13] (fun K hK => ?_);refine runD_cut 8 (fun K2 hK2 => ?_);push_cast [hx20];(repeat refine ao ?_);refine hK2 _ _ _ ?_;clear hK2 K2;simp only [List.drop_succ_cons,List.drop_zero];refine runD_cut 8 (fun K2 hK2 => ?_);push_cast [hx20];(repeat refine ao ?_);refine chD (H := []) (Ctr.loH (Ctr.ren (Bij.swp 0 131 Bij.id) (Wi hr21) (by push_cast [hx20]) (by push_cast [hx20]))) (by push_cast [hx20]) ?_;push_cast [hx20];(repeat refine ao ?_);refine hK2 _ _ _ ?_;clear hK2 K2;simp only [List.drop_succ_cons,List.drop_zero];push_cast [hx20];(repeat refine ao ?_);refine ⟨rfl,hK _ ?_⟩;clear hK K;refine VC.sub (s' := ⟨[(3,.ref 0 0),(4,.ref 1 0),(5,.ref 2 0),(9,.ref 24 0),(11,ri i_8),(12,.row 131 0 1 0 r21.1.length),(13,ri r21.2)],[(0,.box 53 (enc_Table a0)),(1,.box 50 (enc_Schema a1)),(2,.box 56 [.sl false (a2.Fns.map enc_Fn)]),(20,.row 66 2 0 (s_7.E.map enc_Entry)),(24,.box 53 [ri s_7.S.Kind,ri s_7.S.Cap,ri s_7.S.Words,ri s_7.S.Ver,.row 20 0 2 0 s_7.E.length,ru s_7.Next]),(131,.row 25 1 0 (r21.1.map encU32))],137,144,0⟩) (so (by push_cast [hb5,hb7,hb16,hb19])) ?_;refine vj h (fun x => ⟨[(3,.ref 0 0),(4,.ref 1 0),(5,.ref 2 0),(9,.ref 24 0),(11,ri i_8),(123,rb x.2)],[(0,.box 53 (enc_Table a0)),(1,.box 50 (enc_Schema a1)),(2,.box 56 [.sl false (a2.Fns.map enc_Fn)]),(20,.row 66 2 0 (x.1.E.map enc_Entry)),(24,.box 53 [ri x.1.S.Kind,ri x.1.S.Cap,ri x.1.S.Words,ri x.1.S.Ver,.row 20 0 2 0 x.1.E.length,ru x.1.Next])],165,144,0⟩) (fun v22 h hk22 => ?_) ?_
        ·obtain ⟨x23,hx23,h⟩ := po_some h;replace hx23 := idx_some4 hx23;rcases Bool.eq_false_or_eq_true ((x23.Key.toNat : Int) != (x20.Key.toNat : Int)) with hb24 | hb24
         ·replace h := cond_yes hb24 h;refine vlD [some 96,some 97,some 98,some 99,some 100,some 101,some 102,some 103,some 104,some 105,some 106,some 107,some 108,some 109,some 110,some 111,some 112,some 113,some 114,some 115,some 116,some 117,some 118,some 119,some 120,some 121,some 122,some 123] (fun K hK => ?_);refine runD_cut 8 (fun K2 hK2 => ?_);push_cast [hx23,hb24,hx20];(repeat refine ao ?_);refine hK2 _ _ _ ?_;clear hK2 K2;simp only [List.drop_succ_cons,List.drop_zero];refine runD_cut 8 (fun K2 hK2 => ?_);push_cast [hx23,hb24,hx20];(repeat refine ao ?_);refine hK2 _ _ _ ?_;clear hK2 K2;simp only [List.drop_succ_cons,List.drop_zero];refine runD_cut 8 (fun K2 hK2 => ?_);push_cast [hx23,hb24,hx20];(repeat refine ao ?_);refine hK2 _ _ _ ?_;clear hK2 K2;simp only [List.drop_succ_cons,List.drop_zero];push_cast [hx23,hb24,hx20];(repeat refine ao ?_);refine ⟨rfl,hK _ ?_⟩;clear hK K;refine ar h hk22 ?_;exact sl (by push_cast [hb5,hb7,hb16,hb19,hb24])
         ·replace h := cond_no hb24 h;rcases Bool.eq_false_or_eq_true (r21.2 != 0) with hb25 | hb25
          ·replace h := cond_yes hb25 h;refine vlD [some 96,some 97,some 98,some 99,some 100,some 101,some 102,some 103,some 104,some 105,some 106,some 107,some 108,some 109,some 110,some 111,some 112,some 113,some 114,some 115,some 116,some 117,some 118,some 119,some 120,some 121,some 122,some 123] (fun K hK => ?_);refine runD_cut 8 (fun K2 hK2 => ?_);push_cast [hx23,hb24,hb25,hx20];(repeat refine ao ?_);refine hK2 _ _ _ ?_;clear hK2 K2;simp only [List.drop_succ_cons,List.drop_zero];refine runD_cut 8 (fun K2 hK2 => ?_);push_cast [hx23,hb24,hb25,hx20];(repeat refine ao ?_);refine hK2 _ _ _ ?_;clear hK2 K2;simp only [List.drop_succ_cons,List.drop_zero];refine runD_cut 8 (fun K2 hK2 => ?_);push_cast [hx23,hb24,hb25,hx20];(repeat refine ao ?_);refine hK2 _ _ _ ?_;clear hK2 K2;simp only [List.drop_succ_cons,List.drop_zero];push_cast [hx23,hb24,hb25,hx20];(repeat refine ao ?_);refine ⟨rfl,hK _ ?_⟩;clear hK K;refine ar h hk22 ?_;exact sl (by push_cast [hb5,hb7,hb16,hb19,hb24,hb25])
          ·replace h := cond_no hb25 h;obtain ⟨r26,hr26,h⟩ := po_some h;refine vlD [some 96,some 97,some 98,some 99,some 100,some 101,some 102,some 103,some 104,some 105,some 106,some 107,some 108,some 109,some 110,some 111,some 112,some 113,some 114,some 115,some 116,some 117,some 118,some 119,some 120,some 121,some 122,some 123] (fun K hK => ?_);refine runD_cut 8 (fun K2 hK2 => ?_);push_cast [hx23,hb24,hb25,hx20];(repeat refine ao ?_);refine hK2 _ _ _ ?_;clear hK2 K2;simp only [List.drop_succ_cons,List.drop_zero];refine runD_cut 8 (fun K2 hK2 => ?_);push_cast [hx23,hb24,hb25,hx20];(repeat refine ao ?_);refine hK2 _ _ _ ?_;clear hK2 K2;simp only [List.drop_succ_cons,List.drop_zero];refine runD_cut 8 (fun K2 hK2 => ?_);push_cast [hx23,hb24,hb25,hx20];(repeat refine ao ?_);refine hK2 _ _ _ ?_;clear hK2 K2;simp only [List.drop_succ_cons,List.drop_zero];push_cast [hx23,hb24,hb25,hx20];(repeat refine ao ?_);refine chD (H := [(131,.row 25 1 0 (r21.1.map encU32))]) (H' := _) (Ctr.borrow (Di hr26) (by push_cast [hx23,hb24,hb25,hx20]) rfl) (by push_cast [hx23,hb24,hb25,hx20]) ?_;push_cast [hx23,hb24,hb25,hx20];(repeat refine ao ?_);refine ⟨rfl,hK _ ?_⟩;clear hK K;refine ar h hk22 ?_;exact sl (by push_cast [hb5,hb7,hb16,hb19,hb24,hb25])
        ·rintro ⟨s_16,i_17⟩ (h : Cu i_8 s_16 i_17 = some b18);(try push_cast);unfold Cu at h;refine vc h (fun hb27 h => ?_) (fun hb27 h => ?_)
         ·refine vs [6] (fun K hK => ?_);push_cast;apply hK;clear hK K;refine VC.ret ?_;replace h := ol h hf18;replace h := om h hk17;replace h := Option.some.inj h;subst h;exact en (by push_cast [hb5,hb7,hb16,hb19,hb27])
         ·refine VC.skip ?_;refine vl (fun K hK => ?_);push_cast;apply hK;clear hK K;refine bk h ?_;exact sl (by push_cast [hb5,hb7,hb16,hb19,hb27])
       ·refine VC.exit ?_;replace h := ol h hf18;refine am h hk17 ?_;exact sl (by push_cast [hb5,hb7,hb16,hb19])
      ·rintro s_15 (h : Cs a0 a1 s_15 = some r);(try push_cast);unfold Cs at h;refine vj h (fun x => ⟨[(6,rb x)],[],138,144,0⟩) (fun v28 h hk28 => ?_) ?_
       ·rcases Bool.eq_false_or_eq_true ((s_15.E.length : Int) == (a0.E.length : Int)) with hb29 | hb29
        ·replace h := cond_yes hb29 h;refine vlG [some 124,some 125,some 126,some 127,some 128,some 129,some 130,some 131,some 132,some 133,some 134,some 135,some 136,some 137,some 138,some 139,some 140,some 141,some 142,some 143,some 6] (fun K hK => ?_);refine runOps_cut 8 (fun K2 hK2 => ?_);push_cast [hb29];(repeat refine ao ?_);refine hK2 _ _ ?_;clear hK2 K2;simp only [List.drop_succ_cons,List.drop_zero];refine runOps_cut 8 (fun K2 hK2 => ?_);push_cast [hb29];(repeat refine ao ?_);refine hK2 _ _ ?_;clear hK2 K2;simp only [List.drop_succ_cons,List.drop_zero];push_cast [hb29];(repeat refine ao ?_);apply hK;clear hK K;refine ar h hk28 ?_;exact sl (by push_cast [hb5,hb7,hb16,hb29])
        ·replace h := cond_no hb29 h;rcases Bool.eq_false_or_eq_true (a1.Kind == 0) with hb30 | hb30
         ·replace h := cond_yes hb30 h;refine vlG [some 124,some 125,some 126,some 127,some 128,some 129,some 130,some 131,some 132,some 133,some 134,some 135,some 136,some 137,some 138,some 139,some 140,some 141,some 142,some 143,some 6] (fun K hK => ?_);refine runOps_cut 8 (fun K2 hK2 => ?_);push_cast [hb29,hb30];(repeat refine ao ?_);refine hK2 _ _ ?_;clear hK2 K2;simp only [List.drop_succ_cons,List.drop_zero];refine runOps_cut 8 (fun K2 hK2 => ?_);push_cast [hb29,hb30];(repeat refine ao ?_);refine hK2 _ _ ?_;clear hK2 K2;simp only [List.drop_succ_cons,List.drop_zero];push_cast [hb29,hb30];(repeat refine ao ?_);apply hK;clear hK K;refine ar h hk28 ?_;exact sl (by push_cast [hb5,hb7,hb16,hb29,hb30])
         ·replace h := cond_no hb30 h;refine vlG [some 124,some 125,some 126,some 127,some 128,some 129,some 130,some 131,some 132,some 133,some 134,some 135,some 136,some 137,some 138,some 139,some 140,some 141,some 142,some 143,some 6] (fun K hK => ?_);refine runOps_cut 8 (fun K2 hK2 => ?_);push_cast [hb29,hb30];(repeat refine ao ?_);refine hK2 _ _ ?_;clear hK2 K2;simp only [List.drop_succ_cons,List.drop_zero];refine runOps_cut 8 (fun K2 hK2 => ?_);push_cast [hb29,hb30];(repeat refine ao ?_);refine hK2 _ _ ?_;clear hK2 K2;simp only [List.drop_succ_cons,List.drop_zero];push_cast [hb29,hb30];(repeat refine ao ?_);apply hK;clear hK K;refine ar h hk28 ?_;exact sl (by push_cast [hb5,hb7,hb16,hb29,hb30])
       ·rintro i_18 (h : Cr i_18 = some r);(try push_cast);unfold Cr at h;refine VC.ret ?_;replace h := Option.some.inj h;subst h;exact en (by push_cast [hb5,hb7,hb16])
theorem keeps_true18 (t : T_Table) (s : T_Schema) (p : T_Prog) : Ew t s p = some true := by
  unfold Ew
  obtain ⟨b, hb, hfew⟩ := few18 p [t] []
  simp only [awake18, po_of, cond_true, hb]
  unfold Dk
  cases b with
  | false => rfl
  | true =>
    have hf := (hfew rfl).1
    simp only [Bool.not_true, cond_false]
    obtain ⟨e, he, hq⟩ := may_tells t s (p := p) (by omega)
    by_cases h0 : e = 0
    · subst h0
      obtain ⟨g, hfit⟩ := hq rfl
      obtain ⟨x, e, hi, hi1, hi2⟩ := image_tells g he
      simp only [hi, po_of]
      by_cases h1 : e = 0
      · subst h1
        obtain ⟨E, hE, hx⟩ := hi2 rfl
        simp only [bne_self_eq_false, cond_false]
        have hlen := put_len g hE
        have htl := g.tlen
        have hgc := g.cap
        have hcap := g.caps
        obtain ⟨W, hW, hW1, hW4⟩ := g.words
        have hmay : Kl x = some true := by
          unfold Kl
          rw [hx, put_may g hE]
        have hxs : x.S = s := by rw [hx]
        have hxl : (x.E.length : Int) = if s.Kind = 0 then s.Cap else (t.E.length : Int) := by rw [hx]; exact hlen
        have hnl : decide (x.E.length < t.E.length) = false := decide_eq_false (by
          by_cases hk : s.Kind = 0
          · rw [if_pos hk] at hxl
            omega
          · rw [if_neg hk] at hxl
            omega)
        simp only [hmay, po_of, cond_true, hxs, beq_self_eq_true, Bool.and_self, hnl, cond_false, hfit, bne_self_eq_false]
        unfold Cv
        simp only [cond_false]
        have key : Ok (lpU (fun y => Cd t s p y.1 y.2) (x, 0)) fun r => r = .inl x := by
          refine .lp (fun y => y.1 = x ∧ ∃ n : Nat, y.2 = (n : Int) ∧ n ≤ t.E.length) (fun y => ((t.E.length : Int) - y.2).toNat) ⟨rfl, 0, rfl, Nat.zero_le _⟩ ?_
          rintro ⟨u, i⟩ ⟨hu, n, hn, hnl⟩
          simp only at hu hn
          subst hu
          subst hn
          unfold Cd
          refine .cond (fun hlt => ?_) fun _ => .mk rfl
          have hlt : (n : Int) < (t.E.length : Int) := of_decide_eq_true hlt
          obtain ⟨c, hc, hcm⟩ := Ok.idx (l := t.E) (n := n) rfl (by omega)
          obtain ⟨v, hv, hEj⟩ := hE.at_ n c (by omega) hcm.1
          have hxj : idx u.E (n : Int) = some ⟨c.Key, v⟩ := by
            rw [idx_nat, hx]
            show (E ++ _)[n]? = _
            rw [List.getElem?_append_left (by rw [hE.len]; omega)]
            exact hEj
          have hvl : v.length ≤ 1048576 := by
            obtain ⟨r, hr, hcc⟩ := put_tells hW hW1 hW4 p c.Key (g.v hcm.2)
            rw [hv] at hr
            injection hr with hr
            subst hr
            rcases hcc with hcc | hcc
            · have := hcc.2
              simp only at this
              omega
            · have := hcc.2
              simp only at this
              rw [this]
              decide
          rw [hc, po_of, one_tells g hcm.2, hv, po_of, hxj, po_of]
          simp only [bne_self_eq_false, cond_false, words_same v hvl, po_of, Bool.not_true]
          unfold Cu
          simp only [cond_false]
          refine .mk ⟨⟨rfl, n + 1, w1 (by omega), by omega⟩, ?_⟩
          simp only [w1 (show n < 1000000 by omega)]
          omega
        obtain ⟨r, hr, rfl⟩ := key
        rw [hr]
        simp only [pm_inl]
        unfold Cs Cr
        by_cases hk : s.Kind = 0
        · rw [if_pos hk] at hxl
          have hkb : (s.Kind == 0) = true := by simpa using hk
          have hcb : ((x.E.length : Int) == s.Cap) = true := by simpa using hxl
          simp only [hkb, cond_true, hcb]
          cases ((x.E.length : Int) == (t.E.length : Int)) <;> rfl
        · rw [if_neg hk] at hxl
          have : ((x.E.length : Int) == (t.E.length : Int)) = true := by simpa using hxl
          simp only [this, cond_true, po_of]
      · obtain ⟨q1, q2⟩ := hi1 h1
        have hne : (e != 0) = true := by simpa using h1
        simp only [hne, cond_true, q2]
        rfl
    · have hne : (e != 0) = true := by simpa using h0
      have hi : De t s p = some (zeroT, e) := by
        unfold De
        simp only [he, po_of, hne, cond_true]
      simp only [hi, po_of, hne, cond_true]
      rfl
open Go Go.RowKit Go.Proofs.Tryz Go.WideShapes Go.ChangeShapes Go.Deep
set_option maxRecDepth 100000
section
variable {H : Type} {enc : TypeId × Value → H} {w : World} {base : Nat} {spare : Nat → Bool} {held : Bool}
theorem u32_of {n : Int} (h : (Lit.int .u32 n).wf = true) : ∃ m : Nat, n = (m : Int) ∧ m < 4294967296 := by
  simp [Lit.wf, IntKind.min, IntKind.max, IntKind.bits, IntKind.signed] at h
  exact ⟨n.toNat, by omega, by omega⟩
theorem trodAll_cons {P : Program} {t : TypeId} {ts : List TypeId} {l : List Value} {ds : List (DataW H)} {ps : List MemPlace} (h : DataW.TrodAll enc P w base spare held (t :: ts) l ds ps) :
    ∃ v vs d ds' p q, l = v :: vs ∧ ds = d :: ds' ∧ ps = p ++ q ∧ DataW.Trod enc P w base spare held t v d p ∧ DataW.TrodAll enc P w base spare held ts vs ds' q := by
  cases l with
  | nil => exact h.elim
  | cons v vs =>
    cases ds with
    | nil => exact h.elim
    | cons d ds =>
      obtain ⟨p, q, h1, h2, rfl⟩ := h
      exact ⟨v, vs, d, ds, p, q, rfl, rfl, rfl, h1, h2⟩
theorem trodAll_nil {P : Program} {l : List Value} {ds : List (DataW H)} {ps : List MemPlace} (h : DataW.TrodAll enc P w base spare held [] l ds ps) : l = [] ∧ ds = [] ∧ ps = [] := by
  cases l with
  | nil =>
    cases ds with
    | nil => exact ⟨rfl, rfl, h⟩
    | cons d ds => exact h.elim
  | cons v vs => exact h.elim
theorem trodAll_stays {P : Program} (hl : laidOutB P = true) {W W' : World} {sp : Nat → Bool} (ts : List TypeId) : ∀ {vs : List Value} {ds : List (DataW H)} {ps : List MemPlace}, (∀ t ∈ ts, P.readableRec t = true ∧ t < P.types.size) →
    DataW.TrodAll enc P W 0 (fun _ => true) true ts vs ds ps → (∀ p ∈ ps, W.sameAt W' p) → (∀ p ∈ ps, sp p.block = true) → DataW.TrodAll enc P W' 0 sp true ts vs ds ps := by
  induction ts with
  | nil =>
    intro vs ds ps _ h _ _
    obtain ⟨rfl, rfl, rfl⟩ := trodAll_nil h
    exact rfl
  | cons t ts ih =>
    intro vs ds ps ha h hsame hs
    obtain ⟨v, vs, d, ds', p, q, rfl, rfl, rfl, h1, h2⟩ := trodAll_cons h
    have ht := ha t (List.mem_cons_self ..)
    exact ⟨p, q, WideElems.Trod_stays hl ht.1 ht.2 h1 (fun x hx => hsame x (List.mem_append_left _ hx)) (fun x hx => hs x (List.mem_append_left _ hx)),
      ih (fun u hu => ha u (List.mem_cons_of_mem _ hu)) h2 (fun x hx => hsame x (List.mem_append_right _ hx)) (fun x hx => hs x (List.mem_append_right _ hx)), rfl⟩
theorem all_fine {P : Program} {ts : List TypeId} (h : (ts.all fun t => P.readableRec t && decide (t < P.types.size)) = true) : ∀ t ∈ ts, P.readableRec t = true ∧ t < P.types.size := by
  intro t ht
  have := List.all_eq_true.1 h t ht
  simp only [Bool.and_eq_true, decide_eq_true_eq] at this
  exact this
theorem post_law {f : Func} {s : ChangeSpec} {apart fresh handsOn again : Bool} {W W' : World} {args : Array Value} {ds gs : List (DataW H)} {before : List MemPlace} (hl : laidOutB prog = true)
    (hW : DataW.Whole enc prog f.params.toList s.vars apart W args.toList ds gs before) (hvars : s.vars = []) (hr : f.resultTypes = #[4]) (hp : (f.params.toList.all fun t => prog.readableRec t && decide (t < prog.types.size)) = true)
    (hfn : (s.fn H (ds ++ gs)).results = [.lit (.bool true)]) (hfa : (s.fn H (ds ++ gs)).args = ds) (hfv : (s.fn H (ds ++ gs)).vars = []) (hb : Below W.heap.size W W') : s.post enc prog f apart fresh handsOn again W args (.bool true) W' := by
  have hlt : ∀ p ∈ before, p.block < W.heap.size := fun p hp => hW.lt p hp
  have hold : ∀ p ∈ before, (fun b => decide (b < W.heap.size)) p.block = true := fun p hp => by simpa using hlt p hp
  have hW0 := hW
  obtain ⟨p, q, hA, hV, hpq, hz, hn⟩ := hW0
  rw [hvars] at hV
  obtain ⟨rfl, rfl⟩ := trodVars_none hV
  have hpq' : before = p := by simpa using hpq
  subst hpq'
  have hres : ∀ (b : Nat) (sp : Nat → Bool) (hd : Bool), DataW.TrodAll enc prog W' b sp hd f.resultTypes.toList ((Value.bool true).resultList f.resultTypes.size) (s.fn H (ds ++ [])).results [] := by
    intro b sp hd
    rw [hr, hfn]
    exact trodAll_mk1 (shut_bool underlying4 true)
  have hargs : ∀ sp : Nat → Bool, (∀ p ∈ before, sp p.block = true) → DataW.TrodAll enc prog W' 0 sp true f.params.toList args.toList (s.fn H (ds ++ [])).args before := by
    intro sp hsp
    rw [hfa]
    exact trodAll_stays hl _ (all_fine hp) hA (fun x hx => hb.same (hlt x hx)) hsp
  have hvs : ∀ sp : Nat → Bool, DataW.TrodVars enc prog W' sp s.vars (s.fn H (ds ++ [])).vars [] := by
    intro sp
    rw [hvars, hfv]
    rfl
  refine ⟨ds, [], before, [], before, [], hW, hres _ _ _, hargs _ hold, hvs _, World.keptBut_mono (fun p hp => ⟨hp, ?_⟩) (hb.frame (· ∈ before)), fun _ => ?_⟩
  · exact Or.inr (Or.inl hp)
  · refine ⟨ok_one hr rfl (okWide_bool_mk underlying4 true), _, _, ([] ++ before) ++ [], ⟨[] ++ before, [], trodAll_append (hargs _ (fun _ _ => rfl)) (hres _ _ _), hvs _, rfl, ?_, ?_⟩, ?_⟩
    · intro b off hp
      have hin : MemPlace.cell b off ∈ before := by simpa using hp
      rw [hb.frozen (hlt _ hin)]
      exact hz b off hin
    · intro ha
      simpa using hn ha
    · intro p hp _
      simpa using hp
end
set_option maxRecDepth 100000
def lawCx (w : World) : Cx := ⟨fun b => b < w.heap.size, fun _ _ => False, fun _ => none, fun _ => 0⟩
theorem Ctr.law {P : Program} {f : FuncId} {args : List AV} (h : Ctr P f args [] (.raw (.bool true)) []) {w : World} {vals : Array Value} (hsz : vals.size = args.length)
    (ha : ∀ (i : Nat) (u : AV), args[i]? = some u → VRel w (lawCx w) [] u (vals.getD i undef)) : Calls P f vals w fun e w' => e = .returned (.bool true) ∧ Below w.heap.size w w' := by
  have hH : HRel w (lawCx w) [] := ⟨fun b h => h, fun id o h => by simp [look] at h, fun id t sz g els g' h => by simp [look] at h, fun id t sz g els h => by simp [look] at h, fun id o b h => by simp [look] at h, fun id id' o o' b h => by simp [look] at h, fun id o h => by simp [look] at h⟩
  refine Calls.mono (h.2 w (lawCx w) vals hH (fun id g h => h.elim) hsz ha) ?_
  rintro e w' ⟨v, x', rfl, st, hv, _⟩
  exact ⟨by rw [hv.rawEq], st.tr.os, st.tr.tape, st.tr.output, st.tr.size, fun k hk => st.tr.keep k hk fun id o h => by simp [look] at h⟩
theorem VRels.of1 {w : World} {x : Cx} {hp : Hp} {l : List AV} {m : List Value} (h : VRels w x hp l m) : ∀ (i : Nat) (u : AV), l[i]? = some u → VRel w x hp u (m.toArray.getD i undef) := h.at_
section
variable {H : Type} {enc : TypeId × Value → H} {w : World} {base : Nat} {spare : Nat → Bool} {held : Bool}
end
inductive DRels (w : World) (ok : Nat → Prop) : List AV → List Value → Prop where
  | nil : DRels w ok [] []
  | cons {u v l m} (h : Dat w ok u v) (h1 : v.oneCell' = true) (r : DRels w ok l m) : DRels w ok (u :: l) (v :: m)
section
variable {w : World} {ok : Nat → Prop}
theorem DRels.len {l : List AV} {m : List Value} (h : DRels w ok l m) : m.length = l.length := by
  induction h with
  | nil => rfl
  | cons _ _ _ ih => simp [ih]
theorem DRels.app {l l' : List AV} {m m' : List Value} (h : DRels w ok l m) (h' : DRels w ok l' m') : DRels w ok (l ++ l') (m ++ m') := by
  induction h with
  | nil => exact h'
  | cons a b _ ih => exact .cons a b ih
theorem DRels.at_ {l : List AV} {m : List Value} (h : DRels w ok l m) : ∀ (i : Nat) (u : AV), l[i]? = some u → Dat w ok u (m.getD i undef) ∧ (m.getD i undef).oneCell' = true := by
  induction h with
  | nil => intro i u h; simp at h
  | cons a b _ ih =>
    intro i u h
    cases i with
    | zero => simp at h; subst h; exact ⟨a, b⟩
    | succ i => simpa using ih i u (by simpa using h)
theorem DRels.cat {l l' : List AV} {cs : List Value} {o s s' : Nat} (h : DRels w ok l ((cs.drop o).take s)) (h' : DRels w ok l' ((cs.drop (o + s)).take s')) : DRels w ok (l ++ l') ((cs.drop o).take (s + s')) := by
  have e : (cs.drop o).take (s + s') = (cs.drop o).take s ++ (cs.drop (o + s)).take s' := by
    rw [List.take_add, List.drop_drop]
  rw [e]
  exact h.app h'
end
def okW (w : World) : Nat → Prop := fun b => b < w.heap.size
section
variable {H : Type} {enc : TypeId × Value → H} {w : World} {base : Nat} {spare : Nat → Bool} {held : Bool} {t e : TypeId} {fuel : Nat} {cs : List Value} {x : DataW H × List MemPlace}
theorem oU32 (ht : prog.underlying t = some (.int .u32)) (h : DataW.trod enc prog w base spare held fuel t cs = some x) : ∃ a : UInt32, DRels w (okW w) (encU32 a) cs := by
  obtain ⟨z, rfl, _, hw⟩ := DataW.trod_int ht h
  obtain ⟨m, rfl, hm⟩ := u32_of hw
  refine ⟨UInt32.ofNat m, .cons ?_ rfl .nil⟩
  have : (UInt32.ofNat m).toNat = m := Nat.mod_eq_of_lt hm
  rw [this]
  exact .raw _
theorem oI64 (ht : prog.underlying t = some (.int .i64)) (h : DataW.trod enc prog w base spare held fuel t cs = some x) : ∃ a : Int, DRels w (okW w) (encI64 a) cs := by
  obtain ⟨z, rfl, _, hw⟩ := DataW.trod_int ht h
  exact ⟨z, .cons (.raw _) rfl .nil⟩
theorem oSl {α : Type} {f : α → List AV} {sz : Nat} (ht : prog.underlying t = some (.slice e)) (hsz : prog.cellsOf e = sz) (hpos : 0 < sz) (hl : ∀ a, (f a).length = sz)
    (hel : ∀ n cs' y, DataW.trod enc prog w base spare held n e cs' = some y → ∃ a, DRels w (okW w) (f a) cs') (h : DataW.trod enc prog w base spare held fuel t cs = some x) : ∃ l : List α, DRels w (okW w) [.sl false (l.map f)] cs := by
  rcases open_slice ht h with ⟨rfl, _⟩ | ⟨a, len, cap, m, n, D, Pl, rfl, hb, hle, hm, hmm, hx, hi⟩
  · exact ⟨[], .cons (Dat.nil _ _) rfl .nil⟩
  · have hlm : len ≤ m := by rw [hmm]; split <;> omega
    obtain ⟨xs, hxl, hxs⟩ := choose_list (p := fun i v => ∃ cs', w.cells? base (a.add (i * prog.cellsOf e)) (prog.cellsOf e) = some cs' ∧ DRels w (okW w) (f v) cs') len (fun i hil => by
      obtain ⟨cs', hc, ht'⟩ := hi i (by omega)
      obtain ⟨x, hx⟩ := hel _ _ _ ht'
      exact ⟨x, cs', hc, hx⟩)
    have hlen : (xs.map f).length = len := by rw [List.length_map, hxl]
    have cell : ∀ (i : Nat) (v : α), xs[i]? = some v → ∃ cs' : List Value, DRels w (okW w) (f v) cs' ∧ cs'.length = sz ∧ ∀ j, j < sz → w.cell? (a.add (i * sz + j)) = cs'[j]? := fun i v hv => by
      obtain ⟨cs', hc, hk⟩ := hxs i v hv
      obtain ⟨_, hl', hat⟩ := World.cells?_some hc
      refine ⟨cs', hk, by rw [hl', hsz], fun j hj => ?_⟩
      have := hat j (by rw [hsz]; exact hj)
      rw [hsz, av_add_add] at this
      exact this
    have key := Dat.sl (w := w) (ok := okW w) false (xs.map f) (some a) cap sz (fun i j => (w.cell? (a.add (i * sz + j))).getD undef) (by rw [hlen]; exact hle) hm (by intro h; cases h) ?_ ?_ ?_ ?_
    · rw [hlen] at key
      exact ⟨xs, .cons key rfl .nil⟩
    · intro i cs0 h0
      obtain ⟨v, _, rfl⟩ := map_at h0
      exact hl v
    · intro i cs0 h0
      obtain ⟨v, hv, rfl⟩ := map_at h0
      refine ⟨a, rfl, ?_⟩
      obtain ⟨cs', hk, hl', hat⟩ := cell i v hv
      have h1 := hat 0 hpos
      have h2 : 0 < cs'.length := by omega
      rw [List.getElem?_eq_getElem h2] at h1
      have := World.block_lt_of_cell? w _ h1
      rw [av_add_block] at this
      exact this
    · intro i j cs0 a' h0 hj ha'
      injection ha' with ha'
      subst ha'
      obtain ⟨v, hv, rfl⟩ := map_at h0
      obtain ⟨cs', hk, hl', hat⟩ := cell i v hv
      have h1 := hat j hj
      have h2 : j < cs'.length := by omega
      rw [List.getElem?_eq_getElem h2] at h1
      rw [h1]
      refine ⟨rfl, ?_⟩
      have h3 : j < (f v).length := by rw [hl]; exact hj
      have := (hk.at_ j _ (List.getElem?_eq_getElem h3)).2
      simpa [List.getD_eq_getElem?_getD, List.getElem?_eq_getElem h2] using this
    · intro i j cs0 u h0 hu
      obtain ⟨v, hv, rfl⟩ := map_at h0
      obtain ⟨cs', hk, hl', hat⟩ := cell i v hv
      have h3 := lt_of_get hu
      rw [hl] at h3
      rw [hat j h3]
      have := (hk.at_ j u hu).1
      simpa [List.getD_eq_getElem?_getD] using this
theorem oBool (ht : prog.underlying t = some .bool) (h : DataW.trod enc prog w base spare held fuel t cs = some x) : ∃ a : Bool, DRels w (okW w) (encBool a) cs := by
  obtain ⟨z, rfl, _⟩ := DataW.trod_bool ht h
  exact ⟨z, .cons (.raw _) rfl .nil⟩
theorem full {cs : List Value} {n : Nat} (h : cs.length = n) : (cs.drop 0).take n = cs := by
  rw [List.drop_zero, List.take_of_length_le (by omega)]
theorem arg_agg {us : List AV} {vs : Array Value} (h : DRels w (okW w) us vs.toList) : VRel w (lawCx w) [] (.agg us) (.agg vs) := by
  have hl := h.len
  refine .agg us vs (by simpa using hl) (fun i hi => ?_) (fun i u hu => ?_)
  · have hi' : i < us.length := by rw [← hl]; simpa using hi
    have := (h.at_ i _ (List.getElem?_eq_getElem hi')).2
    simpa using this
  · have := (h.at_ i u hu).1
    exact .dat (show Dat w (okW w) u _ from by simpa using this)
end
/-
  PROVED: the statement ShiftKeeps of the given seat: whatever the map, the schema and the program, drydocklaw18.ShiftKeeps returns true, and what was handed in reads as it did.
  Conditions: none beyond the statement's own.
-/
open Go Go.ChangeShapes Go.WideShapes Go.ChangeAt Go.RowKit Go.Proofs.Tryz
theorem o_3 {H : Type} {enc : TypeId × Value → H} {w : World} {base : Nat} {spare : Nat → Bool} {held : Bool} {fuel : Nat} {cs : List Value} {x : DataW H × List MemPlace} (h : DataW.trod enc prog w base spare held fuel 3 cs = some x) : ∃ a : Int, DRels w (okW w) (encI64 a) cs:= oI64 underlying3 h
theorem o_50 {H : Type} {enc : TypeId × Value → H} {w : World} {base : Nat} {spare : Nat → Bool} {held : Bool} {fuel : Nat} {cs : List Value} {x : DataW H × List MemPlace} (h : DataW.trod enc prog w base spare held fuel 50 cs = some x) : ∃ a : T_Schema, DRels w (okW w) (enc_Schema a) cs := by
  obtain ⟨xs, m, _, _, hl, hxl, hg⟩ := DataW.trod_struct underlying50 h
  have hl : cs.length = 4 := hl.trans (by kernel_rfl)
  replace hxl : xs.length = 4 := hxl
  have e0 : prog.cellsOf 3 = 1 := by kernel_rfl
  have h0 : DataW.trod enc prog w base spare held m 3 ((cs.drop 0).take (prog.cellsOf 3)) = xs[0]? := hg 0 _ rfl
  simp only [e0, Nat.reduceMul] at h0
  obtain ⟨b0, r0⟩ := o_3 (h0.trans (List.getElem?_eq_getElem (by omega)))
  have e1 : prog.cellsOf 3 = 1 := by kernel_rfl
  have h1 : DataW.trod enc prog w base spare held m 3 ((cs.drop 1).take (prog.cellsOf 3)) = xs[1]? := hg 1 _ rfl
  simp only [e1, Nat.reduceMul] at h1
  obtain ⟨b1, r1⟩ := o_3 (h1.trans (List.getElem?_eq_getElem (by omega)))
  have e2 : prog.cellsOf 3 = 1 := by kernel_rfl
  have h2 : DataW.trod enc prog w base spare held m 3 ((cs.drop 2).take (prog.cellsOf 3)) = xs[2]? := hg 2 _ rfl
  simp only [e2, Nat.reduceMul] at h2
  obtain ⟨b2, r2⟩ := o_3 (h2.trans (List.getElem?_eq_getElem (by omega)))
  have e3 : prog.cellsOf 3 = 1 := by kernel_rfl
  have h3 : DataW.trod enc prog w base spare held m 3 ((cs.drop 3).take (prog.cellsOf 3)) = xs[3]? := hg 3 _ rfl
  simp only [e3, Nat.reduceMul] at h3
  obtain ⟨b3, r3⟩ := o_3 (h3.trans (List.getElem?_eq_getElem (by omega)))
  have r := (DRels.cat (DRels.cat (DRels.cat r0 r1) r2) r3)
  refine ⟨T_Schema.mk b0 b1 b2 b3, ?_⟩
  have hf := full hl
  rw [← hf]
  exact r
theorem o_25 {H : Type} {enc : TypeId × Value → H} {w : World} {base : Nat} {spare : Nat → Bool} {held : Bool} {fuel : Nat} {cs : List Value} {x : DataW H × List MemPlace} (h : DataW.trod enc prog w base spare held fuel 25 cs = some x) : ∃ a : UInt32, DRels w (okW w) (encU32 a) cs:= oU32 underlying25 h
theorem o_62 {H : Type} {enc : TypeId × Value → H} {w : World} {base : Nat} {spare : Nat → Bool} {held : Bool} {fuel : Nat} {cs : List Value} {x : DataW H × List MemPlace} (h : DataW.trod enc prog w base spare held fuel 62 cs = some x) : ∃ a : (List UInt32), DRels w (okW w) ((encL encU32) a) cs:= oSl (f := encU32) (sz := 1) underlying62 (by kernel_rfl) (by decide) (fun _ => rfl) (fun _ _ _ h => o_25 h) h
theorem o_66 {H : Type} {enc : TypeId × Value → H} {w : World} {base : Nat} {spare : Nat → Bool} {held : Bool} {fuel : Nat} {cs : List Value} {x : DataW H × List MemPlace} (h : DataW.trod enc prog w base spare held fuel 66 cs = some x) : ∃ a : T_Entry, DRels w (okW w) (enc_Entry a) cs := by
  obtain ⟨xs, m, _, _, hl, hxl, hg⟩ := DataW.trod_struct underlying66 h
  have hl : cs.length = 2 := hl.trans (by kernel_rfl)
  replace hxl : xs.length = 2 := hxl
  have e0 : prog.cellsOf 25 = 1 := by kernel_rfl
  have h0 : DataW.trod enc prog w base spare held m 25 ((cs.drop 0).take (prog.cellsOf 25)) = xs[0]? := hg 0 _ rfl
  simp only [e0, Nat.reduceMul] at h0
  obtain ⟨b0, r0⟩ := o_25 (h0.trans (List.getElem?_eq_getElem (by omega)))
  have e1 : prog.cellsOf 62 = 1 := by kernel_rfl
  have h1 : DataW.trod enc prog w base spare held m 62 ((cs.drop 1).take (prog.cellsOf 62)) = xs[1]? := hg 1 _ rfl
  simp only [e1, Nat.reduceMul] at h1
  obtain ⟨b1, r1⟩ := o_62 (h1.trans (List.getElem?_eq_getElem (by omega)))
  have r := (DRels.cat r0 r1)
  refine ⟨T_Entry.mk b0 b1, ?_⟩
  have hf := full hl
  rw [← hf]
  exact r
theorem o_51 {H : Type} {enc : TypeId × Value → H} {w : World} {base : Nat} {spare : Nat → Bool} {held : Bool} {fuel : Nat} {cs : List Value} {x : DataW H × List MemPlace} (h : DataW.trod enc prog w base spare held fuel 51 cs = some x) : ∃ a : (List T_Entry), DRels w (okW w) ((encL enc_Entry) a) cs:= oSl (f := enc_Entry) (sz := 2) underlying51 (by kernel_rfl) (by decide) (fun _ => rfl) (fun _ _ _ h => o_66 h) h
theorem o_53 {H : Type} {enc : TypeId × Value → H} {w : World} {base : Nat} {spare : Nat → Bool} {held : Bool} {fuel : Nat} {cs : List Value} {x : DataW H × List MemPlace} (h : DataW.trod enc prog w base spare held fuel 53 cs = some x) : ∃ a : T_Table, DRels w (okW w) (enc_Table a) cs := by
  obtain ⟨xs, m, _, _, hl, hxl, hg⟩ := DataW.trod_struct underlying53 h
  have hl : cs.length = 6 := hl.trans (by kernel_rfl)
  replace hxl : xs.length = 3 := hxl
  have e0 : prog.cellsOf 50 = 4 := by kernel_rfl
  have h0 : DataW.trod enc prog w base spare held m 50 ((cs.drop 0).take (prog.cellsOf 50)) = xs[0]? := hg 0 _ rfl
  simp only [e0, Nat.reduceMul] at h0
  obtain ⟨b0, r0⟩ := o_50 (h0.trans (List.getElem?_eq_getElem (by omega)))
  have e1 : prog.cellsOf 51 = 1 := by kernel_rfl
  have h1 : DataW.trod enc prog w base spare held m 51 ((cs.drop 4).take (prog.cellsOf 51)) = xs[1]? := hg 1 _ rfl
  simp only [e1, Nat.reduceMul] at h1
  obtain ⟨b1, r1⟩ := o_51 (h1.trans (List.getElem?_eq_getElem (by omega)))
  have e2 : prog.cellsOf 25 = 1 := by kernel_rfl
  have h2 : DataW.trod enc prog w base spare held m 25 ((cs.drop 5).take (prog.cellsOf 25)) = xs[2]? := hg 2 _ rfl
  simp only [e2, Nat.reduceMul] at h2
  obtain ⟨b2, r2⟩ := o_25 (h2.trans (List.getElem?_eq_getElem (by omega)))
  have r := (DRels.cat (DRels.cat r0 r1) r2)
  refine ⟨T_Table.mk b0 b1 b2, ?_⟩
  have hf := full hl
  rw [← hf]
  exact r
theorem o_4 {H : Type} {enc : TypeId × Value → H} {w : World} {base : Nat} {spare : Nat → Bool} {held : Bool} {fuel : Nat} {cs : List Value} {x : DataW H × List MemPlace} (h : DataW.trod enc prog w base spare held fuel 4 cs = some x) : ∃ a : Bool, DRels w (okW w) (encBool a) cs:= oBool underlying4 h
theorem o_37 {H : Type} {enc : TypeId × Value → H} {w : World} {base : Nat} {spare : Nat → Bool} {held : Bool} {fuel : Nat} {cs : List Value} {x : DataW H × List MemPlace} (h : DataW.trod enc prog w base spare held fuel 37 cs = some x) : ∃ a : T_Inst, DRels w (okW w) (enc_Inst a) cs := by
  obtain ⟨xs, m, _, _, hl, hxl, hg⟩ := DataW.trod_struct underlying37 h
  have hl : cs.length = 7 := hl.trans (by kernel_rfl)
  replace hxl : xs.length = 7 := hxl
  have e0 : prog.cellsOf 3 = 1 := by kernel_rfl
  have h0 : DataW.trod enc prog w base spare held m 3 ((cs.drop 0).take (prog.cellsOf 3)) = xs[0]? := hg 0 _ rfl
  simp only [e0, Nat.reduceMul] at h0
  obtain ⟨b0, r0⟩ := o_3 (h0.trans (List.getElem?_eq_getElem (by omega)))
  have e1 : prog.cellsOf 3 = 1 := by kernel_rfl
  have h1 : DataW.trod enc prog w base spare held m 3 ((cs.drop 1).take (prog.cellsOf 3)) = xs[1]? := hg 1 _ rfl
  simp only [e1, Nat.reduceMul] at h1
  obtain ⟨b1, r1⟩ := o_3 (h1.trans (List.getElem?_eq_getElem (by omega)))
  have e2 : prog.cellsOf 3 = 1 := by kernel_rfl
  have h2 : DataW.trod enc prog w base spare held m 3 ((cs.drop 2).take (prog.cellsOf 3)) = xs[2]? := hg 2 _ rfl
  simp only [e2, Nat.reduceMul] at h2
  obtain ⟨b2, r2⟩ := o_3 (h2.trans (List.getElem?_eq_getElem (by omega)))
  have e3 : prog.cellsOf 3 = 1 := by kernel_rfl
  have h3 : DataW.trod enc prog w base spare held m 3 ((cs.drop 3).take (prog.cellsOf 3)) = xs[3]? := hg 3 _ rfl
  simp only [e3, Nat.reduceMul] at h3
  obtain ⟨b3, r3⟩ := o_3 (h3.trans (List.getElem?_eq_getElem (by omega)))
  have e4 : prog.cellsOf 4 = 1 := by kernel_rfl
  have h4 : DataW.trod enc prog w base spare held m 4 ((cs.drop 4).take (prog.cellsOf 4)) = xs[4]? := hg 4 _ rfl
  simp only [e4, Nat.reduceMul] at h4
  obtain ⟨b4, r4⟩ := o_4 (h4.trans (List.getElem?_eq_getElem (by omega)))
  have e5 : prog.cellsOf 3 = 1 := by kernel_rfl
  have h5 : DataW.trod enc prog w base spare held m 3 ((cs.drop 5).take (prog.cellsOf 3)) = xs[5]? := hg 5 _ rfl
  simp only [e5, Nat.reduceMul] at h5
  obtain ⟨b5, r5⟩ := o_3 (h5.trans (List.getElem?_eq_getElem (by omega)))
  have e6 : prog.cellsOf 25 = 1 := by kernel_rfl
  have h6 : DataW.trod enc prog w base spare held m 25 ((cs.drop 6).take (prog.cellsOf 25)) = xs[6]? := hg 6 _ rfl
  simp only [e6, Nat.reduceMul] at h6
  obtain ⟨b6, r6⟩ := o_25 (h6.trans (List.getElem?_eq_getElem (by omega)))
  have r := (DRels.cat (DRels.cat (DRels.cat (DRels.cat (DRels.cat (DRels.cat r0 r1) r2) r3) r4) r5) r6)
  refine ⟨T_Inst.mk b0 b1 b2 b3 b4 b5 b6, ?_⟩
  have hf := full hl
  rw [← hf]
  exact r
theorem o_69 {H : Type} {enc : TypeId × Value → H} {w : World} {base : Nat} {spare : Nat → Bool} {held : Bool} {fuel : Nat} {cs : List Value} {x : DataW H × List MemPlace} (h : DataW.trod enc prog w base spare held fuel 69 cs = some x) : ∃ a : (List T_Inst), DRels w (okW w) ((encL enc_Inst) a) cs:= oSl (f := enc_Inst) (sz := 7) underlying69 (by kernel_rfl) (by decide) (fun _ => rfl) (fun _ _ _ h => o_37 h) h
theorem o_71 {H : Type} {enc : TypeId × Value → H} {w : World} {base : Nat} {spare : Nat → Bool} {held : Bool} {fuel : Nat} {cs : List Value} {x : DataW H × List MemPlace} (h : DataW.trod enc prog w base spare held fuel 71 cs = some x) : ∃ a : T_Fn, DRels w (okW w) (enc_Fn a) cs := by
  obtain ⟨xs, m, _, _, hl, hxl, hg⟩ := DataW.trod_struct underlying71 h
  have hl : cs.length = 2 := hl.trans (by kernel_rfl)
  replace hxl : xs.length = 2 := hxl
  have e0 : prog.cellsOf 3 = 1 := by kernel_rfl
  have h0 : DataW.trod enc prog w base spare held m 3 ((cs.drop 0).take (prog.cellsOf 3)) = xs[0]? := hg 0 _ rfl
  simp only [e0, Nat.reduceMul] at h0
  obtain ⟨b0, r0⟩ := o_3 (h0.trans (List.getElem?_eq_getElem (by omega)))
  have e1 : prog.cellsOf 69 = 1 := by kernel_rfl
  have h1 : DataW.trod enc prog w base spare held m 69 ((cs.drop 1).take (prog.cellsOf 69)) = xs[1]? := hg 1 _ rfl
  simp only [e1, Nat.reduceMul] at h1
  obtain ⟨b1, r1⟩ := o_69 (h1.trans (List.getElem?_eq_getElem (by omega)))
  have r := (DRels.cat r0 r1)
  refine ⟨T_Fn.mk b0 b1, ?_⟩
  have hf := full hl
  rw [← hf]
  exact r
theorem o_54 {H : Type} {enc : TypeId × Value → H} {w : World} {base : Nat} {spare : Nat → Bool} {held : Bool} {fuel : Nat} {cs : List Value} {x : DataW H × List MemPlace} (h : DataW.trod enc prog w base spare held fuel 54 cs = some x) : ∃ a : (List T_Fn), DRels w (okW w) ((encL enc_Fn) a) cs:= oSl (f := enc_Fn) (sz := 2) underlying54 (by kernel_rfl) (by decide) (fun _ => rfl) (fun _ _ _ h => o_71 h) h
theorem o_56 {H : Type} {enc : TypeId × Value → H} {w : World} {base : Nat} {spare : Nat → Bool} {held : Bool} {fuel : Nat} {cs : List Value} {x : DataW H × List MemPlace} (h : DataW.trod enc prog w base spare held fuel 56 cs = some x) : ∃ a : T_Prog, DRels w (okW w) (enc_Prog a) cs := by
  obtain ⟨xs, m, _, _, hl, hxl, hg⟩ := DataW.trod_struct underlying56 h
  have hl : cs.length = 1 := hl.trans (by kernel_rfl)
  replace hxl : xs.length = 1 := hxl
  have e0 : prog.cellsOf 54 = 1 := by kernel_rfl
  have h0 : DataW.trod enc prog w base spare held m 54 ((cs.drop 0).take (prog.cellsOf 54)) = xs[0]? := hg 0 _ rfl
  simp only [e0, Nat.reduceMul] at h0
  obtain ⟨b0, r0⟩ := o_54 (h0.trans (List.getElem?_eq_getElem (by omega)))
  have r := r0
  refine ⟨T_Prog.mk b0, ?_⟩
  have hf := full hl
  rw [← hf]
  exact r
theorem shiftKeepsOwn : ownKnob Tryz.prog.godebug = none := by kernel_rfl
theorem shiftKeepsLaid : laidOutB Tryz.prog = true := by kernel_rfl
set_option maxRecDepth 100000 in
theorem shiftKeeps_lifted (os : Os) (started : os.Started) (H : Type) (enc : TypeId × Value → H) :
    ReturnsInHanded {} Tryz.checked os 4 .any (Rows.shiftKeepsSpec.pre6 enc Tryz.prog Tryz.f4 Rows.shiftKeepsRow.domain false) (Rows.shiftKeepsSpec.post enc Tryz.prog Tryz.f4 false true false false) := by
  refine returnsInHanded_of_change (C := Tryz.checked) shiftKeepsOwn started (by kernel_rfl) Tryz.func4
    (ChangeSpec.witness6 (enc := enc) (C := Tryz.checked) false ⟨#[], #[.agg #[.int .i64 0, .int .i64 0, .int .i64 0, .int .i64 0, .slice none 0 0, .int .u32 0], .agg #[.int .i64 0, .int .i64 0, .int .i64 0, .int .i64 0], .agg #[.slice none 0 0]], []⟩ 8 (by kernel_rfl) (by kernel_rfl) (by kernel_rfl) (by kernel_rfl)) ?_
  intro W base args ds gs before hval0 hW _ _
  have hval : ∀ (j : Nat) t v, Tryz.f4.params[j]? = some t → args[j]? = some v → Value.okWide Tryz.prog W .any base t v := hval0
  have hW' := hW
  obtain ⟨p, q, hA0, hV, rfl, hfz, hnd⟩ := hW
  have hA : DataW.TrodAll enc Tryz.prog W 0 (fun _ => true) true Tryz.f4.params.toList args.toList ds p := hA0
  rw [Tryz.params4] at hA hval
  obtain ⟨l⟩ := args
  obtain ⟨v0, l0, d0, ds0, p0, q0, rfl, rfl, _, h0, hA1⟩ := trodAll_cons hA
  obtain ⟨v1, l1, d1, ds1, p1, q1, rfl, rfl, _, h1, hA2⟩ := trodAll_cons hA1
  obtain ⟨v2, l2, d2, ds2, p2, q2, rfl, rfl, _, h2, hA3⟩ := trodAll_cons hA2
  obtain ⟨rfl, rfl, _⟩ := trodAll_nil hA3
  obtain ⟨rfl, rfl⟩ := trodVars_none hV
  obtain ⟨cs0, rfl, _⟩ := okWide_struct underlying53 (hval 0 _ v0 rfl rfl)
  obtain ⟨fuel0, hf0⟩ := h0
  obtain ⟨a0, r0⟩ := o_53 hf0
  obtain ⟨cs1, rfl, _⟩ := okWide_struct underlying50 (hval 1 _ v1 rfl rfl)
  obtain ⟨fuel1, hf1⟩ := h1
  obtain ⟨a1, r1⟩ := o_50 hf1
  obtain ⟨cs2, rfl, _⟩ := okWide_struct underlying56 (hval 2 _ v2 rfl rfl)
  obtain ⟨fuel2, hf2⟩ := h2
  obtain ⟨a2, r2⟩ := o_56 hf2
  refine (Ctr.law (Rs (keeps_true18 a0 a1 a2)) rfl (VRels.of1 (.cons (arg_agg r0) (.cons (arg_agg r1) (.cons (arg_agg r2) (.nil)))))).mono fun e W' ⟨he, hw⟩ => ?_
  subst he
  exact ⟨_, rfl, post_law shiftKeepsLaid hW' rfl rfl (by kernel_rfl) rfl rfl rfl hw⟩
theorem shiftKeeps_holds : Rows.ShiftKeepsSaid :=
  OpenClaim.holds_of_wide 4 Tryz.f4 rfl rfl rfl rfl rfl rfl rfl ⟨rfl, rfl, rfl, rfl, rfl⟩ rfl rfl rfl rfl rfl (by kernel_rfl) Tryz.func4 (by kernel_rfl)
    (of_decide_eq_true (by kernel_rfl)) (by unfold Func.isWrapper; first | (rw [if_pos (by decide +kernel)]; kernel_rfl) | (rw [if_neg (by decide +kernel)]; exact ⟨rfl, rfl⟩))
    (fun os started H enc _ => shiftKeeps_lifted os started H enc)
end Go.Proofs.YtcffmheeofjifaaGreat
