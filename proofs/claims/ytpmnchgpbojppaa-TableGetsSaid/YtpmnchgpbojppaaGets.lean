/- TableGets' plain law. -/
import Derived.Test.YtpmnchgpbojppaaPlain
namespace Go.Proofs.Ytpmnchgpbojppaa
open Go Go.RowKit Go.Proofs.Try

theorem toLast_last {α : Type} {l : List α} {i : Nat} (h : i + 1 = l.length) : toLast l i = l := by
  refine List.ext_getElem? fun j => ?_
  rw [toLast_get (by omega)]
  split
  · rfl
  · split
    · omega
    · split
      · rw [show j = i by omega]
      · rw [List.getElem?_eq_none (by omega)]

/-- What is got. -/
theorem gets_ok {t : Tab} {key f : Nat} (hm : t.may = true) :
    (t.get key f).1.s = t.s ∧ (t.get key f).1.next = t.next ∧ (t.get key f).1.e.length = t.e.length ∧ (t.get key f).1.may = true ∧ (t.get key f).1.get key f = t.get key f ∧
      (t.get key f).2.2 = t.has key f ∧ (t.has key f = false → t.get key f = (t, 0, false)) ∧ (t.s.kind ≠ 2 → (t.get key f).1 = t) ∧
      (t.has key f = true → t.s.kind = 2 → 0 < t.e.length ∧ ∃ e, (t.get key f).1.e[t.e.length - 1]? = some e ∧ e.key = key) := by
  cases hh : t.has key f with
  | false =>
    have hg : t.get key f = (t, 0, false) := by unfold Tab.get; rw [if_neg (by simp [hh])]
    rw [hg]
    exact ⟨rfl, rfl, rfl, hm, hg, rfl, fun _ => rfl, fun _ => rfl, fun h => by cases h⟩
  | true =>
    have hg : t.get key f = ({ t with e := touch t.s.kind t.e (t.idx key) }, t.word (t.idx key) f, true) := by unfold Tab.get; rw [if_pos hh]
    obtain ⟨hkd, hp⟩ : t.keyed f = true ∧ 0 ≤ fidx key t.e 0 := by simpa [Tab.has] using hh
    obtain ⟨_, h3, hfw⟩ := keyed_iff.1 hkd
    obtain ⟨hsm, hlc, hnx, har, hw, hn⟩ := (may_std h3).1 hm
    obtain ⟨i, e, hi, he, hek⟩ := fidx_some rfl hp
    have hid : t.idx key = i := by unfold Tab.idx; omega
    have hil : i < t.e.length := (List.getElem?_eq_some_iff.1 he).1
    rw [hid] at hg
    by_cases hk2 : t.s.kind = 2
    · have ht : touch t.s.kind t.e i = toLast t.e i := by unfold touch; rw [if_pos hk2]
      rw [ht] at hg
      have hlen : (toLast t.e i).length = t.e.length := toLast_length hil
      have hlast : (toLast t.e i)[t.e.length - 1]? = some e := by
        rw [toLast_get hil, if_neg (by omega), if_neg (by omega), if_pos (by omega), he]
      have hperm := toLast_perm hil
      have hm2 : ({ t with e := toLast t.e i } : Tab).may = true := by
        refine (may_std (t := { t with e := toLast t.e i }) h3).2 ⟨hsm, (by simp only [hlen]; exact hlc), hnx, fun h0 => absurd (hk2.symm.trans h0) (by decide), fun y hy => hw y (hperm.subset hy), (hperm.map Ent.key).nodup_iff.2 hn⟩
      have hf2 : fidx key (toLast t.e i) 0 = ((t.e.length - 1 : Nat) : Int) := by
        rw [← hek]
        exact fidx_eq ((hperm.map Ent.key).nodup_iff.2 hn) hlast
      have hkd2 : ({ t with e := toLast t.e i } : Tab).keyed f = true := keyed_iff.2 ⟨hm2, h3, hfw⟩
      have hh2 : ({ t with e := toLast t.e i } : Tab).has key f = true := by simp [Tab.has, hkd2, hf2]
      have hid2 : ({ t with e := toLast t.e i } : Tab).idx key = t.e.length - 1 := by simp [Tab.idx, hf2]
      have hg2 : ({ t with e := toLast t.e i } : Tab).get key f = t.get key f := by
        rw [hg]
        unfold Tab.get
        rw [if_pos hh2, hid2]
        have : touch t.s.kind (toLast t.e i) (t.e.length - 1) = toLast t.e i := by unfold touch; rw [if_pos hk2]; exact toLast_last (by rw [hlen]; omega)
        simp only [this]
        simp [Tab.word, hlast, he]
      rw [hg] at hg2 ⊢
      exact ⟨rfl, rfl, hlen, hm2, hg2, rfl, fun h => (by cases h), fun h => absurd hk2 h, fun _ _ => ⟨by omega, e, hlast, hek⟩⟩
    · have ht : touch t.s.kind t.e i = t.e := by unfold touch; rw [if_neg hk2]
      rw [ht] at hg
      have hg1 : (t.get key f).1 = t := by rw [hg]
      refine ⟨by rw [hg1], by rw [hg1], by rw [hg1], by rw [hg1]; exact hm, by rw [hg1], by rw [hg], fun h => (by cases h), fun _ => hg1, fun _ h => absurd h hk2⟩
end Go.Proofs.Ytpmnchgpbojppaa
