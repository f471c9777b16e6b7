/- TableDel's plain law. -/
import Derived.Test.YtpmnchgpbojppaaPlain
import Derived.Test.YtpmnchgpbojppaaDel
namespace Go.Proofs.Ytpmnchgpbojppaa
open Go Go.RowKit Go.Proofs.Try

theorem has_get {t : Tab} {key f : Nat} : (t.get key f).2.2 = t.has key f := by
  unfold Tab.get
  cases h : t.has key f <;> simp
theorem get_not {t : Tab} {key f : Nat} (h : t.has key f = false) : (t.get key f).2 = (0, false) := by
  unfold Tab.get
  rw [if_neg (by simp [h])]

theorem del_ok {t : Tab} {key : Nat} (hm : t.may = true) :
    (t.del key).1.s = t.s ∧ (t.del key).1.next = t.next ∧ (t.del key).2 = t.has key 0 ∧ (t.del key).1.may = true ∧ (t.has key 0 = false → t.del key = (t, false)) ∧
      ((t.del key).1.get key 0).2 = (0, t.has key 0 && decide (t.s.kind = 0)) ∧ (∀ other, other ≠ key → ((t.del key).1.get other 0).2 = (t.get other 0).2) := by
  cases hh : t.has key 0 with
  | false =>
    have hd : t.del key = (t, false) := by unfold Tab.del; rw [if_pos hh]
    rw [hd]
    exact ⟨rfl, rfl, rfl, hm, fun _ => rfl, get_not hh, fun _ _ => rfl⟩
  | true =>
    obtain ⟨hkd, hp⟩ : t.keyed 0 = true ∧ 0 ≤ fidx key t.e 0 := by simpa [Tab.has] using hh
    obtain ⟨_, h3, hfw⟩ := keyed_iff.1 hkd
    obtain ⟨hsm, hlc, hnx, har, hw, hn⟩ := (may_std h3).1 hm
    obtain ⟨i, e, hi, he, hek⟩ := fidx_some rfl hp
    have hid : t.idx key = i := by unfold Tab.idx; omega
    have hil : i < t.e.length := (List.getElem?_eq_some_iff.1 he).1
    by_cases hk0 : t.s.kind = 0
    · have hd : t.del key = ({ t with e := t.e.set i { e with v := List.replicate e.v.length 0 } }, true) := by
        unfold Tab.del
        rw [if_neg (by simp [hh]), if_pos hk0, hid]
        simp [zeroE, he]
      rw [hd]
      have hkk : keys (t.e.set i { e with v := List.replicate e.v.length 0 }) = keys t.e := by
        unfold keys
        rw [List.map_set]
        refine List.ext_getElem? fun j => ?_
        rw [List.getElem?_set]
        split
        · rename_i hj
          subst hj
          simp [hil, (List.getElem?_eq_some_iff.1 he).2]
        · rfl
      have hm2 : ({ t with e := t.e.set i { e with v := List.replicate e.v.length 0 } } : Tab).may = true := by
        refine (may_std (t := { t with e := t.e.set i { e with v := List.replicate e.v.length 0 } }) h3).2 ⟨hsm, by simpa using hlc, hnx, fun h0 => ⟨by simpa using (har h0).1, fun j x hx => ?_⟩, fun x hx => ?_, by rw [hkk]; exact hn⟩
        · have h1 : (keys (t.e.set i { e with v := List.replicate e.v.length 0 }))[j]? = some x.key := by unfold keys; rw [List.getElem?_map]; simp only at hx; rw [hx]; rfl
          rw [hkk] at h1
          simp only [keys, List.getElem?_map, Option.map_eq_some_iff] at h1
          obtain ⟨x', hx', hke⟩ := h1
          rw [← hke]
          exact (har h0).2 j x' hx'
        · rcases List.mem_or_eq_of_mem_set hx with hx | rfl
          · exact hw x hx
          · simpa using hw e (List.mem_of_getElem? he)
      have hkd2 : ({ t with e := t.e.set i { e with v := List.replicate e.v.length 0 } } : Tab).keyed 0 = true := keyed_iff.2 ⟨hm2, h3, hfw⟩
      have hin : ({ e with v := List.replicate e.v.length 0 } : Ent) ∈ t.e.set i { e with v := List.replicate e.v.length 0 } := List.mem_of_getElem? (i := i) (by simp [hil])
      refine ⟨rfl, rfl, rfl, hm2, fun h => (by cases h), ?_, fun other ho => ?_⟩
      · rw [get_mem hkd2 hin hek]
        have := hw e (List.mem_of_getElem? he)
        simp [hk0, show 0 < e.v.length by omega]
      · by_cases hex : ∃ x ∈ t.e, x.key = other
        · obtain ⟨x, hx, hkx⟩ := hex
          obtain ⟨j, hj⟩ := List.mem_iff_getElem?.1 hx
          have hij : i ≠ j := by
            rintro rfl
            rw [he] at hj
            cases hj
            exact ho (hkx.symm.trans hek)
          rw [get_mem hkd hx hkx, get_mem hkd2 (e := x) (List.mem_of_getElem? (i := j) (by simp only [List.getElem?_set_ne hij]; exact hj)) hkx]
        · have hno : ∀ x ∈ t.e, x.key ≠ other := fun x hx hk => hex ⟨x, hx, hk⟩
          rw [get_no hno, get_no]
          intro x hx hk
          have h1 : x.key ∈ keys (t.e.set i { e with v := List.replicate e.v.length 0 }) := List.mem_map_of_mem hx
          rw [hkk] at h1
          obtain ⟨y, hy, hky⟩ := List.mem_map.1 h1
          exact hno y hy (hky.trans hk)
    · have hd : t.del key = ({ t with e := t.e.eraseIdx i }, true) := by
        unfold Tab.del
        rw [if_neg (by simp [hh]), if_neg hk0, hid]
      rw [hd]
      have hperm := erase_perm he
      have hnn : (keys (e :: t.e.eraseIdx i)).Nodup := (hperm.map Ent.key).nodup_iff.2 hn
      have hlen : (t.e.eraseIdx i).length + 1 = t.e.length := by have := hperm.length_eq; simpa using this
      have hm2 : ({ t with e := t.e.eraseIdx i } : Tab).may = true :=
        (may_std (t := { t with e := t.e.eraseIdx i }) h3).2 ⟨hsm, by simp only; omega, hnx, fun h0 => absurd h0 hk0, fun x hx => hw x (hperm.subset (List.mem_cons_of_mem _ hx)), (List.nodup_cons.1 hnn).2⟩
      have hkd2 : ({ t with e := t.e.eraseIdx i } : Tab).keyed 0 = true := keyed_iff.2 ⟨hm2, h3, hfw⟩
      refine ⟨rfl, rfl, rfl, hm2, fun h => (by cases h), ?_, fun other ho => ?_⟩
      · rw [get_no]
        · simp [hk0]
        · intro x hx hk
          exact (List.nodup_cons.1 hnn).1 (by rw [hek, ← hk]; exact List.mem_map_of_mem hx)
      · by_cases hex : ∃ x ∈ t.e, x.key = other
        · obtain ⟨x, hx, hkx⟩ := hex
          rcases List.mem_cons.1 (hperm.symm.subset hx) with rfl | hx'
          · exact absurd (hkx.symm.trans hek) ho
          · rw [get_mem hkd hx hkx, get_mem hkd2 (e := x) hx' hkx]
        · have hno : ∀ x ∈ t.e, x.key ≠ other := fun x hx hk => hex ⟨x, hx, hk⟩
          rw [get_no hno, get_no]
          intro x hx hk
          exact hno x (hperm.subset (List.mem_cons_of_mem _ hx)) hk
end Go.Proofs.Ytpmnchgpbojppaa
