/- TableBack's plain law. -/
import Derived.Test.YtpmnchgpbojppaaPlain
namespace Go.Proofs.Ytpmnchgpbojppaa
open Go Go.RowKit Go.Proofs.Try

theorem set_may {t : Tab} {key f x : Nat} (h : (t.set key f x).2 = 0) : (t.set key f x).1.may = true ∧ ((t.set key f x).1.e.length : Int) ≤ t.s.cap ∧ (t.set key f x).1.e.length ≤ t.e.length + 1 ∧ (∀ p, (t.set key f x).1.keyed p = t.keyed p) ∧ (t.set key f x).1.s = t.s := by
  obtain ⟨hkd, hs, hx, e0, base, hk0, hw0, hb, hp, hc⟩ := set_ok h
  obtain ⟨hm, h3, hfw⟩ := keyed_iff.1 hkd
  obtain ⟨hsm, hlc, hnx, har, hw, hn⟩ := (may_std h3).1 hm
  have hsb := Sch.may_bounds hsm
  generalize (t.set key f x).1 = T at *
  have hlen : T.e.length = base.length + 1 := by rw [hp.length_eq]; rfl
  have hbase : base.length + 1 = t.e.length ∨ (base.length = t.e.length ∧ (t.e.length : Int) < t.s.cap) ∨ (base.length + 1 = t.e.length) := by
    rcases hc with ⟨hq, _⟩ | ⟨_, _, ⟨rfl, hq⟩ | ⟨rfl, _, hq⟩⟩
    · exact .inl hq.length_eq
    · exact .inr (.inl ⟨rfl, hq⟩)
    · rw [List.length_drop]; omega
  have hsub : ∀ e ∈ base, e ∈ t.e := by
    intro e he
    rcases hc with ⟨hq, _⟩ | ⟨_, _, ⟨rfl, _⟩ | ⟨rfl, _⟩⟩
    · exact hq.subset (List.mem_cons_of_mem _ he)
    · exact he
    · exact List.mem_of_mem_drop he
  have hbn : (keys base).Nodup := by
    rcases hc with ⟨hq, _⟩ | ⟨_, _, ⟨rfl, _⟩ | ⟨rfl, _⟩⟩
    · have := (hq.map Ent.key).nodup_iff.2 hn
      exact (List.nodup_cons.1 this).2
    · exact hn
    · exact List.Nodup.sublist ((List.drop_sublist 1 t.e).map Ent.key) hn
  have hTm : T.may = true := by
    refine (may_std (by rw [hs]; exact h3)).2 ⟨by rw [hs]; exact hsm, by rw [hs]; omega, by rw [hx]; exact hnx, fun h0 => ?_, fun e he => ?_, ?_⟩
    · rw [hs] at h0
      rcases hc with ⟨hq, hkk⟩ | ⟨_, hk, _⟩
      · have hkk := hkk h0
        have hl2 : T.e.length = t.e.length := by have := congrArg List.length hkk; simpa [keys] using this
        refine ⟨by rw [hs, hl2]; exact (har h0).1, fun i e he => ?_⟩
        have h1 : (keys T.e)[i]? = some e.key := by simp [keys, he]
        rw [hkk] at h1
        simp only [keys, List.getElem?_map, Option.map_eq_some_iff] at h1
        obtain ⟨e', he', hke⟩ := h1
        rw [← hke]
        exact (har h0).2 i e' he'
      · exact absurd h0 hk
    · rw [hs]
      rcases List.mem_cons.1 (hp.subset he) with rfl | he
      · simpa using hw0
      · exact hw e (hsub e he)
    · refine (hp.map Ent.key).nodup_iff.2 ?_
      refine List.nodup_cons.2 ⟨fun hm => ?_, hbn⟩
      obtain ⟨e, he, hke⟩ := List.mem_map.1 hm
      exact hb e he (hke.trans hk0)
  refine ⟨hTm, by omega, by omega, fun p => ?_, hs⟩
  rw [Bool.eq_iff_iff, keyed_iff, keyed_iff, hs]
  simp [hTm, hm]

theorem back_got {t : Tab} {key f x : Nat} (h : (t.set key f x).2 = 0) : ((t.set key f x).1.get key f).2 = (x, true) := by
  obtain ⟨_, _, _, hkp, hs⟩ := set_may h
  obtain ⟨hkd, _, hx, e0, base, hk0, hw0, hb, hp, hc⟩ := set_ok h
  obtain ⟨hm, h3, hfw⟩ := keyed_iff.1 hkd
  rw [get_mem (by rw [hkp]; exact hkd) (hp.symm.subset (List.mem_cons_self ..)) hk0]
  have : f < e0.v.length := by omega
  simp [this]

theorem back_same {t : Tab} {key f x place : Nat} (h : (t.set key f x).2 = 0) (had : (t.get key place).2.2 = true) :
    ((t.set key f x).1.get key place).2.2 = true ∧ (place = f ∨ ((t.set key f x).1.get key place).2.1 = (t.get key place).2.1) := by
  obtain ⟨_, _, _, hkp, hs⟩ := set_may h
  obtain ⟨hkd, _, hx, e0, base, hk0, hw0, hb, hp, hc⟩ := set_ok h
  have hkl : t.keyed place = true := by
    cases hq : t.keyed place with
    | true => rfl
    | false => rw [get_unkeyed hq] at had; cases had
  rw [get_mem (by rw [hkp]; exact hkl) (hp.symm.subset (List.mem_cons_self ..)) hk0]
  rcases hc with ⟨hq, _⟩ | ⟨hno, _⟩
  · rw [get_mem hkl (hq.subset (List.mem_cons_self ..)) hk0]
    refine ⟨rfl, ?_⟩
    by_cases hpf : place = f
    · exact .inl hpf
    · right
      simp [List.getElem?_set_ne (Ne.symm hpf)]
  · rw [get_no hno] at had
    cases had

theorem back_other {t : Tab} {key f x other place : Nat} (h : (t.set key f x).2 = 0) (ho : other ≠ key) :
    (((t.set key f x).1.get other place).2 = (t.get other place).2) ∨ (((t.set key f x).1.get other place).2.2 = false ∧ (t.get other place).2.2 = true ∧ t.s.kind = 2 ∧ (t.e.length : Int) = t.s.cap) := by
  obtain ⟨_, _, _, hkp, hs⟩ := set_may h
  obtain ⟨hkd, _, hx, e0, base, hk0, hw0, hb, hp, hc⟩ := set_ok h
  cases hkl : t.keyed place with
  | false =>
    rw [get_unkeyed hkl, get_unkeyed (by rw [hkp]; exact hkl)]
    exact .inl rfl
  | true =>
    have hkT : (t.set key f x).1.keyed place = true := by rw [hkp]; exact hkl
    by_cases hin : ∃ e ∈ base, e.key = other
    · obtain ⟨e, he, hke⟩ := hin
      have hsub : e ∈ t.e := by
        rcases hc with ⟨hq, _⟩ | ⟨_, _, ⟨rfl, _⟩ | ⟨rfl, _⟩⟩
        · exact hq.subset (List.mem_cons_of_mem _ he)
        · exact he
        · exact List.mem_of_mem_drop he
      rw [get_mem hkT (hp.symm.subset (List.mem_cons_of_mem _ he)) hke, get_mem hkl hsub hke]
      exact .inl rfl
    · have hT : ∀ e ∈ (t.set key f x).1.e, e.key ≠ other := by
        intro e he hke
        rcases List.mem_cons.1 (hp.subset he) with rfl | he
        · exact ho (hke.symm.trans hk0)
        · exact hin ⟨e, he, hke⟩
      rw [get_no hT]
      by_cases hold : ∃ e ∈ t.e, e.key = other
      · obtain ⟨e, he, hke⟩ := hold
        rw [get_mem hkl he hke]
        rcases hc with ⟨hq, _⟩ | ⟨_, _, ⟨rfl, _⟩ | ⟨_, h2, hf⟩⟩
        · rcases List.mem_cons.1 (hq.symm.subset he) with rfl | he
          · exact absurd (hke.symm.trans hk0) ho
          · exact absurd ⟨e, he, hke⟩ hin
        · exact absurd ⟨e, he, hke⟩ hin
        · exact .inr ⟨rfl, rfl, h2, hf⟩
      · rw [get_no (fun e he hke => hold ⟨e, he, hke⟩)]
        exact .inl rfl
end Go.Proofs.Ytpmnchgpbojppaa
