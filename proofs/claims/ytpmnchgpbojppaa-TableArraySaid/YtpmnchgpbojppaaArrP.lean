/- TableArray's plain law. -/
import Derived.Test.YtpmnchgpbojppaaPl2
set_option linter.unusedVariables false
namespace Go.Proofs.Ytpmnchgpbojppaa
open Go Go.RowKit Go.Proofs.Try

/-- A table that is an Array. -/
structure ArrT (cap words : Int) (t : Tab) : Prop where
  s : t.s = ⟨0, cap, words, 0⟩
  n : t.next = 0
  m : t.may = true
  o : okEs t.e
theorem arr_new {cap words : Int} (h1 : 1 ≤ cap) (h2 : cap ≤ 16) (h3 : 1 ≤ words) (h4 : words ≤ 4) : Tab.new ⟨0, cap, words, 0⟩ = (⟨⟨0, cap, words, 0⟩, newEs cap.toNat words.toNat, 0⟩, 0) ∧ ArrT cap words ⟨⟨0, cap, words, 0⟩, newEs cap.toNat words.toNat, 0⟩ := by
  have hm : (⟨0, cap, words, 0⟩ : Sch).may = true := by simp [Sch.may, inB, h1, h2, h3, h4]
  have hnew : Tab.new ⟨0, cap, words, 0⟩ = (⟨⟨0, cap, words, 0⟩, newEs cap.toNat words.toNat, 0⟩, 0) := by
    unfold Tab.new
    rw [if_neg (by rw [hm]; simp)]
    rfl
  refine ⟨hnew, rfl, rfl, (may_std (by exact (by decide : (0 : Int) ≠ 3))).2 ⟨hm, ?_, rfl, fun _ => ⟨?_, ?_⟩, ?_, ?_⟩, ?_⟩
  · simp only [newEs_length]
    omega
  · simp only [newEs_length]
    omega
  · intro i e he
    simp only [newEs, List.getElem?_map] at he
    obtain ⟨i', h5, rfl⟩ := Option.map_eq_some_iff.1 he
    obtain ⟨h6, h7⟩ := List.getElem?_eq_some_iff.1 h5
    rw [List.getElem_range] at h7
    exact h7.symm
  · intro e he
    simp [newEs] at he
    obtain ⟨i, hi, rfl⟩ := he
    simp
    omega
  · simp only [newEs, keys, List.map_map]
    have : (Ent.key ∘ fun i => (⟨i, List.replicate words.toNat 0⟩ : Ent)) = id := rfl
    rw [this, List.map_id]
    exact List.nodup_range
  · rcases okEs_new (s := ⟨0, cap, words, 0⟩) with h | h
    · rw [hnew] at h
      exact h
    · have : (4294967296 : Int) < cap := h
      omega
theorem arr_keyed {cap words : Int} {t : Tab} (h : ArrT cap words t) {f : Nat} (hf : (f : Int) < words) : t.keyed f = true := keyed_iff.2 ⟨h.m, by rw [h.s]; exact (by decide : (0 : Int) ≠ 3), by rw [h.s]; exact hf⟩
theorem arr_get0 {cap words : Int} (h1 : 1 ≤ cap) (h2 : cap ≤ 16) (h3 : 1 ≤ words) (h4 : words ≤ 4) {i f : Nat} (hi : (i : Int) < cap) (hf : (f : Int) < words) : ((⟨⟨0, cap, words, 0⟩, newEs cap.toNat words.toNat, 0⟩ : Tab).get i f).2 = (0, true) := by
  have hA := (arr_new h1 h2 h3 h4).2
  rw [get_mem (e := ⟨i, List.replicate words.toNat 0⟩) (arr_keyed hA hf) (by
    simp [newEs]
    omega) rfl]
  show ((List.replicate words.toNat 0)[f]?.getD 0, true) = (0, true)
  rw [List.getElem?_replicate]
  split <;> rfl
theorem arr_facts {cap words : Int} {t : Tab} (h : ArrT cap words t) : (t.e.length : Int) = cap ∧ 1 ≤ words ∧ ∀ (i : Nat) (e : Ent), t.e[i]? = some e → e.key = i := by
  obtain ⟨hsm, hlc, hnx, ha, hw, hnd⟩ := (may_std (by rw [h.s]; exact (by decide : (0 : Int) ≠ 3))).1 h.m
  have hb := Sch.may_bounds hsm
  have := ha (by rw [h.s])
  rw [h.s] at this hb
  exact ⟨this.1, hb.2.2.2.2.1, this.2⟩
theorem arr_in {cap words : Int} {t : Tab} (h : ArrT cap words t) {k x : Nat} (hk : (k : Int) < cap) (hx : x < 4294967296) : (t.set k 0 x).2 = 0 ∧ ArrT cap words (t.set k 0 x).1 ∧ (t.del k).2 = true := by
  obtain ⟨f1, f2, f3⟩ := arr_facts h
  have hkd := arr_keyed h (f := 0) (by omega)
  obtain ⟨e, he⟩ : ∃ e, t.e[k]? = some e := ⟨_, List.getElem?_eq_getElem (by omega)⟩
  have hfi : 0 ≤ fidx k t.e 0 := by
    by_cases hf : 0 ≤ fidx k t.e 0
    · exact hf
    · exact absurd (f3 k e he) (fidx_none_iff hf e (List.mem_of_getElem? he))
  have hs : t.set k 0 x = ({ t with e := touch t.s.kind (updE t.e (t.idx k) 0 x) (t.idx k) }, 0) := by
    unfold Tab.set
    rw [if_neg (by rw [hkd]; decide), if_pos hfi]
  have h2 : (t.set k 0 x).2 = 0 := by rw [hs]
  have h16 : t.e.length ≤ 16 := by
    have hb := Sch.may_bounds (Tab.may_sch h.m)
    have := Tab.may_len h.m
    omega
  refine ⟨h2, ⟨(set_may h2).2.2.2.2.trans h.s, by rw [hs]; exact h.n, (set_may h2).1, okEs_set h.o (by omega) hx⟩, ?_⟩
  have hhas : t.has k 0 = true := by simp [Tab.has, hkd, hfi]
  rw [(del_ok h.m).2.2.1, hhas]
theorem arr_out {cap words : Int} {t : Tab} (h : ArrT cap words t) {k x : Nat} (hk : ¬ (k : Int) < cap) : (t.set k 0 x).2 = 3 ∧ (t.del k).2 = false := by
  obtain ⟨f1, f2, f3⟩ := arr_facts h
  have hkd := arr_keyed h (f := 0) (by omega)
  have hfi : ¬ 0 ≤ fidx k t.e 0 := by
    intro hf
    obtain ⟨i, e, _, he, hke⟩ := fidx_some rfl hf
    have := f3 i e he
    have := (List.getElem?_eq_some_iff.1 he).1
    omega
  have hkind : t.s.kind = 0 := by rw [h.s]
  constructor
  · unfold Tab.set
    rw [if_neg (by rw [hkd]; decide), if_neg hfi, if_pos hkind]
  · have hhas : t.has k 0 = false := by simp [Tab.has, hfi]
    rw [(del_ok h.m).2.2.1, hhas]
end Go.Proofs.Ytpmnchgpbojppaa
