/- What table's plain functions keep. -/
import Derived.Test.YtpmnchgpbojppaaCt
import Derived.Test.YtpmnchgpbojppaaFullP
set_option linter.unusedVariables false
namespace Go.Proofs.Ytpmnchgpbojppaa
open Go Go.RowKit Go.Proofs.Try

theorem mayFits {t : Tab} (h : t.may = true) : fits t.e := by
  have hb := Sch.may_bounds (Tab.may_sch h)
  have hl := Tab.may_len h
  refine ⟨by omega, fun e he => ?_⟩
  obtain ⟨i, hi⟩ := List.mem_iff_getElem?.1 he
  have := ((t.elOk_iff i e).1 ((t.may_iff.1 h).2 i e hi)).1
  omega
theorem smallFits {t : Tab} (h : t.small = true) : fits t.e := by
  have := t.small_iff.1 h
  exact ⟨by omega, fun e he => by have := this.2 e he; omega⟩
theorem mem_touch {α : Type} {kind : Int} {l : List α} {i : Nat} {x : α} (h : x ∈ touch kind l i) : x ∈ l := by
  unfold touch at h
  split at h
  · unfold toLast at h
    rw [List.mem_append] at h
    rcases h with h | h
    · exact List.mem_of_mem_eraseIdx h
    · rw [Option.mem_toList] at h
      exact List.mem_of_getElem? h
  · exact h
theorem okEs_upd {l : List Ent} {i f x : Nat} (h : okEs l) (hx : x < 4294967296) : okEs (updE l i f x) := by
  unfold updE
  split
  · rename_i e he
    have hm := h e (List.mem_of_getElem? he)
    intro a ha
    rcases List.mem_or_eq_of_mem_set ha with h1 | rfl
    · exact h a h1
    · refine ⟨hm.1, fun y hy => ?_⟩
      rcases List.mem_or_eq_of_mem_set hy with h2 | rfl
      · exact hm.2 y h2
      · exact hx
  · exact h
theorem okEs_touch {kind : Int} {l : List Ent} {i : Nat} (h : okEs l) : okEs (touch kind l i) := fun e he => h e (mem_touch he)
theorem okEs_nil : okEs [] := fun e he => by cases he
theorem okEs_grow {t : Tab} {key : Nat} (h : okEs t.e) (hk : key < 4294967296) : okEs (t.grow key) := by
  intro e he
  unfold Tab.grow at he
  rw [List.mem_append, List.mem_singleton] at he
  rcases he with he | rfl
  · split at he
    · exact h e (List.mem_of_mem_drop he)
    · exact h e he
  · refine ⟨hk, fun y hy => ?_⟩
    have := (List.mem_replicate.1 hy).2
    omega
theorem okEs_set {t : Tab} {key f x : Nat} (h : okEs t.e) (hk : key < 4294967296) (hx : x < 4294967296) : okEs (t.set key f x).1.e := by
  unfold Tab.set
  split
  · exact okEs_nil
  · split
    · exact okEs_touch (okEs_upd h hx)
    · split
      · exact okEs_nil
      · split
        · exact okEs_nil
        · exact okEs_touch (okEs_upd (okEs_grow h hk) hx)
theorem okEs_get {t : Tab} {key f : Nat} (h : okEs t.e) : okEs (t.get key f).1.e := by
  unfold Tab.get
  split
  · exact okEs_touch h
  · exact h
theorem okEs_zero {l : List Ent} {i : Nat} (h : okEs l) : okEs (zeroE l i) := by
  unfold zeroE
  split
  · rename_i e he
    have hm := h e (List.mem_of_getElem? he)
    intro a ha
    rcases List.mem_or_eq_of_mem_set ha with h1 | rfl
    · exact h a h1
    · refine ⟨hm.1, fun y hy => ?_⟩
      have := (List.mem_replicate.1 hy).2
      omega
  · exact h
theorem okEs_del {t : Tab} {key : Nat} (h : okEs t.e) : okEs (t.del key).1.e := by
  unfold Tab.del
  split
  · exact h
  · split
    · exact okEs_zero h
    · exact fun e he => h e (List.mem_of_mem_eraseIdx he)
theorem okEs_new {s : Sch} : okEs (Tab.new s).1.e ∨ 4294967296 < s.cap := by
  unfold Tab.new
  split
  · exact .inl okEs_nil
  · split
    · by_cases hc : 4294967296 < s.cap
      · exact .inr hc
      · refine .inl fun e he => ?_
        simp [newEs] at he
        obtain ⟨i, hi, rfl⟩ := he
        refine ⟨by show i < 4294967296; omega, fun y hy => ?_⟩
        have := (List.mem_replicate.1 hy).2
        omega
    · exact .inl okEs_nil
theorem set_next {t : Tab} {key f x : Nat} (h : t.next < 4294967296) : (t.set key f x).1.next < 4294967296 := by
  unfold Tab.set
  split
  · exact (by decide)
  · split
    · exact h
    · split
      · exact (by decide)
      · split
        · exact (by decide)
        · exact h
theorem set_fit {t : Tab} {key f x : Nat} (h : (t.set key f x).2 = 0) : fits (t.set key f x).1.e := mayFits (set_may h).1
end Go.Proofs.Ytpmnchgpbojppaa
