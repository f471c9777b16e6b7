/- TableRing's plain law. -/
import Derived.Test.YtpmnchgpbojppaaPo
set_option linter.unusedVariables false
namespace Go.Proofs.Ytpmnchgpbojppaa
open Go Go.RowKit Go.Proofs.Try

def ringE (ls : List Nat) (a n : Nat) : List Ent := (List.range' a n).map fun i => ⟨i, [ls.getD i 0]⟩
/-- A ring that has what was pushed from a on, n words. -/
def ringT (cap : Int) (ls : List Nat) (a n : Nat) : Tab := ⟨⟨3, cap, 1, 0⟩, ringE ls a n, a + n⟩
theorem ringE_length (ls : List Nat) (a n : Nat) : (ringE ls a n).length = n := by simp [ringE]
theorem ringE_get {ls : List Nat} {a n i : Nat} (h : i < n) : (ringE ls a n)[i]? = some ⟨a + i, [ls.getD (a + i) 0]⟩ := by
  simp [ringE, h]
theorem ring_may {cap : Int} {ls : List Nat} {a n : Nat} (h1 : 1 ≤ cap) (h2 : cap ≤ 16) (hn : (n : Int) ≤ cap) (ha : a ≤ 40) : (ringT cap ls a n).may = true := by
  refine (Tab.may_iff _).2 ⟨?_, fun i e he => ?_⟩
  · simp [Tab.headOk, ringT, ringE_length, Sch.may, inB, h1, h2, hn]
  · have hi : i < n := by
      have := (List.getElem?_eq_some_iff.1 he).1
      simpa [ringT, ringE_length] using this
    have he' : (ringE ls a n)[i]? = some e := he
    rw [ringE_get hi] at he'
    injection he' with he'
    subst he'
    refine (Tab.elOk_iff _ _ _).2 ⟨rfl, ?_, fun h => absurd h (by simp [ringT]), fun _ => ?_⟩
    · refine (fidx_found (es := ringE ls a n) (k := i) (j := 0) (ringE_get hi) rfl fun j x hj hx => ?_).trans (by simp)
      rw [ringE_get (by omega)] at hx
      injection hx with hx
      subst hx
      show ¬ a + j = a + i
      omega
    · show a + i = (a + n + (4294967296 - (ringE ls a n).length) + i) % 4294967296
      rw [ringE_length]
      omega
theorem ringE_succ (ls : List Nat) (a n : Nat) : ringE ls a (n + 1) = ringE ls a n ++ [⟨a + n, [ls.getD (a + n) 0]⟩] := by
  simp [ringE, List.range'_concat]
theorem ring_push {cap : Int} {ls : List Nat} {n : Nat} (h1 : 1 ≤ cap) (h2 : cap ≤ 16) (hn : (n : Int) < cap) : (ringT cap ls 0 n).push (ls.getD n 0) = (ringT cap ls 0 (n + 1), 0) := by
  have hm := ring_may (ls := ls) (a := 0) (n := n) h1 h2 (by omega) (by omega)
  unfold Tab.push
  rw [if_neg (by simp [hm]; rfl), if_neg (by show ¬ (((ringE ls 0 n).length : Nat) : Int) = cap; rw [ringE_length]; omega)]
  refine Prod.ext ?_ rfl
  show (⟨⟨3, cap, 1, 0⟩, ringE ls 0 n ++ [⟨0 + n, [ls.getD n 0]⟩], (0 + n + 1) % 4294967296⟩ : Tab) = ⟨⟨3, cap, 1, 0⟩, ringE ls 0 (n + 1), 0 + (n + 1)⟩
  rw [ringE_succ]
  simp only [Nat.zero_add]
  rw [Nat.mod_eq_of_lt (by omega)]
theorem ring_full {cap : Int} {ls : List Nat} {n v : Nat} (h1 : 1 ≤ cap) (h2 : cap ≤ 16) (hn : (n : Int) = cap) : (ringT cap ls 0 n).push v = (Tab.zero, 4) := by
  have hm := ring_may (ls := ls) (a := 0) (n := n) h1 h2 (by omega) (by omega)
  unfold Tab.push
  rw [if_neg (by simp [hm]; rfl), if_pos (by show (((ringE ls 0 n).length : Nat) : Int) = cap; rw [ringE_length]; omega)]
theorem ringE_pop (ls : List Nat) (a n : Nat) : (ringE ls a (n + 1)).drop 1 = ringE ls (a + 1) n := by
  simp [ringE, List.range'_succ]
theorem ring_pop {cap : Int} {ls : List Nat} {a n : Nat} (h1 : 1 ≤ cap) (h2 : cap ≤ 16) (hn : ((n + 1 : Nat) : Int) ≤ cap) (ha : a ≤ 40) : (ringT cap ls a (n + 1)).pop = (ringT cap ls (a + 1) n, ls.getD a 0, true) := by
  have hm := ring_may (ls := ls) (a := a) (n := n + 1) h1 h2 hn ha
  unfold Tab.pop
  rw [if_neg (by
    simp only [hm, Bool.true_eq_false, false_or, not_or]
    exact ⟨fun h => h rfl, by show ¬ (ringE ls a (n + 1)).length = 0; rw [ringE_length]; omega⟩)]
  refine Prod.ext ?_ (Prod.ext ?_ rfl)
  · show (⟨⟨3, cap, 1, 0⟩, (ringE ls a (n + 1)).drop 1, a + (n + 1)⟩ : Tab) = ⟨⟨3, cap, 1, 0⟩, ringE ls (a + 1) n, a + 1 + n⟩
    rw [ringE_pop]
    congr 1
    omega
  · show (ringT cap ls a (n + 1)).word 0 0 = ls.getD a 0
    unfold Tab.word
    have : (ringT cap ls a (n + 1)).e[0]? = some ⟨a + 0, [ls.getD (a + 0) 0]⟩ := ringE_get (by omega)
    rw [this]
    rfl
theorem ring_none {cap : Int} {ls : List Nat} {a : Nat} : (ringT cap ls a 0).pop = (ringT cap ls a 0, 0, false) := by
  unfold Tab.pop
  exact if_pos (Or.inr (Or.inr rfl))
theorem ring_keyed {cap : Int} {ls : List Nat} {a n f : Nat} : (ringT cap ls a n).keyed f = false := by
  unfold Tab.keyed
  simp [ringT]
theorem ring_okEs {cap : Int} {ls : List Nat} {a n : Nat} (hl : lt32 ls) (ha : a + n ≤ 4294967296) : okEs (ringT cap ls a n).e := by
  intro e he
  simp only [ringT, ringE, List.mem_map, List.mem_range'_1] at he
  obtain ⟨i, ⟨h3, h4⟩, rfl⟩ := he
  refine ⟨by show i < 4294967296; omega, fun y hy => ?_⟩
  have hy : y = ls.getD i 0 := by simpa using hy
  subst hy
  rw [List.getD_eq_getElem?_getD]
  cases hg : ls[i]? with
  | none => exact (by decide : 0 < 4294967296)
  | some z => exact hl z (List.mem_of_getElem? hg)
end Go.Proofs.Ytpmnchgpbojppaa
