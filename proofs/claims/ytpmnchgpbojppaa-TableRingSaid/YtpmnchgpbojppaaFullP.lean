/- TableFull's plain law. -/
import Derived.Test.YtpmnchgpbojppaaBack
import Derived.Test.YtpmnchgpbojppaaDelP
namespace Go.Proofs.Ytpmnchgpbojppaa
open Go Go.RowKit Go.Proofs.Try

theorem not_fidx {key : Nat} {es : List Ent} (h : ∀ e ∈ es, e.key ≠ key) : ¬ 0 ≤ fidx key es 0 := by
  rw [fidx_none fun i x hx => h x (List.mem_of_getElem? hx)]
  decide
theorem set_new {t : Tab} {key f x : Nat} (hk : t.keyed f = true) (hno : ∀ e ∈ t.e, e.key ≠ key) (h0 : t.s.kind ≠ 0) (hl : (t.e.length : Int) < t.s.cap) :
    t.set key f x = ({ t with e := touch t.s.kind (t.e ++ [⟨key, (List.replicate t.s.words.toNat 0).set f x⟩]) t.e.length }, 0) := by
  have hg : t.grow key = t.e ++ [⟨key, List.replicate t.s.words.toNat 0⟩] := by unfold Tab.grow; rw [if_neg (by omega)]
  unfold Tab.set
  rw [if_neg (by simp [hk]), if_neg (not_fidx hno), if_neg h0, if_neg (by omega), hg]
  simp [updE]
theorem set_full {t : Tab} {key f x : Nat} (hk : t.keyed f = true) (hno : ∀ e ∈ t.e, e.key ≠ key) (h1 : t.s.kind = 1) (hl : (t.e.length : Int) = t.s.cap) : t.set key f x = (Tab.zero, 4) := by
  unfold Tab.set
  rw [if_neg (by simp [hk]), if_neg (not_fidx hno), if_neg (by omega), if_pos ⟨h1, hl⟩]
theorem set_old {t : Tab} {key f x : Nat} (hk : t.keyed f = true) (hin : ∃ e ∈ t.e, e.key = key) : (t.set key f x).2 = 0 := by
  obtain ⟨e, he, hke⟩ := hin
  have hp : 0 ≤ fidx key t.e 0 := by
    by_cases h : 0 ≤ fidx key t.e 0
    · exact h
    · exact absurd hke (fidx_none_iff h e he)
  unfold Tab.set
  rw [if_neg (by simp [hk]), if_pos hp]

def fullEs (key k : Nat) : List Ent := (List.range k).map fun i => ⟨(key + i) % 4294967296, [1]⟩
theorem fullEs_succ (key k : Nat) : fullEs key (k + 1) = fullEs key k ++ [⟨(key + k) % 4294967296, [1]⟩] := by simp [fullEs, List.range_succ]
theorem fullEs_length (key k : Nat) : (fullEs key k).length = k := by simp [fullEs]
def fullT (cap : Int) (key k : Nat) : Tab := ⟨⟨1, cap, 1, 0⟩, fullEs key k, 0⟩

theorem full_keys (key k : Nat) (hk : k ≤ 16) : (keys (fullEs key k)).Nodup := by
  unfold keys fullEs List.Nodup
  rw [List.pairwise_iff_getElem]
  intro i j hi hj hij
  simp at hi hj ⊢
  omega
theorem full_may {cap : Int} {key k : Nat} (h1 : 1 ≤ cap) (h2 : cap ≤ 16) (hk : (k : Int) ≤ cap) : (fullT cap key k).may = true := by
  refine (may_std (by simp [fullT])).2 ⟨?_, ?_, rfl, fun h => absurd h (by simp [fullT]), fun e he => ?_, full_keys key k (by omega)⟩
  · simp [fullT, Sch.may, inB, h1, h2]
  · simp only [fullT, fullEs_length]; exact hk
  · simp [fullT, fullEs] at he
    obtain ⟨i, _, rfl⟩ := he
    rfl
theorem full_keyed {cap : Int} {key k : Nat} (h1 : 1 ≤ cap) (h2 : cap ≤ 16) (hk : (k : Int) ≤ cap) : (fullT cap key k).keyed 0 = true :=
  keyed_iff.2 ⟨full_may h1 h2 hk, by simp [fullT], by simp [fullT]⟩
theorem full_not {cap : Int} {key k m : Nat} (hm : k ≤ m) (h16 : m ≤ 16) : ∀ e ∈ (fullT cap key k).e, e.key ≠ (key + m) % 4294967296 := by
  intro e he
  simp [fullT, fullEs] at he
  obtain ⟨i, hi, rfl⟩ := he
  simp
  omega
/-- One round. -/
theorem full_step {cap : Int} {key k : Nat} (h1 : 1 ≤ cap) (h2 : cap ≤ 16) (hk : (k : Int) < cap) : (fullT cap key k).set ((key + k) % 4294967296) 0 1 = (fullT cap key (k + 1), 0) := by
  rw [set_new (full_keyed h1 h2 (by omega)) (full_not (Nat.le_refl _) (by omega)) (by simp [fullT]) (by simp only [fullT, fullEs_length]; exact hk)]
  simp [fullT, touch, fullEs_succ]

/-- Behind the loop. -/
theorem full_end {cap : Int} {key k : Nat} (h1 : 1 ≤ cap) (h2 : cap ≤ 16) (hk : (k : Int) = cap) (hkey : key < 4294967296) :
    (fullT cap key k).set ((key + k) % 4294967296) 0 1 = (Tab.zero, 4) ∧ ((fullT cap key k).set key 0 2).2 = 0 ∧ ((fullT cap key k).del key).2 = true ∧ ((fullT cap key k).del key).1.s = ⟨1, cap, 1, 0⟩ ∧ ((fullT cap key k).del key).1.next = 0 ∧ ((fullT cap key k).del key).1.may = true ∧
      (((fullT cap key k).del key).1.set ((key + k) % 4294967296) 0 1).2 = 0 ∧ ((((fullT cap key k).del key).1.set ((key + k) % 4294967296) 0 1).1.e.length : Int) = cap ∧
      ((((fullT cap key k).del key).1.set ((key + k) % 4294967296) 0 1).1.get key 0).2 = (0, false) := by
  have hm := full_may (key := key) (k := k) h1 h2 (by omega)
  have hkd := full_keyed (key := key) (k := k) h1 h2 (by omega)
  have hin : ∃ e ∈ (fullT cap key k).e, e.key = key := ⟨⟨key, [1]⟩, by
    simp [fullT, fullEs]
    exact ⟨0, by omega, by omega⟩, rfl⟩
  have hhas : (fullT cap key k).has key 0 = true := by
    obtain ⟨e, he, hke⟩ := hin
    rw [← has_get, get_mem hkd he hke]
  obtain ⟨a, b, c, d, _, g, h⟩ := del_ok (key := key) hm
  have hdel : (fullT cap key k).del key = ({ fullT cap key k with e := (fullT cap key k).e.eraseIdx ((fullT cap key k).idx key) }, true) := by
    unfold Tab.del
    rw [if_neg (by simp [hhas]), if_neg (by simp [fullT])]
  have hDl : ((fullT cap key k).del key).1.e.length + 1 = k := by
    rw [hdel]
    obtain ⟨_, hp⟩ : (fullT cap key k).keyed 0 = true ∧ 0 ≤ fidx key (fullT cap key k).e 0 := by simpa [Tab.has] using hhas
    have := (fidx_nat hp).2
    simp only [Tab.idx, List.length_eraseIdx, this, if_true]
    simp only [fullT, fullEs_length] at this ⊢
    omega
  have hDk : ((fullT cap key k).del key).1.keyed 0 = true := keyed_iff.2 ⟨d, by rw [a]; simp [fullT], by rw [a]; simp [fullT]⟩
  have hDn : ∀ e ∈ ((fullT cap key k).del key).1.e, e.key ≠ (key + k) % 4294967296 := by
    intro e he
    rw [hdel] at he
    exact full_not (Nat.le_refl k) (by omega) e (List.mem_of_mem_eraseIdx he)
  have hcp : (fullT cap key k).s.cap = cap := rfl
  have hset := set_new (x := 1) hDk hDn (by rw [a]; simp [fullT]) (by rw [a, hcp]; omega)
  have hs2 : (((fullT cap key k).del key).1.set ((key + k) % 4294967296) 0 1).2 = 0 := by rw [hset]
  refine ⟨set_full hkd (full_not (Nat.le_refl _) (by omega)) rfl (by simp only [fullT, fullEs_length]; exact hk), set_old hkd hin, by rw [c, hhas], a, b, d, hs2, ?_, ?_⟩
  · have ht : ∀ (l : List Ent) (n : Nat), touch ((fullT cap key k).del key).1.s.kind l n = l := fun l n => by unfold touch; rw [if_neg (by rw [a]; simp [fullT])]
    rw [hset]
    simp only [ht, List.length_append, List.length_cons, List.length_nil]
    omega
  · have hne : key ≠ (key + k) % 4294967296 := by omega
    rcases back_other (place := 0) hs2 hne with h1 | ⟨_, h2, h3, _⟩
    · rw [h1, g]
      simp [fullT]
    · rw [a] at h3
      exact absurd h3 (by simp [fullT])
end Go.Proofs.Ytpmnchgpbojppaa
