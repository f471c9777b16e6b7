/- TableLru's plain law. -/
import Derived.Test.YtpmnchgpbojppaaPl2
set_option linter.unusedVariables false
namespace Go.Proofs.Ytpmnchgpbojppaa
open Go Go.RowKit Go.Proofs.Try

def lruW (cap : Int) (ws : List Nat) (k : Nat) : List Nat :=
  if ((ws.filter (· != k) ++ [k]).length : Int) > cap then (ws.filter (· != k) ++ [k]).drop 1 else ws.filter (· != k) ++ [k]
/-- A table of an Lru of one word. -/
structure LruT (cap : Int) (t : Tab) : Prop where
  s : t.s = ⟨2, cap, 1, 0⟩
  n : t.next = 0
  m : t.may = true
  o : okEs t.e
theorem lru_keyed {cap : Int} {t : Tab} (h : LruT cap t) : t.keyed 0 = true := keyed_iff.2 ⟨h.m, by rw [h.s]; exact (by decide : (2 : Int) ≠ 3), by rw [h.s]; exact (by decide : ((0 : Nat) : Int) < 1)⟩
theorem filter_ne_of_not {l : List Nat} {k : Nat} (h : k ∉ l) : l.filter (· != k) = l := by
  rw [List.filter_eq_self]
  intro a ha
  simp only [bne_iff_ne, ne_eq]
  rintro rfl
  exact h ha
theorem filter_ne_erase {l : List Nat} {k i : Nat} (hn : l.Nodup) (hi : l[i]? = some k) : l.filter (· != k) = l.eraseIdx i := by
  induction l generalizing i with
  | nil => simp at hi
  | cons a l ih =>
    rw [List.nodup_cons] at hn
    cases i with
    | zero =>
      simp only [List.getElem?_cons_zero, Option.some.injEq] at hi
      subst hi
      rw [List.filter_cons, if_neg (by simp), filter_ne_of_not hn.1, List.eraseIdx_cons_zero]
    | succ i =>
      simp only [List.getElem?_cons_succ] at hi
      have hak : a ≠ k := fun e => hn.1 (e ▸ List.mem_of_getElem? hi)
      rw [List.filter_cons, if_pos (by simpa using hak), ih hn.2 hi, List.eraseIdx_cons_succ]
theorem keys_upd {l : List Ent} {i f x : Nat} : keys (updE l i f x) = keys l := by
  unfold updE
  split
  · rename_i e he
    obtain ⟨hlt, hg⟩ := List.getElem?_eq_some_iff.1 he
    unfold keys
    rw [List.map_set]
    apply List.ext_getElem? 
    intro j
    rw [List.getElem?_set]
    split
    · rename_i e1
      subst e1
      simp [hg, hlt]
    · rfl
  · rfl
theorem map_erase {α β : Type} (f : α → β) : ∀ (l : List α) (i : Nat), (l.eraseIdx i).map f = (l.map f).eraseIdx i
  | [], i => by simp
  | a :: l, 0 => by simp
  | a :: l, i + 1 => by simp [map_erase f l i]
theorem keys_toLast {l : List Ent} {i : Nat} : keys (toLast l i) = toLast (keys l) i := by
  unfold keys toLast
  rw [List.map_append, map_erase, List.getElem?_map]
  cases l[i]? <;> rfl
theorem toLast_last {α : Type} (l : List α) (a : α) : toLast (l ++ [a]) ((l ++ [a]).length - 1) = l ++ [a] := by
  unfold toLast
  rw [List.length_append, List.length_singleton, Nat.add_sub_cancel]
  rw [List.eraseIdx_append_of_length_le (Nat.le_refl _)]
  simp
theorem lru_step {cap : Int} {t : Tab} {k x : Nat} (h : LruT cap t) (hk : k < 4294967296) (hx : x < 4294967296) :
    (t.set k 0 x).2 = 0 ∧ LruT cap (t.set k 0 x).1 ∧ keys (t.set k 0 x).1.e = lruW cap (keys t.e) k := by
  have hkd := lru_keyed h
  obtain ⟨hsm, hlc, hnx, _, hw, hnd⟩ := (may_std (by rw [h.s]; exact (by decide : (2 : Int) ≠ 3))).1 h.m
  have hb := Sch.may_bounds hsm
  have hkind : t.s.kind = 2 := by rw [h.s]
  have hcap : t.s.cap = cap := by rw [h.s]
  have hkl : (keys t.e).length = t.e.length := by simp [keys]
  have main : (t.set k 0 x).2 = 0 ∧ (t.set k 0 x).1.next = t.next ∧ keys (t.set k 0 x).1.e = lruW cap (keys t.e) k := by
    by_cases hf : 0 ≤ fidx k t.e 0
    · obtain ⟨i, e, hi, he, hke⟩ := fidx_some rfl hf
      have hidx : t.idx k = i := by
        unfold Tab.idx
        rw [hi]
        simp
      have hset : t.set k 0 x = ({ t with e := toLast (updE t.e i 0 x) i }, 0) := by
        unfold Tab.set
        rw [if_neg (by rw [hkd]; decide), if_pos hf, hkind, hidx]
        rfl
      rw [hset]
      refine ⟨rfl, rfl, ?_⟩
      show keys (toLast (updE t.e i 0 x) i) = _
      have hki : (keys t.e)[i]? = some k := by
        unfold keys
        rw [List.getElem?_map, he]
        simp [hke]
      rw [keys_toLast, keys_upd]
      unfold lruW
      rw [filter_ne_erase hnd hki]
      have hil := (List.getElem?_eq_some_iff.1 hki).1
      have hlen : ((keys t.e).eraseIdx i ++ [k]).length = t.e.length := by
        rw [List.length_append, List.length_eraseIdx, if_pos hil, List.length_singleton]
        omega
      rw [if_neg (by rw [hlen]; omega)]
      unfold toLast
      rw [hki]
      rfl
    · have hno := fidx_none_iff hf
      have hnk : k ∉ keys t.e := by
        intro hm
        obtain ⟨e, he, hke⟩ := List.mem_map.1 hm
        exact hno e he hke
      have hset : t.set k 0 x = ({ t with e := toLast (updE (t.grow k) ((t.grow k).length - 1) 0 x) ((t.grow k).length - 1) }, 0) := by
        unfold Tab.set
        rw [if_neg (by rw [hkd]; decide), if_neg hf, if_neg (by omega), if_neg (by omega), hkind]
        rfl
      rw [hset]
      refine ⟨rfl, rfl, ?_⟩
      show keys (toLast (updE (t.grow k) ((t.grow k).length - 1) 0 x) ((t.grow k).length - 1)) = _
      rw [keys_toLast, keys_upd]
      have hg : keys (t.grow k) = (if (t.e.length : Int) = cap then (keys t.e).drop 1 else keys t.e) ++ [k] := by
        unfold Tab.grow keys
        rw [hcap]
        split <;> simp
      have hgl : (t.grow k).length = (keys (t.grow k)).length := by simp [keys]
      rw [hgl, hg, toLast_last]
      unfold lruW
      rw [filter_ne_of_not hnk]
      simp only [List.length_append, List.length_singleton, hkl]
      by_cases hc : (t.e.length : Int) = cap
      · rw [if_pos hc, if_pos (by omega)]
        have h1 : 1 ≤ (keys t.e).length := by omega
        rw [List.drop_append_of_le_length h1]
      · rw [if_neg hc, if_neg (by omega)]
  refine ⟨main.1, ⟨(set_may main.1).2.2.2.2.trans h.s, main.2.1.trans h.n, (set_may main.1).1, okEs_set h.o hk hx⟩, main.2.2⟩
def lruF (ws : List Nat) (k j : Nat) : List Nat := (ws.take j).filter (· != k)
theorem lruF_zero (ws : List Nat) (k : Nat) : lruF ws k 0 = [] := by simp [lruF]
theorem lruF_all {ws : List Nat} {k j : Nat} (h : j = ws.length) : lruF ws k j = ws.filter (· != k) := by simp [lruF, h]
theorem lruF_add {ws : List Nat} {k j q : Nat} (h : ws[j]? = some q) (hq : q ≠ k) : lruF ws k (j + 1) = lruF ws k j ++ [q] := by
  unfold lruF
  rw [List.take_add_one, h, List.filter_append]
  simp [hq]
theorem lruF_stay {ws : List Nat} {k j q : Nat} (h : ws[j]? = some q) (hq : q = k) : lruF ws k (j + 1) = lruF ws k j := by
  unfold lruF
  rw [List.take_add_one, h, List.filter_append]
  simp [hq]
theorem lruF_le (ws : List Nat) (k j : Nat) : (lruF ws k j).length ≤ ws.length := by
  unfold lruF
  exact Nat.le_trans (List.length_filter_le _ _) (by rw [List.length_take]; omega)
theorem lru_len {cap : Int} {t : Tab} (h : LruT cap t) : (keys t.e).length ≤ 16 := by
  have hb := Sch.may_bounds (Tab.may_sch h.m)
  have hl := Tab.may_len h.m
  have : (keys t.e).length = t.e.length := by simp [keys]
  omega
theorem lru_over {cap : Int} {ws ws' F : List Nat} {k : Nat} (hF : F = ws.filter (· != k)) (h : (F.length : Int) + 1 > cap) (he : ws' = lruW cap ws k) : (List.drop 1 (F.map encW ++ [[AV.raw (.int .u32 (k : Int))]])).take (F.length + 1 - 1) = ws'.map encW := by
  subst hF
  rw [he]
  unfold lruW
  rw [if_pos (by simp only [List.length_append, List.length_singleton]; push_cast; omega), List.map_drop, List.map_append, List.take_of_length_le (by simp)]
  rfl
theorem lru_fit {cap : Int} {ws ws' F : List Nat} {k : Nat} (hF : F = ws.filter (· != k)) (h : ¬ (F.length : Int) + 1 > cap) (he : ws' = lruW cap ws k) : (F.map encW ++ [[AV.raw (.int .u32 (k : Int))]]).take (F.length + 1) = ws'.map encW := by
  subst hF
  rw [he]
  unfold lruW
  rw [if_neg (by simp only [List.length_append, List.length_singleton]; push_cast; omega), List.map_append, List.take_of_length_le (by simp)]
  rfl
theorem lru_new {cap : Int} (h1 : 1 ≤ cap) (h2 : cap ≤ 16) : LruT cap ⟨⟨2, cap, 1, 0⟩, [], 0⟩ := by
  refine ⟨rfl, rfl, (may_std (by exact (by decide : (2 : Int) ≠ 3))).2 ⟨?_, ?_, rfl, fun h => absurd h (by exact (by decide : ¬ (2 : Int) = 0)), (fun e he => by cases he), (by simp [keys])⟩, okEs_nil⟩
  · simp [Sch.may, inB, h1, h2]
  · show ((0 : Nat) : Int) ≤ cap
    omega
end Go.Proofs.Ytpmnchgpbojppaa
