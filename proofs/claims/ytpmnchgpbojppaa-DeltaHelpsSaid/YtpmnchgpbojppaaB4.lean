/- Packed texts: FullP, Pl2, Pp, Po, Ol, Zhelpertold, Zhelpercalldel, Zhelpercallget, Zhelpercallhas, Zhelpercallput, Zhelpercallpush, Zhelpercallset, ZhelperArgs, ZhelperDraw, Zschemain, ZschemaMay, ZhelperFits, ZslicesCloneapiEntryapiEntry, ZslicesCloneapiTableapiTable, ZslicesCloneuint32uint32, Zhelperown, ZhelperCall, Zdrydockref05Few, Hp, Args. -/
import Derived.Test.YtpmnchgpbojppaaB3
import Derived.ProofKit
import Derived.Deep.Slices
/- TableFull's plain law. -/
namespace Go.Proofs.Ytpmnchgpbojppaa
open Go Go.RowKit Go.Proofs.Try

theorem not_fidx {key : Nat} {es : List Ent} (h : ∀ e ∈ es, e.key ≠ key) : ¬ 0 ≤ fidx key es 0 := by
  rw [fidx_none fun i x hx => h x (List.mem_of_getElem? hx)]
  decide
theorem set_new {t : Tab} {key f x : Nat} (hk : t.keyed f = true) (hno : ∀ e ∈ t.e, e.key ≠ key) (h0 : t.s.kind ≠ 0) (hl : (t.e.length : Int) < t.s.cap) :
    t.set key f x = ({ t with e := touch t.s.kind (t.e ++ [⟨key, (List.replicate t.s.words.toNat 0).set f x⟩]) t.e.length }, 0) := by
  have hg : t.grow key = t.e ++ [⟨key, List.replicate t.s.words.toNat 0⟩] := by unfold Tab.grow; rw [if_neg (by omega)]
  unfold Tab.set
  rw [if_neg (by simp [hk]), if_neg (not_fidx hno), if_neg h0, if_neg (by omega), hg]
  simp [updE]
theorem set_full {t : Tab} {key f x : Nat} (hk : t.keyed f = true) (hno : ∀ e ∈ t.e, e.key ≠ key) (h1 : t.s.kind = 1) (hl : (t.e.length : Int) = t.s.cap) : t.set key f x = (Tab.zero, 4) := by
  unfold Tab.set
  rw [if_neg (by simp [hk]), if_neg (not_fidx hno), if_neg (by omega), if_pos ⟨h1, hl⟩]
theorem set_old {t : Tab} {key f x : Nat} (hk : t.keyed f = true) (hin : ∃ e ∈ t.e, e.key = key) : (t.set key f x).2 = 0 := by
  obtain ⟨e, he, hke⟩ := hin
  have hp : 0 ≤ fidx key t.e 0 := by
    by_cases h : 0 ≤ fidx key t.e 0
    · exact h
    · exact absurd hke (fidx_none_iff h e he)
  unfold Tab.set
  rw [if_neg (by simp [hk]), if_pos hp]

def fullEs (key k : Nat) : List Ent := (List.range k).map fun i => ⟨(key + i) % 4294967296, [1]⟩
theorem fullEs_succ (key k : Nat) : fullEs key (k + 1) = fullEs key k ++ [⟨(key + k) % 4294967296, [1]⟩] := by simp [fullEs, List.range_succ]
theorem fullEs_length (key k : Nat) : (fullEs key k).length = k := by simp [fullEs]
def fullT (cap : Int) (key k : Nat) : Tab := ⟨⟨1, cap, 1, 0⟩, fullEs key k, 0⟩

theorem full_keys (key k : Nat) (hk : k ≤ 16) : (keys (fullEs key k)).Nodup := by
  unfold keys fullEs List.Nodup
  rw [List.pairwise_iff_getElem]
  intro i j hi hj hij
  simp at hi hj ⊢
  omega
theorem full_may {cap : Int} {key k : Nat} (h1 : 1 ≤ cap) (h2 : cap ≤ 16) (hk : (k : Int) ≤ cap) : (fullT cap key k).may = true := by
  refine (may_std (by simp [fullT])).2 ⟨?_, ?_, rfl, fun h => absurd h (by simp [fullT]), fun e he => ?_, full_keys key k (by omega)⟩
  · simp [fullT, Sch.may, inB, h1, h2]
  · simp only [fullT, fullEs_length]; exact hk
  · simp [fullT, fullEs] at he
    obtain ⟨i, _, rfl⟩ := he
    rfl
theorem full_keyed {cap : Int} {key k : Nat} (h1 : 1 ≤ cap) (h2 : cap ≤ 16) (hk : (k : Int) ≤ cap) : (fullT cap key k).keyed 0 = true :=
  keyed_iff.2 ⟨full_may h1 h2 hk, by simp [fullT], by simp [fullT]⟩
theorem full_not {cap : Int} {key k m : Nat} (hm : k ≤ m) (h16 : m ≤ 16) : ∀ e ∈ (fullT cap key k).e, e.key ≠ (key + m) % 4294967296 := by
  intro e he
  simp [fullT, fullEs] at he
  obtain ⟨i, hi, rfl⟩ := he
  simp
  omega
/-- One round. -/
theorem full_step {cap : Int} {key k : Nat} (h1 : 1 ≤ cap) (h2 : cap ≤ 16) (hk : (k : Int) < cap) : (fullT cap key k).set ((key + k) % 4294967296) 0 1 = (fullT cap key (k + 1), 0) := by
  rw [set_new (full_keyed h1 h2 (by omega)) (full_not (Nat.le_refl _) (by omega)) (by simp [fullT]) (by simp only [fullT, fullEs_length]; exact hk)]
  simp [fullT, touch, fullEs_succ]

/-- Behind the loop. -/
theorem full_end {cap : Int} {key k : Nat} (h1 : 1 ≤ cap) (h2 : cap ≤ 16) (hk : (k : Int) = cap) (hkey : key < 4294967296) :
    (fullT cap key k).set ((key + k) % 4294967296) 0 1 = (Tab.zero, 4) ∧ ((fullT cap key k).set key 0 2).2 = 0 ∧ ((fullT cap key k).del key).2 = true ∧ ((fullT cap key k).del key).1.s = ⟨1, cap, 1, 0⟩ ∧ ((fullT cap key k).del key).1.next = 0 ∧ ((fullT cap key k).del key).1.may = true ∧
      (((fullT cap key k).del key).1.set ((key + k) % 4294967296) 0 1).2 = 0 ∧ ((((fullT cap key k).del key).1.set ((key + k) % 4294967296) 0 1).1.e.length : Int) = cap ∧
      ((((fullT cap key k).del key).1.set ((key + k) % 4294967296) 0 1).1.get key 0).2 = (0, false) := by
  have hm := full_may (key := key) (k := k) h1 h2 (by omega)
  have hkd := full_keyed (key := key) (k := k) h1 h2 (by omega)
  have hin : ∃ e ∈ (fullT cap key k).e, e.key = key := ⟨⟨key, [1]⟩, by
    simp [fullT, fullEs]
    exact ⟨0, by omega, by omega⟩, rfl⟩
  have hhas : (fullT cap key k).has key 0 = true := by
    obtain ⟨e, he, hke⟩ := hin
    rw [← has_get, get_mem hkd he hke]
  obtain ⟨a, b, c, d, _, g, h⟩ := del_ok (key := key) hm
  have hdel : (fullT cap key k).del key = ({ fullT cap key k with e := (fullT cap key k).e.eraseIdx ((fullT cap key k).idx key) }, true) := by
    unfold Tab.del
    rw [if_neg (by simp [hhas]), if_neg (by simp [fullT])]
  have hDl : ((fullT cap key k).del key).1.e.length + 1 = k := by
    rw [hdel]
    obtain ⟨_, hp⟩ : (fullT cap key k).keyed 0 = true ∧ 0 ≤ fidx key (fullT cap key k).e 0 := by simpa [Tab.has] using hhas
    have := (fidx_nat hp).2
    simp only [Tab.idx, List.length_eraseIdx, this, if_true]
    simp only [fullT, fullEs_length] at this ⊢
    omega
  have hDk : ((fullT cap key k).del key).1.keyed 0 = true := keyed_iff.2 ⟨d, by rw [a]; simp [fullT], by rw [a]; simp [fullT]⟩
  have hDn : ∀ e ∈ ((fullT cap key k).del key).1.e, e.key ≠ (key + k) % 4294967296 := by
    intro e he
    rw [hdel] at he
    exact full_not (Nat.le_refl k) (by omega) e (List.mem_of_mem_eraseIdx he)
  have hcp : (fullT cap key k).s.cap = cap := rfl
  have hset := set_new (x := 1) hDk hDn (by rw [a]; simp [fullT]) (by rw [a, hcp]; omega)
  have hs2 : (((fullT cap key k).del key).1.set ((key + k) % 4294967296) 0 1).2 = 0 := by rw [hset]
  refine ⟨set_full hkd (full_not (Nat.le_refl _) (by omega)) rfl (by simp only [fullT, fullEs_length]; exact hk), set_old hkd hin, by rw [c, hhas], a, b, d, hs2, ?_, ?_⟩
  · have ht : ∀ (l : List Ent) (n : Nat), touch ((fullT cap key k).del key).1.s.kind l n = l := fun l n => by unfold touch; rw [if_neg (by rw [a]; simp [fullT])]
    rw [hset]
    simp only [ht, List.length_append, List.length_cons, List.length_nil]
    omega
  · have hne : key ≠ (key + k) % 4294967296 := by omega
    rcases back_other (place := 0) hs2 hne with h1 | ⟨_, h2, h3, _⟩
    · rw [h1, g]
      simp [fullT]
    · rw [a] at h3
      exact absurd h3 (by simp [fullT])
end Go.Proofs.Ytpmnchgpbojppaa

/- What table's plain functions keep. -/
set_option linter.unusedVariables false
namespace Go.Proofs.Ytpmnchgpbojppaa
open Go Go.RowKit Go.Proofs.Try

theorem mayFits {t : Tab} (h : t.may = true) : fits t.e := by
  have hb := Sch.may_bounds (Tab.may_sch h)
  have hl := Tab.may_len h
  refine ⟨by omega, fun e he => ?_⟩
  obtain ⟨i, hi⟩ := List.mem_iff_getElem?.1 he
  have := ((t.elOk_iff i e).1 ((t.may_iff.1 h).2 i e hi)).1
  omega
theorem smallFits {t : Tab} (h : t.small = true) : fits t.e := by
  have := t.small_iff.1 h
  exact ⟨by omega, fun e he => by have := this.2 e he; omega⟩
theorem mem_touch {α : Type} {kind : Int} {l : List α} {i : Nat} {x : α} (h : x ∈ touch kind l i) : x ∈ l := by
  unfold touch at h
  split at h
  · unfold toLast at h
    rw [List.mem_append] at h
    rcases h with h | h
    · exact List.mem_of_mem_eraseIdx h
    · rw [Option.mem_toList] at h
      exact List.mem_of_getElem? h
  · exact h
theorem okEs_upd {l : List Ent} {i f x : Nat} (h : okEs l) (hx : x < 4294967296) : okEs (updE l i f x) := by
  unfold updE
  split
  · rename_i e he
    have hm := h e (List.mem_of_getElem? he)
    intro a ha
    rcases List.mem_or_eq_of_mem_set ha with h1 | rfl
    · exact h a h1
    · refine ⟨hm.1, fun y hy => ?_⟩
      rcases List.mem_or_eq_of_mem_set hy with h2 | rfl
      · exact hm.2 y h2
      · exact hx
  · exact h
theorem okEs_touch {kind : Int} {l : List Ent} {i : Nat} (h : okEs l) : okEs (touch kind l i) := fun e he => h e (mem_touch he)
theorem okEs_nil : okEs [] := fun e he => by cases he
theorem okEs_grow {t : Tab} {key : Nat} (h : okEs t.e) (hk : key < 4294967296) : okEs (t.grow key) := by
  intro e he
  unfold Tab.grow at he
  rw [List.mem_append, List.mem_singleton] at he
  rcases he with he | rfl
  · split at he
    · exact h e (List.mem_of_mem_drop he)
    · exact h e he
  · refine ⟨hk, fun y hy => ?_⟩
    have := (List.mem_replicate.1 hy).2
    omega
theorem okEs_set {t : Tab} {key f x : Nat} (h : okEs t.e) (hk : key < 4294967296) (hx : x < 4294967296) : okEs (t.set key f x).1.e := by
  unfold Tab.set
  split
  · exact okEs_nil
  · split
    · exact okEs_touch (okEs_upd h hx)
    · split
      · exact okEs_nil
      · split
        · exact okEs_nil
        · exact okEs_touch (okEs_upd (okEs_grow h hk) hx)
theorem okEs_get {t : Tab} {key f : Nat} (h : okEs t.e) : okEs (t.get key f).1.e := by
  unfold Tab.get
  split
  · exact okEs_touch h
  · exact h
theorem okEs_zero {l : List Ent} {i : Nat} (h : okEs l) : okEs (zeroE l i) := by
  unfold zeroE
  split
  · rename_i e he
    have hm := h e (List.mem_of_getElem? he)
    intro a ha
    rcases List.mem_or_eq_of_mem_set ha with h1 | rfl
    · exact h a h1
    · refine ⟨hm.1, fun y hy => ?_⟩
      have := (List.mem_replicate.1 hy).2
      omega
  · exact h
theorem okEs_del {t : Tab} {key : Nat} (h : okEs t.e) : okEs (t.del key).1.e := by
  unfold Tab.del
  split
  · exact h
  · split
    · exact okEs_zero h
    · exact fun e he => h e (List.mem_of_mem_eraseIdx he)
theorem okEs_new {s : Sch} : okEs (Tab.new s).1.e ∨ 4294967296 < s.cap := by
  unfold Tab.new
  split
  · exact .inl okEs_nil
  · split
    · by_cases hc : 4294967296 < s.cap
      · exact .inr hc
      · refine .inl fun e he => ?_
        simp [newEs] at he
        obtain ⟨i, hi, rfl⟩ := he
        refine ⟨by show i < 4294967296; omega, fun y hy => ?_⟩
        have := (List.mem_replicate.1 hy).2
        omega
    · exact .inl okEs_nil
theorem set_next {t : Tab} {key f x : Nat} (h : t.next < 4294967296) : (t.set key f x).1.next < 4294967296 := by
  unfold Tab.set
  split
  · exact (by decide)
  · split
    · exact h
    · split
      · exact (by decide)
      · split
        · exact (by decide)
        · exact h
theorem set_fit {t : Tab} {key f x : Nat} (h : (t.set key f x).2 = 0) : fits (t.set key f x).1.e := mayFits (set_may h).1
end Go.Proofs.Ytpmnchgpbojppaa

/- table.Push and table.Pop, walked by the abstract machine. -/
set_option linter.unusedVariables false
set_option linter.unusedSimpArgs false
namespace Go.Proofs.Ytpmnchgpbojppaa
open Go Go.RowKit Go.Proofs.Try
def Tab.push (t : Tab) (v : Nat) : Tab × Int :=
  if t.may = false ∨ t.s.kind ≠ 3 then (Tab.zero, 1)
  else if (t.e.length : Int) = t.s.cap then (Tab.zero, 4)
  else ({ t with e := t.e ++ [⟨t.next, [v]⟩], next := (t.next + 1) % 4294967296 }, 0)
set_option maxHeartbeats 4000000 in
set_option maxRecDepth 100000 in
theorem push_ok (f : Bool) (t : Tab) (v : Nat) (hx : t.next < 4294967296) (hl0 : okEs t.e) (hv : v < 4294967296) (hm : t.may = true) (hk : t.s.kind = 3) (hc : ¬ (t.e.length : Int) = t.s.cap) : Ctr prog 27 [avTab f t, .raw (.int .u32 (v : Int))] [] (.tup [avTab false (t.push v).1, .raw (.int .i64 (t.push v).2)]) [] := by
  have hk2 : (t.s.kind != 3) = false := by simp [hk]
  have h16 : t.e.length ≤ 16 := by
    have hb := Sch.may_bounds (Tab.may_sch hm)
    have := Tab.may_len hm
    omega
  have hpush : t.push v = (⟨t.s, t.e ++ [⟨t.next, [v]⟩], (t.next + 1) % 4294967296⟩, 0) := by
    unfold Tab.push
    rw [if_neg (by simp [hm, hk]), if_neg hc]
  obtain ⟨nn, hnn⟩ : ∃ nn : Nat, nn = (t.next + 1) % 4294967296 := ⟨_, rfl⟩
  have hwn : IntKind.u32.wrap ((t.next : Int) + 1) = (nn : Int) := by rw [IntKind.wrap_u32, hnn]; omega
  have hfin : List.take (t.e.length + 1) (t.e.map encEnt ++ [[AV.raw (Value.int .u32 (t.next : Int)), AV.sl false [[AV.raw (Value.int .u32 (v : Int))]]]]) = (t.e ++ [(⟨t.next, [v]⟩ : Ent)]).map encEnt := by
    rw [List.take_of_length_le (by simp), List.map_append]
    rfl
  rw [hpush, ← hnn]
  refine Ctr.of tabOk func27 rfl call27 1 _ ntmps27 [.cell 4 27, .tmp 5] rfl rfl rfl (fun B => ?_)
  refine VC.seqR tabOk [some 2, some 4, some 5] [1, 2, 4] rfl rfl (fun K hK => ?_)
  simp (maxSteps := 9000000) only [push_cast, Nat.reduceBNe, Nat.reduceBEq, Int.reduceBNe, Int.reduceBEq, UInt32.reduceToNat, UInt8.reduceToNat, UInt64.reduceToNat, ↓reduceIte, reduceCtorEq, Nat.reduceEqDiff, Nat.reduceAdd, Nat.reduceLeDiff, Nat.reduceLT, Nat.reduceSub, Int.reduceEq, Int.reduceNe, Int.reduceLT, Int.reduceLE, Int.reduceAdd, Int.reduceSub, Int.reduceMul, Int.reduceNeg, Int.reduceToNat, Nat.reduceMul]
  refine hK _ ?_; clear hK K
  refine VC.seq ?_
  refine VC.block ?_
  refine VC.seq ?_
  refine VC.seqR tabOk [some 8, some 9, some 10, some 7] [1, 2, 4, 7] rfl rfl (fun K hK => ?_)
  simp (maxSteps := 9000000) only [push_cast, Nat.reduceBNe, Nat.reduceBEq, Int.reduceBNe, Int.reduceBEq, UInt32.reduceToNat, UInt8.reduceToNat, UInt64.reduceToNat, ↓reduceIte, reduceCtorEq, Nat.reduceEqDiff, Nat.reduceAdd, Nat.reduceLeDiff, Nat.reduceLT, Nat.reduceSub, Int.reduceEq, Int.reduceNe, Int.reduceLT, Int.reduceLE, Int.reduceAdd, Int.reduceSub, Int.reduceMul, Int.reduceNeg, Int.reduceToNat, Nat.reduceMul]
  refine callP (may_ctr f t hx hl0) rfl ?_
  simp (maxSteps := 9000000) only [push_cast, Nat.reduceBNe, Nat.reduceBEq, Int.reduceBNe, Int.reduceBEq, UInt32.reduceToNat, UInt8.reduceToNat, UInt64.reduceToNat, ↓reduceIte, reduceCtorEq, Nat.reduceEqDiff, Nat.reduceAdd, Nat.reduceLeDiff, Nat.reduceLT, Nat.reduceSub, Int.reduceEq, Int.reduceNe, Int.reduceLT, Int.reduceLE, Int.reduceAdd, Int.reduceSub, Int.reduceMul, Int.reduceNeg, Int.reduceToNat, Nat.reduceMul, hm]
  refine hK _ ?_; clear hK K
  refine VC.cond rfl rfl (fun hc0 => ?_) (fun hc0 => ?_)
  · exact absurd hc0 (by simp)
  · refine VC.lastR tabOk [some 11, some 12, some 13, some 14, some 7] rfl rfl (fun K hK => ?_)
    simp (maxSteps := 9000000) only [push_cast, Nat.reduceBNe, Nat.reduceBEq, Int.reduceBNe, Int.reduceBEq, UInt32.reduceToNat, UInt8.reduceToNat, UInt64.reduceToNat, ↓reduceIte, reduceCtorEq, Nat.reduceEqDiff, Nat.reduceAdd, Nat.reduceLeDiff, Nat.reduceLT, Nat.reduceSub, Int.reduceEq, Int.reduceNe, Int.reduceLT, Int.reduceLE, Int.reduceAdd, Int.reduceSub, Int.reduceMul, Int.reduceNeg, Int.reduceToNat, Nat.reduceMul, hk2]
    refine hK _ ?_; clear hK K
    refine VC.cond rfl rfl (fun hc1 => ?_) (fun hc1 => ?_)
    · exact absurd hc1 (by simp)
    · refine VC.seqR tabOk [some 17, some 18, some 19, some 20, some 21, some 22, some 23, some 16] [1, 2, 4, 16] rfl rfl (fun K hK => ?_)
      simp (maxSteps := 9000000) only [push_cast, Nat.reduceBNe, Nat.reduceBEq, Int.reduceBNe, Int.reduceBEq, UInt32.reduceToNat, UInt8.reduceToNat, UInt64.reduceToNat, ↓reduceIte, reduceCtorEq, Nat.reduceEqDiff, Nat.reduceAdd, Nat.reduceLeDiff, Nat.reduceLT, Nat.reduceSub, Int.reduceEq, Int.reduceNe, Int.reduceLT, Int.reduceLE, Int.reduceAdd, Int.reduceSub, Int.reduceMul, Int.reduceNeg, Int.reduceToNat, Nat.reduceMul]
      refine hK _ ?_; clear hK K
      refine VC.cond rfl rfl (fun hc2 => ?_) (fun hc2 => ?_)
      · exact absurd hc2 (by simpa using hc)
      · refine VC.skip ?_
        refine VC.seqR tabOk [some 25, some 26, some 6, none] [1, 4, 6] rfl rfl (fun K hK => ?_)
        simp (maxSteps := 9000000) only [push_cast, Nat.reduceBNe, Nat.reduceBEq, Int.reduceBNe, Int.reduceBEq, UInt32.reduceToNat, UInt8.reduceToNat, UInt64.reduceToNat, ↓reduceIte, reduceCtorEq, Nat.reduceEqDiff, Nat.reduceAdd, Nat.reduceLeDiff, Nat.reduceLT, Nat.reduceSub, Int.reduceEq, Int.reduceNe, Int.reduceLT, Int.reduceLE, Int.reduceAdd, Int.reduceSub, Int.reduceMul, Int.reduceNeg, Int.reduceToNat, Nat.reduceMul]
        refine callH (H := []) (H' := [(22, .row 39 2 0 (t.e.map encEnt))]) (own_rctr f t 22 (mayFits hm) hl0) (by simp (maxSteps := 9000000) only [push_cast, Nat.reduceBNe, Nat.reduceBEq, Int.reduceBNe, Int.reduceBEq, UInt32.reduceToNat, UInt8.reduceToNat, UInt64.reduceToNat, ↓reduceIte, reduceCtorEq, Nat.reduceEqDiff, Nat.reduceAdd, Nat.reduceLeDiff, Nat.reduceLT, Nat.reduceSub, Int.reduceEq, Int.reduceNe, Int.reduceLT, Int.reduceLE, Int.reduceAdd, Int.reduceSub, Int.reduceMul, Int.reduceNeg, Int.reduceToNat, Nat.reduceMul]) rfl rfl rfl ?_
        simp (maxSteps := 9000000) only [push_cast, Nat.reduceBNe, Nat.reduceBEq, Int.reduceBNe, Int.reduceBEq, UInt32.reduceToNat, UInt8.reduceToNat, UInt64.reduceToNat, ↓reduceIte, reduceCtorEq, Nat.reduceEqDiff, Nat.reduceAdd, Nat.reduceLeDiff, Nat.reduceLT, Nat.reduceSub, Int.reduceEq, Int.reduceNe, Int.reduceLT, Int.reduceLE, Int.reduceAdd, Int.reduceSub, Int.reduceMul, Int.reduceNeg, Int.reduceToNat, Nat.reduceMul]
        refine hK _ ?_; clear hK K
        refine VC.seqR tabOk [some 27, some 28, some 29, some 30, some 31, some 32, some 33, some 34, some 35, some 36, none] [4, 6] rfl rfl (fun K hK => ?_)
        simp (maxSteps := 9000000) only [push_cast, Nat.reduceBNe, Nat.reduceBEq, Int.reduceBNe, Int.reduceBEq, UInt32.reduceToNat, UInt8.reduceToNat, UInt64.reduceToNat, ↓reduceIte, reduceCtorEq, Nat.reduceEqDiff, Nat.reduceAdd, Nat.reduceLeDiff, Nat.reduceLT, Nat.reduceSub, Int.reduceEq, Int.reduceNe, Int.reduceLT, Int.reduceLE, Int.reduceAdd, Int.reduceSub, Int.reduceMul, Int.reduceNeg, Int.reduceToNat, Nat.reduceMul]
        refine ⟨by omega, ?_⟩
        refine hK _ ?_; clear hK K
        refine VC.seqR tabOk [some 37, some 38, some 39, some 40, none] [4, 6] rfl rfl (fun K hK => ?_)
        simp (maxSteps := 9000000) only [push_cast, Nat.reduceBNe, Nat.reduceBEq, Int.reduceBNe, Int.reduceBEq, UInt32.reduceToNat, UInt8.reduceToNat, UInt64.reduceToNat, ↓reduceIte, reduceCtorEq, Nat.reduceEqDiff, Nat.reduceAdd, Nat.reduceLeDiff, Nat.reduceLT, Nat.reduceSub, Int.reduceEq, Int.reduceNe, Int.reduceLT, Int.reduceLE, Int.reduceAdd, Int.reduceSub, Int.reduceMul, Int.reduceNeg, Int.reduceToNat, Nat.reduceMul, hwn]
        refine hK _ ?_; clear hK K
        refine VC.seqR tabOk [some 41, none, some 5] [4, 5] rfl rfl (fun K hK => ?_)
        simp (maxSteps := 9000000) only [push_cast, Nat.reduceBNe, Nat.reduceBEq, Int.reduceBNe, Int.reduceBEq, UInt32.reduceToNat, UInt8.reduceToNat, UInt64.reduceToNat, ↓reduceIte, reduceCtorEq, Nat.reduceEqDiff, Nat.reduceAdd, Nat.reduceLeDiff, Nat.reduceLT, Nat.reduceSub, Int.reduceEq, Int.reduceNe, Int.reduceLT, Int.reduceLE, Int.reduceAdd, Int.reduceSub, Int.reduceMul, Int.reduceNeg, Int.reduceToNat, Nat.reduceMul]
        refine hK _ ?_; clear hK K
        refine VC.sub (Sub.freeze prog (b := 2) (j := 4) rfl rfl rfl (by simp) (by decide)) ?_
        simp (maxSteps := 9000000) only [push_cast, Nat.reduceBNe, Nat.reduceBEq, Int.reduceBNe, Int.reduceBEq, UInt32.reduceToNat, UInt8.reduceToNat, UInt64.reduceToNat, ↓reduceIte, reduceCtorEq, Nat.reduceEqDiff, Nat.reduceAdd, Nat.reduceLeDiff, Nat.reduceLT, Nat.reduceSub, Int.reduceEq, Int.reduceNe, Int.reduceLT, Int.reduceLE, Int.reduceAdd, Int.reduceSub, Int.reduceMul, Int.reduceNeg, Int.reduceToNat, Nat.reduceMul, hfin]
        refine VC.ret ?_
        refine Post.ret ?_ ?_ ?_
        · simp (maxSteps := 9000000) only [push_cast, Nat.reduceBNe, Nat.reduceBEq, Int.reduceBNe, Int.reduceBEq, UInt32.reduceToNat, UInt8.reduceToNat, UInt64.reduceToNat, ↓reduceIte, reduceCtorEq, Nat.reduceEqDiff, Nat.reduceAdd, Nat.reduceLeDiff, Nat.reduceLT, Nat.reduceSub, Int.reduceEq, Int.reduceNe, Int.reduceLT, Int.reduceLE, Int.reduceAdd, Int.reduceSub, Int.reduceMul, Int.reduceNeg, Int.reduceToNat, Nat.reduceMul]
        · simp (maxSteps := 9000000) only [push_cast, Nat.reduceBNe, Nat.reduceBEq, Int.reduceBNe, Int.reduceBEq, UInt32.reduceToNat, UInt8.reduceToNat, UInt64.reduceToNat, ↓reduceIte, reduceCtorEq, Nat.reduceEqDiff, Nat.reduceAdd, Nat.reduceLeDiff, Nat.reduceLT, Nat.reduceSub, Int.reduceEq, Int.reduceNe, Int.reduceLT, Int.reduceLE, Int.reduceAdd, Int.reduceSub, Int.reduceMul, Int.reduceNeg, Int.reduceToNat, Nat.reduceMul]
        · rfl
set_option maxHeartbeats 4000000 in
set_option maxRecDepth 100000 in
theorem push_may (f : Bool) (t : Tab) (v : Nat) (hx : t.next < 4294967296) (hl0 : okEs t.e) (hv : v < 4294967296) (hm : t.may = false) : Ctr prog 27 [avTab f t, .raw (.int .u32 (v : Int))] [] (.tup [avTab false (t.push v).1, .raw (.int .i64 (t.push v).2)]) [] := by
  have hpush : t.push v = (Tab.zero, 1) := by
    unfold Tab.push
    rw [if_pos (Or.inl hm)]
  rw [hpush]
  refine Ctr.of tabOk func27 rfl call27 0 _ ntmps27 [.cell 4 27, .tmp 5] rfl rfl rfl (fun B => ?_)
  refine VC.seqR tabOk [some 2, some 4, some 5] [1, 2, 4] rfl rfl (fun K hK => ?_)
  simp (maxSteps := 9000000) only [push_cast, Nat.reduceBNe, Nat.reduceBEq, Int.reduceBNe, Int.reduceBEq, UInt32.reduceToNat, UInt8.reduceToNat, UInt64.reduceToNat, ↓reduceIte, reduceCtorEq, Nat.reduceEqDiff, Nat.reduceAdd, Nat.reduceLeDiff, Nat.reduceLT, Nat.reduceSub, Int.reduceEq, Int.reduceNe, Int.reduceLT, Int.reduceLE, Int.reduceAdd, Int.reduceSub, Int.reduceMul, Int.reduceNeg, Int.reduceToNat, Nat.reduceMul]
  refine hK _ ?_; clear hK K
  refine VC.seq ?_
  refine VC.block ?_
  refine VC.seq ?_
  refine VC.seqR tabOk [some 8, some 9, some 10, some 7] [1, 2, 4, 7] rfl rfl (fun K hK => ?_)
  simp (maxSteps := 9000000) only [push_cast, Nat.reduceBNe, Nat.reduceBEq, Int.reduceBNe, Int.reduceBEq, UInt32.reduceToNat, UInt8.reduceToNat, UInt64.reduceToNat, ↓reduceIte, reduceCtorEq, Nat.reduceEqDiff, Nat.reduceAdd, Nat.reduceLeDiff, Nat.reduceLT, Nat.reduceSub, Int.reduceEq, Int.reduceNe, Int.reduceLT, Int.reduceLE, Int.reduceAdd, Int.reduceSub, Int.reduceMul, Int.reduceNeg, Int.reduceToNat, Nat.reduceMul]
  refine callP (may_ctr f t hx hl0) rfl ?_
  simp (maxSteps := 9000000) only [push_cast, Nat.reduceBNe, Nat.reduceBEq, Int.reduceBNe, Int.reduceBEq, UInt32.reduceToNat, UInt8.reduceToNat, UInt64.reduceToNat, ↓reduceIte, reduceCtorEq, Nat.reduceEqDiff, Nat.reduceAdd, Nat.reduceLeDiff, Nat.reduceLT, Nat.reduceSub, Int.reduceEq, Int.reduceNe, Int.reduceLT, Int.reduceLE, Int.reduceAdd, Int.reduceSub, Int.reduceMul, Int.reduceNeg, Int.reduceToNat, Nat.reduceMul, hm]
  refine hK _ ?_; clear hK K
  refine VC.cond rfl rfl (fun hc0 => ?_) (fun hc0 => ?_)
  · refine VC.skip ?_
    refine VC.cond rfl rfl (fun hc1 => ?_) (fun hc1 => ?_)
    · refine VC.seqR tabOk [some 15, none, some 5] [4, 5] rfl rfl (fun K hK => ?_)
      simp (maxSteps := 9000000) only [push_cast, Nat.reduceBNe, Nat.reduceBEq, Int.reduceBNe, Int.reduceBEq, UInt32.reduceToNat, UInt8.reduceToNat, UInt64.reduceToNat, ↓reduceIte, reduceCtorEq, Nat.reduceEqDiff, Nat.reduceAdd, Nat.reduceLeDiff, Nat.reduceLT, Nat.reduceSub, Int.reduceEq, Int.reduceNe, Int.reduceLT, Int.reduceLE, Int.reduceAdd, Int.reduceSub, Int.reduceMul, Int.reduceNeg, Int.reduceToNat, Nat.reduceMul]
      refine hK _ ?_; clear hK K
      refine VC.sub (Sub.looseB (b := 1) (j := 4) rfl rfl) ?_
      simp (maxSteps := 9000000) only [push_cast, Nat.reduceBNe, Nat.reduceBEq, Int.reduceBNe, Int.reduceBEq, UInt32.reduceToNat, UInt8.reduceToNat, UInt64.reduceToNat, ↓reduceIte, reduceCtorEq, Nat.reduceEqDiff, Nat.reduceAdd, Nat.reduceLeDiff, Nat.reduceLT, Nat.reduceSub, Int.reduceEq, Int.reduceNe, Int.reduceLT, Int.reduceLE, Int.reduceAdd, Int.reduceSub, Int.reduceMul, Int.reduceNeg, Int.reduceToNat, Nat.reduceMul]
      refine VC.ret ?_
      refine Post.ret ?_ ?_ ?_
      · simp (maxSteps := 9000000) only [push_cast, Nat.reduceBNe, Nat.reduceBEq, Int.reduceBNe, Int.reduceBEq, UInt32.reduceToNat, UInt8.reduceToNat, UInt64.reduceToNat, ↓reduceIte, reduceCtorEq, Nat.reduceEqDiff, Nat.reduceAdd, Nat.reduceLeDiff, Nat.reduceLT, Nat.reduceSub, Int.reduceEq, Int.reduceNe, Int.reduceLT, Int.reduceLE, Int.reduceAdd, Int.reduceSub, Int.reduceMul, Int.reduceNeg, Int.reduceToNat, Nat.reduceMul, Tab.zero]
      · simp (maxSteps := 9000000) only [push_cast, Nat.reduceBNe, Nat.reduceBEq, Int.reduceBNe, Int.reduceBEq, UInt32.reduceToNat, UInt8.reduceToNat, UInt64.reduceToNat, ↓reduceIte, reduceCtorEq, Nat.reduceEqDiff, Nat.reduceAdd, Nat.reduceLeDiff, Nat.reduceLT, Nat.reduceSub, Int.reduceEq, Int.reduceNe, Int.reduceLT, Int.reduceLE, Int.reduceAdd, Int.reduceSub, Int.reduceMul, Int.reduceNeg, Int.reduceToNat, Nat.reduceMul]
      · rfl
    · exact absurd hc1 (by simp)
  · exact absurd hc0 (by simp)
set_option maxHeartbeats 4000000 in
set_option maxRecDepth 100000 in
theorem push_kind (f : Bool) (t : Tab) (v : Nat) (hx : t.next < 4294967296) (hl0 : okEs t.e) (hv : v < 4294967296) (hm : t.may = true) (hk : t.s.kind ≠ 3) : Ctr prog 27 [avTab f t, .raw (.int .u32 (v : Int))] [] (.tup [avTab false (t.push v).1, .raw (.int .i64 (t.push v).2)]) [] := by
  have hpush : t.push v = (Tab.zero, 1) := by
    unfold Tab.push
    rw [if_pos (Or.inr hk)]
  have hk2 : (t.s.kind != 3) = true := by simp [hk]
  rw [hpush]
  refine Ctr.of tabOk func27 rfl call27 0 _ ntmps27 [.cell 4 27, .tmp 5] rfl rfl rfl (fun B => ?_)
  refine VC.seqR tabOk [some 2, some 4, some 5] [1, 2, 4] rfl rfl (fun K hK => ?_)
  simp (maxSteps := 9000000) only [push_cast, Nat.reduceBNe, Nat.reduceBEq, Int.reduceBNe, Int.reduceBEq, UInt32.reduceToNat, UInt8.reduceToNat, UInt64.reduceToNat, ↓reduceIte, reduceCtorEq, Nat.reduceEqDiff, Nat.reduceAdd, Nat.reduceLeDiff, Nat.reduceLT, Nat.reduceSub, Int.reduceEq, Int.reduceNe, Int.reduceLT, Int.reduceLE, Int.reduceAdd, Int.reduceSub, Int.reduceMul, Int.reduceNeg, Int.reduceToNat, Nat.reduceMul]
  refine hK _ ?_; clear hK K
  refine VC.seq ?_
  refine VC.block ?_
  refine VC.seq ?_
  refine VC.seqR tabOk [some 8, some 9, some 10, some 7] [1, 2, 4, 7] rfl rfl (fun K hK => ?_)
  simp (maxSteps := 9000000) only [push_cast, Nat.reduceBNe, Nat.reduceBEq, Int.reduceBNe, Int.reduceBEq, UInt32.reduceToNat, UInt8.reduceToNat, UInt64.reduceToNat, ↓reduceIte, reduceCtorEq, Nat.reduceEqDiff, Nat.reduceAdd, Nat.reduceLeDiff, Nat.reduceLT, Nat.reduceSub, Int.reduceEq, Int.reduceNe, Int.reduceLT, Int.reduceLE, Int.reduceAdd, Int.reduceSub, Int.reduceMul, Int.reduceNeg, Int.reduceToNat, Nat.reduceMul]
  refine callP (may_ctr f t hx hl0) rfl ?_
  simp (maxSteps := 9000000) only [push_cast, Nat.reduceBNe, Nat.reduceBEq, Int.reduceBNe, Int.reduceBEq, UInt32.reduceToNat, UInt8.reduceToNat, UInt64.reduceToNat, ↓reduceIte, reduceCtorEq, Nat.reduceEqDiff, Nat.reduceAdd, Nat.reduceLeDiff, Nat.reduceLT, Nat.reduceSub, Int.reduceEq, Int.reduceNe, Int.reduceLT, Int.reduceLE, Int.reduceAdd, Int.reduceSub, Int.reduceMul, Int.reduceNeg, Int.reduceToNat, Nat.reduceMul, hm]
  refine hK _ ?_; clear hK K
  refine VC.cond rfl rfl (fun hc0 => ?_) (fun hc0 => ?_)
  · exact absurd hc0 (by simp)
  · refine VC.lastR tabOk [some 11, some 12, some 13, some 14, some 7] rfl rfl (fun K hK => ?_)
    simp (maxSteps := 9000000) only [push_cast, Nat.reduceBNe, Nat.reduceBEq, Int.reduceBNe, Int.reduceBEq, UInt32.reduceToNat, UInt8.reduceToNat, UInt64.reduceToNat, ↓reduceIte, reduceCtorEq, Nat.reduceEqDiff, Nat.reduceAdd, Nat.reduceLeDiff, Nat.reduceLT, Nat.reduceSub, Int.reduceEq, Int.reduceNe, Int.reduceLT, Int.reduceLE, Int.reduceAdd, Int.reduceSub, Int.reduceMul, Int.reduceNeg, Int.reduceToNat, Nat.reduceMul, hk2]
    refine hK _ ?_; clear hK K
    refine VC.cond rfl rfl (fun hc1 => ?_) (fun hc1 => ?_)
    · refine VC.seqR tabOk [some 15, none, some 5] [4, 5] rfl rfl (fun K hK => ?_)
      simp (maxSteps := 9000000) only [push_cast, Nat.reduceBNe, Nat.reduceBEq, Int.reduceBNe, Int.reduceBEq, UInt32.reduceToNat, UInt8.reduceToNat, UInt64.reduceToNat, ↓reduceIte, reduceCtorEq, Nat.reduceEqDiff, Nat.reduceAdd, Nat.reduceLeDiff, Nat.reduceLT, Nat.reduceSub, Int.reduceEq, Int.reduceNe, Int.reduceLT, Int.reduceLE, Int.reduceAdd, Int.reduceSub, Int.reduceMul, Int.reduceNeg, Int.reduceToNat, Nat.reduceMul]
      refine hK _ ?_; clear hK K
      refine VC.sub (Sub.looseB (b := 1) (j := 4) rfl rfl) ?_
      simp (maxSteps := 9000000) only [push_cast, Nat.reduceBNe, Nat.reduceBEq, Int.reduceBNe, Int.reduceBEq, UInt32.reduceToNat, UInt8.reduceToNat, UInt64.reduceToNat, ↓reduceIte, reduceCtorEq, Nat.reduceEqDiff, Nat.reduceAdd, Nat.reduceLeDiff, Nat.reduceLT, Nat.reduceSub, Int.reduceEq, Int.reduceNe, Int.reduceLT, Int.reduceLE, Int.reduceAdd, Int.reduceSub, Int.reduceMul, Int.reduceNeg, Int.reduceToNat, Nat.reduceMul]
      refine VC.ret ?_
      refine Post.ret ?_ ?_ ?_
      · simp (maxSteps := 9000000) only [push_cast, Nat.reduceBNe, Nat.reduceBEq, Int.reduceBNe, Int.reduceBEq, UInt32.reduceToNat, UInt8.reduceToNat, UInt64.reduceToNat, ↓reduceIte, reduceCtorEq, Nat.reduceEqDiff, Nat.reduceAdd, Nat.reduceLeDiff, Nat.reduceLT, Nat.reduceSub, Int.reduceEq, Int.reduceNe, Int.reduceLT, Int.reduceLE, Int.reduceAdd, Int.reduceSub, Int.reduceMul, Int.reduceNeg, Int.reduceToNat, Nat.reduceMul, Tab.zero]
      · simp (maxSteps := 9000000) only [push_cast, Nat.reduceBNe, Nat.reduceBEq, Int.reduceBNe, Int.reduceBEq, UInt32.reduceToNat, UInt8.reduceToNat, UInt64.reduceToNat, ↓reduceIte, reduceCtorEq, Nat.reduceEqDiff, Nat.reduceAdd, Nat.reduceLeDiff, Nat.reduceLT, Nat.reduceSub, Int.reduceEq, Int.reduceNe, Int.reduceLT, Int.reduceLE, Int.reduceAdd, Int.reduceSub, Int.reduceMul, Int.reduceNeg, Int.reduceToNat, Nat.reduceMul]
      · rfl
    · exact absurd hc1 (by simp)
set_option maxHeartbeats 4000000 in
set_option maxRecDepth 100000 in
theorem push_full (f : Bool) (t : Tab) (v : Nat) (hx : t.next < 4294967296) (hl0 : okEs t.e) (hv : v < 4294967296) (hm : t.may = true) (hk : t.s.kind = 3) (hc : (t.e.length : Int) = t.s.cap) : Ctr prog 27 [avTab f t, .raw (.int .u32 (v : Int))] [] (.tup [avTab false (t.push v).1, .raw (.int .i64 (t.push v).2)]) [] := by
  have hpush : t.push v = (Tab.zero, 4) := by
    unfold Tab.push
    rw [if_neg (by simp [hm, hk]), if_pos hc]
  have hk2 : (t.s.kind != 3) = false := by simp [hk]
  rw [hpush]
  refine Ctr.of tabOk func27 rfl call27 0 _ ntmps27 [.cell 4 27, .tmp 5] rfl rfl rfl (fun B => ?_)
  refine VC.seqR tabOk [some 2, some 4, some 5] [1, 2, 4] rfl rfl (fun K hK => ?_)
  simp (maxSteps := 9000000) only [push_cast, Nat.reduceBNe, Nat.reduceBEq, Int.reduceBNe, Int.reduceBEq, UInt32.reduceToNat, UInt8.reduceToNat, UInt64.reduceToNat, ↓reduceIte, reduceCtorEq, Nat.reduceEqDiff, Nat.reduceAdd, Nat.reduceLeDiff, Nat.reduceLT, Nat.reduceSub, Int.reduceEq, Int.reduceNe, Int.reduceLT, Int.reduceLE, Int.reduceAdd, Int.reduceSub, Int.reduceMul, Int.reduceNeg, Int.reduceToNat, Nat.reduceMul]
  refine hK _ ?_; clear hK K
  refine VC.seq ?_
  refine VC.block ?_
  refine VC.seq ?_
  refine VC.seqR tabOk [some 8, some 9, some 10, some 7] [1, 2, 4, 7] rfl rfl (fun K hK => ?_)
  simp (maxSteps := 9000000) only [push_cast, Nat.reduceBNe, Nat.reduceBEq, Int.reduceBNe, Int.reduceBEq, UInt32.reduceToNat, UInt8.reduceToNat, UInt64.reduceToNat, ↓reduceIte, reduceCtorEq, Nat.reduceEqDiff, Nat.reduceAdd, Nat.reduceLeDiff, Nat.reduceLT, Nat.reduceSub, Int.reduceEq, Int.reduceNe, Int.reduceLT, Int.reduceLE, Int.reduceAdd, Int.reduceSub, Int.reduceMul, Int.reduceNeg, Int.reduceToNat, Nat.reduceMul]
  refine callP (may_ctr f t hx hl0) rfl ?_
  simp (maxSteps := 9000000) only [push_cast, Nat.reduceBNe, Nat.reduceBEq, Int.reduceBNe, Int.reduceBEq, UInt32.reduceToNat, UInt8.reduceToNat, UInt64.reduceToNat, ↓reduceIte, reduceCtorEq, Nat.reduceEqDiff, Nat.reduceAdd, Nat.reduceLeDiff, Nat.reduceLT, Nat.reduceSub, Int.reduceEq, Int.reduceNe, Int.reduceLT, Int.reduceLE, Int.reduceAdd, Int.reduceSub, Int.reduceMul, Int.reduceNeg, Int.reduceToNat, Nat.reduceMul, hm]
  refine hK _ ?_; clear hK K
  refine VC.cond rfl rfl (fun hc0 => ?_) (fun hc0 => ?_)
  · exact absurd hc0 (by simp)
  · refine VC.lastR tabOk [some 11, some 12, some 13, some 14, some 7] rfl rfl (fun K hK => ?_)
    simp (maxSteps := 9000000) only [push_cast, Nat.reduceBNe, Nat.reduceBEq, Int.reduceBNe, Int.reduceBEq, UInt32.reduceToNat, UInt8.reduceToNat, UInt64.reduceToNat, ↓reduceIte, reduceCtorEq, Nat.reduceEqDiff, Nat.reduceAdd, Nat.reduceLeDiff, Nat.reduceLT, Nat.reduceSub, Int.reduceEq, Int.reduceNe, Int.reduceLT, Int.reduceLE, Int.reduceAdd, Int.reduceSub, Int.reduceMul, Int.reduceNeg, Int.reduceToNat, Nat.reduceMul, hk2]
    refine hK _ ?_; clear hK K
    refine VC.cond rfl rfl (fun hc1 => ?_) (fun hc1 => ?_)
    · exact absurd hc1 (by simp)
    · refine VC.seqR tabOk [some 17, some 18, some 19, some 20, some 21, some 22, some 23, some 16] [1, 2, 4, 16] rfl rfl (fun K hK => ?_)
      simp (maxSteps := 9000000) only [push_cast, Nat.reduceBNe, Nat.reduceBEq, Int.reduceBNe, Int.reduceBEq, UInt32.reduceToNat, UInt8.reduceToNat, UInt64.reduceToNat, ↓reduceIte, reduceCtorEq, Nat.reduceEqDiff, Nat.reduceAdd, Nat.reduceLeDiff, Nat.reduceLT, Nat.reduceSub, Int.reduceEq, Int.reduceNe, Int.reduceLT, Int.reduceLE, Int.reduceAdd, Int.reduceSub, Int.reduceMul, Int.reduceNeg, Int.reduceToNat, Nat.reduceMul]
      refine hK _ ?_; clear hK K
      refine VC.cond rfl rfl (fun hc2 => ?_) (fun hc2 => ?_)
      · refine VC.seqR tabOk [some 24, none, some 5] [4, 5] rfl rfl (fun K hK => ?_)
        simp (maxSteps := 9000000) only [push_cast, Nat.reduceBNe, Nat.reduceBEq, Int.reduceBNe, Int.reduceBEq, UInt32.reduceToNat, UInt8.reduceToNat, UInt64.reduceToNat, ↓reduceIte, reduceCtorEq, Nat.reduceEqDiff, Nat.reduceAdd, Nat.reduceLeDiff, Nat.reduceLT, Nat.reduceSub, Int.reduceEq, Int.reduceNe, Int.reduceLT, Int.reduceLE, Int.reduceAdd, Int.reduceSub, Int.reduceMul, Int.reduceNeg, Int.reduceToNat, Nat.reduceMul]
        refine hK _ ?_; clear hK K
        refine VC.sub (Sub.looseB (b := 1) (j := 4) rfl rfl) ?_
        simp (maxSteps := 9000000) only [push_cast, Nat.reduceBNe, Nat.reduceBEq, Int.reduceBNe, Int.reduceBEq, UInt32.reduceToNat, UInt8.reduceToNat, UInt64.reduceToNat, ↓reduceIte, reduceCtorEq, Nat.reduceEqDiff, Nat.reduceAdd, Nat.reduceLeDiff, Nat.reduceLT, Nat.reduceSub, Int.reduceEq, Int.reduceNe, Int.reduceLT, Int.reduceLE, Int.reduceAdd, Int.reduceSub, Int.reduceMul, Int.reduceNeg, Int.reduceToNat, Nat.reduceMul]
        refine VC.ret ?_
        refine Post.ret ?_ ?_ ?_
        · simp (maxSteps := 9000000) only [push_cast, Nat.reduceBNe, Nat.reduceBEq, Int.reduceBNe, Int.reduceBEq, UInt32.reduceToNat, UInt8.reduceToNat, UInt64.reduceToNat, ↓reduceIte, reduceCtorEq, Nat.reduceEqDiff, Nat.reduceAdd, Nat.reduceLeDiff, Nat.reduceLT, Nat.reduceSub, Int.reduceEq, Int.reduceNe, Int.reduceLT, Int.reduceLE, Int.reduceAdd, Int.reduceSub, Int.reduceMul, Int.reduceNeg, Int.reduceToNat, Nat.reduceMul, Tab.zero]
        · simp (maxSteps := 9000000) only [push_cast, Nat.reduceBNe, Nat.reduceBEq, Int.reduceBNe, Int.reduceBEq, UInt32.reduceToNat, UInt8.reduceToNat, UInt64.reduceToNat, ↓reduceIte, reduceCtorEq, Nat.reduceEqDiff, Nat.reduceAdd, Nat.reduceLeDiff, Nat.reduceLT, Nat.reduceSub, Int.reduceEq, Int.reduceNe, Int.reduceLT, Int.reduceLE, Int.reduceAdd, Int.reduceSub, Int.reduceMul, Int.reduceNeg, Int.reduceToNat, Nat.reduceMul]
        · rfl
      · exact absurd hc2 (by simp [hc])
theorem push_ctr (f : Bool) (t : Tab) (v : Nat) (hx : t.next < 4294967296) (hl0 : okEs t.e) (hv : v < 4294967296) : Ctr prog 27 [avTab f t, .raw (.int .u32 (v : Int))] [] (.tup [avTab false (t.push v).1, .raw (.int .i64 (t.push v).2)]) [] := by
  cases hm : t.may with
  | false => exact push_may f t v hx hl0 hv hm
  | true =>
    by_cases hk : t.s.kind = 3
    · by_cases hc : (t.e.length : Int) = t.s.cap
      · exact push_full f t v hx hl0 hv hm hk hc
      · exact push_ok f t v hx hl0 hv hm hk hc
    · exact push_kind f t v hx hl0 hv hm hk
end Go.Proofs.Ytpmnchgpbojppaa

/- table.Pop, walked by the abstract machine. -/
set_option linter.unusedVariables false
set_option linter.unusedSimpArgs false
namespace Go.Proofs.Ytpmnchgpbojppaa
open Go Go.RowKit Go.Proofs.Try
def Tab.pop (t : Tab) : Tab × Nat × Bool :=
  if t.may = false ∨ t.s.kind ≠ 3 ∨ t.e.length = 0 then (t, 0, false)
  else ({ t with e := t.e.drop 1 }, t.word 0 0, true)
set_option maxHeartbeats 4000000 in
set_option maxRecDepth 100000 in
theorem pop_ok (f : Bool) (t : Tab) (hx : t.next < 4294967296) (hl0 : okEs t.e) (hfit : fits t.e) (hm : t.may = true) (hk : t.s.kind = 3) (hn : t.e.length ≠ 0) : Ctr prog 28 [avTab f t] [] (.tup [avTab false t.pop.1, .raw (.int .u32 (t.pop.2.1 : Int)), .raw (.bool t.pop.2.2)]) [] := by
  have hk2 : (t.s.kind != 3) = false := by simp [hk]
  have hl2 : ((t.e.length : Int) == 0) = false := by rw [beq_eq_false_iff_ne]; omega
  have hlt : 0 < t.e.length := by omega
  obtain ⟨e, he⟩ : ∃ e, t.e[0]? = some e := ⟨_, List.getElem?_eq_getElem hlt⟩
  have hw := ((t.elOk_iff 0 e).1 ((t.may_iff.1 hm).2 0 e he)).1
  have hb := Sch.may_bounds (Tab.may_sch hm)
  have hlv : 0 < e.v.length := by omega
  obtain ⟨x, hxv⟩ : ∃ x, e.v[0]? = some x := ⟨_, List.getElem?_eq_getElem hlv⟩
  have hcut : List.drop 1 (List.take t.e.length (t.e.map encEnt)) = (t.e.drop 1).map encEnt := by
    rw [List.take_of_length_le (by simp), List.map_drop]
  have hltI : (0 : Int) < (t.e.length : Int) := by omega
  have hlvI : (0 : Int) < (e.v.length : Int) := by omega
  have hpop : t.pop = ({ t with e := t.e.drop 1 }, x, true) := by
    unfold Tab.pop
    rw [if_neg (by simp [hm, hk, hn])]
    simp [Tab.word, he, hxv]
  rw [hpop]
  refine Ctr.of tabOk func28 rfl call28 0 _ ntmps28 [.cell 2 27, .tmp 3, .tmp 4] rfl rfl rfl (fun B => ?_)
  refine VC.seqR tabOk [some 1, some 2, some 3, some 4] [1, 2] rfl rfl (fun K hK => ?_)
  simp (maxSteps := 9000000) only [push_cast, Nat.reduceBNe, Nat.reduceBEq, Int.reduceBNe, Int.reduceBEq, UInt32.reduceToNat, UInt8.reduceToNat, UInt64.reduceToNat, ↓reduceIte, reduceCtorEq, Nat.reduceEqDiff, Nat.reduceAdd, Nat.reduceLeDiff, Nat.reduceLT, Nat.reduceSub, Int.reduceEq, Int.reduceNe, Int.reduceLT, Int.reduceLE, Int.reduceAdd, Int.reduceSub, Int.reduceMul, Int.reduceNeg, Int.reduceToNat, Nat.reduceMul]
  refine hK _ ?_; clear hK K
  refine VC.seqR tabOk [some 7, some 8, some 5, none] [1, 2, 5] rfl rfl (fun K hK => ?_)
  simp (maxSteps := 9000000) only [push_cast, Nat.reduceBNe, Nat.reduceBEq, Int.reduceBNe, Int.reduceBEq, UInt32.reduceToNat, UInt8.reduceToNat, UInt64.reduceToNat, ↓reduceIte, reduceCtorEq, Nat.reduceEqDiff, Nat.reduceAdd, Nat.reduceLeDiff, Nat.reduceLT, Nat.reduceSub, Int.reduceEq, Int.reduceNe, Int.reduceLT, Int.reduceLE, Int.reduceAdd, Int.reduceSub, Int.reduceMul, Int.reduceNeg, Int.reduceToNat, Nat.reduceMul]
  refine callP (own_ctr f t hfit hl0) rfl ?_
  simp (maxSteps := 9000000) only [push_cast, Nat.reduceBNe, Nat.reduceBEq, Int.reduceBNe, Int.reduceBEq, UInt32.reduceToNat, UInt8.reduceToNat, UInt64.reduceToNat, ↓reduceIte, reduceCtorEq, Nat.reduceEqDiff, Nat.reduceAdd, Nat.reduceLeDiff, Nat.reduceLT, Nat.reduceSub, Int.reduceEq, Int.reduceNe, Int.reduceLT, Int.reduceLE, Int.reduceAdd, Int.reduceSub, Int.reduceMul, Int.reduceNeg, Int.reduceToNat, Nat.reduceMul]
  refine hK _ ?_; clear hK K
  refine VC.seq ?_
  refine VC.seqR tabOk [some 9, some 10, some 11, some 12, some 13, some 14, some 15, some 16, some 17, some 18, some 19, some 20, some 21, some 22, some 23] [2, 5, 23] rfl rfl (fun K hK => ?_)
  simp (maxSteps := 9000000) only [push_cast, Nat.reduceBNe, Nat.reduceBEq, Int.reduceBNe, Int.reduceBEq, UInt32.reduceToNat, UInt8.reduceToNat, UInt64.reduceToNat, ↓reduceIte, reduceCtorEq, Nat.reduceEqDiff, Nat.reduceAdd, Nat.reduceLeDiff, Nat.reduceLT, Nat.reduceSub, Int.reduceEq, Int.reduceNe, Int.reduceLT, Int.reduceLE, Int.reduceAdd, Int.reduceSub, Int.reduceMul, Int.reduceNeg, Int.reduceToNat, Nat.reduceMul, hk2, hl2]
  refine callP (may_ctr f t hx hl0) rfl ?_
  simp (maxSteps := 9000000) only [push_cast, Nat.reduceBNe, Nat.reduceBEq, Int.reduceBNe, Int.reduceBEq, UInt32.reduceToNat, UInt8.reduceToNat, UInt64.reduceToNat, ↓reduceIte, reduceCtorEq, Nat.reduceEqDiff, Nat.reduceAdd, Nat.reduceLeDiff, Nat.reduceLT, Nat.reduceSub, Int.reduceEq, Int.reduceNe, Int.reduceLT, Int.reduceLE, Int.reduceAdd, Int.reduceSub, Int.reduceMul, Int.reduceNeg, Int.reduceToNat, Nat.reduceMul, hk2, hl2, hm, hk2, hl2]
  refine hK _ ?_; clear hK K
  refine VC.cond rfl rfl (fun hc0 => ?_) (fun hc0 => ?_)
  · exact absurd hc0 (by simp)
  · refine VC.skip ?_
    refine VC.seqR tabOk [some 25, some 26, some 27, some 28, some 29, some 30, some 31, some 6] [2, 5, 6] rfl rfl (fun K hK => ?_)
    simp (maxSteps := 9000000) only [push_cast, Nat.reduceBNe, Nat.reduceBEq, Int.reduceBNe, Int.reduceBEq, UInt32.reduceToNat, UInt8.reduceToNat, UInt64.reduceToNat, ↓reduceIte, reduceCtorEq, Nat.reduceEqDiff, Nat.reduceAdd, Nat.reduceLeDiff, Nat.reduceLT, Nat.reduceSub, Int.reduceEq, Int.reduceNe, Int.reduceLT, Int.reduceLE, Int.reduceAdd, Int.reduceSub, Int.reduceMul, Int.reduceNeg, Int.reduceToNat, Nat.reduceMul, he, hxv]
    refine ⟨by omega, by omega, by omega, by omega, ?_⟩
    refine hK _ ?_; clear hK K
    refine VC.seqR tabOk [some 32, some 33, some 34, some 35, none] [2, 5, 6] rfl rfl (fun K hK => ?_)
    simp (maxSteps := 9000000) only [push_cast, Nat.reduceBNe, Nat.reduceBEq, Int.reduceBNe, Int.reduceBEq, UInt32.reduceToNat, UInt8.reduceToNat, UInt64.reduceToNat, ↓reduceIte, reduceCtorEq, Nat.reduceEqDiff, Nat.reduceAdd, Nat.reduceLeDiff, Nat.reduceLT, Nat.reduceSub, Int.reduceEq, Int.reduceNe, Int.reduceLT, Int.reduceLE, Int.reduceAdd, Int.reduceSub, Int.reduceMul, Int.reduceNeg, Int.reduceToNat, Nat.reduceMul]
    refine ⟨by omega, ?_⟩
    refine hK _ ?_; clear hK K
    refine VC.seqR tabOk [some 36, some 37, none, some 3, some 4] [2, 3, 4] rfl rfl (fun K hK => ?_)
    simp (maxSteps := 9000000) only [push_cast, Nat.reduceBNe, Nat.reduceBEq, Int.reduceBNe, Int.reduceBEq, UInt32.reduceToNat, UInt8.reduceToNat, UInt64.reduceToNat, ↓reduceIte, reduceCtorEq, Nat.reduceEqDiff, Nat.reduceAdd, Nat.reduceLeDiff, Nat.reduceLT, Nat.reduceSub, Int.reduceEq, Int.reduceNe, Int.reduceLT, Int.reduceLE, Int.reduceAdd, Int.reduceSub, Int.reduceMul, Int.reduceNeg, Int.reduceToNat, Nat.reduceMul]
    refine hK _ ?_; clear hK K
    refine VC.ret ?_
    refine Post.ret ?_ ?_ ?_
    · simp (maxSteps := 9000000) only [push_cast, Nat.reduceBNe, Nat.reduceBEq, Int.reduceBNe, Int.reduceBEq, UInt32.reduceToNat, UInt8.reduceToNat, UInt64.reduceToNat, ↓reduceIte, reduceCtorEq, Nat.reduceEqDiff, Nat.reduceAdd, Nat.reduceLeDiff, Nat.reduceLT, Nat.reduceSub, Int.reduceEq, Int.reduceNe, Int.reduceLT, Int.reduceLE, Int.reduceAdd, Int.reduceSub, Int.reduceMul, Int.reduceNeg, Int.reduceToNat, Nat.reduceMul, hcut]
    · simp (maxSteps := 9000000) only [push_cast, Nat.reduceBNe, Nat.reduceBEq, Int.reduceBNe, Int.reduceBEq, UInt32.reduceToNat, UInt8.reduceToNat, UInt64.reduceToNat, ↓reduceIte, reduceCtorEq, Nat.reduceEqDiff, Nat.reduceAdd, Nat.reduceLeDiff, Nat.reduceLT, Nat.reduceSub, Int.reduceEq, Int.reduceNe, Int.reduceLT, Int.reduceLE, Int.reduceAdd, Int.reduceSub, Int.reduceMul, Int.reduceNeg, Int.reduceToNat, Nat.reduceMul]
    · rfl
set_option maxHeartbeats 4000000 in
set_option maxRecDepth 100000 in
theorem pop_may (f : Bool) (t : Tab) (hx : t.next < 4294967296) (hl0 : okEs t.e) (hfit : fits t.e) (hm : t.may = false) : Ctr prog 28 [avTab f t] [] (.tup [avTab false t.pop.1, .raw (.int .u32 (t.pop.2.1 : Int)), .raw (.bool t.pop.2.2)]) [] := by
  have hpop : t.pop = (t, 0, false) := by
    unfold Tab.pop
    rw [if_pos (Or.inl hm)]
  rw [hpop]
  have h0 := hx
  refine Ctr.of tabOk func28 rfl call28 0 _ ntmps28 [.cell 2 27, .tmp 3, .tmp 4] rfl rfl rfl (fun B => ?_)
  refine VC.seqR tabOk [some 1, some 2, some 3, some 4] [1, 2] rfl rfl (fun K hK => ?_)
  simp (maxSteps := 9000000) only [push_cast, Nat.reduceBNe, Nat.reduceBEq, Int.reduceBNe, Int.reduceBEq, UInt32.reduceToNat, UInt8.reduceToNat, UInt64.reduceToNat, ↓reduceIte, reduceCtorEq, Nat.reduceEqDiff, Nat.reduceAdd, Nat.reduceLeDiff, Nat.reduceLT, Nat.reduceSub, Int.reduceEq, Int.reduceNe, Int.reduceLT, Int.reduceLE, Int.reduceAdd, Int.reduceSub, Int.reduceMul, Int.reduceNeg, Int.reduceToNat, Nat.reduceMul]
  refine hK _ ?_; clear hK K
  refine VC.seqR tabOk [some 7, some 8, some 5, none] [1, 2, 5] rfl rfl (fun K hK => ?_)
  simp (maxSteps := 9000000) only [push_cast, Nat.reduceBNe, Nat.reduceBEq, Int.reduceBNe, Int.reduceBEq, UInt32.reduceToNat, UInt8.reduceToNat, UInt64.reduceToNat, ↓reduceIte, reduceCtorEq, Nat.reduceEqDiff, Nat.reduceAdd, Nat.reduceLeDiff, Nat.reduceLT, Nat.reduceSub, Int.reduceEq, Int.reduceNe, Int.reduceLT, Int.reduceLE, Int.reduceAdd, Int.reduceSub, Int.reduceMul, Int.reduceNeg, Int.reduceToNat, Nat.reduceMul]
  refine callP (own_ctr f t hfit hl0) rfl ?_
  simp (maxSteps := 9000000) only [push_cast, Nat.reduceBNe, Nat.reduceBEq, Int.reduceBNe, Int.reduceBEq, UInt32.reduceToNat, UInt8.reduceToNat, UInt64.reduceToNat, ↓reduceIte, reduceCtorEq, Nat.reduceEqDiff, Nat.reduceAdd, Nat.reduceLeDiff, Nat.reduceLT, Nat.reduceSub, Int.reduceEq, Int.reduceNe, Int.reduceLT, Int.reduceLE, Int.reduceAdd, Int.reduceSub, Int.reduceMul, Int.reduceNeg, Int.reduceToNat, Nat.reduceMul]
  refine hK _ ?_; clear hK K
  refine VC.seq ?_
  refine VC.seqR tabOk [some 9, some 10, some 11, some 12, some 13, some 14, some 15, some 16, some 17, some 18, some 19, some 20, some 21, some 22, some 23] [2, 5, 23] rfl rfl (fun K hK => ?_)
  simp (maxSteps := 9000000) only [push_cast, Nat.reduceBNe, Nat.reduceBEq, Int.reduceBNe, Int.reduceBEq, UInt32.reduceToNat, UInt8.reduceToNat, UInt64.reduceToNat, ↓reduceIte, reduceCtorEq, Nat.reduceEqDiff, Nat.reduceAdd, Nat.reduceLeDiff, Nat.reduceLT, Nat.reduceSub, Int.reduceEq, Int.reduceNe, Int.reduceLT, Int.reduceLE, Int.reduceAdd, Int.reduceSub, Int.reduceMul, Int.reduceNeg, Int.reduceToNat, Nat.reduceMul, h0]
  refine callP (may_ctr f t hx hl0) rfl ?_
  simp (maxSteps := 9000000) only [push_cast, Nat.reduceBNe, Nat.reduceBEq, Int.reduceBNe, Int.reduceBEq, UInt32.reduceToNat, UInt8.reduceToNat, UInt64.reduceToNat, ↓reduceIte, reduceCtorEq, Nat.reduceEqDiff, Nat.reduceAdd, Nat.reduceLeDiff, Nat.reduceLT, Nat.reduceSub, Int.reduceEq, Int.reduceNe, Int.reduceLT, Int.reduceLE, Int.reduceAdd, Int.reduceSub, Int.reduceMul, Int.reduceNeg, Int.reduceToNat, Nat.reduceMul, h0, h0, hm]
  refine hK _ ?_; clear hK K
  refine VC.cond rfl rfl (fun hc0 => ?_) (fun hc0 => ?_)
  · refine VC.seqR tabOk [some 24, none, some 3, some 4] [2, 3, 4] rfl rfl (fun K hK => ?_)
    simp (maxSteps := 9000000) only [push_cast, Nat.reduceBNe, Nat.reduceBEq, Int.reduceBNe, Int.reduceBEq, UInt32.reduceToNat, UInt8.reduceToNat, UInt64.reduceToNat, ↓reduceIte, reduceCtorEq, Nat.reduceEqDiff, Nat.reduceAdd, Nat.reduceLeDiff, Nat.reduceLT, Nat.reduceSub, Int.reduceEq, Int.reduceNe, Int.reduceLT, Int.reduceLE, Int.reduceAdd, Int.reduceSub, Int.reduceMul, Int.reduceNeg, Int.reduceToNat, Nat.reduceMul]
    refine hK _ ?_; clear hK K
    refine VC.ret ?_
    refine Post.ret ?_ ?_ ?_
    · simp (maxSteps := 9000000) only [push_cast, Nat.reduceBNe, Nat.reduceBEq, Int.reduceBNe, Int.reduceBEq, UInt32.reduceToNat, UInt8.reduceToNat, UInt64.reduceToNat, ↓reduceIte, reduceCtorEq, Nat.reduceEqDiff, Nat.reduceAdd, Nat.reduceLeDiff, Nat.reduceLT, Nat.reduceSub, Int.reduceEq, Int.reduceNe, Int.reduceLT, Int.reduceLE, Int.reduceAdd, Int.reduceSub, Int.reduceMul, Int.reduceNeg, Int.reduceToNat, Nat.reduceMul]
    · simp (maxSteps := 9000000) only [push_cast, Nat.reduceBNe, Nat.reduceBEq, Int.reduceBNe, Int.reduceBEq, UInt32.reduceToNat, UInt8.reduceToNat, UInt64.reduceToNat, ↓reduceIte, reduceCtorEq, Nat.reduceEqDiff, Nat.reduceAdd, Nat.reduceLeDiff, Nat.reduceLT, Nat.reduceSub, Int.reduceEq, Int.reduceNe, Int.reduceLT, Int.reduceLE, Int.reduceAdd, Int.reduceSub, Int.reduceMul, Int.reduceNeg, Int.reduceToNat, Nat.reduceMul]
    · rfl
  · exact absurd hc0 (by simp)
set_option maxHeartbeats 4000000 in
set_option maxRecDepth 100000 in
theorem pop_kind (f : Bool) (t : Tab) (hx : t.next < 4294967296) (hl0 : okEs t.e) (hfit : fits t.e) (hm : t.may = true) (hk : t.s.kind ≠ 3) : Ctr prog 28 [avTab f t] [] (.tup [avTab false t.pop.1, .raw (.int .u32 (t.pop.2.1 : Int)), .raw (.bool t.pop.2.2)]) [] := by
  have hpop : t.pop = (t, 0, false) := by
    unfold Tab.pop
    rw [if_pos (Or.inr (Or.inl hk))]
  rw [hpop]
  have hk2 : (t.s.kind != 3) = true := by simp [hk]
  refine Ctr.of tabOk func28 rfl call28 0 _ ntmps28 [.cell 2 27, .tmp 3, .tmp 4] rfl rfl rfl (fun B => ?_)
  refine VC.seqR tabOk [some 1, some 2, some 3, some 4] [1, 2] rfl rfl (fun K hK => ?_)
  simp (maxSteps := 9000000) only [push_cast, Nat.reduceBNe, Nat.reduceBEq, Int.reduceBNe, Int.reduceBEq, UInt32.reduceToNat, UInt8.reduceToNat, UInt64.reduceToNat, ↓reduceIte, reduceCtorEq, Nat.reduceEqDiff, Nat.reduceAdd, Nat.reduceLeDiff, Nat.reduceLT, Nat.reduceSub, Int.reduceEq, Int.reduceNe, Int.reduceLT, Int.reduceLE, Int.reduceAdd, Int.reduceSub, Int.reduceMul, Int.reduceNeg, Int.reduceToNat, Nat.reduceMul]
  refine hK _ ?_; clear hK K
  refine VC.seqR tabOk [some 7, some 8, some 5, none] [1, 2, 5] rfl rfl (fun K hK => ?_)
  simp (maxSteps := 9000000) only [push_cast, Nat.reduceBNe, Nat.reduceBEq, Int.reduceBNe, Int.reduceBEq, UInt32.reduceToNat, UInt8.reduceToNat, UInt64.reduceToNat, ↓reduceIte, reduceCtorEq, Nat.reduceEqDiff, Nat.reduceAdd, Nat.reduceLeDiff, Nat.reduceLT, Nat.reduceSub, Int.reduceEq, Int.reduceNe, Int.reduceLT, Int.reduceLE, Int.reduceAdd, Int.reduceSub, Int.reduceMul, Int.reduceNeg, Int.reduceToNat, Nat.reduceMul]
  refine callP (own_ctr f t hfit hl0) rfl ?_
  simp (maxSteps := 9000000) only [push_cast, Nat.reduceBNe, Nat.reduceBEq, Int.reduceBNe, Int.reduceBEq, UInt32.reduceToNat, UInt8.reduceToNat, UInt64.reduceToNat, ↓reduceIte, reduceCtorEq, Nat.reduceEqDiff, Nat.reduceAdd, Nat.reduceLeDiff, Nat.reduceLT, Nat.reduceSub, Int.reduceEq, Int.reduceNe, Int.reduceLT, Int.reduceLE, Int.reduceAdd, Int.reduceSub, Int.reduceMul, Int.reduceNeg, Int.reduceToNat, Nat.reduceMul]
  refine hK _ ?_; clear hK K
  refine VC.seq ?_
  refine VC.seqR tabOk [some 9, some 10, some 11, some 12, some 13, some 14, some 15, some 16, some 17, some 18, some 19, some 20, some 21, some 22, some 23] [2, 5, 23] rfl rfl (fun K hK => ?_)
  simp (maxSteps := 9000000) only [push_cast, Nat.reduceBNe, Nat.reduceBEq, Int.reduceBNe, Int.reduceBEq, UInt32.reduceToNat, UInt8.reduceToNat, UInt64.reduceToNat, ↓reduceIte, reduceCtorEq, Nat.reduceEqDiff, Nat.reduceAdd, Nat.reduceLeDiff, Nat.reduceLT, Nat.reduceSub, Int.reduceEq, Int.reduceNe, Int.reduceLT, Int.reduceLE, Int.reduceAdd, Int.reduceSub, Int.reduceMul, Int.reduceNeg, Int.reduceToNat, Nat.reduceMul, hk2]
  refine callP (may_ctr f t hx hl0) rfl ?_
  simp (maxSteps := 9000000) only [push_cast, Nat.reduceBNe, Nat.reduceBEq, Int.reduceBNe, Int.reduceBEq, UInt32.reduceToNat, UInt8.reduceToNat, UInt64.reduceToNat, ↓reduceIte, reduceCtorEq, Nat.reduceEqDiff, Nat.reduceAdd, Nat.reduceLeDiff, Nat.reduceLT, Nat.reduceSub, Int.reduceEq, Int.reduceNe, Int.reduceLT, Int.reduceLE, Int.reduceAdd, Int.reduceSub, Int.reduceMul, Int.reduceNeg, Int.reduceToNat, Nat.reduceMul, hk2, hk2, hm]
  refine hK _ ?_; clear hK K
  refine VC.cond rfl rfl (fun hc0 => ?_) (fun hc0 => ?_)
  · refine VC.seqR tabOk [some 24, none, some 3, some 4] [2, 3, 4] rfl rfl (fun K hK => ?_)
    simp (maxSteps := 9000000) only [push_cast, Nat.reduceBNe, Nat.reduceBEq, Int.reduceBNe, Int.reduceBEq, UInt32.reduceToNat, UInt8.reduceToNat, UInt64.reduceToNat, ↓reduceIte, reduceCtorEq, Nat.reduceEqDiff, Nat.reduceAdd, Nat.reduceLeDiff, Nat.reduceLT, Nat.reduceSub, Int.reduceEq, Int.reduceNe, Int.reduceLT, Int.reduceLE, Int.reduceAdd, Int.reduceSub, Int.reduceMul, Int.reduceNeg, Int.reduceToNat, Nat.reduceMul]
    refine hK _ ?_; clear hK K
    refine VC.ret ?_
    refine Post.ret ?_ ?_ ?_
    · simp (maxSteps := 9000000) only [push_cast, Nat.reduceBNe, Nat.reduceBEq, Int.reduceBNe, Int.reduceBEq, UInt32.reduceToNat, UInt8.reduceToNat, UInt64.reduceToNat, ↓reduceIte, reduceCtorEq, Nat.reduceEqDiff, Nat.reduceAdd, Nat.reduceLeDiff, Nat.reduceLT, Nat.reduceSub, Int.reduceEq, Int.reduceNe, Int.reduceLT, Int.reduceLE, Int.reduceAdd, Int.reduceSub, Int.reduceMul, Int.reduceNeg, Int.reduceToNat, Nat.reduceMul]
    · simp (maxSteps := 9000000) only [push_cast, Nat.reduceBNe, Nat.reduceBEq, Int.reduceBNe, Int.reduceBEq, UInt32.reduceToNat, UInt8.reduceToNat, UInt64.reduceToNat, ↓reduceIte, reduceCtorEq, Nat.reduceEqDiff, Nat.reduceAdd, Nat.reduceLeDiff, Nat.reduceLT, Nat.reduceSub, Int.reduceEq, Int.reduceNe, Int.reduceLT, Int.reduceLE, Int.reduceAdd, Int.reduceSub, Int.reduceMul, Int.reduceNeg, Int.reduceToNat, Nat.reduceMul]
    · rfl
  · exact absurd hc0 (by simp)
set_option maxHeartbeats 4000000 in
set_option maxRecDepth 100000 in
theorem pop_none (f : Bool) (t : Tab) (hx : t.next < 4294967296) (hl0 : okEs t.e) (hfit : fits t.e) (hm : t.may = true) (hk : t.s.kind = 3) (hn : t.e.length = 0) : Ctr prog 28 [avTab f t] [] (.tup [avTab false t.pop.1, .raw (.int .u32 (t.pop.2.1 : Int)), .raw (.bool t.pop.2.2)]) [] := by
  have hpop : t.pop = (t, 0, false) := by
    unfold Tab.pop
    rw [if_pos (Or.inr (Or.inr hn))]
  rw [hpop]
  have hk2 : (t.s.kind != 3) = false := by simp [hk]
  have hl2 : ((t.e.length : Int) == 0) = true := by rw [hn]; rfl
  refine Ctr.of tabOk func28 rfl call28 0 _ ntmps28 [.cell 2 27, .tmp 3, .tmp 4] rfl rfl rfl (fun B => ?_)
  refine VC.seqR tabOk [some 1, some 2, some 3, some 4] [1, 2] rfl rfl (fun K hK => ?_)
  simp (maxSteps := 9000000) only [push_cast, Nat.reduceBNe, Nat.reduceBEq, Int.reduceBNe, Int.reduceBEq, UInt32.reduceToNat, UInt8.reduceToNat, UInt64.reduceToNat, ↓reduceIte, reduceCtorEq, Nat.reduceEqDiff, Nat.reduceAdd, Nat.reduceLeDiff, Nat.reduceLT, Nat.reduceSub, Int.reduceEq, Int.reduceNe, Int.reduceLT, Int.reduceLE, Int.reduceAdd, Int.reduceSub, Int.reduceMul, Int.reduceNeg, Int.reduceToNat, Nat.reduceMul]
  refine hK _ ?_; clear hK K
  refine VC.seqR tabOk [some 7, some 8, some 5, none] [1, 2, 5] rfl rfl (fun K hK => ?_)
  simp (maxSteps := 9000000) only [push_cast, Nat.reduceBNe, Nat.reduceBEq, Int.reduceBNe, Int.reduceBEq, UInt32.reduceToNat, UInt8.reduceToNat, UInt64.reduceToNat, ↓reduceIte, reduceCtorEq, Nat.reduceEqDiff, Nat.reduceAdd, Nat.reduceLeDiff, Nat.reduceLT, Nat.reduceSub, Int.reduceEq, Int.reduceNe, Int.reduceLT, Int.reduceLE, Int.reduceAdd, Int.reduceSub, Int.reduceMul, Int.reduceNeg, Int.reduceToNat, Nat.reduceMul]
  refine callP (own_ctr f t hfit hl0) rfl ?_
  simp (maxSteps := 9000000) only [push_cast, Nat.reduceBNe, Nat.reduceBEq, Int.reduceBNe, Int.reduceBEq, UInt32.reduceToNat, UInt8.reduceToNat, UInt64.reduceToNat, ↓reduceIte, reduceCtorEq, Nat.reduceEqDiff, Nat.reduceAdd, Nat.reduceLeDiff, Nat.reduceLT, Nat.reduceSub, Int.reduceEq, Int.reduceNe, Int.reduceLT, Int.reduceLE, Int.reduceAdd, Int.reduceSub, Int.reduceMul, Int.reduceNeg, Int.reduceToNat, Nat.reduceMul]
  refine hK _ ?_; clear hK K
  refine VC.seq ?_
  refine VC.seqR tabOk [some 9, some 10, some 11, some 12, some 13, some 14, some 15, some 16, some 17, some 18, some 19, some 20, some 21, some 22, some 23] [2, 5, 23] rfl rfl (fun K hK => ?_)
  simp (maxSteps := 9000000) only [push_cast, Nat.reduceBNe, Nat.reduceBEq, Int.reduceBNe, Int.reduceBEq, UInt32.reduceToNat, UInt8.reduceToNat, UInt64.reduceToNat, ↓reduceIte, reduceCtorEq, Nat.reduceEqDiff, Nat.reduceAdd, Nat.reduceLeDiff, Nat.reduceLT, Nat.reduceSub, Int.reduceEq, Int.reduceNe, Int.reduceLT, Int.reduceLE, Int.reduceAdd, Int.reduceSub, Int.reduceMul, Int.reduceNeg, Int.reduceToNat, Nat.reduceMul, hk2, hl2]
  refine callP (may_ctr f t hx hl0) rfl ?_
  simp (maxSteps := 9000000) only [push_cast, Nat.reduceBNe, Nat.reduceBEq, Int.reduceBNe, Int.reduceBEq, UInt32.reduceToNat, UInt8.reduceToNat, UInt64.reduceToNat, ↓reduceIte, reduceCtorEq, Nat.reduceEqDiff, Nat.reduceAdd, Nat.reduceLeDiff, Nat.reduceLT, Nat.reduceSub, Int.reduceEq, Int.reduceNe, Int.reduceLT, Int.reduceLE, Int.reduceAdd, Int.reduceSub, Int.reduceMul, Int.reduceNeg, Int.reduceToNat, Nat.reduceMul, hk2, hl2, hk2, hl2, hm]
  refine hK _ ?_; clear hK K
  refine VC.cond rfl rfl (fun hc0 => ?_) (fun hc0 => ?_)
  · refine VC.seqR tabOk [some 24, none, some 3, some 4] [2, 3, 4] rfl rfl (fun K hK => ?_)
    simp (maxSteps := 9000000) only [push_cast, Nat.reduceBNe, Nat.reduceBEq, Int.reduceBNe, Int.reduceBEq, UInt32.reduceToNat, UInt8.reduceToNat, UInt64.reduceToNat, ↓reduceIte, reduceCtorEq, Nat.reduceEqDiff, Nat.reduceAdd, Nat.reduceLeDiff, Nat.reduceLT, Nat.reduceSub, Int.reduceEq, Int.reduceNe, Int.reduceLT, Int.reduceLE, Int.reduceAdd, Int.reduceSub, Int.reduceMul, Int.reduceNeg, Int.reduceToNat, Nat.reduceMul]
    refine hK _ ?_; clear hK K
    refine VC.ret ?_
    refine Post.ret ?_ ?_ ?_
    · simp (maxSteps := 9000000) only [push_cast, Nat.reduceBNe, Nat.reduceBEq, Int.reduceBNe, Int.reduceBEq, UInt32.reduceToNat, UInt8.reduceToNat, UInt64.reduceToNat, ↓reduceIte, reduceCtorEq, Nat.reduceEqDiff, Nat.reduceAdd, Nat.reduceLeDiff, Nat.reduceLT, Nat.reduceSub, Int.reduceEq, Int.reduceNe, Int.reduceLT, Int.reduceLE, Int.reduceAdd, Int.reduceSub, Int.reduceMul, Int.reduceNeg, Int.reduceToNat, Nat.reduceMul]
    · simp (maxSteps := 9000000) only [push_cast, Nat.reduceBNe, Nat.reduceBEq, Int.reduceBNe, Int.reduceBEq, UInt32.reduceToNat, UInt8.reduceToNat, UInt64.reduceToNat, ↓reduceIte, reduceCtorEq, Nat.reduceEqDiff, Nat.reduceAdd, Nat.reduceLeDiff, Nat.reduceLT, Nat.reduceSub, Int.reduceEq, Int.reduceNe, Int.reduceLT, Int.reduceLE, Int.reduceAdd, Int.reduceSub, Int.reduceMul, Int.reduceNeg, Int.reduceToNat, Nat.reduceMul]
    · rfl
  · exact absurd hc0 (by simp)
theorem pop_ctr (f : Bool) (t : Tab) (hx : t.next < 4294967296) (hl0 : okEs t.e) (hfit : fits t.e) : Ctr prog 28 [avTab f t] [] (.tup [avTab false t.pop.1, .raw (.int .u32 (t.pop.2.1 : Int)), .raw (.bool t.pop.2.2)]) [] := by
  cases hm : t.may with
  | false => exact pop_may f t hx hl0 hfit hm
  | true =>
    by_cases hk : t.s.kind = 3
    · by_cases hn : t.e.length = 0
      · exact pop_none f t hx hl0 hfit hm hk hn
      · exact pop_ok f t hx hl0 hfit hm hk hn
    · exact pop_kind f t hx hl0 hfit hm hk
end Go.Proofs.Ytpmnchgpbojppaa

/- Tables as Go types and as plain tables: what was proved of the ones, of the others. -/
set_option linter.unusedVariables false
namespace Go.Proofs.Ytpmnchgpbojppaa
open Go Go.RowKit Go.Proofs.Try

def toS (s : T_Schema) : Sch := ⟨s.Kind, s.Cap, s.Words, s.Ver⟩
def ofS (s : Sch) : T_Schema := ⟨s.kind, s.cap, s.words, s.ver⟩
def toE (e : T_Entry) : Ent := ⟨e.Key.toNat, e.V.map UInt32.toNat⟩
def ofE (e : Ent) : T_Entry := ⟨UInt32.ofNat e.key, e.v.map UInt32.ofNat⟩
def toT (t : T_Table) : Tab := ⟨toS t.S, t.E.map toE, t.Next.toNat⟩
def ofT (t : Tab) : T_Table := ⟨ofS t.s, t.e.map ofE, UInt32.ofNat t.next⟩
theorem to_of32 {n : Nat} (h : n < 4294967296) : (UInt32.ofNat n).toNat = n := by
  show n % 4294967296 = n
  exact Nat.mod_eq_of_lt h
theorem lt32_to (l : List UInt32) : lt32 (l.map UInt32.toNat) := fun x hx => by
  obtain ⟨y, _, rfl⟩ := List.mem_map.1 hx
  exact y.toNat_lt
theorem toE_ofE {e : Ent} (h1 : e.key < 4294967296) (h2 : lt32 e.v) : toE (ofE e) = e := by
  obtain ⟨k, v⟩ := e
  simp only [ofE, toE, to_of32 h1, List.map_map, Ent.mk.injEq, true_and]
  conv => rhs; rw [← List.map_id v]
  exact List.map_congr_left fun x hx => to_of32 (h2 x hx)
theorem toS_ofS (s : Sch) : toS (ofS s) = s := rfl
theorem ofS_toS (s : T_Schema) : ofS (toS s) = s := rfl
theorem toT_ofT {t : Tab} (h1 : okEs t.e) (h2 : t.next < 4294967296) : toT (ofT t) = t := by
  obtain ⟨s, e, n⟩ := t
  simp only [ofT, toT, toS_ofS, to_of32 h2, List.map_map, Tab.mk.injEq, true_and, and_true]
  conv => rhs; rw [← List.map_id e]
  exact List.map_congr_left fun x hx => toE_ofE (h1 x hx).1 (h1 x hx).2
theorem ofE_toE (e : T_Entry) : ofE (toE e) = e := by
  obtain ⟨k, v⟩ := e
  simp only [ofE, toE, List.map_map, T_Entry.mk.injEq]
  refine ⟨UInt32.ofNat_toNat, ?_⟩
  conv => rhs; rw [← List.map_id v]
  exact List.map_congr_left fun x hx => UInt32.ofNat_toNat
theorem ofT_toT (t : T_Table) : ofT (toT t) = t := by
  obtain ⟨s, e, n⟩ := t
  simp only [ofT, toT, ofS_toS, List.map_map, T_Table.mk.injEq, true_and]
  refine ⟨?_, UInt32.ofNat_toNat⟩
  conv => rhs; rw [← List.map_id e]
  exact List.map_congr_left fun x hx => ofE_toE x
theorem toT_inj {t u : T_Table} (h : toT t = toT u) : t = u := by rw [← ofT_toT t, h, ofT_toT]
theorem okEs_to (t : T_Table) : okEs (toT t).e := fun e he => by
  obtain ⟨x, _, rfl⟩ := List.mem_map.1 he
  exact ⟨x.Key.toNat_lt, lt32_to _⟩
theorem next_to (t : T_Table) : (toT t).next < 4294967296 := t.Next.toNat_lt
theorem enc_toE (e : T_Entry) : encEnt (toE e) = enc_Entry e := by
  simp only [encEnt, toE, enc_Entry, List.map_map]
  rfl
theorem av_to (t : T_Table) : avTab false (toT t) = .agg (enc_Table t) := by
  simp only [avTab, cellsTab, toT, toS, enc_Table, List.map_map]
  congr 3
  have : (encEnt ∘ toE) = enc_Entry := funext enc_toE
  rw [this]
theorem av_of {t : Tab} (h1 : okEs t.e) (h2 : t.next < 4294967296) : avTab false t = .agg (enc_Table (ofT t)) := by rw [← av_to, toT_ofT h1 h2]
theorem word_lt {t : Tab} {i f : Nat} (h : okEs t.e) : t.word i f < 4294967296 := by
  unfold Tab.word
  cases he : t.e[i]? with
  | none => exact (by show (0 : Nat) < 4294967296; decide)
  | some e =>
    show (e.v[f]?).getD 0 < 4294967296
    cases hv : e.v[f]? with
    | none => exact (by decide)
    | some x => exact (h e (List.mem_of_getElem? he)).2 x (List.mem_of_getElem? hv)
theorem get_lt32 {t : Tab} {k f : Nat} (h : okEs t.e) : (t.get k f).2.1 < 4294967296 := by
  unfold Tab.get
  split
  · exact word_lt h
  · show (0 : Nat) < 4294967296
    decide
theorem get_next {t : Tab} {k f : Nat} (h : t.next < 4294967296) : (t.get k f).1.next < 4294967296 := by rw [(get_s t k f).2]; exact h
theorem del_next {t : Tab} {k : Nat} (h : t.next < 4294967296) : (t.del k).1.next < 4294967296 := by rw [(del_s t k).2]; exact h
theorem okEs_push {t : Tab} {v : Nat} (h : okEs t.e) (hn : t.next < 4294967296) (hv : v < 4294967296) : okEs (t.push v).1.e := by
  unfold Tab.push
  split
  · exact okEs_nil
  · split
    · exact okEs_nil
    · intro e he
      rcases List.mem_append.1 he with he | he
      · exact h e he
      · rw [List.mem_singleton] at he
        subst he
        exact ⟨hn, fun y hy => by rw [List.mem_singleton] at hy; subst hy; exact hv⟩
theorem push_next {t : Tab} {v : Nat} : (t.push v).1.next < 4294967296 := by
  unfold Tab.push
  split
  · exact (by decide)
  · split
    · exact (by decide)
    · exact Nat.mod_lt _ (by decide)
theorem okEs_pop {t : Tab} (h : okEs t.e) : okEs t.pop.1.e := by
  unfold Tab.pop
  split
  · exact h
  · exact fun e he => h e (List.mem_of_mem_drop he)
theorem pop_next {t : Tab} (h : t.next < 4294967296) : t.pop.1.next < 4294967296 := by
  unfold Tab.pop
  split <;> exact h
theorem pop_lt32 {t : Tab} (h : okEs t.e) : t.pop.2.1 < 4294967296 := by
  unfold Tab.pop
  split
  · show (0 : Nat) < 4294967296
    decide
  · exact word_lt h

instance fitsDec (es : List Ent) : Decidable (fits es) := by
  unfold fits
  infer_instance
def p_table_Get (t : T_Table) (k f : UInt32) : Option (T_Table × UInt32 × Bool) :=
  pg (fits (toT t).e) (some (ofT ((toT t).get k.toNat f.toNat).1, UInt32.ofNat ((toT t).get k.toNat f.toNat).2.1, ((toT t).get k.toNat f.toNat).2.2))
theorem c_table_Get (t : T_Table) (k f : UInt32) {r : T_Table × UInt32 × Bool} (h : p_table_Get t k f = some r) : Ctr prog 22 [.agg (enc_Table t), .raw (.int .u32 (k.toNat : Int)), .raw (.int .u32 (f.toNat : Int))] [] (.tup [.agg (enc_Table r.1), .raw (.int .u32 (r.2.1.toNat : Int)), .raw (.bool r.2.2)]) [] := by
  obtain ⟨hf, h⟩ := pg_some h
  have hr := Option.some.inj h
  subst hr
  have := get_ctr false (toT t) k.toNat f.toNat (next_to t) f.toNat_lt hf (okEs_to t)
  rw [av_to, av_of (okEs_get (okEs_to t)) (get_next (next_to t))] at this
  simp only [to_of32 (get_lt32 (okEs_to t))]
  exact this
def p_table_Set (t : T_Table) (k f v : UInt32) : Option (T_Table × Int) :=
  pg (fits (toT t).e) (some (ofT ((toT t).set k.toNat f.toNat v.toNat).1, ((toT t).set k.toNat f.toNat v.toNat).2))
theorem c_table_Set (t : T_Table) (k f v : UInt32) {r : T_Table × Int} (h : p_table_Set t k f v = some r) : Ctr prog 21 [.agg (enc_Table t), .raw (.int .u32 (k.toNat : Int)), .raw (.int .u32 (f.toNat : Int)), .raw (.int .u32 (v.toNat : Int))] [] (.tup [.agg (enc_Table r.1), .raw (.int .i64 r.2)]) [] := by
  obtain ⟨hf, h⟩ := pg_some h
  have hr := Option.some.inj h
  subst hr
  have := set_ctr false (toT t) k.toNat f.toNat v.toNat (next_to t) f.toNat_lt k.toNat_lt v.toNat_lt hf (okEs_to t)
  rw [av_to, av_of (okEs_set (okEs_to t) k.toNat_lt v.toNat_lt) (set_next (next_to t))] at this
  exact this
def p_table_Del (t : T_Table) (k : UInt32) : Option (T_Table × Bool) :=
  pg (fits (toT t).e) (some (ofT ((toT t).del k.toNat).1, ((toT t).del k.toNat).2))
theorem c_table_Del (t : T_Table) (k : UInt32) {r : T_Table × Bool} (h : p_table_Del t k = some r) : Ctr prog 29 [.agg (enc_Table t), .raw (.int .u32 (k.toNat : Int))] [] (.tup [.agg (enc_Table r.1), .raw (.bool r.2)]) [] := by
  obtain ⟨hf, h⟩ := pg_some h
  have hr := Option.some.inj h
  subst hr
  have := del_ctr false (toT t) k.toNat (next_to t) hf (okEs_to t)
  rw [av_to, av_of (okEs_del (okEs_to t)) (del_next (next_to t))] at this
  exact this
def p_table_Push (t : T_Table) (v : UInt32) : Option (T_Table × Int) := some (ofT ((toT t).push v.toNat).1, ((toT t).push v.toNat).2)
theorem c_table_Push (t : T_Table) (v : UInt32) {r : T_Table × Int} (h : p_table_Push t v = some r) : Ctr prog 27 [.agg (enc_Table t), .raw (.int .u32 (v.toNat : Int))] [] (.tup [.agg (enc_Table r.1), .raw (.int .i64 r.2)]) [] := by
  have hr := Option.some.inj h
  subst hr
  have := push_ctr false (toT t) v.toNat (next_to t) (okEs_to t) v.toNat_lt
  rw [av_to, av_of (okEs_push (okEs_to t) (next_to t) v.toNat_lt) push_next] at this
  exact this
def p_table_Pop (t : T_Table) : Option (T_Table × UInt32 × Bool) := pg (fits (toT t).e) (some (ofT (toT t).pop.1, UInt32.ofNat (toT t).pop.2.1, (toT t).pop.2.2))
theorem c_table_Pop (t : T_Table) {r : T_Table × UInt32 × Bool} (h : p_table_Pop t = some r) : Ctr prog 28 [.agg (enc_Table t)] [] (.tup [.agg (enc_Table r.1), .raw (.int .u32 (r.2.1.toNat : Int)), .raw (.bool r.2.2)]) [] := by
  obtain ⟨hf, h⟩ := pg_some h
  have hr := Option.some.inj h
  subst hr
  have := pop_ctr false (toT t) (next_to t) (okEs_to t) hf
  rw [av_to, av_of (okEs_pop (okEs_to t)) (pop_next (next_to t))] at this
  simp only [to_of32 (pop_lt32 (okEs_to t))]
  exact this
def p_table_May (t : T_Table) : Option Bool := some (toT t).may
theorem c_table_May (t : T_Table) {r : Bool} (h : p_table_May t = some r) : Ctr prog 23 [.agg (enc_Table t)] [] (.raw (.bool r)) [] := by
  have hr := Option.some.inj h
  subst hr
  have := may_ctr false (toT t) (next_to t) (okEs_to t)
  rw [av_to] at this
  exact this
def p_drydockref05_May (t : T_Table) : Option Bool := some (toT t).may
theorem c_drydockref05_May (t : T_Table) {r : Bool} (h : p_drydockref05_May t = some r) : Ctr prog 38 [.agg (enc_Table t)] [] (.raw (.bool r)) [] := by
  have hr := Option.some.inj h
  subst hr
  have := rmay_ctr false (toT t) (next_to t) (okEs_to t)
  rw [av_to] at this
  exact this
theorem same_to (t u : T_Table) : sameB (toT t) (toT u) = decide (t = u) := by
  unfold sameB
  exact decide_eq_decide.2 ⟨toT_inj, fun h => by rw [h]⟩
def p_table_Same (t u : T_Table) : Option Bool := some (decide (t = u))
theorem c_table_Same (t u : T_Table) {r : Bool} (h : p_table_Same t u = some r) : Ctr prog 31 [.agg (enc_Table t), .agg (enc_Table u)] [] (.raw (.bool r)) [] := by
  have hr := Option.some.inj h
  subst hr
  have := same_ctr false false (toT t) (toT u) (okEs_to t) (okEs_to u)
  rw [av_to, av_to, same_to] at this
  exact this
def p_drydockref05_Same (t u : T_Table) : Option Bool := some (decide (t = u))
theorem c_drydockref05_Same (t u : T_Table) {r : Bool} (h : p_drydockref05_Same t u = some r) : Ctr prog 26 [.agg (enc_Table t), .agg (enc_Table u)] [] (.raw (.bool r)) [] := by
  have hr := Option.some.inj h
  subst hr
  have := rsame_ctr false false (toT t) (toT u) (okEs_to t) (okEs_to u)
  rw [av_to, av_to, same_to] at this
  exact this
theorem okEs_new' {s : Sch} : okEs (Tab.new s).1.e := by
  rcases okEs_new (s := s) with h | h
  · exact h
  · have : s.may = false := by
      simp [Sch.may, inB]
      omega
    unfold Tab.new
    rw [if_pos this]
    exact okEs_nil
theorem new_next {s : Sch} : (Tab.new s).1.next < 4294967296 := by
  unfold Tab.new
  split
  · exact (by decide)
  · show (0 : Nat) < 4294967296
    decide
def p_table_New (s : T_Schema) : Option (T_Table × Int) := some (ofT (Tab.new (toS s)).1, (Tab.new (toS s)).2)
theorem c_table_New (s : T_Schema) {r : T_Table × Int} (h : p_table_New s = some r) : Ctr prog 24 [.agg (enc_Schema s)] [] (.tup [.agg (enc_Table r.1), .raw (.int .i64 r.2)]) [] := by
  have hr := Option.some.inj h
  subst hr
  have := new_ctr (toS s)
  rw [av_of okEs_new' new_next] at this
  exact this
def p_drydocklaw05_awake : Option Bool := some true
theorem c_drydocklaw05_awake {r : Bool} (h : p_drydocklaw05_awake = some r) : Ctr prog 19 [] [] (.raw (.bool r)) [] := by
  have hr := Option.some.inj h
  subst hr
  exact awake5_ctr
end Go.Proofs.Ytpmnchgpbojppaa

/- The plain function of drydock/helper.told. -/
set_option linter.unusedVariables false
set_option linter.unusedSimpArgs false
namespace Go.Proofs.Ytpmnchgpbojppaa
open Go Go.RowKit Go.Proofs.Try
noncomputable def p_helper_told (a0 : Bool) : Option (UInt32) :=
  cond a0 (
  some 1) (
  some 0)
set_option maxHeartbeats 4000000 in
set_option maxRecDepth 100000 in
theorem c_helper_told (a0 : Bool) {r : UInt32} (h : p_helper_told a0 = some r) : Ctr prog 83 [.raw (.bool a0)] [] (.raw (.int .u32 (r.toNat : Int))) [] := by
  unfold p_helper_told at h
  refine Ctr.ofW tabOk func83 rfl call83 0 _ ntmps83 [.tmp 2] rfl rfl rfl (fun B => ?_)
  refine VC.seqF tabOkF [some 2] [0] rfl rfl (fun K hK => ?_)
  push_cast
  repeat (refine And.intro (by omega) ?_)
  refine hK _ ?_
  clear hK K
  refine VC.seq ?_
  refine VC.seqF tabOkF [some 3] [3] rfl rfl (fun K hK => ?_)
  push_cast
  repeat (refine And.intro (by omega) ?_)
  refine hK _ ?_
  clear hK K
  refine VC.cond rfl rfl (fun hc1 => ?_) (fun hc1 => ?_)
  · have hb1 : a0 = true := by simpa using hc1
    replace h := cond_yes hb1 h
    refine VC.seqF tabOkF [some 2] [2] rfl rfl (fun K hK => ?_)
    push_cast [hb1]
    repeat (refine And.intro (by omega) ?_)
    refine hK _ ?_
    clear hK K
    refine VC.ret ?_
    have hr := Option.some.inj h
    subst hr
    refine endP (Sub.lo _) (Post.ret ?_ ?_ ?_)
    · push_cast [hb1]
    · push_cast [hb1]
    · rfl
  · have hb1 : a0 = false := by simpa using hc1
    replace h := cond_no hb1 h
    refine VC.skip ?_
    refine VC.seqF tabOkF [some 2] [2] rfl rfl (fun K hK => ?_)
    push_cast [hb1]
    repeat (refine And.intro (by omega) ?_)
    refine hK _ ?_
    clear hK K
    refine VC.ret ?_
    have hr := Option.some.inj h
    subst hr
    refine endP (Sub.lo _) (Post.ret ?_ ?_ ?_)
    · push_cast [hb1]
    · push_cast [hb1]
    · rfl
end Go.Proofs.Ytpmnchgpbojppaa

/- The plain function of   drydock/helper.call .del. -/
set_option linter.unusedVariables false
set_option linter.unusedSimpArgs false
namespace Go.Proofs.Ytpmnchgpbojppaa
open Go Go.RowKit Go.Proofs.Try
noncomputable def p_helper_call_del (a0 : T_helper_call) (a1 : (List UInt32)) : Option (UInt32 × T_helper_call) :=
  po (a1[1]?) fun x1 =>
  po (p_table_Del a0.t x1) fun r2 =>
  po (p_helper_told r2.2) fun r3 =>
  some (r3, (T_helper_call.mk r2.1))
set_option maxHeartbeats 4000000 in
set_option maxRecDepth 100000 in
theorem c_helper_call_del (a0 : T_helper_call) (a1 : (List UInt32)) {r : UInt32 × T_helper_call} (h : p_helper_call_del a0 a1 = some r) : Ctr prog 71 [.ref 0 0, .sl false (a1.map encU32)] [(0, .box 87 (enc_helper_call a0))] (.raw (.int .u32 (r.1.toNat : Int))) [(0, .box 87 (enc_helper_call r.2))] := by
  unfold p_helper_call_del at h
  refine Ctr.ofW tabOk func71 rfl call71 1 _ ntmps71 [.tmp 4] rfl rfl rfl (fun B => ?_)
  refine VC.seqF tabOkF [some 4] [0, 1] rfl rfl (fun K hK => ?_)
  push_cast
  repeat (refine And.intro (by omega) ?_)
  refine hK _ ?_
  clear hK K
  obtain ⟨x1, hx1, h⟩ := po_some h
  have hx11 := get_ltI hx1
  have hx12 := get_lt hx1
  obtain ⟨r2, hr2, h⟩ := po_some h
  refine VC.seqFD tabOkF hmixO [some 8, some 9, some 10, some 11, some 12, some 13, some 14, some 15, some 7, some 16, some 17, some 5, none, some 6] [0, 5, 6] rfl rfl rfl (fun K hK => ?_)
  refine runD_cut 8 (fun K2 hK2 => ?_)
  push_cast [hx1, hx11, hx12]
  repeat (refine And.intro (by omega) ?_)
  refine callPD (Ctr.lo (c_table_Del a0.t x1 hr2)) rfl ?_
  push_cast [hx1, hx11, hx12]
  repeat (refine And.intro (by omega) ?_)
  refine hK2 _ _ _ ?_
  clear hK2 K2
  simp only [List.drop_succ_cons, List.drop_zero]
  push_cast [hx1, hx11, hx12]
  repeat (refine And.intro (by omega) ?_)
  refine ⟨rfl, hK _ ?_⟩
  clear hK K
  refine VC.seqF tabOkF [some 18, some 19, some 20, some 21, none] [6] rfl rfl (fun K hK => ?_)
  push_cast [hx1, hx11, hx12]
  repeat (refine And.intro (by omega) ?_)
  refine hK _ ?_
  clear hK K
  obtain ⟨r3, hr3, h⟩ := po_some h
  refine VC.seqF tabOkF [some 22, some 23, some 4] [4] rfl rfl (fun K hK => ?_)
  push_cast [hx1, hx11, hx12]
  repeat (refine And.intro (by omega) ?_)
  refine callP (Ctr.lo (c_helper_told r2.2 hr3)) rfl ?_
  push_cast [hx1, hx11, hx12]
  repeat (refine And.intro (by omega) ?_)
  refine hK _ ?_
  clear hK K
  refine VC.ret ?_
  have hr := Option.some.inj h
  subst hr
  refine endP (Sub.lo _) (Post.ret ?_ ?_ ?_)
  · push_cast
  · push_cast
  · rfl
end Go.Proofs.Ytpmnchgpbojppaa

/- The plain function of   drydock/helper.call .get. -/
set_option linter.unusedVariables false
set_option linter.unusedSimpArgs false
namespace Go.Proofs.Ytpmnchgpbojppaa
open Go Go.RowKit Go.Proofs.Try
noncomputable def p_helper_call_get (a0 : T_helper_call) (a1 : (List UInt32)) : Option (UInt32 × T_helper_call) :=
  po (a1[1]?) fun x1 =>
  po (a1[2]?) fun x2 =>
  po (p_table_Get a0.t x1 x2) fun r3 =>
  some (r3.2.1, (T_helper_call.mk r3.1))
set_option maxHeartbeats 4000000 in
set_option maxRecDepth 100000 in
theorem c_helper_call_get (a0 : T_helper_call) (a1 : (List UInt32)) {r : UInt32 × T_helper_call} (h : p_helper_call_get a0 a1 = some r) : Ctr prog 69 [.ref 0 0, .sl false (a1.map encU32)] [(0, .box 87 (enc_helper_call a0))] (.raw (.int .u32 (r.1.toNat : Int))) [(0, .box 87 (enc_helper_call r.2))] := by
  unfold p_helper_call_get at h
  refine Ctr.ofW tabOk func69 rfl call69 1 _ ntmps69 [.tmp 4] rfl rfl rfl (fun B => ?_)
  refine VC.seqF tabOkF [some 4] [0, 1] rfl rfl (fun K hK => ?_)
  push_cast
  repeat (refine And.intro (by omega) ?_)
  refine hK _ ?_
  clear hK K
  obtain ⟨x1, hx1, h⟩ := po_some h
  have hx11 := get_ltI hx1
  have hx12 := get_lt hx1
  obtain ⟨x2, hx2, h⟩ := po_some h
  have hx21 := get_ltI hx2
  have hx22 := get_lt hx2
  obtain ⟨r3, hr3, h⟩ := po_some h
  refine VC.seqFD tabOkF hmixO [some 9, some 10, some 11, some 12, some 13, some 14, some 15, some 16, some 17, some 18, some 19, some 8, some 20, some 21, some 22, some 5, none, some 6, some 7] [0, 5, 6] rfl rfl rfl (fun K hK => ?_)
  refine runD_cut 8 (fun K2 hK2 => ?_)
  push_cast [hx1, hx11, hx12, hx2, hx21, hx22]
  repeat (refine And.intro (by omega) ?_)
  refine hK2 _ _ _ ?_
  clear hK2 K2
  simp only [List.drop_succ_cons, List.drop_zero]
  refine runD_cut 8 (fun K2 hK2 => ?_)
  push_cast [hx1, hx11, hx12, hx2, hx21, hx22]
  repeat (refine And.intro (by omega) ?_)
  refine callPD (Ctr.lo (c_table_Get a0.t x1 x2 hr3)) rfl ?_
  push_cast [hx1, hx11, hx12, hx2, hx21, hx22]
  repeat (refine And.intro (by omega) ?_)
  refine hK2 _ _ _ ?_
  clear hK2 K2
  simp only [List.drop_succ_cons, List.drop_zero]
  push_cast [hx1, hx11, hx12, hx2, hx21, hx22]
  repeat (refine And.intro (by omega) ?_)
  refine ⟨rfl, hK _ ?_⟩
  clear hK K
  refine VC.seqF tabOkF [some 23, some 24, some 25, some 26, none] [6] rfl rfl (fun K hK => ?_)
  push_cast [hx1, hx11, hx12, hx2, hx21, hx22]
  repeat (refine And.intro (by omega) ?_)
  refine hK _ ?_
  clear hK K
  refine VC.seqF tabOkF [some 27, some 4] [4] rfl rfl (fun K hK => ?_)
  push_cast [hx1, hx11, hx12, hx2, hx21, hx22]
  repeat (refine And.intro (by omega) ?_)
  refine hK _ ?_
  clear hK K
  refine VC.ret ?_
  have hr := Option.some.inj h
  subst hr
  refine endP (Sub.lo _) (Post.ret ?_ ?_ ?_)
  · push_cast
  · push_cast
  · rfl
end Go.Proofs.Ytpmnchgpbojppaa

/- The plain function of   drydock/helper.call .has. -/
set_option linter.unusedVariables false
set_option linter.unusedSimpArgs false
namespace Go.Proofs.Ytpmnchgpbojppaa
open Go Go.RowKit Go.Proofs.Try
noncomputable def p_helper_call_has (a0 : T_helper_call) (a1 : (List UInt32)) : Option (UInt32 × T_helper_call) :=
  po (a1[1]?) fun x1 =>
  po (p_table_Get a0.t x1 0) fun r2 =>
  po (p_helper_told r2.2.2) fun r3 =>
  some (r3, a0)
set_option maxHeartbeats 4000000 in
set_option maxRecDepth 100000 in
theorem c_helper_call_has (a0 : T_helper_call) (a1 : (List UInt32)) {r : UInt32 × T_helper_call} (h : p_helper_call_has a0 a1 = some r) : Ctr prog 72 [.ref 0 0, .sl false (a1.map encU32)] [(0, .box 87 (enc_helper_call a0))] (.raw (.int .u32 (r.1.toNat : Int))) [(0, .box 87 (enc_helper_call r.2))] := by
  unfold p_helper_call_has at h
  refine Ctr.ofW tabOk func72 rfl call72 1 _ ntmps72 [.tmp 4] rfl rfl rfl (fun B => ?_)
  refine VC.seqF tabOkF [some 4] [0, 1] rfl rfl (fun K hK => ?_)
  push_cast
  repeat (refine And.intro (by omega) ?_)
  refine hK _ ?_
  clear hK K
  obtain ⟨x1, hx1, h⟩ := po_some h
  have hx11 := get_ltI hx1
  have hx12 := get_lt hx1
  obtain ⟨r2, hr2, h⟩ := po_some h
  refine VC.seqFD tabOkF hmixO [some 9, some 10, some 11, some 12, some 13, some 14, some 15, some 16, some 8, some 17, some 18, some 19, some 5, none, some 6, some 7] [7] rfl rfl rfl (fun K hK => ?_)
  refine runD_cut 8 (fun K2 hK2 => ?_)
  push_cast [hx1, hx11, hx12]
  repeat (refine And.intro (by omega) ?_)
  refine callPD (Ctr.lo (c_table_Get a0.t x1 0 hr2)) rfl ?_
  push_cast [hx1, hx11, hx12]
  repeat (refine And.intro (by omega) ?_)
  refine hK2 _ _ _ ?_
  clear hK2 K2
  simp only [List.drop_succ_cons, List.drop_zero]
  push_cast [hx1, hx11, hx12]
  repeat (refine And.intro (by omega) ?_)
  refine ⟨rfl, hK _ ?_⟩
  clear hK K
  obtain ⟨r3, hr3, h⟩ := po_some h
  refine VC.seqF tabOkF [some 20, some 21, some 4] [4] rfl rfl (fun K hK => ?_)
  push_cast [hx1, hx11, hx12]
  repeat (refine And.intro (by omega) ?_)
  refine callP (Ctr.lo (c_helper_told r2.2.2 hr3)) rfl ?_
  push_cast [hx1, hx11, hx12]
  repeat (refine And.intro (by omega) ?_)
  refine hK _ ?_
  clear hK K
  refine VC.ret ?_
  have hr := Option.some.inj h
  subst hr
  refine endP (Sub.lo _) (Post.ret ?_ ?_ ?_)
  · push_cast
  · push_cast
  · rfl
end Go.Proofs.Ytpmnchgpbojppaa

/- The plain function of   drydock/helper.call .put. -/
set_option linter.unusedVariables false
set_option linter.unusedSimpArgs false
namespace Go.Proofs.Ytpmnchgpbojppaa
open Go Go.RowKit Go.Proofs.Try
noncomputable def p_helper_call_put_J1 (a2 : Int) (s_1 : T_helper_call) : Option (UInt32 × T_helper_call) :=
  some ((UInt32.ofInt a2), s_1)
noncomputable def p_helper_call_put (a0 : T_helper_call) (a1 : T_Table) (a2 : Int) : Option (UInt32 × T_helper_call) :=
  po (
  cond (a2 == 0) (
  some (T_helper_call.mk a1)) (
  some a0)) (fun x => p_helper_call_put_J1 a2 x)
set_option maxHeartbeats 4000000 in
set_option maxRecDepth 100000 in
theorem c_helper_call_put (a0 : T_helper_call) (a1 : T_Table) (a2 : Int) {r : UInt32 × T_helper_call} (h : p_helper_call_put a0 a1 a2 = some r) : Ctr prog 82 [.ref 0 0, .agg (enc_Table a1), .raw (.int .i64 a2)] [(0, .box 87 (enc_helper_call a0))] (.raw (.int .u32 (r.1.toNat : Int))) [(0, .box 87 (enc_helper_call r.2))] := by
  unfold p_helper_call_put at h
  refine Ctr.ofW tabOk func82 rfl call82 1 _ ntmps82 [.tmp 6] rfl rfl rfl (fun B => ?_)
  refine VC.seqF tabOkF [some 4, some 6] [0, 2, 4] rfl rfl (fun K hK => ?_)
  push_cast
  repeat (refine And.intro (by omega) ?_)
  refine hK _ ?_
  clear hK K
  obtain ⟨v1, h, hk1⟩ := po_some h
  refine VC.seqJ (X := T_helper_call) (fun x => p_helper_call_put_J1 a2 x = some r) (fun x => ⟨[(2, .raw (.int .i64 a2))], [(0, .box 87 [.raw (.int .i64 x.t.S.Kind), .raw (.int .i64 x.t.S.Cap), .raw (.int .i64 x.t.S.Words), .raw (.int .i64 x.t.S.Ver), .sl false (x.t.E.map enc_Entry), .raw (.int .u32 (x.t.Next.toNat : Int))])], 10, 15, 1⟩) ?_ ?_
  · refine VC.seqF tabOkF [some 7, some 8] [0, 2, 4, 8] rfl rfl (fun K hK => ?_)
    push_cast
    repeat (refine And.intro (by omega) ?_)
    refine hK _ ?_
    clear hK K
    refine VC.cond rfl rfl (fun hc2 => ?_) (fun hc2 => ?_)
    · have hb2 : (a2 == 0) = true := by simpa using hc2
      replace h := cond_yes hb2 h
      refine VC.lastF tabOkF [some 9, some 10, some 11, some 12, none] rfl rfl (fun K hK => ?_)
      push_cast [hb2]
      repeat (refine And.intro (by omega) ?_)
      refine hK _ ?_
      clear hK K
      have hv := Option.some.inj h
      rw [← hv] at hk1
      refine Exists.intro ((T_helper_call.mk a1)) (And.intro hk1 ?_)
      refine Sub.trans (Sub.lo _) ?_
      refine Sub.of ?_ ?_ ⟨rfl, rfl, Nat.le_of_ble_eq_true rfl⟩ rfl
      · push_cast [hb2]
      · push_cast [hb2]
    · have hb2 : (a2 == 0) = false := by simpa using hc2
      replace h := cond_no hb2 h
      refine VC.skip ?_
      have hv := Option.some.inj h
      rw [← hv] at hk1
      refine Exists.intro (a0) (And.intro hk1 ?_)
      refine Sub.trans (Sub.lo _) ?_
      refine Sub.of ?_ ?_ ⟨rfl, rfl, Nat.le_of_ble_eq_true rfl⟩ rfl
      · push_cast [hb2]
      · push_cast [hb2]
  · rintro s_1 h
    replace h : p_helper_call_put_J1 a2 s_1 = some r := h
    try push_cast
    unfold p_helper_call_put_J1 at h
    refine VC.seqF tabOkF [some 13, some 14, some 6] [6] rfl rfl (fun K hK => ?_)
    push_cast
    repeat (refine And.intro (by omega) ?_)
    refine hK _ ?_
    clear hK K
    refine VC.ret ?_
    have hr := Option.some.inj h
    subst hr
    refine endP (Sub.lo _) (Post.ret ?_ ?_ ?_)
    · push_cast
    · push_cast
    · rfl
end Go.Proofs.Ytpmnchgpbojppaa

/- The plain function of   drydock/helper.call .push. -/
set_option linter.unusedVariables false
set_option linter.unusedSimpArgs false
namespace Go.Proofs.Ytpmnchgpbojppaa
open Go Go.RowKit Go.Proofs.Try
noncomputable def p_helper_call_push (a0 : T_helper_call) (a1 : (List UInt32)) : Option (UInt32 × T_helper_call) :=
  po (a1[1]?) fun x1 =>
  po (p_table_Push a0.t x1) fun r2 =>
  po (p_helper_call_put a0 r2.1 r2.2) fun r3 =>
  some (r3.1, r3.2)
set_option maxHeartbeats 4000000 in
set_option maxRecDepth 100000 in
theorem c_helper_call_push (a0 : T_helper_call) (a1 : (List UInt32)) {r : UInt32 × T_helper_call} (h : p_helper_call_push a0 a1 = some r) : Ctr prog 73 [.ref 0 0, .sl false (a1.map encU32)] [(0, .box 87 (enc_helper_call a0))] (.raw (.int .u32 (r.1.toNat : Int))) [(0, .box 87 (enc_helper_call r.2))] := by
  unfold p_helper_call_push at h
  refine Ctr.ofW tabOk func73 rfl call73 1 _ ntmps73 [.tmp 4] rfl rfl rfl (fun B => ?_)
  refine VC.seqF tabOkF [some 4] [0, 1] rfl rfl (fun K hK => ?_)
  push_cast
  repeat (refine And.intro (by omega) ?_)
  refine hK _ ?_
  clear hK K
  obtain ⟨x1, hx1, h⟩ := po_some h
  have hx11 := get_ltI hx1
  have hx12 := get_lt hx1
  obtain ⟨r2, hr2, h⟩ := po_some h
  obtain ⟨r3, hr3, h⟩ := po_some h
  refine VC.seqFD tabOkF hmixO [some 5, some 6, some 7, some 8, some 9, some 10, some 11, some 12, some 13, some 14, some 15, some 16, some 4] [4] rfl rfl rfl (fun K hK => ?_)
  refine runD_cut 8 (fun K2 hK2 => ?_)
  push_cast [hx1, hx11, hx12]
  repeat (refine And.intro (by omega) ?_)
  refine hK2 _ _ _ ?_
  clear hK2 K2
  simp only [List.drop_succ_cons, List.drop_zero]
  push_cast [hx1, hx11, hx12]
  repeat (refine And.intro (by omega) ?_)
  refine callPD (Ctr.lo (c_table_Push a0.t x1 hr2)) rfl ?_
  push_cast [hx1, hx11, hx12]
  repeat (refine And.intro (by omega) ?_)
  refine callHD (H := [(0, .box 87 [.raw (.int .i64 a0.t.S.Kind), .raw (.int .i64 a0.t.S.Cap), .raw (.int .i64 a0.t.S.Words), .raw (.int .i64 a0.t.S.Ver), .sl false (a0.t.E.map enc_Entry), .raw (.int .u32 (a0.t.Next.toNat : Int))])]) (Ctr.loH (Ctr.ren Bij.id (c_helper_call_put a0 r2.1 r2.2 hr3) (by push_cast [hx1, hx11, hx12]) (by push_cast [hx1, hx11, hx12]))) (by push_cast [hx1, hx11, hx12]) rfl rfl rfl ?_
  push_cast [hx1, hx11, hx12]
  repeat (refine And.intro (by omega) ?_)
  refine ⟨rfl, hK _ ?_⟩
  clear hK K
  refine VC.sub (s' := ⟨[(4, .raw (.int .u32 (r3.1.toNat : Int)))], [(0, .box 87 [.raw (.int .i64 r3.2.t.S.Kind), .raw (.int .i64 r3.2.t.S.Cap), .raw (.int .i64 r3.2.t.S.Words), .raw (.int .i64 r3.2.t.S.Ver), .sl false (r3.2.t.E.map enc_Entry), .raw (.int .u32 (r3.2.t.Next.toNat : Int))])], 15, 17, 1⟩) (Sub.of ?_ ?_ ⟨rfl, rfl, Nat.le_of_ble_eq_true rfl⟩ rfl) ?_
  · push_cast
  · push_cast
  refine VC.ret ?_
  have hr := Option.some.inj h
  subst hr
  refine endP (Sub.lo _) (Post.ret ?_ ?_ ?_)
  · push_cast
  · push_cast
  · rfl
end Go.Proofs.Ytpmnchgpbojppaa

/- The plain function of   drydock/helper.call .set. -/
set_option linter.unusedVariables false
set_option linter.unusedSimpArgs false
namespace Go.Proofs.Ytpmnchgpbojppaa
open Go Go.RowKit Go.Proofs.Try
noncomputable def p_helper_call_set (a0 : T_helper_call) (a1 : (List UInt32)) : Option (UInt32 × T_helper_call) :=
  po (a1[1]?) fun x1 =>
  po (a1[2]?) fun x2 =>
  po (a1[3]?) fun x3 =>
  po (p_table_Set a0.t x1 x2 x3) fun r4 =>
  po (p_helper_call_put a0 r4.1 r4.2) fun r5 =>
  some (r5.1, r5.2)
set_option maxHeartbeats 4000000 in
set_option maxRecDepth 100000 in
theorem c_helper_call_set (a0 : T_helper_call) (a1 : (List UInt32)) {r : UInt32 × T_helper_call} (h : p_helper_call_set a0 a1 = some r) : Ctr prog 70 [.ref 0 0, .sl false (a1.map encU32)] [(0, .box 87 (enc_helper_call a0))] (.raw (.int .u32 (r.1.toNat : Int))) [(0, .box 87 (enc_helper_call r.2))] := by
  unfold p_helper_call_set at h
  refine Ctr.ofW tabOk func70 rfl call70 1 _ ntmps70 [.tmp 4] rfl rfl rfl (fun B => ?_)
  refine VC.seqF tabOkF [some 4] [0, 1] rfl rfl (fun K hK => ?_)
  push_cast
  repeat (refine And.intro (by omega) ?_)
  refine hK _ ?_
  clear hK K
  obtain ⟨x1, hx1, h⟩ := po_some h
  have hx11 := get_ltI hx1
  have hx12 := get_lt hx1
  obtain ⟨x2, hx2, h⟩ := po_some h
  have hx21 := get_ltI hx2
  have hx22 := get_lt hx2
  obtain ⟨x3, hx3, h⟩ := po_some h
  have hx31 := get_ltI hx3
  have hx32 := get_lt hx3
  obtain ⟨r4, hr4, h⟩ := po_some h
  obtain ⟨r5, hr5, h⟩ := po_some h
  refine VC.seqFD tabOkF hmixO [some 5, some 6, some 7, some 8, some 9, some 10, some 11, some 12, some 13, some 14, some 15, some 16, some 17, some 18, some 19, some 20, some 21, some 22, some 4] [4] rfl rfl rfl (fun K hK => ?_)
  refine runD_cut 8 (fun K2 hK2 => ?_)
  push_cast [hx1, hx11, hx12, hx2, hx21, hx22, hx3, hx31, hx32]
  repeat (refine And.intro (by omega) ?_)
  refine hK2 _ _ _ ?_
  clear hK2 K2
  simp only [List.drop_succ_cons, List.drop_zero]
  refine runD_cut 8 (fun K2 hK2 => ?_)
  push_cast [hx1, hx11, hx12, hx2, hx21, hx22, hx3, hx31, hx32]
  repeat (refine And.intro (by omega) ?_)
  refine callPD (Ctr.lo (c_table_Set a0.t x1 x2 x3 hr4)) rfl ?_
  push_cast [hx1, hx11, hx12, hx2, hx21, hx22, hx3, hx31, hx32]
  repeat (refine And.intro (by omega) ?_)
  refine hK2 _ _ _ ?_
  clear hK2 K2
  simp only [List.drop_succ_cons, List.drop_zero]
  push_cast [hx1, hx11, hx12, hx2, hx21, hx22, hx3, hx31, hx32]
  repeat (refine And.intro (by omega) ?_)
  refine callHD (H := [(0, .box 87 [.raw (.int .i64 a0.t.S.Kind), .raw (.int .i64 a0.t.S.Cap), .raw (.int .i64 a0.t.S.Words), .raw (.int .i64 a0.t.S.Ver), .sl false (a0.t.E.map enc_Entry), .raw (.int .u32 (a0.t.Next.toNat : Int))])]) (Ctr.loH (Ctr.ren Bij.id (c_helper_call_put a0 r4.1 r4.2 hr5) (by push_cast [hx1, hx11, hx12, hx2, hx21, hx22, hx3, hx31, hx32]) (by push_cast [hx1, hx11, hx12, hx2, hx21, hx22, hx3, hx31, hx32]))) (by push_cast [hx1, hx11, hx12, hx2, hx21, hx22, hx3, hx31, hx32]) rfl rfl rfl ?_
  push_cast [hx1, hx11, hx12, hx2, hx21, hx22, hx3, hx31, hx32]
  repeat (refine And.intro (by omega) ?_)
  refine ⟨rfl, hK _ ?_⟩
  clear hK K
  refine VC.sub (s' := ⟨[(4, .raw (.int .u32 (r5.1.toNat : Int)))], [(0, .box 87 [.raw (.int .i64 r5.2.t.S.Kind), .raw (.int .i64 r5.2.t.S.Cap), .raw (.int .i64 r5.2.t.S.Words), .raw (.int .i64 r5.2.t.S.Ver), .sl false (r5.2.t.E.map enc_Entry), .raw (.int .u32 (r5.2.t.Next.toNat : Int))])], 21, 23, 1⟩) (Sub.of ?_ ?_ ⟨rfl, rfl, Nat.le_of_ble_eq_true rfl⟩ rfl) ?_
  · push_cast
  · push_cast
  refine VC.ret ?_
  have hr := Option.some.inj h
  subst hr
  refine endP (Sub.lo _) (Post.ret ?_ ?_ ?_)
  · push_cast
  · push_cast
  · rfl
end Go.Proofs.Ytpmnchgpbojppaa

/- The plain function of drydock/helper.Args. -/
set_option linter.unusedVariables false
set_option linter.unusedSimpArgs false
namespace Go.Proofs.Ytpmnchgpbojppaa
open Go Go.RowKit Go.Proofs.Try
noncomputable def p_helper_Args_J1 (i_1 : Int) (i_2 : Bool) : Option (Int) :=
  cond i_2 (
  some i_1) (
  some (-1))
noncomputable def p_helper_Args (a0 : Int) : Option (Int) :=
  po (
  cond (a0 == 0) (
  some (3, true)) (
  cond (a0 == 1) (
  some (4, true)) (
  cond (a0 == 2) (
  some (2, true)) (
  cond (a0 == 3) (
  some (2, true)) (
  cond (a0 == 4) (
  some (0, true)) (
  cond (a0 == 5) (
  some (2, true)) (
  some (0, false)))))))) (fun x => p_helper_Args_J1 x.1 x.2)
set_option maxHeartbeats 4000000 in
set_option maxRecDepth 100000 in
theorem c_helper_Args (a0 : Int) {r : Int} (h : p_helper_Args a0 = some r) : Ctr prog 45 [.raw (.int .i64 a0)] [] (.raw (.int .i64 r)) [] := by
  unfold p_helper_Args at h
  refine Ctr.ofW tabOk func45 rfl call45 0 _ ntmps45 [.tmp 2] rfl rfl rfl (fun B => ?_)
  refine VC.seqF tabOkF [some 2] [0] rfl rfl (fun K hK => ?_)
  push_cast
  repeat (refine And.intro (by omega) ?_)
  refine hK _ ?_
  clear hK K
  refine VC.seq ?_
  obtain ⟨v1, h, hk1⟩ := po_some h
  refine VC.seqJ (X := Int × Bool) (fun x => p_helper_Args_J1 x.1 x.2 = some r) (fun x => ⟨[(3, .raw (.int .i64 x.1)), (4, .raw (.bool x.2))], [], 16, 14, 0⟩) ?_ ?_
  · rcases Bool.eq_false_or_eq_true (a0 == 0) with hb2 | hb2
    · replace h := cond_yes hb2 h
      refine VC.lastF tabOkF [some 6, none, none, none, none, none, none, some 7, some 8, some 9, some 5, some 10, some 11, some 3, some 4] rfl rfl (fun K hK => ?_)
      refine runOps_cut 8 (fun K2 hK2 => ?_)
      push_cast [hb2]
      repeat (refine And.intro (by omega) ?_)
      refine hK2 _ _ ?_
      clear hK2 K2
      simp only [List.drop_succ_cons, List.drop_zero]
      push_cast [hb2]
      repeat (refine And.intro (by omega) ?_)
      refine hK _ ?_
      clear hK K
      have hv := Option.some.inj h
      rw [← hv] at hk1
      refine Exists.intro ((3, true)) (And.intro hk1 ?_)
      refine Sub.trans (Sub.lo _) ?_
      refine Sub.of ?_ ?_ ⟨rfl, rfl, Nat.le_of_ble_eq_true rfl⟩ rfl
      · push_cast [hb2]
      · push_cast [hb2]
    · replace h := cond_no hb2 h
      rcases Bool.eq_false_or_eq_true (a0 == 1) with hb3 | hb3
      · replace h := cond_yes hb3 h
        refine VC.lastF tabOkF [some 6, none, none, none, none, none, none, some 7, some 8, some 9, some 5, some 10, some 11, some 3, some 4] rfl rfl (fun K hK => ?_)
        refine runOps_cut 8 (fun K2 hK2 => ?_)
        push_cast [hb2, hb3]
        repeat (refine And.intro (by omega) ?_)
        refine hK2 _ _ ?_
        clear hK2 K2
        simp only [List.drop_succ_cons, List.drop_zero]
        push_cast [hb2, hb3]
        repeat (refine And.intro (by omega) ?_)
        refine hK _ ?_
        clear hK K
        have hv := Option.some.inj h
        rw [← hv] at hk1
        refine Exists.intro ((4, true)) (And.intro hk1 ?_)
        refine Sub.trans (Sub.lo _) ?_
        refine Sub.of ?_ ?_ ⟨rfl, rfl, Nat.le_of_ble_eq_true rfl⟩ rfl
        · push_cast [hb2, hb3]
        · push_cast [hb2, hb3]
      · replace h := cond_no hb3 h
        rcases Bool.eq_false_or_eq_true (a0 == 2) with hb4 | hb4
        · replace h := cond_yes hb4 h
          refine VC.lastF tabOkF [some 6, none, none, none, none, none, none, some 7, some 8, some 9, some 5, some 10, some 11, some 3, some 4] rfl rfl (fun K hK => ?_)
          refine runOps_cut 8 (fun K2 hK2 => ?_)
          push_cast [hb2, hb3, hb4]
          repeat (refine And.intro (by omega) ?_)
          refine hK2 _ _ ?_
          clear hK2 K2
          simp only [List.drop_succ_cons, List.drop_zero]
          push_cast [hb2, hb3, hb4]
          repeat (refine And.intro (by omega) ?_)
          refine hK _ ?_
          clear hK K
          have hv := Option.some.inj h
          rw [← hv] at hk1
          refine Exists.intro ((2, true)) (And.intro hk1 ?_)
          refine Sub.trans (Sub.lo _) ?_
          refine Sub.of ?_ ?_ ⟨rfl, rfl, Nat.le_of_ble_eq_true rfl⟩ rfl
          · push_cast [hb2, hb3, hb4]
          · push_cast [hb2, hb3, hb4]
        · replace h := cond_no hb4 h
          rcases Bool.eq_false_or_eq_true (a0 == 3) with hb5 | hb5
          · replace h := cond_yes hb5 h
            refine VC.lastF tabOkF [some 6, none, none, none, none, none, none, some 7, some 8, some 9, some 5, some 10, some 11, some 3, some 4] rfl rfl (fun K hK => ?_)
            refine runOps_cut 8 (fun K2 hK2 => ?_)
            push_cast [hb2, hb3, hb4, hb5]
            repeat (refine And.intro (by omega) ?_)
            refine hK2 _ _ ?_
            clear hK2 K2
            simp only [List.drop_succ_cons, List.drop_zero]
            push_cast [hb2, hb3, hb4, hb5]
            repeat (refine And.intro (by omega) ?_)
            refine hK _ ?_
            clear hK K
            have hv := Option.some.inj h
            rw [← hv] at hk1
            refine Exists.intro ((2, true)) (And.intro hk1 ?_)
            refine Sub.trans (Sub.lo _) ?_
            refine Sub.of ?_ ?_ ⟨rfl, rfl, Nat.le_of_ble_eq_true rfl⟩ rfl
            · push_cast [hb2, hb3, hb4, hb5]
            · push_cast [hb2, hb3, hb4, hb5]
          · replace h := cond_no hb5 h
            rcases Bool.eq_false_or_eq_true (a0 == 4) with hb6 | hb6
            · replace h := cond_yes hb6 h
              refine VC.lastF tabOkF [some 6, none, none, none, none, none, none, some 7, some 8, some 9, some 5, some 10, some 11, some 3, some 4] rfl rfl (fun K hK => ?_)
              refine runOps_cut 8 (fun K2 hK2 => ?_)
              push_cast [hb2, hb3, hb4, hb5, hb6]
              repeat (refine And.intro (by omega) ?_)
              refine hK2 _ _ ?_
              clear hK2 K2
              simp only [List.drop_succ_cons, List.drop_zero]
              push_cast [hb2, hb3, hb4, hb5, hb6]
              repeat (refine And.intro (by omega) ?_)
              refine hK _ ?_
              clear hK K
              have hv := Option.some.inj h
              rw [← hv] at hk1
              refine Exists.intro ((0, true)) (And.intro hk1 ?_)
              refine Sub.trans (Sub.lo _) ?_
              refine Sub.of ?_ ?_ ⟨rfl, rfl, Nat.le_of_ble_eq_true rfl⟩ rfl
              · push_cast [hb2, hb3, hb4, hb5, hb6]
              · push_cast [hb2, hb3, hb4, hb5, hb6]
            · replace h := cond_no hb6 h
              rcases Bool.eq_false_or_eq_true (a0 == 5) with hb7 | hb7
              · replace h := cond_yes hb7 h
                refine VC.lastF tabOkF [some 6, none, none, none, none, none, none, some 7, some 8, some 9, some 5, some 10, some 11, some 3, some 4] rfl rfl (fun K hK => ?_)
                refine runOps_cut 8 (fun K2 hK2 => ?_)
                push_cast [hb2, hb3, hb4, hb5, hb6, hb7]
                repeat (refine And.intro (by omega) ?_)
                refine hK2 _ _ ?_
                clear hK2 K2
                simp only [List.drop_succ_cons, List.drop_zero]
                push_cast [hb2, hb3, hb4, hb5, hb6, hb7]
                repeat (refine And.intro (by omega) ?_)
                refine hK _ ?_
                clear hK K
                have hv := Option.some.inj h
                rw [← hv] at hk1
                refine Exists.intro ((2, true)) (And.intro hk1 ?_)
                refine Sub.trans (Sub.lo _) ?_
                refine Sub.of ?_ ?_ ⟨rfl, rfl, Nat.le_of_ble_eq_true rfl⟩ rfl
                · push_cast [hb2, hb3, hb4, hb5, hb6, hb7]
                · push_cast [hb2, hb3, hb4, hb5, hb6, hb7]
              · replace h := cond_no hb7 h
                refine VC.lastF tabOkF [some 6, none, none, none, none, none, none, some 7, some 8, some 9, some 5, some 10, some 11, some 3, some 4] rfl rfl (fun K hK => ?_)
                refine runOps_cut 8 (fun K2 hK2 => ?_)
                push_cast [hb2, hb3, hb4, hb5, hb6, hb7]
                repeat (refine And.intro (by omega) ?_)
                refine hK2 _ _ ?_
                clear hK2 K2
                simp only [List.drop_succ_cons, List.drop_zero]
                push_cast [hb2, hb3, hb4, hb5, hb6, hb7]
                repeat (refine And.intro (by omega) ?_)
                refine hK _ ?_
                clear hK K
                have hv := Option.some.inj h
                rw [← hv] at hk1
                refine Exists.intro ((0, false)) (And.intro hk1 ?_)
                refine Sub.trans (Sub.lo _) ?_
                refine Sub.of ?_ ?_ ⟨rfl, rfl, Nat.le_of_ble_eq_true rfl⟩ rfl
                · push_cast [hb2, hb3, hb4, hb5, hb6, hb7]
                · push_cast [hb2, hb3, hb4, hb5, hb6, hb7]
  · rintro ⟨i_1, i_2⟩ h
    replace h : p_helper_Args_J1 i_1 i_2 = some r := h
    try push_cast
    unfold p_helper_Args_J1 at h
    refine VC.seqF tabOkF [some 12] [3, 12] rfl rfl (fun K hK => ?_)
    push_cast
    repeat (refine And.intro (by omega) ?_)
    refine hK _ ?_
    clear hK K
    refine VC.cond rfl rfl (fun hc8 => ?_) (fun hc8 => ?_)
    · have hb8 : i_2 = true := by simpa using hc8
      replace h := cond_yes hb8 h
      refine VC.seqF tabOkF [some 13, some 2] [2] rfl rfl (fun K hK => ?_)
      push_cast [hb8]
      repeat (refine And.intro (by omega) ?_)
      refine hK _ ?_
      clear hK K
      refine VC.ret ?_
      have hr := Option.some.inj h
      subst hr
      refine endP (Sub.lo _) (Post.ret ?_ ?_ ?_)
      · push_cast [hb8]
      · push_cast [hb8]
      · rfl
    · have hb8 : i_2 = false := by simpa using hc8
      replace h := cond_no hb8 h
      refine VC.skip ?_
      refine VC.seqF tabOkF [some 2] [2] rfl rfl (fun K hK => ?_)
      push_cast [hb8]
      repeat (refine And.intro (by omega) ?_)
      refine hK _ ?_
      clear hK K
      refine VC.ret ?_
      have hr := Option.some.inj h
      subst hr
      refine endP (Sub.lo _) (Post.ret ?_ ?_ ?_)
      · push_cast [hb8]
      · push_cast [hb8]
      · rfl
end Go.Proofs.Ytpmnchgpbojppaa

/- The plain function of drydock/helper.Draw. -/
set_option linter.unusedVariables false
set_option linter.unusedSimpArgs false
namespace Go.Proofs.Ytpmnchgpbojppaa
open Go Go.RowKit Go.Proofs.Try
noncomputable def p_helper_Draw (a0 : UInt32) : Option (UInt32) :=
  pl ((1664525 : UInt32)) fun c1 =>
  pl ((1013904223 : UInt32)) fun c2 =>
  some ((c1 * a0) + c2)
set_option maxHeartbeats 4000000 in
set_option maxRecDepth 100000 in
theorem c_helper_Draw (a0 : UInt32) {r : UInt32} (h : p_helper_Draw a0 = some r) : Ctr prog 49 [.raw (.int .u32 (a0.toNat : Int))] [] (.raw (.int .u32 (r.toNat : Int))) [] := by
  unfold p_helper_Draw at h
  refine Ctr.ofW tabOk func49 rfl call49 0 _ ntmps49 [.tmp 2] rfl rfl rfl (fun B => ?_)
  refine VC.seqF tabOkF [some 2] [0] rfl rfl (fun K hK => ?_)
  push_cast
  repeat (refine And.intro (by omega) ?_)
  refine hK _ ?_
  clear hK K
  obtain ⟨c1, hc1, h⟩ := pl_some h
  have hc1i : (c1.toNat : Int) = 1664525 := by rw [hc1]; rfl
  obtain ⟨c2, hc2, h⟩ := pl_some h
  have hc2i : (c2.toNat : Int) = 1013904223 := by rw [hc2]; rfl
  refine VC.seqF tabOkF [some 3, some 4, some 5, some 2] [2] rfl rfl (fun K hK => ?_)
  push_cast [hc1i, hc2i]
  repeat (refine And.intro (by omega) ?_)
  refine hK _ ?_
  clear hK K
  refine VC.ret ?_
  have hr := Option.some.inj h
  subst hr
  refine endP (Sub.lo _) (Post.ret ?_ ?_ ?_)
  · push_cast [hc1i, hc2i]
  · push_cast [hc1i, hc2i]
  · rfl
end Go.Proofs.Ytpmnchgpbojppaa

/- The plain function of drydock/schema.in. -/
set_option linter.unusedVariables false
set_option linter.unusedSimpArgs false
namespace Go.Proofs.Ytpmnchgpbojppaa
open Go Go.RowKit Go.Proofs.Try
noncomputable def p_schema_in_J1 (i_1 : Bool) : Option (Bool) :=
  some i_1
noncomputable def p_schema_in (a0 : Int) (a1 : Int) (a2 : Int) : Option (Bool) :=
  po (
  cond (decide (a0 ≥ a1)) (
  some (decide (a0 ≤ a2))) (
  some false)) (fun x => p_schema_in_J1 x)
set_option maxHeartbeats 4000000 in
set_option maxRecDepth 100000 in
theorem c_schema_in (a0 : Int) (a1 : Int) (a2 : Int) {r : Bool} (h : p_schema_in a0 a1 a2 = some r) : Ctr prog 78 [.raw (.int .i64 a0), .raw (.int .i64 a1), .raw (.int .i64 a2)] [] (.raw (.bool r)) [] := by
  unfold p_schema_in at h
  refine Ctr.ofW tabOk func78 rfl call78 0 _ ntmps78 [.tmp 6] rfl rfl rfl (fun B => ?_)
  refine VC.seqF tabOkF [some 6] [0, 1, 2] rfl rfl (fun K hK => ?_)
  push_cast
  repeat (refine And.intro (by omega) ?_)
  refine hK _ ?_
  clear hK K
  obtain ⟨v1, h, hk1⟩ := po_some h
  refine VC.seqJ (X := Bool) (fun x => p_schema_in_J1 x = some r) (fun x => ⟨[(6, .raw (.bool x))], [], 10, 15, 0⟩) ?_ ?_
  · rcases Bool.eq_false_or_eq_true (decide (a0 ≥ a1)) with hb2 | hb2
    · replace h := cond_yes hb2 h
      refine VC.lastF tabOkF [some 7, some 8, some 9, some 10, some 11, some 12, some 13, some 14, some 6] rfl rfl (fun K hK => ?_)
      push_cast [hb2]
      repeat (refine And.intro (by omega) ?_)
      refine hK _ ?_
      clear hK K
      have hv := Option.some.inj h
      rw [← hv] at hk1
      refine Exists.intro ((decide (a0 ≤ a2))) (And.intro hk1 ?_)
      refine Sub.trans (Sub.lo _) ?_
      refine Sub.of ?_ ?_ ⟨rfl, rfl, Nat.le_of_ble_eq_true rfl⟩ rfl
      · push_cast [hb2]
      · push_cast [hb2]
    · replace h := cond_no hb2 h
      refine VC.lastF tabOkF [some 7, some 8, some 9, some 10, some 11, some 12, some 13, some 14, some 6] rfl rfl (fun K hK => ?_)
      push_cast [hb2]
      repeat (refine And.intro (by omega) ?_)
      refine hK _ ?_
      clear hK K
      have hv := Option.some.inj h
      rw [← hv] at hk1
      refine Exists.intro (false) (And.intro hk1 ?_)
      refine Sub.trans (Sub.lo _) ?_
      refine Sub.of ?_ ?_ ⟨rfl, rfl, Nat.le_of_ble_eq_true rfl⟩ rfl
      · push_cast [hb2]
      · push_cast [hb2]
  · rintro i_1 h
    replace h : p_schema_in_J1 i_1 = some r := h
    try push_cast
    unfold p_schema_in_J1 at h
    refine VC.ret ?_
    have hr := Option.some.inj h
    subst hr
    refine endP (Sub.lo _) (Post.ret ?_ ?_ ?_)
    · push_cast
    · push_cast
    · rfl
end Go.Proofs.Ytpmnchgpbojppaa

/- The plain function of drydock/schema.May. -/
set_option linter.unusedVariables false
set_option linter.unusedSimpArgs false
namespace Go.Proofs.Ytpmnchgpbojppaa
open Go Go.RowKit Go.Proofs.Try
noncomputable def p_schema_May_J3 (i_2 : Bool) : Option (Bool) :=
  some i_2
noncomputable def p_schema_May_J1 (a0 : T_Schema) (i_1 : Int) : Option (Bool) :=
  po (
  po (p_schema_in a0.Kind 0 3) fun r4 =>
  cond r4 (
  po (p_schema_in a0.Cap 1 16) fun r6 =>
  cond r6 (
  po (p_schema_in a0.Words 1 i_1) fun r8 =>
  cond r8 (
  po (p_schema_in a0.Ver 0 1000) fun r10 =>
  some r10) (
  some false)) (
  some false)) (
  some false)) (fun x => p_schema_May_J3 x)
noncomputable def p_schema_May (a0 : T_Schema) : Option (Bool) :=
  po (
  cond (a0.Kind == 3) (
  some 1) (
  some 4)) (fun x => p_schema_May_J1 a0 x)
set_option maxHeartbeats 4000000 in
set_option maxRecDepth 100000 in
theorem c_schema_May (a0 : T_Schema) {r : Bool} (h : p_schema_May a0 = some r) : Ctr prog 58 [.agg (enc_Schema a0)] [] (.raw (.bool r)) [] := by
  unfold p_schema_May at h
  refine Ctr.ofW tabOk func58 rfl call58 0 _ ntmps58 [.tmp 2] rfl rfl rfl (fun B => ?_)
  refine VC.seqF tabOkF [some 1, some 2] [1] rfl rfl (fun K hK => ?_)
  push_cast
  repeat (refine And.intro (by omega) ?_)
  refine hK _ ?_
  clear hK K
  refine VC.seqF tabOkF [some 3] [1, 3] rfl rfl (fun K hK => ?_)
  push_cast
  repeat (refine And.intro (by omega) ?_)
  refine hK _ ?_
  clear hK K
  obtain ⟨v1, h, hk1⟩ := po_some h
  refine VC.seqJ (X := Int) (fun x => p_schema_May_J1 a0 x = some r) (fun x => ⟨[(1, .ref 0 0), (3, .raw (.int .i64 x))], [(0, .box 23 [.raw (.int .i64 a0.Kind), .raw (.int .i64 a0.Cap), .raw (.int .i64 a0.Words), .raw (.int .i64 a0.Ver)])], 7, 26, 0⟩) ?_ ?_
  · refine VC.seqF tabOkF [some 4, some 5, some 6] [1, 3, 6] rfl rfl (fun K hK => ?_)
    push_cast
    repeat (refine And.intro (by omega) ?_)
    refine hK _ ?_
    clear hK K
    refine VC.cond rfl rfl (fun hc2 => ?_) (fun hc2 => ?_)
    · have hb2 : (a0.Kind == 3) = true := by simpa using hc2
      replace h := cond_yes hb2 h
      refine VC.lastF tabOkF [some 3] rfl rfl (fun K hK => ?_)
      push_cast [hb2]
      repeat (refine And.intro (by omega) ?_)
      refine hK _ ?_
      clear hK K
      have hv := Option.some.inj h
      rw [← hv] at hk1
      refine Exists.intro (1) (And.intro hk1 ?_)
      refine Sub.trans (Sub.lo _) ?_
      refine Sub.of ?_ ?_ ⟨rfl, rfl, Nat.le_of_ble_eq_true rfl⟩ rfl
      · push_cast [hb2]
      · push_cast [hb2]
    · have hb2 : (a0.Kind == 3) = false := by simpa using hc2
      replace h := cond_no hb2 h
      refine VC.skip ?_
      have hv := Option.some.inj h
      rw [← hv] at hk1
      refine Exists.intro (4) (And.intro hk1 ?_)
      refine Sub.trans (Sub.lo _) ?_
      refine Sub.of ?_ ?_ ⟨rfl, rfl, Nat.le_of_ble_eq_true rfl⟩ rfl
      · push_cast [hb2]
      · push_cast [hb2]
  · rintro i_1 h
    replace h : p_schema_May_J1 a0 i_1 = some r := h
    try push_cast
    unfold p_schema_May_J1 at h
    obtain ⟨v3, h, hk3⟩ := po_some h
    refine VC.seqJ (X := Bool) (fun x => p_schema_May_J3 x = some r) (fun x => ⟨[(2, .raw (.bool x))], [], 27, 26, 0⟩) ?_ ?_
    · obtain ⟨r4, hr4, h⟩ := po_some h
      rcases Bool.eq_false_or_eq_true r4 with hb5 | hb5
      · replace h := cond_yes hb5 h
        obtain ⟨r6, hr6, h⟩ := po_some h
        rcases Bool.eq_false_or_eq_true r6 with hb7 | hb7
        · replace h := cond_yes hb7 h
          obtain ⟨r8, hr8, h⟩ := po_some h
          rcases Bool.eq_false_or_eq_true r8 with hb9 | hb9
          · replace h := cond_yes hb9 h
            obtain ⟨r10, hr10, h⟩ := po_some h
            refine VC.lastF tabOkF [some 7, some 8, some 9, some 10, some 11, some 12, some 13, some 14, some 15, some 16, some 17, some 18, some 19, some 20, some 21, some 22, some 23, some 24, some 25, some 2] rfl rfl (fun K hK => ?_)
            refine runOps_cut 8 (fun K2 hK2 => ?_)
            push_cast [hb5, hb7, hb9]
            repeat (refine And.intro (by omega) ?_)
            refine callP (Ctr.lo (c_schema_in a0.Kind 0 3 hr4)) rfl ?_
            push_cast [hb5, hb7, hb9]
            repeat (refine And.intro (by omega) ?_)
            refine callP (Ctr.lo (c_schema_in a0.Cap 1 16 hr6)) rfl ?_
            push_cast [hb5, hb7, hb9]
            repeat (refine And.intro (by omega) ?_)
            refine hK2 _ _ ?_
            clear hK2 K2
            simp only [List.drop_succ_cons, List.drop_zero]
            refine runOps_cut 8 (fun K2 hK2 => ?_)
            push_cast [hb5, hb7, hb9]
            repeat (refine And.intro (by omega) ?_)
            refine callP (Ctr.lo (c_schema_in a0.Words 1 i_1 hr8)) rfl ?_
            push_cast [hb5, hb7, hb9]
            repeat (refine And.intro (by omega) ?_)
            refine hK2 _ _ ?_
            clear hK2 K2
            simp only [List.drop_succ_cons, List.drop_zero]
            push_cast [hb5, hb7, hb9]
            repeat (refine And.intro (by omega) ?_)
            refine callP (Ctr.lo (c_schema_in a0.Ver 0 1000 hr10)) rfl ?_
            push_cast [hb5, hb7, hb9]
            repeat (refine And.intro (by omega) ?_)
            refine hK _ ?_
            clear hK K
            have hv := Option.some.inj h
            rw [← hv] at hk3
            refine Exists.intro (r10) (And.intro hk3 ?_)
            refine Sub.trans (Sub.lo _) ?_
            refine Sub.of ?_ ?_ ⟨rfl, rfl, Nat.le_of_ble_eq_true rfl⟩ rfl
            · push_cast [hb5, hb7, hb9]
            · push_cast [hb5, hb7, hb9]
          · replace h := cond_no hb9 h
            refine VC.lastF tabOkF [some 7, some 8, some 9, some 10, some 11, some 12, some 13, some 14, some 15, some 16, some 17, some 18, some 19, some 20, some 21, some 22, some 23, some 24, some 25, some 2] rfl rfl (fun K hK => ?_)
            refine runOps_cut 8 (fun K2 hK2 => ?_)
            push_cast [hb5, hb7, hb9]
            repeat (refine And.intro (by omega) ?_)
            refine callP (Ctr.lo (c_schema_in a0.Kind 0 3 hr4)) rfl ?_
            push_cast [hb5, hb7, hb9]
            repeat (refine And.intro (by omega) ?_)
            refine callP (Ctr.lo (c_schema_in a0.Cap 1 16 hr6)) rfl ?_
            push_cast [hb5, hb7, hb9]
            repeat (refine And.intro (by omega) ?_)
            refine hK2 _ _ ?_
            clear hK2 K2
            simp only [List.drop_succ_cons, List.drop_zero]
            refine runOps_cut 8 (fun K2 hK2 => ?_)
            push_cast [hb5, hb7, hb9]
            repeat (refine And.intro (by omega) ?_)
            refine callP (Ctr.lo (c_schema_in a0.Words 1 i_1 hr8)) rfl ?_
            push_cast [hb5, hb7, hb9]
            repeat (refine And.intro (by omega) ?_)
            refine hK2 _ _ ?_
            clear hK2 K2
            simp only [List.drop_succ_cons, List.drop_zero]
            push_cast [hb5, hb7, hb9]
            repeat (refine And.intro (by omega) ?_)
            refine hK _ ?_
            clear hK K
            have hv := Option.some.inj h
            rw [← hv] at hk3
            refine Exists.intro (false) (And.intro hk3 ?_)
            refine Sub.trans (Sub.lo _) ?_
            refine Sub.of ?_ ?_ ⟨rfl, rfl, Nat.le_of_ble_eq_true rfl⟩ rfl
            · push_cast [hb5, hb7, hb9]
            · push_cast [hb5, hb7, hb9]
        · replace h := cond_no hb7 h
          refine VC.lastF tabOkF [some 7, some 8, some 9, some 10, some 11, some 12, some 13, some 14, some 15, some 16, some 17, some 18, some 19, some 20, some 21, some 22, some 23, some 24, some 25, some 2] rfl rfl (fun K hK => ?_)
          refine runOps_cut 8 (fun K2 hK2 => ?_)
          push_cast [hb5, hb7]
          repeat (refine And.intro (by omega) ?_)
          refine callP (Ctr.lo (c_schema_in a0.Kind 0 3 hr4)) rfl ?_
          push_cast [hb5, hb7]
          repeat (refine And.intro (by omega) ?_)
          refine callP (Ctr.lo (c_schema_in a0.Cap 1 16 hr6)) rfl ?_
          push_cast [hb5, hb7]
          repeat (refine And.intro (by omega) ?_)
          refine hK2 _ _ ?_
          clear hK2 K2
          simp only [List.drop_succ_cons, List.drop_zero]
          refine runOps_cut 8 (fun K2 hK2 => ?_)
          push_cast [hb5, hb7]
          repeat (refine And.intro (by omega) ?_)
          refine hK2 _ _ ?_
          clear hK2 K2
          simp only [List.drop_succ_cons, List.drop_zero]
          push_cast [hb5, hb7]
          repeat (refine And.intro (by omega) ?_)
          refine hK _ ?_
          clear hK K
          have hv := Option.some.inj h
          rw [← hv] at hk3
          refine Exists.intro (false) (And.intro hk3 ?_)
          refine Sub.trans (Sub.lo _) ?_
          refine Sub.of ?_ ?_ ⟨rfl, rfl, Nat.le_of_ble_eq_true rfl⟩ rfl
          · push_cast [hb5, hb7]
          · push_cast [hb5, hb7]
      · replace h := cond_no hb5 h
        refine VC.lastF tabOkF [some 7, some 8, some 9, some 10, some 11, some 12, some 13, some 14, some 15, some 16, some 17, some 18, some 19, some 20, some 21, some 22, some 23, some 24, some 25, some 2] rfl rfl (fun K hK => ?_)
        refine runOps_cut 8 (fun K2 hK2 => ?_)
        push_cast [hb5]
        repeat (refine And.intro (by omega) ?_)
        refine callP (Ctr.lo (c_schema_in a0.Kind 0 3 hr4)) rfl ?_
        push_cast [hb5]
        repeat (refine And.intro (by omega) ?_)
        refine hK2 _ _ ?_
        clear hK2 K2
        simp only [List.drop_succ_cons, List.drop_zero]
        refine runOps_cut 8 (fun K2 hK2 => ?_)
        push_cast [hb5]
        repeat (refine And.intro (by omega) ?_)
        refine hK2 _ _ ?_
        clear hK2 K2
        simp only [List.drop_succ_cons, List.drop_zero]
        push_cast [hb5]
        repeat (refine And.intro (by omega) ?_)
        refine hK _ ?_
        clear hK K
        have hv := Option.some.inj h
        rw [← hv] at hk3
        refine Exists.intro (false) (And.intro hk3 ?_)
        refine Sub.trans (Sub.lo _) ?_
        refine Sub.of ?_ ?_ ⟨rfl, rfl, Nat.le_of_ble_eq_true rfl⟩ rfl
        · push_cast [hb5]
        · push_cast [hb5]
    · rintro i_2 h
      replace h : p_schema_May_J3 i_2 = some r := h
      try push_cast
      unfold p_schema_May_J3 at h
      refine VC.ret ?_
      have hr := Option.some.inj h
      subst hr
      refine endP (Sub.lo _) (Post.ret ?_ ?_ ?_)
      · push_cast
      · push_cast
      · rfl
end Go.Proofs.Ytpmnchgpbojppaa

/- The plain function of drydock/helper.Fits. -/
set_option linter.unusedVariables false
set_option linter.unusedSimpArgs false
namespace Go.Proofs.Ytpmnchgpbojppaa
open Go Go.RowKit Go.Proofs.Try
noncomputable def p_helper_Fits_J2 (i_1 : Bool) : Option (Bool) :=
  some i_1
noncomputable def p_helper_Fits_J10 (i_3 : Bool) : Option (Bool) :=
  some i_3
noncomputable def p_helper_Fits_J5 (a1 : T_Schema) (i_2 : Bool) : Option (Bool) :=
  cond i_2 (
  po (
  po (p_schema_May a1) fun r11 =>
  cond r11 (
  some (a1.Kind != 3)) (
  some false)) (fun x => p_helper_Fits_J10 x)) (
  some false)
noncomputable def p_helper_Fits (a0 : Int) (a1 : T_Schema) : Option (Bool) :=
  cond (a0 == 5) (
  po (
  po (p_schema_May a1) fun r3 =>
  cond r3 (
  some (a1.Kind == 3)) (
  some false)) (fun x => p_helper_Fits_J2 x)) (
  po (
  cond (a0 == 0) (
  some (a0 == 0)) (
  cond (a0 == 1) (
  some (a0 == 1)) (
  cond (a0 == 2) (
  some (a0 == 2)) (
  some (a0 == 3))))) (fun x => p_helper_Fits_J5 a1 x))
set_option maxHeartbeats 4000000 in
set_option maxRecDepth 100000 in
theorem c_helper_Fits (a0 : Int) (a1 : T_Schema) {r : Bool} (h : p_helper_Fits a0 a1 = some r) : Ctr prog 47 [.raw (.int .i64 a0), .agg (enc_Schema a1)] [] (.raw (.bool r)) [] := by
  unfold p_helper_Fits at h
  refine Ctr.ofW tabOk func47 rfl call47 0 _ ntmps47 [.tmp 4] rfl rfl rfl (fun B => ?_)
  refine VC.seqF tabOkF [some 3, some 4] [0, 3] rfl rfl (fun K hK => ?_)
  push_cast
  repeat (refine And.intro (by omega) ?_)
  refine hK _ ?_
  clear hK K
  refine VC.seq ?_
  refine VC.seqF tabOkF [some 5] [3, 5] rfl rfl (fun K hK => ?_)
  push_cast
  repeat (refine And.intro (by omega) ?_)
  refine hK _ ?_
  clear hK K
  refine VC.block ?_
  refine VC.seqF tabOkF [some 7, some 6] [3, 5, 6] rfl rfl (fun K hK => ?_)
  push_cast
  repeat (refine And.intro (by omega) ?_)
  refine hK _ ?_
  clear hK K
  refine VC.cond rfl rfl (fun hc1 => ?_) (fun hc1 => ?_)
  · have hb1 : (a0 == 5) = true := by simpa using hc1
    replace h := cond_yes hb1 h
    obtain ⟨v2, h, hk2⟩ := po_some h
    refine VC.seqJ (X := Bool) (fun x => p_helper_Fits_J2 x = some r) (fun x => ⟨[(4, .raw (.bool x))], [], 13, 27, 0⟩) ?_ ?_
    · obtain ⟨r3, hr3, h⟩ := po_some h
      rcases Bool.eq_false_or_eq_true r3 with hb4 | hb4
      · replace h := cond_yes hb4 h
        refine VC.lastF tabOkF [some 8, some 9, some 10, some 11, some 12, some 13, some 14, some 4] rfl rfl (fun K hK => ?_)
        push_cast [hb1, hb4]
        repeat (refine And.intro (by omega) ?_)
        refine callP (Ctr.lo (c_schema_May a1 hr3)) rfl ?_
        push_cast [hb1, hb4]
        repeat (refine And.intro (by omega) ?_)
        refine hK _ ?_
        clear hK K
        have hv := Option.some.inj h
        rw [← hv] at hk2
        refine Exists.intro ((a1.Kind == 3)) (And.intro hk2 ?_)
        refine Sub.trans (Sub.lo _) ?_
        refine Sub.of ?_ ?_ ⟨rfl, rfl, Nat.le_of_ble_eq_true rfl⟩ rfl
        · push_cast [hb1, hb4]
        · push_cast [hb1, hb4]
      · replace h := cond_no hb4 h
        refine VC.lastF tabOkF [some 8, some 9, some 10, some 11, some 12, some 13, some 14, some 4] rfl rfl (fun K hK => ?_)
        push_cast [hb1, hb4]
        repeat (refine And.intro (by omega) ?_)
        refine callP (Ctr.lo (c_schema_May a1 hr3)) rfl ?_
        push_cast [hb1, hb4]
        repeat (refine And.intro (by omega) ?_)
        refine hK _ ?_
        clear hK K
        have hv := Option.some.inj h
        rw [← hv] at hk2
        refine Exists.intro (false) (And.intro hk2 ?_)
        refine Sub.trans (Sub.lo _) ?_
        refine Sub.of ?_ ?_ ⟨rfl, rfl, Nat.le_of_ble_eq_true rfl⟩ rfl
        · push_cast [hb1, hb4]
        · push_cast [hb1, hb4]
    · rintro i_1 h
      replace h : p_helper_Fits_J2 i_1 = some r := h
      try push_cast
      unfold p_helper_Fits_J2 at h
      refine VC.ret ?_
      have hr := Option.some.inj h
      subst hr
      refine endP (Sub.lo _) (Post.ret ?_ ?_ ?_)
      · push_cast [hb1]
      · push_cast [hb1]
      · rfl
  · have hb1 : (a0 == 5) = false := by simpa using hc1
    replace h := cond_no hb1 h
    obtain ⟨v5, h, hk5⟩ := po_some h
    refine VC.seqJ (X := Bool) (fun x => p_helper_Fits_J5 a1 x = some r) (fun x => ⟨[(3, .ref 0 0), (15, .raw (.bool x))], [(0, .box 23 [.raw (.int .i64 a1.Kind), .raw (.int .i64 a1.Cap), .raw (.int .i64 a1.Words), .raw (.int .i64 a1.Ver)])], 13, 27, 0⟩) ?_ ?_
    · refine VC.seqF tabOkF [some 16, some 15] [3, 5, 15] rfl rfl (fun K hK => ?_)
      push_cast [hb1]
      repeat (refine And.intro (by omega) ?_)
      refine hK _ ?_
      clear hK K
      refine VC.cond rfl rfl (fun hc6 => ?_) (fun hc6 => ?_)
      · have hb6 : (a0 == 0) = true := by simpa using hc6
        replace h := cond_yes hb6 h
        refine VC.skip ?_
        have hv := Option.some.inj h
        rw [← hv] at hk5
        refine Exists.intro ((a0 == 0)) (And.intro hk5 ?_)
        refine Sub.trans (Sub.lo _) ?_
        refine Sub.of ?_ ?_ ⟨rfl, rfl, Nat.le_of_ble_eq_true rfl⟩ rfl
        · push_cast [hb1, hb6]
        · push_cast [hb1, hb6]
      · have hb6 : (a0 == 0) = false := by simpa using hc6
        replace h := cond_no hb6 h
        refine VC.seqF tabOkF [some 17, some 15] [3, 5, 15] rfl rfl (fun K hK => ?_)
        push_cast [hb1, hb6]
        repeat (refine And.intro (by omega) ?_)
        refine hK _ ?_
        clear hK K
        refine VC.cond rfl rfl (fun hc7 => ?_) (fun hc7 => ?_)
        · have hb7 : (a0 == 1) = true := by simpa using hc7
          replace h := cond_yes hb7 h
          refine VC.skip ?_
          have hv := Option.some.inj h
          rw [← hv] at hk5
          refine Exists.intro ((a0 == 1)) (And.intro hk5 ?_)
          refine Sub.trans (Sub.lo _) ?_
          refine Sub.of ?_ ?_ ⟨rfl, rfl, Nat.le_of_ble_eq_true rfl⟩ rfl
          · push_cast [hb1, hb6, hb7]
          · push_cast [hb1, hb6, hb7]
        · have hb7 : (a0 == 1) = false := by simpa using hc7
          replace h := cond_no hb7 h
          refine VC.seqF tabOkF [some 18, some 15] [3, 5, 15] rfl rfl (fun K hK => ?_)
          push_cast [hb1, hb6, hb7]
          repeat (refine And.intro (by omega) ?_)
          refine hK _ ?_
          clear hK K
          refine VC.cond rfl rfl (fun hc8 => ?_) (fun hc8 => ?_)
          · have hb8 : (a0 == 2) = true := by simpa using hc8
            replace h := cond_yes hb8 h
            refine VC.skip ?_
            have hv := Option.some.inj h
            rw [← hv] at hk5
            refine Exists.intro ((a0 == 2)) (And.intro hk5 ?_)
            refine Sub.trans (Sub.lo _) ?_
            refine Sub.of ?_ ?_ ⟨rfl, rfl, Nat.le_of_ble_eq_true rfl⟩ rfl
            · push_cast [hb1, hb6, hb7, hb8]
            · push_cast [hb1, hb6, hb7, hb8]
          · have hb8 : (a0 == 2) = false := by simpa using hc8
            replace h := cond_no hb8 h
            refine VC.lastF tabOkF [some 19, some 15] rfl rfl (fun K hK => ?_)
            push_cast [hb1, hb6, hb7, hb8]
            repeat (refine And.intro (by omega) ?_)
            refine hK _ ?_
            clear hK K
            have hv := Option.some.inj h
            rw [← hv] at hk5
            refine Exists.intro ((a0 == 3)) (And.intro hk5 ?_)
            refine Sub.trans (Sub.lo _) ?_
            refine Sub.of ?_ ?_ ⟨rfl, rfl, Nat.le_of_ble_eq_true rfl⟩ rfl
            · push_cast [hb1, hb6, hb7, hb8]
            · push_cast [hb1, hb6, hb7, hb8]
    · rintro i_2 h
      replace h : p_helper_Fits_J5 a1 i_2 = some r := h
      try push_cast
      unfold p_helper_Fits_J5 at h
      refine VC.cond rfl rfl (fun hc9 => ?_) (fun hc9 => ?_)
      · have hb9 : i_2 = true := by simpa using hc9
        replace h := cond_yes hb9 h
        obtain ⟨v10, h, hk10⟩ := po_some h
        refine VC.seqJ (X := Bool) (fun x => p_helper_Fits_J10 x = some r) (fun x => ⟨[(4, .raw (.bool x))], [], 21, 27, 0⟩) ?_ ?_
        · obtain ⟨r11, hr11, h⟩ := po_some h
          rcases Bool.eq_false_or_eq_true r11 with hb12 | hb12
          · replace h := cond_yes hb12 h
            refine VC.lastF tabOkF [some 20, some 21, some 22, some 23, some 24, some 25, some 26, some 4] rfl rfl (fun K hK => ?_)
            push_cast [hb1, hb9, hb12]
            repeat (refine And.intro (by omega) ?_)
            refine callP (Ctr.lo (c_schema_May a1 hr11)) rfl ?_
            push_cast [hb1, hb9, hb12]
            repeat (refine And.intro (by omega) ?_)
            refine hK _ ?_
            clear hK K
            have hv := Option.some.inj h
            rw [← hv] at hk10
            refine Exists.intro ((a1.Kind != 3)) (And.intro hk10 ?_)
            refine Sub.trans (Sub.lo _) ?_
            refine Sub.of ?_ ?_ ⟨rfl, rfl, Nat.le_of_ble_eq_true rfl⟩ rfl
            · push_cast [hb1, hb9, hb12]
            · push_cast [hb1, hb9, hb12]
          · replace h := cond_no hb12 h
            refine VC.lastF tabOkF [some 20, some 21, some 22, some 23, some 24, some 25, some 26, some 4] rfl rfl (fun K hK => ?_)
            push_cast [hb1, hb9, hb12]
            repeat (refine And.intro (by omega) ?_)
            refine callP (Ctr.lo (c_schema_May a1 hr11)) rfl ?_
            push_cast [hb1, hb9, hb12]
            repeat (refine And.intro (by omega) ?_)
            refine hK _ ?_
            clear hK K
            have hv := Option.some.inj h
            rw [← hv] at hk10
            refine Exists.intro (false) (And.intro hk10 ?_)
            refine Sub.trans (Sub.lo _) ?_
            refine Sub.of ?_ ?_ ⟨rfl, rfl, Nat.le_of_ble_eq_true rfl⟩ rfl
            · push_cast [hb1, hb9, hb12]
            · push_cast [hb1, hb9, hb12]
        · rintro i_3 h
          replace h : p_helper_Fits_J10 i_3 = some r := h
          try push_cast
          unfold p_helper_Fits_J10 at h
          refine VC.ret ?_
          have hr := Option.some.inj h
          subst hr
          refine endP (Sub.lo _) (Post.ret ?_ ?_ ?_)
          · push_cast [hb1, hb9]
          · push_cast [hb1, hb9]
          · rfl
      · have hb9 : i_2 = false := by simpa using hc9
        replace h := cond_no hb9 h
        refine VC.skip ?_
        refine VC.seqF tabOkF [some 4] [4] rfl rfl (fun K hK => ?_)
        push_cast [hb1, hb9]
        repeat (refine And.intro (by omega) ?_)
        refine hK _ ?_
        clear hK K
        refine VC.ret ?_
        have hr := Option.some.inj h
        subst hr
        refine endP (Sub.lo _) (Post.ret ?_ ?_ ?_)
        · push_cast [hb1, hb9]
        · push_cast [hb1, hb9]
        · rfl
end Go.Proofs.Ytpmnchgpbojppaa

/- The plain function of slices.Clone   drydock/api.Entry drydock/api.Entry . -/
set_option linter.unusedVariables false
set_option linter.unusedSimpArgs false
namespace Go.Proofs.Ytpmnchgpbojppaa
open Go Go.RowKit Go.Proofs.Try
def p_slices_Clone_api_Entry_api_Entry (a0 : List T_Entry) : Option (List T_Entry) := pg (a0.length * 32 ≤ 140737488355328) (some a0)
theorem p_slices_Clone_api_Entry_api_Entry_of {a0 : List T_Entry} (h : a0.length * 32 ≤ 140737488355328) : p_slices_Clone_api_Entry_api_Entry a0 = some a0 := pg_of h
set_option maxHeartbeats 4000000 in
set_option maxRecDepth 100000 in
theorem c_slices_Clone_api_Entry_api_Entry (a0 : List T_Entry) {r : List T_Entry} (h : p_slices_Clone_api_Entry_api_Entry a0 = some r) : Ctr prog 80 [.sl false (a0.map enc_Entry)] [] (.row 0 0 2 0 r.length) [(0, .row 39 2 0 (r.map enc_Entry))] := by
  unfold p_slices_Clone_api_Entry_api_Entry at h
  obtain ⟨hg, h⟩ := pg_some h
  have hr := Option.some.inj h
  subst hr
  refine Ctr.ofW tabOk func80 rfl call80 0 _ ntmps80 [.tmp 2] rfl rfl rfl (fun B => ?_)
  refine VC.seqF tabOkF [some 2] [0] rfl rfl (fun K hK => ?_)
  push_cast
  refine hK _ ?_
  clear hK K
  refine VC.seq ?_
  refine VC.seqF tabOkF [some 3, some 4] [0, 4] rfl rfl (fun K hK => ?_)
  push_cast
  intro bn hbn
  refine hK _ ?_
  clear hK K
  refine VC.cond rfl rfl (fun hc => ?_) (fun hc => ?_)
  · have hn : a0 = [] := by
      have := hbn hc
      cases a0 with
      | nil => rfl
      | cons _ _ => simp at this
    subst hn
    refine VC.seqF tabOkF [some 2] [2] rfl rfl (fun K hK => ?_)
    push_cast
    refine hK _ ?_
    clear hK K
    refine VC.ret ?_
    refine endS (Sub.adoptT (k := 2) (e := 39) (sz := 2) rfl) ?_
    refine endS (Sub.renT (k := 2) (i' := 0) rfl rfl (Nat.le_of_ble_eq_true rfl) (Nat.le_of_ble_eq_true rfl) rfl) ?_
    refine endP (Sub.lo _) (Post.ret ?_ ?_ ?_)
    · push_cast
    · push_cast
    · rfl
  · refine VC.skip ?_
    refine VC.seqF tabOkF [some 5, some 6, some 7, some 2] [2] rfl rfl (fun K hK => ?_)
    push_cast [hg]
    repeat (refine And.intro (by omega) ?_)
    refine hK _ ?_
    clear hK K
    refine VC.ret ?_
    refine endS (Sub.renT (k := 2) (i' := 0) rfl rfl (Nat.le_of_ble_eq_true rfl) (Nat.le_of_ble_eq_true rfl) rfl) ?_
    refine endP (Sub.lo _) (Post.ret ?_ ?_ ?_)
    · push_cast
    · push_cast
    · rfl
end Go.Proofs.Ytpmnchgpbojppaa

/- The plain function of slices.Clone   drydock/api.Table drydock/api.Table . -/
set_option linter.unusedVariables false
set_option linter.unusedSimpArgs false
namespace Go.Proofs.Ytpmnchgpbojppaa
open Go Go.RowKit Go.Proofs.Try
def p_slices_Clone_api_Table_api_Table (a0 : List T_Table) : Option (List T_Table) := pg (a0.length * 64 ≤ 140737488355328) (some a0)
theorem p_slices_Clone_api_Table_api_Table_of {a0 : List T_Table} (h : a0.length * 64 ≤ 140737488355328) : p_slices_Clone_api_Table_api_Table a0 = some a0 := pg_of h
set_option maxHeartbeats 4000000 in
set_option maxRecDepth 100000 in
theorem c_slices_Clone_api_Table_api_Table (a0 : List T_Table) {r : List T_Table} (h : p_slices_Clone_api_Table_api_Table a0 = some r) : Ctr prog 79 [.sl false (a0.map enc_Table)] [] (.row 0 0 6 0 r.length) [(0, .row 27 6 0 (r.map enc_Table))] := by
  unfold p_slices_Clone_api_Table_api_Table at h
  obtain ⟨hg, h⟩ := pg_some h
  have hr := Option.some.inj h
  subst hr
  refine Ctr.ofW tabOk func79 rfl call79 0 _ ntmps79 [.tmp 2] rfl rfl rfl (fun B => ?_)
  refine VC.seqF tabOkF [some 2] [0] rfl rfl (fun K hK => ?_)
  push_cast
  refine hK _ ?_
  clear hK K
  refine VC.seq ?_
  refine VC.seqF tabOkF [some 3, some 4] [0, 4] rfl rfl (fun K hK => ?_)
  push_cast
  intro bn hbn
  refine hK _ ?_
  clear hK K
  refine VC.cond rfl rfl (fun hc => ?_) (fun hc => ?_)
  · have hn : a0 = [] := by
      have := hbn hc
      cases a0 with
      | nil => rfl
      | cons _ _ => simp at this
    subst hn
    refine VC.seqF tabOkF [some 2] [2] rfl rfl (fun K hK => ?_)
    push_cast
    refine hK _ ?_
    clear hK K
    refine VC.ret ?_
    refine endS (Sub.adoptT (k := 2) (e := 27) (sz := 6) rfl) ?_
    refine endS (Sub.renT (k := 2) (i' := 0) rfl rfl (Nat.le_of_ble_eq_true rfl) (Nat.le_of_ble_eq_true rfl) rfl) ?_
    refine endP (Sub.lo _) (Post.ret ?_ ?_ ?_)
    · push_cast
    · push_cast
    · rfl
  · refine VC.skip ?_
    refine VC.seqF tabOkF [some 5, some 6, some 7, some 2] [2] rfl rfl (fun K hK => ?_)
    push_cast [hg]
    repeat (refine And.intro (by omega) ?_)
    refine hK _ ?_
    clear hK K
    refine VC.ret ?_
    refine endS (Sub.renT (k := 2) (i' := 0) rfl rfl (Nat.le_of_ble_eq_true rfl) (Nat.le_of_ble_eq_true rfl) rfl) ?_
    refine endP (Sub.lo _) (Post.ret ?_ ?_ ?_)
    · push_cast
    · push_cast
    · rfl
end Go.Proofs.Ytpmnchgpbojppaa

/- The plain function of slices.Clone   uint32 uint32 . -/
set_option linter.unusedVariables false
set_option linter.unusedSimpArgs false
namespace Go.Proofs.Ytpmnchgpbojppaa
open Go Go.RowKit Go.Proofs.Try
def p_slices_Clone_uint32_uint32 (a0 : List UInt32) : Option (List UInt32) := pg (a0.length * 4 ≤ 140737488355328) (some a0)
theorem p_slices_Clone_uint32_uint32_of {a0 : List UInt32} (h : a0.length * 4 ≤ 140737488355328) : p_slices_Clone_uint32_uint32 a0 = some a0 := pg_of h
set_option maxHeartbeats 4000000 in
set_option maxRecDepth 100000 in
theorem c_slices_Clone_uint32_uint32 (a0 : List UInt32) {r : List UInt32} (h : p_slices_Clone_uint32_uint32 a0 = some r) : Ctr prog 81 [.sl false (a0.map encU32)] [] (.row 0 0 1 0 r.length) [(0, .row 25 1 0 (r.map encU32))] := by
  unfold p_slices_Clone_uint32_uint32 at h
  obtain ⟨hg, h⟩ := pg_some h
  have hr := Option.some.inj h
  subst hr
  refine Ctr.ofW tabOk func81 rfl call81 0 _ ntmps81 [.tmp 2] rfl rfl rfl (fun B => ?_)
  refine VC.seqF tabOkF [some 2] [0] rfl rfl (fun K hK => ?_)
  push_cast
  refine hK _ ?_
  clear hK K
  refine VC.seq ?_
  refine VC.seqF tabOkF [some 3, some 4] [0, 4] rfl rfl (fun K hK => ?_)
  push_cast
  intro bn hbn
  refine hK _ ?_
  clear hK K
  refine VC.cond rfl rfl (fun hc => ?_) (fun hc => ?_)
  · have hn : a0 = [] := by
      have := hbn hc
      cases a0 with
      | nil => rfl
      | cons _ _ => simp at this
    subst hn
    refine VC.seqF tabOkF [some 2] [2] rfl rfl (fun K hK => ?_)
    push_cast
    refine hK _ ?_
    clear hK K
    refine VC.ret ?_
    refine endS (Sub.adoptT (k := 2) (e := 25) (sz := 1) rfl) ?_
    refine endS (Sub.renT (k := 2) (i' := 0) rfl rfl (Nat.le_of_ble_eq_true rfl) (Nat.le_of_ble_eq_true rfl) rfl) ?_
    refine endP (Sub.lo _) (Post.ret ?_ ?_ ?_)
    · push_cast
    · push_cast
    · rfl
  · refine VC.skip ?_
    refine VC.seqF tabOkF [some 5, some 6, some 7, some 2] [2] rfl rfl (fun K hK => ?_)
    push_cast [hg]
    repeat (refine And.intro (by omega) ?_)
    refine hK _ ?_
    clear hK K
    refine VC.ret ?_
    refine endS (Sub.renT (k := 2) (i' := 0) rfl rfl (Nat.le_of_ble_eq_true rfl) (Nat.le_of_ble_eq_true rfl) rfl) ?_
    refine endP (Sub.lo _) (Post.ret ?_ ?_ ?_)
    · push_cast
    · push_cast
    · rfl
end Go.Proofs.Ytpmnchgpbojppaa

/- The plain function of drydock/helper.own. -/
set_option linter.unusedVariables false
set_option linter.unusedSimpArgs false
namespace Go.Proofs.Ytpmnchgpbojppaa
open Go Go.RowKit Go.Proofs.Try
noncomputable def p_helper_own_L9 (r7 : (List T_Entry)) (s_48 : T_Env) (s_49 : T_Table) (i_50 : Int) : Option ((T_Env × T_Table × Int) ⊕ (T_Env × T_Table)) :=
  cond (decide (i_50 < (r7.length : Int))) (
  po (idx s_49.E i_50) fun x11 =>
  po (p_slices_Clone_uint32_uint32 x11.V) fun r12 =>
  pl (s_49.E.set i_50.toNat (T_Entry.mk x11.Key r12)) fun y13 =>
  some (Sum.inl (s_48, (T_Table.mk s_49.S y13 s_49.Next), (IntKind.i64.wrap (i_50 + 1))))) (
  some (Sum.inr (s_48, s_49)))
noncomputable def p_helper_own_J8 (i_19 : Int) (s_54 : T_Env) (s_55 : T_Table) : Option (T_Env) :=
  po (idx s_54.T i_19) fun x14 =>
  pl (s_54.T.set i_19.toNat s_55) fun y15 =>
  some (T_Env.mk s_54.Ctx y15 s_54.Seed)
noncomputable def p_helper_own_J5 (i_19 : Int) (s_28 : T_Env) : Option ((T_Env × Int) ⊕ (T_Env)) :=
  some (Sum.inl (s_28, (IntKind.i64.wrap (i_19 + 1))))
noncomputable def p_helper_own_L3 (r1 : (List T_Table)) (s_18 : T_Env) (i_19 : Int) : Option ((T_Env × Int) ⊕ (T_Env)) :=
  cond (decide (i_19 < (r1.length : Int))) (
  po (
  po (idx s_18.T i_19) fun x6 =>
  po (p_slices_Clone_api_Entry_api_Entry x6.E) fun r7 =>
  po (
  lpU (fun x => p_helper_own_L9 r7 x.1 x.2.1 x.2.2) (s_18, (T_Table.mk x6.S r7 x6.Next), 0)) (fun x => p_helper_own_J8 i_19 x.1 x.2)) (fun x => p_helper_own_J5 i_19 x)) (
  some (Sum.inr s_18))
noncomputable def p_helper_own_J2 (s_47 : T_Env) : Option (T_Env) :=
  some s_47
noncomputable def p_helper_own (a0 : T_Env) : Option (T_Env) :=
  po (p_slices_Clone_api_Table_api_Table a0.T) fun r1 =>
  po (
  lpU (fun x => p_helper_own_L3 r1 x.1 x.2) ((T_Env.mk a0.Ctx r1 a0.Seed), 0)) (fun x => p_helper_own_J2 x)
set_option maxHeartbeats 4000000 in
set_option maxRecDepth 100000 in
theorem c_helper_own (a0 : T_Env) {r : T_Env} (h : p_helper_own a0 = some r) : Ctr prog 68 [.agg (enc_Env a0)] [] (.agg [.raw (.int .u32 (r.Ctx.a0.toNat : Int)), .raw (.int .u32 (r.Ctx.a1.toNat : Int)), .raw (.int .u32 (r.Ctx.a2.toNat : Int)), .raw (.int .u32 (r.Ctx.a3.toNat : Int)), .row 0 0 6 0 r.T.length, .raw (.int .u32 (r.Seed.toNat : Int))]) [(0, .row 27 6 0 (r.T.map enc_Table))] := by
  unfold p_helper_own at h
  refine Ctr.ofW tabOk func68 rfl call68 0 _ ntmps68 [.cell 2 55] rfl rfl rfl (fun B => ?_)
  refine VC.seqF tabOkF [some 1, some 2] [1, 2] rfl rfl (fun K hK => ?_)
  push_cast
  repeat (refine And.intro (by omega) ?_)
  refine hK _ ?_
  clear hK K
  obtain ⟨r1, hr1, h⟩ := po_some h
  refine VC.seqF tabOkF [some 6, some 7, some 8, some 9, none] [1, 2] rfl rfl (fun K hK => ?_)
  push_cast
  repeat (refine And.intro (by omega) ?_)
  refine callH (H := []) (Ctr.loH (Ctr.ren (Bij.swp 0 4 Bij.id) (c_slices_Clone_api_Table_api_Table a0.T hr1) (by push_cast) (by push_cast))) (by push_cast) rfl rfl rfl ?_
  push_cast
  repeat (refine And.intro (by omega) ?_)
  refine hK _ ?_
  clear hK K
  refine VC.sub (s' := ⟨[(1, .ref 0 0), (2, .ref 1 0)], [(0, .box 55 [.raw (.int .u32 (a0.Ctx.a0.toNat : Int)), .raw (.int .u32 (a0.Ctx.a1.toNat : Int)), .raw (.int .u32 (a0.Ctx.a2.toNat : Int)), .raw (.int .u32 (a0.Ctx.a3.toNat : Int)), .row 4 0 6 0 r1.length, .raw (.int .u32 (a0.Seed.toNat : Int))]), (1, .box 55 [.raw (.int .u32 0), .raw (.int .u32 0), .raw (.int .u32 0), .raw (.int .u32 0), .sl true [], .raw (.int .u32 0)]), (4, .row 27 6 0 (r1.map enc_Table))], 7, 48, 0⟩) (Sub.of ?_ ?_ ⟨rfl, rfl, Nat.le_of_ble_eq_true rfl⟩ rfl) ?_
  · push_cast
  · push_cast
  obtain ⟨v2, h, hk2⟩ := po_some h
  refine VC.seqJ (X := T_Env) (fun x => p_helper_own_J2 x = some r) (fun x => ⟨[(1, .ref 0 0), (2, .ref 1 0)], [(0, .box 55 [.raw (.int .u32 (x.Ctx.a0.toNat : Int)), .raw (.int .u32 (x.Ctx.a1.toNat : Int)), .raw (.int .u32 (x.Ctx.a2.toNat : Int)), .raw (.int .u32 (x.Ctx.a3.toNat : Int)), .row 4 0 6 0 x.T.length, .raw (.int .u32 (x.Seed.toNat : Int))]), (1, .box 55 [.raw (.int .u32 0), .raw (.int .u32 0), .raw (.int .u32 0), .raw (.int .u32 0), .sl true [], .raw (.int .u32 0)]), (4, .row 27 6 0 (x.T.map enc_Table))], 55, 48, 0⟩) ?_ ?_
  · refine VC.seqF tabOkF [some 10, some 11, some 12, some 13] [1, 2, 11, 12, 13] rfl rfl (fun K hK => ?_)
    push_cast
    repeat (refine And.intro (by omega) ?_)
    refine hK _ ?_
    clear hK K
    refine VC.block ?_
    refine VC.loopP h (fun x => ⟨[(1, .ref 0 0), (2, .ref 1 0), (11, .row 4 0 6 0 x.1.T.length), (12, .raw (.int .i64 (r1.length : Int))), (13, .raw (.int .i64 x.2))], [(0, .box 55 [.raw (.int .u32 (x.1.Ctx.a0.toNat : Int)), .raw (.int .u32 (x.1.Ctx.a1.toNat : Int)), .raw (.int .u32 (x.1.Ctx.a2.toNat : Int)), .raw (.int .u32 (x.1.Ctx.a3.toNat : Int)), .row 4 0 6 0 x.1.T.length, .raw (.int .u32 (x.1.Seed.toNat : Int))]), (1, .box 55 [.raw (.int .u32 0), .raw (.int .u32 0), .raw (.int .u32 0), .raw (.int .u32 0), .sl true [], .raw (.int .u32 0)]), (4, .row 27 6 0 (x.1.T.map enc_Table))], 54, 48, 0⟩) ?_ ?_
    · refine Sub.of ?_ ?_ ⟨rfl, rfl, Nat.le_of_ble_eq_true rfl⟩ rfl
      · push_cast
      · push_cast
    rintro ⟨s_18, i_19⟩ b3 h hf3
    replace h : p_helper_own_L3 r1 s_18 i_19 = some b3 := h
    try push_cast
    unfold p_helper_own_L3 at h
    refine VC.seqF tabOkF [some 14] [1, 2, 11, 12, 13, 14] rfl rfl (fun K hK => ?_)
    push_cast
    repeat (refine And.intro (by omega) ?_)
    refine hK _ ?_
    clear hK K
    refine VC.seq ?_
    refine VC.cond rfl rfl (fun hc4 => ?_) (fun hc4 => ?_)
    · have hb4 : (decide (i_19 < (r1.length : Int))) = true := by simpa using hc4
      replace h := cond_yes hb4 h
      refine VC.skip ?_
      obtain ⟨v5, h, hk5⟩ := po_some h
      refine VC.seqJ (X := T_Env) (fun x => p_helper_own_J5 i_19 x = some b3) (fun x => ⟨[(1, .ref 0 0), (2, .ref 1 0), (11, .row 4 0 6 0 x.T.length), (12, .raw (.int .i64 (r1.length : Int))), (13, .raw (.int .i64 i_19))], [(0, .box 55 [.raw (.int .u32 (x.Ctx.a0.toNat : Int)), .raw (.int .u32 (x.Ctx.a1.toNat : Int)), .raw (.int .u32 (x.Ctx.a2.toNat : Int)), .raw (.int .u32 (x.Ctx.a3.toNat : Int)), .row 4 0 6 0 x.T.length, .raw (.int .u32 (x.Seed.toNat : Int))]), (1, .box 55 [.raw (.int .u32 0), .raw (.int .u32 0), .raw (.int .u32 0), .raw (.int .u32 0), .sl true [], .raw (.int .u32 0)]), (4, .row 27 6 0 (x.T.map enc_Table))], 95, 48, 0⟩) ?_ ?_
      · refine VC.block ?_
        obtain ⟨x6, hx6, h⟩ := po_some h
        obtain ⟨hx61, hx62, hx63, hx64⟩ := idx_some4 hx6
        refine VC.seqF tabOkF [some 15, some 16, some 17, some 4, some 3, none] [1, 2, 3, 4, 11, 12, 13] rfl rfl (fun K hK => ?_)
        push_cast [hb4, hx61, hx62, hx63, hx64]
        repeat (refine And.intro (by omega) ?_)
        refine hK _ ?_
        clear hK K
        obtain ⟨r7, hr7, h⟩ := po_some h
        refine VC.seqF tabOkF [some 18, some 19, some 20, some 21, none] [1, 2, 3, 4, 11, 12, 13] rfl rfl (fun K hK => ?_)
        push_cast [hb4, hx61, hx62, hx63, hx64]
        repeat (refine And.intro (by omega) ?_)
        refine callH (H := []) (Ctr.loH (Ctr.ren (Bij.swp 0 63 Bij.id) (c_slices_Clone_api_Entry_api_Entry x6.E hr7) (by push_cast [hb4, hx61, hx62, hx63, hx64]) (by push_cast [hb4, hx61, hx62, hx63, hx64]))) (by push_cast [hb4, hx61, hx62, hx63, hx64]) rfl rfl rfl ?_
        push_cast [hb4, hx61, hx62, hx63, hx64]
        repeat (refine And.intro (by omega) ?_)
        refine hK _ ?_
        clear hK K
        refine VC.sub (s' := ⟨[(1, .ref 0 0), (2, .ref 1 0), (3, .raw (.int .i64 i_19)), (4, .ref 58 0), (11, .row 4 0 6 0 s_18.T.length), (12, .raw (.int .i64 (r1.length : Int))), (13, .raw (.int .i64 i_19))], [(0, .box 55 [.raw (.int .u32 (s_18.Ctx.a0.toNat : Int)), .raw (.int .u32 (s_18.Ctx.a1.toNat : Int)), .raw (.int .u32 (s_18.Ctx.a2.toNat : Int)), .raw (.int .u32 (s_18.Ctx.a3.toNat : Int)), .row 4 0 6 0 s_18.T.length, .raw (.int .u32 (s_18.Seed.toNat : Int))]), (1, .box 55 [.raw (.int .u32 0), .raw (.int .u32 0), .raw (.int .u32 0), .raw (.int .u32 0), .sl true [], .raw (.int .u32 0)]), (4, .row 27 6 0 (s_18.T.map enc_Table)), (58, .box 27 [.raw (.int .i64 x6.S.Kind), .raw (.int .i64 x6.S.Cap), .raw (.int .i64 x6.S.Words), .raw (.int .i64 x6.S.Ver), .row 63 0 2 0 r7.length, .raw (.int .u32 (x6.Next.toNat : Int))]), (63, .row 39 2 0 (r7.map enc_Entry))], 66, 48, 0⟩) (Sub.of ?_ ?_ ⟨rfl, rfl, Nat.le_of_ble_eq_true rfl⟩ rfl) ?_
        · push_cast [hb4]
        · push_cast [hb4]
        obtain ⟨v8, h, hk8⟩ := po_some h
        refine VC.seqJ (X := T_Env × T_Table) (fun x => p_helper_own_J8 i_19 x.1 x.2 = some v5) (fun x => ⟨[(1, .ref 0 0), (2, .ref 1 0), (3, .raw (.int .i64 i_19)), (4, .ref 58 0), (11, .row 4 0 6 0 x.1.T.length), (12, .raw (.int .i64 (r1.length : Int))), (13, .raw (.int .i64 i_19))], [(0, .box 55 [.raw (.int .u32 (x.1.Ctx.a0.toNat : Int)), .raw (.int .u32 (x.1.Ctx.a1.toNat : Int)), .raw (.int .u32 (x.1.Ctx.a2.toNat : Int)), .raw (.int .u32 (x.1.Ctx.a3.toNat : Int)), .row 4 0 6 0 x.1.T.length, .raw (.int .u32 (x.1.Seed.toNat : Int))]), (1, .box 55 [.raw (.int .u32 0), .raw (.int .u32 0), .raw (.int .u32 0), .raw (.int .u32 0), .sl true [], .raw (.int .u32 0)]), (4, .row 27 6 0 (x.1.T.map enc_Table)), (58, .box 27 [.raw (.int .i64 x.2.S.Kind), .raw (.int .i64 x.2.S.Cap), .raw (.int .i64 x.2.S.Words), .raw (.int .i64 x.2.S.Ver), .row 63 0 2 0 x.2.E.length, .raw (.int .u32 (x.2.Next.toNat : Int))]), (63, .row 39 2 0 (x.2.E.map enc_Entry))], 89, 48, 0⟩) ?_ ?_
        · refine VC.seqF tabOkF [some 22, some 23, some 24, some 25] [1, 2, 3, 4, 11, 12, 13, 24, 25] rfl rfl (fun K hK => ?_)
          push_cast [hb4, hx61, hx62, hx63, hx64]
          repeat (refine And.intro (by omega) ?_)
          refine hK _ ?_
          clear hK K
          refine VC.block ?_
          refine VC.loopP h (fun x => ⟨[(1, .ref 0 0), (2, .ref 1 0), (3, .raw (.int .i64 i_19)), (4, .ref 58 0), (11, .row 4 0 6 0 x.1.T.length), (12, .raw (.int .i64 (r1.length : Int))), (13, .raw (.int .i64 i_19)), (24, .raw (.int .i64 (r7.length : Int))), (25, .raw (.int .i64 x.2.2))], [(0, .box 55 [.raw (.int .u32 (x.1.Ctx.a0.toNat : Int)), .raw (.int .u32 (x.1.Ctx.a1.toNat : Int)), .raw (.int .u32 (x.1.Ctx.a2.toNat : Int)), .raw (.int .u32 (x.1.Ctx.a3.toNat : Int)), .row 4 0 6 0 x.1.T.length, .raw (.int .u32 (x.1.Seed.toNat : Int))]), (1, .box 55 [.raw (.int .u32 0), .raw (.int .u32 0), .raw (.int .u32 0), .raw (.int .u32 0), .sl true [], .raw (.int .u32 0)]), (4, .row 27 6 0 (x.1.T.map enc_Table)), (58, .box 27 [.raw (.int .i64 x.2.1.S.Kind), .raw (.int .i64 x.2.1.S.Cap), .raw (.int .i64 x.2.1.S.Words), .raw (.int .i64 x.2.1.S.Ver), .row 63 0 2 0 x.2.1.E.length, .raw (.int .u32 (x.2.1.Next.toNat : Int))]), (63, .row 39 2 0 (x.2.1.E.map enc_Entry))], 88, 48, 0⟩) ?_ ?_
          · refine Sub.of ?_ ?_ ⟨rfl, rfl, Nat.le_of_ble_eq_true rfl⟩ rfl
            · push_cast [hb4]
            · push_cast [hb4]
          rintro ⟨s_48, s_49, i_50⟩ b9 h hf9
          replace h : p_helper_own_L9 r7 s_48 s_49 i_50 = some b9 := h
          try push_cast
          unfold p_helper_own_L9 at h
          refine VC.seqF tabOkF [some 26] [1, 2, 3, 4, 11, 12, 13, 24, 25, 26] rfl rfl (fun K hK => ?_)
          push_cast [hb4, hx61, hx62, hx63, hx64]
          repeat (refine And.intro (by omega) ?_)
          refine hK _ ?_
          clear hK K
          refine VC.seq ?_
          refine VC.cond rfl rfl (fun hc10 => ?_) (fun hc10 => ?_)
          · have hb10 : (decide (i_50 < (r7.length : Int))) = true := by simpa using hc10
            replace h := cond_yes hb10 h
            refine VC.skip ?_
            refine VC.seq ?_
            refine VC.block ?_
            refine VC.seqF tabOkF [some 27, some 5] [1, 2, 3, 4, 5, 11, 12, 13, 24, 25] rfl rfl (fun K hK => ?_)
            push_cast [hb4, hx61, hx62, hx63, hx64, hb10]
            repeat (refine And.intro (by omega) ?_)
            refine hK _ ?_
            clear hK K
            obtain ⟨x11, hx11, h⟩ := po_some h
            obtain ⟨hx111, hx112, hx113, hx114⟩ := idx_some4 hx11
            obtain ⟨r12, hr12, h⟩ := po_some h
            obtain ⟨y13, hy13, h⟩ := pl_some h
            have hy13l : y13.length = s_49.E.length := by rw [hy13, List.length_set]
            refine VC.lastFD tabOkF hmixO [some 28, some 29, some 30, some 31, some 32, some 33, some 34, some 35, some 36, some 37, some 38, some 39, none] rfl rfl rfl (fun K hK => ?_)
            refine runD_cut 8 (fun K2 hK2 => ?_)
            push_cast [hb4, hx61, hx62, hx63, hx64, hb10, hx111, hx112, hx113, hx114]
            repeat (refine And.intro (by omega) ?_)
            refine hK2 _ _ _ ?_
            clear hK2 K2
            simp only [List.drop_succ_cons, List.drop_zero]
            push_cast [hb4, hx61, hx62, hx63, hx64, hb10, hx111, hx112, hx113, hx114]
            repeat (refine And.intro (by omega) ?_)
            refine callHD (H := []) (Ctr.loH (Ctr.ren (Bij.swp 0 100 Bij.id) (c_slices_Clone_uint32_uint32 x11.V hr12) (by push_cast [hb4, hx61, hx62, hx63, hx64, hb10, hx111, hx112, hx113, hx114]) (by push_cast [hb4, hx61, hx62, hx63, hx64, hb10, hx111, hx112, hx113, hx114]))) (by push_cast [hb4, hx61, hx62, hx63, hx64, hb10, hx111, hx112, hx113, hx114]) rfl rfl rfl ?_
            push_cast [hb4, hx61, hx62, hx63, hx64, hb10, hx111, hx112, hx113, hx114]
            repeat (refine And.intro (by omega) ?_)
            refine ⟨rfl, hK _ ?_⟩
            clear hK K
            refine VC.lastF tabOkF [some 40, some 25] rfl rfl (fun K hK => ?_)
            push_cast [hb4, hx61, hx62, hx63, hx64, hb10, hx111, hx112, hx113, hx114]
            repeat (refine And.intro (by omega) ?_)
            refine hK _ ?_
            clear hK K
            refine Exists.intro ((s_48, (T_Table.mk s_49.S y13 s_49.Next), (IntKind.i64.wrap (i_50 + 1)))) (And.intro (Option.some.inj h).symm ?_)
            refine Sub.of ?_ ?_ ⟨rfl, rfl, Nat.le_of_ble_eq_true rfl⟩ rfl
            · push_cast [hb4, hb10, hy13, hy13l]
            · push_cast [hb4, hb10, hy13, hy13l]
          · have hb10 : (decide (i_50 < (r7.length : Int))) = false := by simpa using hc10
            replace h := cond_no hb10 h
            refine VC.exit ?_
            replace h := congrArg some (hf9 _ (Option.some.inj h).symm)
            have hv := Option.some.inj h
            rw [← hv] at hk8
            refine Exists.intro ((s_48, s_49)) (And.intro hk8 ?_)
            refine Sub.of ?_ ?_ ⟨rfl, rfl, Nat.le_of_ble_eq_true rfl⟩ rfl
            · push_cast [hb4, hb10]
            · push_cast [hb4, hb10]
        · rintro ⟨s_54, s_55⟩ h
          replace h : p_helper_own_J8 i_19 s_54 s_55 = some v5 := h
          try push_cast
          unfold p_helper_own_J8 at h
          obtain ⟨x14, hx14, h⟩ := po_some h
          obtain ⟨hx141, hx142, hx143, hx144⟩ := idx_some4 hx14
          obtain ⟨y15, hy15, h⟩ := pl_some h
          have hy15l : y15.length = s_54.T.length := by rw [hy15, List.length_set]
          refine VC.lastF tabOkF [some 41, some 42, some 43, some 44, some 45, none] rfl rfl (fun K hK => ?_)
          push_cast [hb4, hx61, hx62, hx63, hx64, hx141, hx142, hx143, hx144]
          repeat (refine And.intro (by omega) ?_)
          refine hK _ ?_
          clear hK K
          have hv := Option.some.inj h
          rw [← hv] at hk5
          refine Exists.intro ((T_Env.mk s_54.Ctx y15 s_54.Seed)) (And.intro hk5 ?_)
          refine Sub.of ?_ ?_ ⟨rfl, rfl, Nat.le_of_ble_eq_true rfl⟩ rfl
          · push_cast [hb4, hy15, hy15l]
          · push_cast [hb4, hy15, hy15l]
      · rintro s_28 h
        replace h : p_helper_own_J5 i_19 s_28 = some b3 := h
        try push_cast
        unfold p_helper_own_J5 at h
        refine VC.lastF tabOkF [some 46, some 13] rfl rfl (fun K hK => ?_)
        push_cast [hb4]
        repeat (refine And.intro (by omega) ?_)
        refine hK _ ?_
        clear hK K
        refine Exists.intro ((s_28, (IntKind.i64.wrap (i_19 + 1)))) (And.intro (Option.some.inj h).symm ?_)
        refine Sub.of ?_ ?_ ⟨rfl, rfl, Nat.le_of_ble_eq_true rfl⟩ rfl
        · push_cast [hb4]
        · push_cast [hb4]
    · have hb4 : (decide (i_19 < (r1.length : Int))) = false := by simpa using hc4
      replace h := cond_no hb4 h
      refine VC.exit ?_
      replace h := congrArg some (hf3 _ (Option.some.inj h).symm)
      have hv := Option.some.inj h
      rw [← hv] at hk2
      refine Exists.intro (s_18) (And.intro hk2 ?_)
      refine Sub.of ?_ ?_ ⟨rfl, rfl, Nat.le_of_ble_eq_true rfl⟩ rfl
      · push_cast [hb4]
      · push_cast [hb4]
  · rintro s_47 h
    replace h : p_helper_own_J2 s_47 = some r := h
    try push_cast
    unfold p_helper_own_J2 at h
    refine VC.seqF tabOkF [some 47, none] [2] rfl rfl (fun K hK => ?_)
    push_cast
    repeat (refine And.intro (by omega) ?_)
    refine hK _ ?_
    clear hK K
    refine VC.ret ?_
    have hr := Option.some.inj h
    subst hr
    refine endS (Sub.of (s' := ⟨[(2, .ref 1 0)], [(1, .box 55 [.raw (.int .u32 (s_47.Ctx.a0.toNat : Int)), .raw (.int .u32 (s_47.Ctx.a1.toNat : Int)), .raw (.int .u32 (s_47.Ctx.a2.toNat : Int)), .raw (.int .u32 (s_47.Ctx.a3.toNat : Int)), .row 4 0 6 0 s_47.T.length, .raw (.int .u32 (s_47.Seed.toNat : Int))]), (4, .row 27 6 0 (s_47.T.map enc_Table))], 57, 48, 0⟩) (by push_cast) (by push_cast) ⟨rfl, rfl, Nat.le_of_ble_eq_true rfl⟩ rfl) ?_
    refine endS (Sub.renB (b := 1) (j := 4) (i' := 0) rfl rfl rfl (Nat.le_of_ble_eq_true rfl) (Nat.le_of_ble_eq_true rfl) rfl) ?_
    refine endP (Sub.lo _) (Post.ret ?_ ?_ ?_)
    · push_cast
    · push_cast
    · rfl
end Go.Proofs.Ytpmnchgpbojppaa

/- The plain function of drydock/helper.Call. -/
set_option linter.unusedVariables false
set_option linter.unusedSimpArgs false
namespace Go.Proofs.Ytpmnchgpbojppaa
open Go Go.RowKit Go.Proofs.Try
noncomputable def p_helper_Call_J13 (a0 : Int) (a2 : (List UInt32)) (x8 : UInt32) (x10 : T_Table) (s_4 : T_Env) (i_5 : Bool) : Option (T_Env × UInt32 × Int) :=
  cond i_5 (
  some (s_4, 0, 10)) (
  cond (a0 == 0) (
  po (p_helper_call_get (T_helper_call.mk x10) a2) fun r22 =>
  po (s_4.T[x8.toNat]?) fun x23 =>
  pl (s_4.T.set x8.toNat r22.2.t) fun y24 =>
  some ((T_Env.mk s_4.Ctx y24 s_4.Seed), r22.1, 0)) (
  cond (a0 == 1) (
  po (p_helper_call_set (T_helper_call.mk x10) a2) fun r26 =>
  po (s_4.T[x8.toNat]?) fun x27 =>
  pl (s_4.T.set x8.toNat r26.2.t) fun y28 =>
  some ((T_Env.mk s_4.Ctx y28 s_4.Seed), r26.1, 0)) (
  cond (a0 == 2) (
  po (p_helper_call_del (T_helper_call.mk x10) a2) fun r30 =>
  po (s_4.T[x8.toNat]?) fun x31 =>
  pl (s_4.T.set x8.toNat r30.2.t) fun y32 =>
  some ((T_Env.mk s_4.Ctx y32 s_4.Seed), r30.1, 0)) (
  cond (a0 == 3) (
  po (p_helper_call_has (T_helper_call.mk x10) a2) fun r34 =>
  po (s_4.T[x8.toNat]?) fun x35 =>
  pl (s_4.T.set x8.toNat r34.2.t) fun y36 =>
  some ((T_Env.mk s_4.Ctx y36 s_4.Seed), r34.1, 0)) (
  cond (a0 == 5) (
  po (p_helper_call_push (T_helper_call.mk x10) a2) fun r38 =>
  po (s_4.T[x8.toNat]?) fun x39 =>
  pl (s_4.T.set x8.toNat r38.2.t) fun y40 =>
  some ((T_Env.mk s_4.Ctx y40 s_4.Seed), r38.1, 0)) (
  none))))))
noncomputable def p_helper_Call_J11 (a0 : Int) (a2 : (List UInt32)) (x8 : UInt32) (x10 : T_Table) (s_2 : T_Env) (i_3 : Bool) : Option (T_Env × UInt32 × Int) :=
  po (
  po (p_helper_Fits a0 x10.S) fun r14 =>
  cond r14 (
  po (p_table_May x10) fun r16 =>
  cond r16 (
  cond i_3 (
  po (a2[2]?) fun x19 =>
  some (s_2, (decide ((x19.toNat : Int) ≥ (IntKind.u32.wrap x10.S.Words))))) (
  some (s_2, false))) (
  some (s_2, true))) (
  some (s_2, true))) (fun x => p_helper_Call_J13 a0 a2 x8 x10 x.1 x.2)
noncomputable def p_helper_Call_J2 (a0 : Int) (a1 : T_Env) (a2 : (List UInt32)) (i_1 : Bool) : Option (T_Env × UInt32 × Int) :=
  cond i_1 (
  some ((T_Env.mk (A4.mk 0 0 0 0) [] 0), 0, 1)) (
  po (p_helper_own a1) fun r5 =>
  cond (a0 == 4) (
  po (p_helper_Draw r5.Seed) fun r7 =>
  some ((T_Env.mk r5.Ctx r5.T r7), r7, 0)) (
  po (a2[0]?) fun x8 =>
  cond (decide ((IntKind.u64.wrap (x8.toNat : Int)) ≥ (IntKind.u64.wrap (r5.T.length : Int)))) (
  some (r5, 0, 10)) (
  po (r5.T[x8.toNat]?) fun x10 =>
  po (
  cond (a0 == 0) (
  some (r5, true)) (
  some (r5, (a0 == 1)))) (fun x => p_helper_Call_J11 a0 a2 x8 x10 x.1 x.2))))
noncomputable def p_helper_Call (a0 : Int) (a1 : T_Env) (a2 : (List UInt32)) : Option (T_Env × UInt32 × Int) :=
  po (p_helper_Args a0) fun r1 =>
  po (
  cond (r1 == -1) (
  some true) (
  some (r1 != (a2.length : Int)))) (fun x => p_helper_Call_J2 a0 a1 a2 x)
set_option maxHeartbeats 4000000 in
set_option maxRecDepth 100000 in
theorem c_helper_Call (a0 : Int) (a1 : T_Env) (a2 : (List UInt32)) {r : T_Env × UInt32 × Int} (h : p_helper_Call a0 a1 a2 = some r) : Ctr prog 42 [.raw (.int .i64 a0), .agg (enc_Env a1), .sl false (a2.map encU32)] [] (.tup [.agg [.raw (.int .u32 (r.1.Ctx.a0.toNat : Int)), .raw (.int .u32 (r.1.Ctx.a1.toNat : Int)), .raw (.int .u32 (r.1.Ctx.a2.toNat : Int)), .raw (.int .u32 (r.1.Ctx.a3.toNat : Int)), .row 0 0 6 0 r.1.T.length, .raw (.int .u32 (r.1.Seed.toNat : Int))], .raw (.int .u32 (r.2.1.toNat : Int)), .raw (.int .i64 r.2.2)]) [(0, .row 27 6 0 (r.1.T.map enc_Table))] := by
  unfold p_helper_Call at h
  refine Ctr.ofW tabOk func42 rfl call42 0 _ ntmps42 [.cell 6 55, .tmp 7, .tmp 8] rfl rfl rfl (fun B => ?_)
  refine VC.seqF tabOkF [some 4, some 6, some 7, some 8] [0, 2, 4, 6] rfl rfl (fun K hK => ?_)
  push_cast
  repeat (refine And.intro (by omega) ?_)
  refine hK _ ?_
  clear hK K
  refine VC.seq ?_
  obtain ⟨r1, hr1, h⟩ := po_some h
  refine VC.seqF tabOkF [some 14, some 15, some 9] [0, 2, 4, 6, 9] rfl rfl (fun K hK => ?_)
  push_cast
  repeat (refine And.intro (by omega) ?_)
  refine callP (Ctr.lo (c_helper_Args a0 hr1)) rfl ?_
  push_cast
  repeat (refine And.intro (by omega) ?_)
  refine hK _ ?_
  clear hK K
  obtain ⟨v2, h, hk2⟩ := po_some h
  refine VC.seqJ (X := Bool) (fun x => p_helper_Call_J2 a0 a1 a2 x = some r) (fun x => ⟨[(0, .raw (.int .i64 a0)), (2, .sl false (a2.map encU32)), (4, .ref 0 0), (6, .ref 1 0), (23, .raw (.bool x))], [(0, .box 55 [.raw (.int .u32 (a1.Ctx.a0.toNat : Int)), .raw (.int .u32 (a1.Ctx.a1.toNat : Int)), .raw (.int .u32 (a1.Ctx.a2.toNat : Int)), .raw (.int .u32 (a1.Ctx.a3.toNat : Int)), .sl false (a1.T.map enc_Table), .raw (.int .u32 (a1.Seed.toNat : Int))]), (1, .box 55 [.raw (.int .u32 0), .raw (.int .u32 0), .raw (.int .u32 0), .raw (.int .u32 0), .sl true [], .raw (.int .u32 0)])], 15, 123, 0⟩) ?_ ?_
  · rcases Bool.eq_false_or_eq_true (r1 == -1) with hb3 | hb3
    · replace h := cond_yes hb3 h
      refine VC.lastF tabOkF [some 16, some 17, some 18, some 19, some 20, some 21, some 22, some 23] rfl rfl (fun K hK => ?_)
      push_cast [hb3]
      repeat (refine And.intro (by omega) ?_)
      refine hK _ ?_
      clear hK K
      have hv := Option.some.inj h
      rw [← hv] at hk2
      refine Exists.intro (true) (And.intro hk2 ?_)
      refine Sub.of ?_ ?_ ⟨rfl, rfl, Nat.le_of_ble_eq_true rfl⟩ rfl
      · push_cast [hb3]
      · push_cast [hb3]
    · replace h := cond_no hb3 h
      refine VC.lastF tabOkF [some 16, some 17, some 18, some 19, some 20, some 21, some 22, some 23] rfl rfl (fun K hK => ?_)
      push_cast [hb3]
      repeat (refine And.intro (by omega) ?_)
      refine hK _ ?_
      clear hK K
      have hv := Option.some.inj h
      rw [← hv] at hk2
      refine Exists.intro ((r1 != (a2.length : Int))) (And.intro hk2 ?_)
      refine Sub.of ?_ ?_ ⟨rfl, rfl, Nat.le_of_ble_eq_true rfl⟩ rfl
      · push_cast [hb3]
      · push_cast [hb3]
  · rintro i_1 h
    replace h : p_helper_Call_J2 a0 a1 a2 i_1 = some r := h
    try push_cast
    unfold p_helper_Call_J2 at h
    refine VC.cond rfl rfl (fun hc4 => ?_) (fun hc4 => ?_)
    · have hb4 : i_1 = true := by simpa using hc4
      replace h := cond_yes hb4 h
      refine VC.seqF tabOkF [some 24, none, some 7, some 8] [6, 7, 8] rfl rfl (fun K hK => ?_)
      push_cast [hb4]
      repeat (refine And.intro (by omega) ?_)
      refine hK _ ?_
      clear hK K
      refine VC.ret ?_
      have hr := Option.some.inj h
      subst hr
      refine endS (Sub.of (s' := ⟨[(6, .ref 1 0), (7, .raw (.int .u32 0)), (8, .raw (.int .i64 1))], [(1, .box 55 [.raw (.int .u32 0), .raw (.int .u32 0), .raw (.int .u32 0), .raw (.int .u32 0), .sl true [], .raw (.int .u32 0)])], 19, 123, 0⟩) (by push_cast [hb4]) (by push_cast [hb4]) ⟨rfl, rfl, Nat.le_of_ble_eq_true rfl⟩ rfl) ?_
      refine endS (Sub.adopt (b := 1) (j := 4) (e := 27) (sz := 6) rfl rfl) ?_
      refine endS (Sub.renB (b := 1) (j := 4) (i' := 0) rfl rfl rfl (Nat.le_of_ble_eq_true rfl) (Nat.le_of_ble_eq_true rfl) rfl) ?_
      refine endP (Sub.lo _) (Post.ret ?_ ?_ ?_)
      · push_cast [hb4]
      · push_cast [hb4]
      · rfl
    · have hb4 : i_1 = false := by simpa using hc4
      replace h := cond_no hb4 h
      refine VC.skip ?_
      obtain ⟨r5, hr5, h⟩ := po_some h
      refine VC.seqF tabOkF [some 25, some 26, none] [0, 2, 4, 6] rfl rfl (fun K hK => ?_)
      push_cast [hb4]
      repeat (refine And.intro (by omega) ?_)
      refine callH (H := []) (Ctr.loH (Ctr.ren (Bij.swp 0 16 Bij.id) (c_helper_own a1 hr5) (by push_cast [hb4]) (by push_cast [hb4]))) (by push_cast [hb4]) rfl rfl rfl ?_
      push_cast [hb4]
      repeat (refine And.intro (by omega) ?_)
      refine hK _ ?_
      clear hK K
      refine VC.sub (s' := ⟨[(0, .raw (.int .i64 a0)), (2, .sl false (a2.map encU32)), (4, .ref 0 0), (6, .ref 1 0)], [(0, .box 55 [.raw (.int .u32 (r5.Ctx.a0.toNat : Int)), .raw (.int .u32 (r5.Ctx.a1.toNat : Int)), .raw (.int .u32 (r5.Ctx.a2.toNat : Int)), .raw (.int .u32 (r5.Ctx.a3.toNat : Int)), .row 16 0 6 0 r5.T.length, .raw (.int .u32 (r5.Seed.toNat : Int))]), (1, .box 55 [.raw (.int .u32 0), .raw (.int .u32 0), .raw (.int .u32 0), .raw (.int .u32 0), .sl true [], .raw (.int .u32 0)]), (16, .row 27 6 0 (r5.T.map enc_Table))], 18, 123, 0⟩) (Sub.of ?_ ?_ ⟨rfl, rfl, Nat.le_of_ble_eq_true rfl⟩ rfl) ?_
      · push_cast [hb4]
      · push_cast [hb4]
      refine VC.seq ?_
      refine VC.seqF tabOkF [some 27, some 28] [0, 2, 4, 6, 28] rfl rfl (fun K hK => ?_)
      push_cast [hb4]
      repeat (refine And.intro (by omega) ?_)
      refine hK _ ?_
      clear hK K
      refine VC.cond rfl rfl (fun hc6 => ?_) (fun hc6 => ?_)
      · have hb6 : (a0 == 4) = true := by simpa using hc6
        replace h := cond_yes hb6 h
        obtain ⟨r7, hr7, h⟩ := po_some h
        refine VC.seqF tabOkF [some 29, some 30, some 31, some 32, none] [4, 6] rfl rfl (fun K hK => ?_)
        push_cast [hb4, hb6]
        repeat (refine And.intro (by omega) ?_)
        refine callP (Ctr.lo (c_helper_Draw r5.Seed hr7)) rfl ?_
        push_cast [hb4, hb6]
        repeat (refine And.intro (by omega) ?_)
        refine hK _ ?_
        clear hK K
        refine VC.seqFD tabOkF hmixO [some 33, some 34, some 35, none, some 7, some 8] [6, 7, 8] rfl rfl rfl (fun K hK => ?_)
        push_cast [hb4, hb6]
        repeat (refine And.intro (by omega) ?_)
        refine ⟨rfl, hK _ ?_⟩
        clear hK K
        refine VC.ret ?_
        have hr := Option.some.inj h
        subst hr
        refine endS (Sub.of (s' := ⟨[(6, .ref 1 0), (7, .raw (.int .u32 (r7.toNat : Int))), (8, .raw (.int .i64 0))], [(1, .box 55 [.raw (.int .u32 (r5.Ctx.a0.toNat : Int)), .raw (.int .u32 (r5.Ctx.a1.toNat : Int)), .raw (.int .u32 (r5.Ctx.a2.toNat : Int)), .raw (.int .u32 (r5.Ctx.a3.toNat : Int)), .row 16 0 6 0 r5.T.length, .raw (.int .u32 (r7.toNat : Int))]), (16, .row 27 6 0 (r5.T.map enc_Table))], 31, 123, 0⟩) (by push_cast [hb4, hb6]) (by push_cast [hb4, hb6]) ⟨rfl, rfl, Nat.le_of_ble_eq_true rfl⟩ rfl) ?_
        refine endS (Sub.renB (b := 1) (j := 4) (i' := 0) rfl rfl rfl (Nat.le_of_ble_eq_true rfl) (Nat.le_of_ble_eq_true rfl) rfl) ?_
        refine endP (Sub.lo _) (Post.ret ?_ ?_ ?_)
        · push_cast [hb4, hb6]
        · push_cast [hb4, hb6]
        · rfl
      · have hb6 : (a0 == 4) = false := by simpa using hc6
        replace h := cond_no hb6 h
        refine VC.skip ?_
        refine VC.seq ?_
        obtain ⟨x8, hx8, h⟩ := po_some h
        have hx81 := get_ltI hx8
        have hx82 := get_lt hx8
        refine VC.seqFD tabOkF hmixO [some 36, some 37, some 38, some 39, some 40, some 41, some 42, some 43, some 44] [0, 2, 4, 6, 44] rfl rfl rfl (fun K hK => ?_)
        push_cast [hb4, hb6, hx8, hx81, hx82]
        repeat (refine And.intro (by omega) ?_)
        refine ⟨rfl, hK _ ?_⟩
        clear hK K
        refine VC.cond rfl rfl (fun hc9 => ?_) (fun hc9 => ?_)
        · have hb9 : (decide ((IntKind.u64.wrap (x8.toNat : Int)) ≥ (IntKind.u64.wrap (r5.T.length : Int)))) = true := by simpa using hc9
          replace h := cond_yes hb9 h
          refine VC.seqF tabOkF [some 45, none, some 7, some 8] [6, 7, 8] rfl rfl (fun K hK => ?_)
          push_cast [hb4, hb6, hx8, hx81, hx82, hb9]
          repeat (refine And.intro (by omega) ?_)
          refine hK _ ?_
          clear hK K
          refine VC.ret ?_
          have hr := Option.some.inj h
          subst hr
          refine endS (Sub.of (s' := ⟨[(6, .ref 1 0), (7, .raw (.int .u32 0)), (8, .raw (.int .i64 10))], [(1, .box 55 [.raw (.int .u32 (r5.Ctx.a0.toNat : Int)), .raw (.int .u32 (r5.Ctx.a1.toNat : Int)), .raw (.int .u32 (r5.Ctx.a2.toNat : Int)), .raw (.int .u32 (r5.Ctx.a3.toNat : Int)), .row 16 0 6 0 r5.T.length, .raw (.int .u32 (r5.Seed.toNat : Int))]), (16, .row 27 6 0 (r5.T.map enc_Table))], 33, 123, 0⟩) (by push_cast [hb4, hb6, hb9]) (by push_cast [hb4, hb6, hb9]) ⟨rfl, rfl, Nat.le_of_ble_eq_true rfl⟩ rfl) ?_
          refine endS (Sub.renB (b := 1) (j := 4) (i' := 0) rfl rfl rfl (Nat.le_of_ble_eq_true rfl) (Nat.le_of_ble_eq_true rfl) rfl) ?_
          refine endP (Sub.lo _) (Post.ret ?_ ?_ ?_)
          · push_cast [hb4, hb6, hb9]
          · push_cast [hb4, hb6, hb9]
          · rfl
        · have hb9 : (decide ((IntKind.u64.wrap (x8.toNat : Int)) ≥ (IntKind.u64.wrap (r5.T.length : Int)))) = false := by simpa using hc9
          replace h := cond_no hb9 h
          refine VC.skip ?_
          obtain ⟨x10, hx10, h⟩ := po_some h
          have hx102 := get_lt hx10
          refine VC.seqFD tabOkF hmixO [some 46, some 47, some 48, some 49, some 50, some 51, some 52, some 53, some 54, some 10] [0, 2, 4, 6, 10] rfl rfl rfl (fun K hK => ?_)
          push_cast [hb4, hb6, hx8, hx81, hx82, hb9, hx10, hx102]
          repeat (refine And.intro (by omega) ?_)
          refine ⟨rfl, hK _ ?_⟩
          clear hK K
          obtain ⟨v11, h, hk11⟩ := po_some h
          refine VC.seqJ (X := T_Env × Bool) (fun x => p_helper_Call_J11 a0 a2 x8 x10 x.1 x.2 = some r) (fun x => ⟨[(0, .raw (.int .i64 a0)), (2, .sl false (a2.map encU32)), (4, .ref 0 0), (6, .ref 1 0), (10, .ref 37 0), (11, .raw (.bool x.2))], [(0, .box 55 [.raw (.int .u32 (x.1.Ctx.a0.toNat : Int)), .raw (.int .u32 (x.1.Ctx.a1.toNat : Int)), .raw (.int .u32 (x.1.Ctx.a2.toNat : Int)), .raw (.int .u32 (x.1.Ctx.a3.toNat : Int)), .row 16 0 6 0 x.1.T.length, .raw (.int .u32 (x.1.Seed.toNat : Int))]), (1, .box 55 [.raw (.int .u32 0), .raw (.int .u32 0), .raw (.int .u32 0), .raw (.int .u32 0), .sl true [], .raw (.int .u32 0)]), (16, .row 27 6 0 (x.1.T.map enc_Table)), (37, .box 87 [.raw (.int .i64 x10.S.Kind), .raw (.int .i64 x10.S.Cap), .raw (.int .i64 x10.S.Words), .raw (.int .i64 x10.S.Ver), .sl false (x10.E.map enc_Entry), .raw (.int .u32 (x10.Next.toNat : Int))])], 46, 123, 0⟩) ?_ ?_
          · rcases Bool.eq_false_or_eq_true (a0 == 0) with hb12 | hb12
            · replace h := cond_yes hb12 h
              refine VC.lastF tabOkF [some 55, some 56, some 57, some 58, some 59, some 60, some 11] rfl rfl (fun K hK => ?_)
              push_cast [hb4, hb6, hx8, hx81, hx82, hb9, hx10, hx102, hb12]
              repeat (refine And.intro (by omega) ?_)
              refine hK _ ?_
              clear hK K
              have hv := Option.some.inj h
              rw [← hv] at hk11
              refine Exists.intro ((r5, true)) (And.intro hk11 ?_)
              refine Sub.of ?_ ?_ ⟨rfl, rfl, Nat.le_of_ble_eq_true rfl⟩ rfl
              · push_cast [hb4, hb6, hb9, hb12]
              · push_cast [hb4, hb6, hb9, hb12]
            · replace h := cond_no hb12 h
              refine VC.lastF tabOkF [some 55, some 56, some 57, some 58, some 59, some 60, some 11] rfl rfl (fun K hK => ?_)
              push_cast [hb4, hb6, hx8, hx81, hx82, hb9, hx10, hx102, hb12]
              repeat (refine And.intro (by omega) ?_)
              refine hK _ ?_
              clear hK K
              have hv := Option.some.inj h
              rw [← hv] at hk11
              refine Exists.intro ((r5, (a0 == 1))) (And.intro hk11 ?_)
              refine Sub.of ?_ ?_ ⟨rfl, rfl, Nat.le_of_ble_eq_true rfl⟩ rfl
              · push_cast [hb4, hb6, hb9, hb12]
              · push_cast [hb4, hb6, hb9, hb12]
          · rintro ⟨s_2, i_3⟩ h
            replace h : p_helper_Call_J11 a0 a2 x8 x10 s_2 i_3 = some r := h
            try push_cast
            unfold p_helper_Call_J11 at h
            refine VC.seq ?_
            obtain ⟨v13, h, hk13⟩ := po_some h
            refine VC.seqJ (X := T_Env × Bool) (fun x => p_helper_Call_J13 a0 a2 x8 x10 x.1 x.2 = some r) (fun x => ⟨[(0, .raw (.int .i64 a0)), (2, .sl false (a2.map encU32)), (4, .ref 0 0), (6, .ref 1 0), (10, .ref 37 0), (92, .raw (.bool x.2))], [(0, .box 55 [.raw (.int .u32 (x.1.Ctx.a0.toNat : Int)), .raw (.int .u32 (x.1.Ctx.a1.toNat : Int)), .raw (.int .u32 (x.1.Ctx.a2.toNat : Int)), .raw (.int .u32 (x.1.Ctx.a3.toNat : Int)), .row 16 0 6 0 x.1.T.length, .raw (.int .u32 (x.1.Seed.toNat : Int))]), (1, .box 55 [.raw (.int .u32 0), .raw (.int .u32 0), .raw (.int .u32 0), .raw (.int .u32 0), .sl true [], .raw (.int .u32 0)]), (16, .row 27 6 0 (x.1.T.map enc_Table)), (37, .box 87 [.raw (.int .i64 x10.S.Kind), .raw (.int .i64 x10.S.Cap), .raw (.int .i64 x10.S.Words), .raw (.int .i64 x10.S.Ver), .sl false (x10.E.map enc_Entry), .raw (.int .u32 (x10.Next.toNat : Int))])], 78, 123, 0⟩) ?_ ?_
            · obtain ⟨r14, hr14, h⟩ := po_some h
              rcases Bool.eq_false_or_eq_true r14 with hb15 | hb15
              · replace h := cond_yes hb15 h
                obtain ⟨r16, hr16, h⟩ := po_some h
                rcases Bool.eq_false_or_eq_true r16 with hb17 | hb17
                · replace h := cond_yes hb17 h
                  rcases Bool.eq_false_or_eq_true i_3 with hb18 | hb18
                  · replace h := cond_yes hb18 h
                    obtain ⟨x19, hx19, h⟩ := po_some h
                    have hx191 := get_ltI hx19
                    have hx192 := get_lt hx19
                    refine VC.lastFD tabOkF hmixO [some 61, some 62, some 63, some 64, some 65, some 66, some 67, some 68, some 69, some 70, some 71, some 72, some 73, some 74, some 75, some 76, some 77, some 78, some 79, some 80, some 81, some 82, some 83, some 84, some 85, some 86, some 87, some 88, some 89, some 90, some 91, some 92] rfl rfl rfl (fun K hK => ?_)
                    refine runD_cut 8 (fun K2 hK2 => ?_)
                    push_cast [hb4, hb6, hx8, hx81, hx82, hb9, hx10, hx102, hb15, hb17, hb18, hx19, hx191, hx192]
                    repeat (refine And.intro (by omega) ?_)
                    refine callPD (Ctr.lo (c_helper_Fits a0 x10.S hr14)) rfl ?_
                    push_cast [hb4, hb6, hx8, hx81, hx82, hb9, hx10, hx102, hb15, hb17, hb18, hx19, hx191, hx192]
                    repeat (refine And.intro (by omega) ?_)
                    refine hK2 _ _ _ ?_
                    clear hK2 K2
                    simp only [List.drop_succ_cons, List.drop_zero]
                    refine runD_cut 8 (fun K2 hK2 => ?_)
                    push_cast [hb4, hb6, hx8, hx81, hx82, hb9, hx10, hx102, hb15, hb17, hb18, hx19, hx191, hx192]
                    repeat (refine And.intro (by omega) ?_)
                    refine callPD (Ctr.lo (c_table_May x10 hr16)) rfl ?_
                    push_cast [hb4, hb6, hx8, hx81, hx82, hb9, hx10, hx102, hb15, hb17, hb18, hx19, hx191, hx192]
                    repeat (refine And.intro (by omega) ?_)
                    refine hK2 _ _ _ ?_
                    clear hK2 K2
                    simp only [List.drop_succ_cons, List.drop_zero]
                    refine runD_cut 8 (fun K2 hK2 => ?_)
                    push_cast [hb4, hb6, hx8, hx81, hx82, hb9, hx10, hx102, hb15, hb17, hb18, hx19, hx191, hx192]
                    repeat (refine And.intro (by omega) ?_)
                    refine hK2 _ _ _ ?_
                    clear hK2 K2
                    simp only [List.drop_succ_cons, List.drop_zero]
                    push_cast [hb4, hb6, hx8, hx81, hx82, hb9, hx10, hx102, hb15, hb17, hb18, hx19, hx191, hx192]
                    repeat (refine And.intro (by omega) ?_)
                    refine ⟨rfl, hK _ ?_⟩
                    clear hK K
                    have hv := Option.some.inj h
                    rw [← hv] at hk13
                    refine Exists.intro ((s_2, (decide ((x19.toNat : Int) ≥ (IntKind.u32.wrap x10.S.Words))))) (And.intro hk13 ?_)
                    refine Sub.of ?_ ?_ ⟨rfl, rfl, Nat.le_of_ble_eq_true rfl⟩ rfl
                    · push_cast [hb4, hb6, hb9, hb15, hb17, hb18]
                    · push_cast [hb4, hb6, hb9, hb15, hb17, hb18]
                  · replace h := cond_no hb18 h
                    refine VC.lastFD tabOkF hmixO [some 61, some 62, some 63, some 64, some 65, some 66, some 67, some 68, some 69, some 70, some 71, some 72, some 73, some 74, some 75, some 76, some 77, some 78, some 79, some 80, some 81, some 82, some 83, some 84, some 85, some 86, some 87, some 88, some 89, some 90, some 91, some 92] rfl rfl rfl (fun K hK => ?_)
                    refine runD_cut 8 (fun K2 hK2 => ?_)
                    push_cast [hb4, hb6, hx8, hx81, hx82, hb9, hx10, hx102, hb15, hb17, hb18]
                    repeat (refine And.intro (by omega) ?_)
                    refine callPD (Ctr.lo (c_helper_Fits a0 x10.S hr14)) rfl ?_
                    push_cast [hb4, hb6, hx8, hx81, hx82, hb9, hx10, hx102, hb15, hb17, hb18]
                    repeat (refine And.intro (by omega) ?_)
                    refine hK2 _ _ _ ?_
                    clear hK2 K2
                    simp only [List.drop_succ_cons, List.drop_zero]
                    refine runD_cut 8 (fun K2 hK2 => ?_)
                    push_cast [hb4, hb6, hx8, hx81, hx82, hb9, hx10, hx102, hb15, hb17, hb18]
                    repeat (refine And.intro (by omega) ?_)
                    refine callPD (Ctr.lo (c_table_May x10 hr16)) rfl ?_
                    push_cast [hb4, hb6, hx8, hx81, hx82, hb9, hx10, hx102, hb15, hb17, hb18]
                    repeat (refine And.intro (by omega) ?_)
                    refine hK2 _ _ _ ?_
                    clear hK2 K2
                    simp only [List.drop_succ_cons, List.drop_zero]
                    refine runD_cut 8 (fun K2 hK2 => ?_)
                    push_cast [hb4, hb6, hx8, hx81, hx82, hb9, hx10, hx102, hb15, hb17, hb18]
                    repeat (refine And.intro (by omega) ?_)
                    refine hK2 _ _ _ ?_
                    clear hK2 K2
                    simp only [List.drop_succ_cons, List.drop_zero]
                    push_cast [hb4, hb6, hx8, hx81, hx82, hb9, hx10, hx102, hb15, hb17, hb18]
                    repeat (refine And.intro (by omega) ?_)
                    refine ⟨rfl, hK _ ?_⟩
                    clear hK K
                    have hv := Option.some.inj h
                    rw [← hv] at hk13
                    refine Exists.intro ((s_2, false)) (And.intro hk13 ?_)
                    refine Sub.of ?_ ?_ ⟨rfl, rfl, Nat.le_of_ble_eq_true rfl⟩ rfl
                    · push_cast [hb4, hb6, hb9, hb15, hb17, hb18]
                    · push_cast [hb4, hb6, hb9, hb15, hb17, hb18]
                · replace h := cond_no hb17 h
                  refine VC.lastFD tabOkF hmixO [some 61, some 62, some 63, some 64, some 65, some 66, some 67, some 68, some 69, some 70, some 71, some 72, some 73, some 74, some 75, some 76, some 77, some 78, some 79, some 80, some 81, some 82, some 83, some 84, some 85, some 86, some 87, some 88, some 89, some 90, some 91, some 92] rfl rfl rfl (fun K hK => ?_)
                  refine runD_cut 8 (fun K2 hK2 => ?_)
                  push_cast [hb4, hb6, hx8, hx81, hx82, hb9, hx10, hx102, hb15, hb17]
                  repeat (refine And.intro (by omega) ?_)
                  refine callPD (Ctr.lo (c_helper_Fits a0 x10.S hr14)) rfl ?_
                  push_cast [hb4, hb6, hx8, hx81, hx82, hb9, hx10, hx102, hb15, hb17]
                  repeat (refine And.intro (by omega) ?_)
                  refine hK2 _ _ _ ?_
                  clear hK2 K2
                  simp only [List.drop_succ_cons, List.drop_zero]
                  refine runD_cut 8 (fun K2 hK2 => ?_)
                  push_cast [hb4, hb6, hx8, hx81, hx82, hb9, hx10, hx102, hb15, hb17]
                  repeat (refine And.intro (by omega) ?_)
                  refine callPD (Ctr.lo (c_table_May x10 hr16)) rfl ?_
                  push_cast [hb4, hb6, hx8, hx81, hx82, hb9, hx10, hx102, hb15, hb17]
                  repeat (refine And.intro (by omega) ?_)
                  refine hK2 _ _ _ ?_
                  clear hK2 K2
                  simp only [List.drop_succ_cons, List.drop_zero]
                  refine runD_cut 8 (fun K2 hK2 => ?_)
                  push_cast [hb4, hb6, hx8, hx81, hx82, hb9, hx10, hx102, hb15, hb17]
                  repeat (refine And.intro (by omega) ?_)
                  refine hK2 _ _ _ ?_
                  clear hK2 K2
                  simp only [List.drop_succ_cons, List.drop_zero]
                  push_cast [hb4, hb6, hx8, hx81, hx82, hb9, hx10, hx102, hb15, hb17]
                  repeat (refine And.intro (by omega) ?_)
                  refine ⟨rfl, hK _ ?_⟩
                  clear hK K
                  have hv := Option.some.inj h
                  rw [← hv] at hk13
                  refine Exists.intro ((s_2, true)) (And.intro hk13 ?_)
                  refine Sub.of ?_ ?_ ⟨rfl, rfl, Nat.le_of_ble_eq_true rfl⟩ rfl
                  · push_cast [hb4, hb6, hb9, hb15, hb17]
                  · push_cast [hb4, hb6, hb9, hb15, hb17]
              · replace h := cond_no hb15 h
                refine VC.lastFD tabOkF hmixO [some 61, some 62, some 63, some 64, some 65, some 66, some 67, some 68, some 69, some 70, some 71, some 72, some 73, some 74, some 75, some 76, some 77, some 78, some 79, some 80, some 81, some 82, some 83, some 84, some 85, some 86, some 87, some 88, some 89, some 90, some 91, some 92] rfl rfl rfl (fun K hK => ?_)
                refine runD_cut 8 (fun K2 hK2 => ?_)
                push_cast [hb4, hb6, hx8, hx81, hx82, hb9, hx10, hx102, hb15]
                repeat (refine And.intro (by omega) ?_)
                refine callPD (Ctr.lo (c_helper_Fits a0 x10.S hr14)) rfl ?_
                push_cast [hb4, hb6, hx8, hx81, hx82, hb9, hx10, hx102, hb15]
                repeat (refine And.intro (by omega) ?_)
                refine hK2 _ _ _ ?_
                clear hK2 K2
                simp only [List.drop_succ_cons, List.drop_zero]
                refine runD_cut 8 (fun K2 hK2 => ?_)
                push_cast [hb4, hb6, hx8, hx81, hx82, hb9, hx10, hx102, hb15]
                repeat (refine And.intro (by omega) ?_)
                refine hK2 _ _ _ ?_
                clear hK2 K2
                simp only [List.drop_succ_cons, List.drop_zero]
                refine runD_cut 8 (fun K2 hK2 => ?_)
                push_cast [hb4, hb6, hx8, hx81, hx82, hb9, hx10, hx102, hb15]
                repeat (refine And.intro (by omega) ?_)
                refine hK2 _ _ _ ?_
                clear hK2 K2
                simp only [List.drop_succ_cons, List.drop_zero]
                push_cast [hb4, hb6, hx8, hx81, hx82, hb9, hx10, hx102, hb15]
                repeat (refine And.intro (by omega) ?_)
                refine ⟨rfl, hK _ ?_⟩
                clear hK K
                have hv := Option.some.inj h
                rw [← hv] at hk13
                refine Exists.intro ((s_2, true)) (And.intro hk13 ?_)
                refine Sub.of ?_ ?_ ⟨rfl, rfl, Nat.le_of_ble_eq_true rfl⟩ rfl
                · push_cast [hb4, hb6, hb9, hb15]
                · push_cast [hb4, hb6, hb9, hb15]
            · rintro ⟨s_4, i_5⟩ h
              replace h : p_helper_Call_J13 a0 a2 x8 x10 s_4 i_5 = some r := h
              try push_cast
              unfold p_helper_Call_J13 at h
              refine VC.cond rfl rfl (fun hc20 => ?_) (fun hc20 => ?_)
              · have hb20 : i_5 = true := by simpa using hc20
                replace h := cond_yes hb20 h
                refine VC.seqF tabOkF [some 93, none, some 7, some 8] [6, 7, 8] rfl rfl (fun K hK => ?_)
                push_cast [hb4, hb6, hx8, hx81, hx82, hb9, hx10, hx102, hb20]
                repeat (refine And.intro (by omega) ?_)
                refine hK _ ?_
                clear hK K
                refine VC.ret ?_
                have hr := Option.some.inj h
                subst hr
                refine endS (Sub.of (s' := ⟨[(6, .ref 1 0), (7, .raw (.int .u32 0)), (8, .raw (.int .i64 10))], [(1, .box 55 [.raw (.int .u32 (s_4.Ctx.a0.toNat : Int)), .raw (.int .u32 (s_4.Ctx.a1.toNat : Int)), .raw (.int .u32 (s_4.Ctx.a2.toNat : Int)), .raw (.int .u32 (s_4.Ctx.a3.toNat : Int)), .row 16 0 6 0 s_4.T.length, .raw (.int .u32 (s_4.Seed.toNat : Int))]), (16, .row 27 6 0 (s_4.T.map enc_Table))], 82, 123, 0⟩) (by push_cast [hb4, hb6, hb9, hb20]) (by push_cast [hb4, hb6, hb9, hb20]) ⟨rfl, rfl, Nat.le_of_ble_eq_true rfl⟩ rfl) ?_
                refine endS (Sub.renB (b := 1) (j := 4) (i' := 0) rfl rfl rfl (Nat.le_of_ble_eq_true rfl) (Nat.le_of_ble_eq_true rfl) rfl) ?_
                refine endP (Sub.lo _) (Post.ret ?_ ?_ ?_)
                · push_cast [hb4, hb6, hb9, hb20]
                · push_cast [hb4, hb6, hb9, hb20]
                · rfl
              · have hb20 : i_5 = false := by simpa using hc20
                replace h := cond_no hb20 h
                refine VC.skip ?_
                rcases Bool.eq_false_or_eq_true (a0 == 0) with hb21 | hb21
                · replace h := cond_yes hb21 h
                  refine VC.seqF tabOkF [some 94, some 95, some 96, none, some 97, some 98, none, some 99, some 100, none, some 101, some 102, none, some 103, some 104, none, some 105, some 106, some 107, some 12] [2, 4, 6, 10, 12] rfl rfl (fun K hK => ?_)
                  refine runOps_cut 8 (fun K2 hK2 => ?_)
                  push_cast [hb4, hb6, hx8, hx81, hx82, hb9, hx10, hx102, hb20, hb21]
                  repeat (refine And.intro (by omega) ?_)
                  refine hK2 _ _ ?_
                  clear hK2 K2
                  simp only [List.drop_succ_cons, List.drop_zero]
                  refine runOps_cut 8 (fun K2 hK2 => ?_)
                  push_cast [hb4, hb6, hx8, hx81, hx82, hb9, hx10, hx102, hb20, hb21]
                  repeat (refine And.intro (by omega) ?_)
                  refine hK2 _ _ ?_
                  clear hK2 K2
                  simp only [List.drop_succ_cons, List.drop_zero]
                  push_cast [hb4, hb6, hx8, hx81, hx82, hb9, hx10, hx102, hb20, hb21]
                  repeat (refine And.intro (by omega) ?_)
                  refine hK _ ?_
                  clear hK K
                  obtain ⟨r22, hr22, h⟩ := po_some h
                  refine VC.seqF tabOkF [some 108, some 109, some 110, some 13] [2, 4, 6, 10, 13] rfl rfl (fun K hK => ?_)
                  push_cast [hb4, hb6, hx8, hx81, hx82, hb9, hx10, hx102, hb20, hb21]
                  repeat (refine And.intro (by omega) ?_)
                  refine callH (H := [(37, .box 87 [.raw (.int .i64 x10.S.Kind), .raw (.int .i64 x10.S.Cap), .raw (.int .i64 x10.S.Words), .raw (.int .i64 x10.S.Ver), .sl false (x10.E.map enc_Entry), .raw (.int .u32 (x10.Next.toNat : Int))])]) (Ctr.loH (Ctr.ren (Bij.swp 0 37 Bij.id) (c_helper_call_get (T_helper_call.mk x10) a2 hr22) (by push_cast [hb4, hb6, hx8, hx81, hx82, hb9, hx10, hx102, hb20, hb21]) (by push_cast [hb4, hb6, hx8, hx81, hx82, hb9, hx10, hx102, hb20, hb21]))) (by push_cast [hb4, hb6, hx8, hx81, hx82, hb9, hx10, hx102, hb20, hb21]) rfl rfl rfl ?_
                  push_cast [hb4, hb6, hx8, hx81, hx82, hb9, hx10, hx102, hb20, hb21]
                  repeat (refine And.intro (by omega) ?_)
                  refine hK _ ?_
                  clear hK K
                  refine VC.sub (s' := ⟨[(2, .sl false (a2.map encU32)), (4, .ref 0 0), (6, .ref 1 0), (10, .ref 37 0), (13, .raw (.int .u32 (r22.1.toNat : Int)))], [(0, .box 55 [.raw (.int .u32 (s_4.Ctx.a0.toNat : Int)), .raw (.int .u32 (s_4.Ctx.a1.toNat : Int)), .raw (.int .u32 (s_4.Ctx.a2.toNat : Int)), .raw (.int .u32 (s_4.Ctx.a3.toNat : Int)), .row 16 0 6 0 s_4.T.length, .raw (.int .u32 (s_4.Seed.toNat : Int))]), (1, .box 55 [.raw (.int .u32 0), .raw (.int .u32 0), .raw (.int .u32 0), .raw (.int .u32 0), .sl true [], .raw (.int .u32 0)]), (16, .row 27 6 0 (s_4.T.map enc_Table)), (37, .box 87 [.raw (.int .i64 r22.2.t.S.Kind), .raw (.int .i64 r22.2.t.S.Cap), .raw (.int .i64 r22.2.t.S.Words), .raw (.int .i64 r22.2.t.S.Ver), .sl false (r22.2.t.E.map enc_Entry), .raw (.int .u32 (r22.2.t.Next.toNat : Int))])], 102, 123, 0⟩) (Sub.of ?_ ?_ ⟨rfl, rfl, Nat.le_of_ble_eq_true rfl⟩ rfl) ?_
                  · push_cast [hb4, hb6, hb9, hb20, hb21]
                  · push_cast [hb4, hb6, hb9, hb20, hb21]
                  obtain ⟨x23, hx23, h⟩ := po_some h
                  have hx232 := get_lt hx23
                  obtain ⟨y24, hy24, h⟩ := pl_some h
                  have hy24l : y24.length = s_4.T.length := by rw [hy24, List.length_set]
                  refine VC.seqFD tabOkF hmixO [some 111, some 112, some 113, some 114, some 115, some 116, some 117, some 118, some 119, some 120, none] [4, 6, 13] rfl rfl rfl (fun K hK => ?_)
                  refine runD_cut 8 (fun K2 hK2 => ?_)
                  push_cast [hb4, hb6, hx8, hx81, hx82, hb9, hx10, hx102, hb20, hb21, hx23, hx232]
                  repeat (refine And.intro (by omega) ?_)
                  refine hK2 _ _ _ ?_
                  clear hK2 K2
                  simp only [List.drop_succ_cons, List.drop_zero]
                  push_cast [hb4, hb6, hx8, hx81, hx82, hb9, hx10, hx102, hb20, hb21, hx23, hx232]
                  repeat (refine And.intro (by omega) ?_)
                  refine ⟨rfl, hK _ ?_⟩
                  clear hK K
                  refine VC.sub (s' := ⟨[(4, .ref 0 0), (6, .ref 1 0), (13, .raw (.int .u32 (r22.1.toNat : Int)))], [(0, .box 55 [.raw (.int .u32 (s_4.Ctx.a0.toNat : Int)), .raw (.int .u32 (s_4.Ctx.a1.toNat : Int)), .raw (.int .u32 (s_4.Ctx.a2.toNat : Int)), .raw (.int .u32 (s_4.Ctx.a3.toNat : Int)), .row 16 0 6 0 y24.length, .raw (.int .u32 (s_4.Seed.toNat : Int))]), (1, .box 55 [.raw (.int .u32 0), .raw (.int .u32 0), .raw (.int .u32 0), .raw (.int .u32 0), .sl true [], .raw (.int .u32 0)]), (16, .row 27 6 0 (y24.map enc_Table))], 113, 123, 0⟩) (Sub.of ?_ ?_ ⟨rfl, rfl, Nat.le_of_ble_eq_true rfl⟩ rfl) ?_
                  · push_cast [hb4, hb6, hb9, hb20, hb21, hy24, hy24l]
                  · push_cast [hb4, hb6, hb9, hb20, hb21, hy24, hy24l]
                  refine VC.seqF tabOkF [some 121, some 122, none, some 7, some 8] [6, 7, 8] rfl rfl (fun K hK => ?_)
                  push_cast [hb4, hb6, hx8, hx81, hx82, hb9, hx10, hx102, hb20, hb21, hx23, hx232]
                  repeat (refine And.intro (by omega) ?_)
                  refine hK _ ?_
                  clear hK K
                  refine VC.ret ?_
                  have hr := Option.some.inj h
                  subst hr
                  refine endS (Sub.of (s' := ⟨[(6, .ref 1 0), (7, .raw (.int .u32 (r22.1.toNat : Int))), (8, .raw (.int .i64 0))], [(1, .box 55 [.raw (.int .u32 (s_4.Ctx.a0.toNat : Int)), .raw (.int .u32 (s_4.Ctx.a1.toNat : Int)), .raw (.int .u32 (s_4.Ctx.a2.toNat : Int)), .raw (.int .u32 (s_4.Ctx.a3.toNat : Int)), .row 16 0 6 0 y24.length, .raw (.int .u32 (s_4.Seed.toNat : Int))]), (16, .row 27 6 0 (y24.map enc_Table))], 118, 123, 0⟩) (by push_cast [hb4, hb6, hb9, hb20, hb21, hy24, hy24l]) (by push_cast [hb4, hb6, hb9, hb20, hb21, hy24, hy24l]) ⟨rfl, rfl, Nat.le_of_ble_eq_true rfl⟩ rfl) ?_
                  refine endS (Sub.renB (b := 1) (j := 4) (i' := 0) rfl rfl rfl (Nat.le_of_ble_eq_true rfl) (Nat.le_of_ble_eq_true rfl) rfl) ?_
                  refine endP (Sub.lo _) (Post.ret ?_ ?_ ?_)
                  · push_cast [hb4, hb6, hb9, hb20, hb21, hy24, hy24l]
                  · push_cast [hb4, hb6, hb9, hb20, hb21, hy24, hy24l]
                  · rfl
                · replace h := cond_no hb21 h
                  rcases Bool.eq_false_or_eq_true (a0 == 1) with hb25 | hb25
                  · replace h := cond_yes hb25 h
                    refine VC.seqF tabOkF [some 94, some 95, some 96, none, some 97, some 98, none, some 99, some 100, none, some 101, some 102, none, some 103, some 104, none, some 105, some 106, some 107, some 12] [2, 4, 6, 10, 12] rfl rfl (fun K hK => ?_)
                    refine runOps_cut 8 (fun K2 hK2 => ?_)
                    push_cast [hb4, hb6, hx8, hx81, hx82, hb9, hx10, hx102, hb20, hb21, hb25]
                    repeat (refine And.intro (by omega) ?_)
                    refine hK2 _ _ ?_
                    clear hK2 K2
                    simp only [List.drop_succ_cons, List.drop_zero]
                    refine runOps_cut 8 (fun K2 hK2 => ?_)
                    push_cast [hb4, hb6, hx8, hx81, hx82, hb9, hx10, hx102, hb20, hb21, hb25]
                    repeat (refine And.intro (by omega) ?_)
                    refine hK2 _ _ ?_
                    clear hK2 K2
                    simp only [List.drop_succ_cons, List.drop_zero]
                    push_cast [hb4, hb6, hx8, hx81, hx82, hb9, hx10, hx102, hb20, hb21, hb25]
                    repeat (refine And.intro (by omega) ?_)
                    refine hK _ ?_
                    clear hK K
                    obtain ⟨r26, hr26, h⟩ := po_some h
                    refine VC.seqF tabOkF [some 108, some 109, some 110, some 13] [2, 4, 6, 10, 13] rfl rfl (fun K hK => ?_)
                    push_cast [hb4, hb6, hx8, hx81, hx82, hb9, hx10, hx102, hb20, hb21, hb25]
                    repeat (refine And.intro (by omega) ?_)
                    refine callH (H := [(37, .box 87 [.raw (.int .i64 x10.S.Kind), .raw (.int .i64 x10.S.Cap), .raw (.int .i64 x10.S.Words), .raw (.int .i64 x10.S.Ver), .sl false (x10.E.map enc_Entry), .raw (.int .u32 (x10.Next.toNat : Int))])]) (Ctr.loH (Ctr.ren (Bij.swp 0 37 Bij.id) (c_helper_call_set (T_helper_call.mk x10) a2 hr26) (by push_cast [hb4, hb6, hx8, hx81, hx82, hb9, hx10, hx102, hb20, hb21, hb25]) (by push_cast [hb4, hb6, hx8, hx81, hx82, hb9, hx10, hx102, hb20, hb21, hb25]))) (by push_cast [hb4, hb6, hx8, hx81, hx82, hb9, hx10, hx102, hb20, hb21, hb25]) rfl rfl rfl ?_
                    push_cast [hb4, hb6, hx8, hx81, hx82, hb9, hx10, hx102, hb20, hb21, hb25]
                    repeat (refine And.intro (by omega) ?_)
                    refine hK _ ?_
                    clear hK K
                    refine VC.sub (s' := ⟨[(2, .sl false (a2.map encU32)), (4, .ref 0 0), (6, .ref 1 0), (10, .ref 37 0), (13, .raw (.int .u32 (r26.1.toNat : Int)))], [(0, .box 55 [.raw (.int .u32 (s_4.Ctx.a0.toNat : Int)), .raw (.int .u32 (s_4.Ctx.a1.toNat : Int)), .raw (.int .u32 (s_4.Ctx.a2.toNat : Int)), .raw (.int .u32 (s_4.Ctx.a3.toNat : Int)), .row 16 0 6 0 s_4.T.length, .raw (.int .u32 (s_4.Seed.toNat : Int))]), (1, .box 55 [.raw (.int .u32 0), .raw (.int .u32 0), .raw (.int .u32 0), .raw (.int .u32 0), .sl true [], .raw (.int .u32 0)]), (16, .row 27 6 0 (s_4.T.map enc_Table)), (37, .box 87 [.raw (.int .i64 r26.2.t.S.Kind), .raw (.int .i64 r26.2.t.S.Cap), .raw (.int .i64 r26.2.t.S.Words), .raw (.int .i64 r26.2.t.S.Ver), .sl false (r26.2.t.E.map enc_Entry), .raw (.int .u32 (r26.2.t.Next.toNat : Int))])], 102, 123, 0⟩) (Sub.of ?_ ?_ ⟨rfl, rfl, Nat.le_of_ble_eq_true rfl⟩ rfl) ?_
                    · push_cast [hb4, hb6, hb9, hb20, hb21, hb25]
                    · push_cast [hb4, hb6, hb9, hb20, hb21, hb25]
                    obtain ⟨x27, hx27, h⟩ := po_some h
                    have hx272 := get_lt hx27
                    obtain ⟨y28, hy28, h⟩ := pl_some h
                    have hy28l : y28.length = s_4.T.length := by rw [hy28, List.length_set]
                    refine VC.seqFD tabOkF hmixO [some 111, some 112, some 113, some 114, some 115, some 116, some 117, some 118, some 119, some 120, none] [4, 6, 13] rfl rfl rfl (fun K hK => ?_)
                    refine runD_cut 8 (fun K2 hK2 => ?_)
                    push_cast [hb4, hb6, hx8, hx81, hx82, hb9, hx10, hx102, hb20, hb21, hb25, hx27, hx272]
                    repeat (refine And.intro (by omega) ?_)
                    refine hK2 _ _ _ ?_
                    clear hK2 K2
                    simp only [List.drop_succ_cons, List.drop_zero]
                    push_cast [hb4, hb6, hx8, hx81, hx82, hb9, hx10, hx102, hb20, hb21, hb25, hx27, hx272]
                    repeat (refine And.intro (by omega) ?_)
                    refine ⟨rfl, hK _ ?_⟩
                    clear hK K
                    refine VC.sub (s' := ⟨[(4, .ref 0 0), (6, .ref 1 0), (13, .raw (.int .u32 (r26.1.toNat : Int)))], [(0, .box 55 [.raw (.int .u32 (s_4.Ctx.a0.toNat : Int)), .raw (.int .u32 (s_4.Ctx.a1.toNat : Int)), .raw (.int .u32 (s_4.Ctx.a2.toNat : Int)), .raw (.int .u32 (s_4.Ctx.a3.toNat : Int)), .row 16 0 6 0 y28.length, .raw (.int .u32 (s_4.Seed.toNat : Int))]), (1, .box 55 [.raw (.int .u32 0), .raw (.int .u32 0), .raw (.int .u32 0), .raw (.int .u32 0), .sl true [], .raw (.int .u32 0)]), (16, .row 27 6 0 (y28.map enc_Table))], 113, 123, 0⟩) (Sub.of ?_ ?_ ⟨rfl, rfl, Nat.le_of_ble_eq_true rfl⟩ rfl) ?_
                    · push_cast [hb4, hb6, hb9, hb20, hb21, hb25, hy28, hy28l]
                    · push_cast [hb4, hb6, hb9, hb20, hb21, hb25, hy28, hy28l]
                    refine VC.seqF tabOkF [some 121, some 122, none, some 7, some 8] [6, 7, 8] rfl rfl (fun K hK => ?_)
                    push_cast [hb4, hb6, hx8, hx81, hx82, hb9, hx10, hx102, hb20, hb21, hb25, hx27, hx272]
                    repeat (refine And.intro (by omega) ?_)
                    refine hK _ ?_
                    clear hK K
                    refine VC.ret ?_
                    have hr := Option.some.inj h
                    subst hr
                    refine endS (Sub.of (s' := ⟨[(6, .ref 1 0), (7, .raw (.int .u32 (r26.1.toNat : Int))), (8, .raw (.int .i64 0))], [(1, .box 55 [.raw (.int .u32 (s_4.Ctx.a0.toNat : Int)), .raw (.int .u32 (s_4.Ctx.a1.toNat : Int)), .raw (.int .u32 (s_4.Ctx.a2.toNat : Int)), .raw (.int .u32 (s_4.Ctx.a3.toNat : Int)), .row 16 0 6 0 y28.length, .raw (.int .u32 (s_4.Seed.toNat : Int))]), (16, .row 27 6 0 (y28.map enc_Table))], 118, 123, 0⟩) (by push_cast [hb4, hb6, hb9, hb20, hb21, hb25, hy28, hy28l]) (by push_cast [hb4, hb6, hb9, hb20, hb21, hb25, hy28, hy28l]) ⟨rfl, rfl, Nat.le_of_ble_eq_true rfl⟩ rfl) ?_
                    refine endS (Sub.renB (b := 1) (j := 4) (i' := 0) rfl rfl rfl (Nat.le_of_ble_eq_true rfl) (Nat.le_of_ble_eq_true rfl) rfl) ?_
                    refine endP (Sub.lo _) (Post.ret ?_ ?_ ?_)
                    · push_cast [hb4, hb6, hb9, hb20, hb21, hb25, hy28, hy28l]
                    · push_cast [hb4, hb6, hb9, hb20, hb21, hb25, hy28, hy28l]
                    · rfl
                  · replace h := cond_no hb25 h
                    rcases Bool.eq_false_or_eq_true (a0 == 2) with hb29 | hb29
                    · replace h := cond_yes hb29 h
                      refine VC.seqF tabOkF [some 94, some 95, some 96, none, some 97, some 98, none, some 99, some 100, none, some 101, some 102, none, some 103, some 104, none, some 105, some 106, some 107, some 12] [2, 4, 6, 10, 12] rfl rfl (fun K hK => ?_)
                      refine runOps_cut 8 (fun K2 hK2 => ?_)
                      push_cast [hb4, hb6, hx8, hx81, hx82, hb9, hx10, hx102, hb20, hb21, hb25, hb29]
                      repeat (refine And.intro (by omega) ?_)
                      refine hK2 _ _ ?_
                      clear hK2 K2
                      simp only [List.drop_succ_cons, List.drop_zero]
                      refine runOps_cut 8 (fun K2 hK2 => ?_)
                      push_cast [hb4, hb6, hx8, hx81, hx82, hb9, hx10, hx102, hb20, hb21, hb25, hb29]
                      repeat (refine And.intro (by omega) ?_)
                      refine hK2 _ _ ?_
                      clear hK2 K2
                      simp only [List.drop_succ_cons, List.drop_zero]
                      push_cast [hb4, hb6, hx8, hx81, hx82, hb9, hx10, hx102, hb20, hb21, hb25, hb29]
                      repeat (refine And.intro (by omega) ?_)
                      refine hK _ ?_
                      clear hK K
                      obtain ⟨r30, hr30, h⟩ := po_some h
                      refine VC.seqF tabOkF [some 108, some 109, some 110, some 13] [2, 4, 6, 10, 13] rfl rfl (fun K hK => ?_)
                      push_cast [hb4, hb6, hx8, hx81, hx82, hb9, hx10, hx102, hb20, hb21, hb25, hb29]
                      repeat (refine And.intro (by omega) ?_)
                      refine callH (H := [(37, .box 87 [.raw (.int .i64 x10.S.Kind), .raw (.int .i64 x10.S.Cap), .raw (.int .i64 x10.S.Words), .raw (.int .i64 x10.S.Ver), .sl false (x10.E.map enc_Entry), .raw (.int .u32 (x10.Next.toNat : Int))])]) (Ctr.loH (Ctr.ren (Bij.swp 0 37 Bij.id) (c_helper_call_del (T_helper_call.mk x10) a2 hr30) (by push_cast [hb4, hb6, hx8, hx81, hx82, hb9, hx10, hx102, hb20, hb21, hb25, hb29]) (by push_cast [hb4, hb6, hx8, hx81, hx82, hb9, hx10, hx102, hb20, hb21, hb25, hb29]))) (by push_cast [hb4, hb6, hx8, hx81, hx82, hb9, hx10, hx102, hb20, hb21, hb25, hb29]) rfl rfl rfl ?_
                      push_cast [hb4, hb6, hx8, hx81, hx82, hb9, hx10, hx102, hb20, hb21, hb25, hb29]
                      repeat (refine And.intro (by omega) ?_)
                      refine hK _ ?_
                      clear hK K
                      refine VC.sub (s' := ⟨[(2, .sl false (a2.map encU32)), (4, .ref 0 0), (6, .ref 1 0), (10, .ref 37 0), (13, .raw (.int .u32 (r30.1.toNat : Int)))], [(0, .box 55 [.raw (.int .u32 (s_4.Ctx.a0.toNat : Int)), .raw (.int .u32 (s_4.Ctx.a1.toNat : Int)), .raw (.int .u32 (s_4.Ctx.a2.toNat : Int)), .raw (.int .u32 (s_4.Ctx.a3.toNat : Int)), .row 16 0 6 0 s_4.T.length, .raw (.int .u32 (s_4.Seed.toNat : Int))]), (1, .box 55 [.raw (.int .u32 0), .raw (.int .u32 0), .raw (.int .u32 0), .raw (.int .u32 0), .sl true [], .raw (.int .u32 0)]), (16, .row 27 6 0 (s_4.T.map enc_Table)), (37, .box 87 [.raw (.int .i64 r30.2.t.S.Kind), .raw (.int .i64 r30.2.t.S.Cap), .raw (.int .i64 r30.2.t.S.Words), .raw (.int .i64 r30.2.t.S.Ver), .sl false (r30.2.t.E.map enc_Entry), .raw (.int .u32 (r30.2.t.Next.toNat : Int))])], 102, 123, 0⟩) (Sub.of ?_ ?_ ⟨rfl, rfl, Nat.le_of_ble_eq_true rfl⟩ rfl) ?_
                      · push_cast [hb4, hb6, hb9, hb20, hb21, hb25, hb29]
                      · push_cast [hb4, hb6, hb9, hb20, hb21, hb25, hb29]
                      obtain ⟨x31, hx31, h⟩ := po_some h
                      have hx312 := get_lt hx31
                      obtain ⟨y32, hy32, h⟩ := pl_some h
                      have hy32l : y32.length = s_4.T.length := by rw [hy32, List.length_set]
                      refine VC.seqFD tabOkF hmixO [some 111, some 112, some 113, some 114, some 115, some 116, some 117, some 118, some 119, some 120, none] [4, 6, 13] rfl rfl rfl (fun K hK => ?_)
                      refine runD_cut 8 (fun K2 hK2 => ?_)
                      push_cast [hb4, hb6, hx8, hx81, hx82, hb9, hx10, hx102, hb20, hb21, hb25, hb29, hx31, hx312]
                      repeat (refine And.intro (by omega) ?_)
                      refine hK2 _ _ _ ?_
                      clear hK2 K2
                      simp only [List.drop_succ_cons, List.drop_zero]
                      push_cast [hb4, hb6, hx8, hx81, hx82, hb9, hx10, hx102, hb20, hb21, hb25, hb29, hx31, hx312]
                      repeat (refine And.intro (by omega) ?_)
                      refine ⟨rfl, hK _ ?_⟩
                      clear hK K
                      refine VC.sub (s' := ⟨[(4, .ref 0 0), (6, .ref 1 0), (13, .raw (.int .u32 (r30.1.toNat : Int)))], [(0, .box 55 [.raw (.int .u32 (s_4.Ctx.a0.toNat : Int)), .raw (.int .u32 (s_4.Ctx.a1.toNat : Int)), .raw (.int .u32 (s_4.Ctx.a2.toNat : Int)), .raw (.int .u32 (s_4.Ctx.a3.toNat : Int)), .row 16 0 6 0 y32.length, .raw (.int .u32 (s_4.Seed.toNat : Int))]), (1, .box 55 [.raw (.int .u32 0), .raw (.int .u32 0), .raw (.int .u32 0), .raw (.int .u32 0), .sl true [], .raw (.int .u32 0)]), (16, .row 27 6 0 (y32.map enc_Table))], 113, 123, 0⟩) (Sub.of ?_ ?_ ⟨rfl, rfl, Nat.le_of_ble_eq_true rfl⟩ rfl) ?_
                      · push_cast [hb4, hb6, hb9, hb20, hb21, hb25, hb29, hy32, hy32l]
                      · push_cast [hb4, hb6, hb9, hb20, hb21, hb25, hb29, hy32, hy32l]
                      refine VC.seqF tabOkF [some 121, some 122, none, some 7, some 8] [6, 7, 8] rfl rfl (fun K hK => ?_)
                      push_cast [hb4, hb6, hx8, hx81, hx82, hb9, hx10, hx102, hb20, hb21, hb25, hb29, hx31, hx312]
                      repeat (refine And.intro (by omega) ?_)
                      refine hK _ ?_
                      clear hK K
                      refine VC.ret ?_
                      have hr := Option.some.inj h
                      subst hr
                      refine endS (Sub.of (s' := ⟨[(6, .ref 1 0), (7, .raw (.int .u32 (r30.1.toNat : Int))), (8, .raw (.int .i64 0))], [(1, .box 55 [.raw (.int .u32 (s_4.Ctx.a0.toNat : Int)), .raw (.int .u32 (s_4.Ctx.a1.toNat : Int)), .raw (.int .u32 (s_4.Ctx.a2.toNat : Int)), .raw (.int .u32 (s_4.Ctx.a3.toNat : Int)), .row 16 0 6 0 y32.length, .raw (.int .u32 (s_4.Seed.toNat : Int))]), (16, .row 27 6 0 (y32.map enc_Table))], 118, 123, 0⟩) (by push_cast [hb4, hb6, hb9, hb20, hb21, hb25, hb29, hy32, hy32l]) (by push_cast [hb4, hb6, hb9, hb20, hb21, hb25, hb29, hy32, hy32l]) ⟨rfl, rfl, Nat.le_of_ble_eq_true rfl⟩ rfl) ?_
                      refine endS (Sub.renB (b := 1) (j := 4) (i' := 0) rfl rfl rfl (Nat.le_of_ble_eq_true rfl) (Nat.le_of_ble_eq_true rfl) rfl) ?_
                      refine endP (Sub.lo _) (Post.ret ?_ ?_ ?_)
                      · push_cast [hb4, hb6, hb9, hb20, hb21, hb25, hb29, hy32, hy32l]
                      · push_cast [hb4, hb6, hb9, hb20, hb21, hb25, hb29, hy32, hy32l]
                      · rfl
                    · replace h := cond_no hb29 h
                      rcases Bool.eq_false_or_eq_true (a0 == 3) with hb33 | hb33
                      · replace h := cond_yes hb33 h
                        refine VC.seqF tabOkF [some 94, some 95, some 96, none, some 97, some 98, none, some 99, some 100, none, some 101, some 102, none, some 103, some 104, none, some 105, some 106, some 107, some 12] [2, 4, 6, 10, 12] rfl rfl (fun K hK => ?_)
                        refine runOps_cut 8 (fun K2 hK2 => ?_)
                        push_cast [hb4, hb6, hx8, hx81, hx82, hb9, hx10, hx102, hb20, hb21, hb25, hb29, hb33]
                        repeat (refine And.intro (by omega) ?_)
                        refine hK2 _ _ ?_
                        clear hK2 K2
                        simp only [List.drop_succ_cons, List.drop_zero]
                        refine runOps_cut 8 (fun K2 hK2 => ?_)
                        push_cast [hb4, hb6, hx8, hx81, hx82, hb9, hx10, hx102, hb20, hb21, hb25, hb29, hb33]
                        repeat (refine And.intro (by omega) ?_)
                        refine hK2 _ _ ?_
                        clear hK2 K2
                        simp only [List.drop_succ_cons, List.drop_zero]
                        push_cast [hb4, hb6, hx8, hx81, hx82, hb9, hx10, hx102, hb20, hb21, hb25, hb29, hb33]
                        repeat (refine And.intro (by omega) ?_)
                        refine hK _ ?_
                        clear hK K
                        obtain ⟨r34, hr34, h⟩ := po_some h
                        refine VC.seqF tabOkF [some 108, some 109, some 110, some 13] [2, 4, 6, 10, 13] rfl rfl (fun K hK => ?_)
                        push_cast [hb4, hb6, hx8, hx81, hx82, hb9, hx10, hx102, hb20, hb21, hb25, hb29, hb33]
                        repeat (refine And.intro (by omega) ?_)
                        refine callH (H := [(37, .box 87 [.raw (.int .i64 x10.S.Kind), .raw (.int .i64 x10.S.Cap), .raw (.int .i64 x10.S.Words), .raw (.int .i64 x10.S.Ver), .sl false (x10.E.map enc_Entry), .raw (.int .u32 (x10.Next.toNat : Int))])]) (Ctr.loH (Ctr.ren (Bij.swp 0 37 Bij.id) (c_helper_call_has (T_helper_call.mk x10) a2 hr34) (by push_cast [hb4, hb6, hx8, hx81, hx82, hb9, hx10, hx102, hb20, hb21, hb25, hb29, hb33]) (by push_cast [hb4, hb6, hx8, hx81, hx82, hb9, hx10, hx102, hb20, hb21, hb25, hb29, hb33]))) (by push_cast [hb4, hb6, hx8, hx81, hx82, hb9, hx10, hx102, hb20, hb21, hb25, hb29, hb33]) rfl rfl rfl ?_
                        push_cast [hb4, hb6, hx8, hx81, hx82, hb9, hx10, hx102, hb20, hb21, hb25, hb29, hb33]
                        repeat (refine And.intro (by omega) ?_)
                        refine hK _ ?_
                        clear hK K
                        refine VC.sub (s' := ⟨[(2, .sl false (a2.map encU32)), (4, .ref 0 0), (6, .ref 1 0), (10, .ref 37 0), (13, .raw (.int .u32 (r34.1.toNat : Int)))], [(0, .box 55 [.raw (.int .u32 (s_4.Ctx.a0.toNat : Int)), .raw (.int .u32 (s_4.Ctx.a1.toNat : Int)), .raw (.int .u32 (s_4.Ctx.a2.toNat : Int)), .raw (.int .u32 (s_4.Ctx.a3.toNat : Int)), .row 16 0 6 0 s_4.T.length, .raw (.int .u32 (s_4.Seed.toNat : Int))]), (1, .box 55 [.raw (.int .u32 0), .raw (.int .u32 0), .raw (.int .u32 0), .raw (.int .u32 0), .sl true [], .raw (.int .u32 0)]), (16, .row 27 6 0 (s_4.T.map enc_Table)), (37, .box 87 [.raw (.int .i64 r34.2.t.S.Kind), .raw (.int .i64 r34.2.t.S.Cap), .raw (.int .i64 r34.2.t.S.Words), .raw (.int .i64 r34.2.t.S.Ver), .sl false (r34.2.t.E.map enc_Entry), .raw (.int .u32 (r34.2.t.Next.toNat : Int))])], 102, 123, 0⟩) (Sub.of ?_ ?_ ⟨rfl, rfl, Nat.le_of_ble_eq_true rfl⟩ rfl) ?_
                        · push_cast [hb4, hb6, hb9, hb20, hb21, hb25, hb29, hb33]
                        · push_cast [hb4, hb6, hb9, hb20, hb21, hb25, hb29, hb33]
                        obtain ⟨x35, hx35, h⟩ := po_some h
                        have hx352 := get_lt hx35
                        obtain ⟨y36, hy36, h⟩ := pl_some h
                        have hy36l : y36.length = s_4.T.length := by rw [hy36, List.length_set]
                        refine VC.seqFD tabOkF hmixO [some 111, some 112, some 113, some 114, some 115, some 116, some 117, some 118, some 119, some 120, none] [4, 6, 13] rfl rfl rfl (fun K hK => ?_)
                        refine runD_cut 8 (fun K2 hK2 => ?_)
                        push_cast [hb4, hb6, hx8, hx81, hx82, hb9, hx10, hx102, hb20, hb21, hb25, hb29, hb33, hx35, hx352]
                        repeat (refine And.intro (by omega) ?_)
                        refine hK2 _ _ _ ?_
                        clear hK2 K2
                        simp only [List.drop_succ_cons, List.drop_zero]
                        push_cast [hb4, hb6, hx8, hx81, hx82, hb9, hx10, hx102, hb20, hb21, hb25, hb29, hb33, hx35, hx352]
                        repeat (refine And.intro (by omega) ?_)
                        refine ⟨rfl, hK _ ?_⟩
                        clear hK K
                        refine VC.sub (s' := ⟨[(4, .ref 0 0), (6, .ref 1 0), (13, .raw (.int .u32 (r34.1.toNat : Int)))], [(0, .box 55 [.raw (.int .u32 (s_4.Ctx.a0.toNat : Int)), .raw (.int .u32 (s_4.Ctx.a1.toNat : Int)), .raw (.int .u32 (s_4.Ctx.a2.toNat : Int)), .raw (.int .u32 (s_4.Ctx.a3.toNat : Int)), .row 16 0 6 0 y36.length, .raw (.int .u32 (s_4.Seed.toNat : Int))]), (1, .box 55 [.raw (.int .u32 0), .raw (.int .u32 0), .raw (.int .u32 0), .raw (.int .u32 0), .sl true [], .raw (.int .u32 0)]), (16, .row 27 6 0 (y36.map enc_Table))], 113, 123, 0⟩) (Sub.of ?_ ?_ ⟨rfl, rfl, Nat.le_of_ble_eq_true rfl⟩ rfl) ?_
                        · push_cast [hb4, hb6, hb9, hb20, hb21, hb25, hb29, hb33, hy36, hy36l]
                        · push_cast [hb4, hb6, hb9, hb20, hb21, hb25, hb29, hb33, hy36, hy36l]
                        refine VC.seqF tabOkF [some 121, some 122, none, some 7, some 8] [6, 7, 8] rfl rfl (fun K hK => ?_)
                        push_cast [hb4, hb6, hx8, hx81, hx82, hb9, hx10, hx102, hb20, hb21, hb25, hb29, hb33, hx35, hx352]
                        repeat (refine And.intro (by omega) ?_)
                        refine hK _ ?_
                        clear hK K
                        refine VC.ret ?_
                        have hr := Option.some.inj h
                        subst hr
                        refine endS (Sub.of (s' := ⟨[(6, .ref 1 0), (7, .raw (.int .u32 (r34.1.toNat : Int))), (8, .raw (.int .i64 0))], [(1, .box 55 [.raw (.int .u32 (s_4.Ctx.a0.toNat : Int)), .raw (.int .u32 (s_4.Ctx.a1.toNat : Int)), .raw (.int .u32 (s_4.Ctx.a2.toNat : Int)), .raw (.int .u32 (s_4.Ctx.a3.toNat : Int)), .row 16 0 6 0 y36.length, .raw (.int .u32 (s_4.Seed.toNat : Int))]), (16, .row 27 6 0 (y36.map enc_Table))], 118, 123, 0⟩) (by push_cast [hb4, hb6, hb9, hb20, hb21, hb25, hb29, hb33, hy36, hy36l]) (by push_cast [hb4, hb6, hb9, hb20, hb21, hb25, hb29, hb33, hy36, hy36l]) ⟨rfl, rfl, Nat.le_of_ble_eq_true rfl⟩ rfl) ?_
                        refine endS (Sub.renB (b := 1) (j := 4) (i' := 0) rfl rfl rfl (Nat.le_of_ble_eq_true rfl) (Nat.le_of_ble_eq_true rfl) rfl) ?_
                        refine endP (Sub.lo _) (Post.ret ?_ ?_ ?_)
                        · push_cast [hb4, hb6, hb9, hb20, hb21, hb25, hb29, hb33, hy36, hy36l]
                        · push_cast [hb4, hb6, hb9, hb20, hb21, hb25, hb29, hb33, hy36, hy36l]
                        · rfl
                      · replace h := cond_no hb33 h
                        rcases Bool.eq_false_or_eq_true (a0 == 5) with hb37 | hb37
                        · replace h := cond_yes hb37 h
                          refine VC.seqF tabOkF [some 94, some 95, some 96, none, some 97, some 98, none, some 99, some 100, none, some 101, some 102, none, some 103, some 104, none, some 105, some 106, some 107, some 12] [2, 4, 6, 10, 12] rfl rfl (fun K hK => ?_)
                          refine runOps_cut 8 (fun K2 hK2 => ?_)
                          push_cast [hb4, hb6, hx8, hx81, hx82, hb9, hx10, hx102, hb20, hb21, hb25, hb29, hb33, hb37]
                          repeat (refine And.intro (by omega) ?_)
                          refine hK2 _ _ ?_
                          clear hK2 K2
                          simp only [List.drop_succ_cons, List.drop_zero]
                          refine runOps_cut 8 (fun K2 hK2 => ?_)
                          push_cast [hb4, hb6, hx8, hx81, hx82, hb9, hx10, hx102, hb20, hb21, hb25, hb29, hb33, hb37]
                          repeat (refine And.intro (by omega) ?_)
                          refine hK2 _ _ ?_
                          clear hK2 K2
                          simp only [List.drop_succ_cons, List.drop_zero]
                          push_cast [hb4, hb6, hx8, hx81, hx82, hb9, hx10, hx102, hb20, hb21, hb25, hb29, hb33, hb37]
                          repeat (refine And.intro (by omega) ?_)
                          refine hK _ ?_
                          clear hK K
                          obtain ⟨r38, hr38, h⟩ := po_some h
                          refine VC.seqF tabOkF [some 108, some 109, some 110, some 13] [2, 4, 6, 10, 13] rfl rfl (fun K hK => ?_)
                          push_cast [hb4, hb6, hx8, hx81, hx82, hb9, hx10, hx102, hb20, hb21, hb25, hb29, hb33, hb37]
                          repeat (refine And.intro (by omega) ?_)
                          refine callH (H := [(37, .box 87 [.raw (.int .i64 x10.S.Kind), .raw (.int .i64 x10.S.Cap), .raw (.int .i64 x10.S.Words), .raw (.int .i64 x10.S.Ver), .sl false (x10.E.map enc_Entry), .raw (.int .u32 (x10.Next.toNat : Int))])]) (Ctr.loH (Ctr.ren (Bij.swp 0 37 Bij.id) (c_helper_call_push (T_helper_call.mk x10) a2 hr38) (by push_cast [hb4, hb6, hx8, hx81, hx82, hb9, hx10, hx102, hb20, hb21, hb25, hb29, hb33, hb37]) (by push_cast [hb4, hb6, hx8, hx81, hx82, hb9, hx10, hx102, hb20, hb21, hb25, hb29, hb33, hb37]))) (by push_cast [hb4, hb6, hx8, hx81, hx82, hb9, hx10, hx102, hb20, hb21, hb25, hb29, hb33, hb37]) rfl rfl rfl ?_
                          push_cast [hb4, hb6, hx8, hx81, hx82, hb9, hx10, hx102, hb20, hb21, hb25, hb29, hb33, hb37]
                          repeat (refine And.intro (by omega) ?_)
                          refine hK _ ?_
                          clear hK K
                          refine VC.sub (s' := ⟨[(2, .sl false (a2.map encU32)), (4, .ref 0 0), (6, .ref 1 0), (10, .ref 37 0), (13, .raw (.int .u32 (r38.1.toNat : Int)))], [(0, .box 55 [.raw (.int .u32 (s_4.Ctx.a0.toNat : Int)), .raw (.int .u32 (s_4.Ctx.a1.toNat : Int)), .raw (.int .u32 (s_4.Ctx.a2.toNat : Int)), .raw (.int .u32 (s_4.Ctx.a3.toNat : Int)), .row 16 0 6 0 s_4.T.length, .raw (.int .u32 (s_4.Seed.toNat : Int))]), (1, .box 55 [.raw (.int .u32 0), .raw (.int .u32 0), .raw (.int .u32 0), .raw (.int .u32 0), .sl true [], .raw (.int .u32 0)]), (16, .row 27 6 0 (s_4.T.map enc_Table)), (37, .box 87 [.raw (.int .i64 r38.2.t.S.Kind), .raw (.int .i64 r38.2.t.S.Cap), .raw (.int .i64 r38.2.t.S.Words), .raw (.int .i64 r38.2.t.S.Ver), .sl false (r38.2.t.E.map enc_Entry), .raw (.int .u32 (r38.2.t.Next.toNat : Int))])], 102, 123, 0⟩) (Sub.of ?_ ?_ ⟨rfl, rfl, Nat.le_of_ble_eq_true rfl⟩ rfl) ?_
                          · push_cast [hb4, hb6, hb9, hb20, hb21, hb25, hb29, hb33, hb37]
                          · push_cast [hb4, hb6, hb9, hb20, hb21, hb25, hb29, hb33, hb37]
                          obtain ⟨x39, hx39, h⟩ := po_some h
                          have hx392 := get_lt hx39
                          obtain ⟨y40, hy40, h⟩ := pl_some h
                          have hy40l : y40.length = s_4.T.length := by rw [hy40, List.length_set]
                          refine VC.seqFD tabOkF hmixO [some 111, some 112, some 113, some 114, some 115, some 116, some 117, some 118, some 119, some 120, none] [4, 6, 13] rfl rfl rfl (fun K hK => ?_)
                          refine runD_cut 8 (fun K2 hK2 => ?_)
                          push_cast [hb4, hb6, hx8, hx81, hx82, hb9, hx10, hx102, hb20, hb21, hb25, hb29, hb33, hb37, hx39, hx392]
                          repeat (refine And.intro (by omega) ?_)
                          refine hK2 _ _ _ ?_
                          clear hK2 K2
                          simp only [List.drop_succ_cons, List.drop_zero]
                          push_cast [hb4, hb6, hx8, hx81, hx82, hb9, hx10, hx102, hb20, hb21, hb25, hb29, hb33, hb37, hx39, hx392]
                          repeat (refine And.intro (by omega) ?_)
                          refine ⟨rfl, hK _ ?_⟩
                          clear hK K
                          refine VC.sub (s' := ⟨[(4, .ref 0 0), (6, .ref 1 0), (13, .raw (.int .u32 (r38.1.toNat : Int)))], [(0, .box 55 [.raw (.int .u32 (s_4.Ctx.a0.toNat : Int)), .raw (.int .u32 (s_4.Ctx.a1.toNat : Int)), .raw (.int .u32 (s_4.Ctx.a2.toNat : Int)), .raw (.int .u32 (s_4.Ctx.a3.toNat : Int)), .row 16 0 6 0 y40.length, .raw (.int .u32 (s_4.Seed.toNat : Int))]), (1, .box 55 [.raw (.int .u32 0), .raw (.int .u32 0), .raw (.int .u32 0), .raw (.int .u32 0), .sl true [], .raw (.int .u32 0)]), (16, .row 27 6 0 (y40.map enc_Table))], 113, 123, 0⟩) (Sub.of ?_ ?_ ⟨rfl, rfl, Nat.le_of_ble_eq_true rfl⟩ rfl) ?_
                          · push_cast [hb4, hb6, hb9, hb20, hb21, hb25, hb29, hb33, hb37, hy40, hy40l]
                          · push_cast [hb4, hb6, hb9, hb20, hb21, hb25, hb29, hb33, hb37, hy40, hy40l]
                          refine VC.seqF tabOkF [some 121, some 122, none, some 7, some 8] [6, 7, 8] rfl rfl (fun K hK => ?_)
                          push_cast [hb4, hb6, hx8, hx81, hx82, hb9, hx10, hx102, hb20, hb21, hb25, hb29, hb33, hb37, hx39, hx392]
                          repeat (refine And.intro (by omega) ?_)
                          refine hK _ ?_
                          clear hK K
                          refine VC.ret ?_
                          have hr := Option.some.inj h
                          subst hr
                          refine endS (Sub.of (s' := ⟨[(6, .ref 1 0), (7, .raw (.int .u32 (r38.1.toNat : Int))), (8, .raw (.int .i64 0))], [(1, .box 55 [.raw (.int .u32 (s_4.Ctx.a0.toNat : Int)), .raw (.int .u32 (s_4.Ctx.a1.toNat : Int)), .raw (.int .u32 (s_4.Ctx.a2.toNat : Int)), .raw (.int .u32 (s_4.Ctx.a3.toNat : Int)), .row 16 0 6 0 y40.length, .raw (.int .u32 (s_4.Seed.toNat : Int))]), (16, .row 27 6 0 (y40.map enc_Table))], 118, 123, 0⟩) (by push_cast [hb4, hb6, hb9, hb20, hb21, hb25, hb29, hb33, hb37, hy40, hy40l]) (by push_cast [hb4, hb6, hb9, hb20, hb21, hb25, hb29, hb33, hb37, hy40, hy40l]) ⟨rfl, rfl, Nat.le_of_ble_eq_true rfl⟩ rfl) ?_
                          refine endS (Sub.renB (b := 1) (j := 4) (i' := 0) rfl rfl rfl (Nat.le_of_ble_eq_true rfl) (Nat.le_of_ble_eq_true rfl) rfl) ?_
                          refine endP (Sub.lo _) (Post.ret ?_ ?_ ?_)
                          · push_cast [hb4, hb6, hb9, hb20, hb21, hb25, hb29, hb33, hb37, hy40, hy40l]
                          · push_cast [hb4, hb6, hb9, hb20, hb21, hb25, hb29, hb33, hb37, hy40, hy40l]
                          · rfl
                        · replace h := cond_no hb37 h
                          refine VC.seqF tabOkF [some 94, some 95, some 96, none, some 97, some 98, none, some 99, some 100, none, some 101, some 102, none, some 103, some 104, none, some 105, some 106, some 107, some 12] [2, 4, 6, 10, 12] rfl rfl (fun K hK => ?_)
                          refine runOps_cut 8 (fun K2 hK2 => ?_)
                          push_cast [hb4, hb6, hx8, hx81, hx82, hb9, hx10, hx102, hb20, hb21, hb25, hb29, hb33, hb37]
                          repeat (refine And.intro (by omega) ?_)
                          refine hK2 _ _ ?_
                          clear hK2 K2
                          simp only [List.drop_succ_cons, List.drop_zero]
                          refine runOps_cut 8 (fun K2 hK2 => ?_)
                          push_cast [hb4, hb6, hx8, hx81, hx82, hb9, hx10, hx102, hb20, hb21, hb25, hb29, hb33, hb37]
                          repeat (refine And.intro (by omega) ?_)
                          refine hK2 _ _ ?_
                          clear hK2 K2
                          simp only [List.drop_succ_cons, List.drop_zero]
                          push_cast [hb4, hb6, hx8, hx81, hx82, hb9, hx10, hx102, hb20, hb21, hb25, hb29, hb33, hb37]
                          repeat (refine And.intro (by omega) ?_)
                          refine hK _ ?_
                          clear hK K
                          cases h
end Go.Proofs.Ytpmnchgpbojppaa

/- The plain function of drydock/drydockref05.Few. -/
set_option linter.unusedVariables false
set_option linter.unusedSimpArgs false
namespace Go.Proofs.Ytpmnchgpbojppaa
open Go Go.RowKit Go.Proofs.Try
noncomputable def p_drydockref05_Few_J9 (x7 : T_Table) (i_41 : Bool) (i_42 : Int) (i_43 : Bool) : Option ((Bool × Int) ⊕ (Bool)) :=
  cond i_43 (
  po (idx x7.E i_42) fun x12 =>
  some (Sum.inl ((decide ((x12.V.length : Int) ≤ 6)), (IntKind.i64.wrap (i_42 + 1))))) (
  some (Sum.inr i_41))
noncomputable def p_drydockref05_Few_L8 (x7 : T_Table) (i_41 : Bool) (i_42 : Int) : Option ((Bool × Int) ⊕ (Bool)) :=
  po (
  cond (decide (i_42 < (x7.E.length : Int))) (
  some i_41) (
  some false)) (fun x => p_drydockref05_Few_J9 x7 i_41 i_42 x)
noncomputable def p_drydockref05_Few_J6 (i_16 : Int) (i_24 : Bool) : Option ((Bool × Int) ⊕ (Bool)) :=
  some (Sum.inl (i_24, (IntKind.i64.wrap (i_16 + 1))))
noncomputable def p_drydockref05_Few_J3 (a0 : (List T_Table)) (i_15 : Bool) (i_16 : Int) (i_17 : Bool) : Option ((Bool × Int) ⊕ (Bool)) :=
  cond i_17 (
  po (
  po (idx a0 i_16) fun x7 =>
  lpU (fun x => p_drydockref05_Few_L8 x7 x.1 x.2) ((decide ((x7.E.length : Int) ≤ 20)), 0)) (fun x => p_drydockref05_Few_J6 i_16 x)) (
  some (Sum.inr i_15))
noncomputable def p_drydockref05_Few_L2 (a0 : (List T_Table)) (i_15 : Bool) (i_16 : Int) : Option ((Bool × Int) ⊕ (Bool)) :=
  po (
  cond (decide (i_16 < (a0.length : Int))) (
  some i_15) (
  some false)) (fun x => p_drydockref05_Few_J3 a0 i_15 i_16 x)
noncomputable def p_drydockref05_Few_J1 (i_39 : Bool) : Option (Bool) :=
  some i_39
noncomputable def p_drydockref05_Few (a0 : (List T_Table)) : Option (Bool) :=
  po (
  lpU (fun x => p_drydockref05_Few_L2 a0 x.1 x.2) ((decide ((a0.length : Int) ≤ 6)), 0)) (fun x => p_drydockref05_Few_J1 x)
set_option maxHeartbeats 4000000 in
set_option maxRecDepth 100000 in
theorem c_drydockref05_Few (a0 : (List T_Table)) {r : Bool} (h : p_drydockref05_Few a0 = some r) : Ctr prog 40 [.sl false (a0.map enc_Table)] [] (.raw (.bool r)) [] := by
  unfold p_drydockref05_Few at h
  refine Ctr.ofW tabOk func40 rfl call40 0 _ ntmps40 [.tmp 2] rfl rfl rfl (fun B => ?_)
  refine VC.seqF tabOkF [some 2] [0] rfl rfl (fun K hK => ?_)
  push_cast
  repeat (refine And.intro (by omega) ?_)
  refine hK _ ?_
  clear hK K
  refine VC.seqF tabOkF [some 6, some 7, some 8, some 3] [0, 3] rfl rfl (fun K hK => ?_)
  push_cast
  repeat (refine And.intro (by omega) ?_)
  refine hK _ ?_
  clear hK K
  obtain ⟨v1, h, hk1⟩ := po_some h
  refine VC.seqJ (X := Bool) (fun x => p_drydockref05_Few_J1 x = some r) (fun x => ⟨[(3, .raw (.bool x))], [], 69, 50, 0⟩) ?_ ?_
  · refine VC.seqF tabOkF [some 4] [0, 3, 4] rfl rfl (fun K hK => ?_)
    push_cast
    repeat (refine And.intro (by omega) ?_)
    refine hK _ ?_
    clear hK K
    refine VC.block ?_
    refine VC.loopP h (fun x => ⟨[(0, .sl false (a0.map enc_Table)), (3, .raw (.bool x.1)), (4, .raw (.int .i64 x.2))], [], 62, 50, 0⟩) ?_ ?_
    · refine Sub.trans (Sub.lo _) ?_
      refine Sub.of ?_ ?_ ⟨rfl, rfl, Nat.le_of_ble_eq_true rfl⟩ rfl
      · push_cast
      · push_cast
    rintro ⟨i_15, i_16⟩ b2 h hf2
    replace h : p_drydockref05_Few_L2 a0 i_15 i_16 = some b2 := h
    try push_cast
    unfold p_drydockref05_Few_L2 at h
    refine VC.seq ?_
    obtain ⟨v3, h, hk3⟩ := po_some h
    refine VC.seqJ (X := Bool) (fun x => p_drydockref05_Few_J3 a0 i_15 i_16 x = some b2) (fun x => ⟨[(0, .sl false (a0.map enc_Table)), (3, .raw (.bool i_15)), (4, .raw (.int .i64 i_16)), (15, .raw (.bool x))], [], 69, 50, 0⟩) ?_ ?_
    · rcases Bool.eq_false_or_eq_true (decide (i_16 < (a0.length : Int))) with hb4 | hb4
      · replace h := cond_yes hb4 h
        refine VC.lastF tabOkF [some 9, some 10, some 11, some 12, some 13, some 14, some 15] rfl rfl (fun K hK => ?_)
        push_cast [hb4]
        repeat (refine And.intro (by omega) ?_)
        refine hK _ ?_
        clear hK K
        have hv := Option.some.inj h
        rw [← hv] at hk3
        refine Exists.intro (i_15) (And.intro hk3 ?_)
        refine Sub.trans (Sub.lo _) ?_
        refine Sub.of ?_ ?_ ⟨rfl, rfl, Nat.le_of_ble_eq_true rfl⟩ rfl
        · push_cast [hb4]
        · push_cast [hb4]
      · replace h := cond_no hb4 h
        refine VC.lastF tabOkF [some 9, some 10, some 11, some 12, some 13, some 14, some 15] rfl rfl (fun K hK => ?_)
        push_cast [hb4]
        repeat (refine And.intro (by omega) ?_)
        refine hK _ ?_
        clear hK K
        have hv := Option.some.inj h
        rw [← hv] at hk3
        refine Exists.intro (false) (And.intro hk3 ?_)
        refine Sub.trans (Sub.lo _) ?_
        refine Sub.of ?_ ?_ ⟨rfl, rfl, Nat.le_of_ble_eq_true rfl⟩ rfl
        · push_cast [hb4]
        · push_cast [hb4]
    · rintro i_17 h
      replace h : p_drydockref05_Few_J3 a0 i_15 i_16 i_17 = some b2 := h
      try push_cast
      unfold p_drydockref05_Few_J3 at h
      refine VC.cond rfl rfl (fun hc5 => ?_) (fun hc5 => ?_)
      · have hb5 : i_17 = true := by simpa using hc5
        replace h := cond_yes hb5 h
        refine VC.skip ?_
        obtain ⟨v6, h, hk6⟩ := po_some h
        refine VC.seqJ (X := Bool) (fun x => p_drydockref05_Few_J6 i_16 x = some b2) (fun x => ⟨[(0, .sl false (a0.map enc_Table)), (3, .raw (.bool x)), (4, .raw (.int .i64 i_16))], [], 115, 50, 0⟩) ?_ ?_
        · refine VC.block ?_
          obtain ⟨x7, hx7, h⟩ := po_some h
          obtain ⟨hx71, hx72, hx73, hx74⟩ := idx_some4 hx7
          refine VC.seqF tabOkF [some 18, some 19, some 20, some 21, some 22, some 23, some 24, some 3] [0, 3, 4] rfl rfl (fun K hK => ?_)
          push_cast [hb5, hx71, hx72, hx73, hx74]
          repeat (refine And.intro (by omega) ?_)
          refine hK _ ?_
          clear hK K
          refine VC.seqF tabOkF [some 5] [0, 3, 4, 5] rfl rfl (fun K hK => ?_)
          push_cast [hb5, hx71, hx72, hx73, hx74]
          repeat (refine And.intro (by omega) ?_)
          refine hK _ ?_
          clear hK K
          refine VC.block ?_
          refine VC.loopP h (fun x => ⟨[(0, .sl false (a0.map enc_Table)), (3, .raw (.bool x.1)), (4, .raw (.int .i64 i_16)), (5, .raw (.int .i64 x.2))], [], 104, 50, 0⟩) ?_ ?_
          · refine Sub.trans (Sub.lo _) ?_
            refine Sub.of ?_ ?_ ⟨rfl, rfl, Nat.le_of_ble_eq_true rfl⟩ rfl
            · push_cast [hb5]
            · push_cast [hb5]
          rintro ⟨i_41, i_42⟩ b8 h hf8
          replace h : p_drydockref05_Few_L8 x7 i_41 i_42 = some b8 := h
          try push_cast
          unfold p_drydockref05_Few_L8 at h
          refine VC.seq ?_
          obtain ⟨v9, h, hk9⟩ := po_some h
          refine VC.seqJ (X := Bool) (fun x => p_drydockref05_Few_J9 x7 i_41 i_42 x = some b8) (fun x => ⟨[(0, .sl false (a0.map enc_Table)), (3, .raw (.bool i_41)), (4, .raw (.int .i64 i_16)), (5, .raw (.int .i64 i_42)), (35, .raw (.bool x))], [], 115, 50, 0⟩) ?_ ?_
          · rcases Bool.eq_false_or_eq_true (decide (i_42 < (x7.E.length : Int))) with hb10 | hb10
            · replace h := cond_yes hb10 h
              refine VC.lastF tabOkF [some 25, some 26, some 27, some 28, some 29, some 30, some 31, some 32, some 33, some 34, some 35] rfl rfl (fun K hK => ?_)
              refine runOps_cut 8 (fun K2 hK2 => ?_)
              push_cast [hb5, hx71, hx72, hx73, hx74, hb10]
              repeat (refine And.intro (by omega) ?_)
              refine hK2 _ _ ?_
              clear hK2 K2
              simp only [List.drop_succ_cons, List.drop_zero]
              push_cast [hb5, hx71, hx72, hx73, hx74, hb10]
              repeat (refine And.intro (by omega) ?_)
              refine hK _ ?_
              clear hK K
              have hv := Option.some.inj h
              rw [← hv] at hk9
              refine Exists.intro (i_41) (And.intro hk9 ?_)
              refine Sub.trans (Sub.lo _) ?_
              refine Sub.of ?_ ?_ ⟨rfl, rfl, Nat.le_of_ble_eq_true rfl⟩ rfl
              · push_cast [hb5, hb10]
              · push_cast [hb5, hb10]
            · replace h := cond_no hb10 h
              refine VC.lastF tabOkF [some 25, some 26, some 27, some 28, some 29, some 30, some 31, some 32, some 33, some 34, some 35] rfl rfl (fun K hK => ?_)
              refine runOps_cut 8 (fun K2 hK2 => ?_)
              push_cast [hb5, hx71, hx72, hx73, hx74, hb10]
              repeat (refine And.intro (by omega) ?_)
              refine hK2 _ _ ?_
              clear hK2 K2
              simp only [List.drop_succ_cons, List.drop_zero]
              push_cast [hb5, hx71, hx72, hx73, hx74, hb10]
              repeat (refine And.intro (by omega) ?_)
              refine hK _ ?_
              clear hK K
              have hv := Option.some.inj h
              rw [← hv] at hk9
              refine Exists.intro (false) (And.intro hk9 ?_)
              refine Sub.trans (Sub.lo _) ?_
              refine Sub.of ?_ ?_ ⟨rfl, rfl, Nat.le_of_ble_eq_true rfl⟩ rfl
              · push_cast [hb5, hb10]
              · push_cast [hb5, hb10]
          · rintro i_43 h
            replace h : p_drydockref05_Few_J9 x7 i_41 i_42 i_43 = some b8 := h
            try push_cast
            unfold p_drydockref05_Few_J9 at h
            refine VC.cond rfl rfl (fun hc11 => ?_) (fun hc11 => ?_)
            · have hb11 : i_43 = true := by simpa using hc11
              replace h := cond_yes hb11 h
              refine VC.skip ?_
              refine VC.seq ?_
              refine VC.block ?_
              obtain ⟨x12, hx12, h⟩ := po_some h
              obtain ⟨hx121, hx122, hx123, hx124⟩ := idx_some4 hx12
              refine VC.lastF tabOkF [some 38, some 39, some 40, some 41, some 42, some 43, some 44, some 45, some 46, some 47, some 48, some 3] rfl rfl (fun K hK => ?_)
              refine runOps_cut 8 (fun K2 hK2 => ?_)
              push_cast [hb5, hx71, hx72, hx73, hx74, hb11, hx121, hx122, hx123, hx124]
              repeat (refine And.intro (by omega) ?_)
              refine hK2 _ _ ?_
              clear hK2 K2
              simp only [List.drop_succ_cons, List.drop_zero]
              push_cast [hb5, hx71, hx72, hx73, hx74, hb11, hx121, hx122, hx123, hx124]
              repeat (refine And.intro (by omega) ?_)
              refine hK _ ?_
              clear hK K
              refine VC.lastF tabOkF [some 36, some 37, some 5] rfl rfl (fun K hK => ?_)
              push_cast [hb5, hx71, hx72, hx73, hx74, hb11, hx121, hx122, hx123, hx124]
              repeat (refine And.intro (by omega) ?_)
              refine hK _ ?_
              clear hK K
              refine Exists.intro (((decide ((x12.V.length : Int) ≤ 6)), (IntKind.i64.wrap (i_42 + 1)))) (And.intro (Option.some.inj h).symm ?_)
              refine Sub.trans (Sub.lo _) ?_
              refine Sub.of ?_ ?_ ⟨rfl, rfl, Nat.le_of_ble_eq_true rfl⟩ rfl
              · push_cast [hb5, hb11]
              · push_cast [hb5, hb11]
            · have hb11 : i_43 = false := by simpa using hc11
              replace h := cond_no hb11 h
              refine VC.exit ?_
              replace h := congrArg some (hf8 _ (Option.some.inj h).symm)
              have hv := Option.some.inj h
              rw [← hv] at hk6
              refine Exists.intro (i_41) (And.intro hk6 ?_)
              refine Sub.trans (Sub.lo _) ?_
              refine Sub.of ?_ ?_ ⟨rfl, rfl, Nat.le_of_ble_eq_true rfl⟩ rfl
              · push_cast [hb5, hb11]
              · push_cast [hb5, hb11]
        · rintro i_24 h
          replace h : p_drydockref05_Few_J6 i_16 i_24 = some b2 := h
          try push_cast
          unfold p_drydockref05_Few_J6 at h
          refine VC.lastF tabOkF [some 16, some 17, some 4] rfl rfl (fun K hK => ?_)
          push_cast [hb5]
          repeat (refine And.intro (by omega) ?_)
          refine hK _ ?_
          clear hK K
          refine Exists.intro ((i_24, (IntKind.i64.wrap (i_16 + 1)))) (And.intro (Option.some.inj h).symm ?_)
          refine Sub.trans (Sub.lo _) ?_
          refine Sub.of ?_ ?_ ⟨rfl, rfl, Nat.le_of_ble_eq_true rfl⟩ rfl
          · push_cast [hb5]
          · push_cast [hb5]
      · have hb5 : i_17 = false := by simpa using hc5
        replace h := cond_no hb5 h
        refine VC.exit ?_
        replace h := congrArg some (hf2 _ (Option.some.inj h).symm)
        have hv := Option.some.inj h
        rw [← hv] at hk1
        refine Exists.intro (i_15) (And.intro hk1 ?_)
        refine Sub.trans (Sub.lo _) ?_
        refine Sub.of ?_ ?_ ⟨rfl, rfl, Nat.le_of_ble_eq_true rfl⟩ rfl
        · push_cast [hb5]
        · push_cast [hb5]
  · rintro i_39 h
    replace h : p_drydockref05_Few_J1 i_39 = some r := h
    try push_cast
    unfold p_drydockref05_Few_J1 at h
    refine VC.seqF tabOkF [some 49, some 2] [2] rfl rfl (fun K hK => ?_)
    push_cast
    repeat (refine And.intro (by omega) ?_)
    refine hK _ ?_
    clear hK K
    refine VC.ret ?_
    have hr := Option.some.inj h
    subst hr
    refine endP (Sub.lo _) (Post.ret ?_ ?_ ?_)
    · push_cast
    · push_cast
    · rfl
end Go.Proofs.Ytpmnchgpbojppaa

/- Helpers, plainly. -/
set_option linter.unusedVariables false
set_option linter.unusedSimpArgs false
namespace Go.Proofs.Ytpmnchgpbojppaa
open Go Go.RowKit Go.Proofs.Try

theorem lp_inv {σ ρ : Type} {step : σ → Option (σ ⊕ ρ)} (I : σ → Prop) (μ : σ → Nat) (Q : ρ → Prop)
    (hs : ∀ s, I s → (∃ s', step s = some (.inl s') ∧ I s' ∧ μ s' < μ s) ∨ (∃ r, step s = some (.inr r) ∧ Q r)) : ∀ (s0 : σ), I s0 → ∃ r, lpU step s0 = some r ∧ Q r := by
  have key : ∀ (n : Nat) (s0 : σ), μ s0 = n → I s0 → ∃ r, lpU step s0 = some r ∧ Q r := by
    intro n
    induction n using Nat.strongRecOn with
    | _ n ih =>
      intro s0 hn h0
      rcases hs s0 h0 with ⟨s', h1, h2, h3⟩ | ⟨r, h1, h2⟩
      · rw [lpU_inl h1]
        exact ih (μ s') (by omega) s' rfl h2
      · exact ⟨r, lpU_inr h1, h2⟩
  exact fun s0 h0 => key _ s0 rfl h0
theorem w64 {n : Nat} (h : n < 9223372036854775807) : IntKind.i64.wrap ((n : Int) + 1) = ((n + 1 : Nat) : Int) := by
  rw [wrap_i64 (by omega) (by omega)]
  omega

/-! ### Few -/
structure FewT (t : T_Table) : Prop where
  e : t.E.length ≤ 20
  v : ∀ e ∈ t.E, e.V.length ≤ 6
structure FewL (l : List T_Table) : Prop where
  len : l.length ≤ 6
  t : ∀ t ∈ l, FewT t
theorem few1 (t : T_Table) : ∃ b, lpU (fun x => p_drydockref05_Few_L8 t x.1 x.2) ((decide ((t.E.length : Int) ≤ 20)), 0) = some b ∧ (b = true → FewT t) := by
  refine lp_inv (fun s => (s.1 = true → t.E.length ≤ 20) ∧ ∃ n : Nat, s.2 = (n : Int) ∧ n ≤ t.E.length ∧ (s.1 = true → ∀ j e, j < n → t.E[j]? = some e → e.V.length ≤ 6)) (fun s => ((t.E.length : Int) - s.2).toNat) (fun b => b = true → FewT t) ?_ _ ?_
  · rintro ⟨b, i⟩ ⟨h1, n, rfl, h2, h3⟩
    simp only at h1 h3
    simp only [p_drydockref05_Few_L8]
    by_cases hlt : n < t.E.length
    · have hd : decide ((n : Int) < (t.E.length : Int)) = true := by simp; omega
      rw [hd]
      simp only [cond_true, po_of, p_drydockref05_Few_J9]
      cases b with
      | true =>
        left
        simp only [cond_true, idx_nat, List.getElem?_eq_getElem hlt, po_of]
        have hn := h1 rfl
        refine ⟨_, rfl, ⟨fun _ => hn, n + 1, w64 (by omega), by omega, fun hb j e hj he => ?_⟩, by simp only [w64 (show n < 9223372036854775807 by omega)]; omega⟩
        rcases Nat.lt_or_ge j n with hjn | hjn
        · exact h3 rfl j e hjn he
        · have : j = n := by omega
          subst this
          rw [List.getElem?_eq_getElem hlt] at he
          injection he with he
          subst he
          simp at hb
          omega
      | false =>
        right
        exact ⟨false, rfl, fun h => by cases h⟩
    · have hd : decide ((n : Int) < (t.E.length : Int)) = false := by simp; omega
      rw [hd]
      right
      refine ⟨b, rfl, fun hb => ⟨h1 hb, fun e he => ?_⟩⟩
      obtain ⟨j, hj⟩ := List.mem_iff_getElem?.1 he
      exact h3 hb j e (by have := get_lt hj; omega) hj
  · exact ⟨fun h => by simp at h; omega, 0, rfl, Nat.zero_le _, fun _ j e hj => by omega⟩
theorem few_tells (l : List T_Table) : ∃ b, p_drydockref05_Few l = some b ∧ (b = true → FewL l) := by
  have key : ∃ b, lpU (fun x => p_drydockref05_Few_L2 l x.1 x.2) ((decide ((l.length : Int) ≤ 6)), 0) = some b ∧ (b = true → FewL l) := by
    refine lp_inv (fun s => (s.1 = true → l.length ≤ 6) ∧ ∃ n : Nat, s.2 = (n : Int) ∧ n ≤ l.length ∧ (s.1 = true → ∀ j t, j < n → l[j]? = some t → FewT t)) (fun s => ((l.length : Int) - s.2).toNat) (fun b => b = true → FewL l) ?_ _ ?_
    · rintro ⟨b, i⟩ ⟨h1, n, rfl, h2, h3⟩
      simp only at h1 h3
      simp only [p_drydockref05_Few_L2]
      by_cases hlt : n < l.length
      · have hd : decide ((n : Int) < (l.length : Int)) = true := by simp; omega
        rw [hd]
        simp only [cond_true, po_of, p_drydockref05_Few_J3]
        cases b with
        | true =>
          left
          obtain ⟨b2, e1, e2⟩ := few1 l[n]
          simp only [cond_true, idx_nat, List.getElem?_eq_getElem hlt, po_of, e1, p_drydockref05_Few_J6]
          have hn := h1 rfl
          refine ⟨_, rfl, ⟨fun _ => hn, n + 1, w64 (by omega), by omega, fun hb j t hj ht => ?_⟩, by simp only [w64 (show n < 9223372036854775807 by omega)]; omega⟩
          rcases Nat.lt_or_ge j n with hjn | hjn
          · exact h3 rfl j t hjn ht
          · have : j = n := by omega
            subst this
            rw [List.getElem?_eq_getElem hlt] at ht
            injection ht with ht
            subst ht
            exact e2 hb
        | false =>
          right
          exact ⟨false, rfl, fun h => by cases h⟩
      · have hd : decide ((n : Int) < (l.length : Int)) = false := by simp; omega
        rw [hd]
        right
        refine ⟨b, rfl, fun hb => ⟨h1 hb, fun t ht => ?_⟩⟩
        obtain ⟨j, hj⟩ := List.mem_iff_getElem?.1 ht
        exact h3 hb j t (by have := get_lt hj; omega) hj
    · exact ⟨fun h => by simp at h; omega, 0, rfl, Nat.zero_le _, fun _ j e hj => by omega⟩
  obtain ⟨b, h1, h2⟩ := key
  exact ⟨b, by simp only [p_drydockref05_Few, h1, po_of, p_drydockref05_Few_J1], h2⟩

/-! ### Own -/
theorem set_same {α : Type} {l : List α} {i : Nat} {a : α} (h : l[i]? = some a) : l.set i a = l := by
  have := List.getElem?_eq_some_iff.1 h
  obtain ⟨h1, h2⟩ := this
  subst h2
  exact List.set_getElem_self h1
structure Fits (l : List T_Table) : Prop where
  len : l.length ≤ 1048576
  e : ∀ t ∈ l, t.E.length ≤ 1048576
  v : ∀ t ∈ l, ∀ e ∈ t.E, e.V.length ≤ 1048576
theorem FewL.fits {l : List T_Table} (h : FewL l) : Fits l := ⟨by have := h.len; omega, fun t ht => by have := (h.t t ht).e; omega, fun t ht e he => by have := (h.t t ht).v e he; omega⟩
theorem own1 {e : T_Env} {t : T_Table} (h1 : t.E.length ≤ 1048576) (h2 : ∀ e ∈ t.E, e.V.length ≤ 1048576) : lpU (fun x => p_helper_own_L9 t.E x.1 x.2.1 x.2.2) (e, t, 0) = some (e, t) := by
  have key := lp_inv (step := fun x => p_helper_own_L9 t.E x.1 x.2.1 x.2.2) (fun s => s.1 = e ∧ s.2.1 = t ∧ ∃ n : Nat, s.2.2 = (n : Int) ∧ n ≤ t.E.length) (fun s => ((t.E.length : Int) - s.2.2).toNat) (fun r => r = (e, t)) (by
    rintro ⟨s, u, i⟩ ⟨h3, h4, n, h5, h6⟩
    simp only at h3 h4 h5
    subst h3
    subst h4
    subst h5
    simp only [p_helper_own_L9]
    by_cases hlt : n < u.E.length
    · left
      have hd : decide ((n : Int) < (u.E.length : Int)) = true := by simp; omega
      have hg := List.getElem?_eq_getElem hlt
      have hv := h2 _ (List.getElem_mem hlt)
      simp only [hd, cond_true, idx_nat, hg, po_of]
      rw [p_slices_Clone_uint32_uint32_of (by omega)]
      simp only [po_of, pl, Int.toNat_natCast]
      refine ⟨_, rfl, ⟨rfl, ?_, n + 1, w64 (by omega), by omega⟩, by simp only [w64 (show n < 9223372036854775807 by omega)]; omega⟩
      show T_Table.mk u.S (u.E.set n u.E[n]) u.Next = u
      rw [set_same hg]
    · right
      have hd : decide ((n : Int) < (u.E.length : Int)) = false := by simp; omega
      simp only [hd, cond_false]
      exact ⟨_, rfl, rfl⟩) (e, t, 0) ⟨rfl, rfl, 0, rfl, Nat.zero_le _⟩
  obtain ⟨r, h, rfl⟩ := key
  exact h
theorem own_is {e : T_Env} (h : Fits e.T) : p_helper_own e = some e := by
  have key := lp_inv (step := fun x => p_helper_own_L3 e.T x.1 x.2) (fun s => s.1 = e ∧ ∃ n : Nat, s.2 = (n : Int) ∧ n ≤ e.T.length) (fun s => ((e.T.length : Int) - s.2).toNat) (fun r => r = e) (by
    rintro ⟨s, i⟩ ⟨h3, n, h5, h6⟩
    simp only at h3 h5
    subst h3
    subst h5
    simp only [p_helper_own_L3]
    by_cases hlt : n < s.T.length
    · left
      have hd : decide ((n : Int) < (s.T.length : Int)) = true := by simp; omega
      have hg := List.getElem?_eq_getElem hlt
      have hm := List.getElem_mem hlt
      simp only [hd, cond_true, idx_nat, hg, po_of]
      have h7 := h.e _ hm
      have h8 := h.v _ hm
      have h9 := h.len
      rw [p_slices_Clone_api_Entry_api_Entry_of (by omega)]
      simp only [po_of]
      rw [own1 h7 h8]
      simp only [po_of, p_helper_own_J8, idx_nat, hg, pl, Int.toNat_natCast, p_helper_own_J5, set_same hg]
      exact ⟨_, rfl, ⟨rfl, n + 1, w64 (by omega), by omega⟩, by simp only [w64 (show n < 9223372036854775807 by omega)]; omega⟩
    · right
      have hd : decide ((n : Int) < (s.T.length : Int)) = false := by simp; omega
      simp only [hd, cond_false]
      exact ⟨_, rfl, rfl⟩) (e, 0) ⟨rfl, 0, rfl, Nat.zero_le _⟩
  obtain ⟨r, h1, rfl⟩ := key
  have h9 := h.len
  simp only [p_helper_own]
  rw [p_slices_Clone_api_Table_api_Table_of (by omega)]
  simp only [po_of]
  rw [show (T_Env.mk r.Ctx r.T r.Seed) = r from rfl, h1]
  rfl
end Go.Proofs.Ytpmnchgpbojppaa

/- The rows' arguments: data read as lists and tables; the row's frame. -/
namespace Go.Proofs.Ytpmnchgpbojppaa
open Go Go.RowKit Go.Proofs.Try Go.WideShapes Go.ChangeShapes Go.Deep

set_option maxRecDepth 100000
section
variable {H : Type} {enc : TypeId × Value → H} {w : World} {base : Nat} {spare : Nat → Bool} {held : Bool}
theorem i64ok_of {n : Int} (h : (Lit.int .i64 n).wf = true) : i64ok n := by
  simp [Lit.wf, IntKind.min, IntKind.max, IntKind.bits, IntKind.signed] at h
  exact ⟨by omega, by omega⟩
theorem u32_of {n : Int} (h : (Lit.int .u32 n).wf = true) : ∃ m : Nat, n = (m : Int) ∧ m < 4294967296 := by
  simp [Lit.wf, IntKind.min, IntKind.max, IntKind.bits, IntKind.signed] at h
  exact ⟨n.toNat, by omega, by omega⟩
/-- A slice of whatever kind. -/
theorem Kd.of_trod {α : Type} (k : Kd α) {t e : TypeId} {fuel : Nat} {cs : List Value} {x : DataW H × List MemPlace} (ht : prog.underlying t = some (.slice e)) (hsz : prog.cellsOf e = k.sz) (hpos : 0 < k.sz)
    (hel : ∀ n cs' y, DataW.trod enc prog w base spare held n e cs' = some y → ∃ x, k.K w w.heap.size x cs') (h : DataW.trod enc prog w base spare held fuel t cs = some x) :
    ∃ A n c xs, cs = [.slice A n c] ∧ k.At w w.heap.size A n c xs := by
  rcases open_slice ht h with ⟨rfl, _⟩ | ⟨a, len, cap, m, n, D, Pl, rfl, hb, hl, hm, hmm, hx, hi⟩
  · exact ⟨none, 0, 0, [], rfl, Kd.At.nil _ _ _ _ _ (Nat.zero_le _)⟩
  · have hlm : len ≤ m := by rw [hmm]; split <;> omega
    obtain ⟨xs, hxl, hxs⟩ := choose_list (p := fun i v => ∃ cs', w.cells? base (a.add (i * prog.cellsOf e)) (prog.cellsOf e) = some cs' ∧ k.K w w.heap.size v cs') len (fun i hil => by
      obtain ⟨cs', hc, ht'⟩ := hi i (by omega)
      obtain ⟨x, hx⟩ := hel _ _ _ ht'
      exact ⟨x, cs', hc, hx⟩)
    refine ⟨some a, len, cap, xs, rfl, hxl, hl, hm, fun i v hv => ?_⟩
    obtain ⟨cs', hc, hk⟩ := hxs i v hv
    obtain ⟨_, hlen, hat⟩ := World.cells?_some hc
    have hcell : ∀ j u, cs'[j]? = some u → w.cell? (a.add (i * k.sz + j)) = some u := by
      intro j u hu
      have hj : j < prog.cellsOf e := by rw [← hlen]; exact (List.getElem?_eq_some_iff.1 hu).1
      have := hat j hj
      rw [hu, hsz, add_add] at this
      exact this
    have h0 : 0 < cs'.length := by rw [hlen, hsz]; exact hpos
    have := World.block_lt_of_cell? w _ (hcell 0 _ (List.getElem?_eq_getElem h0))
    rw [add_block] at this
    exact ⟨a, cs', rfl, this, hcell, hk⟩

theorem kW.of_trod {fuel : Nat} {cs : List Value} {x : DataW H × List MemPlace} (h : DataW.trod enc prog w base spare held fuel 36 cs = some x) : ∃ A n c xs, cs = [.slice A n c] ∧ kW.At w w.heap.size A n c xs := by
  refine Kd.of_trod kW underlying36 (by kernel_rfl) (by decide) (fun n cs' y hy => ?_) h
  obtain ⟨z, rfl, _, hw⟩ := DataW.trod_int underlying25 hy
  obtain ⟨m, rfl, hm⟩ := u32_of hw
  exact ⟨m, rfl, hm⟩

theorem kEnt.of_trod {fuel : Nat} {cs : List Value} {x : DataW H × List MemPlace} (h : DataW.trod enc prog w base spare held fuel 24 cs = some x) : ∃ A n c xs, cs = [.slice A n c] ∧ kEnt.At w w.heap.size A n c xs := by
  refine Kd.of_trod kEnt underlying24 (by kernel_rfl) (by decide) (fun n cs' y hy => ?_) h
  obtain ⟨xs, m, _, _, hl, hxl, hg⟩ := DataW.trod_struct underlying39 hy
  have h0 : DataW.trod enc prog w base spare held m 25 ((cs'.drop 0).take (prog.cellsOf 25)) = xs[0]? := hg 0 _ rfl
  have h1 : DataW.trod enc prog w base spare held m 36 ((cs'.drop 1).take (prog.cellsOf 36)) = xs[1]? := hg 1 _ rfl
  have e0 : prog.cellsOf 25 = 1 := by kernel_rfl
  have e1 : prog.cellsOf 36 = 1 := by kernel_rfl
  have e2 : prog.cellsOf 39 = 2 := by kernel_rfl
  rw [e2] at hl
  simp only [e0, e1] at h0 h1
  match cs', hl, xs, hxl with
  | [c0, c1], _, [y0, y1], _ =>
    simp at h0 h1
    obtain ⟨z, hz, _, hw⟩ := DataW.trod_int underlying25 h0
    obtain ⟨q, rfl, hq⟩ := u32_of hw
    obtain ⟨A, n, c, ws, hc, hat⟩ := kW.of_trod h1
    cases hz
    cases hc
    exact ⟨⟨q, ws⟩, A, n, c, rfl, hq, hat⟩

theorem kSch.of_trod {fuel : Nat} {cs : List Value} {x : DataW H × List MemPlace} (h : DataW.trod enc prog w base spare held fuel 23 cs = some x) : ∃ s : Sch, cs = s.cells ∧ s.Ok := by
  obtain ⟨xs, m, _, _, hl, hxl, hg⟩ := DataW.trod_struct underlying23 h
  have h0 : DataW.trod enc prog w base spare held m 3 ((cs.drop 0).take (prog.cellsOf 3)) = xs[0]? := hg 0 _ rfl
  have h1 : DataW.trod enc prog w base spare held m 3 ((cs.drop 1).take (prog.cellsOf 3)) = xs[1]? := hg 1 _ rfl
  have h2 : DataW.trod enc prog w base spare held m 3 ((cs.drop 2).take (prog.cellsOf 3)) = xs[2]? := hg 2 _ rfl
  have h3 : DataW.trod enc prog w base spare held m 3 ((cs.drop 3).take (prog.cellsOf 3)) = xs[3]? := hg 3 _ rfl
  have e0 : prog.cellsOf 3 = 1 := by kernel_rfl
  have e2 : prog.cellsOf 23 = 4 := by kernel_rfl
  rw [e2] at hl
  simp only [e0] at h0 h1 h2 h3
  match cs, hl, xs, hxl with
  | [c0, c1, c2, c3], _, [y0, y1, y2, y3], _ =>
    simp at h0 h1 h2 h3
    obtain ⟨z0, a0, _, w0⟩ := DataW.trod_int underlying3 h0
    obtain ⟨z1, a1, _, w1⟩ := DataW.trod_int underlying3 h1
    obtain ⟨z2, a2, _, w2⟩ := DataW.trod_int underlying3 h2
    obtain ⟨z3, a3, _, w3⟩ := DataW.trod_int underlying3 h3
    cases a0
    cases a1
    cases a2
    cases a3
    exact ⟨⟨z0, z1, z2, z3⟩, rfl, i64ok_of w0, i64ok_of w1, i64ok_of w2, i64ok_of w3⟩

theorem kTab.of_trod {fuel : Nat} {cs : List Value} {x : DataW H × List MemPlace} (h : DataW.trod enc prog w base spare held fuel 27 cs = some x) : ∃ t : Tab, kTab.K w w.heap.size t cs := by
  obtain ⟨xs, m, _, _, hl, hxl, hg⟩ := DataW.trod_struct underlying27 h
  have h0 : DataW.trod enc prog w base spare held m 23 ((cs.drop 0).take (prog.cellsOf 23)) = xs[0]? := hg 0 _ rfl
  have h1 : DataW.trod enc prog w base spare held m 24 ((cs.drop 4).take (prog.cellsOf 24)) = xs[1]? := hg 1 _ rfl
  have h2 : DataW.trod enc prog w base spare held m 25 ((cs.drop 5).take (prog.cellsOf 25)) = xs[2]? := hg 2 _ rfl
  have e0 : prog.cellsOf 23 = 4 := by kernel_rfl
  have e1 : prog.cellsOf 24 = 1 := by kernel_rfl
  have e3 : prog.cellsOf 25 = 1 := by kernel_rfl
  have e2 : prog.cellsOf 27 = 6 := by kernel_rfl
  rw [e2] at hl
  simp only [e0, e1, e3] at h0 h1 h2
  match cs, hl, xs, hxl with
  | [c0, c1, c2, c3, c4, c5], _, [y0, y1, y2], _ =>
    simp at h0 h1 h2
    obtain ⟨s, hs, hok⟩ := kSch.of_trod h0
    obtain ⟨A, n, c, es, he, hat⟩ := kEnt.of_trod h1
    obtain ⟨z, hz, _, hw⟩ := DataW.trod_int underlying25 h2
    obtain ⟨q, rfl, hq⟩ := u32_of hw
    cases hs
    cases he
    cases hz
    exact ⟨⟨s, es, q⟩, A, n, c, rfl, hok, hq, hat⟩

/-- A table by value. -/
theorem open_tab {v : Value} {d : DataW H} {p : List MemPlace} {r : Reach} {b0 : Nat} (hv : Value.okWide prog w r b0 27 v) (h : DataW.Trod enc prog w base spare held 27 v d p) :
    ∃ (s : Sch) (A : Option Addr) (n c nx : Nat) (es : List Ent), v = tabV s A n c nx ∧ s.Ok ∧ nx < 4294967296 ∧ kEnt.At w w.heap.size A n c es := by
  obtain ⟨cs, rfl, hsz⟩ := okWide_struct underlying27 hv
  obtain ⟨fuel, hf⟩ := h
  obtain ⟨t, A, n, c, hc, hok, hn, hat⟩ := kTab.of_trod hf
  refine ⟨t.s, A, n, c, t.next, t.e, ?_, hok, hn, hat⟩
  obtain ⟨l⟩ := cs
  simp only [Value.cells] at hc
  subst hc
  rfl
theorem open_u32 {v : Value} {d : DataW H} {p : List MemPlace} {r : Reach} {b0 : Nat} (hv : Value.okWide prog w r b0 25 v) (h : DataW.Trod enc prog w base spare held 25 v d p) : ∃ x : Nat, v = .int .u32 (x : Int) ∧ x < 4294967296 := by
  obtain ⟨z, rfl, _, _, hw⟩ := open_int underlying25 hv h
  obtain ⟨q, rfl, hq⟩ := u32_of hw
  exact ⟨q, rfl, hq⟩

theorem trodAll_cons {P : Program} {t : TypeId} {ts : List TypeId} {l : List Value} {ds : List (DataW H)} {ps : List MemPlace} (h : DataW.TrodAll enc P w base spare held (t :: ts) l ds ps) :
    ∃ v vs d ds' p q, l = v :: vs ∧ ds = d :: ds' ∧ ps = p ++ q ∧ DataW.Trod enc P w base spare held t v d p ∧ DataW.TrodAll enc P w base spare held ts vs ds' q := by
  cases l with
  | nil => exact h.elim
  | cons v vs =>
    cases ds with
    | nil => exact h.elim
    | cons d ds =>
      obtain ⟨p, q, h1, h2, rfl⟩ := h
      exact ⟨v, vs, d, ds, p, q, rfl, rfl, rfl, h1, h2⟩
theorem trodAll_nil {P : Program} {l : List Value} {ds : List (DataW H)} {ps : List MemPlace} (h : DataW.TrodAll enc P w base spare held [] l ds ps) : l = [] ∧ ds = [] ∧ ps = [] := by
  cases l with
  | nil =>
    cases ds with
    | nil => exact ⟨rfl, rfl, h⟩
    | cons d ds => exact h.elim
  | cons v vs => exact h.elim

theorem trodAll_stays {P : Program} (hl : laidOutB P = true) {W W' : World} {sp : Nat → Bool} (ts : List TypeId) : ∀ {vs : List Value} {ds : List (DataW H)} {ps : List MemPlace}, (∀ t ∈ ts, P.readableRec t = true ∧ t < P.types.size) →
    DataW.TrodAll enc P W 0 (fun _ => true) true ts vs ds ps → (∀ p ∈ ps, W.sameAt W' p) → (∀ p ∈ ps, sp p.block = true) → DataW.TrodAll enc P W' 0 sp true ts vs ds ps := by
  induction ts with
  | nil =>
    intro vs ds ps _ h _ _
    obtain ⟨rfl, rfl, rfl⟩ := trodAll_nil h
    exact rfl
  | cons t ts ih =>
    intro vs ds ps ha h hsame hs
    obtain ⟨v, vs, d, ds', p, q, rfl, rfl, rfl, h1, h2⟩ := trodAll_cons h
    have ht := ha t (List.mem_cons_self ..)
    exact ⟨p, q, WideElems.Trod_stays hl ht.1 ht.2 h1 (fun x hx => hsame x (List.mem_append_left _ hx)) (fun x hx => hs x (List.mem_append_left _ hx)),
      ih (fun u hu => ha u (List.mem_cons_of_mem _ hu)) h2 (fun x hx => hsame x (List.mem_append_right _ hx)) (fun x hx => hs x (List.mem_append_right _ hx)), rfl⟩
theorem all_fine {P : Program} {ts : List TypeId} (h : (ts.all fun t => P.readableRec t && decide (t < P.types.size)) = true) : ∀ t ∈ ts, P.readableRec t = true ∧ t < P.types.size := by
  intro t ht
  have := List.all_eq_true.1 h t ht
  simp only [Bool.and_eq_true, decide_eq_true_eq] at this
  exact this

/-- The row's last step: the law is true, and nothing that was there has changed. -/
theorem post_law {f : Func} {s : ChangeSpec} {apart fresh handsOn again : Bool} {W W' : World} {args : Array Value} {ds gs : List (DataW H)} {before : List MemPlace} (hl : laidOutB prog = true)
    (hW : DataW.Whole enc prog f.params.toList s.vars apart W args.toList ds gs before) (hvars : s.vars = []) (hr : f.resultTypes = #[4]) (hp : (f.params.toList.all fun t => prog.readableRec t && decide (t < prog.types.size)) = true)
    (hfn : (s.fn H (ds ++ gs)).results = [.lit (.bool true)]) (hfa : (s.fn H (ds ++ gs)).args = ds) (hfv : (s.fn H (ds ++ gs)).vars = []) (hb : Below W.heap.size W W') : s.post enc prog f apart fresh handsOn again W args (.bool true) W' := by
  have hlt : ∀ p ∈ before, p.block < W.heap.size := fun p hp => hW.lt p hp
  have hold : ∀ p ∈ before, (fun b => decide (b < W.heap.size)) p.block = true := fun p hp => by simpa using hlt p hp
  have hW0 := hW
  obtain ⟨p, q, hA, hV, hpq, hz, hn⟩ := hW0
  rw [hvars] at hV
  obtain ⟨rfl, rfl⟩ := trodVars_none hV
  have hpq' : before = p := by simpa using hpq
  subst hpq'
  have hres : ∀ (b : Nat) (sp : Nat → Bool) (hd : Bool), DataW.TrodAll enc prog W' b sp hd f.resultTypes.toList ((Value.bool true).resultList f.resultTypes.size) (s.fn H (ds ++ [])).results [] := by
    intro b sp hd
    rw [hr, hfn]
    exact trodAll_mk1 (shut_bool underlying4 true)
  have hargs : ∀ sp : Nat → Bool, (∀ p ∈ before, sp p.block = true) → DataW.TrodAll enc prog W' 0 sp true f.params.toList args.toList (s.fn H (ds ++ [])).args before := by
    intro sp hsp
    rw [hfa]
    exact trodAll_stays hl _ (all_fine hp) hA (fun x hx => hb.same (hlt x hx)) hsp
  have hvs : ∀ sp : Nat → Bool, DataW.TrodVars enc prog W' sp s.vars (s.fn H (ds ++ [])).vars [] := by
    intro sp
    rw [hvars, hfv]
    rfl
  refine ⟨ds, [], before, [], before, [], hW, hres _ _ _, hargs _ hold, hvs _, World.keptBut_mono (fun p hp => ⟨hp, ?_⟩) (hb.frame (· ∈ before)), fun _ => ?_⟩
  · exact Or.inr (Or.inl hp)
  · refine ⟨ok_one hr rfl (okWide_bool_mk underlying4 true), _, _, ([] ++ before) ++ [], ⟨[] ++ before, [], trodAll_append (hargs _ (fun _ _ => rfl)) (hres _ _ _), hvs _, rfl, ?_, ?_⟩, ?_⟩
    · intro b off hp
      have hin : MemPlace.cell b off ∈ before := by simpa using hp
      rw [hb.frozen (hlt _ hin)]
      exact hz b off hin
    · intro ha
      simpa using hn ha
    · intro p hp _
      simpa using hp
end
end Go.Proofs.Ytpmnchgpbojppaa

