/- table.Pop, walked by the abstract machine. -/
import Derived.Test.YtpmnchgpbojppaaPp
set_option linter.unusedVariables false
set_option linter.unusedSimpArgs false
namespace Go.Proofs.Ytpmnchgpbojppaa
open Go Go.RowKit Go.Proofs.Try
def Tab.pop (t : Tab) : Tab × Nat × Bool :=
  if t.may = false ∨ t.s.kind ≠ 3 ∨ t.e.length = 0 then (t, 0, false)
  else ({ t with e := t.e.drop 1 }, t.word 0 0, true)
set_option maxHeartbeats 4000000 in
set_option maxRecDepth 100000 in
theorem pop_ok (f : Bool) (t : Tab) (hx : t.next < 4294967296) (hl0 : okEs t.e) (hfit : fits t.e) (hm : t.may = true) (hk : t.s.kind = 3) (hn : t.e.length ≠ 0) : Ctr prog 28 [avTab f t] [] (.tup [avTab false t.pop.1, .raw (.int .u32 (t.pop.2.1 : Int)), .raw (.bool t.pop.2.2)]) [] := by
  have hk2 : (t.s.kind != 3) = false := by simp [hk]
  have hl2 : ((t.e.length : Int) == 0) = false := by rw [beq_eq_false_iff_ne]; omega
  have hlt : 0 < t.e.length := by omega
  obtain ⟨e, he⟩ : ∃ e, t.e[0]? = some e := ⟨_, List.getElem?_eq_getElem hlt⟩
  have hw := ((t.elOk_iff 0 e).1 ((t.may_iff.1 hm).2 0 e he)).1
  have hb := Sch.may_bounds (Tab.may_sch hm)
  have hlv : 0 < e.v.length := by omega
  obtain ⟨x, hxv⟩ : ∃ x, e.v[0]? = some x := ⟨_, List.getElem?_eq_getElem hlv⟩
  have hcut : List.drop 1 (List.take t.e.length (t.e.map encEnt)) = (t.e.drop 1).map encEnt := by
    rw [List.take_of_length_le (by simp), List.map_drop]
  have hltI : (0 : Int) < (t.e.length : Int) := by omega
  have hlvI : (0 : Int) < (e.v.length : Int) := by omega
  have hpop : t.pop = ({ t with e := t.e.drop 1 }, x, true) := by
    unfold Tab.pop
    rw [if_neg (by simp [hm, hk, hn])]
    simp [Tab.word, he, hxv]
  rw [hpop]
  refine Ctr.of tabOk func28 rfl call28 0 _ ntmps28 [.cell 2 27, .tmp 3, .tmp 4] rfl rfl rfl (fun B => ?_)
  refine VC.seqR tabOk [some 1, some 2, some 3, some 4] [1, 2] rfl rfl (fun K hK => ?_)
  simp (maxSteps := 9000000) only [push_cast, ↓reduceIte, reduceCtorEq, Nat.reduceEqDiff, Nat.reduceAdd, Nat.reduceLeDiff, Nat.reduceLT, Nat.reduceSub, Int.reduceEq, Int.reduceNe, Int.reduceLT, Int.reduceLE, Int.reduceAdd, Int.reduceSub, Int.reduceMul, Int.reduceNeg, Int.reduceToNat, Nat.reduceMul]
  refine hK _ ?_; clear hK K
  refine VC.seqR tabOk [some 7, some 8, some 5, none] [1, 2, 5] rfl rfl (fun K hK => ?_)
  simp (maxSteps := 9000000) only [push_cast, ↓reduceIte, reduceCtorEq, Nat.reduceEqDiff, Nat.reduceAdd, Nat.reduceLeDiff, Nat.reduceLT, Nat.reduceSub, Int.reduceEq, Int.reduceNe, Int.reduceLT, Int.reduceLE, Int.reduceAdd, Int.reduceSub, Int.reduceMul, Int.reduceNeg, Int.reduceToNat, Nat.reduceMul]
  refine callP (own_ctr f t hfit hl0) rfl ?_
  simp (maxSteps := 9000000) only [push_cast, ↓reduceIte, reduceCtorEq, Nat.reduceEqDiff, Nat.reduceAdd, Nat.reduceLeDiff, Nat.reduceLT, Nat.reduceSub, Int.reduceEq, Int.reduceNe, Int.reduceLT, Int.reduceLE, Int.reduceAdd, Int.reduceSub, Int.reduceMul, Int.reduceNeg, Int.reduceToNat, Nat.reduceMul]
  refine hK _ ?_; clear hK K
  refine VC.seq ?_
  refine VC.seqR tabOk [some 9, some 10, some 11, some 12, some 13, some 14, some 15, some 16, some 17, some 18, some 19, some 20, some 21, some 22, some 23] [2, 5, 23] rfl rfl (fun K hK => ?_)
  simp (maxSteps := 9000000) only [push_cast, ↓reduceIte, reduceCtorEq, Nat.reduceEqDiff, Nat.reduceAdd, Nat.reduceLeDiff, Nat.reduceLT, Nat.reduceSub, Int.reduceEq, Int.reduceNe, Int.reduceLT, Int.reduceLE, Int.reduceAdd, Int.reduceSub, Int.reduceMul, Int.reduceNeg, Int.reduceToNat, Nat.reduceMul, hk2, hl2]
  refine callP (may_ctr f t hx hl0) rfl ?_
  simp (maxSteps := 9000000) only [push_cast, ↓reduceIte, reduceCtorEq, Nat.reduceEqDiff, Nat.reduceAdd, Nat.reduceLeDiff, Nat.reduceLT, Nat.reduceSub, Int.reduceEq, Int.reduceNe, Int.reduceLT, Int.reduceLE, Int.reduceAdd, Int.reduceSub, Int.reduceMul, Int.reduceNeg, Int.reduceToNat, Nat.reduceMul, hk2, hl2, hm, hk2, hl2]
  refine hK _ ?_; clear hK K
  refine VC.cond rfl rfl (fun hc0 => ?_) (fun hc0 => ?_)
  · exact absurd hc0 (by simp)
  · refine VC.skip ?_
    refine VC.seqR tabOk [some 25, some 26, some 27, some 28, some 29, some 30, some 31, some 6] [2, 5, 6] rfl rfl (fun K hK => ?_)
    simp (maxSteps := 9000000) only [push_cast, ↓reduceIte, reduceCtorEq, Nat.reduceEqDiff, Nat.reduceAdd, Nat.reduceLeDiff, Nat.reduceLT, Nat.reduceSub, Int.reduceEq, Int.reduceNe, Int.reduceLT, Int.reduceLE, Int.reduceAdd, Int.reduceSub, Int.reduceMul, Int.reduceNeg, Int.reduceToNat, Nat.reduceMul, he, hxv]
    refine ⟨by omega, by omega, by omega, by omega, ?_⟩
    refine hK _ ?_; clear hK K
    refine VC.seqR tabOk [some 32, some 33, some 34, some 35, none] [2, 5, 6] rfl rfl (fun K hK => ?_)
    simp (maxSteps := 9000000) only [push_cast, ↓reduceIte, reduceCtorEq, Nat.reduceEqDiff, Nat.reduceAdd, Nat.reduceLeDiff, Nat.reduceLT, Nat.reduceSub, Int.reduceEq, Int.reduceNe, Int.reduceLT, Int.reduceLE, Int.reduceAdd, Int.reduceSub, Int.reduceMul, Int.reduceNeg, Int.reduceToNat, Nat.reduceMul]
    refine ⟨by omega, ?_⟩
    refine hK _ ?_; clear hK K
    refine VC.seqR tabOk [some 36, some 37, none, some 3, some 4] [2, 3, 4] rfl rfl (fun K hK => ?_)
    simp (maxSteps := 9000000) only [push_cast, ↓reduceIte, reduceCtorEq, Nat.reduceEqDiff, Nat.reduceAdd, Nat.reduceLeDiff, Nat.reduceLT, Nat.reduceSub, Int.reduceEq, Int.reduceNe, Int.reduceLT, Int.reduceLE, Int.reduceAdd, Int.reduceSub, Int.reduceMul, Int.reduceNeg, Int.reduceToNat, Nat.reduceMul]
    refine hK _ ?_; clear hK K
    refine VC.ret ?_
    refine Post.ret ?_ ?_ ?_
    · simp (maxSteps := 9000000) only [push_cast, ↓reduceIte, reduceCtorEq, Nat.reduceEqDiff, Nat.reduceAdd, Nat.reduceLeDiff, Nat.reduceLT, Nat.reduceSub, Int.reduceEq, Int.reduceNe, Int.reduceLT, Int.reduceLE, Int.reduceAdd, Int.reduceSub, Int.reduceMul, Int.reduceNeg, Int.reduceToNat, Nat.reduceMul, hcut]
    · simp (maxSteps := 9000000) only [push_cast, ↓reduceIte, reduceCtorEq, Nat.reduceEqDiff, Nat.reduceAdd, Nat.reduceLeDiff, Nat.reduceLT, Nat.reduceSub, Int.reduceEq, Int.reduceNe, Int.reduceLT, Int.reduceLE, Int.reduceAdd, Int.reduceSub, Int.reduceMul, Int.reduceNeg, Int.reduceToNat, Nat.reduceMul]
    · rfl
set_option maxHeartbeats 4000000 in
set_option maxRecDepth 100000 in
theorem pop_may (f : Bool) (t : Tab) (hx : t.next < 4294967296) (hl0 : okEs t.e) (hfit : fits t.e) (hm : t.may = false) : Ctr prog 28 [avTab f t] [] (.tup [avTab false t.pop.1, .raw (.int .u32 (t.pop.2.1 : Int)), .raw (.bool t.pop.2.2)]) [] := by
  have hpop : t.pop = (t, 0, false) := by
    unfold Tab.pop
    rw [if_pos (Or.inl hm)]
  rw [hpop]
  have h0 := hx
  refine Ctr.of tabOk func28 rfl call28 0 _ ntmps28 [.cell 2 27, .tmp 3, .tmp 4] rfl rfl rfl (fun B => ?_)
  refine VC.seqR tabOk [some 1, some 2, some 3, some 4] [1, 2] rfl rfl (fun K hK => ?_)
  simp (maxSteps := 9000000) only [push_cast, ↓reduceIte, reduceCtorEq, Nat.reduceEqDiff, Nat.reduceAdd, Nat.reduceLeDiff, Nat.reduceLT, Nat.reduceSub, Int.reduceEq, Int.reduceNe, Int.reduceLT, Int.reduceLE, Int.reduceAdd, Int.reduceSub, Int.reduceMul, Int.reduceNeg, Int.reduceToNat, Nat.reduceMul]
  refine hK _ ?_; clear hK K
  refine VC.seqR tabOk [some 7, some 8, some 5, none] [1, 2, 5] rfl rfl (fun K hK => ?_)
  simp (maxSteps := 9000000) only [push_cast, ↓reduceIte, reduceCtorEq, Nat.reduceEqDiff, Nat.reduceAdd, Nat.reduceLeDiff, Nat.reduceLT, Nat.reduceSub, Int.reduceEq, Int.reduceNe, Int.reduceLT, Int.reduceLE, Int.reduceAdd, Int.reduceSub, Int.reduceMul, Int.reduceNeg, Int.reduceToNat, Nat.reduceMul]
  refine callP (own_ctr f t hfit hl0) rfl ?_
  simp (maxSteps := 9000000) only [push_cast, ↓reduceIte, reduceCtorEq, Nat.reduceEqDiff, Nat.reduceAdd, Nat.reduceLeDiff, Nat.reduceLT, Nat.reduceSub, Int.reduceEq, Int.reduceNe, Int.reduceLT, Int.reduceLE, Int.reduceAdd, Int.reduceSub, Int.reduceMul, Int.reduceNeg, Int.reduceToNat, Nat.reduceMul]
  refine hK _ ?_; clear hK K
  refine VC.seq ?_
  refine VC.seqR tabOk [some 9, some 10, some 11, some 12, some 13, some 14, some 15, some 16, some 17, some 18, some 19, some 20, some 21, some 22, some 23] [2, 5, 23] rfl rfl (fun K hK => ?_)
  simp (maxSteps := 9000000) only [push_cast, ↓reduceIte, reduceCtorEq, Nat.reduceEqDiff, Nat.reduceAdd, Nat.reduceLeDiff, Nat.reduceLT, Nat.reduceSub, Int.reduceEq, Int.reduceNe, Int.reduceLT, Int.reduceLE, Int.reduceAdd, Int.reduceSub, Int.reduceMul, Int.reduceNeg, Int.reduceToNat, Nat.reduceMul, h0]
  refine callP (may_ctr f t hx hl0) rfl ?_
  simp (maxSteps := 9000000) only [push_cast, ↓reduceIte, reduceCtorEq, Nat.reduceEqDiff, Nat.reduceAdd, Nat.reduceLeDiff, Nat.reduceLT, Nat.reduceSub, Int.reduceEq, Int.reduceNe, Int.reduceLT, Int.reduceLE, Int.reduceAdd, Int.reduceSub, Int.reduceMul, Int.reduceNeg, Int.reduceToNat, Nat.reduceMul, h0, h0, hm]
  refine hK _ ?_; clear hK K
  refine VC.cond rfl rfl (fun hc0 => ?_) (fun hc0 => ?_)
  · refine VC.seqR tabOk [some 24, none, some 3, some 4] [2, 3, 4] rfl rfl (fun K hK => ?_)
    simp (maxSteps := 9000000) only [push_cast, ↓reduceIte, reduceCtorEq, Nat.reduceEqDiff, Nat.reduceAdd, Nat.reduceLeDiff, Nat.reduceLT, Nat.reduceSub, Int.reduceEq, Int.reduceNe, Int.reduceLT, Int.reduceLE, Int.reduceAdd, Int.reduceSub, Int.reduceMul, Int.reduceNeg, Int.reduceToNat, Nat.reduceMul]
    refine hK _ ?_; clear hK K
    refine VC.ret ?_
    refine Post.ret ?_ ?_ ?_
    · simp (maxSteps := 9000000) only [push_cast, ↓reduceIte, reduceCtorEq, Nat.reduceEqDiff, Nat.reduceAdd, Nat.reduceLeDiff, Nat.reduceLT, Nat.reduceSub, Int.reduceEq, Int.reduceNe, Int.reduceLT, Int.reduceLE, Int.reduceAdd, Int.reduceSub, Int.reduceMul, Int.reduceNeg, Int.reduceToNat, Nat.reduceMul]
    · simp (maxSteps := 9000000) only [push_cast, ↓reduceIte, reduceCtorEq, Nat.reduceEqDiff, Nat.reduceAdd, Nat.reduceLeDiff, Nat.reduceLT, Nat.reduceSub, Int.reduceEq, Int.reduceNe, Int.reduceLT, Int.reduceLE, Int.reduceAdd, Int.reduceSub, Int.reduceMul, Int.reduceNeg, Int.reduceToNat, Nat.reduceMul]
    · rfl
  · exact absurd hc0 (by simp)
set_option maxHeartbeats 4000000 in
set_option maxRecDepth 100000 in
theorem pop_kind (f : Bool) (t : Tab) (hx : t.next < 4294967296) (hl0 : okEs t.e) (hfit : fits t.e) (hm : t.may = true) (hk : t.s.kind ≠ 3) : Ctr prog 28 [avTab f t] [] (.tup [avTab false t.pop.1, .raw (.int .u32 (t.pop.2.1 : Int)), .raw (.bool t.pop.2.2)]) [] := by
  have hpop : t.pop = (t, 0, false) := by
    unfold Tab.pop
    rw [if_pos (Or.inr (Or.inl hk))]
  rw [hpop]
  have hk2 : (t.s.kind != 3) = true := by simp [hk]
  refine Ctr.of tabOk func28 rfl call28 0 _ ntmps28 [.cell 2 27, .tmp 3, .tmp 4] rfl rfl rfl (fun B => ?_)
  refine VC.seqR tabOk [some 1, some 2, some 3, some 4] [1, 2] rfl rfl (fun K hK => ?_)
  simp (maxSteps := 9000000) only [push_cast, ↓reduceIte, reduceCtorEq, Nat.reduceEqDiff, Nat.reduceAdd, Nat.reduceLeDiff, Nat.reduceLT, Nat.reduceSub, Int.reduceEq, Int.reduceNe, Int.reduceLT, Int.reduceLE, Int.reduceAdd, Int.reduceSub, Int.reduceMul, Int.reduceNeg, Int.reduceToNat, Nat.reduceMul]
  refine hK _ ?_; clear hK K
  refine VC.seqR tabOk [some 7, some 8, some 5, none] [1, 2, 5] rfl rfl (fun K hK => ?_)
  simp (maxSteps := 9000000) only [push_cast, ↓reduceIte, reduceCtorEq, Nat.reduceEqDiff, Nat.reduceAdd, Nat.reduceLeDiff, Nat.reduceLT, Nat.reduceSub, Int.reduceEq, Int.reduceNe, Int.reduceLT, Int.reduceLE, Int.reduceAdd, Int.reduceSub, Int.reduceMul, Int.reduceNeg, Int.reduceToNat, Nat.reduceMul]
  refine callP (own_ctr f t hfit hl0) rfl ?_
  simp (maxSteps := 9000000) only [push_cast, ↓reduceIte, reduceCtorEq, Nat.reduceEqDiff, Nat.reduceAdd, Nat.reduceLeDiff, Nat.reduceLT, Nat.reduceSub, Int.reduceEq, Int.reduceNe, Int.reduceLT, Int.reduceLE, Int.reduceAdd, Int.reduceSub, Int.reduceMul, Int.reduceNeg, Int.reduceToNat, Nat.reduceMul]
  refine hK _ ?_; clear hK K
  refine VC.seq ?_
  refine VC.seqR tabOk [some 9, some 10, some 11, some 12, some 13, some 14, some 15, some 16, some 17, some 18, some 19, some 20, some 21, some 22, some 23] [2, 5, 23] rfl rfl (fun K hK => ?_)
  simp (maxSteps := 9000000) only [push_cast, ↓reduceIte, reduceCtorEq, Nat.reduceEqDiff, Nat.reduceAdd, Nat.reduceLeDiff, Nat.reduceLT, Nat.reduceSub, Int.reduceEq, Int.reduceNe, Int.reduceLT, Int.reduceLE, Int.reduceAdd, Int.reduceSub, Int.reduceMul, Int.reduceNeg, Int.reduceToNat, Nat.reduceMul, hk2]
  refine callP (may_ctr f t hx hl0) rfl ?_
  simp (maxSteps := 9000000) only [push_cast, ↓reduceIte, reduceCtorEq, Nat.reduceEqDiff, Nat.reduceAdd, Nat.reduceLeDiff, Nat.reduceLT, Nat.reduceSub, Int.reduceEq, Int.reduceNe, Int.reduceLT, Int.reduceLE, Int.reduceAdd, Int.reduceSub, Int.reduceMul, Int.reduceNeg, Int.reduceToNat, Nat.reduceMul, hk2, hk2, hm]
  refine hK _ ?_; clear hK K
  refine VC.cond rfl rfl (fun hc0 => ?_) (fun hc0 => ?_)
  · refine VC.seqR tabOk [some 24, none, some 3, some 4] [2, 3, 4] rfl rfl (fun K hK => ?_)
    simp (maxSteps := 9000000) only [push_cast, ↓reduceIte, reduceCtorEq, Nat.reduceEqDiff, Nat.reduceAdd, Nat.reduceLeDiff, Nat.reduceLT, Nat.reduceSub, Int.reduceEq, Int.reduceNe, Int.reduceLT, Int.reduceLE, Int.reduceAdd, Int.reduceSub, Int.reduceMul, Int.reduceNeg, Int.reduceToNat, Nat.reduceMul]
    refine hK _ ?_; clear hK K
    refine VC.ret ?_
    refine Post.ret ?_ ?_ ?_
    · simp (maxSteps := 9000000) only [push_cast, ↓reduceIte, reduceCtorEq, Nat.reduceEqDiff, Nat.reduceAdd, Nat.reduceLeDiff, Nat.reduceLT, Nat.reduceSub, Int.reduceEq, Int.reduceNe, Int.reduceLT, Int.reduceLE, Int.reduceAdd, Int.reduceSub, Int.reduceMul, Int.reduceNeg, Int.reduceToNat, Nat.reduceMul]
    · simp (maxSteps := 9000000) only [push_cast, ↓reduceIte, reduceCtorEq, Nat.reduceEqDiff, Nat.reduceAdd, Nat.reduceLeDiff, Nat.reduceLT, Nat.reduceSub, Int.reduceEq, Int.reduceNe, Int.reduceLT, Int.reduceLE, Int.reduceAdd, Int.reduceSub, Int.reduceMul, Int.reduceNeg, Int.reduceToNat, Nat.reduceMul]
    · rfl
  · exact absurd hc0 (by simp)
set_option maxHeartbeats 4000000 in
set_option maxRecDepth 100000 in
theorem pop_none (f : Bool) (t : Tab) (hx : t.next < 4294967296) (hl0 : okEs t.e) (hfit : fits t.e) (hm : t.may = true) (hk : t.s.kind = 3) (hn : t.e.length = 0) : Ctr prog 28 [avTab f t] [] (.tup [avTab false t.pop.1, .raw (.int .u32 (t.pop.2.1 : Int)), .raw (.bool t.pop.2.2)]) [] := by
  have hpop : t.pop = (t, 0, false) := by
    unfold Tab.pop
    rw [if_pos (Or.inr (Or.inr hn))]
  rw [hpop]
  have hk2 : (t.s.kind != 3) = false := by simp [hk]
  have hl2 : ((t.e.length : Int) == 0) = true := by rw [hn]; rfl
  refine Ctr.of tabOk func28 rfl call28 0 _ ntmps28 [.cell 2 27, .tmp 3, .tmp 4] rfl rfl rfl (fun B => ?_)
  refine VC.seqR tabOk [some 1, some 2, some 3, some 4] [1, 2] rfl rfl (fun K hK => ?_)
  simp (maxSteps := 9000000) only [push_cast, ↓reduceIte, reduceCtorEq, Nat.reduceEqDiff, Nat.reduceAdd, Nat.reduceLeDiff, Nat.reduceLT, Nat.reduceSub, Int.reduceEq, Int.reduceNe, Int.reduceLT, Int.reduceLE, Int.reduceAdd, Int.reduceSub, Int.reduceMul, Int.reduceNeg, Int.reduceToNat, Nat.reduceMul]
  refine hK _ ?_; clear hK K
  refine VC.seqR tabOk [some 7, some 8, some 5, none] [1, 2, 5] rfl rfl (fun K hK => ?_)
  simp (maxSteps := 9000000) only [push_cast, ↓reduceIte, reduceCtorEq, Nat.reduceEqDiff, Nat.reduceAdd, Nat.reduceLeDiff, Nat.reduceLT, Nat.reduceSub, Int.reduceEq, Int.reduceNe, Int.reduceLT, Int.reduceLE, Int.reduceAdd, Int.reduceSub, Int.reduceMul, Int.reduceNeg, Int.reduceToNat, Nat.reduceMul]
  refine callP (own_ctr f t hfit hl0) rfl ?_
  simp (maxSteps := 9000000) only [push_cast, ↓reduceIte, reduceCtorEq, Nat.reduceEqDiff, Nat.reduceAdd, Nat.reduceLeDiff, Nat.reduceLT, Nat.reduceSub, Int.reduceEq, Int.reduceNe, Int.reduceLT, Int.reduceLE, Int.reduceAdd, Int.reduceSub, Int.reduceMul, Int.reduceNeg, Int.reduceToNat, Nat.reduceMul]
  refine hK _ ?_; clear hK K
  refine VC.seq ?_
  refine VC.seqR tabOk [some 9, some 10, some 11, some 12, some 13, some 14, some 15, some 16, some 17, some 18, some 19, some 20, some 21, some 22, some 23] [2, 5, 23] rfl rfl (fun K hK => ?_)
  simp (maxSteps := 9000000) only [push_cast, ↓reduceIte, reduceCtorEq, Nat.reduceEqDiff, Nat.reduceAdd, Nat.reduceLeDiff, Nat.reduceLT, Nat.reduceSub, Int.reduceEq, Int.reduceNe, Int.reduceLT, Int.reduceLE, Int.reduceAdd, Int.reduceSub, Int.reduceMul, Int.reduceNeg, Int.reduceToNat, Nat.reduceMul, hk2, hl2]
  refine callP (may_ctr f t hx hl0) rfl ?_
  simp (maxSteps := 9000000) only [push_cast, ↓reduceIte, reduceCtorEq, Nat.reduceEqDiff, Nat.reduceAdd, Nat.reduceLeDiff, Nat.reduceLT, Nat.reduceSub, Int.reduceEq, Int.reduceNe, Int.reduceLT, Int.reduceLE, Int.reduceAdd, Int.reduceSub, Int.reduceMul, Int.reduceNeg, Int.reduceToNat, Nat.reduceMul, hk2, hl2, hk2, hl2, hm]
  refine hK _ ?_; clear hK K
  refine VC.cond rfl rfl (fun hc0 => ?_) (fun hc0 => ?_)
  · refine VC.seqR tabOk [some 24, none, some 3, some 4] [2, 3, 4] rfl rfl (fun K hK => ?_)
    simp (maxSteps := 9000000) only [push_cast, ↓reduceIte, reduceCtorEq, Nat.reduceEqDiff, Nat.reduceAdd, Nat.reduceLeDiff, Nat.reduceLT, Nat.reduceSub, Int.reduceEq, Int.reduceNe, Int.reduceLT, Int.reduceLE, Int.reduceAdd, Int.reduceSub, Int.reduceMul, Int.reduceNeg, Int.reduceToNat, Nat.reduceMul]
    refine hK _ ?_; clear hK K
    refine VC.ret ?_
    refine Post.ret ?_ ?_ ?_
    · simp (maxSteps := 9000000) only [push_cast, ↓reduceIte, reduceCtorEq, Nat.reduceEqDiff, Nat.reduceAdd, Nat.reduceLeDiff, Nat.reduceLT, Nat.reduceSub, Int.reduceEq, Int.reduceNe, Int.reduceLT, Int.reduceLE, Int.reduceAdd, Int.reduceSub, Int.reduceMul, Int.reduceNeg, Int.reduceToNat, Nat.reduceMul]
    · simp (maxSteps := 9000000) only [push_cast, ↓reduceIte, reduceCtorEq, Nat.reduceEqDiff, Nat.reduceAdd, Nat.reduceLeDiff, Nat.reduceLT, Nat.reduceSub, Int.reduceEq, Int.reduceNe, Int.reduceLT, Int.reduceLE, Int.reduceAdd, Int.reduceSub, Int.reduceMul, Int.reduceNeg, Int.reduceToNat, Nat.reduceMul]
    · rfl
  · exact absurd hc0 (by simp)
theorem pop_ctr (f : Bool) (t : Tab) (hx : t.next < 4294967296) (hl0 : okEs t.e) (hfit : fits t.e) : Ctr prog 28 [avTab f t] [] (.tup [avTab false t.pop.1, .raw (.int .u32 (t.pop.2.1 : Int)), .raw (.bool t.pop.2.2)]) [] := by
  cases hm : t.may with
  | false => exact pop_may f t hx hl0 hfit hm
  | true =>
    by_cases hk : t.s.kind = 3
    · by_cases hn : t.e.length = 0
      · exact pop_none f t hx hl0 hfit hm hk hn
      · exact pop_ok f t hx hl0 hfit hm hk hn
    · exact pop_kind f t hx hl0 hfit hm hk
end Go.Proofs.Ytpmnchgpbojppaa
