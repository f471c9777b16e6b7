/- table.Push and table.Pop, walked by the abstract machine. -/
import Derived.Test.YtpmnchgpbojppaaBr2
import Derived.Test.YtpmnchgpbojppaaPl2
set_option linter.unusedVariables false
set_option linter.unusedSimpArgs false
namespace Go.Proofs.Ytpmnchgpbojppaa
open Go Go.RowKit Go.Proofs.Try
def Tab.push (t : Tab) (v : Nat) : Tab × Int :=
  if t.may = false ∨ t.s.kind ≠ 3 then (Tab.zero, 1)
  else if (t.e.length : Int) = t.s.cap then (Tab.zero, 4)
  else ({ t with e := t.e ++ [⟨t.next, [v]⟩], next := (t.next + 1) % 4294967296 }, 0)
set_option maxHeartbeats 4000000 in
set_option maxRecDepth 100000 in
theorem push_ok (f : Bool) (t : Tab) (v : Nat) (hx : t.next < 4294967296) (hl0 : okEs t.e) (hv : v < 4294967296) (hm : t.may = true) (hk : t.s.kind = 3) (hc : ¬ (t.e.length : Int) = t.s.cap) : Ctr prog 27 [avTab f t, .raw (.int .u32 (v : Int))] [] (.tup [avTab false (t.push v).1, .raw (.int .i64 (t.push v).2)]) [] := by
  have hk2 : (t.s.kind != 3) = false := by simp [hk]
  have h16 : t.e.length ≤ 16 := by
    have hb := Sch.may_bounds (Tab.may_sch hm)
    have := Tab.may_len hm
    omega
  have hpush : t.push v = (⟨t.s, t.e ++ [⟨t.next, [v]⟩], (t.next + 1) % 4294967296⟩, 0) := by
    unfold Tab.push
    rw [if_neg (by simp [hm, hk]), if_neg hc]
  obtain ⟨nn, hnn⟩ : ∃ nn : Nat, nn = (t.next + 1) % 4294967296 := ⟨_, rfl⟩
  have hwn : IntKind.u32.wrap ((t.next : Int) + 1) = (nn : Int) := by rw [IntKind.wrap_u32, hnn]; omega
  have hfin : List.take (t.e.length + 1) (t.e.map encEnt ++ [[AV.raw (Value.int .u32 (t.next : Int)), AV.sl false [[AV.raw (Value.int .u32 (v : Int))]]]]) = (t.e ++ [(⟨t.next, [v]⟩ : Ent)]).map encEnt := by
    rw [List.take_of_length_le (by simp), List.map_append]
    rfl
  rw [hpush, ← hnn]
  refine Ctr.of tabOk func27 rfl call27 1 _ ntmps27 [.cell 4 27, .tmp 5] rfl rfl rfl (fun B => ?_)
  refine VC.seqR tabOk [some 2, some 4, some 5] [1, 2, 4] rfl rfl (fun K hK => ?_)
  simp (maxSteps := 9000000) only [push_cast, ↓reduceIte, reduceCtorEq, Nat.reduceEqDiff, Nat.reduceAdd, Nat.reduceLeDiff, Nat.reduceLT, Nat.reduceSub, Int.reduceEq, Int.reduceNe, Int.reduceLT, Int.reduceLE, Int.reduceAdd, Int.reduceSub, Int.reduceMul, Int.reduceNeg, Int.reduceToNat, Nat.reduceMul]
  refine hK _ ?_; clear hK K
  refine VC.seq ?_
  refine VC.block ?_
  refine VC.seq ?_
  refine VC.seqR tabOk [some 8, some 9, some 10, some 7] [1, 2, 4, 7] rfl rfl (fun K hK => ?_)
  simp (maxSteps := 9000000) only [push_cast, ↓reduceIte, reduceCtorEq, Nat.reduceEqDiff, Nat.reduceAdd, Nat.reduceLeDiff, Nat.reduceLT, Nat.reduceSub, Int.reduceEq, Int.reduceNe, Int.reduceLT, Int.reduceLE, Int.reduceAdd, Int.reduceSub, Int.reduceMul, Int.reduceNeg, Int.reduceToNat, Nat.reduceMul]
  refine callP (may_ctr f t hx hl0) rfl ?_
  simp (maxSteps := 9000000) only [push_cast, ↓reduceIte, reduceCtorEq, Nat.reduceEqDiff, Nat.reduceAdd, Nat.reduceLeDiff, Nat.reduceLT, Nat.reduceSub, Int.reduceEq, Int.reduceNe, Int.reduceLT, Int.reduceLE, Int.reduceAdd, Int.reduceSub, Int.reduceMul, Int.reduceNeg, Int.reduceToNat, Nat.reduceMul, hm]
  refine hK _ ?_; clear hK K
  refine VC.cond rfl rfl (fun hc0 => ?_) (fun hc0 => ?_)
  · exact absurd hc0 (by simp)
  · refine VC.lastR tabOk [some 11, some 12, some 13, some 14, some 7] rfl rfl (fun K hK => ?_)
    simp (maxSteps := 9000000) only [push_cast, ↓reduceIte, reduceCtorEq, Nat.reduceEqDiff, Nat.reduceAdd, Nat.reduceLeDiff, Nat.reduceLT, Nat.reduceSub, Int.reduceEq, Int.reduceNe, Int.reduceLT, Int.reduceLE, Int.reduceAdd, Int.reduceSub, Int.reduceMul, Int.reduceNeg, Int.reduceToNat, Nat.reduceMul, hk2]
    refine hK _ ?_; clear hK K
    refine VC.cond rfl rfl (fun hc1 => ?_) (fun hc1 => ?_)
    · exact absurd hc1 (by simp)
    · refine VC.seqR tabOk [some 17, some 18, some 19, some 20, some 21, some 22, some 23, some 16] [1, 2, 4, 16] rfl rfl (fun K hK => ?_)
      simp (maxSteps := 9000000) only [push_cast, ↓reduceIte, reduceCtorEq, Nat.reduceEqDiff, Nat.reduceAdd, Nat.reduceLeDiff, Nat.reduceLT, Nat.reduceSub, Int.reduceEq, Int.reduceNe, Int.reduceLT, Int.reduceLE, Int.reduceAdd, Int.reduceSub, Int.reduceMul, Int.reduceNeg, Int.reduceToNat, Nat.reduceMul]
      refine hK _ ?_; clear hK K
      refine VC.cond rfl rfl (fun hc2 => ?_) (fun hc2 => ?_)
      · exact absurd hc2 (by simpa using hc)
      · refine VC.skip ?_
        refine VC.seqR tabOk [some 25, some 26, some 6, none] [1, 4, 6] rfl rfl (fun K hK => ?_)
        simp (maxSteps := 9000000) only [push_cast, ↓reduceIte, reduceCtorEq, Nat.reduceEqDiff, Nat.reduceAdd, Nat.reduceLeDiff, Nat.reduceLT, Nat.reduceSub, Int.reduceEq, Int.reduceNe, Int.reduceLT, Int.reduceLE, Int.reduceAdd, Int.reduceSub, Int.reduceMul, Int.reduceNeg, Int.reduceToNat, Nat.reduceMul]
        refine callH (H := []) (H' := [(22, .row 39 2 0 (t.e.map encEnt))]) (own_rctr f t 22 (mayFits hm) hl0) (by simp (maxSteps := 9000000) only [push_cast, ↓reduceIte, reduceCtorEq, Nat.reduceEqDiff, Nat.reduceAdd, Nat.reduceLeDiff, Nat.reduceLT, Nat.reduceSub, Int.reduceEq, Int.reduceNe, Int.reduceLT, Int.reduceLE, Int.reduceAdd, Int.reduceSub, Int.reduceMul, Int.reduceNeg, Int.reduceToNat, Nat.reduceMul]) rfl rfl rfl ?_
        simp (maxSteps := 9000000) only [push_cast, ↓reduceIte, reduceCtorEq, Nat.reduceEqDiff, Nat.reduceAdd, Nat.reduceLeDiff, Nat.reduceLT, Nat.reduceSub, Int.reduceEq, Int.reduceNe, Int.reduceLT, Int.reduceLE, Int.reduceAdd, Int.reduceSub, Int.reduceMul, Int.reduceNeg, Int.reduceToNat, Nat.reduceMul]
        refine hK _ ?_; clear hK K
        refine VC.seqR tabOk [some 27, some 28, some 29, some 30, some 31, some 32, some 33, some 34, some 35, some 36, none] [4, 6] rfl rfl (fun K hK => ?_)
        simp (maxSteps := 9000000) only [push_cast, ↓reduceIte, reduceCtorEq, Nat.reduceEqDiff, Nat.reduceAdd, Nat.reduceLeDiff, Nat.reduceLT, Nat.reduceSub, Int.reduceEq, Int.reduceNe, Int.reduceLT, Int.reduceLE, Int.reduceAdd, Int.reduceSub, Int.reduceMul, Int.reduceNeg, Int.reduceToNat, Nat.reduceMul]
        refine ⟨by omega, ?_⟩
        refine hK _ ?_; clear hK K
        refine VC.seqR tabOk [some 37, some 38, some 39, some 40, none] [4, 6] rfl rfl (fun K hK => ?_)
        simp (maxSteps := 9000000) only [push_cast, ↓reduceIte, reduceCtorEq, Nat.reduceEqDiff, Nat.reduceAdd, Nat.reduceLeDiff, Nat.reduceLT, Nat.reduceSub, Int.reduceEq, Int.reduceNe, Int.reduceLT, Int.reduceLE, Int.reduceAdd, Int.reduceSub, Int.reduceMul, Int.reduceNeg, Int.reduceToNat, Nat.reduceMul, hwn]
        refine hK _ ?_; clear hK K
        refine VC.seqR tabOk [some 41, none, some 5] [4, 5] rfl rfl (fun K hK => ?_)
        simp (maxSteps := 9000000) only [push_cast, ↓reduceIte, reduceCtorEq, Nat.reduceEqDiff, Nat.reduceAdd, Nat.reduceLeDiff, Nat.reduceLT, Nat.reduceSub, Int.reduceEq, Int.reduceNe, Int.reduceLT, Int.reduceLE, Int.reduceAdd, Int.reduceSub, Int.reduceMul, Int.reduceNeg, Int.reduceToNat, Nat.reduceMul]
        refine hK _ ?_; clear hK K
        refine VC.sub (Sub.freeze prog (b := 2) (j := 4) rfl rfl rfl (by simp) (by decide)) ?_
        simp (maxSteps := 9000000) only [push_cast, ↓reduceIte, reduceCtorEq, Nat.reduceEqDiff, Nat.reduceAdd, Nat.reduceLeDiff, Nat.reduceLT, Nat.reduceSub, Int.reduceEq, Int.reduceNe, Int.reduceLT, Int.reduceLE, Int.reduceAdd, Int.reduceSub, Int.reduceMul, Int.reduceNeg, Int.reduceToNat, Nat.reduceMul, hfin]
        refine VC.ret ?_
        refine Post.ret ?_ ?_ ?_
        · simp (maxSteps := 9000000) only [push_cast, ↓reduceIte, reduceCtorEq, Nat.reduceEqDiff, Nat.reduceAdd, Nat.reduceLeDiff, Nat.reduceLT, Nat.reduceSub, Int.reduceEq, Int.reduceNe, Int.reduceLT, Int.reduceLE, Int.reduceAdd, Int.reduceSub, Int.reduceMul, Int.reduceNeg, Int.reduceToNat, Nat.reduceMul]
        · simp (maxSteps := 9000000) only [push_cast, ↓reduceIte, reduceCtorEq, Nat.reduceEqDiff, Nat.reduceAdd, Nat.reduceLeDiff, Nat.reduceLT, Nat.reduceSub, Int.reduceEq, Int.reduceNe, Int.reduceLT, Int.reduceLE, Int.reduceAdd, Int.reduceSub, Int.reduceMul, Int.reduceNeg, Int.reduceToNat, Nat.reduceMul]
        · rfl
set_option maxHeartbeats 4000000 in
set_option maxRecDepth 100000 in
theorem push_may (f : Bool) (t : Tab) (v : Nat) (hx : t.next < 4294967296) (hl0 : okEs t.e) (hv : v < 4294967296) (hm : t.may = false) : Ctr prog 27 [avTab f t, .raw (.int .u32 (v : Int))] [] (.tup [avTab false (t.push v).1, .raw (.int .i64 (t.push v).2)]) [] := by
  have hpush : t.push v = (Tab.zero, 1) := by
    unfold Tab.push
    rw [if_pos (Or.inl hm)]
  rw [hpush]
  refine Ctr.of tabOk func27 rfl call27 0 _ ntmps27 [.cell 4 27, .tmp 5] rfl rfl rfl (fun B => ?_)
  refine VC.seqR tabOk [some 2, some 4, some 5] [1, 2, 4] rfl rfl (fun K hK => ?_)
  simp (maxSteps := 9000000) only [push_cast, ↓reduceIte, reduceCtorEq, Nat.reduceEqDiff, Nat.reduceAdd, Nat.reduceLeDiff, Nat.reduceLT, Nat.reduceSub, Int.reduceEq, Int.reduceNe, Int.reduceLT, Int.reduceLE, Int.reduceAdd, Int.reduceSub, Int.reduceMul, Int.reduceNeg, Int.reduceToNat, Nat.reduceMul]
  refine hK _ ?_; clear hK K
  refine VC.seq ?_
  refine VC.block ?_
  refine VC.seq ?_
  refine VC.seqR tabOk [some 8, some 9, some 10, some 7] [1, 2, 4, 7] rfl rfl (fun K hK => ?_)
  simp (maxSteps := 9000000) only [push_cast, ↓reduceIte, reduceCtorEq, Nat.reduceEqDiff, Nat.reduceAdd, Nat.reduceLeDiff, Nat.reduceLT, Nat.reduceSub, Int.reduceEq, Int.reduceNe, Int.reduceLT, Int.reduceLE, Int.reduceAdd, Int.reduceSub, Int.reduceMul, Int.reduceNeg, Int.reduceToNat, Nat.reduceMul]
  refine callP (may_ctr f t hx hl0) rfl ?_
  simp (maxSteps := 9000000) only [push_cast, ↓reduceIte, reduceCtorEq, Nat.reduceEqDiff, Nat.reduceAdd, Nat.reduceLeDiff, Nat.reduceLT, Nat.reduceSub, Int.reduceEq, Int.reduceNe, Int.reduceLT, Int.reduceLE, Int.reduceAdd, Int.reduceSub, Int.reduceMul, Int.reduceNeg, Int.reduceToNat, Nat.reduceMul, hm]
  refine hK _ ?_; clear hK K
  refine VC.cond rfl rfl (fun hc0 => ?_) (fun hc0 => ?_)
  · refine VC.skip ?_
    refine VC.cond rfl rfl (fun hc1 => ?_) (fun hc1 => ?_)
    · refine VC.seqR tabOk [some 15, none, some 5] [4, 5] rfl rfl (fun K hK => ?_)
      simp (maxSteps := 9000000) only [push_cast, ↓reduceIte, reduceCtorEq, Nat.reduceEqDiff, Nat.reduceAdd, Nat.reduceLeDiff, Nat.reduceLT, Nat.reduceSub, Int.reduceEq, Int.reduceNe, Int.reduceLT, Int.reduceLE, Int.reduceAdd, Int.reduceSub, Int.reduceMul, Int.reduceNeg, Int.reduceToNat, Nat.reduceMul]
      refine hK _ ?_; clear hK K
      refine VC.sub (Sub.looseB (b := 1) (j := 4) rfl rfl) ?_
      simp (maxSteps := 9000000) only [push_cast, ↓reduceIte, reduceCtorEq, Nat.reduceEqDiff, Nat.reduceAdd, Nat.reduceLeDiff, Nat.reduceLT, Nat.reduceSub, Int.reduceEq, Int.reduceNe, Int.reduceLT, Int.reduceLE, Int.reduceAdd, Int.reduceSub, Int.reduceMul, Int.reduceNeg, Int.reduceToNat, Nat.reduceMul]
      refine VC.ret ?_
      refine Post.ret ?_ ?_ ?_
      · simp (maxSteps := 9000000) only [push_cast, ↓reduceIte, reduceCtorEq, Nat.reduceEqDiff, Nat.reduceAdd, Nat.reduceLeDiff, Nat.reduceLT, Nat.reduceSub, Int.reduceEq, Int.reduceNe, Int.reduceLT, Int.reduceLE, Int.reduceAdd, Int.reduceSub, Int.reduceMul, Int.reduceNeg, Int.reduceToNat, Nat.reduceMul, Tab.zero]
      · simp (maxSteps := 9000000) only [push_cast, ↓reduceIte, reduceCtorEq, Nat.reduceEqDiff, Nat.reduceAdd, Nat.reduceLeDiff, Nat.reduceLT, Nat.reduceSub, Int.reduceEq, Int.reduceNe, Int.reduceLT, Int.reduceLE, Int.reduceAdd, Int.reduceSub, Int.reduceMul, Int.reduceNeg, Int.reduceToNat, Nat.reduceMul]
      · rfl
    · exact absurd hc1 (by simp)
  · exact absurd hc0 (by simp)
set_option maxHeartbeats 4000000 in
set_option maxRecDepth 100000 in
theorem push_kind (f : Bool) (t : Tab) (v : Nat) (hx : t.next < 4294967296) (hl0 : okEs t.e) (hv : v < 4294967296) (hm : t.may = true) (hk : t.s.kind ≠ 3) : Ctr prog 27 [avTab f t, .raw (.int .u32 (v : Int))] [] (.tup [avTab false (t.push v).1, .raw (.int .i64 (t.push v).2)]) [] := by
  have hpush : t.push v = (Tab.zero, 1) := by
    unfold Tab.push
    rw [if_pos (Or.inr hk)]
  have hk2 : (t.s.kind != 3) = true := by simp [hk]
  rw [hpush]
  refine Ctr.of tabOk func27 rfl call27 0 _ ntmps27 [.cell 4 27, .tmp 5] rfl rfl rfl (fun B => ?_)
  refine VC.seqR tabOk [some 2, some 4, some 5] [1, 2, 4] rfl rfl (fun K hK => ?_)
  simp (maxSteps := 9000000) only [push_cast, ↓reduceIte, reduceCtorEq, Nat.reduceEqDiff, Nat.reduceAdd, Nat.reduceLeDiff, Nat.reduceLT, Nat.reduceSub, Int.reduceEq, Int.reduceNe, Int.reduceLT, Int.reduceLE, Int.reduceAdd, Int.reduceSub, Int.reduceMul, Int.reduceNeg, Int.reduceToNat, Nat.reduceMul]
  refine hK _ ?_; clear hK K
  refine VC.seq ?_
  refine VC.block ?_
  refine VC.seq ?_
  refine VC.seqR tabOk [some 8, some 9, some 10, some 7] [1, 2, 4, 7] rfl rfl (fun K hK => ?_)
  simp (maxSteps := 9000000) only [push_cast, ↓reduceIte, reduceCtorEq, Nat.reduceEqDiff, Nat.reduceAdd, Nat.reduceLeDiff, Nat.reduceLT, Nat.reduceSub, Int.reduceEq, Int.reduceNe, Int.reduceLT, Int.reduceLE, Int.reduceAdd, Int.reduceSub, Int.reduceMul, Int.reduceNeg, Int.reduceToNat, Nat.reduceMul]
  refine callP (may_ctr f t hx hl0) rfl ?_
  simp (maxSteps := 9000000) only [push_cast, ↓reduceIte, reduceCtorEq, Nat.reduceEqDiff, Nat.reduceAdd, Nat.reduceLeDiff, Nat.reduceLT, Nat.reduceSub, Int.reduceEq, Int.reduceNe, Int.reduceLT, Int.reduceLE, Int.reduceAdd, Int.reduceSub, Int.reduceMul, Int.reduceNeg, Int.reduceToNat, Nat.reduceMul, hm]
  refine hK _ ?_; clear hK K
  refine VC.cond rfl rfl (fun hc0 => ?_) (fun hc0 => ?_)
  · exact absurd hc0 (by simp)
  · refine VC.lastR tabOk [some 11, some 12, some 13, some 14, some 7] rfl rfl (fun K hK => ?_)
    simp (maxSteps := 9000000) only [push_cast, ↓reduceIte, reduceCtorEq, Nat.reduceEqDiff, Nat.reduceAdd, Nat.reduceLeDiff, Nat.reduceLT, Nat.reduceSub, Int.reduceEq, Int.reduceNe, Int.reduceLT, Int.reduceLE, Int.reduceAdd, Int.reduceSub, Int.reduceMul, Int.reduceNeg, Int.reduceToNat, Nat.reduceMul, hk2]
    refine hK _ ?_; clear hK K
    refine VC.cond rfl rfl (fun hc1 => ?_) (fun hc1 => ?_)
    · refine VC.seqR tabOk [some 15, none, some 5] [4, 5] rfl rfl (fun K hK => ?_)
      simp (maxSteps := 9000000) only [push_cast, ↓reduceIte, reduceCtorEq, Nat.reduceEqDiff, Nat.reduceAdd, Nat.reduceLeDiff, Nat.reduceLT, Nat.reduceSub, Int.reduceEq, Int.reduceNe, Int.reduceLT, Int.reduceLE, Int.reduceAdd, Int.reduceSub, Int.reduceMul, Int.reduceNeg, Int.reduceToNat, Nat.reduceMul]
      refine hK _ ?_; clear hK K
      refine VC.sub (Sub.looseB (b := 1) (j := 4) rfl rfl) ?_
      simp (maxSteps := 9000000) only [push_cast, ↓reduceIte, reduceCtorEq, Nat.reduceEqDiff, Nat.reduceAdd, Nat.reduceLeDiff, Nat.reduceLT, Nat.reduceSub, Int.reduceEq, Int.reduceNe, Int.reduceLT, Int.reduceLE, Int.reduceAdd, Int.reduceSub, Int.reduceMul, Int.reduceNeg, Int.reduceToNat, Nat.reduceMul]
      refine VC.ret ?_
      refine Post.ret ?_ ?_ ?_
      · simp (maxSteps := 9000000) only [push_cast, ↓reduceIte, reduceCtorEq, Nat.reduceEqDiff, Nat.reduceAdd, Nat.reduceLeDiff, Nat.reduceLT, Nat.reduceSub, Int.reduceEq, Int.reduceNe, Int.reduceLT, Int.reduceLE, Int.reduceAdd, Int.reduceSub, Int.reduceMul, Int.reduceNeg, Int.reduceToNat, Nat.reduceMul, Tab.zero]
      · simp (maxSteps := 9000000) only [push_cast, ↓reduceIte, reduceCtorEq, Nat.reduceEqDiff, Nat.reduceAdd, Nat.reduceLeDiff, Nat.reduceLT, Nat.reduceSub, Int.reduceEq, Int.reduceNe, Int.reduceLT, Int.reduceLE, Int.reduceAdd, Int.reduceSub, Int.reduceMul, Int.reduceNeg, Int.reduceToNat, Nat.reduceMul]
      · rfl
    · exact absurd hc1 (by simp)
set_option maxHeartbeats 4000000 in
set_option maxRecDepth 100000 in
theorem push_full (f : Bool) (t : Tab) (v : Nat) (hx : t.next < 4294967296) (hl0 : okEs t.e) (hv : v < 4294967296) (hm : t.may = true) (hk : t.s.kind = 3) (hc : (t.e.length : Int) = t.s.cap) : Ctr prog 27 [avTab f t, .raw (.int .u32 (v : Int))] [] (.tup [avTab false (t.push v).1, .raw (.int .i64 (t.push v).2)]) [] := by
  have hpush : t.push v = (Tab.zero, 4) := by
    unfold Tab.push
    rw [if_neg (by simp [hm, hk]), if_pos hc]
  have hk2 : (t.s.kind != 3) = false := by simp [hk]
  rw [hpush]
  refine Ctr.of tabOk func27 rfl call27 0 _ ntmps27 [.cell 4 27, .tmp 5] rfl rfl rfl (fun B => ?_)
  refine VC.seqR tabOk [some 2, some 4, some 5] [1, 2, 4] rfl rfl (fun K hK => ?_)
  simp (maxSteps := 9000000) only [push_cast, ↓reduceIte, reduceCtorEq, Nat.reduceEqDiff, Nat.reduceAdd, Nat.reduceLeDiff, Nat.reduceLT, Nat.reduceSub, Int.reduceEq, Int.reduceNe, Int.reduceLT, Int.reduceLE, Int.reduceAdd, Int.reduceSub, Int.reduceMul, Int.reduceNeg, Int.reduceToNat, Nat.reduceMul]
  refine hK _ ?_; clear hK K
  refine VC.seq ?_
  refine VC.block ?_
  refine VC.seq ?_
  refine VC.seqR tabOk [some 8, some 9, some 10, some 7] [1, 2, 4, 7] rfl rfl (fun K hK => ?_)
  simp (maxSteps := 9000000) only [push_cast, ↓reduceIte, reduceCtorEq, Nat.reduceEqDiff, Nat.reduceAdd, Nat.reduceLeDiff, Nat.reduceLT, Nat.reduceSub, Int.reduceEq, Int.reduceNe, Int.reduceLT, Int.reduceLE, Int.reduceAdd, Int.reduceSub, Int.reduceMul, Int.reduceNeg, Int.reduceToNat, Nat.reduceMul]
  refine callP (may_ctr f t hx hl0) rfl ?_
  simp (maxSteps := 9000000) only [push_cast, ↓reduceIte, reduceCtorEq, Nat.reduceEqDiff, Nat.reduceAdd, Nat.reduceLeDiff, Nat.reduceLT, Nat.reduceSub, Int.reduceEq, Int.reduceNe, Int.reduceLT, Int.reduceLE, Int.reduceAdd, Int.reduceSub, Int.reduceMul, Int.reduceNeg, Int.reduceToNat, Nat.reduceMul, hm]
  refine hK _ ?_; clear hK K
  refine VC.cond rfl rfl (fun hc0 => ?_) (fun hc0 => ?_)
  · exact absurd hc0 (by simp)
  · refine VC.lastR tabOk [some 11, some 12, some 13, some 14, some 7] rfl rfl (fun K hK => ?_)
    simp (maxSteps := 9000000) only [push_cast, ↓reduceIte, reduceCtorEq, Nat.reduceEqDiff, Nat.reduceAdd, Nat.reduceLeDiff, Nat.reduceLT, Nat.reduceSub, Int.reduceEq, Int.reduceNe, Int.reduceLT, Int.reduceLE, Int.reduceAdd, Int.reduceSub, Int.reduceMul, Int.reduceNeg, Int.reduceToNat, Nat.reduceMul, hk2]
    refine hK _ ?_; clear hK K
    refine VC.cond rfl rfl (fun hc1 => ?_) (fun hc1 => ?_)
    · exact absurd hc1 (by simp)
    · refine VC.seqR tabOk [some 17, some 18, some 19, some 20, some 21, some 22, some 23, some 16] [1, 2, 4, 16] rfl rfl (fun K hK => ?_)
      simp (maxSteps := 9000000) only [push_cast, ↓reduceIte, reduceCtorEq, Nat.reduceEqDiff, Nat.reduceAdd, Nat.reduceLeDiff, Nat.reduceLT, Nat.reduceSub, Int.reduceEq, Int.reduceNe, Int.reduceLT, Int.reduceLE, Int.reduceAdd, Int.reduceSub, Int.reduceMul, Int.reduceNeg, Int.reduceToNat, Nat.reduceMul]
      refine hK _ ?_; clear hK K
      refine VC.cond rfl rfl (fun hc2 => ?_) (fun hc2 => ?_)
      · refine VC.seqR tabOk [some 24, none, some 5] [4, 5] rfl rfl (fun K hK => ?_)
        simp (maxSteps := 9000000) only [push_cast, ↓reduceIte, reduceCtorEq, Nat.reduceEqDiff, Nat.reduceAdd, Nat.reduceLeDiff, Nat.reduceLT, Nat.reduceSub, Int.reduceEq, Int.reduceNe, Int.reduceLT, Int.reduceLE, Int.reduceAdd, Int.reduceSub, Int.reduceMul, Int.reduceNeg, Int.reduceToNat, Nat.reduceMul]
        refine hK _ ?_; clear hK K
        refine VC.sub (Sub.looseB (b := 1) (j := 4) rfl rfl) ?_
        simp (maxSteps := 9000000) only [push_cast, ↓reduceIte, reduceCtorEq, Nat.reduceEqDiff, Nat.reduceAdd, Nat.reduceLeDiff, Nat.reduceLT, Nat.reduceSub, Int.reduceEq, Int.reduceNe, Int.reduceLT, Int.reduceLE, Int.reduceAdd, Int.reduceSub, Int.reduceMul, Int.reduceNeg, Int.reduceToNat, Nat.reduceMul]
        refine VC.ret ?_
        refine Post.ret ?_ ?_ ?_
        · simp (maxSteps := 9000000) only [push_cast, ↓reduceIte, reduceCtorEq, Nat.reduceEqDiff, Nat.reduceAdd, Nat.reduceLeDiff, Nat.reduceLT, Nat.reduceSub, Int.reduceEq, Int.reduceNe, Int.reduceLT, Int.reduceLE, Int.reduceAdd, Int.reduceSub, Int.reduceMul, Int.reduceNeg, Int.reduceToNat, Nat.reduceMul, Tab.zero]
        · simp (maxSteps := 9000000) only [push_cast, ↓reduceIte, reduceCtorEq, Nat.reduceEqDiff, Nat.reduceAdd, Nat.reduceLeDiff, Nat.reduceLT, Nat.reduceSub, Int.reduceEq, Int.reduceNe, Int.reduceLT, Int.reduceLE, Int.reduceAdd, Int.reduceSub, Int.reduceMul, Int.reduceNeg, Int.reduceToNat, Nat.reduceMul]
        · rfl
      · exact absurd hc2 (by simp [hc])
theorem push_ctr (f : Bool) (t : Tab) (v : Nat) (hx : t.next < 4294967296) (hl0 : okEs t.e) (hv : v < 4294967296) : Ctr prog 27 [avTab f t, .raw (.int .u32 (v : Int))] [] (.tup [avTab false (t.push v).1, .raw (.int .i64 (t.push v).2)]) [] := by
  cases hm : t.may with
  | false => exact push_may f t v hx hl0 hv hm
  | true =>
    by_cases hk : t.s.kind = 3
    · by_cases hc : (t.e.length : Int) = t.s.cap
      · exact push_full f t v hx hl0 hv hm hk hc
      · exact push_ok f t v hx hl0 hv hm hk hc
    · exact push_kind f t v hx hl0 hv hm hk
end Go.Proofs.Ytpmnchgpbojppaa
