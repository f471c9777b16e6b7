/- TableLru, walked by the abstract machine. -/
import Derived.Test.YtpmnchgpbojppaaLruP
set_option linter.unusedVariables false
set_option linter.unusedSimpArgs false
namespace Go.Proofs.Ytpmnchgpbojppaa
open Go Go.RowKit Go.Proofs.Try
theorem hmix : prog.follows .mixedOrders = true := by kernel_rfl
set_option maxHeartbeats 4000000 in
set_option maxRecDepth 100000 in
theorem tableLru_ok (cap : Int) (fl : Bool) (ks : List Nat) (hl : ks.length ≤ 40) (hks : lt32 ks) (h1 : 1 ≤ cap) (h2 : cap ≤ 16) : Ctr prog 4 [.raw (.int .i64 cap), .sl fl (ks.map encW)] [] (.raw (.bool true)) [] := by
  have hnew : Tab.new ⟨2, cap, 1, 0⟩ = (⟨⟨2, cap, 1, 0⟩, [], 0⟩, 0) := by
    have hm : (⟨2, cap, 1, 0⟩ : Sch).may = true := by simp [Sch.may, inB, h1, h2]
    unfold Tab.new
    rw [if_neg (by rw [hm]; simp)]
    rfl
  refine Ctr.of tabOk func4 rfl call4 0 _ ntmps4 [.tmp 4] rfl rfl rfl (fun B => ?_)
  refine VC.seqR tabOk [some 4] [0, 1] rfl rfl (fun K hK => ?_)
  simp (maxSteps := 9000000) only [push_cast, ↓reduceIte, reduceCtorEq, Nat.reduceEqDiff, Nat.reduceAdd, Nat.reduceLeDiff, Nat.reduceLT, Nat.reduceSub, Int.reduceEq, Int.reduceNe, Int.reduceLT, Int.reduceLE, Int.reduceAdd, Int.reduceSub, Int.reduceMul, Int.reduceNeg, Int.reduceToNat, Nat.reduceMul]
  refine hK _ ?_; clear hK K
  refine VC.seqR tabOk [some 15, some 5] [0, 1, 5] rfl rfl (fun K hK => ?_)
  simp (maxSteps := 9000000) only [push_cast, ↓reduceIte, reduceCtorEq, Nat.reduceEqDiff, Nat.reduceAdd, Nat.reduceLeDiff, Nat.reduceLT, Nat.reduceSub, Int.reduceEq, Int.reduceNe, Int.reduceLT, Int.reduceLE, Int.reduceAdd, Int.reduceSub, Int.reduceMul, Int.reduceNeg, Int.reduceToNat, Nat.reduceMul]
  refine callP (awake5_ctr) rfl ?_
  simp (maxSteps := 9000000) only [push_cast, ↓reduceIte, reduceCtorEq, Nat.reduceEqDiff, Nat.reduceAdd, Nat.reduceLeDiff, Nat.reduceLT, Nat.reduceSub, Int.reduceEq, Int.reduceNe, Int.reduceLT, Int.reduceLE, Int.reduceAdd, Int.reduceSub, Int.reduceMul, Int.reduceNeg, Int.reduceToNat, Nat.reduceMul]
  refine hK _ ?_; clear hK K
  refine VC.seq ?_
  refine VC.seqR tabOk [some 16, some 17, some 18, some 19, some 20, some 21, some 22] [0, 1, 5, 22] rfl rfl (fun K hK => ?_)
  simp (maxSteps := 9000000) only [push_cast, ↓reduceIte, reduceCtorEq, Nat.reduceEqDiff, Nat.reduceAdd, Nat.reduceLeDiff, Nat.reduceLT, Nat.reduceSub, Int.reduceEq, Int.reduceNe, Int.reduceLT, Int.reduceLE, Int.reduceAdd, Int.reduceSub, Int.reduceMul, Int.reduceNeg, Int.reduceToNat, Nat.reduceMul]
  refine hK _ ?_; clear hK K
  refine VC.cond rfl rfl (fun hc0 => ?_) (fun hc0 => ?_)
  · exact absurd hc0 (by simp; omega)
  · refine VC.skip ?_
    refine VC.seqR tabOk [some 25, some 26, some 27, some 24, some 28, some 29, some 6, none, some 7] [0, 1, 6, 7] rfl rfl (fun K hK => ?_)
    simp (maxSteps := 9000000) only [push_cast, ↓reduceIte, reduceCtorEq, Nat.reduceEqDiff, Nat.reduceAdd, Nat.reduceLeDiff, Nat.reduceLT, Nat.reduceSub, Int.reduceEq, Int.reduceNe, Int.reduceLT, Int.reduceLE, Int.reduceAdd, Int.reduceSub, Int.reduceMul, Int.reduceNeg, Int.reduceToNat, Nat.reduceMul]
    refine callP (new_ctr ⟨2, cap, 1, 0⟩) rfl ?_
    simp (maxSteps := 9000000) only [push_cast, ↓reduceIte, reduceCtorEq, Nat.reduceEqDiff, Nat.reduceAdd, Nat.reduceLeDiff, Nat.reduceLT, Nat.reduceSub, Int.reduceEq, Int.reduceNe, Int.reduceLT, Int.reduceLE, Int.reduceAdd, Int.reduceSub, Int.reduceMul, Int.reduceNeg, Int.reduceToNat, Nat.reduceMul, hnew]
    refine hK _ ?_; clear hK K
    refine VC.seq ?_
    refine VC.seqR tabOk [some 30, some 31] [0, 1, 6, 31] rfl rfl (fun K hK => ?_)
    simp (maxSteps := 9000000) only [push_cast, ↓reduceIte, reduceCtorEq, Nat.reduceEqDiff, Nat.reduceAdd, Nat.reduceLeDiff, Nat.reduceLT, Nat.reduceSub, Int.reduceEq, Int.reduceNe, Int.reduceLT, Int.reduceLE, Int.reduceAdd, Int.reduceSub, Int.reduceMul, Int.reduceNeg, Int.reduceToNat, Nat.reduceMul]
    refine hK _ ?_; clear hK K
    refine VC.cond rfl rfl (fun hc1 => ?_) (fun hc1 => ?_)
    · exact absurd hc1 (by simp)
    · refine VC.skip ?_
      refine VC.seqR tabOk [some 8] [0, 1, 6, 8] rfl rfl (fun K hK => ?_)
      simp (maxSteps := 9000000) only [push_cast, ↓reduceIte, reduceCtorEq, Nat.reduceEqDiff, Nat.reduceAdd, Nat.reduceLeDiff, Nat.reduceLT, Nat.reduceSub, Int.reduceEq, Int.reduceNe, Int.reduceLT, Int.reduceLE, Int.reduceAdd, Int.reduceSub, Int.reduceMul, Int.reduceNeg, Int.reduceToNat, Nat.reduceMul]
      refine hK _ ?_; clear hK K
      refine VC.seq ?_
      refine VC.seqR tabOk [some 9] [0, 1, 6, 8, 9] rfl rfl (fun K hK => ?_)
      simp (maxSteps := 9000000) only [push_cast, ↓reduceIte, reduceCtorEq, Nat.reduceEqDiff, Nat.reduceAdd, Nat.reduceLeDiff, Nat.reduceLT, Nat.reduceSub, Int.reduceEq, Int.reduceNe, Int.reduceLT, Int.reduceLE, Int.reduceAdd, Int.reduceSub, Int.reduceMul, Int.reduceNeg, Int.reduceToNat, Nat.reduceMul]
      refine hK _ ?_; clear hK K
      refine VC.block ?_
      refine VC.sub (Sub.looseT (k := 8) rfl) ?_
      simp (maxSteps := 9000000) only [push_cast, ↓reduceIte, reduceCtorEq, Nat.reduceEqDiff, Nat.reduceAdd, Nat.reduceLeDiff, Nat.reduceLT, Nat.reduceSub, Int.reduceEq, Int.reduceNe, Int.reduceLT, Int.reduceLE, Int.reduceAdd, Int.reduceSub, Int.reduceMul, Int.reduceNeg, Int.reduceToNat, Nat.reduceMul]
      refine VC.loopU (X := Nat × Tab) (fun x => [(9, .raw (.int .i64 (x.1 : Int))), (8, .sl false ((keys x.2.e).map encW))]) (fun x => [(16, .box 27 (cellsTab false x.2))]) (fun x => x.1 ≤ ks.length ∧ LruT cap x.2) (fun x => ks.length - x.1) ((0, ⟨⟨2, cap, 1, 0⟩, [], 0⟩)) ⟨Nat.zero_le _, lru_new h1 h2⟩ ?_ ?_
      · refine Sub.of ?_ ?_ ⟨rfl, rfl, by simp⟩ rfl
        · simp (maxSteps := 9000000) only [push_cast, ↓reduceIte, reduceCtorEq, Nat.reduceEqDiff, Nat.reduceAdd, Nat.reduceLeDiff, Nat.reduceLT, Nat.reduceSub, Int.reduceEq, Int.reduceNe, Int.reduceLT, Int.reduceLE, Int.reduceAdd, Int.reduceSub, Int.reduceMul, Int.reduceNeg, Int.reduceToNat, Nat.reduceMul, keys]
        · simp (maxSteps := 9000000) only [push_cast, ↓reduceIte, reduceCtorEq, Nat.reduceEqDiff, Nat.reduceAdd, Nat.reduceLeDiff, Nat.reduceLT, Nat.reduceSub, Int.reduceEq, Int.reduceNe, Int.reduceLT, Int.reduceLE, Int.reduceAdd, Int.reduceSub, Int.reduceMul, Int.reduceNeg, Int.reduceToNat, Nat.reduceMul, keys]
      rintro ⟨i, t⟩ ⟨hi, hT⟩
      simp only at hi hT
      simp (maxSteps := 9000000) only [push_cast, ↓reduceIte, reduceCtorEq, Nat.reduceEqDiff, Nat.reduceAdd, Nat.reduceLeDiff, Nat.reduceLT, Nat.reduceSub, Int.reduceEq, Int.reduceNe, Int.reduceLT, Int.reduceLE, Int.reduceAdd, Int.reduceSub, Int.reduceMul, Int.reduceNeg, Int.reduceToNat, Nat.reduceMul]
      refine VC.seq ?_
      refine VC.seqR tabOk [some 38, some 39, some 40, some 41] [0, 1, 6, 8, 9, 41] rfl rfl (fun K hK => ?_)
      simp (maxSteps := 9000000) only [push_cast, ↓reduceIte, reduceCtorEq, Nat.reduceEqDiff, Nat.reduceAdd, Nat.reduceLeDiff, Nat.reduceLT, Nat.reduceSub, Int.reduceEq, Int.reduceNe, Int.reduceLT, Int.reduceLE, Int.reduceAdd, Int.reduceSub, Int.reduceMul, Int.reduceNeg, Int.reduceToNat, Nat.reduceMul]
      refine hK _ ?_; clear hK K
      refine VC.cond rfl rfl (fun hc2 => ?_) (fun hc2 => ?_)
      · have hlt : i < ks.length := by simp at hc2; omega
        obtain ⟨k, hk⟩ : ∃ k, ks[i]? = some k := ⟨_, List.getElem?_eq_getElem hlt⟩
        have hk32 : k < 4294967296 := hks k (List.mem_of_getElem? hk)
        obtain ⟨e1, e2, e3⟩ := lru_step (x := i) hT hk32 (by omega)
        have hwi : IntKind.u32.wrap (i : Int) = (i : Int) := by rw [IntKind.wrap_u32]; omega
        have hw := wrap_succ (i := i) (by omega)
        have h16 := lru_len hT
        refine VC.skip ?_
        refine VC.seq ?_
        refine VC.block ?_
        refine VC.seqD tabOk hmix [some 45, some 46, some 47, some 48, some 49, some 50, some 51, some 52, some 44, some 53, some 54, some 10, none, some 11] [0, 1, 6, 8, 9, 10, 11] rfl rfl rfl (fun K hK => ?_)
        simp (maxSteps := 9000000) only [push_cast, ↓reduceIte, reduceCtorEq, Nat.reduceEqDiff, Nat.reduceAdd, Nat.reduceLeDiff, Nat.reduceLT, Nat.reduceSub, Int.reduceEq, Int.reduceNe, Int.reduceLT, Int.reduceLE, Int.reduceAdd, Int.reduceSub, Int.reduceMul, Int.reduceNeg, Int.reduceToNat, Nat.reduceMul, hlt, hk, hwi]
        refine callPD (set_ctr false t k 0 i (by rw [hT.n]; decide) (by decide) hk32 (by omega) (mayFits hT.m) hT.o) rfl ?_
        simp (maxSteps := 9000000) only [push_cast, ↓reduceIte, reduceCtorEq, Nat.reduceEqDiff, Nat.reduceAdd, Nat.reduceLeDiff, Nat.reduceLT, Nat.reduceSub, Int.reduceEq, Int.reduceNe, Int.reduceLT, Int.reduceLE, Int.reduceAdd, Int.reduceSub, Int.reduceMul, Int.reduceNeg, Int.reduceToNat, Nat.reduceMul, hlt, hk, hwi, hlt, hk, hwi, e1]
        refine ⟨rfl, hK _ ?_⟩; clear hK K
        refine VC.seq ?_
        refine VC.seqR tabOk [some 55, some 56] [0, 1, 6, 8, 9, 10, 56] rfl rfl (fun K hK => ?_)
        simp (maxSteps := 9000000) only [push_cast, ↓reduceIte, reduceCtorEq, Nat.reduceEqDiff, Nat.reduceAdd, Nat.reduceLeDiff, Nat.reduceLT, Nat.reduceSub, Int.reduceEq, Int.reduceNe, Int.reduceLT, Int.reduceLE, Int.reduceAdd, Int.reduceSub, Int.reduceMul, Int.reduceNeg, Int.reduceToNat, Nat.reduceMul]
        refine hK _ ?_; clear hK K
        refine VC.cond rfl rfl (fun hc3 => ?_) (fun hc3 => ?_)
        · exact absurd hc3 (by simp)
        · refine VC.skip ?_
          refine VC.seqR tabOk [some 57, none] [0, 1, 6, 8, 9] rfl rfl (fun K hK => ?_)
          simp (maxSteps := 9000000) only [push_cast, ↓reduceIte, reduceCtorEq, Nat.reduceEqDiff, Nat.reduceAdd, Nat.reduceLeDiff, Nat.reduceLT, Nat.reduceSub, Int.reduceEq, Int.reduceNe, Int.reduceLT, Int.reduceLE, Int.reduceAdd, Int.reduceSub, Int.reduceMul, Int.reduceNeg, Int.reduceToNat, Nat.reduceMul]
          refine hK _ ?_; clear hK K
          refine VC.seqR tabOk [some 12] [0, 1, 6, 8, 9, 12] rfl rfl (fun K hK => ?_)
          simp (maxSteps := 9000000) only [push_cast, ↓reduceIte, reduceCtorEq, Nat.reduceEqDiff, Nat.reduceAdd, Nat.reduceLeDiff, Nat.reduceLT, Nat.reduceSub, Int.reduceEq, Int.reduceNe, Int.reduceLT, Int.reduceLE, Int.reduceAdd, Int.reduceSub, Int.reduceMul, Int.reduceNeg, Int.reduceToNat, Nat.reduceMul]
          refine hK _ ?_; clear hK K
          refine VC.seq ?_
          refine VC.seqR tabOk [some 13] [0, 1, 6, 8, 9, 12, 13] rfl rfl (fun K hK => ?_)
          simp (maxSteps := 9000000) only [push_cast, ↓reduceIte, reduceCtorEq, Nat.reduceEqDiff, Nat.reduceAdd, Nat.reduceLeDiff, Nat.reduceLT, Nat.reduceSub, Int.reduceEq, Int.reduceNe, Int.reduceLT, Int.reduceLE, Int.reduceAdd, Int.reduceSub, Int.reduceMul, Int.reduceNeg, Int.reduceToNat, Nat.reduceMul]
          refine hK _ ?_; clear hK K
          refine VC.sub (Sub.adoptT (k := 12) (e := 25) (sz := 1) rfl) ?_
          simp (maxSteps := 9000000) only [push_cast, ↓reduceIte, reduceCtorEq, Nat.reduceEqDiff, Nat.reduceAdd, Nat.reduceLeDiff, Nat.reduceLT, Nat.reduceSub, Int.reduceEq, Int.reduceNe, Int.reduceLT, Int.reduceLE, Int.reduceAdd, Int.reduceSub, Int.reduceMul, Int.reduceNeg, Int.reduceToNat, Nat.reduceMul]
          refine VC.block ?_
          refine VC.loopU (X := Nat) (fun j => [(12, .row 47 (lruF (keys t.e) k j).length 1 0 (lruF (keys t.e) k j).length), (13, .raw (.int .i64 (j : Int)))]) (fun j => [(47, .row 25 1 (lruF (keys t.e) k j).length ((lruF (keys t.e) k j).map encW))]) (fun j => j ≤ (keys t.e).length) (fun j => (keys t.e).length - j) (0) (Nat.zero_le _) ?_ ?_
          · refine Sub.of ?_ ?_ ⟨rfl, rfl, by simp⟩ rfl
            · simp (maxSteps := 9000000) only [push_cast, ↓reduceIte, reduceCtorEq, Nat.reduceEqDiff, Nat.reduceAdd, Nat.reduceLeDiff, Nat.reduceLT, Nat.reduceSub, Int.reduceEq, Int.reduceNe, Int.reduceLT, Int.reduceLE, Int.reduceAdd, Int.reduceSub, Int.reduceMul, Int.reduceNeg, Int.reduceToNat, Nat.reduceMul, lruF_zero]
            · simp (maxSteps := 9000000) only [push_cast, ↓reduceIte, reduceCtorEq, Nat.reduceEqDiff, Nat.reduceAdd, Nat.reduceLeDiff, Nat.reduceLT, Nat.reduceSub, Int.reduceEq, Int.reduceNe, Int.reduceLT, Int.reduceLE, Int.reduceAdd, Int.reduceSub, Int.reduceMul, Int.reduceNeg, Int.reduceToNat, Nat.reduceMul, lruF_zero]
          rintro j hj
          simp (maxSteps := 9000000) only [push_cast, ↓reduceIte, reduceCtorEq, Nat.reduceEqDiff, Nat.reduceAdd, Nat.reduceLeDiff, Nat.reduceLT, Nat.reduceSub, Int.reduceEq, Int.reduceNe, Int.reduceLT, Int.reduceLE, Int.reduceAdd, Int.reduceSub, Int.reduceMul, Int.reduceNeg, Int.reduceToNat, Nat.reduceMul]
          refine VC.seq ?_
          refine VC.seqR tabOk [some 58, some 59, some 60, some 61] [0, 1, 6, 8, 9, 12, 13, 61] rfl rfl (fun K hK => ?_)
          simp (maxSteps := 9000000) only [push_cast, ↓reduceIte, reduceCtorEq, Nat.reduceEqDiff, Nat.reduceAdd, Nat.reduceLeDiff, Nat.reduceLT, Nat.reduceSub, Int.reduceEq, Int.reduceNe, Int.reduceLT, Int.reduceLE, Int.reduceAdd, Int.reduceSub, Int.reduceMul, Int.reduceNeg, Int.reduceToNat, Nat.reduceMul]
          refine hK _ ?_; clear hK K
          refine VC.cond rfl rfl (fun hc4 => ?_) (fun hc4 => ?_)
          · have hjl : j < (keys t.e).length := by simp at hc4; omega
            obtain ⟨q, hq⟩ : ∃ q, (keys t.e)[j]? = some q := ⟨_, List.getElem?_eq_getElem hjl⟩
            have hwj := wrap_succ (i := j) (by omega)
            have hfl := lruF_le (keys t.e) k j
            refine VC.skip ?_
            refine VC.seq ?_
            refine VC.block ?_
            refine VC.seqD tabOk hmix [some 64, some 65, some 66, some 67, some 68, some 69, some 70, some 71, some 72] [0, 1, 6, 8, 9, 12, 13, 72] rfl rfl rfl (fun K hK => ?_)
            simp (maxSteps := 9000000) only [push_cast, ↓reduceIte, reduceCtorEq, Nat.reduceEqDiff, Nat.reduceAdd, Nat.reduceLeDiff, Nat.reduceLT, Nat.reduceSub, Int.reduceEq, Int.reduceNe, Int.reduceLT, Int.reduceLE, Int.reduceAdd, Int.reduceSub, Int.reduceMul, Int.reduceNeg, Int.reduceToNat, Nat.reduceMul, hjl, hq, hlt, hk]
            refine ⟨rfl, hK _ ?_⟩; clear hK K
            refine VC.cond rfl rfl (fun hc5 => ?_) (fun hc5 => ?_)
            · have hqk : q ≠ k := by simp at hc5; omega
              have hF := lruF_add hq hqk
              refine VC.lastR tabOk [some 73, some 74, some 75, some 76, some 77, some 78, some 79, some 12] rfl rfl (fun K hK => ?_)
              simp (maxSteps := 9000000) only [push_cast, ↓reduceIte, reduceCtorEq, Nat.reduceEqDiff, Nat.reduceAdd, Nat.reduceLeDiff, Nat.reduceLT, Nat.reduceSub, Int.reduceEq, Int.reduceNe, Int.reduceLT, Int.reduceLE, Int.reduceAdd, Int.reduceSub, Int.reduceMul, Int.reduceNeg, Int.reduceToNat, Nat.reduceMul, hjl, hq]
              refine ⟨by omega, ?_⟩
              refine hK _ ?_; clear hK K
              refine VC.lastR tabOk [some 62, some 63, some 13] rfl rfl (fun K hK => ?_)
              simp (maxSteps := 9000000) only [push_cast, ↓reduceIte, reduceCtorEq, Nat.reduceEqDiff, Nat.reduceAdd, Nat.reduceLeDiff, Nat.reduceLT, Nat.reduceSub, Int.reduceEq, Int.reduceNe, Int.reduceLT, Int.reduceLE, Int.reduceAdd, Int.reduceSub, Int.reduceMul, Int.reduceNeg, Int.reduceToNat, Nat.reduceMul]
              refine hK _ ?_; clear hK K
              refine Exists.intro (j + 1) ⟨(by show j + 1 ≤ (keys t.e).length; omega), by omega, Sub.of ?_ ?_ ⟨rfl, rfl, by simp⟩ rfl⟩
              · simp (maxSteps := 9000000) only [push_cast, ↓reduceIte, reduceCtorEq, Nat.reduceEqDiff, Nat.reduceAdd, Nat.reduceLeDiff, Nat.reduceLT, Nat.reduceSub, Int.reduceEq, Int.reduceNe, Int.reduceLT, Int.reduceLE, Int.reduceAdd, Int.reduceSub, Int.reduceMul, Int.reduceNeg, Int.reduceToNat, Nat.reduceMul, hwj, hF, List.map_append, List.length_append]
              · simp (maxSteps := 9000000) only [push_cast, ↓reduceIte, reduceCtorEq, Nat.reduceEqDiff, Nat.reduceAdd, Nat.reduceLeDiff, Nat.reduceLT, Nat.reduceSub, Int.reduceEq, Int.reduceNe, Int.reduceLT, Int.reduceLE, Int.reduceAdd, Int.reduceSub, Int.reduceMul, Int.reduceNeg, Int.reduceToNat, Nat.reduceMul, hwj, hF, List.map_append, List.length_append]
            · have hqk : q = k := by simp at hc5; omega
              have hF := lruF_stay hq hqk
              refine VC.skip ?_
              refine VC.lastR tabOk [some 62, some 63, some 13] rfl rfl (fun K hK => ?_)
              simp (maxSteps := 9000000) only [push_cast, ↓reduceIte, reduceCtorEq, Nat.reduceEqDiff, Nat.reduceAdd, Nat.reduceLeDiff, Nat.reduceLT, Nat.reduceSub, Int.reduceEq, Int.reduceNe, Int.reduceLT, Int.reduceLE, Int.reduceAdd, Int.reduceSub, Int.reduceMul, Int.reduceNeg, Int.reduceToNat, Nat.reduceMul]
              refine hK _ ?_; clear hK K
              refine Exists.intro (j + 1) ⟨(by show j + 1 ≤ (keys t.e).length; omega), by omega, Sub.of ?_ ?_ ⟨rfl, rfl, by simp⟩ rfl⟩
              · simp (maxSteps := 9000000) only [push_cast, ↓reduceIte, reduceCtorEq, Nat.reduceEqDiff, Nat.reduceAdd, Nat.reduceLeDiff, Nat.reduceLT, Nat.reduceSub, Int.reduceEq, Int.reduceNe, Int.reduceLT, Int.reduceLE, Int.reduceAdd, Int.reduceSub, Int.reduceMul, Int.reduceNeg, Int.reduceToNat, Nat.reduceMul, hwj, hF, List.map_append, List.length_append]
              · simp (maxSteps := 9000000) only [push_cast, ↓reduceIte, reduceCtorEq, Nat.reduceEqDiff, Nat.reduceAdd, Nat.reduceLeDiff, Nat.reduceLT, Nat.reduceSub, Int.reduceEq, Int.reduceNe, Int.reduceLT, Int.reduceLE, Int.reduceAdd, Int.reduceSub, Int.reduceMul, Int.reduceNeg, Int.reduceToNat, Nat.reduceMul, hwj, hF, List.map_append, List.length_append]
          · have hje : j = (keys t.e).length := by simp at hc4; omega
            have hF := lruF_all (ws := keys t.e) (k := k) hje
            have hfl := lruF_le (keys t.e) k j
            refine VC.exit ?_
            refine VC.seqR tabOk [some 80, some 81, some 82, some 83, some 84, some 85, some 86, some 8] [0, 1, 6, 8, 9] rfl rfl (fun K hK => ?_)
            simp (maxSteps := 9000000) only [push_cast, ↓reduceIte, reduceCtorEq, Nat.reduceEqDiff, Nat.reduceAdd, Nat.reduceLeDiff, Nat.reduceLT, Nat.reduceSub, Int.reduceEq, Int.reduceNe, Int.reduceLT, Int.reduceLE, Int.reduceAdd, Int.reduceSub, Int.reduceMul, Int.reduceNeg, Int.reduceToNat, Nat.reduceMul, hlt, hk]
            refine ⟨by omega, ?_⟩
            refine hK _ ?_; clear hK K
            refine VC.seqR tabOk [some 87, some 88, some 89, some 90] [0, 1, 6, 8, 9, 90] rfl rfl (fun K hK => ?_)
            simp (maxSteps := 9000000) only [push_cast, ↓reduceIte, reduceCtorEq, Nat.reduceEqDiff, Nat.reduceAdd, Nat.reduceLeDiff, Nat.reduceLT, Nat.reduceSub, Int.reduceEq, Int.reduceNe, Int.reduceLT, Int.reduceLE, Int.reduceAdd, Int.reduceSub, Int.reduceMul, Int.reduceNeg, Int.reduceToNat, Nat.reduceMul]
            refine hK _ ?_; clear hK K
            refine VC.cond rfl rfl (fun hc6 => ?_) (fun hc6 => ?_)
            · have hgt : ((lruF (keys t.e) k j).length : Int) + 1 > cap := by simp at hc6; omega
              have hres := lru_over (cap := cap) hF hgt e3
              refine VC.lastR tabOk [some 91, some 92, some 8] rfl rfl (fun K hK => ?_)
              simp (maxSteps := 9000000) only [push_cast, ↓reduceIte, reduceCtorEq, Nat.reduceEqDiff, Nat.reduceAdd, Nat.reduceLeDiff, Nat.reduceLT, Nat.reduceSub, Int.reduceEq, Int.reduceNe, Int.reduceLT, Int.reduceLE, Int.reduceAdd, Int.reduceSub, Int.reduceMul, Int.reduceNeg, Int.reduceToNat, Nat.reduceMul]
              refine ⟨by omega, ?_⟩
              refine hK _ ?_; clear hK K
              refine VC.lastR tabOk [some 42, some 43, some 9] rfl rfl (fun K hK => ?_)
              simp (maxSteps := 9000000) only [push_cast, ↓reduceIte, reduceCtorEq, Nat.reduceEqDiff, Nat.reduceAdd, Nat.reduceLeDiff, Nat.reduceLT, Nat.reduceSub, Int.reduceEq, Int.reduceNe, Int.reduceLT, Int.reduceLE, Int.reduceAdd, Int.reduceSub, Int.reduceMul, Int.reduceNeg, Int.reduceToNat, Nat.reduceMul]
              refine hK _ ?_; clear hK K
              refine Exists.intro ((i + 1, (t.set k 0 i).1)) ⟨⟨(by show i + 1 ≤ ks.length; omega), e2⟩, (by show ks.length - (i + 1) < ks.length - i; omega), (Sub.freezeT prog (k := 8) rfl rfl (by simp <;> omega) (by decide)).trans (Sub.of ?_ ?_ ⟨rfl, rfl, by simp⟩ rfl)⟩
              · simp (maxSteps := 9000000) only [push_cast, ↓reduceIte, reduceCtorEq, Nat.reduceEqDiff, Nat.reduceAdd, Nat.reduceLeDiff, Nat.reduceLT, Nat.reduceSub, Int.reduceEq, Int.reduceNe, Int.reduceLT, Int.reduceLE, Int.reduceAdd, Int.reduceSub, Int.reduceMul, Int.reduceNeg, Int.reduceToNat, Nat.reduceMul, hw, hres]
              · simp (maxSteps := 9000000) only [push_cast, ↓reduceIte, reduceCtorEq, Nat.reduceEqDiff, Nat.reduceAdd, Nat.reduceLeDiff, Nat.reduceLT, Nat.reduceSub, Int.reduceEq, Int.reduceNe, Int.reduceLT, Int.reduceLE, Int.reduceAdd, Int.reduceSub, Int.reduceMul, Int.reduceNeg, Int.reduceToNat, Nat.reduceMul, hw, hres]
            · have hgt : ¬ ((lruF (keys t.e) k j).length : Int) + 1 > cap := by simp at hc6; omega
              have hres := lru_fit (cap := cap) hF hgt e3
              refine VC.skip ?_
              refine VC.lastR tabOk [some 42, some 43, some 9] rfl rfl (fun K hK => ?_)
              simp (maxSteps := 9000000) only [push_cast, ↓reduceIte, reduceCtorEq, Nat.reduceEqDiff, Nat.reduceAdd, Nat.reduceLeDiff, Nat.reduceLT, Nat.reduceSub, Int.reduceEq, Int.reduceNe, Int.reduceLT, Int.reduceLE, Int.reduceAdd, Int.reduceSub, Int.reduceMul, Int.reduceNeg, Int.reduceToNat, Nat.reduceMul]
              refine hK _ ?_; clear hK K
              refine Exists.intro ((i + 1, (t.set k 0 i).1)) ⟨⟨(by show i + 1 ≤ ks.length; omega), e2⟩, (by show ks.length - (i + 1) < ks.length - i; omega), (Sub.freezeT prog (k := 8) rfl rfl (by simp <;> omega) (by decide)).trans (Sub.of ?_ ?_ ⟨rfl, rfl, by simp⟩ rfl)⟩
              · simp (maxSteps := 9000000) only [push_cast, ↓reduceIte, reduceCtorEq, Nat.reduceEqDiff, Nat.reduceAdd, Nat.reduceLeDiff, Nat.reduceLT, Nat.reduceSub, Int.reduceEq, Int.reduceNe, Int.reduceLT, Int.reduceLE, Int.reduceAdd, Int.reduceSub, Int.reduceMul, Int.reduceNeg, Int.reduceToNat, Nat.reduceMul, hw, hres]
              · simp (maxSteps := 9000000) only [push_cast, ↓reduceIte, reduceCtorEq, Nat.reduceEqDiff, Nat.reduceAdd, Nat.reduceLeDiff, Nat.reduceLT, Nat.reduceSub, Int.reduceEq, Int.reduceNe, Int.reduceLT, Int.reduceLE, Int.reduceAdd, Int.reduceSub, Int.reduceMul, Int.reduceNeg, Int.reduceToNat, Nat.reduceMul, hw, hres]
      · have hge : i = ks.length := by simp at hc2; omega
        refine VC.exit ?_
        refine VC.seq ?_
        refine VC.seqR tabOk [some 93, some 94, some 95, some 96, some 97, some 98] [6, 8, 98] rfl rfl (fun K hK => ?_)
        simp (maxSteps := 9000000) only [push_cast, ↓reduceIte, reduceCtorEq, Nat.reduceEqDiff, Nat.reduceAdd, Nat.reduceLeDiff, Nat.reduceLT, Nat.reduceSub, Int.reduceEq, Int.reduceNe, Int.reduceLT, Int.reduceLE, Int.reduceAdd, Int.reduceSub, Int.reduceMul, Int.reduceNeg, Int.reduceToNat, Nat.reduceMul]
        refine hK _ ?_; clear hK K
        refine VC.cond rfl rfl (fun hc7 => ?_) (fun hc7 => ?_)
        · exact absurd hc7 (by simp [keys])
        · have hkl : (keys t.e).length = t.e.length := by simp [keys]
          have h16 := lru_len hT
          refine VC.skip ?_
          refine VC.seq ?_
          refine VC.seqR tabOk [some 14] [6, 8, 14] rfl rfl (fun K hK => ?_)
          simp (maxSteps := 9000000) only [push_cast, ↓reduceIte, reduceCtorEq, Nat.reduceEqDiff, Nat.reduceAdd, Nat.reduceLeDiff, Nat.reduceLT, Nat.reduceSub, Int.reduceEq, Int.reduceNe, Int.reduceLT, Int.reduceLE, Int.reduceAdd, Int.reduceSub, Int.reduceMul, Int.reduceNeg, Int.reduceToNat, Nat.reduceMul]
          refine hK _ ?_; clear hK K
          refine VC.block ?_
          refine VC.loopU (X := Nat) (fun j => [(14, .raw (.int .i64 (j : Int)))]) (fun _ => []) (fun j => j ≤ t.e.length) (fun j => t.e.length - j) (0) (Nat.zero_le _) ?_ ?_
          · refine Sub.of ?_ ?_ ⟨rfl, rfl, by simp⟩ rfl
            · simp (maxSteps := 9000000) only [push_cast, ↓reduceIte, reduceCtorEq, Nat.reduceEqDiff, Nat.reduceAdd, Nat.reduceLeDiff, Nat.reduceLT, Nat.reduceSub, Int.reduceEq, Int.reduceNe, Int.reduceLT, Int.reduceLE, Int.reduceAdd, Int.reduceSub, Int.reduceMul, Int.reduceNeg, Int.reduceToNat, Nat.reduceMul]
            · simp (maxSteps := 9000000) only [push_cast, ↓reduceIte, reduceCtorEq, Nat.reduceEqDiff, Nat.reduceAdd, Nat.reduceLeDiff, Nat.reduceLT, Nat.reduceSub, Int.reduceEq, Int.reduceNe, Int.reduceLT, Int.reduceLE, Int.reduceAdd, Int.reduceSub, Int.reduceMul, Int.reduceNeg, Int.reduceToNat, Nat.reduceMul]
          rintro j hj
          simp (maxSteps := 9000000) only [push_cast, ↓reduceIte, reduceCtorEq, Nat.reduceEqDiff, Nat.reduceAdd, Nat.reduceLeDiff, Nat.reduceLT, Nat.reduceSub, Int.reduceEq, Int.reduceNe, Int.reduceLT, Int.reduceLE, Int.reduceAdd, Int.reduceSub, Int.reduceMul, Int.reduceNeg, Int.reduceToNat, Nat.reduceMul]
          refine VC.seq ?_
          refine VC.seqR tabOk [some 99, some 100, some 101, some 102] [6, 8, 14, 102] rfl rfl (fun K hK => ?_)
          simp (maxSteps := 9000000) only [push_cast, ↓reduceIte, reduceCtorEq, Nat.reduceEqDiff, Nat.reduceAdd, Nat.reduceLeDiff, Nat.reduceLT, Nat.reduceSub, Int.reduceEq, Int.reduceNe, Int.reduceLT, Int.reduceLE, Int.reduceAdd, Int.reduceSub, Int.reduceMul, Int.reduceNeg, Int.reduceToNat, Nat.reduceMul]
          refine hK _ ?_; clear hK K
          refine VC.cond rfl rfl (fun hc8 => ?_) (fun hc8 => ?_)
          · have hjl : j < (keys t.e).length := by simp at hc8; omega
            have hjt : j < t.e.length := by omega
            obtain ⟨e, he⟩ : ∃ e, t.e[j]? = some e := ⟨_, List.getElem?_eq_getElem hjt⟩
            have hek : (keys t.e)[j]? = some e.key := by rw [keys, List.getElem?_map, he]; rfl
            have hwj := wrap_succ (i := j) (by omega)
            refine VC.skip ?_
            refine VC.seq ?_
            refine VC.block ?_
            refine VC.seqD tabOk hmix [some 105, some 106, some 107, some 108, some 109, some 110, some 111, some 112, some 113, some 114, some 115] [6, 8, 14, 115] rfl rfl rfl (fun K hK => ?_)
            simp (maxSteps := 9000000) only [push_cast, ↓reduceIte, reduceCtorEq, Nat.reduceEqDiff, Nat.reduceAdd, Nat.reduceLeDiff, Nat.reduceLT, Nat.reduceSub, Int.reduceEq, Int.reduceNe, Int.reduceLT, Int.reduceLE, Int.reduceAdd, Int.reduceSub, Int.reduceMul, Int.reduceNeg, Int.reduceToNat, Nat.reduceMul, hjl, hjt, he, hek]
            refine ⟨rfl, hK _ ?_⟩; clear hK K
            refine VC.cond rfl rfl (fun hc9 => ?_) (fun hc9 => ?_)
            · exact absurd hc9 (by simp)
            · refine VC.skip ?_
              refine VC.lastR tabOk [some 103, some 104, some 14] rfl rfl (fun K hK => ?_)
              simp (maxSteps := 9000000) only [push_cast, ↓reduceIte, reduceCtorEq, Nat.reduceEqDiff, Nat.reduceAdd, Nat.reduceLeDiff, Nat.reduceLT, Nat.reduceSub, Int.reduceEq, Int.reduceNe, Int.reduceLT, Int.reduceLE, Int.reduceAdd, Int.reduceSub, Int.reduceMul, Int.reduceNeg, Int.reduceToNat, Nat.reduceMul]
              refine hK _ ?_; clear hK K
              refine Exists.intro (j + 1) ⟨(by show j + 1 ≤ t.e.length; omega), by omega, Sub.of ?_ ?_ ⟨rfl, rfl, by simp⟩ rfl⟩
              · simp (maxSteps := 9000000) only [push_cast, ↓reduceIte, reduceCtorEq, Nat.reduceEqDiff, Nat.reduceAdd, Nat.reduceLeDiff, Nat.reduceLT, Nat.reduceSub, Int.reduceEq, Int.reduceNe, Int.reduceLT, Int.reduceLE, Int.reduceAdd, Int.reduceSub, Int.reduceMul, Int.reduceNeg, Int.reduceToNat, Nat.reduceMul, hwj]
              · simp (maxSteps := 9000000) only [push_cast, ↓reduceIte, reduceCtorEq, Nat.reduceEqDiff, Nat.reduceAdd, Nat.reduceLeDiff, Nat.reduceLT, Nat.reduceSub, Int.reduceEq, Int.reduceNe, Int.reduceLT, Int.reduceLE, Int.reduceAdd, Int.reduceSub, Int.reduceMul, Int.reduceNeg, Int.reduceToNat, Nat.reduceMul, hwj]
          · have hje : j = (keys t.e).length := by simp at hc8; omega
            refine VC.exit ?_
            refine VC.seqR tabOk [some 116, some 117, some 4] [4] rfl rfl (fun K hK => ?_)
            simp (maxSteps := 9000000) only [push_cast, ↓reduceIte, reduceCtorEq, Nat.reduceEqDiff, Nat.reduceAdd, Nat.reduceLeDiff, Nat.reduceLT, Nat.reduceSub, Int.reduceEq, Int.reduceNe, Int.reduceLT, Int.reduceLE, Int.reduceAdd, Int.reduceSub, Int.reduceMul, Int.reduceNeg, Int.reduceToNat, Nat.reduceMul]
            refine callP (may_ctr false t (by rw [hT.n]; decide) hT.o) rfl ?_
            simp (maxSteps := 9000000) only [push_cast, ↓reduceIte, reduceCtorEq, Nat.reduceEqDiff, Nat.reduceAdd, Nat.reduceLeDiff, Nat.reduceLT, Nat.reduceSub, Int.reduceEq, Int.reduceNe, Int.reduceLT, Int.reduceLE, Int.reduceAdd, Int.reduceSub, Int.reduceMul, Int.reduceNeg, Int.reduceToNat, Nat.reduceMul, hT.m]
            refine hK _ ?_; clear hK K
            refine VC.ret ?_
            refine Post.ret ?_ ?_ ?_
            · simp (maxSteps := 9000000) only [push_cast, ↓reduceIte, reduceCtorEq, Nat.reduceEqDiff, Nat.reduceAdd, Nat.reduceLeDiff, Nat.reduceLT, Nat.reduceSub, Int.reduceEq, Int.reduceNe, Int.reduceLT, Int.reduceLE, Int.reduceAdd, Int.reduceSub, Int.reduceMul, Int.reduceNeg, Int.reduceToNat, Nat.reduceMul]
            · simp (maxSteps := 9000000) only [push_cast, ↓reduceIte, reduceCtorEq, Nat.reduceEqDiff, Nat.reduceAdd, Nat.reduceLeDiff, Nat.reduceLT, Nat.reduceSub, Int.reduceEq, Int.reduceNe, Int.reduceLT, Int.reduceLE, Int.reduceAdd, Int.reduceSub, Int.reduceMul, Int.reduceNeg, Int.reduceToNat, Nat.reduceMul]
            · rfl
set_option maxHeartbeats 4000000 in
set_option maxRecDepth 100000 in
theorem tableLru_long (cap : Int) (fl : Bool) (ks : List Nat) (hl : ¬ ks.length ≤ 40) : Ctr prog 4 [.raw (.int .i64 cap), .sl fl (ks.map encW)] [] (.raw (.bool true)) [] := by
  refine Ctr.of tabOk func4 rfl call4 0 _ ntmps4 [.tmp 4] rfl rfl rfl (fun B => ?_)
  refine VC.seqR tabOk [some 4] [0, 1] rfl rfl (fun K hK => ?_)
  simp (maxSteps := 9000000) only [push_cast, ↓reduceIte, reduceCtorEq, Nat.reduceEqDiff, Nat.reduceAdd, Nat.reduceLeDiff, Nat.reduceLT, Nat.reduceSub, Int.reduceEq, Int.reduceNe, Int.reduceLT, Int.reduceLE, Int.reduceAdd, Int.reduceSub, Int.reduceMul, Int.reduceNeg, Int.reduceToNat, Nat.reduceMul]
  refine hK _ ?_; clear hK K
  refine VC.seqR tabOk [some 15, some 5] [0, 1, 5] rfl rfl (fun K hK => ?_)
  simp (maxSteps := 9000000) only [push_cast, ↓reduceIte, reduceCtorEq, Nat.reduceEqDiff, Nat.reduceAdd, Nat.reduceLeDiff, Nat.reduceLT, Nat.reduceSub, Int.reduceEq, Int.reduceNe, Int.reduceLT, Int.reduceLE, Int.reduceAdd, Int.reduceSub, Int.reduceMul, Int.reduceNeg, Int.reduceToNat, Nat.reduceMul]
  refine callP (awake5_ctr) rfl ?_
  simp (maxSteps := 9000000) only [push_cast, ↓reduceIte, reduceCtorEq, Nat.reduceEqDiff, Nat.reduceAdd, Nat.reduceLeDiff, Nat.reduceLT, Nat.reduceSub, Int.reduceEq, Int.reduceNe, Int.reduceLT, Int.reduceLE, Int.reduceAdd, Int.reduceSub, Int.reduceMul, Int.reduceNeg, Int.reduceToNat, Nat.reduceMul]
  refine hK _ ?_; clear hK K
  refine VC.seq ?_
  refine VC.seqR tabOk [some 16, some 17, some 18, some 19, some 20, some 21, some 22] [0, 1, 5, 22] rfl rfl (fun K hK => ?_)
  simp (maxSteps := 9000000) only [push_cast, ↓reduceIte, reduceCtorEq, Nat.reduceEqDiff, Nat.reduceAdd, Nat.reduceLeDiff, Nat.reduceLT, Nat.reduceSub, Int.reduceEq, Int.reduceNe, Int.reduceLT, Int.reduceLE, Int.reduceAdd, Int.reduceSub, Int.reduceMul, Int.reduceNeg, Int.reduceToNat, Nat.reduceMul]
  refine hK _ ?_; clear hK K
  refine VC.cond rfl rfl (fun hc0 => ?_) (fun hc0 => ?_)
  · refine VC.seqR tabOk [some 23, some 4] [4] rfl rfl (fun K hK => ?_)
    simp (maxSteps := 9000000) only [push_cast, ↓reduceIte, reduceCtorEq, Nat.reduceEqDiff, Nat.reduceAdd, Nat.reduceLeDiff, Nat.reduceLT, Nat.reduceSub, Int.reduceEq, Int.reduceNe, Int.reduceLT, Int.reduceLE, Int.reduceAdd, Int.reduceSub, Int.reduceMul, Int.reduceNeg, Int.reduceToNat, Nat.reduceMul]
    refine hK _ ?_; clear hK K
    refine VC.ret ?_
    refine Post.ret ?_ ?_ ?_
    · simp (maxSteps := 9000000) only [push_cast, ↓reduceIte, reduceCtorEq, Nat.reduceEqDiff, Nat.reduceAdd, Nat.reduceLeDiff, Nat.reduceLT, Nat.reduceSub, Int.reduceEq, Int.reduceNe, Int.reduceLT, Int.reduceLE, Int.reduceAdd, Int.reduceSub, Int.reduceMul, Int.reduceNeg, Int.reduceToNat, Nat.reduceMul]
    · simp (maxSteps := 9000000) only [push_cast, ↓reduceIte, reduceCtorEq, Nat.reduceEqDiff, Nat.reduceAdd, Nat.reduceLeDiff, Nat.reduceLT, Nat.reduceSub, Int.reduceEq, Int.reduceNe, Int.reduceLT, Int.reduceLE, Int.reduceAdd, Int.reduceSub, Int.reduceMul, Int.reduceNeg, Int.reduceToNat, Nat.reduceMul]
    · rfl
  · exact absurd hc0 (by simp; omega)
set_option maxHeartbeats 4000000 in
set_option maxRecDepth 100000 in
theorem tableLru_bad (cap : Int) (fl : Bool) (ks : List Nat) (hl : ks.length ≤ 40) (h1 : ¬ (1 ≤ cap ∧ cap ≤ 16)) : Ctr prog 4 [.raw (.int .i64 cap), .sl fl (ks.map encW)] [] (.raw (.bool true)) [] := by
  have hnew : Tab.new ⟨2, cap, 1, 0⟩ = (Tab.zero, 1) := by
    have hm : (⟨2, cap, 1, 0⟩ : Sch).may = false := by
      simp [Sch.may, inB]
      omega
    unfold Tab.new
    rw [if_pos hm]
  have hbad : (bif decide (cap < 1) then true else decide (cap > 16)) = true := by
    by_cases h : cap < 1
    · simp [h]
    · simp [h]
      omega
  refine Ctr.of tabOk func4 rfl call4 0 _ ntmps4 [.tmp 4] rfl rfl rfl (fun B => ?_)
  refine VC.seqR tabOk [some 4] [0, 1] rfl rfl (fun K hK => ?_)
  simp (maxSteps := 9000000) only [push_cast, ↓reduceIte, reduceCtorEq, Nat.reduceEqDiff, Nat.reduceAdd, Nat.reduceLeDiff, Nat.reduceLT, Nat.reduceSub, Int.reduceEq, Int.reduceNe, Int.reduceLT, Int.reduceLE, Int.reduceAdd, Int.reduceSub, Int.reduceMul, Int.reduceNeg, Int.reduceToNat, Nat.reduceMul]
  refine hK _ ?_; clear hK K
  refine VC.seqR tabOk [some 15, some 5] [0, 1, 5] rfl rfl (fun K hK => ?_)
  simp (maxSteps := 9000000) only [push_cast, ↓reduceIte, reduceCtorEq, Nat.reduceEqDiff, Nat.reduceAdd, Nat.reduceLeDiff, Nat.reduceLT, Nat.reduceSub, Int.reduceEq, Int.reduceNe, Int.reduceLT, Int.reduceLE, Int.reduceAdd, Int.reduceSub, Int.reduceMul, Int.reduceNeg, Int.reduceToNat, Nat.reduceMul]
  refine callP (awake5_ctr) rfl ?_
  simp (maxSteps := 9000000) only [push_cast, ↓reduceIte, reduceCtorEq, Nat.reduceEqDiff, Nat.reduceAdd, Nat.reduceLeDiff, Nat.reduceLT, Nat.reduceSub, Int.reduceEq, Int.reduceNe, Int.reduceLT, Int.reduceLE, Int.reduceAdd, Int.reduceSub, Int.reduceMul, Int.reduceNeg, Int.reduceToNat, Nat.reduceMul]
  refine hK _ ?_; clear hK K
  refine VC.seq ?_
  refine VC.seqR tabOk [some 16, some 17, some 18, some 19, some 20, some 21, some 22] [0, 1, 5, 22] rfl rfl (fun K hK => ?_)
  simp (maxSteps := 9000000) only [push_cast, ↓reduceIte, reduceCtorEq, Nat.reduceEqDiff, Nat.reduceAdd, Nat.reduceLeDiff, Nat.reduceLT, Nat.reduceSub, Int.reduceEq, Int.reduceNe, Int.reduceLT, Int.reduceLE, Int.reduceAdd, Int.reduceSub, Int.reduceMul, Int.reduceNeg, Int.reduceToNat, Nat.reduceMul]
  refine hK _ ?_; clear hK K
  refine VC.cond rfl rfl (fun hc0 => ?_) (fun hc0 => ?_)
  · exact absurd hc0 (by simp; omega)
  · refine VC.skip ?_
    refine VC.seqR tabOk [some 25, some 26, some 27, some 24, some 28, some 29, some 6, none, some 7] [0, 1, 6, 7] rfl rfl (fun K hK => ?_)
    simp (maxSteps := 9000000) only [push_cast, ↓reduceIte, reduceCtorEq, Nat.reduceEqDiff, Nat.reduceAdd, Nat.reduceLeDiff, Nat.reduceLT, Nat.reduceSub, Int.reduceEq, Int.reduceNe, Int.reduceLT, Int.reduceLE, Int.reduceAdd, Int.reduceSub, Int.reduceMul, Int.reduceNeg, Int.reduceToNat, Nat.reduceMul]
    refine callP (new_ctr ⟨2, cap, 1, 0⟩) rfl ?_
    simp (maxSteps := 9000000) only [push_cast, ↓reduceIte, reduceCtorEq, Nat.reduceEqDiff, Nat.reduceAdd, Nat.reduceLeDiff, Nat.reduceLT, Nat.reduceSub, Int.reduceEq, Int.reduceNe, Int.reduceLT, Int.reduceLE, Int.reduceAdd, Int.reduceSub, Int.reduceMul, Int.reduceNeg, Int.reduceToNat, Nat.reduceMul, hnew]
    refine hK _ ?_; clear hK K
    refine VC.seq ?_
    refine VC.seqR tabOk [some 30, some 31] [0, 1, 6, 31] rfl rfl (fun K hK => ?_)
    simp (maxSteps := 9000000) only [push_cast, ↓reduceIte, reduceCtorEq, Nat.reduceEqDiff, Nat.reduceAdd, Nat.reduceLeDiff, Nat.reduceLT, Nat.reduceSub, Int.reduceEq, Int.reduceNe, Int.reduceLT, Int.reduceLE, Int.reduceAdd, Int.reduceSub, Int.reduceMul, Int.reduceNeg, Int.reduceToNat, Nat.reduceMul]
    refine hK _ ?_; clear hK K
    refine VC.cond rfl rfl (fun hc1 => ?_) (fun hc1 => ?_)
    · refine VC.seqR tabOk [some 32, some 33, some 34, some 35, some 36, some 37, some 4] [4] rfl rfl (fun K hK => ?_)
      simp (maxSteps := 9000000) only [push_cast, ↓reduceIte, reduceCtorEq, Nat.reduceEqDiff, Nat.reduceAdd, Nat.reduceLeDiff, Nat.reduceLT, Nat.reduceSub, Int.reduceEq, Int.reduceNe, Int.reduceLT, Int.reduceLE, Int.reduceAdd, Int.reduceSub, Int.reduceMul, Int.reduceNeg, Int.reduceToNat, Nat.reduceMul, hbad]
      refine hK _ ?_; clear hK K
      refine VC.ret ?_
      refine Post.ret ?_ ?_ ?_
      · simp (maxSteps := 9000000) only [push_cast, ↓reduceIte, reduceCtorEq, Nat.reduceEqDiff, Nat.reduceAdd, Nat.reduceLeDiff, Nat.reduceLT, Nat.reduceSub, Int.reduceEq, Int.reduceNe, Int.reduceLT, Int.reduceLE, Int.reduceAdd, Int.reduceSub, Int.reduceMul, Int.reduceNeg, Int.reduceToNat, Nat.reduceMul]
      · simp (maxSteps := 9000000) only [push_cast, ↓reduceIte, reduceCtorEq, Nat.reduceEqDiff, Nat.reduceAdd, Nat.reduceLeDiff, Nat.reduceLT, Nat.reduceSub, Int.reduceEq, Int.reduceNe, Int.reduceLT, Int.reduceLE, Int.reduceAdd, Int.reduceSub, Int.reduceMul, Int.reduceNeg, Int.reduceToNat, Nat.reduceMul]
      · rfl
    · exact absurd hc1 (by simp)
theorem tableLru_ctr (cap : Int) (fl : Bool) (ks : List Nat) (hks : lt32 ks) : Ctr prog 4 [.raw (.int .i64 cap), .sl fl (ks.map encW)] [] (.raw (.bool true)) [] := by
  by_cases hl : ks.length ≤ 40
  · by_cases h : 1 ≤ cap ∧ cap ≤ 16
    · exact tableLru_ok cap fl ks hl hks h.1 h.2
    · exact tableLru_bad cap fl ks hl h
  · exact tableLru_long cap fl ks hl
end Go.Proofs.Ytpmnchgpbojppaa
