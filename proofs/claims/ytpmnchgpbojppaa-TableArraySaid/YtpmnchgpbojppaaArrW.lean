/- TableArray, walked by the abstract machine. -/
import Derived.Test.YtpmnchgpbojppaaArrP
set_option linter.unusedVariables false
set_option linter.unusedSimpArgs false
namespace Go.Proofs.Ytpmnchgpbojppaa
open Go Go.RowKit Go.Proofs.Try
theorem hmixA : prog.follows .mixedOrders = true := by kernel_rfl
set_option maxHeartbeats 4000000 in
set_option maxRecDepth 100000 in
theorem tableArray_ok (cap words : Int) (fl : Bool) (ks : List Nat) (hl : ks.length ≤ 40) (hks : lt32 ks) (h1 : 1 ≤ cap) (h2 : cap ≤ 16) (h3 : 1 ≤ words) (h4 : words ≤ 4) : Ctr prog 7 [.raw (.int .i64 cap), .raw (.int .i64 words), .sl fl (ks.map encW)] [] (.raw (.bool true)) [] := by
  obtain ⟨hnew, hA0⟩ := arr_new h1 h2 h3 h4
  obtain ⟨f, hf⟩ : ∃ f : Nat, (f : Int) = words - 1 := ⟨(words - 1).toNat, by omega⟩
  have hwf1 : IntKind.i64.wrap (words - 1) = (f : Int) := by rw [hf]; exact wrap_i64 (by omega) (by omega)
  have hwf2 : IntKind.u32.wrap (f : Int) = (f : Int) := by rw [IntKind.wrap_u32]; omega
  refine Ctr.of tabOk func7 rfl call7 0 _ ntmps7 [.tmp 6] rfl rfl rfl (fun B => ?_)
  refine VC.seqR tabOk [some 6] [0, 1, 2] rfl rfl (fun K hK => ?_)
  simp (maxSteps := 9000000) only [push_cast, ↓reduceIte, reduceCtorEq, Nat.reduceEqDiff, Nat.reduceAdd, Nat.reduceLeDiff, Nat.reduceLT, Nat.reduceSub, Int.reduceEq, Int.reduceNe, Int.reduceLT, Int.reduceLE, Int.reduceAdd, Int.reduceSub, Int.reduceMul, Int.reduceNeg, Int.reduceToNat, Nat.reduceMul]
  refine hK _ ?_; clear hK K
  refine VC.seqR tabOk [some 19, some 7] [0, 1, 2, 7] rfl rfl (fun K hK => ?_)
  simp (maxSteps := 9000000) only [push_cast, ↓reduceIte, reduceCtorEq, Nat.reduceEqDiff, Nat.reduceAdd, Nat.reduceLeDiff, Nat.reduceLT, Nat.reduceSub, Int.reduceEq, Int.reduceNe, Int.reduceLT, Int.reduceLE, Int.reduceAdd, Int.reduceSub, Int.reduceMul, Int.reduceNeg, Int.reduceToNat, Nat.reduceMul]
  refine callP (awake5_ctr) rfl ?_
  simp (maxSteps := 9000000) only [push_cast, ↓reduceIte, reduceCtorEq, Nat.reduceEqDiff, Nat.reduceAdd, Nat.reduceLeDiff, Nat.reduceLT, Nat.reduceSub, Int.reduceEq, Int.reduceNe, Int.reduceLT, Int.reduceLE, Int.reduceAdd, Int.reduceSub, Int.reduceMul, Int.reduceNeg, Int.reduceToNat, Nat.reduceMul]
  refine hK _ ?_; clear hK K
  refine VC.seqR tabOk [some 21, some 22, some 23, some 24, some 20, some 25, some 26, some 8, none, some 9] [0, 1, 2, 7, 8, 9] rfl rfl (fun K hK => ?_)
  simp (maxSteps := 9000000) only [push_cast, ↓reduceIte, reduceCtorEq, Nat.reduceEqDiff, Nat.reduceAdd, Nat.reduceLeDiff, Nat.reduceLT, Nat.reduceSub, Int.reduceEq, Int.reduceNe, Int.reduceLT, Int.reduceLE, Int.reduceAdd, Int.reduceSub, Int.reduceMul, Int.reduceNeg, Int.reduceToNat, Nat.reduceMul]
  refine callP (new_ctr ⟨0, cap, words, 0⟩) rfl ?_
  simp (maxSteps := 9000000) only [push_cast, ↓reduceIte, reduceCtorEq, Nat.reduceEqDiff, Nat.reduceAdd, Nat.reduceLeDiff, Nat.reduceLT, Nat.reduceSub, Int.reduceEq, Int.reduceNe, Int.reduceLT, Int.reduceLE, Int.reduceAdd, Int.reduceSub, Int.reduceMul, Int.reduceNeg, Int.reduceToNat, Nat.reduceMul, hnew]
  refine hK _ ?_; clear hK K
  refine VC.seq ?_
  refine VC.seqR tabOk [some 27, some 28, some 29, some 30, some 31, some 32, some 33, some 34, some 35, some 36, some 37] [0, 1, 2, 7, 8, 37] rfl rfl (fun K hK => ?_)
  simp (maxSteps := 9000000) only [push_cast, ↓reduceIte, reduceCtorEq, Nat.reduceEqDiff, Nat.reduceAdd, Nat.reduceLeDiff, Nat.reduceLT, Nat.reduceSub, Int.reduceEq, Int.reduceNe, Int.reduceLT, Int.reduceLE, Int.reduceAdd, Int.reduceSub, Int.reduceMul, Int.reduceNeg, Int.reduceToNat, Nat.reduceMul]
  refine hK _ ?_; clear hK K
  refine VC.cond rfl rfl (fun hc0 => ?_) (fun hc0 => ?_)
  · exact absurd hc0 (by simp; omega)
  · refine VC.skip ?_
    refine VC.seq ?_
    refine VC.seqR tabOk [some 10] [0, 1, 2, 8, 10] rfl rfl (fun K hK => ?_)
    simp (maxSteps := 9000000) only [push_cast, ↓reduceIte, reduceCtorEq, Nat.reduceEqDiff, Nat.reduceAdd, Nat.reduceLeDiff, Nat.reduceLT, Nat.reduceSub, Int.reduceEq, Int.reduceNe, Int.reduceLT, Int.reduceLE, Int.reduceAdd, Int.reduceSub, Int.reduceMul, Int.reduceNeg, Int.reduceToNat, Nat.reduceMul]
    refine hK _ ?_; clear hK K
    refine VC.block ?_
    refine VC.loopU (X := Nat) (fun i => [(10, .raw (.int .i64 (i : Int)))]) (fun _ => []) (fun i => (i : Int) ≤ cap) (fun i => cap.toNat - i) (0) (by show ((0 : Nat) : Int) ≤ cap; omega) ?_ ?_
    · refine Sub.of ?_ ?_ ⟨rfl, rfl, by simp⟩ rfl
      · simp (maxSteps := 9000000) only [push_cast, ↓reduceIte, reduceCtorEq, Nat.reduceEqDiff, Nat.reduceAdd, Nat.reduceLeDiff, Nat.reduceLT, Nat.reduceSub, Int.reduceEq, Int.reduceNe, Int.reduceLT, Int.reduceLE, Int.reduceAdd, Int.reduceSub, Int.reduceMul, Int.reduceNeg, Int.reduceToNat, Nat.reduceMul]
      · simp (maxSteps := 9000000) only [push_cast, ↓reduceIte, reduceCtorEq, Nat.reduceEqDiff, Nat.reduceAdd, Nat.reduceLeDiff, Nat.reduceLT, Nat.reduceSub, Int.reduceEq, Int.reduceNe, Int.reduceLT, Int.reduceLE, Int.reduceAdd, Int.reduceSub, Int.reduceMul, Int.reduceNeg, Int.reduceToNat, Nat.reduceMul]
    rintro i hi
    simp (maxSteps := 9000000) only [push_cast, ↓reduceIte, reduceCtorEq, Nat.reduceEqDiff, Nat.reduceAdd, Nat.reduceLeDiff, Nat.reduceLT, Nat.reduceSub, Int.reduceEq, Int.reduceNe, Int.reduceLT, Int.reduceLE, Int.reduceAdd, Int.reduceSub, Int.reduceMul, Int.reduceNeg, Int.reduceToNat, Nat.reduceMul]
    refine VC.seq ?_
    refine VC.seqR tabOk [some 39, some 40, some 41] [0, 1, 2, 8, 10, 41] rfl rfl (fun K hK => ?_)
    simp (maxSteps := 9000000) only [push_cast, ↓reduceIte, reduceCtorEq, Nat.reduceEqDiff, Nat.reduceAdd, Nat.reduceLeDiff, Nat.reduceLT, Nat.reduceSub, Int.reduceEq, Int.reduceNe, Int.reduceLT, Int.reduceLE, Int.reduceAdd, Int.reduceSub, Int.reduceMul, Int.reduceNeg, Int.reduceToNat, Nat.reduceMul]
    refine hK _ ?_; clear hK K
    refine VC.cond rfl rfl (fun hc1 => ?_) (fun hc1 => ?_)
    · have hlt : (i : Int) < cap := by simp at hc1; omega
      have hwi : IntKind.u32.wrap (i : Int) = (i : Int) := by rw [IntKind.wrap_u32]; omega
      have hw := wrap_succ (i := i) (by omega)
      have hg := arr_get0 h1 h2 h3 h4 (f := f) hlt (by omega)
      refine VC.skip ?_
      refine VC.seq ?_
      refine VC.block ?_
      refine VC.seqR tabOk [some 45, some 46, some 47, some 48, some 49, some 50, some 51, some 44, some 52, some 53, some 54, some 11, none, some 12, some 13] [0, 1, 2, 8, 10, 12, 13] rfl rfl (fun K hK => ?_)
      simp (maxSteps := 9000000) only [push_cast, ↓reduceIte, reduceCtorEq, Nat.reduceEqDiff, Nat.reduceAdd, Nat.reduceLeDiff, Nat.reduceLT, Nat.reduceSub, Int.reduceEq, Int.reduceNe, Int.reduceLT, Int.reduceLE, Int.reduceAdd, Int.reduceSub, Int.reduceMul, Int.reduceNeg, Int.reduceToNat, Nat.reduceMul, hwi, hwf1, hwf2]
      refine callP (get_ctr false ⟨⟨0, cap, words, 0⟩, newEs cap.toNat words.toNat, 0⟩ i f (by exact (by decide : 0 < 4294967296)) (by omega) (mayFits hA0.m) hA0.o) rfl ?_
      simp (maxSteps := 9000000) only [push_cast, ↓reduceIte, reduceCtorEq, Nat.reduceEqDiff, Nat.reduceAdd, Nat.reduceLeDiff, Nat.reduceLT, Nat.reduceSub, Int.reduceEq, Int.reduceNe, Int.reduceLT, Int.reduceLE, Int.reduceAdd, Int.reduceSub, Int.reduceMul, Int.reduceNeg, Int.reduceToNat, Nat.reduceMul, hwi, hwf1, hwf2, hg]
      refine hK _ ?_; clear hK K
      refine VC.seqR tabOk [some 55, some 56, some 57, some 58, some 59, some 60] [0, 1, 2, 8, 10, 60] rfl rfl (fun K hK => ?_)
      simp (maxSteps := 9000000) only [push_cast, ↓reduceIte, reduceCtorEq, Nat.reduceEqDiff, Nat.reduceAdd, Nat.reduceLeDiff, Nat.reduceLT, Nat.reduceSub, Int.reduceEq, Int.reduceNe, Int.reduceLT, Int.reduceLE, Int.reduceAdd, Int.reduceSub, Int.reduceMul, Int.reduceNeg, Int.reduceToNat, Nat.reduceMul]
      refine hK _ ?_; clear hK K
      refine VC.cond rfl rfl (fun hc2 => ?_) (fun hc2 => ?_)
      · exact absurd hc2 (by simp)
      · refine VC.skip ?_
        refine VC.lastR tabOk [some 42, some 43, some 10] rfl rfl (fun K hK => ?_)
        simp (maxSteps := 9000000) only [push_cast, ↓reduceIte, reduceCtorEq, Nat.reduceEqDiff, Nat.reduceAdd, Nat.reduceLeDiff, Nat.reduceLT, Nat.reduceSub, Int.reduceEq, Int.reduceNe, Int.reduceLT, Int.reduceLE, Int.reduceAdd, Int.reduceSub, Int.reduceMul, Int.reduceNeg, Int.reduceToNat, Nat.reduceMul]
        refine hK _ ?_; clear hK K
        refine Exists.intro (i + 1) ⟨(by show ((i + 1 : Nat) : Int) ≤ cap; omega), by omega, Sub.of ?_ ?_ ⟨rfl, rfl, by simp⟩ rfl⟩
        · simp (maxSteps := 9000000) only [push_cast, ↓reduceIte, reduceCtorEq, Nat.reduceEqDiff, Nat.reduceAdd, Nat.reduceLeDiff, Nat.reduceLT, Nat.reduceSub, Int.reduceEq, Int.reduceNe, Int.reduceLT, Int.reduceLE, Int.reduceAdd, Int.reduceSub, Int.reduceMul, Int.reduceNeg, Int.reduceToNat, Nat.reduceMul, hw]
        · simp (maxSteps := 9000000) only [push_cast, ↓reduceIte, reduceCtorEq, Nat.reduceEqDiff, Nat.reduceAdd, Nat.reduceLeDiff, Nat.reduceLT, Nat.reduceSub, Int.reduceEq, Int.reduceNe, Int.reduceLT, Int.reduceLE, Int.reduceAdd, Int.reduceSub, Int.reduceMul, Int.reduceNeg, Int.reduceToNat, Nat.reduceMul, hw]
    · have hge : (i : Int) = cap := by simp at hc1; omega
      refine VC.exit ?_
      refine VC.seq ?_
      refine VC.seqR tabOk [some 14] [0, 2, 8, 14] rfl rfl (fun K hK => ?_)
      simp (maxSteps := 9000000) only [push_cast, ↓reduceIte, reduceCtorEq, Nat.reduceEqDiff, Nat.reduceAdd, Nat.reduceLeDiff, Nat.reduceLT, Nat.reduceSub, Int.reduceEq, Int.reduceNe, Int.reduceLT, Int.reduceLE, Int.reduceAdd, Int.reduceSub, Int.reduceMul, Int.reduceNeg, Int.reduceToNat, Nat.reduceMul]
      refine hK _ ?_; clear hK K
      refine VC.block ?_
      refine VC.loopU (X := Nat × Tab) (fun x => [(14, .raw (.int .i64 (x.1 : Int)))]) (fun x => [(10, .box 27 (cellsTab false x.2))]) (fun x => x.1 ≤ ks.length ∧ ArrT cap words x.2) (fun x => ks.length - x.1) ((0, ⟨⟨0, cap, words, 0⟩, newEs cap.toNat words.toNat, 0⟩)) ⟨Nat.zero_le _, hA0⟩ ?_ ?_
      · refine Sub.of ?_ ?_ ⟨rfl, rfl, by simp⟩ rfl
        · simp (maxSteps := 9000000) only [push_cast, ↓reduceIte, reduceCtorEq, Nat.reduceEqDiff, Nat.reduceAdd, Nat.reduceLeDiff, Nat.reduceLT, Nat.reduceSub, Int.reduceEq, Int.reduceNe, Int.reduceLT, Int.reduceLE, Int.reduceAdd, Int.reduceSub, Int.reduceMul, Int.reduceNeg, Int.reduceToNat, Nat.reduceMul]
        · simp (maxSteps := 9000000) only [push_cast, ↓reduceIte, reduceCtorEq, Nat.reduceEqDiff, Nat.reduceAdd, Nat.reduceLeDiff, Nat.reduceLT, Nat.reduceSub, Int.reduceEq, Int.reduceNe, Int.reduceLT, Int.reduceLE, Int.reduceAdd, Int.reduceSub, Int.reduceMul, Int.reduceNeg, Int.reduceToNat, Nat.reduceMul]
      rintro ⟨j, t⟩ ⟨hj, hT⟩
      simp only at hj hT
      simp (maxSteps := 9000000) only [push_cast, ↓reduceIte, reduceCtorEq, Nat.reduceEqDiff, Nat.reduceAdd, Nat.reduceLeDiff, Nat.reduceLT, Nat.reduceSub, Int.reduceEq, Int.reduceNe, Int.reduceLT, Int.reduceLE, Int.reduceAdd, Int.reduceSub, Int.reduceMul, Int.reduceNeg, Int.reduceToNat, Nat.reduceMul]
      refine VC.seq ?_
      refine VC.seqR tabOk [some 61, some 62, some 63, some 64] [0, 2, 8, 14, 64] rfl rfl (fun K hK => ?_)
      simp (maxSteps := 9000000) only [push_cast, ↓reduceIte, reduceCtorEq, Nat.reduceEqDiff, Nat.reduceAdd, Nat.reduceLeDiff, Nat.reduceLT, Nat.reduceSub, Int.reduceEq, Int.reduceNe, Int.reduceLT, Int.reduceLE, Int.reduceAdd, Int.reduceSub, Int.reduceMul, Int.reduceNeg, Int.reduceToNat, Nat.reduceMul]
      refine hK _ ?_; clear hK K
      refine VC.cond rfl rfl (fun hc3 => ?_) (fun hc3 => ?_)
      · have hlt : j < ks.length := by simp at hc3; omega
        obtain ⟨k, hk⟩ : ∃ k, ks[j]? = some k := ⟨_, List.getElem?_eq_getElem hlt⟩
        have hk32 : k < 4294967296 := hks k (List.mem_of_getElem? hk)
        have hwj : IntKind.u32.wrap (j : Int) = (j : Int) := by rw [IntKind.wrap_u32]; omega
        have hwk : IntKind.i64.wrap (k : Int) = (k : Int) := wrap_i64 (by omega) (by omega)
        have hw := wrap_succ (i := j) (by omega)
        by_cases hkc : (k : Int) < cap
        · obtain ⟨e1, e2, e3⟩ := arr_in (x := j) hT hkc (by omega)
          refine VC.skip ?_
          refine VC.seq ?_
          refine VC.block ?_
          refine VC.seqD tabOk hmixA [some 68, some 69, some 70, some 71, some 72, some 73, some 74, some 75, some 67, some 76, some 77, some 15, none, some 16] [0, 2, 8, 14, 15, 16] rfl rfl rfl (fun K hK => ?_)
          simp (maxSteps := 9000000) only [push_cast, ↓reduceIte, reduceCtorEq, Nat.reduceEqDiff, Nat.reduceAdd, Nat.reduceLeDiff, Nat.reduceLT, Nat.reduceSub, Int.reduceEq, Int.reduceNe, Int.reduceLT, Int.reduceLE, Int.reduceAdd, Int.reduceSub, Int.reduceMul, Int.reduceNeg, Int.reduceToNat, Nat.reduceMul, hlt, hk, hwj]
          refine callPD (set_ctr false t k 0 j (by rw [hT.n]; decide) (by decide) hk32 (by omega) (mayFits hT.m) hT.o) rfl ?_
          simp (maxSteps := 9000000) only [push_cast, ↓reduceIte, reduceCtorEq, Nat.reduceEqDiff, Nat.reduceAdd, Nat.reduceLeDiff, Nat.reduceLT, Nat.reduceSub, Int.reduceEq, Int.reduceNe, Int.reduceLT, Int.reduceLE, Int.reduceAdd, Int.reduceSub, Int.reduceMul, Int.reduceNeg, Int.reduceToNat, Nat.reduceMul, hlt, hk, hwj, hlt, hk, hwj, e1]
          refine ⟨rfl, hK _ ?_⟩; clear hK K
          refine VC.seqD tabOk hmixA [some 79, some 80, some 81, some 82, some 83, some 84, some 78, some 85, some 86, some 17, none, some 18] [0, 2, 8, 14, 15, 16, 18] rfl rfl rfl (fun K hK => ?_)
          simp (maxSteps := 9000000) only [push_cast, ↓reduceIte, reduceCtorEq, Nat.reduceEqDiff, Nat.reduceAdd, Nat.reduceLeDiff, Nat.reduceLT, Nat.reduceSub, Int.reduceEq, Int.reduceNe, Int.reduceLT, Int.reduceLE, Int.reduceAdd, Int.reduceSub, Int.reduceMul, Int.reduceNeg, Int.reduceToNat, Nat.reduceMul, hlt, hk]
          refine callPD (del_ctr false t k (by rw [hT.n]; decide) (mayFits hT.m) hT.o) rfl ?_
          simp (maxSteps := 9000000) only [push_cast, ↓reduceIte, reduceCtorEq, Nat.reduceEqDiff, Nat.reduceAdd, Nat.reduceLeDiff, Nat.reduceLT, Nat.reduceSub, Int.reduceEq, Int.reduceNe, Int.reduceLT, Int.reduceLE, Int.reduceAdd, Int.reduceSub, Int.reduceMul, Int.reduceNeg, Int.reduceToNat, Nat.reduceMul, hlt, hk, hlt, hk, e3]
          refine ⟨rfl, hK _ ?_⟩; clear hK K
          refine VC.seq ?_
          refine VC.seqR tabOk [some 87, some 88, some 89, some 90, some 91, some 92, some 93, some 94, some 95, some 96, some 97, some 98, some 99, some 100, some 101, some 102, some 103, some 104, some 105, some 106, some 107, some 108, some 109, some 110] [0, 2, 8, 14, 15, 16, 110] rfl rfl (fun K hK => ?_)
          simp (maxSteps := 9000000) only [push_cast, ↓reduceIte, reduceCtorEq, Nat.reduceEqDiff, Nat.reduceAdd, Nat.reduceLeDiff, Nat.reduceLT, Nat.reduceSub, Int.reduceEq, Int.reduceNe, Int.reduceLT, Int.reduceLE, Int.reduceAdd, Int.reduceSub, Int.reduceMul, Int.reduceNeg, Int.reduceToNat, Nat.reduceMul, hlt, hk, hwk, hkc]
          refine hK _ ?_; clear hK K
          refine VC.cond rfl rfl (fun hc4 => ?_) (fun hc4 => ?_)
          · exact absurd hc4 (by simp)
          · refine VC.skip ?_
            refine VC.seqR tabOk [some 111, some 112] [0, 2, 8, 14, 15, 112] rfl rfl (fun K hK => ?_)
            simp (maxSteps := 9000000) only [push_cast, ↓reduceIte, reduceCtorEq, Nat.reduceEqDiff, Nat.reduceAdd, Nat.reduceLeDiff, Nat.reduceLT, Nat.reduceSub, Int.reduceEq, Int.reduceNe, Int.reduceLT, Int.reduceLE, Int.reduceAdd, Int.reduceSub, Int.reduceMul, Int.reduceNeg, Int.reduceToNat, Nat.reduceMul]
            refine hK _ ?_; clear hK K
            refine VC.cond rfl rfl (fun hc5 => ?_) (fun hc5 => ?_)
            · refine VC.lastR tabOk [some 113, none] rfl rfl (fun K hK => ?_)
              simp (maxSteps := 9000000) only [push_cast, ↓reduceIte, reduceCtorEq, Nat.reduceEqDiff, Nat.reduceAdd, Nat.reduceLeDiff, Nat.reduceLT, Nat.reduceSub, Int.reduceEq, Int.reduceNe, Int.reduceLT, Int.reduceLE, Int.reduceAdd, Int.reduceSub, Int.reduceMul, Int.reduceNeg, Int.reduceToNat, Nat.reduceMul]
              refine hK _ ?_; clear hK K
              refine VC.lastR tabOk [some 65, some 66, some 14] rfl rfl (fun K hK => ?_)
              simp (maxSteps := 9000000) only [push_cast, ↓reduceIte, reduceCtorEq, Nat.reduceEqDiff, Nat.reduceAdd, Nat.reduceLeDiff, Nat.reduceLT, Nat.reduceSub, Int.reduceEq, Int.reduceNe, Int.reduceLT, Int.reduceLE, Int.reduceAdd, Int.reduceSub, Int.reduceMul, Int.reduceNeg, Int.reduceToNat, Nat.reduceMul]
              refine hK _ ?_; clear hK K
              refine Exists.intro ((j + 1, (t.set k 0 j).1)) ⟨⟨(by show j + 1 ≤ ks.length; omega), e2⟩, (by show ks.length - (j + 1) < ks.length - j; omega), Sub.of ?_ ?_ ⟨rfl, rfl, by simp⟩ rfl⟩
              · simp (maxSteps := 9000000) only [push_cast, ↓reduceIte, reduceCtorEq, Nat.reduceEqDiff, Nat.reduceAdd, Nat.reduceLeDiff, Nat.reduceLT, Nat.reduceSub, Int.reduceEq, Int.reduceNe, Int.reduceLT, Int.reduceLE, Int.reduceAdd, Int.reduceSub, Int.reduceMul, Int.reduceNeg, Int.reduceToNat, Nat.reduceMul, hw]
              · simp (maxSteps := 9000000) only [push_cast, ↓reduceIte, reduceCtorEq, Nat.reduceEqDiff, Nat.reduceAdd, Nat.reduceLeDiff, Nat.reduceLT, Nat.reduceSub, Int.reduceEq, Int.reduceNe, Int.reduceLT, Int.reduceLE, Int.reduceAdd, Int.reduceSub, Int.reduceMul, Int.reduceNeg, Int.reduceToNat, Nat.reduceMul, hw]
            · exact absurd hc5 (by simp)
        · obtain ⟨e1, e3⟩ := arr_out (x := j) hT hkc
          refine VC.skip ?_
          refine VC.seq ?_
          refine VC.block ?_
          refine VC.seqD tabOk hmixA [some 68, some 69, some 70, some 71, some 72, some 73, some 74, some 75, some 67, some 76, some 77, some 15, none, some 16] [0, 2, 8, 14, 15, 16] rfl rfl rfl (fun K hK => ?_)
          simp (maxSteps := 9000000) only [push_cast, ↓reduceIte, reduceCtorEq, Nat.reduceEqDiff, Nat.reduceAdd, Nat.reduceLeDiff, Nat.reduceLT, Nat.reduceSub, Int.reduceEq, Int.reduceNe, Int.reduceLT, Int.reduceLE, Int.reduceAdd, Int.reduceSub, Int.reduceMul, Int.reduceNeg, Int.reduceToNat, Nat.reduceMul, hlt, hk, hwj]
          refine callPD (set_ctr false t k 0 j (by rw [hT.n]; decide) (by decide) hk32 (by omega) (mayFits hT.m) hT.o) rfl ?_
          simp (maxSteps := 9000000) only [push_cast, ↓reduceIte, reduceCtorEq, Nat.reduceEqDiff, Nat.reduceAdd, Nat.reduceLeDiff, Nat.reduceLT, Nat.reduceSub, Int.reduceEq, Int.reduceNe, Int.reduceLT, Int.reduceLE, Int.reduceAdd, Int.reduceSub, Int.reduceMul, Int.reduceNeg, Int.reduceToNat, Nat.reduceMul, hlt, hk, hwj, hlt, hk, hwj, e1]
          refine ⟨rfl, hK _ ?_⟩; clear hK K
          refine VC.seqD tabOk hmixA [some 79, some 80, some 81, some 82, some 83, some 84, some 78, some 85, some 86, some 17, none, some 18] [0, 2, 8, 14, 15, 16, 18] rfl rfl rfl (fun K hK => ?_)
          simp (maxSteps := 9000000) only [push_cast, ↓reduceIte, reduceCtorEq, Nat.reduceEqDiff, Nat.reduceAdd, Nat.reduceLeDiff, Nat.reduceLT, Nat.reduceSub, Int.reduceEq, Int.reduceNe, Int.reduceLT, Int.reduceLE, Int.reduceAdd, Int.reduceSub, Int.reduceMul, Int.reduceNeg, Int.reduceToNat, Nat.reduceMul, hlt, hk]
          refine callPD (del_ctr false t k (by rw [hT.n]; decide) (mayFits hT.m) hT.o) rfl ?_
          simp (maxSteps := 9000000) only [push_cast, ↓reduceIte, reduceCtorEq, Nat.reduceEqDiff, Nat.reduceAdd, Nat.reduceLeDiff, Nat.reduceLT, Nat.reduceSub, Int.reduceEq, Int.reduceNe, Int.reduceLT, Int.reduceLE, Int.reduceAdd, Int.reduceSub, Int.reduceMul, Int.reduceNeg, Int.reduceToNat, Nat.reduceMul, hlt, hk, hlt, hk, e3]
          refine ⟨rfl, hK _ ?_⟩; clear hK K
          refine VC.seq ?_
          refine VC.seqR tabOk [some 87, some 88, some 89, some 90, some 91, some 92, some 93, some 94, some 95, some 96, some 97, some 98, some 99, some 100, some 101, some 102, some 103, some 104, some 105, some 106, some 107, some 108, some 109, some 110] [0, 2, 8, 14, 15, 16, 110] rfl rfl (fun K hK => ?_)
          simp (maxSteps := 9000000) only [push_cast, ↓reduceIte, reduceCtorEq, Nat.reduceEqDiff, Nat.reduceAdd, Nat.reduceLeDiff, Nat.reduceLT, Nat.reduceSub, Int.reduceEq, Int.reduceNe, Int.reduceLT, Int.reduceLE, Int.reduceAdd, Int.reduceSub, Int.reduceMul, Int.reduceNeg, Int.reduceToNat, Nat.reduceMul, hlt, hk, hwk, hkc]
          refine hK _ ?_; clear hK K
          refine VC.cond rfl rfl (fun hc4 => ?_) (fun hc4 => ?_)
          · exact absurd hc4 (by simp)
          · refine VC.skip ?_
            refine VC.seqR tabOk [some 111, some 112] [0, 2, 8, 14, 15, 112] rfl rfl (fun K hK => ?_)
            simp (maxSteps := 9000000) only [push_cast, ↓reduceIte, reduceCtorEq, Nat.reduceEqDiff, Nat.reduceAdd, Nat.reduceLeDiff, Nat.reduceLT, Nat.reduceSub, Int.reduceEq, Int.reduceNe, Int.reduceLT, Int.reduceLE, Int.reduceAdd, Int.reduceSub, Int.reduceMul, Int.reduceNeg, Int.reduceToNat, Nat.reduceMul]
            refine hK _ ?_; clear hK K
            refine VC.cond rfl rfl (fun hc5 => ?_) (fun hc5 => ?_)
            · exact absurd hc5 (by simp)
            · refine VC.skip ?_
              refine VC.lastR tabOk [some 65, some 66, some 14] rfl rfl (fun K hK => ?_)
              simp (maxSteps := 9000000) only [push_cast, ↓reduceIte, reduceCtorEq, Nat.reduceEqDiff, Nat.reduceAdd, Nat.reduceLeDiff, Nat.reduceLT, Nat.reduceSub, Int.reduceEq, Int.reduceNe, Int.reduceLT, Int.reduceLE, Int.reduceAdd, Int.reduceSub, Int.reduceMul, Int.reduceNeg, Int.reduceToNat, Nat.reduceMul]
              refine hK _ ?_; clear hK K
              refine Exists.intro ((j + 1, t)) ⟨⟨(by show j + 1 ≤ ks.length; omega), hT⟩, (by show ks.length - (j + 1) < ks.length - j; omega), Sub.of ?_ ?_ ⟨rfl, rfl, by simp⟩ rfl⟩
              · simp (maxSteps := 9000000) only [push_cast, ↓reduceIte, reduceCtorEq, Nat.reduceEqDiff, Nat.reduceAdd, Nat.reduceLeDiff, Nat.reduceLT, Nat.reduceSub, Int.reduceEq, Int.reduceNe, Int.reduceLT, Int.reduceLE, Int.reduceAdd, Int.reduceSub, Int.reduceMul, Int.reduceNeg, Int.reduceToNat, Nat.reduceMul, hw]
              · simp (maxSteps := 9000000) only [push_cast, ↓reduceIte, reduceCtorEq, Nat.reduceEqDiff, Nat.reduceAdd, Nat.reduceLeDiff, Nat.reduceLT, Nat.reduceSub, Int.reduceEq, Int.reduceNe, Int.reduceLT, Int.reduceLE, Int.reduceAdd, Int.reduceSub, Int.reduceMul, Int.reduceNeg, Int.reduceToNat, Nat.reduceMul, hw]
      · have hge2 : j = ks.length := by simp at hc3; omega
        refine VC.exit ?_
        refine VC.seqR tabOk [some 114, some 115, some 116, some 117, some 118, some 119, some 120, some 121, some 122, some 6] [6] rfl rfl (fun K hK => ?_)
        simp (maxSteps := 9000000) only [push_cast, ↓reduceIte, reduceCtorEq, Nat.reduceEqDiff, Nat.reduceAdd, Nat.reduceLeDiff, Nat.reduceLT, Nat.reduceSub, Int.reduceEq, Int.reduceNe, Int.reduceLT, Int.reduceLE, Int.reduceAdd, Int.reduceSub, Int.reduceMul, Int.reduceNeg, Int.reduceToNat, Nat.reduceMul, (arr_facts hT).1]
        refine callG (fun hg => may_ctr false t (by rw [hT.n]; decide) hT.o) rfl ?_
        simp (maxSteps := 9000000) only [push_cast, ↓reduceIte, reduceCtorEq, Nat.reduceEqDiff, Nat.reduceAdd, Nat.reduceLeDiff, Nat.reduceLT, Nat.reduceSub, Int.reduceEq, Int.reduceNe, Int.reduceLT, Int.reduceLE, Int.reduceAdd, Int.reduceSub, Int.reduceMul, Int.reduceNeg, Int.reduceToNat, Nat.reduceMul, (arr_facts hT).1, hT.m]
        refine hK _ ?_; clear hK K
        refine VC.ret ?_
        refine Post.ret ?_ ?_ ?_
        · simp (maxSteps := 9000000) only [push_cast, ↓reduceIte, reduceCtorEq, Nat.reduceEqDiff, Nat.reduceAdd, Nat.reduceLeDiff, Nat.reduceLT, Nat.reduceSub, Int.reduceEq, Int.reduceNe, Int.reduceLT, Int.reduceLE, Int.reduceAdd, Int.reduceSub, Int.reduceMul, Int.reduceNeg, Int.reduceToNat, Nat.reduceMul]
        · simp (maxSteps := 9000000) only [push_cast, ↓reduceIte, reduceCtorEq, Nat.reduceEqDiff, Nat.reduceAdd, Nat.reduceLeDiff, Nat.reduceLT, Nat.reduceSub, Int.reduceEq, Int.reduceNe, Int.reduceLT, Int.reduceLE, Int.reduceAdd, Int.reduceSub, Int.reduceMul, Int.reduceNeg, Int.reduceToNat, Nat.reduceMul]
        · rfl
set_option maxHeartbeats 4000000 in
set_option maxRecDepth 100000 in
theorem tableArray_long (cap words : Int) (fl : Bool) (ks : List Nat) (hl : ¬ ks.length ≤ 40) (h1 : 1 ≤ cap) (h2 : cap ≤ 16) (h3 : 1 ≤ words) (h4 : words ≤ 4) : Ctr prog 7 [.raw (.int .i64 cap), .raw (.int .i64 words), .sl fl (ks.map encW)] [] (.raw (.bool true)) [] := by
  obtain ⟨hnew, hA0⟩ := arr_new h1 h2 h3 h4
  refine Ctr.of tabOk func7 rfl call7 0 _ ntmps7 [.tmp 6] rfl rfl rfl (fun B => ?_)
  refine VC.seqR tabOk [some 6] [0, 1, 2] rfl rfl (fun K hK => ?_)
  simp (maxSteps := 9000000) only [push_cast, ↓reduceIte, reduceCtorEq, Nat.reduceEqDiff, Nat.reduceAdd, Nat.reduceLeDiff, Nat.reduceLT, Nat.reduceSub, Int.reduceEq, Int.reduceNe, Int.reduceLT, Int.reduceLE, Int.reduceAdd, Int.reduceSub, Int.reduceMul, Int.reduceNeg, Int.reduceToNat, Nat.reduceMul]
  refine hK _ ?_; clear hK K
  refine VC.seqR tabOk [some 19, some 7] [0, 1, 2, 7] rfl rfl (fun K hK => ?_)
  simp (maxSteps := 9000000) only [push_cast, ↓reduceIte, reduceCtorEq, Nat.reduceEqDiff, Nat.reduceAdd, Nat.reduceLeDiff, Nat.reduceLT, Nat.reduceSub, Int.reduceEq, Int.reduceNe, Int.reduceLT, Int.reduceLE, Int.reduceAdd, Int.reduceSub, Int.reduceMul, Int.reduceNeg, Int.reduceToNat, Nat.reduceMul]
  refine callP (awake5_ctr) rfl ?_
  simp (maxSteps := 9000000) only [push_cast, ↓reduceIte, reduceCtorEq, Nat.reduceEqDiff, Nat.reduceAdd, Nat.reduceLeDiff, Nat.reduceLT, Nat.reduceSub, Int.reduceEq, Int.reduceNe, Int.reduceLT, Int.reduceLE, Int.reduceAdd, Int.reduceSub, Int.reduceMul, Int.reduceNeg, Int.reduceToNat, Nat.reduceMul]
  refine hK _ ?_; clear hK K
  refine VC.seqR tabOk [some 21, some 22, some 23, some 24, some 20, some 25, some 26, some 8, none, some 9] [0, 1, 2, 7, 8, 9] rfl rfl (fun K hK => ?_)
  simp (maxSteps := 9000000) only [push_cast, ↓reduceIte, reduceCtorEq, Nat.reduceEqDiff, Nat.reduceAdd, Nat.reduceLeDiff, Nat.reduceLT, Nat.reduceSub, Int.reduceEq, Int.reduceNe, Int.reduceLT, Int.reduceLE, Int.reduceAdd, Int.reduceSub, Int.reduceMul, Int.reduceNeg, Int.reduceToNat, Nat.reduceMul]
  refine callP (new_ctr ⟨0, cap, words, 0⟩) rfl ?_
  simp (maxSteps := 9000000) only [push_cast, ↓reduceIte, reduceCtorEq, Nat.reduceEqDiff, Nat.reduceAdd, Nat.reduceLeDiff, Nat.reduceLT, Nat.reduceSub, Int.reduceEq, Int.reduceNe, Int.reduceLT, Int.reduceLE, Int.reduceAdd, Int.reduceSub, Int.reduceMul, Int.reduceNeg, Int.reduceToNat, Nat.reduceMul, hnew]
  refine hK _ ?_; clear hK K
  refine VC.seq ?_
  refine VC.seqR tabOk [some 27, some 28, some 29, some 30, some 31, some 32, some 33, some 34, some 35, some 36, some 37] [0, 1, 2, 7, 8, 37] rfl rfl (fun K hK => ?_)
  simp (maxSteps := 9000000) only [push_cast, ↓reduceIte, reduceCtorEq, Nat.reduceEqDiff, Nat.reduceAdd, Nat.reduceLeDiff, Nat.reduceLT, Nat.reduceSub, Int.reduceEq, Int.reduceNe, Int.reduceLT, Int.reduceLE, Int.reduceAdd, Int.reduceSub, Int.reduceMul, Int.reduceNeg, Int.reduceToNat, Nat.reduceMul]
  refine hK _ ?_; clear hK K
  refine VC.cond rfl rfl (fun hc0 => ?_) (fun hc0 => ?_)
  · refine VC.seqR tabOk [some 38, some 6] [6] rfl rfl (fun K hK => ?_)
    simp (maxSteps := 9000000) only [push_cast, ↓reduceIte, reduceCtorEq, Nat.reduceEqDiff, Nat.reduceAdd, Nat.reduceLeDiff, Nat.reduceLT, Nat.reduceSub, Int.reduceEq, Int.reduceNe, Int.reduceLT, Int.reduceLE, Int.reduceAdd, Int.reduceSub, Int.reduceMul, Int.reduceNeg, Int.reduceToNat, Nat.reduceMul]
    refine hK _ ?_; clear hK K
    refine VC.ret ?_
    refine Post.ret ?_ ?_ ?_
    · simp (maxSteps := 9000000) only [push_cast, ↓reduceIte, reduceCtorEq, Nat.reduceEqDiff, Nat.reduceAdd, Nat.reduceLeDiff, Nat.reduceLT, Nat.reduceSub, Int.reduceEq, Int.reduceNe, Int.reduceLT, Int.reduceLE, Int.reduceAdd, Int.reduceSub, Int.reduceMul, Int.reduceNeg, Int.reduceToNat, Nat.reduceMul]
    · simp (maxSteps := 9000000) only [push_cast, ↓reduceIte, reduceCtorEq, Nat.reduceEqDiff, Nat.reduceAdd, Nat.reduceLeDiff, Nat.reduceLT, Nat.reduceSub, Int.reduceEq, Int.reduceNe, Int.reduceLT, Int.reduceLE, Int.reduceAdd, Int.reduceSub, Int.reduceMul, Int.reduceNeg, Int.reduceToNat, Nat.reduceMul]
    · rfl
  · exact absurd hc0 (by simp; omega)
set_option maxHeartbeats 4000000 in
set_option maxRecDepth 100000 in
theorem tableArray_bad (cap words : Int) (fl : Bool) (ks : List Nat) (h : ¬ (1 ≤ cap ∧ cap ≤ 16 ∧ 1 ≤ words ∧ words ≤ 4)) : Ctr prog 7 [.raw (.int .i64 cap), .raw (.int .i64 words), .sl fl (ks.map encW)] [] (.raw (.bool true)) [] := by
  have hnew : Tab.new ⟨0, cap, words, 0⟩ = (Tab.zero, 1) := by
    have hm : (⟨0, cap, words, 0⟩ : Sch).may = false := by
      cases hc : (⟨0, cap, words, 0⟩ : Sch).may with
      | false => rfl
      | true => exact absurd ⟨(Sch.may_bounds hc).2.2.1, (Sch.may_bounds hc).2.2.2.1, (Sch.may_bounds hc).2.2.2.2.1, (Sch.may_bounds hc).2.2.2.2.2.1⟩ h
    unfold Tab.new
    rw [if_pos hm]
  refine Ctr.of tabOk func7 rfl call7 0 _ ntmps7 [.tmp 6] rfl rfl rfl (fun B => ?_)
  refine VC.seqR tabOk [some 6] [0, 1, 2] rfl rfl (fun K hK => ?_)
  simp (maxSteps := 9000000) only [push_cast, ↓reduceIte, reduceCtorEq, Nat.reduceEqDiff, Nat.reduceAdd, Nat.reduceLeDiff, Nat.reduceLT, Nat.reduceSub, Int.reduceEq, Int.reduceNe, Int.reduceLT, Int.reduceLE, Int.reduceAdd, Int.reduceSub, Int.reduceMul, Int.reduceNeg, Int.reduceToNat, Nat.reduceMul]
  refine hK _ ?_; clear hK K
  refine VC.seqR tabOk [some 19, some 7] [0, 1, 2, 7] rfl rfl (fun K hK => ?_)
  simp (maxSteps := 9000000) only [push_cast, ↓reduceIte, reduceCtorEq, Nat.reduceEqDiff, Nat.reduceAdd, Nat.reduceLeDiff, Nat.reduceLT, Nat.reduceSub, Int.reduceEq, Int.reduceNe, Int.reduceLT, Int.reduceLE, Int.reduceAdd, Int.reduceSub, Int.reduceMul, Int.reduceNeg, Int.reduceToNat, Nat.reduceMul]
  refine callP (awake5_ctr) rfl ?_
  simp (maxSteps := 9000000) only [push_cast, ↓reduceIte, reduceCtorEq, Nat.reduceEqDiff, Nat.reduceAdd, Nat.reduceLeDiff, Nat.reduceLT, Nat.reduceSub, Int.reduceEq, Int.reduceNe, Int.reduceLT, Int.reduceLE, Int.reduceAdd, Int.reduceSub, Int.reduceMul, Int.reduceNeg, Int.reduceToNat, Nat.reduceMul]
  refine hK _ ?_; clear hK K
  refine VC.seqR tabOk [some 21, some 22, some 23, some 24, some 20, some 25, some 26, some 8, none, some 9] [0, 1, 2, 7, 8, 9] rfl rfl (fun K hK => ?_)
  simp (maxSteps := 9000000) only [push_cast, ↓reduceIte, reduceCtorEq, Nat.reduceEqDiff, Nat.reduceAdd, Nat.reduceLeDiff, Nat.reduceLT, Nat.reduceSub, Int.reduceEq, Int.reduceNe, Int.reduceLT, Int.reduceLE, Int.reduceAdd, Int.reduceSub, Int.reduceMul, Int.reduceNeg, Int.reduceToNat, Nat.reduceMul]
  refine callP (new_ctr ⟨0, cap, words, 0⟩) rfl ?_
  simp (maxSteps := 9000000) only [push_cast, ↓reduceIte, reduceCtorEq, Nat.reduceEqDiff, Nat.reduceAdd, Nat.reduceLeDiff, Nat.reduceLT, Nat.reduceSub, Int.reduceEq, Int.reduceNe, Int.reduceLT, Int.reduceLE, Int.reduceAdd, Int.reduceSub, Int.reduceMul, Int.reduceNeg, Int.reduceToNat, Nat.reduceMul, hnew]
  refine hK _ ?_; clear hK K
  refine VC.seq ?_
  refine VC.seqR tabOk [some 27, some 28, some 29, some 30, some 31, some 32, some 33, some 34, some 35, some 36, some 37] [0, 1, 2, 7, 8, 37] rfl rfl (fun K hK => ?_)
  simp (maxSteps := 9000000) only [push_cast, ↓reduceIte, reduceCtorEq, Nat.reduceEqDiff, Nat.reduceAdd, Nat.reduceLeDiff, Nat.reduceLT, Nat.reduceSub, Int.reduceEq, Int.reduceNe, Int.reduceLT, Int.reduceLE, Int.reduceAdd, Int.reduceSub, Int.reduceMul, Int.reduceNeg, Int.reduceToNat, Nat.reduceMul]
  refine hK _ ?_; clear hK K
  refine VC.cond rfl rfl (fun hc0 => ?_) (fun hc0 => ?_)
  · refine VC.seqR tabOk [some 38, some 6] [6] rfl rfl (fun K hK => ?_)
    simp (maxSteps := 9000000) only [push_cast, ↓reduceIte, reduceCtorEq, Nat.reduceEqDiff, Nat.reduceAdd, Nat.reduceLeDiff, Nat.reduceLT, Nat.reduceSub, Int.reduceEq, Int.reduceNe, Int.reduceLT, Int.reduceLE, Int.reduceAdd, Int.reduceSub, Int.reduceMul, Int.reduceNeg, Int.reduceToNat, Nat.reduceMul]
    refine hK _ ?_; clear hK K
    refine VC.ret ?_
    refine Post.ret ?_ ?_ ?_
    · simp (maxSteps := 9000000) only [push_cast, ↓reduceIte, reduceCtorEq, Nat.reduceEqDiff, Nat.reduceAdd, Nat.reduceLeDiff, Nat.reduceLT, Nat.reduceSub, Int.reduceEq, Int.reduceNe, Int.reduceLT, Int.reduceLE, Int.reduceAdd, Int.reduceSub, Int.reduceMul, Int.reduceNeg, Int.reduceToNat, Nat.reduceMul]
    · simp (maxSteps := 9000000) only [push_cast, ↓reduceIte, reduceCtorEq, Nat.reduceEqDiff, Nat.reduceAdd, Nat.reduceLeDiff, Nat.reduceLT, Nat.reduceSub, Int.reduceEq, Int.reduceNe, Int.reduceLT, Int.reduceLE, Int.reduceAdd, Int.reduceSub, Int.reduceMul, Int.reduceNeg, Int.reduceToNat, Nat.reduceMul]
    · rfl
  · exact absurd hc0 (by simp)
theorem tableArray_ctr (cap words : Int) (fl : Bool) (ks : List Nat) (hks : lt32 ks) : Ctr prog 7 [.raw (.int .i64 cap), .raw (.int .i64 words), .sl fl (ks.map encW)] [] (.raw (.bool true)) [] := by
  by_cases h : 1 ≤ cap ∧ cap ≤ 16 ∧ 1 ≤ words ∧ words ≤ 4
  · by_cases hl : ks.length ≤ 40
    · exact tableArray_ok cap words fl ks hl hks h.1 h.2.1 h.2.2.1 h.2.2.2
    · exact tableArray_long cap words fl ks hl h.1 h.2.1 h.2.2.1 h.2.2.2
  · exact tableArray_bad cap words fl ks h
end Go.Proofs.Ytpmnchgpbojppaa
