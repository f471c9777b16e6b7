/- TableRing, walked by the abstract machine. -/
import Derived.Test.YtpmnchgpbojppaaRingP
set_option linter.unusedVariables false
set_option linter.unusedSimpArgs false
namespace Go.Proofs.Ytpmnchgpbojppaa
open Go Go.RowKit Go.Proofs.Try
theorem hmixR : prog.follows .mixedOrders = true := by kernel_rfl
theorem ring_new {cap : Int} {ls : List Nat} (h1 : 1 ≤ cap) (h2 : cap ≤ 16) : Tab.new ⟨3, cap, 1, 0⟩ = (ringT cap ls 0 0, 0) := by
  have hm : (⟨3, cap, 1, 0⟩ : Sch).may = true := by simp [Sch.may, inB, h1, h2]
  unfold Tab.new
  rw [if_neg (by rw [hm]; simp)]
  rfl
set_option maxHeartbeats 4000000 in
set_option maxRecDepth 100000 in
theorem tableRing_ok (cap : Int) (fl : Bool) (ks : List Nat) (hl : ks.length ≤ 40) (hks : lt32 ks) (h1 : 1 ≤ cap) (h2 : cap ≤ 16) : Ctr prog 6 [.raw (.int .i64 cap), .sl fl (ks.map encW)] [] (.raw (.bool true)) [] := by
  have hnew := ring_new (ls := ks) h1 h2
  refine Ctr.of tabOk func6 rfl call6 0 _ ntmps6 [.tmp 4] rfl rfl rfl (fun B => ?_)
  refine VC.seqR tabOk [some 4] [0, 1] rfl rfl (fun K hK => ?_)
  simp (maxSteps := 9000000) only [push_cast, ↓reduceIte, reduceCtorEq, Nat.reduceEqDiff, Nat.reduceAdd, Nat.reduceLeDiff, Nat.reduceLT, Nat.reduceSub, Int.reduceEq, Int.reduceNe, Int.reduceLT, Int.reduceLE, Int.reduceAdd, Int.reduceSub, Int.reduceMul, Int.reduceNeg, Int.reduceToNat, Nat.reduceMul]
  refine hK _ ?_; clear hK K
  refine VC.seqR tabOk [some 24, some 5] [0, 1, 5] rfl rfl (fun K hK => ?_)
  simp (maxSteps := 9000000) only [push_cast, ↓reduceIte, reduceCtorEq, Nat.reduceEqDiff, Nat.reduceAdd, Nat.reduceLeDiff, Nat.reduceLT, Nat.reduceSub, Int.reduceEq, Int.reduceNe, Int.reduceLT, Int.reduceLE, Int.reduceAdd, Int.reduceSub, Int.reduceMul, Int.reduceNeg, Int.reduceToNat, Nat.reduceMul]
  refine callP (awake5_ctr) rfl ?_
  simp (maxSteps := 9000000) only [push_cast, ↓reduceIte, reduceCtorEq, Nat.reduceEqDiff, Nat.reduceAdd, Nat.reduceLeDiff, Nat.reduceLT, Nat.reduceSub, Int.reduceEq, Int.reduceNe, Int.reduceLT, Int.reduceLE, Int.reduceAdd, Int.reduceSub, Int.reduceMul, Int.reduceNeg, Int.reduceToNat, Nat.reduceMul]
  refine hK _ ?_; clear hK K
  refine VC.seq ?_
  refine VC.seqR tabOk [some 25, some 26, some 27, some 28, some 29, some 30, some 31] [0, 1, 5, 31] rfl rfl (fun K hK => ?_)
  simp (maxSteps := 9000000) only [push_cast, ↓reduceIte, reduceCtorEq, Nat.reduceEqDiff, Nat.reduceAdd, Nat.reduceLeDiff, Nat.reduceLT, Nat.reduceSub, Int.reduceEq, Int.reduceNe, Int.reduceLT, Int.reduceLE, Int.reduceAdd, Int.reduceSub, Int.reduceMul, Int.reduceNeg, Int.reduceToNat, Nat.reduceMul]
  refine hK _ ?_; clear hK K
  refine VC.cond rfl rfl (fun hc0 => ?_) (fun hc0 => ?_)
  · exact absurd hc0 (by simp; omega)
  · refine VC.skip ?_
    refine VC.seqR tabOk [some 34, some 35, some 36, some 33, some 37, some 38, some 6, none, some 7] [0, 1, 6, 7] rfl rfl (fun K hK => ?_)
    simp (maxSteps := 9000000) only [push_cast, ↓reduceIte, reduceCtorEq, Nat.reduceEqDiff, Nat.reduceAdd, Nat.reduceLeDiff, Nat.reduceLT, Nat.reduceSub, Int.reduceEq, Int.reduceNe, Int.reduceLT, Int.reduceLE, Int.reduceAdd, Int.reduceSub, Int.reduceMul, Int.reduceNeg, Int.reduceToNat, Nat.reduceMul]
    refine callP (new_ctr ⟨3, cap, 1, 0⟩) rfl ?_
    simp (maxSteps := 9000000) only [push_cast, ↓reduceIte, reduceCtorEq, Nat.reduceEqDiff, Nat.reduceAdd, Nat.reduceLeDiff, Nat.reduceLT, Nat.reduceSub, Int.reduceEq, Int.reduceNe, Int.reduceLT, Int.reduceLE, Int.reduceAdd, Int.reduceSub, Int.reduceMul, Int.reduceNeg, Int.reduceToNat, Nat.reduceMul, hnew]
    refine hK _ ?_; clear hK K
    refine VC.seq ?_
    refine VC.seqR tabOk [some 39, some 40] [0, 1, 6, 40] rfl rfl (fun K hK => ?_)
    simp (maxSteps := 9000000) only [push_cast, ↓reduceIte, reduceCtorEq, Nat.reduceEqDiff, Nat.reduceAdd, Nat.reduceLeDiff, Nat.reduceLT, Nat.reduceSub, Int.reduceEq, Int.reduceNe, Int.reduceLT, Int.reduceLE, Int.reduceAdd, Int.reduceSub, Int.reduceMul, Int.reduceNeg, Int.reduceToNat, Nat.reduceMul]
    refine hK _ ?_; clear hK K
    refine VC.cond rfl rfl (fun hc1 => ?_) (fun hc1 => ?_)
    · exact absurd hc1 (by simp)
    · refine VC.skip ?_
      refine VC.seqR tabOk [some 8] [0, 1, 6, 8] rfl rfl (fun K hK => ?_)
      simp (maxSteps := 9000000) only [push_cast, ↓reduceIte, reduceCtorEq, Nat.reduceEqDiff, Nat.reduceAdd, Nat.reduceLeDiff, Nat.reduceLT, Nat.reduceSub, Int.reduceEq, Int.reduceNe, Int.reduceLT, Int.reduceLE, Int.reduceAdd, Int.reduceSub, Int.reduceMul, Int.reduceNeg, Int.reduceToNat, Nat.reduceMul]
      refine hK _ ?_; clear hK K
      refine VC.seq ?_
      refine VC.seqR tabOk [some 9] [0, 1, 6, 8, 9] rfl rfl (fun K hK => ?_)
      simp (maxSteps := 9000000) only [push_cast, ↓reduceIte, reduceCtorEq, Nat.reduceEqDiff, Nat.reduceAdd, Nat.reduceLeDiff, Nat.reduceLT, Nat.reduceSub, Int.reduceEq, Int.reduceNe, Int.reduceLT, Int.reduceLE, Int.reduceAdd, Int.reduceSub, Int.reduceMul, Int.reduceNeg, Int.reduceToNat, Nat.reduceMul]
      refine hK _ ?_; clear hK K
      refine VC.block ?_
      refine VC.loopU (X := Nat) (fun i => [(8, .raw (.int .i64 ((min i cap.toNat : Nat) : Int))), (9, .raw (.int .i64 (i : Int)))]) (fun i => [(16, .box 27 (cellsTab false (ringT cap ks 0 (min i cap.toNat))))]) (fun i => i ≤ ks.length) (fun i => ks.length - i) (0) (Nat.zero_le _) ?_ ?_
      · refine Sub.of ?_ ?_ ⟨rfl, rfl, by simp⟩ rfl
        · simp (maxSteps := 9000000) only [push_cast, ↓reduceIte, reduceCtorEq, Nat.reduceEqDiff, Nat.reduceAdd, Nat.reduceLeDiff, Nat.reduceLT, Nat.reduceSub, Int.reduceEq, Int.reduceNe, Int.reduceLT, Int.reduceLE, Int.reduceAdd, Int.reduceSub, Int.reduceMul, Int.reduceNeg, Int.reduceToNat, Nat.reduceMul, Nat.zero_min]
        · simp (maxSteps := 9000000) only [push_cast, ↓reduceIte, reduceCtorEq, Nat.reduceEqDiff, Nat.reduceAdd, Nat.reduceLeDiff, Nat.reduceLT, Nat.reduceSub, Int.reduceEq, Int.reduceNe, Int.reduceLT, Int.reduceLE, Int.reduceAdd, Int.reduceSub, Int.reduceMul, Int.reduceNeg, Int.reduceToNat, Nat.reduceMul, Nat.zero_min]
      rintro i hi
      simp (maxSteps := 9000000) only [push_cast, ↓reduceIte, reduceCtorEq, Nat.reduceEqDiff, Nat.reduceAdd, Nat.reduceLeDiff, Nat.reduceLT, Nat.reduceSub, Int.reduceEq, Int.reduceNe, Int.reduceLT, Int.reduceLE, Int.reduceAdd, Int.reduceSub, Int.reduceMul, Int.reduceNeg, Int.reduceToNat, Nat.reduceMul]
      refine VC.seq ?_
      refine VC.seqR tabOk [some 47, some 48, some 49, some 50] [0, 1, 6, 8, 9, 50] rfl rfl (fun K hK => ?_)
      simp (maxSteps := 9000000) only [push_cast, ↓reduceIte, reduceCtorEq, Nat.reduceEqDiff, Nat.reduceAdd, Nat.reduceLeDiff, Nat.reduceLT, Nat.reduceSub, Int.reduceEq, Int.reduceNe, Int.reduceLT, Int.reduceLE, Int.reduceAdd, Int.reduceSub, Int.reduceMul, Int.reduceNeg, Int.reduceToNat, Nat.reduceMul]
      refine hK _ ?_; clear hK K
      refine VC.cond rfl rfl (fun hc2 => ?_) (fun hc2 => ?_)
      · have hlt : i < ks.length := by simp at hc2; omega
        obtain ⟨k, hk⟩ : ∃ k, ks[i]? = some k := ⟨_, List.getElem?_eq_getElem hlt⟩
        have hkd : ks.getD i 0 = k := by rw [List.getD_eq_getElem?_getD, hk]; rfl
        have hk32 : k < 4294967296 := hks k (List.mem_of_getElem? hk)
        have hw := wrap_succ (i := i) (by omega)
        by_cases hf : (i : Int) < cap
        · have hm0 : min i cap.toNat = i := by omega
          have hm1 : min (i + 1) cap.toNat = i + 1 := by omega
          have hp := ring_push (ls := ks) h1 h2 hf
          rw [hkd] at hp
          rw [hm0]
          refine VC.skip ?_
          refine VC.seq ?_
          refine VC.block ?_
          refine VC.seqD tabOk hmixR [some 54, some 55, some 56, some 57, some 58, some 59, some 53, some 60, some 61, some 10, none, some 11] [0, 1, 6, 8, 9, 10, 11] rfl rfl rfl (fun K hK => ?_)
          simp (maxSteps := 9000000) only [push_cast, ↓reduceIte, reduceCtorEq, Nat.reduceEqDiff, Nat.reduceAdd, Nat.reduceLeDiff, Nat.reduceLT, Nat.reduceSub, Int.reduceEq, Int.reduceNe, Int.reduceLT, Int.reduceLE, Int.reduceAdd, Int.reduceSub, Int.reduceMul, Int.reduceNeg, Int.reduceToNat, Nat.reduceMul, hlt, hk]
          refine callPD (push_ctr false (ringT cap ks 0 i) k (by show 0 + i < 4294967296; omega) (ring_okEs hks (by omega)) hk32) rfl ?_
          simp (maxSteps := 9000000) only [push_cast, ↓reduceIte, reduceCtorEq, Nat.reduceEqDiff, Nat.reduceAdd, Nat.reduceLeDiff, Nat.reduceLT, Nat.reduceSub, Int.reduceEq, Int.reduceNe, Int.reduceLT, Int.reduceLE, Int.reduceAdd, Int.reduceSub, Int.reduceMul, Int.reduceNeg, Int.reduceToNat, Nat.reduceMul, hlt, hk, hlt, hk, hp]
          refine ⟨rfl, hK _ ?_⟩; clear hK K
          refine VC.seq ?_
          refine VC.seqR tabOk [some 62, some 63] [0, 1, 6, 8, 9, 10, 11, 63] rfl rfl (fun K hK => ?_)
          simp (maxSteps := 9000000) only [push_cast, ↓reduceIte, reduceCtorEq, Nat.reduceEqDiff, Nat.reduceAdd, Nat.reduceLeDiff, Nat.reduceLT, Nat.reduceSub, Int.reduceEq, Int.reduceNe, Int.reduceLT, Int.reduceLE, Int.reduceAdd, Int.reduceSub, Int.reduceMul, Int.reduceNeg, Int.reduceToNat, Nat.reduceMul]
          refine hK _ ?_; clear hK K
          refine VC.cond rfl rfl (fun hc3 => ?_) (fun hc3 => ?_)
          · exact absurd hc3 (by simp)
          · refine VC.skip ?_
            refine VC.seqR tabOk [some 71, none] [0, 1, 6, 8, 9] rfl rfl (fun K hK => ?_)
            simp (maxSteps := 9000000) only [push_cast, ↓reduceIte, reduceCtorEq, Nat.reduceEqDiff, Nat.reduceAdd, Nat.reduceLeDiff, Nat.reduceLT, Nat.reduceSub, Int.reduceEq, Int.reduceNe, Int.reduceLT, Int.reduceLE, Int.reduceAdd, Int.reduceSub, Int.reduceMul, Int.reduceNeg, Int.reduceToNat, Nat.reduceMul]
            refine hK _ ?_; clear hK K
            refine VC.lastR tabOk [some 72, some 73, some 8] rfl rfl (fun K hK => ?_)
            simp (maxSteps := 9000000) only [push_cast, ↓reduceIte, reduceCtorEq, Nat.reduceEqDiff, Nat.reduceAdd, Nat.reduceLeDiff, Nat.reduceLT, Nat.reduceSub, Int.reduceEq, Int.reduceNe, Int.reduceLT, Int.reduceLE, Int.reduceAdd, Int.reduceSub, Int.reduceMul, Int.reduceNeg, Int.reduceToNat, Nat.reduceMul]
            refine hK _ ?_; clear hK K
            refine VC.lastR tabOk [some 51, some 52, some 9] rfl rfl (fun K hK => ?_)
            simp (maxSteps := 9000000) only [push_cast, ↓reduceIte, reduceCtorEq, Nat.reduceEqDiff, Nat.reduceAdd, Nat.reduceLeDiff, Nat.reduceLT, Nat.reduceSub, Int.reduceEq, Int.reduceNe, Int.reduceLT, Int.reduceLE, Int.reduceAdd, Int.reduceSub, Int.reduceMul, Int.reduceNeg, Int.reduceToNat, Nat.reduceMul]
            refine hK _ ?_; clear hK K
            refine Exists.intro (i + 1) ⟨(by show i + 1 ≤ ks.length; omega), by omega, Sub.of ?_ ?_ ⟨rfl, rfl, by simp⟩ rfl⟩
            · simp (maxSteps := 9000000) only [push_cast, ↓reduceIte, reduceCtorEq, Nat.reduceEqDiff, Nat.reduceAdd, Nat.reduceLeDiff, Nat.reduceLT, Nat.reduceSub, Int.reduceEq, Int.reduceNe, Int.reduceLT, Int.reduceLE, Int.reduceAdd, Int.reduceSub, Int.reduceMul, Int.reduceNeg, Int.reduceToNat, Nat.reduceMul, hw, hm1]
            · simp (maxSteps := 9000000) only [push_cast, ↓reduceIte, reduceCtorEq, Nat.reduceEqDiff, Nat.reduceAdd, Nat.reduceLeDiff, Nat.reduceLT, Nat.reduceSub, Int.reduceEq, Int.reduceNe, Int.reduceLT, Int.reduceLE, Int.reduceAdd, Int.reduceSub, Int.reduceMul, Int.reduceNeg, Int.reduceToNat, Nat.reduceMul, hw, hm1]
        · have hm0 : min i cap.toNat = cap.toNat := by omega
          have hm1 : min (i + 1) cap.toNat = cap.toNat := by omega
          have hp := ring_full (ls := ks) (n := cap.toNat) (v := k) h1 h2 (by omega)
          rw [hm0]
          refine VC.skip ?_
          refine VC.seq ?_
          refine VC.block ?_
          refine VC.seqD tabOk hmixR [some 54, some 55, some 56, some 57, some 58, some 59, some 53, some 60, some 61, some 10, none, some 11] [0, 1, 6, 8, 9, 10, 11] rfl rfl rfl (fun K hK => ?_)
          simp (maxSteps := 9000000) only [push_cast, ↓reduceIte, reduceCtorEq, Nat.reduceEqDiff, Nat.reduceAdd, Nat.reduceLeDiff, Nat.reduceLT, Nat.reduceSub, Int.reduceEq, Int.reduceNe, Int.reduceLT, Int.reduceLE, Int.reduceAdd, Int.reduceSub, Int.reduceMul, Int.reduceNeg, Int.reduceToNat, Nat.reduceMul, hlt, hk]
          refine callPD (push_ctr false (ringT cap ks 0 cap.toNat) k (by show 0 + cap.toNat < 4294967296; omega) (ring_okEs hks (by omega)) hk32) rfl ?_
          simp (maxSteps := 9000000) only [push_cast, ↓reduceIte, reduceCtorEq, Nat.reduceEqDiff, Nat.reduceAdd, Nat.reduceLeDiff, Nat.reduceLT, Nat.reduceSub, Int.reduceEq, Int.reduceNe, Int.reduceLT, Int.reduceLE, Int.reduceAdd, Int.reduceSub, Int.reduceMul, Int.reduceNeg, Int.reduceToNat, Nat.reduceMul, hlt, hk, hlt, hk, hp]
          refine ⟨rfl, hK _ ?_⟩; clear hK K
          refine VC.seq ?_
          refine VC.seqR tabOk [some 62, some 63] [0, 1, 6, 8, 9, 10, 11, 63] rfl rfl (fun K hK => ?_)
          simp (maxSteps := 9000000) only [push_cast, ↓reduceIte, reduceCtorEq, Nat.reduceEqDiff, Nat.reduceAdd, Nat.reduceLeDiff, Nat.reduceLT, Nat.reduceSub, Int.reduceEq, Int.reduceNe, Int.reduceLT, Int.reduceLE, Int.reduceAdd, Int.reduceSub, Int.reduceMul, Int.reduceNeg, Int.reduceToNat, Nat.reduceMul]
          refine hK _ ?_; clear hK K
          refine VC.cond rfl rfl (fun hc3 => ?_) (fun hc3 => ?_)
          · refine VC.seq ?_
            refine VC.seqR tabOk [some 64, some 65, some 66, some 67, some 68, some 69, some 70] [0, 1, 6, 8, 9, 70] rfl rfl (fun K hK => ?_)
            simp (maxSteps := 9000000) only [push_cast, ↓reduceIte, reduceCtorEq, Nat.reduceEqDiff, Nat.reduceAdd, Nat.reduceLeDiff, Nat.reduceLT, Nat.reduceSub, Int.reduceEq, Int.reduceNe, Int.reduceLT, Int.reduceLE, Int.reduceAdd, Int.reduceSub, Int.reduceMul, Int.reduceNeg, Int.reduceToNat, Nat.reduceMul, hf]
            refine hK _ ?_; clear hK K
            refine VC.cond rfl rfl (fun hc4 => ?_) (fun hc4 => ?_)
            · exact absurd hc4 (by simp)
            · refine VC.skip ?_
              refine VC.exit ?_
              refine VC.lastR tabOk [some 51, some 52, some 9] rfl rfl (fun K hK => ?_)
              simp (maxSteps := 9000000) only [push_cast, ↓reduceIte, reduceCtorEq, Nat.reduceEqDiff, Nat.reduceAdd, Nat.reduceLeDiff, Nat.reduceLT, Nat.reduceSub, Int.reduceEq, Int.reduceNe, Int.reduceLT, Int.reduceLE, Int.reduceAdd, Int.reduceSub, Int.reduceMul, Int.reduceNeg, Int.reduceToNat, Nat.reduceMul]
              refine hK _ ?_; clear hK K
              refine Exists.intro (i + 1) ⟨(by show i + 1 ≤ ks.length; omega), by omega, Sub.of ?_ ?_ ⟨rfl, rfl, by simp⟩ rfl⟩
              · simp (maxSteps := 9000000) only [push_cast, ↓reduceIte, reduceCtorEq, Nat.reduceEqDiff, Nat.reduceAdd, Nat.reduceLeDiff, Nat.reduceLT, Nat.reduceSub, Int.reduceEq, Int.reduceNe, Int.reduceLT, Int.reduceLE, Int.reduceAdd, Int.reduceSub, Int.reduceMul, Int.reduceNeg, Int.reduceToNat, Nat.reduceMul, hw, hm1]
              · simp (maxSteps := 9000000) only [push_cast, ↓reduceIte, reduceCtorEq, Nat.reduceEqDiff, Nat.reduceAdd, Nat.reduceLeDiff, Nat.reduceLT, Nat.reduceSub, Int.reduceEq, Int.reduceNe, Int.reduceLT, Int.reduceLE, Int.reduceAdd, Int.reduceSub, Int.reduceMul, Int.reduceNeg, Int.reduceToNat, Nat.reduceMul, hw, hm1]
          · exact absurd hc3 (by simp)
      · have hge : i = ks.length := by simp at hc2; omega
        obtain ⟨m, hm⟩ : ∃ m, m = min i cap.toNat := ⟨_, rfl⟩
        rw [← hm]
        refine VC.exit ?_
        refine VC.seq ?_
        refine VC.seqR tabOk [some 12] [0, 1, 6, 8, 12] rfl rfl (fun K hK => ?_)
        simp (maxSteps := 9000000) only [push_cast, ↓reduceIte, reduceCtorEq, Nat.reduceEqDiff, Nat.reduceAdd, Nat.reduceLeDiff, Nat.reduceLT, Nat.reduceSub, Int.reduceEq, Int.reduceNe, Int.reduceLT, Int.reduceLE, Int.reduceAdd, Int.reduceSub, Int.reduceMul, Int.reduceNeg, Int.reduceToNat, Nat.reduceMul]
        refine hK _ ?_; clear hK K
        refine VC.block ?_
        refine VC.loopU (X := Nat) (fun j => [(12, .raw (.int .i64 (j : Int)))]) (fun j => [(16, .box 27 (cellsTab false (ringT cap ks j (m - j))))]) (fun j => j ≤ m) (fun j => m - j) (0) (Nat.zero_le _) ?_ ?_
        · refine Sub.of ?_ ?_ ⟨rfl, rfl, by simp⟩ rfl
          · simp (maxSteps := 9000000) only [push_cast, ↓reduceIte, reduceCtorEq, Nat.reduceEqDiff, Nat.reduceAdd, Nat.reduceLeDiff, Nat.reduceLT, Nat.reduceSub, Int.reduceEq, Int.reduceNe, Int.reduceLT, Int.reduceLE, Int.reduceAdd, Int.reduceSub, Int.reduceMul, Int.reduceNeg, Int.reduceToNat, Nat.reduceMul, Nat.sub_zero]
          · simp (maxSteps := 9000000) only [push_cast, ↓reduceIte, reduceCtorEq, Nat.reduceEqDiff, Nat.reduceAdd, Nat.reduceLeDiff, Nat.reduceLT, Nat.reduceSub, Int.reduceEq, Int.reduceNe, Int.reduceLT, Int.reduceLE, Int.reduceAdd, Int.reduceSub, Int.reduceMul, Int.reduceNeg, Int.reduceToNat, Nat.reduceMul, Nat.sub_zero]
        rintro j hj
        simp (maxSteps := 9000000) only [push_cast, ↓reduceIte, reduceCtorEq, Nat.reduceEqDiff, Nat.reduceAdd, Nat.reduceLeDiff, Nat.reduceLT, Nat.reduceSub, Int.reduceEq, Int.reduceNe, Int.reduceLT, Int.reduceLE, Int.reduceAdd, Int.reduceSub, Int.reduceMul, Int.reduceNeg, Int.reduceToNat, Nat.reduceMul]
        refine VC.seq ?_
        refine VC.seqR tabOk [some 74, some 75, some 76] [0, 1, 6, 8, 12, 76] rfl rfl (fun K hK => ?_)
        simp (maxSteps := 9000000) only [push_cast, ↓reduceIte, reduceCtorEq, Nat.reduceEqDiff, Nat.reduceAdd, Nat.reduceLeDiff, Nat.reduceLT, Nat.reduceSub, Int.reduceEq, Int.reduceNe, Int.reduceLT, Int.reduceLE, Int.reduceAdd, Int.reduceSub, Int.reduceMul, Int.reduceNeg, Int.reduceToNat, Nat.reduceMul]
        refine hK _ ?_; clear hK K
        refine VC.cond rfl rfl (fun hc5 => ?_) (fun hc5 => ?_)
        · have hjm : j < m := by simp at hc5; omega
          obtain ⟨n, hn⟩ : ∃ n, m - j = n + 1 := ⟨m - j - 1, by omega⟩
          obtain ⟨q, hq⟩ : ∃ q, ks[j]? = some q := ⟨_, List.getElem?_eq_getElem (by omega)⟩
          have hqd : ks.getD j 0 = q := by rw [List.getD_eq_getElem?_getD, hq]; rfl
          have hjl : j < ks.length := by omega
          have hn1 : m - (j + 1) = n := by omega
          have hmy : (ringT cap ks j (n + 1)).may = true := ring_may h1 h2 (by omega) (by omega)
          have hmy2 : (ringT cap ks (j + 1) n).may = true := ring_may h1 h2 (by omega) (by omega)
          have hp := ring_pop (ls := ks) (a := j) (n := n) h1 h2 (by omega) (by omega)
          rw [hqd] at hp
          have hw := wrap_succ (i := j) (by omega)
          rw [hn]
          refine VC.skip ?_
          refine VC.seq ?_
          refine VC.block ?_
          refine VC.seqR tabOk [some 80, some 81, some 79, some 82, some 83, some 84, some 13, none, some 14, some 15] [0, 1, 6, 8, 12, 13, 14, 15] rfl rfl (fun K hK => ?_)
          simp (maxSteps := 9000000) only [push_cast, ↓reduceIte, reduceCtorEq, Nat.reduceEqDiff, Nat.reduceAdd, Nat.reduceLeDiff, Nat.reduceLT, Nat.reduceSub, Int.reduceEq, Int.reduceNe, Int.reduceLT, Int.reduceLE, Int.reduceAdd, Int.reduceSub, Int.reduceMul, Int.reduceNeg, Int.reduceToNat, Nat.reduceMul]
          refine callP (pop_ctr false (ringT cap ks j (n + 1)) (by show j + (n + 1) < 4294967296; omega) (ring_okEs hks (by omega)) (mayFits hmy)) rfl ?_
          simp (maxSteps := 9000000) only [push_cast, ↓reduceIte, reduceCtorEq, Nat.reduceEqDiff, Nat.reduceAdd, Nat.reduceLeDiff, Nat.reduceLT, Nat.reduceSub, Int.reduceEq, Int.reduceNe, Int.reduceLT, Int.reduceLE, Int.reduceAdd, Int.reduceSub, Int.reduceMul, Int.reduceNeg, Int.reduceToNat, Nat.reduceMul, hp]
          refine hK _ ?_; clear hK K
          refine VC.seq ?_
          refine VC.seqR tabOk [some 85, some 86, some 87, some 88, some 89, some 90, some 91, some 92, some 93, some 94, some 95, some 96, some 97, some 98, some 99] [0, 1, 6, 8, 12, 13, 99] rfl rfl (fun K hK => ?_)
          simp (maxSteps := 9000000) only [push_cast, ↓reduceIte, reduceCtorEq, Nat.reduceEqDiff, Nat.reduceAdd, Nat.reduceLeDiff, Nat.reduceLT, Nat.reduceSub, Int.reduceEq, Int.reduceNe, Int.reduceLT, Int.reduceLE, Int.reduceAdd, Int.reduceSub, Int.reduceMul, Int.reduceNeg, Int.reduceToNat, Nat.reduceMul, hjl, hq]
          refine callG (fun hg => may_ctr false (ringT cap ks (j + 1) n) (by show j + 1 + n < 4294967296; omega) (ring_okEs hks (by omega))) rfl ?_
          simp (maxSteps := 9000000) only [push_cast, ↓reduceIte, reduceCtorEq, Nat.reduceEqDiff, Nat.reduceAdd, Nat.reduceLeDiff, Nat.reduceLT, Nat.reduceSub, Int.reduceEq, Int.reduceNe, Int.reduceLT, Int.reduceLE, Int.reduceAdd, Int.reduceSub, Int.reduceMul, Int.reduceNeg, Int.reduceToNat, Nat.reduceMul, hjl, hq, hmy2]
          refine hK _ ?_; clear hK K
          refine VC.cond rfl rfl (fun hc6 => ?_) (fun hc6 => ?_)
          · exact absurd hc6 (by simp)
          · refine VC.skip ?_
            refine VC.lastR tabOk [some 100, none] rfl rfl (fun K hK => ?_)
            simp (maxSteps := 9000000) only [push_cast, ↓reduceIte, reduceCtorEq, Nat.reduceEqDiff, Nat.reduceAdd, Nat.reduceLeDiff, Nat.reduceLT, Nat.reduceSub, Int.reduceEq, Int.reduceNe, Int.reduceLT, Int.reduceLE, Int.reduceAdd, Int.reduceSub, Int.reduceMul, Int.reduceNeg, Int.reduceToNat, Nat.reduceMul]
            refine hK _ ?_; clear hK K
            refine VC.lastR tabOk [some 77, some 78, some 12] rfl rfl (fun K hK => ?_)
            simp (maxSteps := 9000000) only [push_cast, ↓reduceIte, reduceCtorEq, Nat.reduceEqDiff, Nat.reduceAdd, Nat.reduceLeDiff, Nat.reduceLT, Nat.reduceSub, Int.reduceEq, Int.reduceNe, Int.reduceLT, Int.reduceLE, Int.reduceAdd, Int.reduceSub, Int.reduceMul, Int.reduceNeg, Int.reduceToNat, Nat.reduceMul]
            refine hK _ ?_; clear hK K
            refine Exists.intro (j + 1) ⟨(by show j + 1 ≤ m; omega), by omega, Sub.of ?_ ?_ ⟨rfl, rfl, by simp⟩ rfl⟩
            · simp (maxSteps := 9000000) only [push_cast, ↓reduceIte, reduceCtorEq, Nat.reduceEqDiff, Nat.reduceAdd, Nat.reduceLeDiff, Nat.reduceLT, Nat.reduceSub, Int.reduceEq, Int.reduceNe, Int.reduceLT, Int.reduceLE, Int.reduceAdd, Int.reduceSub, Int.reduceMul, Int.reduceNeg, Int.reduceToNat, Nat.reduceMul, hw, hn1]
            · simp (maxSteps := 9000000) only [push_cast, ↓reduceIte, reduceCtorEq, Nat.reduceEqDiff, Nat.reduceAdd, Nat.reduceLeDiff, Nat.reduceLT, Nat.reduceSub, Int.reduceEq, Int.reduceNe, Int.reduceLT, Int.reduceLE, Int.reduceAdd, Int.reduceSub, Int.reduceMul, Int.reduceNeg, Int.reduceToNat, Nat.reduceMul, hw, hn1]
        · have hje : j = m := by simp at hc5; omega
          have hm0 : m - j = 0 := by omega
          have hget : (ringT cap ks j 0).get 0 0 = (ringT cap ks j 0, 0, false) := by
            unfold Tab.get
            rw [if_neg (by simp [Tab.has, ring_keyed])]
          have hset : (ringT cap ks j 0).set 0 0 1 = (Tab.zero, 1) := by
            unfold Tab.set
            rw [if_pos (by simp [ring_keyed])]
          have hmy : (ringT cap ks j 0).may = true := ring_may h1 h2 (by omega) (by omega)
          have hle : decide ((m : Int) ≤ cap) = true := by simp; omega
          have hor : (bif ((m : Int) == (ks.length : Int)) then true else ((m : Int) == cap)) = true := by
            by_cases hq : m = ks.length
            · simp [hq]
            · have : ((m : Int) == cap) = true := by simp; omega
              rw [this]
              simp
          have hnx : (((ringT cap ks j 0).next : Int) == IntKind.u32.wrap (m : Int)) = true := by
            rw [IntKind.wrap_u32]
            show (((j + 0 : Nat) : Int) == _) = true
            simp
            omega
          rw [hm0]
          refine VC.exit ?_
          refine VC.seqR tabOk [some 102, some 103, some 101, some 104, some 105, some 106, some 16, none, some 17, some 18] [0, 1, 6, 8, 18] rfl rfl (fun K hK => ?_)
          simp (maxSteps := 9000000) only [push_cast, ↓reduceIte, reduceCtorEq, Nat.reduceEqDiff, Nat.reduceAdd, Nat.reduceLeDiff, Nat.reduceLT, Nat.reduceSub, Int.reduceEq, Int.reduceNe, Int.reduceLT, Int.reduceLE, Int.reduceAdd, Int.reduceSub, Int.reduceMul, Int.reduceNeg, Int.reduceToNat, Nat.reduceMul]
          refine callP (pop_ctr false (ringT cap ks j 0) (by show j + 0 < 4294967296; omega) (ring_okEs hks (by omega)) (mayFits hmy)) rfl ?_
          simp (maxSteps := 9000000) only [push_cast, ↓reduceIte, reduceCtorEq, Nat.reduceEqDiff, Nat.reduceAdd, Nat.reduceLeDiff, Nat.reduceLT, Nat.reduceSub, Int.reduceEq, Int.reduceNe, Int.reduceLT, Int.reduceLE, Int.reduceAdd, Int.reduceSub, Int.reduceMul, Int.reduceNeg, Int.reduceToNat, Nat.reduceMul, ring_none]
          refine hK _ ?_; clear hK K
          refine VC.seqR tabOk [some 108, some 109, some 107, some 110, some 111, some 112, some 19, none, some 20, some 21] [0, 1, 6, 8, 18, 21] rfl rfl (fun K hK => ?_)
          simp (maxSteps := 9000000) only [push_cast, ↓reduceIte, reduceCtorEq, Nat.reduceEqDiff, Nat.reduceAdd, Nat.reduceLeDiff, Nat.reduceLT, Nat.reduceSub, Int.reduceEq, Int.reduceNe, Int.reduceLT, Int.reduceLE, Int.reduceAdd, Int.reduceSub, Int.reduceMul, Int.reduceNeg, Int.reduceToNat, Nat.reduceMul]
          refine callP (get_ctr false (ringT cap ks j 0) 0 0 (by show j + 0 < 4294967296; omega) (by decide) (mayFits hmy) (ring_okEs hks (by omega))) rfl ?_
          simp (maxSteps := 9000000) only [push_cast, ↓reduceIte, reduceCtorEq, Nat.reduceEqDiff, Nat.reduceAdd, Nat.reduceLeDiff, Nat.reduceLT, Nat.reduceSub, Int.reduceEq, Int.reduceNe, Int.reduceLT, Int.reduceLE, Int.reduceAdd, Int.reduceSub, Int.reduceMul, Int.reduceNeg, Int.reduceToNat, Nat.reduceMul, hget]
          refine hK _ ?_; clear hK K
          refine VC.seqR tabOk [some 114, some 115, some 113, some 116, some 117, some 22, none, some 23] [0, 1, 6, 8, 18, 21, 23] rfl rfl (fun K hK => ?_)
          simp (maxSteps := 9000000) only [push_cast, ↓reduceIte, reduceCtorEq, Nat.reduceEqDiff, Nat.reduceAdd, Nat.reduceLeDiff, Nat.reduceLT, Nat.reduceSub, Int.reduceEq, Int.reduceNe, Int.reduceLT, Int.reduceLE, Int.reduceAdd, Int.reduceSub, Int.reduceMul, Int.reduceNeg, Int.reduceToNat, Nat.reduceMul]
          refine callP (set_ctr false (ringT cap ks j 0) 0 0 1 (by show j + 0 < 4294967296; omega) (by decide) (by decide) (by decide) (mayFits hmy) (ring_okEs hks (by omega))) rfl ?_
          simp (maxSteps := 9000000) only [push_cast, ↓reduceIte, reduceCtorEq, Nat.reduceEqDiff, Nat.reduceAdd, Nat.reduceLeDiff, Nat.reduceLT, Nat.reduceSub, Int.reduceEq, Int.reduceNe, Int.reduceLT, Int.reduceLE, Int.reduceAdd, Int.reduceSub, Int.reduceMul, Int.reduceNeg, Int.reduceToNat, Nat.reduceMul, hset]
          refine hK _ ?_; clear hK K
          refine VC.seqR tabOk [some 118, some 119, some 120, some 121, some 122, some 123, some 124, some 125, some 126, some 127, some 128, some 129, some 130, some 131, some 132, some 133, some 134, some 135, some 136, some 137, some 138, some 139, some 140, some 141, some 142, some 143, some 144, some 145, some 146, some 147, some 148, some 149, some 150, some 4] [4] rfl rfl (fun K hK => ?_)
          simp (maxSteps := 9000000) only [push_cast, ↓reduceIte, reduceCtorEq, Nat.reduceEqDiff, Nat.reduceAdd, Nat.reduceLeDiff, Nat.reduceLT, Nat.reduceSub, Int.reduceEq, Int.reduceNe, Int.reduceLT, Int.reduceLE, Int.reduceAdd, Int.reduceSub, Int.reduceMul, Int.reduceNeg, Int.reduceToNat, Nat.reduceMul]
          refine hK _ ?_; clear hK K
          simp only [hle, hor, hnx, cond_true]
          refine VC.ret ?_
          refine Post.ret ?_ ?_ ?_
          · simp (maxSteps := 9000000) only [push_cast, ↓reduceIte, reduceCtorEq, Nat.reduceEqDiff, Nat.reduceAdd, Nat.reduceLeDiff, Nat.reduceLT, Nat.reduceSub, Int.reduceEq, Int.reduceNe, Int.reduceLT, Int.reduceLE, Int.reduceAdd, Int.reduceSub, Int.reduceMul, Int.reduceNeg, Int.reduceToNat, Nat.reduceMul]
          · simp (maxSteps := 9000000) only [push_cast, ↓reduceIte, reduceCtorEq, Nat.reduceEqDiff, Nat.reduceAdd, Nat.reduceLeDiff, Nat.reduceLT, Nat.reduceSub, Int.reduceEq, Int.reduceNe, Int.reduceLT, Int.reduceLE, Int.reduceAdd, Int.reduceSub, Int.reduceMul, Int.reduceNeg, Int.reduceToNat, Nat.reduceMul]
          · rfl
set_option maxHeartbeats 4000000 in
set_option maxRecDepth 100000 in
theorem tableRing_long (cap : Int) (fl : Bool) (ks : List Nat) (hl : ¬ ks.length ≤ 40) : Ctr prog 6 [.raw (.int .i64 cap), .sl fl (ks.map encW)] [] (.raw (.bool true)) [] := by
  refine Ctr.of tabOk func6 rfl call6 0 _ ntmps6 [.tmp 4] rfl rfl rfl (fun B => ?_)
  refine VC.seqR tabOk [some 4] [0, 1] rfl rfl (fun K hK => ?_)
  simp (maxSteps := 9000000) only [push_cast, ↓reduceIte, reduceCtorEq, Nat.reduceEqDiff, Nat.reduceAdd, Nat.reduceLeDiff, Nat.reduceLT, Nat.reduceSub, Int.reduceEq, Int.reduceNe, Int.reduceLT, Int.reduceLE, Int.reduceAdd, Int.reduceSub, Int.reduceMul, Int.reduceNeg, Int.reduceToNat, Nat.reduceMul]
  refine hK _ ?_; clear hK K
  refine VC.seqR tabOk [some 24, some 5] [0, 1, 5] rfl rfl (fun K hK => ?_)
  simp (maxSteps := 9000000) only [push_cast, ↓reduceIte, reduceCtorEq, Nat.reduceEqDiff, Nat.reduceAdd, Nat.reduceLeDiff, Nat.reduceLT, Nat.reduceSub, Int.reduceEq, Int.reduceNe, Int.reduceLT, Int.reduceLE, Int.reduceAdd, Int.reduceSub, Int.reduceMul, Int.reduceNeg, Int.reduceToNat, Nat.reduceMul]
  refine callP (awake5_ctr) rfl ?_
  simp (maxSteps := 9000000) only [push_cast, ↓reduceIte, reduceCtorEq, Nat.reduceEqDiff, Nat.reduceAdd, Nat.reduceLeDiff, Nat.reduceLT, Nat.reduceSub, Int.reduceEq, Int.reduceNe, Int.reduceLT, Int.reduceLE, Int.reduceAdd, Int.reduceSub, Int.reduceMul, Int.reduceNeg, Int.reduceToNat, Nat.reduceMul]
  refine hK _ ?_; clear hK K
  refine VC.seq ?_
  refine VC.seqR tabOk [some 25, some 26, some 27, some 28, some 29, some 30, some 31] [0, 1, 5, 31] rfl rfl (fun K hK => ?_)
  simp (maxSteps := 9000000) only [push_cast, ↓reduceIte, reduceCtorEq, Nat.reduceEqDiff, Nat.reduceAdd, Nat.reduceLeDiff, Nat.reduceLT, Nat.reduceSub, Int.reduceEq, Int.reduceNe, Int.reduceLT, Int.reduceLE, Int.reduceAdd, Int.reduceSub, Int.reduceMul, Int.reduceNeg, Int.reduceToNat, Nat.reduceMul]
  refine hK _ ?_; clear hK K
  refine VC.cond rfl rfl (fun hc0 => ?_) (fun hc0 => ?_)
  · refine VC.seqR tabOk [some 32, some 4] [4] rfl rfl (fun K hK => ?_)
    simp (maxSteps := 9000000) only [push_cast, ↓reduceIte, reduceCtorEq, Nat.reduceEqDiff, Nat.reduceAdd, Nat.reduceLeDiff, Nat.reduceLT, Nat.reduceSub, Int.reduceEq, Int.reduceNe, Int.reduceLT, Int.reduceLE, Int.reduceAdd, Int.reduceSub, Int.reduceMul, Int.reduceNeg, Int.reduceToNat, Nat.reduceMul]
    refine hK _ ?_; clear hK K
    refine VC.ret ?_
    refine Post.ret ?_ ?_ ?_
    · simp (maxSteps := 9000000) only [push_cast, ↓reduceIte, reduceCtorEq, Nat.reduceEqDiff, Nat.reduceAdd, Nat.reduceLeDiff, Nat.reduceLT, Nat.reduceSub, Int.reduceEq, Int.reduceNe, Int.reduceLT, Int.reduceLE, Int.reduceAdd, Int.reduceSub, Int.reduceMul, Int.reduceNeg, Int.reduceToNat, Nat.reduceMul]
    · simp (maxSteps := 9000000) only [push_cast, ↓reduceIte, reduceCtorEq, Nat.reduceEqDiff, Nat.reduceAdd, Nat.reduceLeDiff, Nat.reduceLT, Nat.reduceSub, Int.reduceEq, Int.reduceNe, Int.reduceLT, Int.reduceLE, Int.reduceAdd, Int.reduceSub, Int.reduceMul, Int.reduceNeg, Int.reduceToNat, Nat.reduceMul]
    · rfl
  · exact absurd hc0 (by simp; omega)
set_option maxHeartbeats 4000000 in
set_option maxRecDepth 100000 in
theorem tableRing_bad (cap : Int) (fl : Bool) (ks : List Nat) (hl : ks.length ≤ 40) (h1 : ¬ (1 ≤ cap ∧ cap ≤ 16)) : Ctr prog 6 [.raw (.int .i64 cap), .sl fl (ks.map encW)] [] (.raw (.bool true)) [] := by
  have hnew : Tab.new ⟨3, cap, 1, 0⟩ = (Tab.zero, 1) := by
    have hm : (⟨3, cap, 1, 0⟩ : Sch).may = false := by
      simp [Sch.may, inB]
      omega
    unfold Tab.new
    rw [if_pos hm]
  have hbad : (bif decide (cap < 1) then true else decide (cap > 16)) = true := by
    by_cases h : cap < 1
    · simp [h]
    · simp [h]
      omega
  refine Ctr.of tabOk func6 rfl call6 0 _ ntmps6 [.tmp 4] rfl rfl rfl (fun B => ?_)
  refine VC.seqR tabOk [some 4] [0, 1] rfl rfl (fun K hK => ?_)
  simp (maxSteps := 9000000) only [push_cast, ↓reduceIte, reduceCtorEq, Nat.reduceEqDiff, Nat.reduceAdd, Nat.reduceLeDiff, Nat.reduceLT, Nat.reduceSub, Int.reduceEq, Int.reduceNe, Int.reduceLT, Int.reduceLE, Int.reduceAdd, Int.reduceSub, Int.reduceMul, Int.reduceNeg, Int.reduceToNat, Nat.reduceMul]
  refine hK _ ?_; clear hK K
  refine VC.seqR tabOk [some 24, some 5] [0, 1, 5] rfl rfl (fun K hK => ?_)
  simp (maxSteps := 9000000) only [push_cast, ↓reduceIte, reduceCtorEq, Nat.reduceEqDiff, Nat.reduceAdd, Nat.reduceLeDiff, Nat.reduceLT, Nat.reduceSub, Int.reduceEq, Int.reduceNe, Int.reduceLT, Int.reduceLE, Int.reduceAdd, Int.reduceSub, Int.reduceMul, Int.reduceNeg, Int.reduceToNat, Nat.reduceMul]
  refine callP (awake5_ctr) rfl ?_
  simp (maxSteps := 9000000) only [push_cast, ↓reduceIte, reduceCtorEq, Nat.reduceEqDiff, Nat.reduceAdd, Nat.reduceLeDiff, Nat.reduceLT, Nat.reduceSub, Int.reduceEq, Int.reduceNe, Int.reduceLT, Int.reduceLE, Int.reduceAdd, Int.reduceSub, Int.reduceMul, Int.reduceNeg, Int.reduceToNat, Nat.reduceMul]
  refine hK _ ?_; clear hK K
  refine VC.seq ?_
  refine VC.seqR tabOk [some 25, some 26, some 27, some 28, some 29, some 30, some 31] [0, 1, 5, 31] rfl rfl (fun K hK => ?_)
  simp (maxSteps := 9000000) only [push_cast, ↓reduceIte, reduceCtorEq, Nat.reduceEqDiff, Nat.reduceAdd, Nat.reduceLeDiff, Nat.reduceLT, Nat.reduceSub, Int.reduceEq, Int.reduceNe, Int.reduceLT, Int.reduceLE, Int.reduceAdd, Int.reduceSub, Int.reduceMul, Int.reduceNeg, Int.reduceToNat, Nat.reduceMul]
  refine hK _ ?_; clear hK K
  refine VC.cond rfl rfl (fun hc0 => ?_) (fun hc0 => ?_)
  · exact absurd hc0 (by simp; omega)
  · refine VC.skip ?_
    refine VC.seqR tabOk [some 34, some 35, some 36, some 33, some 37, some 38, some 6, none, some 7] [0, 1, 6, 7] rfl rfl (fun K hK => ?_)
    simp (maxSteps := 9000000) only [push_cast, ↓reduceIte, reduceCtorEq, Nat.reduceEqDiff, Nat.reduceAdd, Nat.reduceLeDiff, Nat.reduceLT, Nat.reduceSub, Int.reduceEq, Int.reduceNe, Int.reduceLT, Int.reduceLE, Int.reduceAdd, Int.reduceSub, Int.reduceMul, Int.reduceNeg, Int.reduceToNat, Nat.reduceMul]
    refine callP (new_ctr ⟨3, cap, 1, 0⟩) rfl ?_
    simp (maxSteps := 9000000) only [push_cast, ↓reduceIte, reduceCtorEq, Nat.reduceEqDiff, Nat.reduceAdd, Nat.reduceLeDiff, Nat.reduceLT, Nat.reduceSub, Int.reduceEq, Int.reduceNe, Int.reduceLT, Int.reduceLE, Int.reduceAdd, Int.reduceSub, Int.reduceMul, Int.reduceNeg, Int.reduceToNat, Nat.reduceMul, hnew]
    refine hK _ ?_; clear hK K
    refine VC.seq ?_
    refine VC.seqR tabOk [some 39, some 40] [0, 1, 6, 40] rfl rfl (fun K hK => ?_)
    simp (maxSteps := 9000000) only [push_cast, ↓reduceIte, reduceCtorEq, Nat.reduceEqDiff, Nat.reduceAdd, Nat.reduceLeDiff, Nat.reduceLT, Nat.reduceSub, Int.reduceEq, Int.reduceNe, Int.reduceLT, Int.reduceLE, Int.reduceAdd, Int.reduceSub, Int.reduceMul, Int.reduceNeg, Int.reduceToNat, Nat.reduceMul]
    refine hK _ ?_; clear hK K
    refine VC.cond rfl rfl (fun hc1 => ?_) (fun hc1 => ?_)
    · refine VC.seqR tabOk [some 41, some 42, some 43, some 44, some 45, some 46, some 4] [4] rfl rfl (fun K hK => ?_)
      simp (maxSteps := 9000000) only [push_cast, ↓reduceIte, reduceCtorEq, Nat.reduceEqDiff, Nat.reduceAdd, Nat.reduceLeDiff, Nat.reduceLT, Nat.reduceSub, Int.reduceEq, Int.reduceNe, Int.reduceLT, Int.reduceLE, Int.reduceAdd, Int.reduceSub, Int.reduceMul, Int.reduceNeg, Int.reduceToNat, Nat.reduceMul, hbad]
      refine hK _ ?_; clear hK K
      refine VC.ret ?_
      refine Post.ret ?_ ?_ ?_
      · simp (maxSteps := 9000000) only [push_cast, ↓reduceIte, reduceCtorEq, Nat.reduceEqDiff, Nat.reduceAdd, Nat.reduceLeDiff, Nat.reduceLT, Nat.reduceSub, Int.reduceEq, Int.reduceNe, Int.reduceLT, Int.reduceLE, Int.reduceAdd, Int.reduceSub, Int.reduceMul, Int.reduceNeg, Int.reduceToNat, Nat.reduceMul]
      · simp (maxSteps := 9000000) only [push_cast, ↓reduceIte, reduceCtorEq, Nat.reduceEqDiff, Nat.reduceAdd, Nat.reduceLeDiff, Nat.reduceLT, Nat.reduceSub, Int.reduceEq, Int.reduceNe, Int.reduceLT, Int.reduceLE, Int.reduceAdd, Int.reduceSub, Int.reduceMul, Int.reduceNeg, Int.reduceToNat, Nat.reduceMul]
      · rfl
    · exact absurd hc1 (by simp)
theorem tableRing_ctr (cap : Int) (fl : Bool) (ks : List Nat) (hks : lt32 ks) : Ctr prog 6 [.raw (.int .i64 cap), .sl fl (ks.map encW)] [] (.raw (.bool true)) [] := by
  by_cases hl : ks.length ≤ 40
  · by_cases h : 1 ≤ cap ∧ cap ≤ 16
    · exact tableRing_ok cap fl ks hl hks h.1 h.2
    · exact tableRing_bad cap fl ks hl h
  · exact tableRing_long cap fl ks hl
end Go.Proofs.Ytpmnchgpbojppaa
