/- TableFull, walked by the abstract machine. -/
import Derived.Test.YtpmnchgpbojppaaPl2
set_option linter.unusedVariables false
set_option linter.unusedSimpArgs false
namespace Go.Proofs.Ytpmnchgpbojppaa
open Go Go.RowKit Go.Proofs.Try
theorem full_fits {cap : Int} {key k : Nat} (hk : k ≤ 16) : fits (fullT cap key k).e := by
  refine ⟨by simp [fullT, fullEs_length]; omega, fun e he => ?_⟩
  simp [fullT, fullEs] at he
  obtain ⟨i, _, rfl⟩ := he
  simp
theorem full_okEs {cap : Int} {key k : Nat} : okEs (fullT cap key k).e := by
  intro e he
  simp [fullT, fullEs] at he
  obtain ⟨i, _, rfl⟩ := he
  refine ⟨Nat.mod_lt _ (by decide), fun x hx => ?_⟩
  simp at hx
  omega
theorem wrapK {key k : Nat} : IntKind.u32.wrap ((key : Int) + IntKind.u32.wrap (k : Int)) = (((key + k) % 4294967296 : Nat) : Int) := by
  rw [IntKind.wrap_u32, IntKind.wrap_u32]
  omega
set_option maxHeartbeats 4000000 in
set_option maxRecDepth 100000 in
theorem tableFull_ok (cap : Int) (key : Nat) (hkey : key < 4294967296) (h1 : 1 ≤ cap) (h2 : cap ≤ 16) : Ctr prog 8 [.raw (.int .i64 cap), .raw (.int .u32 (key : Int))] [] (.raw (.bool true)) [] := by
  have hnew : Tab.new ⟨1, cap, 1, 0⟩ = (fullT cap key 0, 0) := by
    have hm : (⟨1, cap, 1, 0⟩ : Sch).may = true := by simp [Sch.may, inB, h1, h2]
    unfold Tab.new
    rw [if_neg (by rw [hm]; simp)]
    rfl
  refine Ctr.of tabOk func8 rfl call8 0 _ ntmps8 [.tmp 4] rfl rfl rfl (fun B => ?_)
  refine VC.seqR tabOk [some 4] [0, 1] rfl rfl (fun K hK => ?_)
  simp (maxSteps := 9000000) only [push_cast, ↓reduceIte, reduceCtorEq, Nat.reduceEqDiff, Nat.reduceAdd, Nat.reduceLeDiff, Nat.reduceLT, Nat.reduceSub, Int.reduceEq, Int.reduceNe, Int.reduceLT, Int.reduceLE, Int.reduceAdd, Int.reduceSub, Int.reduceMul, Int.reduceNeg, Int.reduceToNat, Nat.reduceMul]
  refine hK _ ?_; clear hK K
  refine VC.seqR tabOk [some 22, some 5] [0, 1, 5] rfl rfl (fun K hK => ?_)
  simp (maxSteps := 9000000) only [push_cast, ↓reduceIte, reduceCtorEq, Nat.reduceEqDiff, Nat.reduceAdd, Nat.reduceLeDiff, Nat.reduceLT, Nat.reduceSub, Int.reduceEq, Int.reduceNe, Int.reduceLT, Int.reduceLE, Int.reduceAdd, Int.reduceSub, Int.reduceMul, Int.reduceNeg, Int.reduceToNat, Nat.reduceMul]
  refine callP (awake5_ctr) rfl ?_
  simp (maxSteps := 9000000) only [push_cast, ↓reduceIte, reduceCtorEq, Nat.reduceEqDiff, Nat.reduceAdd, Nat.reduceLeDiff, Nat.reduceLT, Nat.reduceSub, Int.reduceEq, Int.reduceNe, Int.reduceLT, Int.reduceLE, Int.reduceAdd, Int.reduceSub, Int.reduceMul, Int.reduceNeg, Int.reduceToNat, Nat.reduceMul]
  refine hK _ ?_; clear hK K
  refine VC.seqR tabOk [some 24, some 25, some 26, some 23, some 27, some 28, some 6, none, some 7] [0, 1, 5, 6, 7] rfl rfl (fun K hK => ?_)
  simp (maxSteps := 9000000) only [push_cast, ↓reduceIte, reduceCtorEq, Nat.reduceEqDiff, Nat.reduceAdd, Nat.reduceLeDiff, Nat.reduceLT, Nat.reduceSub, Int.reduceEq, Int.reduceNe, Int.reduceLT, Int.reduceLE, Int.reduceAdd, Int.reduceSub, Int.reduceMul, Int.reduceNeg, Int.reduceToNat, Nat.reduceMul]
  refine callP (new_ctr ⟨1, cap, 1, 0⟩) rfl ?_
  simp (maxSteps := 9000000) only [push_cast, ↓reduceIte, reduceCtorEq, Nat.reduceEqDiff, Nat.reduceAdd, Nat.reduceLeDiff, Nat.reduceLT, Nat.reduceSub, Int.reduceEq, Int.reduceNe, Int.reduceLT, Int.reduceLE, Int.reduceAdd, Int.reduceSub, Int.reduceMul, Int.reduceNeg, Int.reduceToNat, Nat.reduceMul, hnew]
  refine hK _ ?_; clear hK K
  refine VC.seq ?_
  refine VC.seqR tabOk [some 29, some 30, some 31, some 32, some 33, some 34] [0, 1, 5, 6, 34] rfl rfl (fun K hK => ?_)
  simp (maxSteps := 9000000) only [push_cast, ↓reduceIte, reduceCtorEq, Nat.reduceEqDiff, Nat.reduceAdd, Nat.reduceLeDiff, Nat.reduceLT, Nat.reduceSub, Int.reduceEq, Int.reduceNe, Int.reduceLT, Int.reduceLE, Int.reduceAdd, Int.reduceSub, Int.reduceMul, Int.reduceNeg, Int.reduceToNat, Nat.reduceMul]
  refine hK _ ?_; clear hK K
  refine VC.cond rfl rfl (fun hc0 => ?_) (fun hc0 => ?_)
  · exact absurd hc0 (by simp)
  · refine VC.skip ?_
    refine VC.seq ?_
    refine VC.seqR tabOk [some 8] [0, 1, 6, 8] rfl rfl (fun K hK => ?_)
    simp (maxSteps := 9000000) only [push_cast, ↓reduceIte, reduceCtorEq, Nat.reduceEqDiff, Nat.reduceAdd, Nat.reduceLeDiff, Nat.reduceLT, Nat.reduceSub, Int.reduceEq, Int.reduceNe, Int.reduceLT, Int.reduceLE, Int.reduceAdd, Int.reduceSub, Int.reduceMul, Int.reduceNeg, Int.reduceToNat, Nat.reduceMul]
    refine hK _ ?_; clear hK K
    refine VC.block ?_
    refine VC.loopU (X := Nat) (fun k => [(8, .raw (.int .i64 (k : Int)))]) (fun k => [(9, .box 27 (cellsTab false (fullT cap key k)))]) (fun k => (k : Int) ≤ cap) (fun k => cap.toNat - k) (0) (by show ((0 : Nat) : Int) ≤ cap; omega) ?_ ?_
    · refine Sub.of ?_ ?_ ⟨rfl, rfl, by simp⟩ rfl
      · simp (maxSteps := 9000000) only [push_cast, ↓reduceIte, reduceCtorEq, Nat.reduceEqDiff, Nat.reduceAdd, Nat.reduceLeDiff, Nat.reduceLT, Nat.reduceSub, Int.reduceEq, Int.reduceNe, Int.reduceLT, Int.reduceLE, Int.reduceAdd, Int.reduceSub, Int.reduceMul, Int.reduceNeg, Int.reduceToNat, Nat.reduceMul]
      · simp (maxSteps := 9000000) only [push_cast, ↓reduceIte, reduceCtorEq, Nat.reduceEqDiff, Nat.reduceAdd, Nat.reduceLeDiff, Nat.reduceLT, Nat.reduceSub, Int.reduceEq, Int.reduceNe, Int.reduceLT, Int.reduceLE, Int.reduceAdd, Int.reduceSub, Int.reduceMul, Int.reduceNeg, Int.reduceToNat, Nat.reduceMul]
    rintro k hk
    simp (maxSteps := 9000000) only [push_cast, ↓reduceIte, reduceCtorEq, Nat.reduceEqDiff, Nat.reduceAdd, Nat.reduceLeDiff, Nat.reduceLT, Nat.reduceSub, Int.reduceEq, Int.reduceNe, Int.reduceLT, Int.reduceLE, Int.reduceAdd, Int.reduceSub, Int.reduceMul, Int.reduceNeg, Int.reduceToNat, Nat.reduceMul]
    refine VC.seq ?_
    refine VC.seqR tabOk [some 36, some 37, some 38] [0, 1, 6, 8, 38] rfl rfl (fun K hK => ?_)
    simp (maxSteps := 9000000) only [push_cast, ↓reduceIte, reduceCtorEq, Nat.reduceEqDiff, Nat.reduceAdd, Nat.reduceLeDiff, Nat.reduceLT, Nat.reduceSub, Int.reduceEq, Int.reduceNe, Int.reduceLT, Int.reduceLE, Int.reduceAdd, Int.reduceSub, Int.reduceMul, Int.reduceNeg, Int.reduceToNat, Nat.reduceMul]
    refine hK _ ?_; clear hK K
    refine VC.cond rfl rfl (fun hc1 => ?_) (fun hc1 => ?_)
    · have hlt : (k : Int) < cap := by simp at hc1; omega
      obtain ⟨kk, hkk⟩ : ∃ kk : Nat, kk = (key + k) % 4294967296 := ⟨_, rfl⟩
      have hkw : IntKind.u32.wrap ((key : Int) + IntKind.u32.wrap (k : Int)) = (kk : Int) := by rw [wrapK, hkk]
      have hset : (fullT cap key k).set kk 0 1 = (fullT cap key (k + 1), 0) := by rw [hkk]; exact full_step h1 h2 hlt
      have hw := wrap_succ (i := k) (by omega)
      refine VC.skip ?_
      refine VC.seq ?_
      refine VC.block ?_
      refine VC.seqR tabOk [some 42, some 43, some 44, some 45, some 46, some 47, some 41, some 48, some 49, some 9, none, some 10] [0, 1, 6, 8, 9, 10] rfl rfl (fun K hK => ?_)
      simp (maxSteps := 9000000) only [push_cast, ↓reduceIte, reduceCtorEq, Nat.reduceEqDiff, Nat.reduceAdd, Nat.reduceLeDiff, Nat.reduceLT, Nat.reduceSub, Int.reduceEq, Int.reduceNe, Int.reduceLT, Int.reduceLE, Int.reduceAdd, Int.reduceSub, Int.reduceMul, Int.reduceNeg, Int.reduceToNat, Nat.reduceMul, hkw]
      refine callP (set_ctr false (fullT cap key k) kk 0 1 (by simp [fullT]) (by decide) (by omega) (by decide) (full_fits (by omega)) full_okEs) rfl ?_
      simp (maxSteps := 9000000) only [push_cast, ↓reduceIte, reduceCtorEq, Nat.reduceEqDiff, Nat.reduceAdd, Nat.reduceLeDiff, Nat.reduceLT, Nat.reduceSub, Int.reduceEq, Int.reduceNe, Int.reduceLT, Int.reduceLE, Int.reduceAdd, Int.reduceSub, Int.reduceMul, Int.reduceNeg, Int.reduceToNat, Nat.reduceMul, hkw, hset]
      refine hK _ ?_; clear hK K
      refine VC.seq ?_
      refine VC.seqR tabOk [some 50, some 51] [0, 1, 6, 8, 9, 51] rfl rfl (fun K hK => ?_)
      simp (maxSteps := 9000000) only [push_cast, ↓reduceIte, reduceCtorEq, Nat.reduceEqDiff, Nat.reduceAdd, Nat.reduceLeDiff, Nat.reduceLT, Nat.reduceSub, Int.reduceEq, Int.reduceNe, Int.reduceLT, Int.reduceLE, Int.reduceAdd, Int.reduceSub, Int.reduceMul, Int.reduceNeg, Int.reduceToNat, Nat.reduceMul]
      refine hK _ ?_; clear hK K
      refine VC.cond rfl rfl (fun hc2 => ?_) (fun hc2 => ?_)
      · exact absurd hc2 (by simp)
      · refine VC.skip ?_
        refine VC.lastR tabOk [some 52, none] rfl rfl (fun K hK => ?_)
        simp (maxSteps := 9000000) only [push_cast, ↓reduceIte, reduceCtorEq, Nat.reduceEqDiff, Nat.reduceAdd, Nat.reduceLeDiff, Nat.reduceLT, Nat.reduceSub, Int.reduceEq, Int.reduceNe, Int.reduceLT, Int.reduceLE, Int.reduceAdd, Int.reduceSub, Int.reduceMul, Int.reduceNeg, Int.reduceToNat, Nat.reduceMul]
        refine hK _ ?_; clear hK K
        refine VC.lastR tabOk [some 39, some 40, some 8] rfl rfl (fun K hK => ?_)
        simp (maxSteps := 9000000) only [push_cast, ↓reduceIte, reduceCtorEq, Nat.reduceEqDiff, Nat.reduceAdd, Nat.reduceLeDiff, Nat.reduceLT, Nat.reduceSub, Int.reduceEq, Int.reduceNe, Int.reduceLT, Int.reduceLE, Int.reduceAdd, Int.reduceSub, Int.reduceMul, Int.reduceNeg, Int.reduceToNat, Nat.reduceMul]
        refine hK _ ?_; clear hK K
        refine Exists.intro (k + 1) ⟨(by show ((k + 1 : Nat) : Int) ≤ cap; omega), by omega, Sub.of ?_ ?_ ⟨rfl, rfl, by simp⟩ rfl⟩
        · simp (maxSteps := 9000000) only [push_cast, ↓reduceIte, reduceCtorEq, Nat.reduceEqDiff, Nat.reduceAdd, Nat.reduceLeDiff, Nat.reduceLT, Nat.reduceSub, Int.reduceEq, Int.reduceNe, Int.reduceLT, Int.reduceLE, Int.reduceAdd, Int.reduceSub, Int.reduceMul, Int.reduceNeg, Int.reduceToNat, Nat.reduceMul, hw]
        · simp (maxSteps := 9000000) only [push_cast, ↓reduceIte, reduceCtorEq, Nat.reduceEqDiff, Nat.reduceAdd, Nat.reduceLeDiff, Nat.reduceLT, Nat.reduceSub, Int.reduceEq, Int.reduceNe, Int.reduceLT, Int.reduceLE, Int.reduceAdd, Int.reduceSub, Int.reduceMul, Int.reduceNeg, Int.reduceToNat, Nat.reduceMul, hw]
    · have hge : (k : Int) = cap := by simp at hc1; omega
      obtain ⟨kk, hkk⟩ : ∃ kk : Nat, kk = (key + k) % 4294967296 := ⟨_, rfl⟩
      have hkw : IntKind.u32.wrap ((key : Int) + IntKind.u32.wrap cap) = (kk : Int) := by rw [← hge, wrapK, hkk]
      obtain ⟨f1, f2, f3, f4, f5, f6, f7, f8, f9⟩ := full_end h1 h2 hge hkey
      rw [← hkk] at f1 f7 f8 f9
      have hD := okEs_del (key := key) (full_okEs (cap := cap) (key := key) (k := k))
      obtain ⟨g1, g2⟩ := del_s (fullT cap key k) key
      have hDS := okEs_set (key := kk) (f := 0) (x := 1) hD (by omega) (by decide)
      have hDn : ((fullT cap key k).del key).1.next < 4294967296 := by rw [f5]; decide
      have hDSn := set_next (key := kk) (f := 0) (x := 1) hDn
      refine VC.exit ?_
      refine VC.seqR tabOk [some 54, some 55, some 56, some 57, some 58, some 59, some 53, some 60, some 61, some 11, none, some 12] [0, 1, 6, 12] rfl rfl (fun K hK => ?_)
      simp (maxSteps := 9000000) only [push_cast, ↓reduceIte, reduceCtorEq, Nat.reduceEqDiff, Nat.reduceAdd, Nat.reduceLeDiff, Nat.reduceLT, Nat.reduceSub, Int.reduceEq, Int.reduceNe, Int.reduceLT, Int.reduceLE, Int.reduceAdd, Int.reduceSub, Int.reduceMul, Int.reduceNeg, Int.reduceToNat, Nat.reduceMul, hkw]
      refine callP (set_ctr false (fullT cap key k) kk 0 1 (by simp [fullT]) (by decide) (by omega) (by decide) (full_fits (by omega)) full_okEs) rfl ?_
      simp (maxSteps := 9000000) only [push_cast, ↓reduceIte, reduceCtorEq, Nat.reduceEqDiff, Nat.reduceAdd, Nat.reduceLeDiff, Nat.reduceLT, Nat.reduceSub, Int.reduceEq, Int.reduceNe, Int.reduceLT, Int.reduceLE, Int.reduceAdd, Int.reduceSub, Int.reduceMul, Int.reduceNeg, Int.reduceToNat, Nat.reduceMul, hkw, f1]
      refine hK _ ?_; clear hK K
      refine VC.seqR tabOk [some 63, some 64, some 65, some 62, some 66, some 67, some 13, none, some 14] [0, 1, 6, 12, 14] rfl rfl (fun K hK => ?_)
      simp (maxSteps := 9000000) only [push_cast, ↓reduceIte, reduceCtorEq, Nat.reduceEqDiff, Nat.reduceAdd, Nat.reduceLeDiff, Nat.reduceLT, Nat.reduceSub, Int.reduceEq, Int.reduceNe, Int.reduceLT, Int.reduceLE, Int.reduceAdd, Int.reduceSub, Int.reduceMul, Int.reduceNeg, Int.reduceToNat, Nat.reduceMul]
      refine callP (set_ctr false (fullT cap key k) key 0 2 (by simp [fullT]) (by decide) hkey (by decide) (full_fits (by omega)) full_okEs) rfl ?_
      simp (maxSteps := 9000000) only [push_cast, ↓reduceIte, reduceCtorEq, Nat.reduceEqDiff, Nat.reduceAdd, Nat.reduceLeDiff, Nat.reduceLT, Nat.reduceSub, Int.reduceEq, Int.reduceNe, Int.reduceLT, Int.reduceLE, Int.reduceAdd, Int.reduceSub, Int.reduceMul, Int.reduceNeg, Int.reduceToNat, Nat.reduceMul, f2]
      refine hK _ ?_; clear hK K
      refine VC.seqR tabOk [some 69, some 70, some 71, some 68, some 72, some 73, some 15, none, some 16] [0, 1, 12, 14, 15, 16] rfl rfl (fun K hK => ?_)
      simp (maxSteps := 9000000) only [push_cast, ↓reduceIte, reduceCtorEq, Nat.reduceEqDiff, Nat.reduceAdd, Nat.reduceLeDiff, Nat.reduceLT, Nat.reduceSub, Int.reduceEq, Int.reduceNe, Int.reduceLT, Int.reduceLE, Int.reduceAdd, Int.reduceSub, Int.reduceMul, Int.reduceNeg, Int.reduceToNat, Nat.reduceMul]
      refine callP (del_ctr false (fullT cap key k) key (by simp [fullT]) (full_fits (by omega)) full_okEs) rfl ?_
      simp (maxSteps := 9000000) only [push_cast, ↓reduceIte, reduceCtorEq, Nat.reduceEqDiff, Nat.reduceAdd, Nat.reduceLeDiff, Nat.reduceLT, Nat.reduceSub, Int.reduceEq, Int.reduceNe, Int.reduceLT, Int.reduceLE, Int.reduceAdd, Int.reduceSub, Int.reduceMul, Int.reduceNeg, Int.reduceToNat, Nat.reduceMul, f3]
      refine hK _ ?_; clear hK K
      refine VC.seqR tabOk [some 75, some 76, some 77, some 78, some 79, some 80, some 74, some 81, some 82, some 17, none, some 18] [0, 1, 12, 14, 16, 17, 18] rfl rfl (fun K hK => ?_)
      simp (maxSteps := 9000000) only [push_cast, ↓reduceIte, reduceCtorEq, Nat.reduceEqDiff, Nat.reduceAdd, Nat.reduceLeDiff, Nat.reduceLT, Nat.reduceSub, Int.reduceEq, Int.reduceNe, Int.reduceLT, Int.reduceLE, Int.reduceAdd, Int.reduceSub, Int.reduceMul, Int.reduceNeg, Int.reduceToNat, Nat.reduceMul, hkw]
      refine callP (set_ctr false ((fullT cap key k).del key).1 kk 0 1 hDn (by decide) (by omega) (by decide) (mayFits f6) hD) rfl ?_
      simp (maxSteps := 9000000) only [push_cast, ↓reduceIte, reduceCtorEq, Nat.reduceEqDiff, Nat.reduceAdd, Nat.reduceLeDiff, Nat.reduceLT, Nat.reduceSub, Int.reduceEq, Int.reduceNe, Int.reduceLT, Int.reduceLE, Int.reduceAdd, Int.reduceSub, Int.reduceMul, Int.reduceNeg, Int.reduceToNat, Nat.reduceMul, hkw, f7]
      refine hK _ ?_; clear hK K
      refine VC.seqR tabOk [some 84, some 85, some 86, some 83, some 87, some 88, some 89, some 19, none, some 20, some 21] [0, 12, 14, 16, 17, 18, 21] rfl rfl (fun K hK => ?_)
      simp (maxSteps := 9000000) only [push_cast, ↓reduceIte, reduceCtorEq, Nat.reduceEqDiff, Nat.reduceAdd, Nat.reduceLeDiff, Nat.reduceLT, Nat.reduceSub, Int.reduceEq, Int.reduceNe, Int.reduceLT, Int.reduceLE, Int.reduceAdd, Int.reduceSub, Int.reduceMul, Int.reduceNeg, Int.reduceToNat, Nat.reduceMul]
      refine callP (get_ctr false (((fullT cap key k).del key).1.set kk 0 1).1 key 0 hDSn (by decide) (set_fit f7) hDS) rfl ?_
      simp (maxSteps := 9000000) only [push_cast, ↓reduceIte, reduceCtorEq, Nat.reduceEqDiff, Nat.reduceAdd, Nat.reduceLeDiff, Nat.reduceLT, Nat.reduceSub, Int.reduceEq, Int.reduceNe, Int.reduceLT, Int.reduceLE, Int.reduceAdd, Int.reduceSub, Int.reduceMul, Int.reduceNeg, Int.reduceToNat, Nat.reduceMul, f9]
      refine hK _ ?_; clear hK K
      refine VC.seqR tabOk [some 90, some 91, some 92, some 93, some 94, some 95, some 96, some 97, some 98, some 99, some 100, some 101, some 102, some 103, some 104, some 105, some 106, some 107, some 108, some 109, some 110, some 111, some 112, some 113, some 114, some 115, some 116, some 117, some 4] [4] rfl rfl (fun K hK => ?_)
      simp (maxSteps := 9000000) only [push_cast, ↓reduceIte, reduceCtorEq, Nat.reduceEqDiff, Nat.reduceAdd, Nat.reduceLeDiff, Nat.reduceLT, Nat.reduceSub, Int.reduceEq, Int.reduceNe, Int.reduceLT, Int.reduceLE, Int.reduceAdd, Int.reduceSub, Int.reduceMul, Int.reduceNeg, Int.reduceToNat, Nat.reduceMul, f8]
      refine callG (fun hg => may_ctr false (((fullT cap key k).del key).1.set kk 0 1).1 hDSn hDS) rfl ?_
      simp (maxSteps := 9000000) only [push_cast, ↓reduceIte, reduceCtorEq, Nat.reduceEqDiff, Nat.reduceAdd, Nat.reduceLeDiff, Nat.reduceLT, Nat.reduceSub, Int.reduceEq, Int.reduceNe, Int.reduceLT, Int.reduceLE, Int.reduceAdd, Int.reduceSub, Int.reduceMul, Int.reduceNeg, Int.reduceToNat, Nat.reduceMul, f8, (set_may f7).1]
      refine hK _ ?_; clear hK K
      refine VC.ret ?_
      refine Post.ret ?_ ?_ ?_
      · simp (maxSteps := 9000000) only [push_cast, ↓reduceIte, reduceCtorEq, Nat.reduceEqDiff, Nat.reduceAdd, Nat.reduceLeDiff, Nat.reduceLT, Nat.reduceSub, Int.reduceEq, Int.reduceNe, Int.reduceLT, Int.reduceLE, Int.reduceAdd, Int.reduceSub, Int.reduceMul, Int.reduceNeg, Int.reduceToNat, Nat.reduceMul]
      · simp (maxSteps := 9000000) only [push_cast, ↓reduceIte, reduceCtorEq, Nat.reduceEqDiff, Nat.reduceAdd, Nat.reduceLeDiff, Nat.reduceLT, Nat.reduceSub, Int.reduceEq, Int.reduceNe, Int.reduceLT, Int.reduceLE, Int.reduceAdd, Int.reduceSub, Int.reduceMul, Int.reduceNeg, Int.reduceToNat, Nat.reduceMul]
      · rfl
set_option maxHeartbeats 4000000 in
set_option maxRecDepth 100000 in
theorem tableFull_bad (cap : Int) (key : Nat) (h1 : ¬ (1 ≤ cap ∧ cap ≤ 16)) : Ctr prog 8 [.raw (.int .i64 cap), .raw (.int .u32 (key : Int))] [] (.raw (.bool true)) [] := by
  have hnew : Tab.new ⟨1, cap, 1, 0⟩ = (Tab.zero, 1) := by
    have hm : (⟨1, cap, 1, 0⟩ : Sch).may = false := by
      simp [Sch.may, inB]
      omega
    unfold Tab.new
    rw [if_pos hm]
  refine Ctr.of tabOk func8 rfl call8 0 _ ntmps8 [.tmp 4] rfl rfl rfl (fun B => ?_)
  refine VC.seqR tabOk [some 4] [0, 1] rfl rfl (fun K hK => ?_)
  simp (maxSteps := 9000000) only [push_cast, ↓reduceIte, reduceCtorEq, Nat.reduceEqDiff, Nat.reduceAdd, Nat.reduceLeDiff, Nat.reduceLT, Nat.reduceSub, Int.reduceEq, Int.reduceNe, Int.reduceLT, Int.reduceLE, Int.reduceAdd, Int.reduceSub, Int.reduceMul, Int.reduceNeg, Int.reduceToNat, Nat.reduceMul]
  refine hK _ ?_; clear hK K
  refine VC.seqR tabOk [some 22, some 5] [0, 1, 5] rfl rfl (fun K hK => ?_)
  simp (maxSteps := 9000000) only [push_cast, ↓reduceIte, reduceCtorEq, Nat.reduceEqDiff, Nat.reduceAdd, Nat.reduceLeDiff, Nat.reduceLT, Nat.reduceSub, Int.reduceEq, Int.reduceNe, Int.reduceLT, Int.reduceLE, Int.reduceAdd, Int.reduceSub, Int.reduceMul, Int.reduceNeg, Int.reduceToNat, Nat.reduceMul]
  refine callP (awake5_ctr) rfl ?_
  simp (maxSteps := 9000000) only [push_cast, ↓reduceIte, reduceCtorEq, Nat.reduceEqDiff, Nat.reduceAdd, Nat.reduceLeDiff, Nat.reduceLT, Nat.reduceSub, Int.reduceEq, Int.reduceNe, Int.reduceLT, Int.reduceLE, Int.reduceAdd, Int.reduceSub, Int.reduceMul, Int.reduceNeg, Int.reduceToNat, Nat.reduceMul]
  refine hK _ ?_; clear hK K
  refine VC.seqR tabOk [some 24, some 25, some 26, some 23, some 27, some 28, some 6, none, some 7] [0, 1, 5, 6, 7] rfl rfl (fun K hK => ?_)
  simp (maxSteps := 9000000) only [push_cast, ↓reduceIte, reduceCtorEq, Nat.reduceEqDiff, Nat.reduceAdd, Nat.reduceLeDiff, Nat.reduceLT, Nat.reduceSub, Int.reduceEq, Int.reduceNe, Int.reduceLT, Int.reduceLE, Int.reduceAdd, Int.reduceSub, Int.reduceMul, Int.reduceNeg, Int.reduceToNat, Nat.reduceMul]
  refine callP (new_ctr ⟨1, cap, 1, 0⟩) rfl ?_
  simp (maxSteps := 9000000) only [push_cast, ↓reduceIte, reduceCtorEq, Nat.reduceEqDiff, Nat.reduceAdd, Nat.reduceLeDiff, Nat.reduceLT, Nat.reduceSub, Int.reduceEq, Int.reduceNe, Int.reduceLT, Int.reduceLE, Int.reduceAdd, Int.reduceSub, Int.reduceMul, Int.reduceNeg, Int.reduceToNat, Nat.reduceMul, hnew]
  refine hK _ ?_; clear hK K
  refine VC.seq ?_
  refine VC.seqR tabOk [some 29, some 30, some 31, some 32, some 33, some 34] [0, 1, 5, 6, 34] rfl rfl (fun K hK => ?_)
  simp (maxSteps := 9000000) only [push_cast, ↓reduceIte, reduceCtorEq, Nat.reduceEqDiff, Nat.reduceAdd, Nat.reduceLeDiff, Nat.reduceLT, Nat.reduceSub, Int.reduceEq, Int.reduceNe, Int.reduceLT, Int.reduceLE, Int.reduceAdd, Int.reduceSub, Int.reduceMul, Int.reduceNeg, Int.reduceToNat, Nat.reduceMul]
  refine hK _ ?_; clear hK K
  refine VC.cond rfl rfl (fun hc0 => ?_) (fun hc0 => ?_)
  · refine VC.seqR tabOk [some 35, some 4] [4] rfl rfl (fun K hK => ?_)
    simp (maxSteps := 9000000) only [push_cast, ↓reduceIte, reduceCtorEq, Nat.reduceEqDiff, Nat.reduceAdd, Nat.reduceLeDiff, Nat.reduceLT, Nat.reduceSub, Int.reduceEq, Int.reduceNe, Int.reduceLT, Int.reduceLE, Int.reduceAdd, Int.reduceSub, Int.reduceMul, Int.reduceNeg, Int.reduceToNat, Nat.reduceMul]
    refine hK _ ?_; clear hK K
    refine VC.ret ?_
    refine Post.ret ?_ ?_ ?_
    · simp (maxSteps := 9000000) only [push_cast, ↓reduceIte, reduceCtorEq, Nat.reduceEqDiff, Nat.reduceAdd, Nat.reduceLeDiff, Nat.reduceLT, Nat.reduceSub, Int.reduceEq, Int.reduceNe, Int.reduceLT, Int.reduceLE, Int.reduceAdd, Int.reduceSub, Int.reduceMul, Int.reduceNeg, Int.reduceToNat, Nat.reduceMul]
    · simp (maxSteps := 9000000) only [push_cast, ↓reduceIte, reduceCtorEq, Nat.reduceEqDiff, Nat.reduceAdd, Nat.reduceLeDiff, Nat.reduceLT, Nat.reduceSub, Int.reduceEq, Int.reduceNe, Int.reduceLT, Int.reduceLE, Int.reduceAdd, Int.reduceSub, Int.reduceMul, Int.reduceNeg, Int.reduceToNat, Nat.reduceMul]
    · rfl
  · exact absurd hc0 (by simp)
theorem tableFull_ctr (cap : Int) (key : Nat) (hkey : key < 4294967296) : Ctr prog 8 [.raw (.int .i64 cap), .raw (.int .u32 (key : Int))] [] (.raw (.bool true)) [] := by
  by_cases h : 1 ≤ cap ∧ cap ≤ 16
  · exact tableFull_ok cap key hkey h.1 h.2
  · exact tableFull_bad cap key h
end Go.Proofs.Ytpmnchgpbojppaa
