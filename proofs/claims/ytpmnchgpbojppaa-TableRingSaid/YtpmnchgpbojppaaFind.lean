/- schema.in, schema.May, drydockref04.May, table.find, drydockref05.At. -/
import Derived.Test.YtpmnchgpbojppaaProg
import Derived.Test.YtpmnchgpbojppaaTabLib
import Derived.Test.YtpmnchgpbojppaaMay2
import Derived.BigQuiet
import Derived.Deep.QuietTactic
namespace Go.Proofs.Ytpmnchgpbojppaa
open Go Go.RowKit Go.Proofs.Try


theorem in_any (n lo hi : Int) (w : World) : Calls prog 78 #[.int .i64 n, .int .i64 lo, .int .i64 hi] w fun e w' => e = .returned (.bool (inB n lo hi)) ∧ w = w' := by
  unfold inB
  go_enter func78, ntmps78
  go_wp2
  all_goals (go_ret; simp_all; try omega)

theorem schMay_any (k c n v : Int) (w : World) : Calls prog 58 #[.agg #[.int .i64 k, .int .i64 c, .int .i64 n, .int .i64 v]] w fun e w' => e = .returned (.bool (Sch.may ⟨k, c, n, v⟩)) ∧ Below w.heap.size w w' := by
  go_enter func58, ntmps58
  go_wp2_with ((go_at_call 78; refine (in_any _ _ _ _).mono ?_; rintro e w' ⟨rfl, rfl⟩))
  all_goals
    go_ret
    refine ⟨ret_bool ?_, (Below.refl _ _).alloc (Nat.le_refl _) _⟩
    simp_all [Sch.may]

set_option maxHeartbeats 400000 in
theorem find_any (s : Sch) (A : Option Addr) (n c nx key : Nat) (es : List Ent) (w : World) (B : Nat) (hB : B ≤ w.heap.size) (hE : kEnt.At w B A n c es) :
    Calls prog 55 #[tabV s A n c nx, .int .u32 (key : Int)] w fun e w' => e = .returned (.int .i64 (fidx key es 0)) ∧ Below w.heap.size w w' := by
  have hn := hE.nle
  unfold tabV
  go_enter func55, ntmps55
  go_wp2
  go_step3
  go_wp2
  go_step3
  go_wp2
  go_loopw [5, 11] (fun a i wr => ∃ k : Nat, k ≤ n ∧ a = .int .i64 (-1) ∧ i = .int .i64 k ∧ Below w.heap.size w wr ∧ (∀ (i : Nat) (x : Ent), i < k → es[i]? = some x → x.key ≠ key)) (fun _ i _ => n - (intOf i).toNat)
  case atStart => exact ⟨0, Nat.zero_le _, rfl, rfl, (Below.refl _ _).alloc (Nat.le_refl _) _, fun i x h => absurd h (by omega)⟩
  case round =>
    obtain ⟨k, hk, rfl, rfl, hb, hno⟩ := hrel
    replace hno := Lib.hid hno
    by_cases hlt : k < n
    · obtain ⟨e, ad, A', n', c', he, rfl, hadB, h0, h1, hkey, hv⟩ := kEnt.get (hE.below (hb.mono hB)) hlt
      replace he := Lib.hid he
      have hbs := hb.size
      by_cases hkk : e.key = key
      · have hd : ((e.key : Int) == (key : Int)) = true := by simp [hkk]
        have hfin := Lib.hid (fidx_found (j := 0) he.out hkk hno.out)
        go_wp2
        rw [Exit.noGoto_ret]
        go_ret
        exact ⟨ret_int (by rw [hfin.out]; simp), hb.alloc hbs _⟩
      · have hd : ((e.key : Int) == (key : Int)) = false := by simp; omega
        go_wp2
        go_roundw
        case rel =>
          refine ⟨k + 1, by omega, rfl, by go_num, hb.alloc hbs _, fun i x hi hx => ?_⟩
          rcases Nat.lt_or_ge i k with h | h
          · exact hno.out i x h hx
          · obtain rfl : i = k := by omega
            rw [he.out] at hx
            cases hx
            exact hkk
        case measure => simp [intOf]; omega
    · obtain rfl : k = n := by omega
      have hfin := Lib.hid (fidx_none (key := key) (es := es) (j := 0) (fun i x hx => hno.out i x (by rw [← hE.len]; exact (List.getElem?_eq_some_iff.1 hx).1) hx))
      go_wp2
      rw [Exit.noGoto_ret]
      go_ret
      exact ⟨ret_int (by rw [hfin.out]), hb⟩
end Go.Proofs.Ytpmnchgpbojppaa
