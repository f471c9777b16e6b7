/- drydockref04.May, drydockref05.At. -/
import Derived.Test.YtpmnchgpbojppaaProg
import Derived.Test.YtpmnchgpbojppaaTabLib
namespace Go.Proofs.Ytpmnchgpbojppaa
open Go Go.RowKit Go.Proofs.Try

set_option maxHeartbeats 1000000 in
theorem refSchMay_any (k c n v : Int) (w : World) : Calls prog 66 #[.agg #[.int .i64 k, .int .i64 c, .int .i64 n, .int .i64 v]] w fun e w' => e = .returned (.bool (Sch.may ⟨k, c, n, v⟩)) ∧ Below w.heap.size w w' := by
  obtain ⟨W1, hW1, hB1, hS1, hC1, hF1, hO1⟩ := boxed w _ rfl #[.int .i64 k, .int .i64 c, .int .i64 n, .int .i64 v] 23
  go_enter func66, ntmps66
  go_wp2_with fail
  all_goals
    go_ret
    refine ⟨ret_bool ?_, hB1⟩
    rw [eq_comm, Bool.eq_iff_iff]
    simp only [Sch.may, inB, Bool.and_eq_true, decide_eq_true_eq]
    by_cases h3 : k = 3
    · rw [if_pos h3]; simp [h3] at * <;> omega
    · rw [if_neg h3]; simp [h3] at * <;> omega

theorem fidx_found {key : Nat} : ∀ {es : List Ent} {j k : Nat} {e : Ent}, es[k]? = some e → e.key = key → (∀ (i : Nat) (x : Ent), i < k → es[i]? = some x → x.key ≠ key) → fidx key es j = ((j + k : Nat) : Int)
  | [], j, k, e, h, _, _ => by simp at h
  | x :: es, j, 0, e, h, hk, _ => by
    simp at h
    subst h
    simp [fidx, hk]
  | x :: es, j, k + 1, e, h, hk, hn => by
    have hx : x.key ≠ key := hn 0 x (by omega) rfl
    have ih := fidx_found (es := es) (j := j + 1) (k := k) (by simpa using h) hk (fun i y hi hy => hn (i + 1) y (by omega) (by simpa using hy))
    simp only [fidx, if_neg hx]
    rw [ih]
    omega
theorem fidx_none {key : Nat} : ∀ {es : List Ent} {j : Nat}, (∀ (i : Nat) (x : Ent), es[i]? = some x → x.key ≠ key) → fidx key es j = -1
  | [], j, _ => rfl
  | x :: es, j, hn => by
    have hx : x.key ≠ key := hn 0 x rfl
    simp only [fidx, if_neg hx]
    exact fidx_none (fun i y hy => hn (i + 1) y (by simpa using hy))

set_option maxHeartbeats 1000000 in
theorem at_any (s : Sch) (A : Option Addr) (n c nx key : Nat) (es : List Ent) (w : World) (B : Nat) (hB : B ≤ w.heap.size) (hE : kEnt.At w B A n c es) :
    Calls prog 25 #[tabV s A n c nx, .int .u32 (key : Int)] w fun e w' => e = .returned (.int .i64 (fidx key es 0)) ∧ Below w.heap.size w w' := by
  have hn := hE.nle
  unfold tabV
  obtain ⟨W1, hW1, hB1, hS1, hC1, hF1, hO1⟩ := boxed w _ rfl #[.int .i64 s.kind, .int .i64 s.cap, .int .i64 s.words, .int .i64 s.ver, .slice A n c, .int .u32 (nx : Int)] 27
  go_enter func25, ntmps25
  go_wp2_with fail
  go_loop [5] (fun i => ∃ k : Nat, k ≤ n ∧ i = .int .i64 k ∧ (∀ (i : Nat) (x : Ent), i < k → es[i]? = some x → x.key ≠ key)) (fun i => n - (intOf i).toNat)
  case atStart => exact ⟨0, Nat.zero_le _, rfl, fun i x h => absurd h (by omega)⟩
  case round =>
    obtain ⟨k, hk, rfl, hno⟩ := hrel
    replace hno := Lib.hid hno
    by_cases hlt : k < n
    · obtain ⟨e, ad, A', n', c', he, rfl, hadB, h0, h1, hkey, hv⟩ := kEnt.get (hE.below (hB1.mono hB)) hlt
      replace he := Lib.hid he
      have hki : (k : Int) < (n : Int) := by omega
      by_cases hkk : e.key = key
      · have hd : ((e.key : Int) == (key : Int)) = true := by simp [hkk]
        have hfin := Lib.hid (fidx_found (j := 0) he.out hkk hno.out)
        replace hkk := Lib.hid hkk
        go_wp2_with fail
        go_ret
        exact ⟨ret_int (by rw [hfin.out]; simp), hB1⟩
      · have hd : ((e.key : Int) == (key : Int)) = false := by simp; omega
        replace hkk := Lib.hid hkk
        go_wp2_with fail
        go_round
        case rel =>
          refine ⟨k + 1, by omega, by go_num, fun i x hi hx => ?_⟩
          rcases Nat.lt_or_ge i k with h | h
          · exact hno.out i x h hx
          · obtain rfl : i = k := by omega
            rw [he.out] at hx
            cases hx
            exact hkk.out
        case measure => simp [intOf]; omega
    · obtain rfl : k = n := by omega
      have hfin := Lib.hid (fidx_none (key := key) (es := es) (j := 0) (fun i x hx => hno.out i x (by rw [← hE.len]; exact (List.getElem?_eq_some_iff.1 hx).1) hx))
      go_wp2_with fail
      go_ret
      exact ⟨ret_int (by rw [hfin.out]), hB1⟩
end Go.Proofs.Ytpmnchgpbojppaa
