/- drydockref05.Few. -/
import Derived.Test.YtpmnchgpbojppaaProg
import Derived.Test.YtpmnchgpbojppaaTabLib
namespace Go.Proofs.Ytpmnchgpbojppaa
open Go Go.RowKit Go.Proofs.Try

/-- A table is not too great. -/
def Tab.small (t : Tab) : Bool := decide (t.e.length ≤ 20) && t.e.all fun e => decide (e.v.length ≤ 6)
def fewB (ts : List Tab) : Bool := decide (ts.length ≤ 6) && ts.all Tab.small
theorem Tab.small_iff (t : Tab) : t.small = true ↔ t.e.length ≤ 20 ∧ ∀ e ∈ t.e, e.v.length ≤ 6 := by
  simp [Tab.small]

theorem kTab.get {w : World} {B : Nat} {A : Option Addr} {n c : Nat} {ts : List Tab} (h : kTab.At w B A n c ts) {i : Nat} (hi : i < n) :
    ∃ t ad A' n' c', ts[i]? = some t ∧ A = some ad ∧ ad.block < B ∧ w.cell? (ad.add (i * 6)) = some (.int .i64 t.s.kind) ∧
      w.cell? ⟨(ad.add (i * 6)).block, (ad.add (i * 6)).off + 1, none⟩ = some (.int .i64 t.s.cap) ∧
      w.cell? ⟨(ad.add (i * 6)).block, (ad.add (i * 6)).off + 2, none⟩ = some (.int .i64 t.s.words) ∧
      w.cell? ⟨(ad.add (i * 6)).block, (ad.add (i * 6)).off + 3, none⟩ = some (.int .i64 t.s.ver) ∧
      w.cell? ⟨(ad.add (i * 6)).block, (ad.add (i * 6)).off + 4, none⟩ = some (.slice A' n' c') ∧
      w.cell? ⟨(ad.add (i * 6)).block, (ad.add (i * 6)).off + 5, none⟩ = some (.int .u32 (t.next : Int)) ∧ t.s.Ok ∧ t.next < 4294967296 ∧ kEnt.At w B A' n' c' t.e := by
  obtain ⟨x, ad, cs, hx, e, hB, hc, hk⟩ := h.get hi
  obtain ⟨A', n', c', rfl, hs, hlt, hv⟩ := hk
  refine ⟨x, ad, A', n', c', hx, e, hB, ?_, ?_, ?_, ?_, ?_, ?_, hs, hlt, hv⟩
  · simpa [kTab] using hc 0 _ rfl
  all_goals (rw [← add_fld]; exact hc _ _ rfl)

theorem all_take_succ {α : Type} {p : α → Bool} {xs : List α} {k : Nat} {x : α} (h : xs[k]? = some x) : (xs.take (k + 1)).all p = ((xs.take k).all p && p x) := by
  rw [List.take_add_one, h, List.all_append]
  simp

def fewK (ts : List Tab) (k : Nat) : Bool := decide (ts.length ≤ 6) && (ts.take k).all Tab.small
def smallK (t : Tab) (k : Nat) : Bool := decide (t.e.length ≤ 20) && (t.e.take k).all fun e => decide (e.v.length ≤ 6)
theorem fewK_all {ts : List Tab} {n : Nat} (h : ts.length = n) : fewK ts n = fewB ts := by
  unfold fewK fewB
  rw [List.take_of_length_le (by omega)]
theorem smallK_all {t : Tab} {n : Nat} (h : t.e.length = n) : smallK t n = t.small := by
  unfold smallK Tab.small
  rw [List.take_of_length_le (by omega)]
theorem all_take {α : Type} {p : α → Bool} {xs : List α} {k : Nat} (h : (xs.take k).all p = false) : xs.all p = false := by
  cases hx : xs.all p with
  | false => rfl
  | true =>
    rw [List.all_eq_true] at hx
    have : (xs.take k).all p = true := by
      rw [List.all_eq_true]
      intro x hm
      exact hx x (List.mem_of_mem_take hm)
    rw [h] at this
    cases this
theorem fewK_no {ts : List Tab} {k : Nat} (h : fewK ts k = false) : fewB ts = false := by
  unfold fewK at h
  unfold fewB
  rw [Bool.and_eq_false_iff] at h ⊢
  exact h.imp id all_take
theorem smallK_no {t : Tab} {k : Nat} (h : smallK t k = false) : t.small = false := by
  unfold smallK at h
  unfold Tab.small
  rw [Bool.and_eq_false_iff] at h ⊢
  exact h.imp id all_take
theorem fewK_succ {ts : List Tab} {k : Nat} {t : Tab} (h : fewK ts k = true) (ht : ts[k]? = some t) : fewK ts (k + 1) = t.small := by
  unfold fewK at h ⊢
  rw [all_take_succ ht]
  rw [Bool.and_eq_true] at h
  simp [h.1, h.2]
theorem smallK_succ {t : Tab} {k : Nat} {e : Ent} (h : smallK t k = true) (he : t.e[k]? = some e) : smallK t (k + 1) = decide (e.v.length ≤ 6) := by
  unfold smallK at h ⊢
  rw [all_take_succ he]
  rw [Bool.and_eq_true] at h
  simp [h.1, h.2]

set_option maxRecDepth 100000 in
set_option maxHeartbeats 2000000 in
theorem few_any (A : Option Addr) (n c : Nat) (ts : List Tab) (w : World) (B : Nat) (hT : kTab.At w B A n c ts) :
    Calls prog 40 #[.slice A n c] w fun e w' => e = .returned (.bool (fewB ts)) ∧ w = w' := by
  have hn := hT.nle
  have hl := Lib.hid hT.len
  go_enter func40, ntmps40
  go_wp2_with fail
  go_loop [3, 4] (fun ok i => ∃ k : Nat, k ≤ n ∧ i = .int .i64 k ∧ ok = .bool (fewK ts k)) (fun _ i => n - (intOf i).toNat)
  case atStart =>
    refine ⟨0, Nat.zero_le _, rfl, ?_⟩
    simp [fewK, hl.out]
    omega
  case round =>
    obtain ⟨k, hk, rfl, rfl⟩ := hrel
    rcases hok : fewK ts k with _ | _
    · by_cases hlt : k < n
      all_goals
        have hki : decide ((k : Int) < (n : Int)) = decide (k < n) := by simp
        go_wp2_with fail
        go_ret
        exact ⟨ret_bool (fewK_no hok).symm, rfl⟩
    by_cases hlt : k < n
    case neg =>
      go_wp2_with fail
      go_ret
      obtain rfl : k = n := by omega
      exact ⟨ret_bool (by rw [← fewK_all hl.out, hok]), rfl⟩
    obtain ⟨t, ad, A', m, c', ht, rfl, hadB, q0, q1, q2, q3, q4, q5, hs, hnx, hE⟩ := kTab.get hT hlt
    have hm := hE.nle
    have hlm := Lib.hid hE.len
    replace ht := Lib.hid ht
    go_wp2_with fail
    go_loop [3, 5] (fun ok j => ∃ q : Nat, q ≤ m ∧ j = .int .i64 q ∧ ok = .bool (smallK t q)) (fun _ j => m - (intOf j).toNat)
    case atStart =>
      refine ⟨0, Nat.zero_le _, rfl, ?_⟩
      simp [smallK, hlm.out]
      omega
    case round =>
      obtain ⟨q, hq, rfl, rfl⟩ := hrel
      have hend : ∀ b : Bool, b = t.small → fewK ts (k + 1) = b := fun b hb => by rw [hb]; exact fewK_succ hok ht.out
      replace hend := Lib.hid hend
      rcases hok' : smallK t q with _ | _
      · have hfin := Lib.hid (hend.out false (smallK_no hok').symm)
        by_cases hlt' : q < m
        all_goals
          go_wp2_with fail
          refine ⟨⟨k + 1, by omega, by go_num, by rw [hfin.out]⟩, by simp [intOf]; omega⟩
      by_cases hlt' : q < m
      case neg =>
        obtain rfl : q = m := by omega
        have hfin := Lib.hid (hend.out true (by rw [← smallK_all hlm.out, hok']))
        go_wp2_with fail
        refine ⟨⟨k + 1, by omega, by go_num, by rw [hfin.out]⟩, by simp [intOf]; omega⟩
      obtain ⟨e, ad', D, m', d, he, rfl, hb1, hk0, hk1, hkey, hv⟩ := kEnt.get hE hlt'
      have hv' := hv.nle
      have hfin := Lib.hid (smallK_succ hok' he)
      have hvl := Lib.hid hv.len
      clear he
      go_wp2_with fail
      refine ⟨⟨q + 1, by omega, by go_num, ?_⟩, by simp [intOf]; omega⟩
      rw [hfin.out, hvl.out]
      simp
      omega

set_option maxHeartbeats 1000000 in
theorem few1_any (s : Sch) (A : Option Addr) (n c nx : Nat) (es : List Ent) (w : World) (hs : s.Ok) (hx : nx < 4294967296) (hE : kEnt.At w w.heap.size A n c es) :
    Calls prog 20 #[tabV s A n c nx] w fun e w' => e = .returned (.bool (Tab.small ⟨s, es, nx⟩)) ∧ Below w.heap.size w w' := by
  unfold tabV
  obtain ⟨W1, hW1, hB1, hS1, hC1, hF1, hO1⟩ := boxed w _ rfl #[.int .i64 s.kind, .int .i64 s.cap, .int .i64 s.words, .int .i64 s.ver, .slice A n c, .int .u32 (nx : Int)] 27
  obtain ⟨W2, hW2, hB2, hS2, hC2, hF2, hO2⟩ := boxed W1 _ hS1 #[.int .i64 s.kind, .int .i64 s.cap, .int .i64 s.words, .int .i64 s.ver, .slice A n c, .int .u32 (nx : Int)] 27
  have hB := hB1.trans (hB2.mono (Nat.le_succ _))
  have hT : kTab.At W2 W2.heap.size (some ⟨w.heap.size + 1, 0, none⟩) 1 1 [Tab.mk s es nx] := by
    refine ⟨rfl, Nat.le_refl _, by simp [maxLen], fun i x hi => ?_⟩
    obtain rfl : i = 0 := by
      have := (List.getElem?_eq_some_iff.1 hi).1
      simp at this
      omega
    simp at hi
    subst hi
    refine ⟨_, _, rfl, by simp [hS2], ?_, ⟨A, n, c, rfl, hs, hx, (hE.below hB).mono (by omega)⟩⟩
    intro j u hu
    rw [add_lit0]
    simp only [Nat.zero_mul, Nat.zero_add]
    rw [hC2 j]
    simpa using hu
  have hfin : fewB [Tab.mk s es nx] = Tab.small ⟨s, es, nx⟩ := by simp [fewB]
  replace hfin := Lib.hid hfin
  go_enter func20, ntmps20
  go_wp2_with (go_at_call 40; refine (few_any _ _ _ [Tab.mk s es nx] _ _ hT).mono ?_; rintro e1 w2 ⟨rfl, rfl⟩)
  go_ret
  exact ⟨ret_bool hfin.out, hB⟩
end Go.Proofs.Ytpmnchgpbojppaa
