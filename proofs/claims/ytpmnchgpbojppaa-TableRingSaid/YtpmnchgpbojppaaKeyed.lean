/- table.words, drydockref05.keyed. -/
import Derived.Test.YtpmnchgpbojppaaMay3
namespace Go.Proofs.Ytpmnchgpbojppaa
open Go Go.RowKit Go.Proofs.Try

/-- May a table be, has it keys, and such a word? -/
def Tab.keyed (t : Tab) (field : Nat) : Bool := t.may && !decide (t.s.kind = 3) && decide ((field : Int) < t.s.words)
theorem Tab.may_sch {t : Tab} (h : t.may = true) : t.s.may = true := by
  have h1 := (t.may_iff.1 h).1
  simp only [Tab.headOk, Bool.and_eq_true] at h1
  exact h1.1.1.1
theorem Tab.may_len {t : Tab} (h : t.may = true) : (t.e.length : Int) ≤ t.s.cap := by
  have h1 := (t.may_iff.1 h).1
  simp only [Tab.headOk, Bool.and_eq_true, decide_eq_true_eq] at h1
  exact h1.1.1.2

set_option maxHeartbeats 2000000 in
theorem words_tab (s : Sch) (A : Option Addr) (n c nx f : Nat) (es : List Ent) (w : World) (hx : nx < 4294967296) (_hf : f < 4294967296) (hE : kEnt.At w w.heap.size A n c es) :
    Calls prog 56 #[tabV s A n c nx, .int .u32 (f : Int)] w fun e w' => e = .returned (.bool (Tab.keyed ⟨s, es, nx⟩ f)) ∧ Below w.heap.size w w' := by
  unfold tabV
  obtain ⟨W1, hW1, hB1, hS1, hC1, hF1, hO1⟩ := boxed w _ rfl #[.int .i64 s.kind, .int .i64 s.cap, .int .i64 s.words, .int .i64 s.ver, .slice A n c, .int .u32 (nx : Int)] 27
  rcases hm : Tab.may ⟨s, es, nx⟩ with _ | _
  · go_enter func56, ntmps56
    go_wp2_with (go_at_call 23; refine (tabMay_any _ _ _ _ _ es _ hx (by exact (hE.below hB1).mono (by omega))).mono ?_; rintro e1 w2 ⟨rfl, hb2⟩)
    go_ret
    exact ⟨ret_bool (by simp [Tab.keyed, hm]), hB1.trans (hb2.mono (by omega))⟩
  · have hb := Sch.may_bounds (Tab.may_sch hm)
    simp only at hb
    obtain ⟨hb1, hb2, hb3, hb4, hb5, hb6, hb7, hb8⟩ := hb
    clear hb7 hb8
    rcases h3 : (s.kind != 3) with _ | _
    all_goals
      go_enter func56, ntmps56
      go_wp2_with (go_at_call 23; refine (tabMay_any _ _ _ _ _ es _ hx (by exact (hE.below hB1).mono (by omega))).mono ?_; rintro e1 w2 ⟨rfl, hb2⟩; have hC2 := boxAt hb2 (by omega) hC1)
      go_ret
      refine ⟨ret_bool ?_, hB1.trans (hb2.mono (by omega))⟩
    · simp at h3
      simp [Tab.keyed, h3]
    · simp at h3
      simp [Tab.keyed, hm, h3]

set_option maxHeartbeats 2000000 in
theorem keyed_any (s : Sch) (A : Option Addr) (n c nx f : Nat) (es : List Ent) (w : World) (hx : nx < 4294967296) (_hf : f < 4294967296) (hE : kEnt.At w w.heap.size A n c es) :
    Calls prog 63 #[tabV s A n c nx, .int .u32 (f : Int)] w fun e w' => e = .returned (.bool (Tab.keyed ⟨s, es, nx⟩ f)) ∧ Below w.heap.size w w' := by
  unfold tabV
  obtain ⟨W1, hW1, hB1, hS1, hC1, hF1, hO1⟩ := boxed w _ rfl #[.int .i64 s.kind, .int .i64 s.cap, .int .i64 s.words, .int .i64 s.ver, .slice A n c, .int .u32 (nx : Int)] 27
  rcases hm : Tab.may ⟨s, es, nx⟩ with _ | _
  · go_enter func63, ntmps63
    go_wp2_with (go_at_call 38; refine (refMay_any _ _ _ _ _ es _ hx (by exact (hE.below hB1).mono (by omega))).mono ?_; rintro e1 w2 ⟨rfl, hb2⟩)
    go_ret
    exact ⟨ret_bool (by simp [Tab.keyed, hm]), hB1.trans (hb2.mono (by omega))⟩
  · have hb := Sch.may_bounds (Tab.may_sch hm)
    simp only at hb
    obtain ⟨hb1, hb2, hb3, hb4, hb5, hb6, hb7, hb8⟩ := hb
    clear hb7 hb8
    rcases h3 : (s.kind != 3) with _ | _
    all_goals
      go_enter func63, ntmps63
      go_wp2_with (go_at_call 38; refine (refMay_any _ _ _ _ _ es _ hx (by exact (hE.below hB1).mono (by omega))).mono ?_; rintro e1 w2 ⟨rfl, hb2⟩; have hC2 := boxAt hb2 (by omega) hC1)
      go_ret
      refine ⟨ret_bool ?_, hB1.trans (hb2.mono (by omega))⟩
    · simp at h3
      simp [Tab.keyed, h3]
    · simp at h3
      simp [Tab.keyed, hm, h3]
end Go.Proofs.Ytpmnchgpbojppaa
