/-
  PROVED: the statement TableBack of the given seat: whatever the table, the keys and the words, drydocklaw05.TableBack returns true, and what was handed in reads as it did.
  Conditions: none beyond the statement's own.
-/
import Derived.Test.YtpmnchgpbojppaaArgs
import Derived.Test.YtpmnchgpbojppaaBackW
import Derived.Test.YtpmnchgpbojppaaRows
namespace Go.Proofs.Ytpmnchgpbojppaa
open Go.ChangeShapes Go.WideShapes Go.ChangeAt Go.RowKit

theorem backOwn : ownKnob Try.prog.godebug = none := by kernel_rfl
theorem backLaid : laidOutB Try.prog = true := by kernel_rfl

set_option maxRecDepth 100000 in
theorem tableBack_lifted (os : Os) (started : os.Started) (H : Type) (enc : TypeId × Value → H) :
    ReturnsInHanded {} Try.checked os 3 .any (Rows.tableBackSpec.pre6 enc Try.prog Try.f3 Rows.tableBackRow.domain false) (Rows.tableBackSpec.post enc Try.prog Try.f3 false true false false) := by
  refine returnsInHanded_of_change (C := Try.checked) backOwn started (by kernel_rfl) Try.func3
    (ChangeSpec.witness6 (enc := enc) (C := Try.checked) false ⟨#[], #[.agg #[.int .i64 0, .int .i64 0, .int .i64 0, .int .i64 0, .slice none 0 0, .int .u32 0], .int .u32 0, .int .u32 0, .int .u32 0, .int .u32 0, .int .u32 0], []⟩ 8 (by kernel_rfl) (by kernel_rfl) (by kernel_rfl) (by kernel_rfl)) ?_
  intro W base args ds gs before hval0 hW _ _
  have hval : ∀ (j : Nat) t v, Try.f3.params[j]? = some t → args[j]? = some v → Value.okWide Try.prog W .any base t v := hval0
  have hW' := hW
  obtain ⟨p, q, hA0, hV, rfl, hfz, hnd⟩ := hW
  have hA : DataW.TrodAll enc Try.prog W 0 (fun _ => true) true Try.f3.params.toList args.toList ds p := hA0
  rw [Try.params3] at hA hval
  obtain ⟨l⟩ := args
  obtain ⟨v0, l0, d0, ds0, p0, q0, rfl, rfl, _, h0, hA1⟩ := trodAll_cons hA
  obtain ⟨v1, l1, d1, ds1, p1, q1, rfl, rfl, _, h1, hA2⟩ := trodAll_cons hA1
  obtain ⟨v2, l2, d2, ds2, p2, q2, rfl, rfl, _, h2, hA3⟩ := trodAll_cons hA2
  obtain ⟨v3, l3, d3, ds3, p3, q3, rfl, rfl, _, h3, hA4⟩ := trodAll_cons hA3
  obtain ⟨v4, l4, d4, ds4, p4, q4, rfl, rfl, _, h4, hA5⟩ := trodAll_cons hA4
  obtain ⟨v5, l5, d5, ds5, p5, q5, rfl, rfl, _, h5, hA6⟩ := trodAll_cons hA5
  obtain ⟨rfl, rfl, _⟩ := trodAll_nil hA6
  obtain ⟨rfl, rfl⟩ := trodVars_none hV
  obtain ⟨s, A, n, c, nx, es, rfl, hs, hx, hE⟩ := open_tab (hval 0 _ v0 rfl rfl) h0
  obtain ⟨x1, rfl, b1⟩ := open_u32 (hval 1 _ v1 rfl rfl) h1
  obtain ⟨x2, rfl, b2⟩ := open_u32 (hval 2 _ v2 rfl rfl) h2
  obtain ⟨x3, rfl, b3⟩ := open_u32 (hval 3 _ v3 rfl rfl) h3
  obtain ⟨x4, rfl, b4⟩ := open_u32 (hval 4 _ v4 rfl rfl) h4
  obtain ⟨x5, rfl, b5⟩ := open_u32 (hval 5 _ v5 rfl rfl) h5
  refine (tableBack_any s A n c nx x1 x2 x3 x4 x5 es W hs hx b2 b1 b3 b4 b5 hE).mono fun e W' ⟨he, hw⟩ => ?_
  subst he
  exact ⟨_, rfl, post_law backLaid hW' rfl rfl (by kernel_rfl) rfl rfl rfl hw⟩

theorem tableBack_holds : Rows.TableBackSaid :=
  OpenClaim.holds_of_wide 3 Try.f3 rfl rfl rfl rfl rfl rfl rfl ⟨rfl, rfl, rfl, rfl, rfl⟩ rfl rfl rfl rfl rfl (by kernel_rfl) Try.func3 (by kernel_rfl)
    (of_decide_eq_true (by kernel_rfl)) (by unfold Func.isWrapper; first | (rw [if_pos (by decide +kernel)]; kernel_rfl) | (rw [if_neg (by decide +kernel)]; exact ⟨rfl, rfl⟩))
    (fun os started H enc _ => tableBack_lifted os started H enc)
end Go.Proofs.Ytpmnchgpbojppaa
