/-
  PROVED: the statement TableFull of the given seat: whatever the capacity and the key, drydocklaw05.TableFull returns true.
  Conditions: none beyond the statement's own.
-/
import Derived.Test.YtpmnchgpbojppaaFullW
import Derived.Test.YtpmnchgpbojppaaRow
import Derived.Test.YtpmnchgpbojppaaRows
namespace Go.Proofs.Ytpmnchgpbojppaa
open Go.ChangeShapes Go.WideShapes Go.ChangeAt Go.RowKit

theorem tableFullOwn : ownKnob Try.prog.godebug = none := by kernel_rfl
theorem tableFullLaid : laidOutB Try.prog = true := by kernel_rfl

set_option maxRecDepth 100000 in
theorem tableFull_lifted (os : Os) (started : os.Started) (H : Type) (enc : TypeId × Value → H) :
    ReturnsInHanded {} Try.checked os 8 .any (Rows.tableFullSpec.pre6 enc Try.prog Try.f8 Rows.tableFullRow.domain false) (Rows.tableFullSpec.post enc Try.prog Try.f8 false true false false) := by
  refine returnsInHanded_of_change (C := Try.checked) tableFullOwn started (by kernel_rfl) Try.func8
    (ChangeSpec.witness6 (enc := enc) (C := Try.checked) false ⟨#[], #[.int .i64 0, .int .u32 0], []⟩ 8 (by kernel_rfl) (by kernel_rfl) (by kernel_rfl) (by kernel_rfl)) ?_
  intro W base args ds gs before hval0 hW _ _
  have hval : ∀ (j : Nat) t v, Try.f8.params[j]? = some t → args[j]? = some v → Value.okWide Try.prog W .any base t v := hval0
  have hW' := hW
  obtain ⟨p, q, hA0, hV, rfl, hfz, hnd⟩ := hW
  have hA : DataW.TrodAll enc Try.prog W 0 (fun _ => true) true Try.f8.params.toList args.toList ds p := hA0
  rw [Try.params8] at hA hval
  obtain ⟨l⟩ := args
  obtain ⟨v0, l0, d0, ds0, p0, q0, rfl, rfl, _, h0, hA1⟩ := trodAll_cons hA
  obtain ⟨v1, l1, d1, ds1, p1, q1, rfl, rfl, _, h1, hA2⟩ := trodAll_cons hA1
  obtain ⟨rfl, rfl, _⟩ := trodAll_nil hA2
  obtain ⟨rfl, rfl⟩ := trodVars_none hV
  obtain ⟨x0, rfl, b0⟩ := open_i64 (hval 0 _ v0 rfl rfl) h0
  obtain ⟨x1, rfl, b1⟩ := open_u32 (hval 1 _ v1 rfl rfl) h1
  refine (Ctr.law (tableFull_ctr x0 x1 b1) rfl (VRels.of1 (.cons (.raw _) (.cons (.raw _) (.nil))))).mono fun e W' ⟨he, hw⟩ => ?_
  subst he
  exact ⟨_, rfl, post_law tableFullLaid hW' rfl rfl (by kernel_rfl) rfl rfl rfl hw⟩

theorem tableFull_holds : Rows.TableFullSaid :=
  OpenClaim.holds_of_wide 8 Try.f8 rfl rfl rfl rfl rfl rfl rfl ⟨rfl, rfl, rfl, rfl, rfl⟩ rfl rfl rfl rfl rfl (by kernel_rfl) Try.func8 (by kernel_rfl)
    (of_decide_eq_true (by kernel_rfl)) (by unfold Func.isWrapper; first | (rw [if_pos (by decide +kernel)]; kernel_rfl) | (rw [if_neg (by decide +kernel)]; exact ⟨rfl, rfl⟩))
    (fun os started H enc _ => tableFull_lifted os started H enc)
end Go.Proofs.Ytpmnchgpbojppaa
