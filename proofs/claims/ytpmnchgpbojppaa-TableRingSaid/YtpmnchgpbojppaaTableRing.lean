/-
  PROVED: the statement TableRing of the given seat: whatever the capacity and the words, drydocklaw05.TableRing returns true, and what was handed in reads as it did.
  Conditions: none beyond the statement's own.
-/
import Derived.Test.YtpmnchgpbojppaaRingW
import Derived.Test.YtpmnchgpbojppaaRow
import Derived.Test.YtpmnchgpbojppaaRows
namespace Go.Proofs.Ytpmnchgpbojppaa
open Go.ChangeShapes Go.WideShapes Go.ChangeAt Go.RowKit

theorem tableRingOwn : ownKnob Try.prog.godebug = none := by kernel_rfl
theorem tableRingLaid : laidOutB Try.prog = true := by kernel_rfl

set_option maxRecDepth 100000 in
theorem tableRing_lifted (os : Os) (started : os.Started) (H : Type) (enc : TypeId × Value → H) :
    ReturnsInHanded {} Try.checked os 6 .any (Rows.tableRingSpec.pre6 enc Try.prog Try.f6 Rows.tableRingRow.domain false) (Rows.tableRingSpec.post enc Try.prog Try.f6 false true false false) := by
  refine returnsInHanded_of_change (C := Try.checked) tableRingOwn started (by kernel_rfl) Try.func6
    (ChangeSpec.witness6 (enc := enc) (C := Try.checked) false ⟨#[], #[.int .i64 0, .slice none 0 0], []⟩ 8 (by kernel_rfl) (by kernel_rfl) (by kernel_rfl) (by kernel_rfl)) ?_
  intro W base args ds gs before hval0 hW _ _
  have hval : ∀ (j : Nat) t v, Try.f6.params[j]? = some t → args[j]? = some v → Value.okWide Try.prog W .any base t v := hval0
  have hW' := hW
  obtain ⟨p, q, hA0, hV, rfl, hfz, hnd⟩ := hW
  have hA : DataW.TrodAll enc Try.prog W 0 (fun _ => true) true Try.f6.params.toList args.toList ds p := hA0
  rw [Try.params6] at hA hval
  obtain ⟨l⟩ := args
  obtain ⟨v0, l0, d0, ds0, p0, q0, rfl, rfl, _, h0, hA1⟩ := trodAll_cons hA
  obtain ⟨v1, l1, d1, ds1, p1, q1, rfl, rfl, _, h1, hA2⟩ := trodAll_cons hA1
  obtain ⟨rfl, rfl, _⟩ := trodAll_nil hA2
  obtain ⟨rfl, rfl⟩ := trodVars_none hV
  obtain ⟨x0, rfl, b0⟩ := open_i64 (hval 0 _ v0 rfl rfl) h0
  obtain ⟨A1, n1, c1, xs1, rfl, hE1⟩ := open_words (hval 1 _ v1 rfl rfl) h1
  refine (Ctr.law (tableRing_ctr x0 false xs1 (lt32_of hE1)) rfl (VRels.of1 (.cons (.raw _) (.cons (.dat (kW_dat (by intro h; cases h) hE1)) (.nil))))).mono fun e W' ⟨he, hw⟩ => ?_
  subst he
  exact ⟨_, rfl, post_law tableRingLaid hW' rfl rfl (by kernel_rfl) rfl rfl rfl hw⟩

theorem tableRing_holds : Rows.TableRingSaid :=
  OpenClaim.holds_of_wide 6 Try.f6 rfl rfl rfl rfl rfl rfl rfl ⟨rfl, rfl, rfl, rfl, rfl⟩ rfl rfl rfl rfl rfl (by kernel_rfl) Try.func6 (by kernel_rfl)
    (of_decide_eq_true (by kernel_rfl)) (by unfold Func.isWrapper; first | (rw [if_pos (by decide +kernel)]; kernel_rfl) | (rw [if_neg (by decide +kernel)]; exact ⟨rfl, rfl⟩))
    (fun os started H enc _ => tableRing_lifted os started H enc)
end Go.Proofs.Ytpmnchgpbojppaa
