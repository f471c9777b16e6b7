/-
  PROVED: the statement TableDel of the given seat: whatever the table and the keys, drydocklaw05.TableDel returns true, and what was handed in reads as it did.
  Conditions: none beyond the statement's own.
-/
import Derived.Test.YtpmnchgpbojppaaArgs
import Derived.Test.YtpmnchgpbojppaaDelW
import Derived.Test.YtpmnchgpbojppaaRows
namespace Go.Proofs.Ytpmnchgpbojppaa
open Go.ChangeShapes Go.WideShapes Go.ChangeAt Go.RowKit

theorem delOwn : ownKnob Try.prog.godebug = none := by kernel_rfl
theorem delLaid : laidOutB Try.prog = true := by kernel_rfl

set_option maxRecDepth 100000 in
theorem tableDel_lifted (os : Os) (started : os.Started) (H : Type) (enc : TypeId × Value → H) :
    ReturnsInHanded {} Try.checked os 10 .any (Rows.tableDelSpec.pre6 enc Try.prog Try.f10 Rows.tableDelRow.domain false) (Rows.tableDelSpec.post enc Try.prog Try.f10 false true false false) := by
  refine returnsInHanded_of_change (C := Try.checked) delOwn started (by kernel_rfl) Try.func10
    (ChangeSpec.witness6 (enc := enc) (C := Try.checked) false ⟨#[], #[.agg #[.int .i64 0, .int .i64 0, .int .i64 0, .int .i64 0, .slice none 0 0, .int .u32 0], .int .u32 0, .int .u32 0], []⟩ 8 (by kernel_rfl) (by kernel_rfl) (by kernel_rfl) (by kernel_rfl)) ?_
  intro W base args ds gs before hval0 hW _ _
  have hval : ∀ (j : Nat) t v, Try.f10.params[j]? = some t → args[j]? = some v → Value.okWide Try.prog W .any base t v := hval0
  have hW' := hW
  obtain ⟨p, q, hA0, hV, rfl, hfz, hnd⟩ := hW
  have hA : DataW.TrodAll enc Try.prog W 0 (fun _ => true) true Try.f10.params.toList args.toList ds p := hA0
  rw [Try.params10] at hA hval
  obtain ⟨l⟩ := args
  obtain ⟨v0, l0, d0, ds0, p0, q0, rfl, rfl, _, h0, hA1⟩ := trodAll_cons hA
  obtain ⟨v1, l1, d1, ds1, p1, q1, rfl, rfl, _, h1, hA2⟩ := trodAll_cons hA1
  obtain ⟨v2, l2, d2, ds2, p2, q2, rfl, rfl, _, h2, hA3⟩ := trodAll_cons hA2
  obtain ⟨rfl, rfl, _⟩ := trodAll_nil hA3
  obtain ⟨rfl, rfl⟩ := trodVars_none hV
  obtain ⟨s, A, n, c, nx, es, rfl, hs, hx, hE⟩ := open_tab (hval 0 _ v0 rfl rfl) h0
  obtain ⟨x1, rfl, b1⟩ := open_u32 (hval 1 _ v1 rfl rfl) h1
  obtain ⟨x2, rfl, b2⟩ := open_u32 (hval 2 _ v2 rfl rfl) h2
  refine (tableDel_any s A n c nx x1 x2 es W hs hx b1 b2 hE).mono fun e W' ⟨he, hw⟩ => ?_
  subst he
  exact ⟨_, rfl, post_law delLaid hW' rfl rfl (by kernel_rfl) rfl rfl rfl hw⟩

theorem tableDel_holds : Rows.TableDelSaid :=
  OpenClaim.holds_of_wide 10 Try.f10 rfl rfl rfl rfl rfl rfl rfl ⟨rfl, rfl, rfl, rfl, rfl⟩ rfl rfl rfl rfl rfl (by kernel_rfl) Try.func10 (by kernel_rfl)
    (of_decide_eq_true (by kernel_rfl)) (by unfold Func.isWrapper; first | (rw [if_pos (by decide +kernel)]; kernel_rfl) | (rw [if_neg (by decide +kernel)]; exact ⟨rfl, rfl⟩))
    (fun os started H enc _ => tableDel_lifted os started H enc)
end Go.Proofs.Ytpmnchgpbojppaa
