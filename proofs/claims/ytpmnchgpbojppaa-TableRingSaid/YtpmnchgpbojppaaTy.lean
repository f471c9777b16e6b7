/- The table of types, for the abstract machine (made by a program). -/
import Derived.Test.YtpmnchgpbojppaaMc
import Derived.Test.YtpmnchgpbojppaaProg
set_option linter.unusedVariables false
namespace Go.Proofs.Ytpmnchgpbojppaa
open Go Go.RowKit Go.Proofs.Try

def ti3 : TI := ⟨.int .i64, 1, 8, [.raw (.int .i64 0)]⟩
def ti4 : TI := ⟨.bool, 1, 1, [.raw (.bool false)]⟩
def ti23 : TI := ⟨.st [(0, 3), (1, 3), (2, 3), (3, 3)], 4, 32, [.raw (.int .i64 0), .raw (.int .i64 0), .raw (.int .i64 0), .raw (.int .i64 0)]⟩
def ti24 : TI := ⟨.sl 39, 1, 24, [.sl true []]⟩
def ti25 : TI := ⟨.int .u32, 1, 4, [.raw (.int .u32 0)]⟩
def ti27 : TI := ⟨.st [(0, 23), (4, 24), (5, 25)], 6, 64, [.raw (.int .i64 0), .raw (.int .i64 0), .raw (.int .i64 0), .raw (.int .i64 0), .sl true [], .raw (.int .u32 0)]⟩
def ti30 : TI := ⟨.int .i64, 1, 8, [.raw (.int .i64 0)]⟩
def ti36 : TI := ⟨.sl 25, 1, 24, [.sl true []]⟩
def ti39 : TI := ⟨.st [(0, 25), (1, 36)], 2, 32, [.raw (.int .u32 0), .sl true []]⟩
def ti51 : TI := ⟨.sl 27, 1, 24, [.sl true []]⟩
def ti53 : TI := ⟨.arr 4 25, 4, 16, [.raw (.int .u32 0), .raw (.int .u32 0), .raw (.int .u32 0), .raw (.int .u32 0)]⟩
def ti55 : TI := ⟨.st [(0, 53), (4, 51), (5, 25)], 6, 48, [.raw (.int .u32 0), .raw (.int .u32 0), .raw (.int .u32 0), .raw (.int .u32 0), .sl true [], .raw (.int .u32 0)]⟩
def ti80 : TI := ⟨.fn, 1, 8, [.raw (.nilFunc)]⟩
def ti84 : TI := ⟨.int .u64, 1, 8, [.raw (.int .u64 0)]⟩
def ti85 : TI := ⟨.ptr 87, 1, 8, [.raw (.pointer none)]⟩
def ti87 : TI := ⟨.st [(0, 27)], 6, 64, [.raw (.int .i64 0), .raw (.int .i64 0), .raw (.int .i64 0), .raw (.int .i64 0), .sl true [], .raw (.int .u32 0)]⟩
def ti88 : TI := ⟨.fn, 1, 8, [.raw (.nilFunc)]⟩
def ti89 : TI := ⟨.mp 3 88, 1, 8, [.raw (.map none)]⟩
def ti92 : TI := ⟨.mp 3 3, 1, 8, [.raw (.map none)]⟩
def ti93 : TI := ⟨.sl 3, 1, 24, [.sl true []]⟩
def ti97 : TI := ⟨.st [(0, 36), (1, 4)], 2, 32, [.sl true [], .raw (.bool false)]⟩
def tab : Nat → TI
  | 3 => ti3
  | 4 => ti4
  | 23 => ti23
  | 24 => ti24
  | 25 => ti25
  | 27 => ti27
  | 30 => ti30
  | 36 => ti36
  | 39 => ti39
  | 51 => ti51
  | 53 => ti53
  | 55 => ti55
  | 80 => ti80
  | 84 => ti84
  | 85 => ti85
  | 87 => ti87
  | 88 => ti88
  | 89 => ti89
  | 92 => ti92
  | 93 => ti93
  | 97 => ti97
  | _ => ⟨.other, 0, 0, []⟩
theorem ty3 : TyOk prog 3 ti3 := ⟨underlying3, fun _ => ⟨t3, .int .i64 0, (by kernel_rfl), rfl, rfl, rfl, rfl, rfl, fun v hv => (List.all_eq_true.1 (show (List.all _ Value.oneCell') = true from rfl)) v hv⟩⟩
theorem ty4 : TyOk prog 4 ti4 := ⟨underlying4, fun _ => ⟨t4, .bool false, (by kernel_rfl), rfl, rfl, rfl, rfl, rfl, fun v hv => (List.all_eq_true.1 (show (List.all _ Value.oneCell') = true from rfl)) v hv⟩⟩
theorem ty23 : TyOk prog 23 ti23 := ⟨⟨_, underlying23, rfl, (by simp), stoodInHeld23, eqGuardType23⟩, fun _ => ⟨t23, .agg #[.int .i64 0, .int .i64 0, .int .i64 0, .int .i64 0], (by kernel_rfl), rfl, rfl, rfl, rfl, rfl, fun v hv => (List.all_eq_true.1 (show (List.all _ Value.oneCell') = true from rfl)) v hv⟩⟩
theorem ty24 : TyOk prog 24 ti24 := ⟨underlying24, fun _ => ⟨t24, .slice none 0 0, (by kernel_rfl), rfl, rfl, rfl, rfl, rfl, fun v hv => (List.all_eq_true.1 (show (List.all _ Value.oneCell') = true from rfl)) v hv⟩⟩
theorem ty25 : TyOk prog 25 ti25 := ⟨underlying25, fun _ => ⟨t25, .int .u32 0, (by kernel_rfl), rfl, rfl, rfl, rfl, rfl, fun v hv => (List.all_eq_true.1 (show (List.all _ Value.oneCell') = true from rfl)) v hv⟩⟩
theorem ty27 : TyOk prog 27 ti27 := ⟨⟨_, underlying27, rfl, (by simp), stoodInHeld27, eqGuardType27⟩, fun _ => ⟨t27, .agg #[.int .i64 0, .int .i64 0, .int .i64 0, .int .i64 0, .slice none 0 0, .int .u32 0], (by kernel_rfl), rfl, rfl, rfl, rfl, rfl, fun v hv => (List.all_eq_true.1 (show (List.all _ Value.oneCell') = true from rfl)) v hv⟩⟩
theorem ty30 : TyOk prog 30 ti30 := ⟨underlying30, fun _ => ⟨t30, .int .i64 0, (by kernel_rfl), rfl, rfl, rfl, rfl, rfl, fun v hv => (List.all_eq_true.1 (show (List.all _ Value.oneCell') = true from rfl)) v hv⟩⟩
theorem ty36 : TyOk prog 36 ti36 := ⟨underlying36, fun _ => ⟨t36, .slice none 0 0, (by kernel_rfl), rfl, rfl, rfl, rfl, rfl, fun v hv => (List.all_eq_true.1 (show (List.all _ Value.oneCell') = true from rfl)) v hv⟩⟩
theorem ty39 : TyOk prog 39 ti39 := ⟨⟨_, underlying39, rfl, (by simp), stoodInHeld39, eqGuardType39⟩, fun _ => ⟨t39, .agg #[.int .u32 0, .slice none 0 0], (by kernel_rfl), rfl, rfl, rfl, rfl, rfl, fun v hv => (List.all_eq_true.1 (show (List.all _ Value.oneCell') = true from rfl)) v hv⟩⟩
theorem ty51 : TyOk prog 51 ti51 := ⟨underlying51, fun _ => ⟨t51, .slice none 0 0, (by kernel_rfl), rfl, rfl, rfl, rfl, rfl, fun v hv => (List.all_eq_true.1 (show (List.all _ Value.oneCell') = true from rfl)) v hv⟩⟩
theorem ty53 : TyOk prog 53 ti53 := ⟨⟨underlying53, eqGuardType53⟩, fun _ => ⟨t53, .agg #[.int .u32 0, .int .u32 0, .int .u32 0, .int .u32 0], (by kernel_rfl), rfl, rfl, rfl, rfl, rfl, fun v hv => (List.all_eq_true.1 (show (List.all _ Value.oneCell') = true from rfl)) v hv⟩⟩
theorem ty55 : TyOk prog 55 ti55 := ⟨⟨_, underlying55, rfl, (by simp), stoodInHeld55, eqGuardType55⟩, fun _ => ⟨t55, .agg #[.int .u32 0, .int .u32 0, .int .u32 0, .int .u32 0, .slice none 0 0, .int .u32 0], (by kernel_rfl), rfl, rfl, rfl, rfl, rfl, fun v hv => (List.all_eq_true.1 (show (List.all _ Value.oneCell') = true from rfl)) v hv⟩⟩
theorem ty80 : TyOk prog 80 ti80 := ⟨⟨_, _, _, underlying80⟩, fun _ => ⟨t80, .nilFunc, (by kernel_rfl), rfl, rfl, rfl, rfl, rfl, fun v hv => (List.all_eq_true.1 (show (List.all _ Value.oneCell') = true from rfl)) v hv⟩⟩
theorem ty84 : TyOk prog 84 ti84 := ⟨underlying84, fun _ => ⟨t84, .int .u64 0, (by kernel_rfl), rfl, rfl, rfl, rfl, rfl, fun v hv => (List.all_eq_true.1 (show (List.all _ Value.oneCell') = true from rfl)) v hv⟩⟩
theorem ty85 : TyOk prog 85 ti85 := ⟨underlying85, fun _ => ⟨t85, .pointer none, (by kernel_rfl), rfl, rfl, rfl, rfl, rfl, fun v hv => (List.all_eq_true.1 (show (List.all _ Value.oneCell') = true from rfl)) v hv⟩⟩
theorem ty87 : TyOk prog 87 ti87 := ⟨⟨_, underlying87, rfl, (by simp), stoodInHeld87, eqGuardType87⟩, fun _ => ⟨t87, .agg #[.int .i64 0, .int .i64 0, .int .i64 0, .int .i64 0, .slice none 0 0, .int .u32 0], (by kernel_rfl), rfl, rfl, rfl, rfl, rfl, fun v hv => (List.all_eq_true.1 (show (List.all _ Value.oneCell') = true from rfl)) v hv⟩⟩
theorem ty88 : TyOk prog 88 ti88 := ⟨⟨_, _, _, underlying88⟩, fun _ => ⟨t88, .nilFunc, (by kernel_rfl), rfl, rfl, rfl, rfl, rfl, fun v hv => (List.all_eq_true.1 (show (List.all _ Value.oneCell') = true from rfl)) v hv⟩⟩
theorem ty89 : TyOk prog 89 ti89 := ⟨underlying89, fun _ => ⟨t89, .map none, (by kernel_rfl), rfl, rfl, rfl, rfl, rfl, fun v hv => (List.all_eq_true.1 (show (List.all _ Value.oneCell') = true from rfl)) v hv⟩⟩
theorem ty92 : TyOk prog 92 ti92 := ⟨underlying92, fun _ => ⟨t92, .map none, (by kernel_rfl), rfl, rfl, rfl, rfl, rfl, fun v hv => (List.all_eq_true.1 (show (List.all _ Value.oneCell') = true from rfl)) v hv⟩⟩
theorem ty93 : TyOk prog 93 ti93 := ⟨underlying93, fun _ => ⟨t93, .slice none 0 0, (by kernel_rfl), rfl, rfl, rfl, rfl, rfl, fun v hv => (List.all_eq_true.1 (show (List.all _ Value.oneCell') = true from rfl)) v hv⟩⟩
theorem ty97 : TyOk prog 97 ti97 := ⟨⟨_, underlying97, rfl, (by simp), stoodInHeld97, eqGuardType97⟩, fun _ => ⟨t97, .agg #[.slice none 0 0, .bool false], (by kernel_rfl), rfl, rfl, rfl, rfl, rfl, fun v hv => (List.all_eq_true.1 (show (List.all _ Value.oneCell') = true from rfl)) v hv⟩⟩
theorem known_of {l : List (Nat × Nat)} (h : (l.all fun p => decide (tab p.2).known) = true) : ∀ p ∈ l, (tab p.2).known := fun p hp => of_decide_eq_true ((List.all_eq_true.1 h) p hp)
theorem tyO (t : Nat) : TyOk prog t ⟨.other, 0, 0, []⟩ := ⟨trivial, fun h => h.elim⟩
theorem tabOk : TabOk prog tab where
  ty t := by
    unfold tab
    split
    · exact ty3
    · exact ty4
    · exact ty23
    · exact ty24
    · exact ty25
    · exact ty27
    · exact ty30
    · exact ty36
    · exact ty39
    · exact ty51
    · exact ty53
    · exact ty55
    · exact ty80
    · exact ty84
    · exact ty85
    · exact ty87
    · exact ty88
    · exact ty89
    · exact ty92
    · exact ty93
    · exact ty97
    · exact tyO _
  fk t fs h := by
    revert h
    unfold tab
    split
    · intro h; cases h
    · intro h; cases h
    · intro h; cases h; exact fun p hp => known_of (l := [(0, 3), (1, 3), (2, 3), (3, 3)]) (by decide) p hp
    · intro h; cases h
    · intro h; cases h
    · intro h; cases h; exact fun p hp => known_of (l := [(0, 23), (4, 24), (5, 25)]) (by decide) p hp
    · intro h; cases h
    · intro h; cases h
    · intro h; cases h; exact fun p hp => known_of (l := [(0, 25), (1, 36)]) (by decide) p hp
    · intro h; cases h
    · intro h; cases h
    · intro h; cases h; exact fun p hp => known_of (l := [(0, 53), (4, 51), (5, 25)]) (by decide) p hp
    · intro h; cases h
    · intro h; cases h
    · intro h; cases h
    · intro h; cases h; exact fun p hp => known_of (l := [(0, 27)]) (by decide) p hp
    · intro h; cases h
    · intro h; cases h
    · intro h; cases h
    · intro h; cases h
    · intro h; cases h; exact fun p hp => known_of (l := [(0, 36), (1, 4)]) (by decide) p hp
    · intro h; cases h
  ak t n e h := by
    revert h
    unfold tab
    split
    · intro h; cases h
    · intro h; cases h
    · intro h; cases h
    · intro h; cases h
    · intro h; cases h
    · intro h; cases h
    · intro h; cases h
    · intro h; cases h
    · intro h; cases h
    · intro h; cases h
    · intro h; cases h; exact trivial
    · intro h; cases h
    · intro h; cases h
    · intro h; cases h
    · intro h; cases h
    · intro h; cases h
    · intro h; cases h
    · intro h; cases h
    · intro h; cases h
    · intro h; cases h
    · intro h; cases h
    · intro h; cases h
@[push_cast] theorem tab3 : tab 3 = ti3 := rfl
@[push_cast] theorem tab4 : tab 4 = ti4 := rfl
@[push_cast] theorem tab23 : tab 23 = ti23 := rfl
@[push_cast] theorem tab24 : tab 24 = ti24 := rfl
@[push_cast] theorem tab25 : tab 25 = ti25 := rfl
@[push_cast] theorem tab27 : tab 27 = ti27 := rfl
@[push_cast] theorem tab30 : tab 30 = ti30 := rfl
@[push_cast] theorem tab36 : tab 36 = ti36 := rfl
@[push_cast] theorem tab39 : tab 39 = ti39 := rfl
@[push_cast] theorem tab51 : tab 51 = ti51 := rfl
@[push_cast] theorem tab53 : tab 53 = ti53 := rfl
@[push_cast] theorem tab55 : tab 55 = ti55 := rfl
@[push_cast] theorem tab80 : tab 80 = ti80 := rfl
@[push_cast] theorem tab84 : tab 84 = ti84 := rfl
@[push_cast] theorem tab85 : tab 85 = ti85 := rfl
@[push_cast] theorem tab87 : tab 87 = ti87 := rfl
@[push_cast] theorem tab88 : tab 88 = ti88 := rfl
@[push_cast] theorem tab89 : tab 89 = ti89 := rfl
@[push_cast] theorem tab92 : tab 92 = ti92 := rfl
@[push_cast] theorem tab93 : tab 93 = ti93 := rfl
@[push_cast] theorem tab97 : tab 97 = ti97 := rfl
attribute [push_cast] ti3 ti4 ti23 ti24 ti25 ti27 ti30 ti36 ti39 ti51 ti53 ti55 ti80 ti84 ti85 ti87 ti88 ti89 ti92 ti93 ti97
end Go.Proofs.Ytpmnchgpbojppaa
