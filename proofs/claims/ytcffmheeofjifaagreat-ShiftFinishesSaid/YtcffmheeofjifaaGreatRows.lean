/-
  No cell of these rows narrows 'for every input' (looked for: loops, veiled, ifaces, maps, wideKeys, modest, calm, conditions, laid).
  DERIVED. THE GIVEN ROWS OF THIS SEAT. 8 by the template 'for every input the law returns true; each argument reads behind the call as it read before'; 0 by the template 'total and deterministic' (their statements: YtcffmheeofjifaaGreatTotals.lean).
  GIVEN WITH THE SEED: the statements are not yours to turn. If you find one false, say at which input.
  Laid BY PROGRAM, IN A SANDBOX (cutbox-rows.mjs): the forced cells as the released guide's own fill.sh prints them over the translation ea84f0a1480e8411… (all of the seat's roots in one cut). By AI agents, Wed Nov 11 2026. No macro, syntax, notation, axiom, sorry.
-/
import Derived.Test.YtcffmheeofjifaaGreatChecked
import GoSem.Claim
import GoSem.ClaimJoined
import GoSem.ClaimMapViews
import Derived.JoinedTies
import Derived.KernelRfl
namespace Go.Proofs.YtcffmheeofjifaaGreat
/- THE CELL 'sum', in the pinned program and in every row, IS THE sha256 OF THE DUMP (.gsa) THAT YtcffmheeofjifaaGreatProg.lean LOADS. Nothing in Lean hashes anything: it is a label: what it is worth is what the hold of that sum in a sandbox is worth. -/
noncomputable def Tryz.pinned : Pinned := { name := "ytcffmheeofjifaagreat", sum := "ea84f0a1480e841126db6fa3f0e0d0216d18c23a13588ecf15c480e38a09698c", checked := Tryz.checked }
namespace Rows
def none {H : Type} : Left H := { results := [], args := [] }

/-- 'drydocklaw15.CpuDoor': WHATEVER THE INPUT: true; the input reads as it did. -/
def cpuDoorSpec : ChangeSpec := { name := "cpuDoor", fn := fun _ => fun
  | [d1, d2, d3] => { results := [.lit (.bool true)], args := [d1, d2, d3] }
  | _ => none }
def cpuDoorRow : OpenClaim := { program := "ytcffmheeofjifaagreat", sum := "ea84f0a1480e841126db6fa3f0e0d0216d18c23a13588ecf15c480e38a09698c", func := "drydock/drydocklaw15.CpuDoor", spec := "cpuDoor", unfollowed := true, recurses := true, apart := false }
def CpuDoorSaid : Prop := cpuDoorRow.holds Tryz.pinned (OpenSpec.ofChange cpuDoorSpec)

/-- ITS FALSE NEIGHBOUR: 'it returns false'. Refute it at one input. -/
def cpuDoorWrong : ChangeSpec := { name := "cpuDoor", fn := fun _ => fun
  | [d1, d2, d3] => { results := [.lit (.bool false)], args := [d1, d2, d3] }
  | _ => none }
def CpuDoorWrongFalsely : Prop := cpuDoorRow.holds Tryz.pinned (OpenSpec.ofChange cpuDoorWrong)

/-- 'drydocklaw18.ShiftKeeps': WHATEVER THE INPUT: true; the input reads as it did. -/
def shiftKeepsSpec : ChangeSpec := { name := "shiftKeeps", fn := fun _ => fun
  | [d1, d2, d3] => { results := [.lit (.bool true)], args := [d1, d2, d3] }
  | _ => none }
def shiftKeepsRow : OpenClaim := { program := "ytcffmheeofjifaagreat", sum := "ea84f0a1480e841126db6fa3f0e0d0216d18c23a13588ecf15c480e38a09698c", func := "drydock/drydocklaw18.ShiftKeeps", spec := "shiftKeeps", unfollowed := true, recurses := true, apart := false }
def ShiftKeepsSaid : Prop := shiftKeepsRow.holds Tryz.pinned (OpenSpec.ofChange shiftKeepsSpec)

/-- ITS FALSE NEIGHBOUR: 'it returns false'. Refute it at one input. -/
def shiftKeepsWrong : ChangeSpec := { name := "shiftKeeps", fn := fun _ => fun
  | [d1, d2, d3] => { results := [.lit (.bool false)], args := [d1, d2, d3] }
  | _ => none }
def ShiftKeepsWrongFalsely : Prop := shiftKeepsRow.holds Tryz.pinned (OpenSpec.ofChange shiftKeepsWrong)

/-- 'drydocklaw18.ShiftCopies': WHATEVER THE INPUT: true; the input reads as it did. -/
def shiftCopiesSpec : ChangeSpec := { name := "shiftCopies", fn := fun _ => fun
  | [d1, d2, d3] => { results := [.lit (.bool true)], args := [d1, d2, d3] }
  | _ => none }
def shiftCopiesRow : OpenClaim := { program := "ytcffmheeofjifaagreat", sum := "ea84f0a1480e841126db6fa3f0e0d0216d18c23a13588ecf15c480e38a09698c", func := "drydock/drydocklaw18.ShiftCopies", spec := "shiftCopies", unfollowed := true, recurses := true, apart := false }
def ShiftCopiesSaid : Prop := shiftCopiesRow.holds Tryz.pinned (OpenSpec.ofChange shiftCopiesSpec)

/-- ITS FALSE NEIGHBOUR: 'it returns false'. Refute it at one input. -/
def shiftCopiesWrong : ChangeSpec := { name := "shiftCopies", fn := fun _ => fun
  | [d1, d2, d3] => { results := [.lit (.bool false)], args := [d1, d2, d3] }
  | _ => none }
def ShiftCopiesWrongFalsely : Prop := shiftCopiesRow.holds Tryz.pinned (OpenSpec.ofChange shiftCopiesWrong)

/-- 'drydocklaw18.ShiftRefuses': WHATEVER THE INPUT: true; the input reads as it did. -/
def shiftRefusesSpec : ChangeSpec := { name := "shiftRefuses", fn := fun _ => fun
  | [d1, d2] => { results := [.lit (.bool true)], args := [d1, d2] }
  | _ => none }
def shiftRefusesRow : OpenClaim := { program := "ytcffmheeofjifaagreat", sum := "ea84f0a1480e841126db6fa3f0e0d0216d18c23a13588ecf15c480e38a09698c", func := "drydock/drydocklaw18.ShiftRefuses", spec := "shiftRefuses", unfollowed := true, recurses := true, apart := false }
def ShiftRefusesSaid : Prop := shiftRefusesRow.holds Tryz.pinned (OpenSpec.ofChange shiftRefusesSpec)

/-- ITS FALSE NEIGHBOUR: 'it returns false'. Refute it at one input. -/
def shiftRefusesWrong : ChangeSpec := { name := "shiftRefuses", fn := fun _ => fun
  | [d1, d2] => { results := [.lit (.bool false)], args := [d1, d2] }
  | _ => none }
def ShiftRefusesWrongFalsely : Prop := shiftRefusesRow.holds Tryz.pinned (OpenSpec.ofChange shiftRefusesWrong)

/-- 'drydocklaw15.CpuParts': WHATEVER THE INPUT: true; the input reads as it did. -/
def cpuPartsSpec : ChangeSpec := { name := "cpuParts", fn := fun _ => fun
  | [d1, d2, d3, d4, d5] => { results := [.lit (.bool true)], args := [d1, d2, d3, d4, d5] }
  | _ => none }
def cpuPartsRow : OpenClaim := { program := "ytcffmheeofjifaagreat", sum := "ea84f0a1480e841126db6fa3f0e0d0216d18c23a13588ecf15c480e38a09698c", func := "drydock/drydocklaw15.CpuParts", spec := "cpuParts", unfollowed := true, recurses := true, apart := false }
def CpuPartsSaid : Prop := cpuPartsRow.holds Tryz.pinned (OpenSpec.ofChange cpuPartsSpec)

/-- ITS FALSE NEIGHBOUR: 'it returns false'. Refute it at one input. -/
def cpuPartsWrong : ChangeSpec := { name := "cpuParts", fn := fun _ => fun
  | [d1, d2, d3, d4, d5] => { results := [.lit (.bool false)], args := [d1, d2, d3, d4, d5] }
  | _ => none }
def CpuPartsWrongFalsely : Prop := cpuPartsRow.holds Tryz.pinned (OpenSpec.ofChange cpuPartsWrong)

/-- 'drydocklaw15.CpuOver': WHATEVER THE INPUT: true; the input reads as it did. -/
def cpuOverSpec : ChangeSpec := { name := "cpuOver", fn := fun _ => fun
  | [d1, d2, d3, d4] => { results := [.lit (.bool true)], args := [d1, d2, d3, d4] }
  | _ => none }
def cpuOverRow : OpenClaim := { program := "ytcffmheeofjifaagreat", sum := "ea84f0a1480e841126db6fa3f0e0d0216d18c23a13588ecf15c480e38a09698c", func := "drydock/drydocklaw15.CpuOver", spec := "cpuOver", unfollowed := true, recurses := true, apart := false }
def CpuOverSaid : Prop := cpuOverRow.holds Tryz.pinned (OpenSpec.ofChange cpuOverSpec)

/-- ITS FALSE NEIGHBOUR: 'it returns false'. Refute it at one input. -/
def cpuOverWrong : ChangeSpec := { name := "cpuOver", fn := fun _ => fun
  | [d1, d2, d3, d4] => { results := [.lit (.bool false)], args := [d1, d2, d3, d4] }
  | _ => none }
def CpuOverWrongFalsely : Prop := cpuOverRow.holds Tryz.pinned (OpenSpec.ofChange cpuOverWrong)

/-- 'drydocklaw18.ShiftEnds': WHATEVER THE INPUT: true; the input reads as it did. -/
def shiftEndsSpec : ChangeSpec := { name := "shiftEnds", fn := fun _ => fun
  | [d1, d2, d3] => { results := [.lit (.bool true)], args := [d1, d2, d3] }
  | _ => none }
def shiftEndsRow : OpenClaim := { program := "ytcffmheeofjifaagreat", sum := "ea84f0a1480e841126db6fa3f0e0d0216d18c23a13588ecf15c480e38a09698c", func := "drydock/drydocklaw18.ShiftEnds", spec := "shiftEnds", unfollowed := true, recurses := true, apart := false }
def ShiftEndsSaid : Prop := shiftEndsRow.holds Tryz.pinned (OpenSpec.ofChange shiftEndsSpec)

/-- ITS FALSE NEIGHBOUR: 'it returns false'. Refute it at one input. -/
def shiftEndsWrong : ChangeSpec := { name := "shiftEnds", fn := fun _ => fun
  | [d1, d2, d3] => { results := [.lit (.bool false)], args := [d1, d2, d3] }
  | _ => none }
def ShiftEndsWrongFalsely : Prop := shiftEndsRow.holds Tryz.pinned (OpenSpec.ofChange shiftEndsWrong)

/-- 'drydocklaw18.ShiftFinishes': WHATEVER THE INPUT: true; the input reads as it did. -/
def shiftFinishesSpec : ChangeSpec := { name := "shiftFinishes", fn := fun _ => fun
  | [d1, d2, d3] => { results := [.lit (.bool true)], args := [d1, d2, d3] }
  | _ => none }
def shiftFinishesRow : OpenClaim := { program := "ytcffmheeofjifaagreat", sum := "ea84f0a1480e841126db6fa3f0e0d0216d18c23a13588ecf15c480e38a09698c", func := "drydock/drydocklaw18.ShiftFinishes", spec := "shiftFinishes", unfollowed := true, recurses := true, apart := false }
def ShiftFinishesSaid : Prop := shiftFinishesRow.holds Tryz.pinned (OpenSpec.ofChange shiftFinishesSpec)

/-- ITS FALSE NEIGHBOUR: 'it returns false'. Refute it at one input. -/
def shiftFinishesWrong : ChangeSpec := { name := "shiftFinishes", fn := fun _ => fun
  | [d1, d2, d3] => { results := [.lit (.bool false)], args := [d1, d2, d3] }
  | _ => none }
def ShiftFinishesWrongFalsely : Prop := shiftFinishesRow.holds Tryz.pinned (OpenSpec.ofChange shiftFinishesWrong)

/- THE SECOND FORM. 'bulk': how many values and letters a reading holds, each counted each time it is reached (what is shared counts as often as it is met; a slice's spare places count too). A statement '..UptoSaid' is the law's where the arguments, and the package variables that the reading takes, are together of bulk at most 1048576: NARROWER than '..Said'. Prove '..Said' where nothing that the law and all that it calls make is longer than what came in: it says more and counts as full. Else prove '..UptoSaid'. A law counts once. -/
mutual
def uptoBulk {H : Type} : DataW H → Nat
  | .lit (.string bytes) => bytes.length + 1
  | .lit _ => 1
  | .nil => 1
  | .ptr d => uptoBulk d + 1
  | .slice elems spare => uptoBulkAll elems + uptoBulkAll spare + 1
  | .agg parts => uptoBulkAll parts + 1
  | .iface _ d => uptoBulk d + 1
  | .map entries => uptoBulkEntries entries + 1
  | .held _ => 1
def uptoBulkAll {H : Type} : List (DataW H) → Nat
  | [] => 0
  | d :: r => uptoBulk d + uptoBulkAll r
def uptoBulkEntries {H : Type} : List (Lit × DataW H) → Nat
  | [] => 0
  | x :: r => uptoBulkEntry x + uptoBulkEntries r
def uptoBulkEntry {H : Type} : Lit × DataW H → Nat
  | (.string bytes, d) => bytes.length + uptoBulk d + 1
  | (_, d) => uptoBulk d + 1
 end
def uptoSmall : (H : Type) → List (DataW H) → Bool := fun _ ds => decide (uptoBulkAll ds ≤ 1048576)
def OpenSpec.upto (s : _root_.Go.ChangeSpec) : _root_.Go.OpenSpec := { _root_.Go.OpenSpec.ofChange s with cond := some uptoSmall }

/-- 'drydocklaw15.CpuDoor', WHERE WHAT IT READS IS OF BULK AT MOST 1048576: true; the input reads as it did. -/
def cpuDoorUptoRow : OpenClaim := { program := "ytcffmheeofjifaagreat", sum := "ea84f0a1480e841126db6fa3f0e0d0216d18c23a13588ecf15c480e38a09698c", func := "drydock/drydocklaw15.CpuDoor", spec := "cpuDoor", unfollowed := true, recurses := true, apart := false, narrowed := true }
def CpuDoorUptoSaid : Prop := cpuDoorUptoRow.holds Tryz.pinned (OpenSpec.upto cpuDoorSpec)

/-- 'drydocklaw18.ShiftKeeps', WHERE WHAT IT READS IS OF BULK AT MOST 1048576: true; the input reads as it did. -/
def shiftKeepsUptoRow : OpenClaim := { program := "ytcffmheeofjifaagreat", sum := "ea84f0a1480e841126db6fa3f0e0d0216d18c23a13588ecf15c480e38a09698c", func := "drydock/drydocklaw18.ShiftKeeps", spec := "shiftKeeps", unfollowed := true, recurses := true, apart := false, narrowed := true }
def ShiftKeepsUptoSaid : Prop := shiftKeepsUptoRow.holds Tryz.pinned (OpenSpec.upto shiftKeepsSpec)

/-- 'drydocklaw18.ShiftCopies', WHERE WHAT IT READS IS OF BULK AT MOST 1048576: true; the input reads as it did. -/
def shiftCopiesUptoRow : OpenClaim := { program := "ytcffmheeofjifaagreat", sum := "ea84f0a1480e841126db6fa3f0e0d0216d18c23a13588ecf15c480e38a09698c", func := "drydock/drydocklaw18.ShiftCopies", spec := "shiftCopies", unfollowed := true, recurses := true, apart := false, narrowed := true }
def ShiftCopiesUptoSaid : Prop := shiftCopiesUptoRow.holds Tryz.pinned (OpenSpec.upto shiftCopiesSpec)

/-- 'drydocklaw18.ShiftRefuses', WHERE WHAT IT READS IS OF BULK AT MOST 1048576: true; the input reads as it did. -/
def shiftRefusesUptoRow : OpenClaim := { program := "ytcffmheeofjifaagreat", sum := "ea84f0a1480e841126db6fa3f0e0d0216d18c23a13588ecf15c480e38a09698c", func := "drydock/drydocklaw18.ShiftRefuses", spec := "shiftRefuses", unfollowed := true, recurses := true, apart := false, narrowed := true }
def ShiftRefusesUptoSaid : Prop := shiftRefusesUptoRow.holds Tryz.pinned (OpenSpec.upto shiftRefusesSpec)

/-- 'drydocklaw15.CpuParts', WHERE WHAT IT READS IS OF BULK AT MOST 1048576: true; the input reads as it did. -/
def cpuPartsUptoRow : OpenClaim := { program := "ytcffmheeofjifaagreat", sum := "ea84f0a1480e841126db6fa3f0e0d0216d18c23a13588ecf15c480e38a09698c", func := "drydock/drydocklaw15.CpuParts", spec := "cpuParts", unfollowed := true, recurses := true, apart := false, narrowed := true }
def CpuPartsUptoSaid : Prop := cpuPartsUptoRow.holds Tryz.pinned (OpenSpec.upto cpuPartsSpec)

/-- 'drydocklaw15.CpuOver', WHERE WHAT IT READS IS OF BULK AT MOST 1048576: true; the input reads as it did. -/
def cpuOverUptoRow : OpenClaim := { program := "ytcffmheeofjifaagreat", sum := "ea84f0a1480e841126db6fa3f0e0d0216d18c23a13588ecf15c480e38a09698c", func := "drydock/drydocklaw15.CpuOver", spec := "cpuOver", unfollowed := true, recurses := true, apart := false, narrowed := true }
def CpuOverUptoSaid : Prop := cpuOverUptoRow.holds Tryz.pinned (OpenSpec.upto cpuOverSpec)

/-- 'drydocklaw18.ShiftEnds', WHERE WHAT IT READS IS OF BULK AT MOST 1048576: true; the input reads as it did. -/
def shiftEndsUptoRow : OpenClaim := { program := "ytcffmheeofjifaagreat", sum := "ea84f0a1480e841126db6fa3f0e0d0216d18c23a13588ecf15c480e38a09698c", func := "drydock/drydocklaw18.ShiftEnds", spec := "shiftEnds", unfollowed := true, recurses := true, apart := false, narrowed := true }
def ShiftEndsUptoSaid : Prop := shiftEndsUptoRow.holds Tryz.pinned (OpenSpec.upto shiftEndsSpec)

/-- 'drydocklaw18.ShiftFinishes', WHERE WHAT IT READS IS OF BULK AT MOST 1048576: true; the input reads as it did. -/
def shiftFinishesUptoRow : OpenClaim := { program := "ytcffmheeofjifaagreat", sum := "ea84f0a1480e841126db6fa3f0e0d0216d18c23a13588ecf15c480e38a09698c", func := "drydock/drydocklaw18.ShiftFinishes", spec := "shiftFinishes", unfollowed := true, recurses := true, apart := false, narrowed := true }
def ShiftFinishesUptoSaid : Prop := shiftFinishesUptoRow.holds Tryz.pinned (OpenSpec.upto shiftFinishesSpec)

end Rows
end Go.Proofs.YtcffmheeofjifaaGreat
