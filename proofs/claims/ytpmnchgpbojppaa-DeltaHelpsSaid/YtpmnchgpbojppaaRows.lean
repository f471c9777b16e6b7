/-
  No cell of these rows narrows 'for every input' (looked for: loops, veiled, ifaces, maps, wideKeys, modest, calm, conditions, laid).
  DERIVED. THE GIVEN ROWS OF THIS SEAT. 16 by the template 'for every input the law returns true; each argument reads behind the call as it read before'; 0 by the template 'total and deterministic' (their statements: YtpmnchgpbojppaaTotals.lean).
  GIVEN WITH THE SEED: the statements are not yours to turn. If you find one false, say at which input.
  Laid BY PROGRAM, IN A SANDBOX (cutbox-rows.mjs): the forced cells as the released guide's own fill.sh prints them over the translation 391af0bb900298fe… (all of the seat's roots in one cut). By AI agents, Wed Nov 11 2026. No macro, syntax, notation, axiom, sorry.
-/
import Derived.Test.YtpmnchgpbojppaaChecked
import GoSem.Claim
import GoSem.ClaimJoined
import GoSem.ClaimMapViews
import Derived.JoinedTies
import Derived.KernelRfl
namespace Go.Proofs.Ytpmnchgpbojppaa
/- THE CELL 'sum', in the pinned program and in every row, IS THE sha256 OF THE DUMP (.gsa) THAT YtpmnchgpbojppaaProg.lean LOADS. Nothing in Lean hashes anything: it is a label: what it is worth is what the hold of that sum in a sandbox is worth. -/
noncomputable def Try.pinned : Pinned := { name := "ytpmnchgpbojppaa", sum := "391af0bb900298fe1c51a18da4b747178d5ca98c3586df53ba8ff232ad6ccea5", checked := Try.checked }
namespace Rows
def none {H : Type} : Left H := { results := [], args := [] }

/-- 'drydocklaw05.TableBack': WHATEVER THE INPUT: true; the input reads as it did. -/
def tableBackSpec : ChangeSpec := { name := "tableBack", fn := fun _ => fun
  | [d1, d2, d3, d4, d5, d6] => { results := [.lit (.bool true)], args := [d1, d2, d3, d4, d5, d6] }
  | _ => none }
def tableBackRow : OpenClaim := { program := "ytpmnchgpbojppaa", sum := "391af0bb900298fe1c51a18da4b747178d5ca98c3586df53ba8ff232ad6ccea5", func := "drydock/drydocklaw05.TableBack", spec := "tableBack", apart := false }
def TableBackSaid : Prop := tableBackRow.holds Try.pinned (OpenSpec.ofChange tableBackSpec)

/-- ITS FALSE NEIGHBOUR: 'it returns false'. Refute it at one input. -/
def tableBackWrong : ChangeSpec := { name := "tableBack", fn := fun _ => fun
  | [d1, d2, d3, d4, d5, d6] => { results := [.lit (.bool false)], args := [d1, d2, d3, d4, d5, d6] }
  | _ => none }
def TableBackWrongFalsely : Prop := tableBackRow.holds Try.pinned (OpenSpec.ofChange tableBackWrong)

/-- 'drydocklaw05.TableLru': WHATEVER THE INPUT: true; the input reads as it did. -/
def tableLruSpec : ChangeSpec := { name := "tableLru", fn := fun _ => fun
  | [d1, d2] => { results := [.lit (.bool true)], args := [d1, d2] }
  | _ => none }
def tableLruRow : OpenClaim := { program := "ytpmnchgpbojppaa", sum := "391af0bb900298fe1c51a18da4b747178d5ca98c3586df53ba8ff232ad6ccea5", func := "drydock/drydocklaw05.TableLru", spec := "tableLru", apart := false }
def TableLruSaid : Prop := tableLruRow.holds Try.pinned (OpenSpec.ofChange tableLruSpec)

/-- ITS FALSE NEIGHBOUR: 'it returns false'. Refute it at one input. -/
def tableLruWrong : ChangeSpec := { name := "tableLru", fn := fun _ => fun
  | [d1, d2] => { results := [.lit (.bool false)], args := [d1, d2] }
  | _ => none }
def TableLruWrongFalsely : Prop := tableLruRow.holds Try.pinned (OpenSpec.ofChange tableLruWrong)

/-- 'drydocklaw05.TableGets': WHATEVER THE INPUT: true; the input reads as it did. -/
def tableGetsSpec : ChangeSpec := { name := "tableGets", fn := fun _ => fun
  | [d1, d2, d3] => { results := [.lit (.bool true)], args := [d1, d2, d3] }
  | _ => none }
def tableGetsRow : OpenClaim := { program := "ytpmnchgpbojppaa", sum := "391af0bb900298fe1c51a18da4b747178d5ca98c3586df53ba8ff232ad6ccea5", func := "drydock/drydocklaw05.TableGets", spec := "tableGets", apart := false }
def TableGetsSaid : Prop := tableGetsRow.holds Try.pinned (OpenSpec.ofChange tableGetsSpec)

/-- ITS FALSE NEIGHBOUR: 'it returns false'. Refute it at one input. -/
def tableGetsWrong : ChangeSpec := { name := "tableGets", fn := fun _ => fun
  | [d1, d2, d3] => { results := [.lit (.bool false)], args := [d1, d2, d3] }
  | _ => none }
def TableGetsWrongFalsely : Prop := tableGetsRow.holds Try.pinned (OpenSpec.ofChange tableGetsWrong)

/-- 'drydocklaw05.TableRing': WHATEVER THE INPUT: true; the input reads as it did. -/
def tableRingSpec : ChangeSpec := { name := "tableRing", fn := fun _ => fun
  | [d1, d2] => { results := [.lit (.bool true)], args := [d1, d2] }
  | _ => none }
def tableRingRow : OpenClaim := { program := "ytpmnchgpbojppaa", sum := "391af0bb900298fe1c51a18da4b747178d5ca98c3586df53ba8ff232ad6ccea5", func := "drydock/drydocklaw05.TableRing", spec := "tableRing", apart := false }
def TableRingSaid : Prop := tableRingRow.holds Try.pinned (OpenSpec.ofChange tableRingSpec)

/-- ITS FALSE NEIGHBOUR: 'it returns false'. Refute it at one input. -/
def tableRingWrong : ChangeSpec := { name := "tableRing", fn := fun _ => fun
  | [d1, d2] => { results := [.lit (.bool false)], args := [d1, d2] }
  | _ => none }
def TableRingWrongFalsely : Prop := tableRingRow.holds Try.pinned (OpenSpec.ofChange tableRingWrong)

/-- 'drydocklaw05.TableArray': WHATEVER THE INPUT: true; the input reads as it did. -/
def tableArraySpec : ChangeSpec := { name := "tableArray", fn := fun _ => fun
  | [d1, d2, d3] => { results := [.lit (.bool true)], args := [d1, d2, d3] }
  | _ => none }
def tableArrayRow : OpenClaim := { program := "ytpmnchgpbojppaa", sum := "391af0bb900298fe1c51a18da4b747178d5ca98c3586df53ba8ff232ad6ccea5", func := "drydock/drydocklaw05.TableArray", spec := "tableArray", apart := false }
def TableArraySaid : Prop := tableArrayRow.holds Try.pinned (OpenSpec.ofChange tableArraySpec)

/-- ITS FALSE NEIGHBOUR: 'it returns false'. Refute it at one input. -/
def tableArrayWrong : ChangeSpec := { name := "tableArray", fn := fun _ => fun
  | [d1, d2, d3] => { results := [.lit (.bool false)], args := [d1, d2, d3] }
  | _ => none }
def TableArrayWrongFalsely : Prop := tableArrayRow.holds Try.pinned (OpenSpec.ofChange tableArrayWrong)

/-- 'drydocklaw05.TableFull': WHATEVER THE INPUT: true; the input reads as it did. -/
def tableFullSpec : ChangeSpec := { name := "tableFull", fn := fun _ => fun
  | [d1, d2] => { results := [.lit (.bool true)], args := [d1, d2] }
  | _ => none }
def tableFullRow : OpenClaim := { program := "ytpmnchgpbojppaa", sum := "391af0bb900298fe1c51a18da4b747178d5ca98c3586df53ba8ff232ad6ccea5", func := "drydock/drydocklaw05.TableFull", spec := "tableFull", apart := false }
def TableFullSaid : Prop := tableFullRow.holds Try.pinned (OpenSpec.ofChange tableFullSpec)

/-- ITS FALSE NEIGHBOUR: 'it returns false'. Refute it at one input. -/
def tableFullWrong : ChangeSpec := { name := "tableFull", fn := fun _ => fun
  | [d1, d2] => { results := [.lit (.bool false)], args := [d1, d2] }
  | _ => none }
def TableFullWrongFalsely : Prop := tableFullRow.holds Try.pinned (OpenSpec.ofChange tableFullWrong)

/-- 'drydocklaw05.TableOwn': WHATEVER THE INPUT: true; the input reads as it did. -/
def tableOwnSpec : ChangeSpec := { name := "tableOwn", fn := fun _ => fun
  | [d1, d2, d3, d4] => { results := [.lit (.bool true)], args := [d1, d2, d3, d4] }
  | _ => none }
def tableOwnRow : OpenClaim := { program := "ytpmnchgpbojppaa", sum := "391af0bb900298fe1c51a18da4b747178d5ca98c3586df53ba8ff232ad6ccea5", func := "drydock/drydocklaw05.TableOwn", spec := "tableOwn", apart := false }
def TableOwnSaid : Prop := tableOwnRow.holds Try.pinned (OpenSpec.ofChange tableOwnSpec)

/-- ITS FALSE NEIGHBOUR: 'it returns false'. Refute it at one input. -/
def tableOwnWrong : ChangeSpec := { name := "tableOwn", fn := fun _ => fun
  | [d1, d2, d3, d4] => { results := [.lit (.bool false)], args := [d1, d2, d3, d4] }
  | _ => none }
def TableOwnWrongFalsely : Prop := tableOwnRow.holds Try.pinned (OpenSpec.ofChange tableOwnWrong)

/-- 'drydocklaw05.TableDel': WHATEVER THE INPUT: true; the input reads as it did. -/
def tableDelSpec : ChangeSpec := { name := "tableDel", fn := fun _ => fun
  | [d1, d2, d3] => { results := [.lit (.bool true)], args := [d1, d2, d3] }
  | _ => none }
def tableDelRow : OpenClaim := { program := "ytpmnchgpbojppaa", sum := "391af0bb900298fe1c51a18da4b747178d5ca98c3586df53ba8ff232ad6ccea5", func := "drydock/drydocklaw05.TableDel", spec := "tableDel", unfollowed := true, recurses := true, apart := false }
def TableDelSaid : Prop := tableDelRow.holds Try.pinned (OpenSpec.ofChange tableDelSpec)

/-- ITS FALSE NEIGHBOUR: 'it returns false'. Refute it at one input. -/
def tableDelWrong : ChangeSpec := { name := "tableDel", fn := fun _ => fun
  | [d1, d2, d3] => { results := [.lit (.bool false)], args := [d1, d2, d3] }
  | _ => none }
def TableDelWrongFalsely : Prop := tableDelRow.holds Try.pinned (OpenSpec.ofChange tableDelWrong)

/-- 'drydocklaw05.TableTells': WHATEVER THE INPUT: true; the input reads as it did. -/
def tableTellsSpec : ChangeSpec := { name := "tableTells", fn := fun _ => fun
  | [d1, d2, d3, d4] => { results := [.lit (.bool true)], args := [d1, d2, d3, d4] }
  | _ => none }
def tableTellsRow : OpenClaim := { program := "ytpmnchgpbojppaa", sum := "391af0bb900298fe1c51a18da4b747178d5ca98c3586df53ba8ff232ad6ccea5", func := "drydock/drydocklaw05.TableTells", spec := "tableTells", unfollowed := true, recurses := true, apart := false }
def TableTellsSaid : Prop := tableTellsRow.holds Try.pinned (OpenSpec.ofChange tableTellsSpec)

/-- ITS FALSE NEIGHBOUR: 'it returns false'. Refute it at one input. -/
def tableTellsWrong : ChangeSpec := { name := "tableTells", fn := fun _ => fun
  | [d1, d2, d3, d4] => { results := [.lit (.bool false)], args := [d1, d2, d3, d4] }
  | _ => none }
def TableTellsWrongFalsely : Prop := tableTellsRow.holds Try.pinned (OpenSpec.ofChange tableTellsWrong)

/-- 'drydocklaw06.HelperTells': WHATEVER THE INPUT: true; the input reads as it did. -/
def helperTellsSpec : ChangeSpec := { name := "helperTells", fn := fun _ => fun
  | [d1, d2, d3, d4] => { results := [.lit (.bool true)], args := [d1, d2, d3, d4] }
  | _ => none }
def helperTellsRow : OpenClaim := { program := "ytpmnchgpbojppaa", sum := "391af0bb900298fe1c51a18da4b747178d5ca98c3586df53ba8ff232ad6ccea5", func := "drydock/drydocklaw06.HelperTells", spec := "helperTells", unfollowed := true, recurses := true, apart := false }
def HelperTellsSaid : Prop := helperTellsRow.holds Try.pinned (OpenSpec.ofChange helperTellsSpec)

/-- ITS FALSE NEIGHBOUR: 'it returns false'. Refute it at one input. -/
def helperTellsWrong : ChangeSpec := { name := "helperTells", fn := fun _ => fun
  | [d1, d2, d3, d4] => { results := [.lit (.bool false)], args := [d1, d2, d3, d4] }
  | _ => none }
def HelperTellsWrongFalsely : Prop := helperTellsRow.holds Try.pinned (OpenSpec.ofChange helperTellsWrong)

/-- 'drydocklaw06.HelperKeeps': WHATEVER THE INPUT: true; the input reads as it did. -/
def helperKeepsSpec : ChangeSpec := { name := "helperKeeps", fn := fun _ => fun
  | [d1, d2, d3] => { results := [.lit (.bool true)], args := [d1, d2, d3] }
  | _ => none }
def helperKeepsRow : OpenClaim := { program := "ytpmnchgpbojppaa", sum := "391af0bb900298fe1c51a18da4b747178d5ca98c3586df53ba8ff232ad6ccea5", func := "drydock/drydocklaw06.HelperKeeps", spec := "helperKeeps", unfollowed := true, recurses := true, apart := false }
def HelperKeepsSaid : Prop := helperKeepsRow.holds Try.pinned (OpenSpec.ofChange helperKeepsSpec)

/-- ITS FALSE NEIGHBOUR: 'it returns false'. Refute it at one input. -/
def helperKeepsWrong : ChangeSpec := { name := "helperKeeps", fn := fun _ => fun
  | [d1, d2, d3] => { results := [.lit (.bool false)], args := [d1, d2, d3] }
  | _ => none }
def HelperKeepsWrongFalsely : Prop := helperKeepsRow.holds Try.pinned (OpenSpec.ofChange helperKeepsWrong)

/-- 'drydocklaw06.HelperAfter': WHATEVER THE INPUT: true; the input reads as it did. -/
def helperAfterSpec : ChangeSpec := { name := "helperAfter", fn := fun _ => fun
  | [d1, d2, d3, d4, d5] => { results := [.lit (.bool true)], args := [d1, d2, d3, d4, d5] }
  | _ => none }
def helperAfterRow : OpenClaim := { program := "ytpmnchgpbojppaa", sum := "391af0bb900298fe1c51a18da4b747178d5ca98c3586df53ba8ff232ad6ccea5", func := "drydock/drydocklaw06.HelperAfter", spec := "helperAfter", unfollowed := true, recurses := true, apart := false }
def HelperAfterSaid : Prop := helperAfterRow.holds Try.pinned (OpenSpec.ofChange helperAfterSpec)

/-- ITS FALSE NEIGHBOUR: 'it returns false'. Refute it at one input. -/
def helperAfterWrong : ChangeSpec := { name := "helperAfter", fn := fun _ => fun
  | [d1, d2, d3, d4, d5] => { results := [.lit (.bool false)], args := [d1, d2, d3, d4, d5] }
  | _ => none }
def HelperAfterWrongFalsely : Prop := helperAfterRow.holds Try.pinned (OpenSpec.ofChange helperAfterWrong)

/-- 'drydocklaw06.HelperDraws': WHATEVER THE INPUT: true; the input reads as it did. -/
def helperDrawsSpec : ChangeSpec := { name := "helperDraws", fn := fun _ => fun
  | [d1, d2] => { results := [.lit (.bool true)], args := [d1, d2] }
  | _ => none }
def helperDrawsRow : OpenClaim := { program := "ytpmnchgpbojppaa", sum := "391af0bb900298fe1c51a18da4b747178d5ca98c3586df53ba8ff232ad6ccea5", func := "drydock/drydocklaw06.HelperDraws", spec := "helperDraws", unfollowed := true, recurses := true, apart := false }
def HelperDrawsSaid : Prop := helperDrawsRow.holds Try.pinned (OpenSpec.ofChange helperDrawsSpec)

/-- ITS FALSE NEIGHBOUR: 'it returns false'. Refute it at one input. -/
def helperDrawsWrong : ChangeSpec := { name := "helperDraws", fn := fun _ => fun
  | [d1, d2] => { results := [.lit (.bool false)], args := [d1, d2] }
  | _ => none }
def HelperDrawsWrongFalsely : Prop := helperDrawsRow.holds Try.pinned (OpenSpec.ofChange helperDrawsWrong)

/-- 'drydocklaw06.HelperLru': WHATEVER THE INPUT: true; the input reads as it did. -/
def helperLruSpec : ChangeSpec := { name := "helperLru", fn := fun _ => fun
  | [d1, d2] => { results := [.lit (.bool true)], args := [d1, d2] }
  | _ => none }
def helperLruRow : OpenClaim := { program := "ytpmnchgpbojppaa", sum := "391af0bb900298fe1c51a18da4b747178d5ca98c3586df53ba8ff232ad6ccea5", func := "drydock/drydocklaw06.HelperLru", spec := "helperLru", unfollowed := true, recurses := true, apart := false }
def HelperLruSaid : Prop := helperLruRow.holds Try.pinned (OpenSpec.ofChange helperLruSpec)

/-- ITS FALSE NEIGHBOUR: 'it returns false'. Refute it at one input. -/
def helperLruWrong : ChangeSpec := { name := "helperLru", fn := fun _ => fun
  | [d1, d2] => { results := [.lit (.bool false)], args := [d1, d2] }
  | _ => none }
def HelperLruWrongFalsely : Prop := helperLruRow.holds Try.pinned (OpenSpec.ofChange helperLruWrong)

/-- 'drydocklaw06.HelperFits': WHATEVER THE INPUT: true; the input reads as it did. -/
def helperFitsSpec : ChangeSpec := { name := "helperFits", fn := fun _ => fun
  | [d1, d2, d3] => { results := [.lit (.bool true)], args := [d1, d2, d3] }
  | _ => none }
def helperFitsRow : OpenClaim := { program := "ytpmnchgpbojppaa", sum := "391af0bb900298fe1c51a18da4b747178d5ca98c3586df53ba8ff232ad6ccea5", func := "drydock/drydocklaw06.HelperFits", spec := "helperFits", unfollowed := true, recurses := true, apart := false }
def HelperFitsSaid : Prop := helperFitsRow.holds Try.pinned (OpenSpec.ofChange helperFitsSpec)

/-- ITS FALSE NEIGHBOUR: 'it returns false'. Refute it at one input. -/
def helperFitsWrong : ChangeSpec := { name := "helperFits", fn := fun _ => fun
  | [d1, d2, d3] => { results := [.lit (.bool false)], args := [d1, d2, d3] }
  | _ => none }
def HelperFitsWrongFalsely : Prop := helperFitsRow.holds Try.pinned (OpenSpec.ofChange helperFitsWrong)

/-- 'drydocklaw19.DeltaHelps': WHATEVER THE INPUT: true; the input reads as it did. -/
def deltaHelpsSpec : ChangeSpec := { name := "deltaHelps", fn := fun _ => fun
  | [d1, d2, d3, d4] => { results := [.lit (.bool true)], args := [d1, d2, d3, d4] }
  | _ => none }
def deltaHelpsRow : OpenClaim := { program := "ytpmnchgpbojppaa", sum := "391af0bb900298fe1c51a18da4b747178d5ca98c3586df53ba8ff232ad6ccea5", func := "drydock/drydocklaw19.DeltaHelps", spec := "deltaHelps", unfollowed := true, recurses := true, apart := false }
def DeltaHelpsSaid : Prop := deltaHelpsRow.holds Try.pinned (OpenSpec.ofChange deltaHelpsSpec)

/-- ITS FALSE NEIGHBOUR: 'it returns false'. Refute it at one input. -/
def deltaHelpsWrong : ChangeSpec := { name := "deltaHelps", fn := fun _ => fun
  | [d1, d2, d3, d4] => { results := [.lit (.bool false)], args := [d1, d2, d3, d4] }
  | _ => none }
def DeltaHelpsWrongFalsely : Prop := deltaHelpsRow.holds Try.pinned (OpenSpec.ofChange deltaHelpsWrong)

/- THE SECOND FORM. 'bulk': how many values and letters a reading holds, each counted each time it is reached (what is shared counts as often as it is met; a slice's spare places count too). A statement '..UptoSaid' is the law's where the arguments, and the package variables that the reading takes, are together of bulk at most 1048576: NARROWER than '..Said'. Prove '..Said' where nothing that the law and all that it calls make is longer than what came in: it says more and counts as full. Else prove '..UptoSaid'. A law counts once. -/
mutual
def uptoBulk {H : Type} : DataW H → Nat
  | .lit (.string bytes) => bytes.length + 1
  | .lit _ => 1
  | .nil => 1
  | .ptr d => uptoBulk d + 1
  | .slice elems spare => uptoBulkAll elems + uptoBulkAll spare + 1
  | .agg parts => uptoBulkAll parts + 1
  | .iface _ d => uptoBulk d + 1
  | .map entries => uptoBulkEntries entries + 1
  | .held _ => 1
def uptoBulkAll {H : Type} : List (DataW H) → Nat
  | [] => 0
  | d :: r => uptoBulk d + uptoBulkAll r
def uptoBulkEntries {H : Type} : List (Lit × DataW H) → Nat
  | [] => 0
  | x :: r => uptoBulkEntry x + uptoBulkEntries r
def uptoBulkEntry {H : Type} : Lit × DataW H → Nat
  | (.string bytes, d) => bytes.length + uptoBulk d + 1
  | (_, d) => uptoBulk d + 1
 end
def uptoSmall : (H : Type) → List (DataW H) → Bool := fun _ ds => decide (uptoBulkAll ds ≤ 1048576)
def OpenSpec.upto (s : _root_.Go.ChangeSpec) : _root_.Go.OpenSpec := { _root_.Go.OpenSpec.ofChange s with cond := some uptoSmall }

/-- 'drydocklaw05.TableBack', WHERE WHAT IT READS IS OF BULK AT MOST 1048576: true; the input reads as it did. -/
def tableBackUptoRow : OpenClaim := { program := "ytpmnchgpbojppaa", sum := "391af0bb900298fe1c51a18da4b747178d5ca98c3586df53ba8ff232ad6ccea5", func := "drydock/drydocklaw05.TableBack", spec := "tableBack", apart := false, narrowed := true }
def TableBackUptoSaid : Prop := tableBackUptoRow.holds Try.pinned (OpenSpec.upto tableBackSpec)

/-- 'drydocklaw05.TableLru', WHERE WHAT IT READS IS OF BULK AT MOST 1048576: true; the input reads as it did. -/
def tableLruUptoRow : OpenClaim := { program := "ytpmnchgpbojppaa", sum := "391af0bb900298fe1c51a18da4b747178d5ca98c3586df53ba8ff232ad6ccea5", func := "drydock/drydocklaw05.TableLru", spec := "tableLru", apart := false, narrowed := true }
def TableLruUptoSaid : Prop := tableLruUptoRow.holds Try.pinned (OpenSpec.upto tableLruSpec)

/-- 'drydocklaw05.TableGets', WHERE WHAT IT READS IS OF BULK AT MOST 1048576: true; the input reads as it did. -/
def tableGetsUptoRow : OpenClaim := { program := "ytpmnchgpbojppaa", sum := "391af0bb900298fe1c51a18da4b747178d5ca98c3586df53ba8ff232ad6ccea5", func := "drydock/drydocklaw05.TableGets", spec := "tableGets", apart := false, narrowed := true }
def TableGetsUptoSaid : Prop := tableGetsUptoRow.holds Try.pinned (OpenSpec.upto tableGetsSpec)

/-- 'drydocklaw05.TableRing', WHERE WHAT IT READS IS OF BULK AT MOST 1048576: true; the input reads as it did. -/
def tableRingUptoRow : OpenClaim := { program := "ytpmnchgpbojppaa", sum := "391af0bb900298fe1c51a18da4b747178d5ca98c3586df53ba8ff232ad6ccea5", func := "drydock/drydocklaw05.TableRing", spec := "tableRing", apart := false, narrowed := true }
def TableRingUptoSaid : Prop := tableRingUptoRow.holds Try.pinned (OpenSpec.upto tableRingSpec)

/-- 'drydocklaw05.TableArray', WHERE WHAT IT READS IS OF BULK AT MOST 1048576: true; the input reads as it did. -/
def tableArrayUptoRow : OpenClaim := { program := "ytpmnchgpbojppaa", sum := "391af0bb900298fe1c51a18da4b747178d5ca98c3586df53ba8ff232ad6ccea5", func := "drydock/drydocklaw05.TableArray", spec := "tableArray", apart := false, narrowed := true }
def TableArrayUptoSaid : Prop := tableArrayUptoRow.holds Try.pinned (OpenSpec.upto tableArraySpec)

/-- 'drydocklaw05.TableFull', WHERE WHAT IT READS IS OF BULK AT MOST 1048576: true; the input reads as it did. -/
def tableFullUptoRow : OpenClaim := { program := "ytpmnchgpbojppaa", sum := "391af0bb900298fe1c51a18da4b747178d5ca98c3586df53ba8ff232ad6ccea5", func := "drydock/drydocklaw05.TableFull", spec := "tableFull", apart := false, narrowed := true }
def TableFullUptoSaid : Prop := tableFullUptoRow.holds Try.pinned (OpenSpec.upto tableFullSpec)

/-- 'drydocklaw05.TableOwn', WHERE WHAT IT READS IS OF BULK AT MOST 1048576: true; the input reads as it did. -/
def tableOwnUptoRow : OpenClaim := { program := "ytpmnchgpbojppaa", sum := "391af0bb900298fe1c51a18da4b747178d5ca98c3586df53ba8ff232ad6ccea5", func := "drydock/drydocklaw05.TableOwn", spec := "tableOwn", apart := false, narrowed := true }
def TableOwnUptoSaid : Prop := tableOwnUptoRow.holds Try.pinned (OpenSpec.upto tableOwnSpec)

/-- 'drydocklaw05.TableDel', WHERE WHAT IT READS IS OF BULK AT MOST 1048576: true; the input reads as it did. -/
def tableDelUptoRow : OpenClaim := { program := "ytpmnchgpbojppaa", sum := "391af0bb900298fe1c51a18da4b747178d5ca98c3586df53ba8ff232ad6ccea5", func := "drydock/drydocklaw05.TableDel", spec := "tableDel", unfollowed := true, recurses := true, apart := false, narrowed := true }
def TableDelUptoSaid : Prop := tableDelUptoRow.holds Try.pinned (OpenSpec.upto tableDelSpec)

/-- 'drydocklaw05.TableTells', WHERE WHAT IT READS IS OF BULK AT MOST 1048576: true; the input reads as it did. -/
def tableTellsUptoRow : OpenClaim := { program := "ytpmnchgpbojppaa", sum := "391af0bb900298fe1c51a18da4b747178d5ca98c3586df53ba8ff232ad6ccea5", func := "drydock/drydocklaw05.TableTells", spec := "tableTells", unfollowed := true, recurses := true, apart := false, narrowed := true }
def TableTellsUptoSaid : Prop := tableTellsUptoRow.holds Try.pinned (OpenSpec.upto tableTellsSpec)

/-- 'drydocklaw06.HelperTells', WHERE WHAT IT READS IS OF BULK AT MOST 1048576: true; the input reads as it did. -/
def helperTellsUptoRow : OpenClaim := { program := "ytpmnchgpbojppaa", sum := "391af0bb900298fe1c51a18da4b747178d5ca98c3586df53ba8ff232ad6ccea5", func := "drydock/drydocklaw06.HelperTells", spec := "helperTells", unfollowed := true, recurses := true, apart := false, narrowed := true }
def HelperTellsUptoSaid : Prop := helperTellsUptoRow.holds Try.pinned (OpenSpec.upto helperTellsSpec)

/-- 'drydocklaw06.HelperKeeps', WHERE WHAT IT READS IS OF BULK AT MOST 1048576: true; the input reads as it did. -/
def helperKeepsUptoRow : OpenClaim := { program := "ytpmnchgpbojppaa", sum := "391af0bb900298fe1c51a18da4b747178d5ca98c3586df53ba8ff232ad6ccea5", func := "drydock/drydocklaw06.HelperKeeps", spec := "helperKeeps", unfollowed := true, recurses := true, apart := false, narrowed := true }
def HelperKeepsUptoSaid : Prop := helperKeepsUptoRow.holds Try.pinned (OpenSpec.upto helperKeepsSpec)

/-- 'drydocklaw06.HelperAfter', WHERE WHAT IT READS IS OF BULK AT MOST 1048576: true; the input reads as it did. -/
def helperAfterUptoRow : OpenClaim := { program := "ytpmnchgpbojppaa", sum := "391af0bb900298fe1c51a18da4b747178d5ca98c3586df53ba8ff232ad6ccea5", func := "drydock/drydocklaw06.HelperAfter", spec := "helperAfter", unfollowed := true, recurses := true, apart := false, narrowed := true }
def HelperAfterUptoSaid : Prop := helperAfterUptoRow.holds Try.pinned (OpenSpec.upto helperAfterSpec)

/-- 'drydocklaw06.HelperDraws', WHERE WHAT IT READS IS OF BULK AT MOST 1048576: true; the input reads as it did. -/
def helperDrawsUptoRow : OpenClaim := { program := "ytpmnchgpbojppaa", sum := "391af0bb900298fe1c51a18da4b747178d5ca98c3586df53ba8ff232ad6ccea5", func := "drydock/drydocklaw06.HelperDraws", spec := "helperDraws", unfollowed := true, recurses := true, apart := false, narrowed := true }
def HelperDrawsUptoSaid : Prop := helperDrawsUptoRow.holds Try.pinned (OpenSpec.upto helperDrawsSpec)

/-- 'drydocklaw06.HelperLru', WHERE WHAT IT READS IS OF BULK AT MOST 1048576: true; the input reads as it did. -/
def helperLruUptoRow : OpenClaim := { program := "ytpmnchgpbojppaa", sum := "391af0bb900298fe1c51a18da4b747178d5ca98c3586df53ba8ff232ad6ccea5", func := "drydock/drydocklaw06.HelperLru", spec := "helperLru", unfollowed := true, recurses := true, apart := false, narrowed := true }
def HelperLruUptoSaid : Prop := helperLruUptoRow.holds Try.pinned (OpenSpec.upto helperLruSpec)

/-- 'drydocklaw06.HelperFits', WHERE WHAT IT READS IS OF BULK AT MOST 1048576: true; the input reads as it did. -/
def helperFitsUptoRow : OpenClaim := { program := "ytpmnchgpbojppaa", sum := "391af0bb900298fe1c51a18da4b747178d5ca98c3586df53ba8ff232ad6ccea5", func := "drydock/drydocklaw06.HelperFits", spec := "helperFits", unfollowed := true, recurses := true, apart := false, narrowed := true }
def HelperFitsUptoSaid : Prop := helperFitsUptoRow.holds Try.pinned (OpenSpec.upto helperFitsSpec)

/-- 'drydocklaw19.DeltaHelps', WHERE WHAT IT READS IS OF BULK AT MOST 1048576: true; the input reads as it did. -/
def deltaHelpsUptoRow : OpenClaim := { program := "ytpmnchgpbojppaa", sum := "391af0bb900298fe1c51a18da4b747178d5ca98c3586df53ba8ff232ad6ccea5", func := "drydock/drydocklaw19.DeltaHelps", spec := "deltaHelps", unfollowed := true, recurses := true, apart := false, narrowed := true }
def DeltaHelpsUptoSaid : Prop := deltaHelpsUptoRow.holds Try.pinned (OpenSpec.upto deltaHelpsSpec)

end Rows
end Go.Proofs.Ytpmnchgpbojppaa
