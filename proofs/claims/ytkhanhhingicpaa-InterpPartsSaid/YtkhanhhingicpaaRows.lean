/-
  No cell of these rows narrows 'for every input' (looked for: loops, veiled, ifaces, maps, wideKeys, modest, calm, conditions, laid).
  DERIVED. THE GIVEN ROWS OF THIS SEAT. 10 by the template 'for every input the law returns true; each argument reads behind the call as it read before'; 0 by the template 'total and deterministic' (their statements: YtkhanhhingicpaaTotals.lean).
  GIVEN WITH THE SEED: the statements are not yours to turn. If you find one false, say at which input.
  Laid BY PROGRAM, IN A SANDBOX (cutbox-rows.mjs): the forced cells as the released guide's own fill.sh prints them over the translation 38de8316954913e9… (all of the seat's roots in one cut). By AI agents, Wed Nov 11 2026. No macro, syntax, notation, axiom, sorry.
-/
import Derived.Test.YtkhanhhingicpaaChecked
import GoSem.Claim
import GoSem.ClaimJoined
import GoSem.ClaimMapViews
import Derived.JoinedTies
import Derived.KernelRfl
namespace Go.Proofs.Ytkhanhhingicpaa
/- THE CELL 'sum', in the pinned program and in every row, IS THE sha256 OF THE DUMP (.gsa) THAT YtkhanhhingicpaaProg.lean LOADS. Nothing in Lean hashes anything: it is a label: what it is worth is what the hold of that sum in a sandbox is worth. -/
noncomputable def Try.pinned : Pinned := { name := "ytkhanhhingicpaa", sum := "38de8316954913e97f9d7dda787627f8a6cf6cb31e7233dad0d6c74f8912c177", checked := Try.checked }
namespace Rows
def none {H : Type} : Left H := { results := [], args := [] }

/-- 'drydocklaw05.TableOwn': WHATEVER THE INPUT: true; the input reads as it did. -/
def tableOwnSpec : ChangeSpec := { name := "tableOwn", fn := fun _ => fun
  | [d1, d2, d3, d4] => { results := [.lit (.bool true)], args := [d1, d2, d3, d4] }
  | _ => none }
def tableOwnRow : OpenClaim := { program := "ytkhanhhingicpaa", sum := "38de8316954913e97f9d7dda787627f8a6cf6cb31e7233dad0d6c74f8912c177", func := "drydock/drydocklaw05.TableOwn", spec := "tableOwn", apart := false }
def TableOwnSaid : Prop := tableOwnRow.holds Try.pinned (OpenSpec.ofChange tableOwnSpec)

/-- ITS FALSE NEIGHBOUR: 'it returns false'. Refute it at one input. -/
def tableOwnWrong : ChangeSpec := { name := "tableOwn", fn := fun _ => fun
  | [d1, d2, d3, d4] => { results := [.lit (.bool false)], args := [d1, d2, d3, d4] }
  | _ => none }
def TableOwnWrongFalsely : Prop := tableOwnRow.holds Try.pinned (OpenSpec.ofChange tableOwnWrong)

/-- 'drydocklaw05.TableTells': WHATEVER THE INPUT: true; the input reads as it did. -/
def tableTellsSpec : ChangeSpec := { name := "tableTells", fn := fun _ => fun
  | [d1, d2, d3, d4] => { results := [.lit (.bool true)], args := [d1, d2, d3, d4] }
  | _ => none }
def tableTellsRow : OpenClaim := { program := "ytkhanhhingicpaa", sum := "38de8316954913e97f9d7dda787627f8a6cf6cb31e7233dad0d6c74f8912c177", func := "drydock/drydocklaw05.TableTells", spec := "tableTells", unfollowed := true, recurses := true, apart := false }
def TableTellsSaid : Prop := tableTellsRow.holds Try.pinned (OpenSpec.ofChange tableTellsSpec)

/-- ITS FALSE NEIGHBOUR: 'it returns false'. Refute it at one input. -/
def tableTellsWrong : ChangeSpec := { name := "tableTells", fn := fun _ => fun
  | [d1, d2, d3, d4] => { results := [.lit (.bool false)], args := [d1, d2, d3, d4] }
  | _ => none }
def TableTellsWrongFalsely : Prop := tableTellsRow.holds Try.pinned (OpenSpec.ofChange tableTellsWrong)

/-- 'drydocklaw06.HelperTells': WHATEVER THE INPUT: true; the input reads as it did. -/
def helperTellsSpec : ChangeSpec := { name := "helperTells", fn := fun _ => fun
  | [d1, d2, d3, d4] => { results := [.lit (.bool true)], args := [d1, d2, d3, d4] }
  | _ => none }
def helperTellsRow : OpenClaim := { program := "ytkhanhhingicpaa", sum := "38de8316954913e97f9d7dda787627f8a6cf6cb31e7233dad0d6c74f8912c177", func := "drydock/drydocklaw06.HelperTells", spec := "helperTells", unfollowed := true, recurses := true, apart := false }
def HelperTellsSaid : Prop := helperTellsRow.holds Try.pinned (OpenSpec.ofChange helperTellsSpec)

/-- ITS FALSE NEIGHBOUR: 'it returns false'. Refute it at one input. -/
def helperTellsWrong : ChangeSpec := { name := "helperTells", fn := fun _ => fun
  | [d1, d2, d3, d4] => { results := [.lit (.bool false)], args := [d1, d2, d3, d4] }
  | _ => none }
def HelperTellsWrongFalsely : Prop := helperTellsRow.holds Try.pinned (OpenSpec.ofChange helperTellsWrong)

/-- 'drydocklaw06.HelperLru': WHATEVER THE INPUT: true; the input reads as it did. -/
def helperLruSpec : ChangeSpec := { name := "helperLru", fn := fun _ => fun
  | [d1, d2] => { results := [.lit (.bool true)], args := [d1, d2] }
  | _ => none }
def helperLruRow : OpenClaim := { program := "ytkhanhhingicpaa", sum := "38de8316954913e97f9d7dda787627f8a6cf6cb31e7233dad0d6c74f8912c177", func := "drydock/drydocklaw06.HelperLru", spec := "helperLru", unfollowed := true, recurses := true, apart := false }
def HelperLruSaid : Prop := helperLruRow.holds Try.pinned (OpenSpec.ofChange helperLruSpec)

/-- ITS FALSE NEIGHBOUR: 'it returns false'. Refute it at one input. -/
def helperLruWrong : ChangeSpec := { name := "helperLru", fn := fun _ => fun
  | [d1, d2] => { results := [.lit (.bool false)], args := [d1, d2] }
  | _ => none }
def HelperLruWrongFalsely : Prop := helperLruRow.holds Try.pinned (OpenSpec.ofChange helperLruWrong)

/-- 'drydocklaw06.HelperFits': WHATEVER THE INPUT: true; the input reads as it did. -/
def helperFitsSpec : ChangeSpec := { name := "helperFits", fn := fun _ => fun
  | [d1, d2, d3] => { results := [.lit (.bool true)], args := [d1, d2, d3] }
  | _ => none }
def helperFitsRow : OpenClaim := { program := "ytkhanhhingicpaa", sum := "38de8316954913e97f9d7dda787627f8a6cf6cb31e7233dad0d6c74f8912c177", func := "drydock/drydocklaw06.HelperFits", spec := "helperFits", unfollowed := true, recurses := true, apart := false }
def HelperFitsSaid : Prop := helperFitsRow.holds Try.pinned (OpenSpec.ofChange helperFitsSpec)

/-- ITS FALSE NEIGHBOUR: 'it returns false'. Refute it at one input. -/
def helperFitsWrong : ChangeSpec := { name := "helperFits", fn := fun _ => fun
  | [d1, d2, d3] => { results := [.lit (.bool false)], args := [d1, d2, d3] }
  | _ => none }
def HelperFitsWrongFalsely : Prop := helperFitsRow.holds Try.pinned (OpenSpec.ofChange helperFitsWrong)

/-- 'drydocklaw07.InterpFuel': WHATEVER THE INPUT: true; the input reads as it did. -/
def interpFuelSpec : ChangeSpec := { name := "interpFuel", fn := fun _ => fun
  | [d1, d2, d3, d4] => { results := [.lit (.bool true)], args := [d1, d2, d3, d4] }
  | _ => none }
def interpFuelRow : OpenClaim := { program := "ytkhanhhingicpaa", sum := "38de8316954913e97f9d7dda787627f8a6cf6cb31e7233dad0d6c74f8912c177", func := "drydock/drydocklaw07.InterpFuel", spec := "interpFuel", unfollowed := true, recurses := true, apart := false }
def InterpFuelSaid : Prop := interpFuelRow.holds Try.pinned (OpenSpec.ofChange interpFuelSpec)

/-- ITS FALSE NEIGHBOUR: 'it returns false'. Refute it at one input. -/
def interpFuelWrong : ChangeSpec := { name := "interpFuel", fn := fun _ => fun
  | [d1, d2, d3, d4] => { results := [.lit (.bool false)], args := [d1, d2, d3, d4] }
  | _ => none }
def InterpFuelWrongFalsely : Prop := interpFuelRow.holds Try.pinned (OpenSpec.ofChange interpFuelWrong)

/-- 'drydocklaw07.InterpKeeps': WHATEVER THE INPUT: true; the input reads as it did. -/
def interpKeepsSpec : ChangeSpec := { name := "interpKeeps", fn := fun _ => fun
  | [d1, d2, d3] => { results := [.lit (.bool true)], args := [d1, d2, d3] }
  | _ => none }
def interpKeepsRow : OpenClaim := { program := "ytkhanhhingicpaa", sum := "38de8316954913e97f9d7dda787627f8a6cf6cb31e7233dad0d6c74f8912c177", func := "drydock/drydocklaw07.InterpKeeps", spec := "interpKeeps", unfollowed := true, recurses := true, apart := false }
def InterpKeepsSaid : Prop := interpKeepsRow.holds Try.pinned (OpenSpec.ofChange interpKeepsSpec)

/-- ITS FALSE NEIGHBOUR: 'it returns false'. Refute it at one input. -/
def interpKeepsWrong : ChangeSpec := { name := "interpKeeps", fn := fun _ => fun
  | [d1, d2, d3] => { results := [.lit (.bool false)], args := [d1, d2, d3] }
  | _ => none }
def InterpKeepsWrongFalsely : Prop := interpKeepsRow.holds Try.pinned (OpenSpec.ofChange interpKeepsWrong)

/-- 'drydocklaw07.InterpEnds': WHATEVER THE INPUT: true; the input reads as it did. -/
def interpEndsSpec : ChangeSpec := { name := "interpEnds", fn := fun _ => fun
  | [d1, d2] => { results := [.lit (.bool true)], args := [d1, d2] }
  | _ => none }
def interpEndsRow : OpenClaim := { program := "ytkhanhhingicpaa", sum := "38de8316954913e97f9d7dda787627f8a6cf6cb31e7233dad0d6c74f8912c177", func := "drydock/drydocklaw07.InterpEnds", spec := "interpEnds", unfollowed := true, recurses := true, apart := false }
def InterpEndsSaid : Prop := interpEndsRow.holds Try.pinned (OpenSpec.ofChange interpEndsSpec)

/-- ITS FALSE NEIGHBOUR: 'it returns false'. Refute it at one input. -/
def interpEndsWrong : ChangeSpec := { name := "interpEnds", fn := fun _ => fun
  | [d1, d2] => { results := [.lit (.bool false)], args := [d1, d2] }
  | _ => none }
def InterpEndsWrongFalsely : Prop := interpEndsRow.holds Try.pinned (OpenSpec.ofChange interpEndsWrong)

/-- 'drydocklaw07.InterpParts': WHATEVER THE INPUT: true; the input reads as it did. -/
def interpPartsSpec : ChangeSpec := { name := "interpParts", fn := fun _ => fun
  | [d1, d2, d3, d4] => { results := [.lit (.bool true)], args := [d1, d2, d3, d4] }
  | _ => none }
def interpPartsRow : OpenClaim := { program := "ytkhanhhingicpaa", sum := "38de8316954913e97f9d7dda787627f8a6cf6cb31e7233dad0d6c74f8912c177", func := "drydock/drydocklaw07.InterpParts", spec := "interpParts", unfollowed := true, recurses := true, apart := false }
def InterpPartsSaid : Prop := interpPartsRow.holds Try.pinned (OpenSpec.ofChange interpPartsSpec)

/-- ITS FALSE NEIGHBOUR: 'it returns false'. Refute it at one input. -/
def interpPartsWrong : ChangeSpec := { name := "interpParts", fn := fun _ => fun
  | [d1, d2, d3, d4] => { results := [.lit (.bool false)], args := [d1, d2, d3, d4] }
  | _ => none }
def InterpPartsWrongFalsely : Prop := interpPartsRow.holds Try.pinned (OpenSpec.ofChange interpPartsWrong)

/-- 'drydocklaw07.InterpSame': WHATEVER THE INPUT: true; the input reads as it did. -/
def interpSameSpec : ChangeSpec := { name := "interpSame", fn := fun _ => fun
  | [d1, d2, d3] => { results := [.lit (.bool true)], args := [d1, d2, d3] }
  | _ => none }
def interpSameRow : OpenClaim := { program := "ytkhanhhingicpaa", sum := "38de8316954913e97f9d7dda787627f8a6cf6cb31e7233dad0d6c74f8912c177", func := "drydock/drydocklaw07.InterpSame", spec := "interpSame", unfollowed := true, recurses := true, apart := false }
def InterpSameSaid : Prop := interpSameRow.holds Try.pinned (OpenSpec.ofChange interpSameSpec)

/-- ITS FALSE NEIGHBOUR: 'it returns false'. Refute it at one input. -/
def interpSameWrong : ChangeSpec := { name := "interpSame", fn := fun _ => fun
  | [d1, d2, d3] => { results := [.lit (.bool false)], args := [d1, d2, d3] }
  | _ => none }
def InterpSameWrongFalsely : Prop := interpSameRow.holds Try.pinned (OpenSpec.ofChange interpSameWrong)

/- THE SECOND FORM. 'bulk': how many values and letters a reading holds, each counted each time it is reached (what is shared counts as often as it is met; a slice's spare places count too). A statement '..UptoSaid' is the law's where the arguments, and the package variables that the reading takes, are together of bulk at most 1048576: NARROWER than '..Said'. Prove '..Said' where nothing that the law and all that it calls make is longer than what came in: it says more and counts as full. Else prove '..UptoSaid'. A law counts once. -/
mutual
def uptoBulk {H : Type} : DataW H → Nat
  | .lit (.string bytes) => bytes.length + 1
  | .lit _ => 1
  | .nil => 1
  | .ptr d => uptoBulk d + 1
  | .slice elems spare => uptoBulkAll elems + uptoBulkAll spare + 1
  | .agg parts => uptoBulkAll parts + 1
  | .iface _ d => uptoBulk d + 1
  | .map entries => uptoBulkEntries entries + 1
  | .held _ => 1
def uptoBulkAll {H : Type} : List (DataW H) → Nat
  | [] => 0
  | d :: r => uptoBulk d + uptoBulkAll r
def uptoBulkEntries {H : Type} : List (Lit × DataW H) → Nat
  | [] => 0
  | x :: r => uptoBulkEntry x + uptoBulkEntries r
def uptoBulkEntry {H : Type} : Lit × DataW H → Nat
  | (.string bytes, d) => bytes.length + uptoBulk d + 1
  | (_, d) => uptoBulk d + 1
 end
def uptoSmall : (H : Type) → List (DataW H) → Bool := fun _ ds => decide (uptoBulkAll ds ≤ 1048576)
def OpenSpec.upto (s : _root_.Go.ChangeSpec) : _root_.Go.OpenSpec := { _root_.Go.OpenSpec.ofChange s with cond := some uptoSmall }

/-- 'drydocklaw05.TableOwn', WHERE WHAT IT READS IS OF BULK AT MOST 1048576: true; the input reads as it did. -/
def tableOwnUptoRow : OpenClaim := { program := "ytkhanhhingicpaa", sum := "38de8316954913e97f9d7dda787627f8a6cf6cb31e7233dad0d6c74f8912c177", func := "drydock/drydocklaw05.TableOwn", spec := "tableOwn", apart := false, narrowed := true }
def TableOwnUptoSaid : Prop := tableOwnUptoRow.holds Try.pinned (OpenSpec.upto tableOwnSpec)

/-- 'drydocklaw05.TableTells', WHERE WHAT IT READS IS OF BULK AT MOST 1048576: true; the input reads as it did. -/
def tableTellsUptoRow : OpenClaim := { program := "ytkhanhhingicpaa", sum := "38de8316954913e97f9d7dda787627f8a6cf6cb31e7233dad0d6c74f8912c177", func := "drydock/drydocklaw05.TableTells", spec := "tableTells", unfollowed := true, recurses := true, apart := false, narrowed := true }
def TableTellsUptoSaid : Prop := tableTellsUptoRow.holds Try.pinned (OpenSpec.upto tableTellsSpec)

/-- 'drydocklaw06.HelperTells', WHERE WHAT IT READS IS OF BULK AT MOST 1048576: true; the input reads as it did. -/
def helperTellsUptoRow : OpenClaim := { program := "ytkhanhhingicpaa", sum := "38de8316954913e97f9d7dda787627f8a6cf6cb31e7233dad0d6c74f8912c177", func := "drydock/drydocklaw06.HelperTells", spec := "helperTells", unfollowed := true, recurses := true, apart := false, narrowed := true }
def HelperTellsUptoSaid : Prop := helperTellsUptoRow.holds Try.pinned (OpenSpec.upto helperTellsSpec)

/-- 'drydocklaw06.HelperLru', WHERE WHAT IT READS IS OF BULK AT MOST 1048576: true; the input reads as it did. -/
def helperLruUptoRow : OpenClaim := { program := "ytkhanhhingicpaa", sum := "38de8316954913e97f9d7dda787627f8a6cf6cb31e7233dad0d6c74f8912c177", func := "drydock/drydocklaw06.HelperLru", spec := "helperLru", unfollowed := true, recurses := true, apart := false, narrowed := true }
def HelperLruUptoSaid : Prop := helperLruUptoRow.holds Try.pinned (OpenSpec.upto helperLruSpec)

/-- 'drydocklaw06.HelperFits', WHERE WHAT IT READS IS OF BULK AT MOST 1048576: true; the input reads as it did. -/
def helperFitsUptoRow : OpenClaim := { program := "ytkhanhhingicpaa", sum := "38de8316954913e97f9d7dda787627f8a6cf6cb31e7233dad0d6c74f8912c177", func := "drydock/drydocklaw06.HelperFits", spec := "helperFits", unfollowed := true, recurses := true, apart := false, narrowed := true }
def HelperFitsUptoSaid : Prop := helperFitsUptoRow.holds Try.pinned (OpenSpec.upto helperFitsSpec)

/-- 'drydocklaw07.InterpFuel', WHERE WHAT IT READS IS OF BULK AT MOST 1048576: true; the input reads as it did. -/
def interpFuelUptoRow : OpenClaim := { program := "ytkhanhhingicpaa", sum := "38de8316954913e97f9d7dda787627f8a6cf6cb31e7233dad0d6c74f8912c177", func := "drydock/drydocklaw07.InterpFuel", spec := "interpFuel", unfollowed := true, recurses := true, apart := false, narrowed := true }
def InterpFuelUptoSaid : Prop := interpFuelUptoRow.holds Try.pinned (OpenSpec.upto interpFuelSpec)

/-- 'drydocklaw07.InterpKeeps', WHERE WHAT IT READS IS OF BULK AT MOST 1048576: true; the input reads as it did. -/
def interpKeepsUptoRow : OpenClaim := { program := "ytkhanhhingicpaa", sum := "38de8316954913e97f9d7dda787627f8a6cf6cb31e7233dad0d6c74f8912c177", func := "drydock/drydocklaw07.InterpKeeps", spec := "interpKeeps", unfollowed := true, recurses := true, apart := false, narrowed := true }
def InterpKeepsUptoSaid : Prop := interpKeepsUptoRow.holds Try.pinned (OpenSpec.upto interpKeepsSpec)

/-- 'drydocklaw07.InterpEnds', WHERE WHAT IT READS IS OF BULK AT MOST 1048576: true; the input reads as it did. -/
def interpEndsUptoRow : OpenClaim := { program := "ytkhanhhingicpaa", sum := "38de8316954913e97f9d7dda787627f8a6cf6cb31e7233dad0d6c74f8912c177", func := "drydock/drydocklaw07.InterpEnds", spec := "interpEnds", unfollowed := true, recurses := true, apart := false, narrowed := true }
def InterpEndsUptoSaid : Prop := interpEndsUptoRow.holds Try.pinned (OpenSpec.upto interpEndsSpec)

/-- 'drydocklaw07.InterpParts', WHERE WHAT IT READS IS OF BULK AT MOST 1048576: true; the input reads as it did. -/
def interpPartsUptoRow : OpenClaim := { program := "ytkhanhhingicpaa", sum := "38de8316954913e97f9d7dda787627f8a6cf6cb31e7233dad0d6c74f8912c177", func := "drydock/drydocklaw07.InterpParts", spec := "interpParts", unfollowed := true, recurses := true, apart := false, narrowed := true }
def InterpPartsUptoSaid : Prop := interpPartsUptoRow.holds Try.pinned (OpenSpec.upto interpPartsSpec)

/-- 'drydocklaw07.InterpSame', WHERE WHAT IT READS IS OF BULK AT MOST 1048576: true; the input reads as it did. -/
def interpSameUptoRow : OpenClaim := { program := "ytkhanhhingicpaa", sum := "38de8316954913e97f9d7dda787627f8a6cf6cb31e7233dad0d6c74f8912c177", func := "drydock/drydocklaw07.InterpSame", spec := "interpSame", unfollowed := true, recurses := true, apart := false, narrowed := true }
def InterpSameUptoSaid : Prop := interpSameUptoRow.holds Try.pinned (OpenSpec.upto interpSameSpec)

end Rows
end Go.Proofs.Ytkhanhhingicpaa
