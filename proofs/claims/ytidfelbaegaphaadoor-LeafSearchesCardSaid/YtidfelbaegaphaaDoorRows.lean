/-
  NARROWER THAN 'FOR EVERY INPUT', by the rows' own cells (each row's printed sentence says how): LeafFolds: laid · LeafSearches: laid · LeafPuts: laid.
  DERIVED. THE GIVEN ROWS OF THIS SEAT. 3 by the template 'for every input the law returns true; each argument reads behind the call as it read before'; 0 by the template 'total and deterministic' (their statements: YtidfelbaegaphaaDoorTotals.lean).
  GIVEN WITH THE SEED: the statements are not yours to turn. If you find one false, say at which input.
  Laid BY PROGRAM, IN A SANDBOX (cutbox-rows.mjs): the forced cells as the released guide's own fill.sh prints them over the translation e1adadbb6745ab62… (all of the seat's roots in one cut). By AI agents, Wed Nov 11 2026. No macro, syntax, notation, axiom, sorry.
-/
import Derived.Test.YtidfelbaegaphaaDoorChecked
import GoSem.Claim
import GoSem.ClaimJoined
import GoSem.ClaimMapViews
import Derived.JoinedTies
import Derived.KernelRfl
namespace Go.Proofs.YtidfelbaegaphaaDoor
/- THE CELL 'sum', in the pinned program and in every row, IS THE sha256 OF THE DUMP (.gsa) THAT YtidfelbaegaphaaDoorProg.lean LOADS. Nothing in Lean hashes anything: it is a label: what it is worth is what the hold of that sum in a sandbox is worth. -/
noncomputable def Tryd.pinned : Pinned := { name := "ytidfelbaegaphaadoor", sum := "e1adadbb6745ab62d04034eb789f8d29f95b8d2932cb47be068590aade94199c", checked := Tryd.checked }
namespace Rows
def none {H : Type} : Left H := { results := [], args := [] }

/- WHAT THE LISTED PACKAGE-LEVEL VARIABLES READ AS WHEN THE CALL BEGINS. Each datum BY PROGRAM (the guide's laid-datum.mjs) off the statement by which the dump's own 'gosem.cut.vars' lays the variable. In a bare row this is a premise. The card (YtidfelbaegaphaaDoorCards.lean) ties it to the program's text. -/
def laid_errors_errorType {H : Type} : DataW H := .iface "internal/reflectlite.rtype" (.agg [.ptr (.lit (.string [101, 114, 114, 111, 114]))])

/-- 'rowlocklaw07.LeafFolds': WHATEVER THE INPUT: true; the input reads as it did. -/
def leafFoldsSpec : ChangeSpec := { name := "leafFolds", fn := fun _ => fun
  | [d] => { results := [.lit (.bool true)], args := [d] }
  | _ => none }
def leafFoldsRow : OpenClaim := { program := "ytidfelbaegaphaadoor", sum := "e1adadbb6745ab62d04034eb789f8d29f95b8d2932cb47be068590aade94199c", func := "rowlock/rowlocklaw07.LeafFolds", spec := "leafFolds", inPlace := ["internal/reflectlite.ValueOf", "(internal/reflectlite.Value).Type", "(internal/reflectlite.Value).IsNil", "internal/reflectlite.TypeOf", "(internal/reflectlite.Value).Elem", "(internal/reflectlite.Value).Set"], unfollowed := true, recurses := true, named := ["errors.errorType"], apart := false, laid := [("errors.errorType", laid_errors_errorType)] }
def LeafFoldsSaid : Prop := leafFoldsRow.holds Tryd.pinned (OpenSpec.ofChange leafFoldsSpec)

/-- ITS FALSE NEIGHBOUR: 'it returns false'. Refute it at one input. -/
def leafFoldsWrong : ChangeSpec := { name := "leafFolds", fn := fun _ => fun
  | [d] => { results := [.lit (.bool false)], args := [d] }
  | _ => none }
def LeafFoldsWrongFalsely : Prop := leafFoldsRow.holds Tryd.pinned (OpenSpec.ofChange leafFoldsWrong)

/-- 'rowlocklaw07.LeafSearches': WHATEVER THE INPUT: true; the input reads as it did. -/
def leafSearchesSpec : ChangeSpec := { name := "leafSearches", fn := fun _ => fun
  | [d1, d2] => { results := [.lit (.bool true)], args := [d1, d2] }
  | _ => none }
def leafSearchesRow : OpenClaim := { program := "ytidfelbaegaphaadoor", sum := "e1adadbb6745ab62d04034eb789f8d29f95b8d2932cb47be068590aade94199c", func := "rowlock/rowlocklaw07.LeafSearches", spec := "leafSearches", inPlace := ["internal/reflectlite.ValueOf", "(internal/reflectlite.Value).Type", "(internal/reflectlite.Value).IsNil", "internal/reflectlite.TypeOf", "(internal/reflectlite.Value).Elem", "(internal/reflectlite.Value).Set"], unfollowed := true, recurses := true, named := ["errors.errorType"], apart := false, laid := [("errors.errorType", laid_errors_errorType)] }
def LeafSearchesSaid : Prop := leafSearchesRow.holds Tryd.pinned (OpenSpec.ofChange leafSearchesSpec)

/-- ITS FALSE NEIGHBOUR: 'it returns false'. Refute it at one input. -/
def leafSearchesWrong : ChangeSpec := { name := "leafSearches", fn := fun _ => fun
  | [d1, d2] => { results := [.lit (.bool false)], args := [d1, d2] }
  | _ => none }
def LeafSearchesWrongFalsely : Prop := leafSearchesRow.holds Tryd.pinned (OpenSpec.ofChange leafSearchesWrong)

/-- 'rowlocklaw07.LeafPuts': WHATEVER THE INPUT: true; the input reads as it did. -/
def leafPutsSpec : ChangeSpec := { name := "leafPuts", fn := fun _ => fun
  | [d1, d2, d3] => { results := [.lit (.bool true)], args := [d1, d2, d3] }
  | _ => none }
def leafPutsRow : OpenClaim := { program := "ytidfelbaegaphaadoor", sum := "e1adadbb6745ab62d04034eb789f8d29f95b8d2932cb47be068590aade94199c", func := "rowlock/rowlocklaw07.LeafPuts", spec := "leafPuts", inPlace := ["internal/reflectlite.ValueOf", "(internal/reflectlite.Value).Type", "(internal/reflectlite.Value).IsNil", "internal/reflectlite.TypeOf", "(internal/reflectlite.Value).Elem", "(internal/reflectlite.Value).Set"], unfollowed := true, recurses := true, named := ["errors.errorType"], apart := false, laid := [("errors.errorType", laid_errors_errorType)] }
def LeafPutsSaid : Prop := leafPutsRow.holds Tryd.pinned (OpenSpec.ofChange leafPutsSpec)

/-- ITS FALSE NEIGHBOUR: 'it returns false'. Refute it at one input. -/
def leafPutsWrong : ChangeSpec := { name := "leafPuts", fn := fun _ => fun
  | [d1, d2, d3] => { results := [.lit (.bool false)], args := [d1, d2, d3] }
  | _ => none }
def LeafPutsWrongFalsely : Prop := leafPutsRow.holds Tryd.pinned (OpenSpec.ofChange leafPutsWrong)

/- THE SECOND FORM. 'bulk': how many values and letters a reading holds, each counted each time it is reached (what is shared counts as often as it is met; a slice's spare places count too). A statement '..UptoSaid' is the law's where the arguments, and the package variables that the reading takes, are together of bulk at most 1048576: NARROWER than '..Said'. Prove '..Said' where nothing that the law and all that it calls make is longer than what came in: it says more and counts as full. Else prove '..UptoSaid'. A law counts once. -/
mutual
def uptoBulk {H : Type} : DataW H → Nat
  | .lit (.string bytes) => bytes.length + 1
  | .lit _ => 1
  | .nil => 1
  | .ptr d => uptoBulk d + 1
  | .slice elems spare => uptoBulkAll elems + uptoBulkAll spare + 1
  | .agg parts => uptoBulkAll parts + 1
  | .iface _ d => uptoBulk d + 1
  | .map entries => uptoBulkEntries entries + 1
  | .held _ => 1
def uptoBulkAll {H : Type} : List (DataW H) → Nat
  | [] => 0
  | d :: r => uptoBulk d + uptoBulkAll r
def uptoBulkEntries {H : Type} : List (Lit × DataW H) → Nat
  | [] => 0
  | x :: r => uptoBulkEntry x + uptoBulkEntries r
def uptoBulkEntry {H : Type} : Lit × DataW H → Nat
  | (.string bytes, d) => bytes.length + uptoBulk d + 1
  | (_, d) => uptoBulk d + 1
 end
def uptoSmall : (H : Type) → List (DataW H) → Bool := fun _ ds => decide (uptoBulkAll ds ≤ 1048576)
def OpenSpec.upto (s : _root_.Go.ChangeSpec) : _root_.Go.OpenSpec := { _root_.Go.OpenSpec.ofChange s with cond := some uptoSmall }

/-- 'rowlocklaw07.LeafFolds', WHERE WHAT IT READS IS OF BULK AT MOST 1048576: true; the input reads as it did. -/
def leafFoldsUptoRow : OpenClaim := { program := "ytidfelbaegaphaadoor", sum := "e1adadbb6745ab62d04034eb789f8d29f95b8d2932cb47be068590aade94199c", func := "rowlock/rowlocklaw07.LeafFolds", spec := "leafFolds", inPlace := ["internal/reflectlite.ValueOf", "(internal/reflectlite.Value).Type", "(internal/reflectlite.Value).IsNil", "internal/reflectlite.TypeOf", "(internal/reflectlite.Value).Elem", "(internal/reflectlite.Value).Set"], unfollowed := true, recurses := true, named := ["errors.errorType"], apart := false, laid := [("errors.errorType", laid_errors_errorType)], narrowed := true }
def LeafFoldsUptoSaid : Prop := leafFoldsUptoRow.holds Tryd.pinned (OpenSpec.upto leafFoldsSpec)

/-- 'rowlocklaw07.LeafSearches', WHERE WHAT IT READS IS OF BULK AT MOST 1048576: true; the input reads as it did. -/
def leafSearchesUptoRow : OpenClaim := { program := "ytidfelbaegaphaadoor", sum := "e1adadbb6745ab62d04034eb789f8d29f95b8d2932cb47be068590aade94199c", func := "rowlock/rowlocklaw07.LeafSearches", spec := "leafSearches", inPlace := ["internal/reflectlite.ValueOf", "(internal/reflectlite.Value).Type", "(internal/reflectlite.Value).IsNil", "internal/reflectlite.TypeOf", "(internal/reflectlite.Value).Elem", "(internal/reflectlite.Value).Set"], unfollowed := true, recurses := true, named := ["errors.errorType"], apart := false, laid := [("errors.errorType", laid_errors_errorType)], narrowed := true }
def LeafSearchesUptoSaid : Prop := leafSearchesUptoRow.holds Tryd.pinned (OpenSpec.upto leafSearchesSpec)

/-- 'rowlocklaw07.LeafPuts', WHERE WHAT IT READS IS OF BULK AT MOST 1048576: true; the input reads as it did. -/
def leafPutsUptoRow : OpenClaim := { program := "ytidfelbaegaphaadoor", sum := "e1adadbb6745ab62d04034eb789f8d29f95b8d2932cb47be068590aade94199c", func := "rowlock/rowlocklaw07.LeafPuts", spec := "leafPuts", inPlace := ["internal/reflectlite.ValueOf", "(internal/reflectlite.Value).Type", "(internal/reflectlite.Value).IsNil", "internal/reflectlite.TypeOf", "(internal/reflectlite.Value).Elem", "(internal/reflectlite.Value).Set"], unfollowed := true, recurses := true, named := ["errors.errorType"], apart := false, laid := [("errors.errorType", laid_errors_errorType)], narrowed := true }
def LeafPutsUptoSaid : Prop := leafPutsUptoRow.holds Tryd.pinned (OpenSpec.upto leafPutsSpec)

end Rows
end Go.Proofs.YtidfelbaegaphaaDoor
