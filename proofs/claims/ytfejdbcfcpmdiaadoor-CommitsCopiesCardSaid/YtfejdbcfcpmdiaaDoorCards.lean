/-
  DERIVED. GIVEN WITH THE SEED: THE CARDS: each row of YtfejdbcfcpmdiaaDoorRows.lean that lists a variable, with what it lists TIED to the program's text (the seventh form; the later family's looks); each row that meets fmt, with fmt's text TOLD by the authors' own Lean function (tested against real Go, not proved from fmt's source: count such statements apart). THE CARD IS WHAT COUNTS. Prove the row's statement (the work); the ties are given (YtfejdbcfcpmdiaaDoorTie.lean); close each card by the builder's one call (the guide's Derived/Test/ToyasCard.lean, 'card_holds'). Laid BY PROGRAM, IN A SANDBOX (cutbox-door.mjs). By AI agents, Wed Nov 11 2026. No macro, syntax, notation, axiom, sorry.
-/
import Derived.Test.YtfejdbcfcpmdiaaDoorRows
import GoSem.ClaimSeven
namespace Go.Proofs.YtfejdbcfcpmdiaaDoor
namespace Rows

/-- THE TIED CARD OF 'rowlocklaw16.CommitsPlays'. -/
def commitsPlaysCard : Claim7 := { stood := { row := commitsPlaysRow, standIns := [], harness := (true, "546cb8869dc97bad2abfc7ab34b6db81f438b9b308ab70f948c35fa5d37036b4"), looks := true }, kinds := [], alts := [], laidByText := true, laidKinds := [.handle], laidTests := true, laidLooks := .later }
def CommitsPlaysCardSaid : Prop := Claim7.holds Tryd.pinned (.plain (OpenSpec.ofChange commitsPlaysSpec)) commitsPlaysCard

/-- THE TIED CARD OF 'rowlocklaw16.CommitsMonotone'. -/
def commitsMonotoneCard : Claim7 := { stood := { row := commitsMonotoneRow, standIns := [], harness := (true, "546cb8869dc97bad2abfc7ab34b6db81f438b9b308ab70f948c35fa5d37036b4"), looks := true }, kinds := [], alts := [], laidByText := true, laidKinds := [.handle], laidTests := true, laidLooks := .later }
def CommitsMonotoneCardSaid : Prop := Claim7.holds Tryd.pinned (.plain (OpenSpec.ofChange commitsMonotoneSpec)) commitsMonotoneCard

/-- THE TIED CARD OF 'rowlocklaw16.CommitsCopies'. -/
def commitsCopiesCard : Claim7 := { stood := { row := commitsCopiesRow, standIns := [], harness := (true, "546cb8869dc97bad2abfc7ab34b6db81f438b9b308ab70f948c35fa5d37036b4"), looks := true }, kinds := [], alts := [], laidByText := true, laidKinds := [.handle], laidTests := true, laidLooks := .later }
def CommitsCopiesCardSaid : Prop := Claim7.holds Tryd.pinned (.plain (OpenSpec.ofChange commitsCopiesSpec)) commitsCopiesCard

/-- THE SECOND FORM's CARD OF 'rowlocklaw16.CommitsPlays'. -/
def commitsPlaysUptoCard : Claim7 := { stood := { row := commitsPlaysUptoRow, standIns := [], harness := (true, "546cb8869dc97bad2abfc7ab34b6db81f438b9b308ab70f948c35fa5d37036b4"), looks := true }, kinds := [], alts := [], laidByText := true, laidKinds := [.handle], laidTests := true, laidLooks := .later }
def CommitsPlaysUptoCardSaid : Prop := Claim7.holds Tryd.pinned (.plain (OpenSpec.upto commitsPlaysSpec)) commitsPlaysUptoCard

/-- THE SECOND FORM's CARD OF 'rowlocklaw16.CommitsMonotone'. -/
def commitsMonotoneUptoCard : Claim7 := { stood := { row := commitsMonotoneUptoRow, standIns := [], harness := (true, "546cb8869dc97bad2abfc7ab34b6db81f438b9b308ab70f948c35fa5d37036b4"), looks := true }, kinds := [], alts := [], laidByText := true, laidKinds := [.handle], laidTests := true, laidLooks := .later }
def CommitsMonotoneUptoCardSaid : Prop := Claim7.holds Tryd.pinned (.plain (OpenSpec.upto commitsMonotoneSpec)) commitsMonotoneUptoCard

/-- THE SECOND FORM's CARD OF 'rowlocklaw16.CommitsCopies'. -/
def commitsCopiesUptoCard : Claim7 := { stood := { row := commitsCopiesUptoRow, standIns := [], harness := (true, "546cb8869dc97bad2abfc7ab34b6db81f438b9b308ab70f948c35fa5d37036b4"), looks := true }, kinds := [], alts := [], laidByText := true, laidKinds := [.handle], laidTests := true, laidLooks := .later }
def CommitsCopiesUptoCardSaid : Prop := Claim7.holds Tryd.pinned (.plain (OpenSpec.upto commitsCopiesSpec)) commitsCopiesUptoCard
end Rows
end Go.Proofs.YtfejdbcfcpmdiaaDoor
