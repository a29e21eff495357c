/-
  DERIVED. GIVEN WITH THE SEED: THE CARDS: each row of YtopomocbjlikjaaDoorRows.lean that lists a variable, with what it lists TIED to the program's text (the seventh form; the later family's looks); each row that meets fmt, with fmt's text TOLD by the authors' own Lean function (tested against real Go, not proved from fmt's source: count such statements apart). THE CARD IS WHAT COUNTS. Prove the row's statement (the work); the ties are given (YtopomocbjlikjaaDoorTie.lean); close each card by the builder's one call (the guide's Derived/Test/ToyasCard.lean, 'card_holds'). Laid BY PROGRAM, IN A SANDBOX (cutbox-door.mjs). By AI agents, Wed Nov 11 2026. No macro, syntax, notation, axiom, sorry.
-/
import Derived.Test.YtopomocbjlikjaaDoorRows
import GoSem.ClaimSeven
namespace Go.Proofs.YtopomocbjlikjaaDoor
namespace Rows

/-- THE TIED CARD OF 'rowlocklaw20.SerialStates'. -/
def serialStatesCard : Claim7 := { stood := { row := serialStatesRow, standIns := [], harness := (true, "317582ed1d18d8a541475b013cb4820ce050560572a3cf9ca834e1c5101c9432"), looks := true }, kinds := [], alts := [], laidByText := true, laidKinds := [.handle], laidTests := true, laidLooks := .later }
def SerialStatesCardSaid : Prop := Claim7.holds Tryd.pinned (.plain (OpenSpec.ofChange serialStatesSpec)) serialStatesCard

/-- THE TIED CARD OF 'rowlocklaw20.SerialChecks'. -/
def serialChecksCard : Claim7 := { stood := { row := serialChecksRow, standIns := [], harness := (true, "317582ed1d18d8a541475b013cb4820ce050560572a3cf9ca834e1c5101c9432"), looks := true }, kinds := [], alts := [], laidByText := true, laidKinds := [.handle], laidTests := true, laidLooks := .later }
def SerialChecksCardSaid : Prop := Claim7.holds Tryd.pinned (.plain (OpenSpec.ofChange serialChecksSpec)) serialChecksCard

/-- THE SECOND FORM's CARD OF 'rowlocklaw20.SerialStates'. -/
def serialStatesUptoCard : Claim7 := { stood := { row := serialStatesUptoRow, standIns := [], harness := (true, "317582ed1d18d8a541475b013cb4820ce050560572a3cf9ca834e1c5101c9432"), looks := true }, kinds := [], alts := [], laidByText := true, laidKinds := [.handle], laidTests := true, laidLooks := .later }
def SerialStatesUptoCardSaid : Prop := Claim7.holds Tryd.pinned (.plain (OpenSpec.upto serialStatesSpec)) serialStatesUptoCard

/-- THE SECOND FORM's CARD OF 'rowlocklaw20.SerialChecks'. -/
def serialChecksUptoCard : Claim7 := { stood := { row := serialChecksUptoRow, standIns := [], harness := (true, "317582ed1d18d8a541475b013cb4820ce050560572a3cf9ca834e1c5101c9432"), looks := true }, kinds := [], alts := [], laidByText := true, laidKinds := [.handle], laidTests := true, laidLooks := .later }
def SerialChecksUptoCardSaid : Prop := Claim7.holds Tryd.pinned (.plain (OpenSpec.upto serialChecksSpec)) serialChecksUptoCard
end Rows
end Go.Proofs.YtopomocbjlikjaaDoor
