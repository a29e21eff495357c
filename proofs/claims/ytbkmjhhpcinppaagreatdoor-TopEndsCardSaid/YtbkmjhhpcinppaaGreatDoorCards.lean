/-
  DERIVED. GIVEN WITH THE SEED: THE CARDS: each row of YtbkmjhhpcinppaaGreatDoorRows.lean that lists a variable, with what it lists TIED to the program's text (the seventh form; the later family's looks); each row that meets fmt, with fmt's text TOLD by the authors' own Lean function (tested against real Go, not proved from fmt's source: count such statements apart). THE CARD IS WHAT COUNTS. Prove the row's statement (the work); the ties are given (YtbkmjhhpcinppaaGreatDoorTie.lean); close each card by the builder's one call (the guide's Derived/Test/ToyasCard.lean, 'card_holds'). Laid BY PROGRAM, IN A SANDBOX (cutbox-door.mjs). By AI agents, Wed Nov 11 2026. No macro, syntax, notation, axiom, sorry.
-/
import Derived.Test.YtbkmjhhpcinppaaGreatDoorRows
import GoSem.ClaimSeven
namespace Go.Proofs.YtbkmjhhpcinppaaGreatDoor
namespace Rows

/-- THE TIED CARD OF 'rowlocktop.TopEnds'. -/
def topEndsCard : Claim7 := { stood := { row := topEndsRow, standIns := [], harness := (true, "675aeb33b7ccdab14c6148bc12cd98142271ad0f92f6bda8a7f4e3adab9fb88a"), looks := true }, kinds := [], alts := [], laidByText := true, laidKinds := [.handle], laidTests := true, laidLooks := .later }
def TopEndsCardSaid : Prop := Claim7.holds Tryz.pinned (.plain (OpenSpec.ofChange topEndsSpec)) topEndsCard

/-- THE TIED CARD OF 'rowlocktop.TopLinear'. -/
def topLinearCard : Claim7 := { stood := { row := topLinearRow, standIns := [], harness := (true, "675aeb33b7ccdab14c6148bc12cd98142271ad0f92f6bda8a7f4e3adab9fb88a"), looks := true }, kinds := [], alts := [], laidByText := true, laidKinds := [.handle], laidTests := true, laidLooks := .later }
def TopLinearCardSaid : Prop := Claim7.holds Tryz.pinned (.plain (OpenSpec.ofChange topLinearSpec)) topLinearCard

/-- THE SECOND FORM's CARD OF 'rowlocktop.TopEnds'. -/
def topEndsUptoCard : Claim7 := { stood := { row := topEndsUptoRow, standIns := [], harness := (true, "675aeb33b7ccdab14c6148bc12cd98142271ad0f92f6bda8a7f4e3adab9fb88a"), looks := true }, kinds := [], alts := [], laidByText := true, laidKinds := [.handle], laidTests := true, laidLooks := .later }
def TopEndsUptoCardSaid : Prop := Claim7.holds Tryz.pinned (.plain (OpenSpec.upto topEndsSpec)) topEndsUptoCard

/-- THE SECOND FORM's CARD OF 'rowlocktop.TopLinear'. -/
def topLinearUptoCard : Claim7 := { stood := { row := topLinearUptoRow, standIns := [], harness := (true, "675aeb33b7ccdab14c6148bc12cd98142271ad0f92f6bda8a7f4e3adab9fb88a"), looks := true }, kinds := [], alts := [], laidByText := true, laidKinds := [.handle], laidTests := true, laidLooks := .later }
def TopLinearUptoCardSaid : Prop := Claim7.holds Tryz.pinned (.plain (OpenSpec.upto topLinearSpec)) topLinearUptoCard
end Rows
end Go.Proofs.YtbkmjhhpcinppaaGreatDoor
