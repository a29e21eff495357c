/-
  DERIVED. GIVEN WITH THE SEED: THE CARDS: each row of YtkngjnkecmjakaaDoorRows.lean that lists a variable, with what it lists TIED to the program's text (the seventh form; the later family's looks); each row that meets fmt, with fmt's text TOLD by the authors' own Lean function (tested against real Go, not proved from fmt's source: count such statements apart). THE CARD IS WHAT COUNTS. Prove the row's statement (the work); the ties are given (YtkngjnkecmjakaaDoorTie.lean); close each card by the builder's one call (the guide's Derived/Test/ToyasCard.lean, 'card_holds'). Laid BY PROGRAM, IN A SANDBOX (cutbox-door.mjs). By AI agents, Wed Nov 11 2026. No macro, syntax, notation, axiom, sorry.
-/
import Derived.Test.YtkngjnkecmjakaaDoorRows
import GoSem.ClaimSeven
namespace Go.Proofs.YtkngjnkecmjakaaDoor
namespace Rows

/-- THE TIED CARD OF 'rowlocklaw19.HistoryOrders'. -/
def historyOrdersCard : Claim7 := { stood := { row := historyOrdersRow, standIns := [], harness := (true, "11768270edad81598d476d1125a12c0646d76976e032f06b68aea9f3198da345"), looks := true }, kinds := [], alts := [], laidByText := true, laidKinds := [.handle], laidTests := true, laidLooks := .later }
def HistoryOrdersCardSaid : Prop := Claim7.holds Tryd.pinned (.plain (OpenSpec.ofChange historyOrdersSpec)) historyOrdersCard

/-- THE TIED CARD OF 'rowlocklaw19.HistoryIdle'. -/
def historyIdleCard : Claim7 := { stood := { row := historyIdleRow, standIns := [], harness := (true, "11768270edad81598d476d1125a12c0646d76976e032f06b68aea9f3198da345"), looks := true }, kinds := [], alts := [], laidByText := true, laidKinds := [.handle], laidTests := true, laidLooks := .later }
def HistoryIdleCardSaid : Prop := Claim7.holds Tryd.pinned (.plain (OpenSpec.ofChange historyIdleSpec)) historyIdleCard

/-- THE SECOND FORM's CARD OF 'rowlocklaw19.HistoryOrders'. -/
def historyOrdersUptoCard : Claim7 := { stood := { row := historyOrdersUptoRow, standIns := [], harness := (true, "11768270edad81598d476d1125a12c0646d76976e032f06b68aea9f3198da345"), looks := true }, kinds := [], alts := [], laidByText := true, laidKinds := [.handle], laidTests := true, laidLooks := .later }
def HistoryOrdersUptoCardSaid : Prop := Claim7.holds Tryd.pinned (.plain (OpenSpec.upto historyOrdersSpec)) historyOrdersUptoCard

/-- THE SECOND FORM's CARD OF 'rowlocklaw19.HistoryIdle'. -/
def historyIdleUptoCard : Claim7 := { stood := { row := historyIdleUptoRow, standIns := [], harness := (true, "11768270edad81598d476d1125a12c0646d76976e032f06b68aea9f3198da345"), looks := true }, kinds := [], alts := [], laidByText := true, laidKinds := [.handle], laidTests := true, laidLooks := .later }
def HistoryIdleUptoCardSaid : Prop := Claim7.holds Tryd.pinned (.plain (OpenSpec.upto historyIdleSpec)) historyIdleUptoCard
end Rows
end Go.Proofs.YtkngjnkecmjakaaDoor
