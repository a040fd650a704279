/-
  DERIVED. GIVEN WITH THE SEED: THE CARDS: each row of YtgealhhkngbkbaaGreatDoorRows.lean that lists a variable, with what it lists TIED to the program's text (the seventh form; the later family's looks); each row that meets fmt, with fmt's text TOLD by the authors' own Lean function (tested against real Go, not proved from fmt's source: count such statements apart). THE CARD IS WHAT COUNTS. Prove the row's statement (the work); the ties are given (YtgealhhkngbkbaaGreatDoorTie.lean); close each card by the builder's one call (the guide's Derived/Test/ToyasCard.lean, 'card_holds'). Laid BY PROGRAM, IN A SANDBOX (cutbox-door.mjs). By AI agents, Wed Nov 11 2026. No macro, syntax, notation, axiom, sorry.
-/
import Derived.Test.YtgealhhkngbkbaaGreatDoorRows
import GoSem.ClaimSeven
namespace Go.Proofs.YtgealhhkngbkbaaGreatDoor
namespace Rows

/-- THE TIED CARD OF 'specielaw21.FormulaChecks'. -/
def formulaChecksCard : Claim7 := { stood := { row := formulaChecksRow, standIns := [], harness := (true, "f35540df312122af63d9bbcc4cfb8d791ce52233f12a5fb3c8732d7bd0e95258"), looks := true }, kinds := [], alts := [], laidByText := true, laidKinds := [.data, .data, .data, .data, .sentinel, .sentinel, .data, .data], laidTests := true, laidLooks := .later }
def FormulaChecksCardSaid : Prop := Claim7.holds Tryz.pinned (.plain (OpenSpec.ofChange formulaChecksSpec)) formulaChecksCard

/-- THE TIED CARD OF 'specielaw21.FormulaComplete'. -/
def formulaCompleteCard : Claim7 := { stood := { row := formulaCompleteRow, standIns := [], harness := (true, "f35540df312122af63d9bbcc4cfb8d791ce52233f12a5fb3c8732d7bd0e95258"), looks := true }, kinds := [], alts := [], laidByText := true, laidKinds := [.data, .data, .data, .data, .sentinel, .sentinel, .data, .data], laidTests := true, laidLooks := .later }
def FormulaCompleteCardSaid : Prop := Claim7.holds Tryz.pinned (.plain (OpenSpec.ofChange formulaCompleteSpec)) formulaCompleteCard

/-- THE SECOND FORM's CARD OF 'specielaw21.FormulaChecks'. -/
def formulaChecksUptoCard : Claim7 := { stood := { row := formulaChecksUptoRow, standIns := [], harness := (true, "f35540df312122af63d9bbcc4cfb8d791ce52233f12a5fb3c8732d7bd0e95258"), looks := true }, kinds := [], alts := [], laidByText := true, laidKinds := [.data, .data, .data, .data, .sentinel, .sentinel, .data, .data], laidTests := true, laidLooks := .later }
def FormulaChecksUptoCardSaid : Prop := Claim7.holds Tryz.pinned (.plain (OpenSpec.upto formulaChecksSpec)) formulaChecksUptoCard

/-- THE SECOND FORM's CARD OF 'specielaw21.FormulaComplete'. -/
def formulaCompleteUptoCard : Claim7 := { stood := { row := formulaCompleteUptoRow, standIns := [], harness := (true, "f35540df312122af63d9bbcc4cfb8d791ce52233f12a5fb3c8732d7bd0e95258"), looks := true }, kinds := [], alts := [], laidByText := true, laidKinds := [.data, .data, .data, .data, .sentinel, .sentinel, .data, .data], laidTests := true, laidLooks := .later }
def FormulaCompleteUptoCardSaid : Prop := Claim7.holds Tryz.pinned (.plain (OpenSpec.upto formulaCompleteSpec)) formulaCompleteUptoCard
end Rows
end Go.Proofs.YtgealhhkngbkbaaGreatDoor
