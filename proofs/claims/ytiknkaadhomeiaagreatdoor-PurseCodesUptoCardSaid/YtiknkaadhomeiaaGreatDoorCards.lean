/-
  DERIVED. GIVEN WITH THE SEED: THE CARDS: each row of YtiknkaadhomeiaaGreatDoorRows.lean that lists a variable, with what it lists TIED to the program's text (the seventh form; the later family's looks); each row that meets fmt, with fmt's text TOLD by the authors' own Lean function (tested against real Go, not proved from fmt's source: count such statements apart). THE CARD IS WHAT COUNTS. Prove the row's statement (the work); the ties are given (YtiknkaadhomeiaaGreatDoorTie.lean); close each card by the builder's one call (the guide's Derived/Test/ToyasCard.lean, 'card_holds'). Laid BY PROGRAM, IN A SANDBOX (cutbox-door.mjs). By AI agents, Wed Nov 11 2026. No macro, syntax, notation, axiom, sorry.
-/
import Derived.Test.YtiknkaadhomeiaaGreatDoorRows
import GoSem.ClaimSeven
namespace Go.Proofs.YtiknkaadhomeiaaGreatDoor
namespace Rows

/-- THE TIED CARD OF 'specielaw21.FormulaBack'. -/
def formulaBackCard : Claim7 := { stood := { row := formulaBackRow, standIns := [], harness := (true, "1c6dc653772a9d42b0c6c50893d236972fd9fd3be000f5600a123d50a28c331d"), looks := true }, kinds := [], alts := [], laidByText := true, laidKinds := [.data, .data, .data, .data, .sentinel, .sentinel], laidTests := true, laidLooks := .later }
def FormulaBackCardSaid : Prop := Claim7.holds Tryz.pinned (.plain (OpenSpec.ofChange formulaBackSpec)) formulaBackCard

/-- THE TIED CARD OF 'specielaw42.PurseCodes'. -/
def purseCodesCard : Claim7 := { stood := { row := purseCodesRow, standIns := [], harness := (true, "1c6dc653772a9d42b0c6c50893d236972fd9fd3be000f5600a123d50a28c331d"), looks := true }, kinds := [], alts := [], laidByText := true, laidKinds := [.data, .data, .data, .data], laidTests := true, laidLooks := .later }
def PurseCodesCardSaid : Prop := Claim7.holds Tryz.pinned (.plain (OpenSpec.ofChange purseCodesSpec)) purseCodesCard

/-- THE SECOND FORM's CARD OF 'specielaw21.FormulaBack'. -/
def formulaBackUptoCard : Claim7 := { stood := { row := formulaBackUptoRow, standIns := [], harness := (true, "1c6dc653772a9d42b0c6c50893d236972fd9fd3be000f5600a123d50a28c331d"), looks := true }, kinds := [], alts := [], laidByText := true, laidKinds := [.data, .data, .data, .data, .sentinel, .sentinel], laidTests := true, laidLooks := .later }
def FormulaBackUptoCardSaid : Prop := Claim7.holds Tryz.pinned (.plain (OpenSpec.upto formulaBackSpec)) formulaBackUptoCard

/-- THE SECOND FORM's CARD OF 'specielaw42.PurseCodes'. -/
def purseCodesUptoCard : Claim7 := { stood := { row := purseCodesUptoRow, standIns := [], harness := (true, "1c6dc653772a9d42b0c6c50893d236972fd9fd3be000f5600a123d50a28c331d"), looks := true }, kinds := [], alts := [], laidByText := true, laidKinds := [.data, .data, .data, .data], laidTests := true, laidLooks := .later }
def PurseCodesUptoCardSaid : Prop := Claim7.holds Tryz.pinned (.plain (OpenSpec.upto purseCodesSpec)) purseCodesUptoCard
end Rows
end Go.Proofs.YtiknkaadhomeiaaGreatDoor
