/-
  DERIVED. GIVEN WITH THE SEED: THE CARDS: each row of YteolfhljhnplpaaDoorRows.lean that lists a variable, with what it lists TIED to the program's text (the seventh form; the later family's looks); each row that meets fmt, with fmt's text TOLD by the authors' own Lean function (tested against real Go, not proved from fmt's source: count such statements apart). THE CARD IS WHAT COUNTS. Prove the row's statement (the work); the ties are given (YteolfhljhnplpaaDoorTie.lean); close each card by the builder's one call (the guide's Derived/Test/ToyasCard.lean, 'card_holds'). Laid BY PROGRAM, IN A SANDBOX (cutbox-door.mjs). By AI agents, Wed Nov 11 2026. No macro, syntax, notation, axiom, sorry.
-/
import Derived.Test.YteolfhljhnplpaaDoorRows
import GoSem.ClaimSeven
namespace Go.Proofs.YteolfhljhnplpaaDoor
namespace Rows

/-- THE TIED CARD OF 'specielaw46.PolicyTexts'. -/
def policyTextsCard : Claim7 := { stood := { row := policyTextsRow, standIns := [], harness := (true, "6bd968d4315b5ac1e4c27a4717eb662a0c7481857575f5d33da12ffc2c697ce4"), looks := true }, kinds := [], alts := [], laidByText := true, laidKinds := [.data, .data, .data, .data, .sentinel, .sentinel, .pinned], laidTests := true, laidLooks := .later }
def PolicyTextsCardSaid : Prop := Claim7.holds Tryd.pinned (.plain (OpenSpec.ofChange policyTextsSpec)) policyTextsCard

/-- THE SECOND FORM's CARD OF 'specielaw46.PolicyTexts'. -/
def policyTextsUptoCard : Claim7 := { stood := { row := policyTextsUptoRow, standIns := [], harness := (true, "6bd968d4315b5ac1e4c27a4717eb662a0c7481857575f5d33da12ffc2c697ce4"), looks := true }, kinds := [], alts := [], laidByText := true, laidKinds := [.data, .data, .data, .data, .sentinel, .sentinel, .pinned], laidTests := true, laidLooks := .later }
def PolicyTextsUptoCardSaid : Prop := Claim7.holds Tryd.pinned (.plain (OpenSpec.upto policyTextsSpec)) policyTextsUptoCard
end Rows
end Go.Proofs.YteolfhljhnplpaaDoor
