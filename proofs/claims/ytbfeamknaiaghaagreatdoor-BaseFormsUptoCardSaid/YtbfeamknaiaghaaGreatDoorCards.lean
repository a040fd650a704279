/-
  DERIVED. GIVEN WITH THE SEED: THE CARDS: each row of YtbfeamknaiaghaaGreatDoorRows.lean that lists a variable, with what it lists TIED to the program's text (the seventh form; the later family's looks); each row that meets fmt, with fmt's text TOLD by the authors' own Lean function (tested against real Go, not proved from fmt's source: count such statements apart). THE CARD IS WHAT COUNTS. Prove the row's statement (the work); the ties are given (YtbfeamknaiaghaaGreatDoorTie.lean); close each card by the builder's one call (the guide's Derived/Test/ToyasCard.lean, 'card_holds'). Laid BY PROGRAM, IN A SANDBOX (cutbox-door.mjs). By AI agents, Wed Nov 11 2026. No macro, syntax, notation, axiom, sorry.
-/
import Derived.Test.YtbfeamknaiaghaaGreatDoorRows
import GoSem.ClaimSeven
namespace Go.Proofs.YtbfeamknaiaghaaGreatDoor
namespace Rows

/-- THE TIED CARD OF 'specielaw11.BaseForms'. -/
def baseFormsCard : Claim7 := { stood := { row := baseFormsRow, standIns := [], harness := (true, "358d44ffdfef1172872f6a943fcaf567167c54d8755a65ce4e0cb972c0550884"), looks := true }, kinds := [], alts := [], laidByText := true, laidKinds := [.data, .data, .data, .data, .data, .sentinel, .sentinel, .data, .data, .pinned], laidTests := true, laidLooks := .later }
def BaseFormsCardSaid : Prop := Claim7.holds Tryz.pinned (.plain (OpenSpec.ofChange baseFormsSpec)) baseFormsCard

/-- THE SECOND FORM's CARD OF 'specielaw11.BaseForms'. -/
def baseFormsUptoCard : Claim7 := { stood := { row := baseFormsUptoRow, standIns := [], harness := (true, "358d44ffdfef1172872f6a943fcaf567167c54d8755a65ce4e0cb972c0550884"), looks := true }, kinds := [], alts := [], laidByText := true, laidKinds := [.data, .data, .data, .data, .data, .sentinel, .sentinel, .data, .data, .pinned], laidTests := true, laidLooks := .later }
def BaseFormsUptoCardSaid : Prop := Claim7.holds Tryz.pinned (.plain (OpenSpec.upto baseFormsSpec)) baseFormsUptoCard
end Rows
end Go.Proofs.YtbfeamknaiaghaaGreatDoor
