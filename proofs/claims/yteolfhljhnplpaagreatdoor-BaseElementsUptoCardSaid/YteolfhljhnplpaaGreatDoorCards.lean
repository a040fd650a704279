/-
  DERIVED. GIVEN WITH THE SEED: THE CARDS: each row of YteolfhljhnplpaaGreatDoorRows.lean that lists a variable, with what it lists TIED to the program's text (the seventh form; the later family's looks); each row that meets fmt, with fmt's text TOLD by the authors' own Lean function (tested against real Go, not proved from fmt's source: count such statements apart). THE CARD IS WHAT COUNTS. Prove the row's statement (the work); the ties are given (YteolfhljhnplpaaGreatDoorTie.lean); close each card by the builder's one call (the guide's Derived/Test/ToyasCard.lean, 'card_holds'). Laid BY PROGRAM, IN A SANDBOX (cutbox-door.mjs). By AI agents, Wed Nov 11 2026. No macro, syntax, notation, axiom, sorry.
-/
import Derived.Test.YteolfhljhnplpaaGreatDoorRows
import GoSem.ClaimSeven
namespace Go.Proofs.YteolfhljhnplpaaGreatDoor
namespace Rows

/-- THE TIED CARD OF 'specielaw31.CoinParts'. -/
def coinPartsCard : Claim7 := { stood := { row := coinPartsRow, standIns := [], harness := (true, "e64e2eba354be195022a36952199a943baf9a6f4b724d676d0b963c615e7d6ee"), looks := true }, kinds := [], alts := [], laidByText := true, laidKinds := [.data, .data, .data, .data], laidTests := true, laidLooks := .later }
def CoinPartsCardSaid : Prop := Claim7.holds Tryz.pinned (.plain (OpenSpec.ofChange coinPartsSpec)) coinPartsCard

/-- THE TIED CARD OF 'specielaw31.CoinTrees'. -/
def coinTreesCard : Claim7 := { stood := { row := coinTreesRow, standIns := [], harness := (true, "e64e2eba354be195022a36952199a943baf9a6f4b724d676d0b963c615e7d6ee"), looks := true }, kinds := [], alts := [], laidByText := true, laidKinds := [.data, .data, .data, .data], laidTests := true, laidLooks := .later }
def CoinTreesCardSaid : Prop := Claim7.holds Tryz.pinned (.plain (OpenSpec.ofChange coinTreesSpec)) coinTreesCard

/-- THE TIED CARD OF 'specielaw11.BaseElements'. -/
def baseElementsCard : Claim7 := { stood := { row := baseElementsRow, standIns := [], harness := (true, "e64e2eba354be195022a36952199a943baf9a6f4b724d676d0b963c615e7d6ee"), looks := true }, kinds := [], alts := [], laidByText := true, laidKinds := [.data, .data, .data, .data, .data, .sentinel, .sentinel, .data, .data, .pinned], laidTests := true, laidLooks := .later }
def BaseElementsCardSaid : Prop := Claim7.holds Tryz.pinned (.plain (OpenSpec.ofChange baseElementsSpec)) baseElementsCard

/-- THE SECOND FORM's CARD OF 'specielaw31.CoinParts'. -/
def coinPartsUptoCard : Claim7 := { stood := { row := coinPartsUptoRow, standIns := [], harness := (true, "e64e2eba354be195022a36952199a943baf9a6f4b724d676d0b963c615e7d6ee"), looks := true }, kinds := [], alts := [], laidByText := true, laidKinds := [.data, .data, .data, .data], laidTests := true, laidLooks := .later }
def CoinPartsUptoCardSaid : Prop := Claim7.holds Tryz.pinned (.plain (OpenSpec.upto coinPartsSpec)) coinPartsUptoCard

/-- THE SECOND FORM's CARD OF 'specielaw31.CoinTrees'. -/
def coinTreesUptoCard : Claim7 := { stood := { row := coinTreesUptoRow, standIns := [], harness := (true, "e64e2eba354be195022a36952199a943baf9a6f4b724d676d0b963c615e7d6ee"), looks := true }, kinds := [], alts := [], laidByText := true, laidKinds := [.data, .data, .data, .data], laidTests := true, laidLooks := .later }
def CoinTreesUptoCardSaid : Prop := Claim7.holds Tryz.pinned (.plain (OpenSpec.upto coinTreesSpec)) coinTreesUptoCard

/-- THE SECOND FORM's CARD OF 'specielaw11.BaseElements'. -/
def baseElementsUptoCard : Claim7 := { stood := { row := baseElementsUptoRow, standIns := [], harness := (true, "e64e2eba354be195022a36952199a943baf9a6f4b724d676d0b963c615e7d6ee"), looks := true }, kinds := [], alts := [], laidByText := true, laidKinds := [.data, .data, .data, .data, .data, .sentinel, .sentinel, .data, .data, .pinned], laidTests := true, laidLooks := .later }
def BaseElementsUptoCardSaid : Prop := Claim7.holds Tryz.pinned (.plain (OpenSpec.upto baseElementsSpec)) baseElementsUptoCard
end Rows
end Go.Proofs.YteolfhljhnplpaaGreatDoor
