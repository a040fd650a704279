/-
  DERIVED. GIVEN WITH THE SEED: THE CARDS: each row of YtcbdmoihobdjaaaGreatDoorRows.lean that lists a variable, with what it lists TIED to the program's text (the seventh form; the later family's looks); each row that meets fmt, with fmt's text TOLD by the authors' own Lean function (tested against real Go, not proved from fmt's source: count such statements apart). THE CARD IS WHAT COUNTS. Prove the row's statement (the work); the ties are given (YtcbdmoihobdjaaaGreatDoorTie.lean); close each card by the builder's one call (the guide's Derived/Test/ToyasCard.lean, 'card_holds'). Laid BY PROGRAM, IN A SANDBOX (cutbox-door.mjs). By AI agents, Wed Nov 11 2026. No macro, syntax, notation, axiom, sorry.
-/
import Derived.Test.YtcbdmoihobdjaaaGreatDoorRows
import GoSem.ClaimSeven
namespace Go.Proofs.YtcbdmoihobdjaaaGreatDoor
namespace Rows

/-- THE TIED CARD OF 'specielaw31.CoinChecks'. -/
def coinChecksCard : Claim7 := { stood := { row := coinChecksRow, standIns := [], harness := (true, "89f96671d0c818cd07eb50628d5fb124ea3cc21c4585708a444b763ff7064eb7"), looks := false }, kinds := [], alts := [], laidByText := true, laidKinds := [.data, .data, .data, .data], laidTests := true, laidLooks := .later }
def CoinChecksCardSaid : Prop := Claim7.holds Tryz.pinned (.plain (OpenSpec.ofChange coinChecksSpec)) coinChecksCard

/-- THE TIED CARD OF 'specielaw31.CoinBound'. -/
def coinBoundCard : Claim7 := { stood := { row := coinBoundRow, standIns := [], harness := (true, "89f96671d0c818cd07eb50628d5fb124ea3cc21c4585708a444b763ff7064eb7"), looks := false }, kinds := [], alts := [], laidByText := true, laidKinds := [.data, .data, .data, .data], laidTests := true, laidLooks := .later }
def CoinBoundCardSaid : Prop := Claim7.holds Tryz.pinned (.plain (OpenSpec.ofChange coinBoundSpec)) coinBoundCard

/-- THE TIED CARD OF 'specielaw31.CoinParts'. -/
def coinPartsCard : Claim7 := { stood := { row := coinPartsRow, standIns := [], harness := (true, "89f96671d0c818cd07eb50628d5fb124ea3cc21c4585708a444b763ff7064eb7"), looks := false }, kinds := [], alts := [], laidByText := true, laidKinds := [.data, .data, .data, .data], laidTests := true, laidLooks := .later }
def CoinPartsCardSaid : Prop := Claim7.holds Tryz.pinned (.plain (OpenSpec.ofChange coinPartsSpec)) coinPartsCard

/-- THE SECOND FORM's CARD OF 'specielaw31.CoinChecks'. -/
def coinChecksUptoCard : Claim7 := { stood := { row := coinChecksUptoRow, standIns := [], harness := (true, "89f96671d0c818cd07eb50628d5fb124ea3cc21c4585708a444b763ff7064eb7"), looks := false }, kinds := [], alts := [], laidByText := true, laidKinds := [.data, .data, .data, .data], laidTests := true, laidLooks := .later }
def CoinChecksUptoCardSaid : Prop := Claim7.holds Tryz.pinned (.plain (OpenSpec.upto coinChecksSpec)) coinChecksUptoCard

/-- THE SECOND FORM's CARD OF 'specielaw31.CoinBound'. -/
def coinBoundUptoCard : Claim7 := { stood := { row := coinBoundUptoRow, standIns := [], harness := (true, "89f96671d0c818cd07eb50628d5fb124ea3cc21c4585708a444b763ff7064eb7"), looks := false }, kinds := [], alts := [], laidByText := true, laidKinds := [.data, .data, .data, .data], laidTests := true, laidLooks := .later }
def CoinBoundUptoCardSaid : Prop := Claim7.holds Tryz.pinned (.plain (OpenSpec.upto coinBoundSpec)) coinBoundUptoCard

/-- THE SECOND FORM's CARD OF 'specielaw31.CoinParts'. -/
def coinPartsUptoCard : Claim7 := { stood := { row := coinPartsUptoRow, standIns := [], harness := (true, "89f96671d0c818cd07eb50628d5fb124ea3cc21c4585708a444b763ff7064eb7"), looks := false }, kinds := [], alts := [], laidByText := true, laidKinds := [.data, .data, .data, .data], laidTests := true, laidLooks := .later }
def CoinPartsUptoCardSaid : Prop := Claim7.holds Tryz.pinned (.plain (OpenSpec.upto coinPartsSpec)) coinPartsUptoCard
end Rows
end Go.Proofs.YtcbdmoihobdjaaaGreatDoor
