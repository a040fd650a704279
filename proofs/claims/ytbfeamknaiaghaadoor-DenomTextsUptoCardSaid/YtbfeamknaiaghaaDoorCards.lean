/-
  DERIVED. GIVEN WITH THE SEED: THE CARDS: each row of YtbfeamknaiaghaaDoorRows.lean that lists a variable, with what it lists TIED to the program's text (the seventh form; the later family's looks); each row that meets fmt, with fmt's text TOLD by the authors' own Lean function (tested against real Go, not proved from fmt's source: count such statements apart). THE CARD IS WHAT COUNTS. Prove the row's statement (the work); the ties are given (YtbfeamknaiaghaaDoorTie.lean); close each card by the builder's one call (the guide's Derived/Test/ToyasCard.lean, 'card_holds'). Laid BY PROGRAM, IN A SANDBOX (cutbox-door.mjs). By AI agents, Wed Nov 11 2026. No macro, syntax, notation, axiom, sorry.
-/
import Derived.Test.YtbfeamknaiaghaaDoorRows
import GoSem.ClaimSeven
namespace Go.Proofs.YtbfeamknaiaghaaDoor
namespace Rows

/-- THE TIED CARD OF 'specielaw28.DenomTexts'. -/
def denomTextsCard : Claim7 := { stood := { row := denomTextsRow, standIns := [], harness := (true, "ad083404034bce2478787fcffee3213ca639666a19590633087bfd073ea724a0"), looks := true }, kinds := [], alts := [], laidByText := true, laidKinds := [.data, .data, .data, .data, .pinned], laidTests := true, laidLooks := .later }
def DenomTextsCardSaid : Prop := Claim7.holds Tryd.pinned (.plain (OpenSpec.ofChange denomTextsSpec)) denomTextsCard

/-- THE TIED CARD OF 'specielaw11.BaseBack'. -/
def baseBackCard : Claim7 := { stood := { row := baseBackRow, standIns := [], harness := (true, "ad083404034bce2478787fcffee3213ca639666a19590633087bfd073ea724a0"), looks := true }, kinds := [], alts := [], laidByText := true, laidKinds := [.data, .data, .data, .data, .data, .sentinel, .sentinel, .pinned], laidTests := true, laidLooks := .later }
def BaseBackCardSaid : Prop := Claim7.holds Tryd.pinned (.plain (OpenSpec.ofChange baseBackSpec)) baseBackCard

/-- THE TIED CARD OF 'specielaw11.BaseDigests'. -/
def baseDigestsCard : Claim7 := { stood := { row := baseDigestsRow, standIns := [], harness := (true, "ad083404034bce2478787fcffee3213ca639666a19590633087bfd073ea724a0"), looks := true }, kinds := [], alts := [], laidByText := true, laidKinds := [.data, .data, .data, .data, .data, .sentinel, .sentinel, .data, .data, .pinned], laidTests := true, laidLooks := .later }
def BaseDigestsCardSaid : Prop := Claim7.holds Tryd.pinned (.plain (OpenSpec.ofChange baseDigestsSpec)) baseDigestsCard

/-- THE SECOND FORM's CARD OF 'specielaw28.DenomTexts'. -/
def denomTextsUptoCard : Claim7 := { stood := { row := denomTextsUptoRow, standIns := [], harness := (true, "ad083404034bce2478787fcffee3213ca639666a19590633087bfd073ea724a0"), looks := true }, kinds := [], alts := [], laidByText := true, laidKinds := [.data, .data, .data, .data, .pinned], laidTests := true, laidLooks := .later }
def DenomTextsUptoCardSaid : Prop := Claim7.holds Tryd.pinned (.plain (OpenSpec.upto denomTextsSpec)) denomTextsUptoCard

/-- THE SECOND FORM's CARD OF 'specielaw11.BaseBack'. -/
def baseBackUptoCard : Claim7 := { stood := { row := baseBackUptoRow, standIns := [], harness := (true, "ad083404034bce2478787fcffee3213ca639666a19590633087bfd073ea724a0"), looks := true }, kinds := [], alts := [], laidByText := true, laidKinds := [.data, .data, .data, .data, .data, .sentinel, .sentinel, .pinned], laidTests := true, laidLooks := .later }
def BaseBackUptoCardSaid : Prop := Claim7.holds Tryd.pinned (.plain (OpenSpec.upto baseBackSpec)) baseBackUptoCard

/-- THE SECOND FORM's CARD OF 'specielaw11.BaseDigests'. -/
def baseDigestsUptoCard : Claim7 := { stood := { row := baseDigestsUptoRow, standIns := [], harness := (true, "ad083404034bce2478787fcffee3213ca639666a19590633087bfd073ea724a0"), looks := true }, kinds := [], alts := [], laidByText := true, laidKinds := [.data, .data, .data, .data, .data, .sentinel, .sentinel, .data, .data, .pinned], laidTests := true, laidLooks := .later }
def BaseDigestsUptoCardSaid : Prop := Claim7.holds Tryd.pinned (.plain (OpenSpec.upto baseDigestsSpec)) baseDigestsUptoCard
end Rows
end Go.Proofs.YtbfeamknaiaghaaDoor
