/-
  DERIVED. GIVEN WITH THE SEED: THE CARDS: each row of YtlmleoeemmhboaaGreatDoorRows.lean that lists a variable, with what it lists TIED to the program's text (the seventh form; the later family's looks); each row that meets fmt, with fmt's text TOLD by the authors' own Lean function (tested against real Go, not proved from fmt's source: count such statements apart). THE CARD IS WHAT COUNTS. Prove the row's statement (the work); the ties are given (YtlmleoeemmhboaaGreatDoorTie.lean); close each card by the builder's one call (the guide's Derived/Test/ToyasCard.lean, 'card_holds'). Laid BY PROGRAM, IN A SANDBOX (cutbox-door.mjs). By AI agents, Wed Nov 11 2026. No macro, syntax, notation, axiom, sorry.
-/
import Derived.Test.YtlmleoeemmhboaaGreatDoorRows
import GoSem.ClaimSeven
namespace Go.Proofs.YtlmleoeemmhboaaGreatDoor
namespace Rows

/-- THE TIED CARD OF 'specielaw42.PurseCrash'. -/
def purseCrashCard : Claim7 := { stood := { row := purseCrashRow, standIns := [], harness := (true, "a36567e02a10b440a834f31c9c028e13ef285873fb73814d7379833a4ab1ace3"), looks := false }, kinds := [], alts := [], laidByText := true, laidKinds := [.data, .data, .data, .data], laidTests := true, laidLooks := .later }
def PurseCrashCardSaid : Prop := Claim7.holds Tryz.pinned (.plain (OpenSpec.ofChange purseCrashSpec)) purseCrashCard

/-- THE TIED CARD OF 'specielaw42.PurseCodes'. -/
def purseCodesCard : Claim7 := { stood := { row := purseCodesRow, standIns := [], harness := (true, "a36567e02a10b440a834f31c9c028e13ef285873fb73814d7379833a4ab1ace3"), looks := false }, kinds := [], alts := [], laidByText := true, laidKinds := [.data, .data, .data, .data], laidTests := true, laidLooks := .later }
def PurseCodesCardSaid : Prop := Claim7.holds Tryz.pinned (.plain (OpenSpec.ofChange purseCodesSpec)) purseCodesCard

/-- THE SECOND FORM's CARD OF 'specielaw42.PurseCrash'. -/
def purseCrashUptoCard : Claim7 := { stood := { row := purseCrashUptoRow, standIns := [], harness := (true, "a36567e02a10b440a834f31c9c028e13ef285873fb73814d7379833a4ab1ace3"), looks := false }, kinds := [], alts := [], laidByText := true, laidKinds := [.data, .data, .data, .data], laidTests := true, laidLooks := .later }
def PurseCrashUptoCardSaid : Prop := Claim7.holds Tryz.pinned (.plain (OpenSpec.upto purseCrashSpec)) purseCrashUptoCard

/-- THE SECOND FORM's CARD OF 'specielaw42.PurseCodes'. -/
def purseCodesUptoCard : Claim7 := { stood := { row := purseCodesUptoRow, standIns := [], harness := (true, "a36567e02a10b440a834f31c9c028e13ef285873fb73814d7379833a4ab1ace3"), looks := false }, kinds := [], alts := [], laidByText := true, laidKinds := [.data, .data, .data, .data], laidTests := true, laidLooks := .later }
def PurseCodesUptoCardSaid : Prop := Claim7.holds Tryz.pinned (.plain (OpenSpec.upto purseCodesSpec)) purseCodesUptoCard
end Rows
end Go.Proofs.YtlmleoeemmhboaaGreatDoor
