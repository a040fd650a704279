/-
  DERIVED. GIVEN WITH THE SEED: THE CARDS: each row of YteibkofekpejgaaGreatDoorRows.lean that lists a variable, with what it lists TIED to the program's text (the seventh form; the later family's looks); each row that meets fmt, with fmt's text TOLD by the authors' own Lean function (tested against real Go, not proved from fmt's source: count such statements apart). THE CARD IS WHAT COUNTS. Prove the row's statement (the work); the ties are given (YteibkofekpejgaaGreatDoorTie.lean); close each card by the builder's one call (the guide's Derived/Test/ToyasCard.lean, 'card_holds'). Laid BY PROGRAM, IN A SANDBOX (cutbox-door.mjs). By AI agents, Wed Nov 11 2026. No macro, syntax, notation, axiom, sorry.
-/
import Derived.Test.YteibkofekpejgaaGreatDoorRows
import GoSem.ClaimSeven
namespace Go.Proofs.YteibkofekpejgaaGreatDoor
namespace Rows

/-- THE TIED CARD OF 'specielaw47.MerchantOnce'. -/
def merchantOnceCard : Claim7 := { stood := { row := merchantOnceRow, standIns := [], harness := (true, "5ab5a67132339dece715553d84279a761570b834e87224bca77005c16d6cbc98"), looks := false }, kinds := [], alts := [], laidByText := true, laidKinds := [.data, .data, .data, .data], laidTests := true, laidLooks := .later }
def MerchantOnceCardSaid : Prop := Claim7.holds Tryz.pinned (.plain (OpenSpec.ofChange merchantOnceSpec)) merchantOnceCard

/-- THE TIED CARD OF 'specielaw47.MerchantPolicies'. -/
def merchantPoliciesCard : Claim7 := { stood := { row := merchantPoliciesRow, standIns := [], harness := (true, "5ab5a67132339dece715553d84279a761570b834e87224bca77005c16d6cbc98"), looks := false }, kinds := [], alts := [], laidByText := true, laidKinds := [.data, .data, .data, .data], laidTests := true, laidLooks := .later }
def MerchantPoliciesCardSaid : Prop := Claim7.holds Tryz.pinned (.plain (OpenSpec.ofChange merchantPoliciesSpec)) merchantPoliciesCard

/-- THE SECOND FORM's CARD OF 'specielaw47.MerchantOnce'. -/
def merchantOnceUptoCard : Claim7 := { stood := { row := merchantOnceUptoRow, standIns := [], harness := (true, "5ab5a67132339dece715553d84279a761570b834e87224bca77005c16d6cbc98"), looks := false }, kinds := [], alts := [], laidByText := true, laidKinds := [.data, .data, .data, .data], laidTests := true, laidLooks := .later }
def MerchantOnceUptoCardSaid : Prop := Claim7.holds Tryz.pinned (.plain (OpenSpec.upto merchantOnceSpec)) merchantOnceUptoCard

/-- THE SECOND FORM's CARD OF 'specielaw47.MerchantPolicies'. -/
def merchantPoliciesUptoCard : Claim7 := { stood := { row := merchantPoliciesUptoRow, standIns := [], harness := (true, "5ab5a67132339dece715553d84279a761570b834e87224bca77005c16d6cbc98"), looks := false }, kinds := [], alts := [], laidByText := true, laidKinds := [.data, .data, .data, .data], laidTests := true, laidLooks := .later }
def MerchantPoliciesUptoCardSaid : Prop := Claim7.holds Tryz.pinned (.plain (OpenSpec.upto merchantPoliciesSpec)) merchantPoliciesUptoCard
end Rows
end Go.Proofs.YteibkofekpejgaaGreatDoor
