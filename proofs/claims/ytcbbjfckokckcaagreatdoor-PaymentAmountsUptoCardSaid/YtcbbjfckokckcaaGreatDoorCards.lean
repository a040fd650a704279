/-
  DERIVED. GIVEN WITH THE SEED: THE CARDS: each row of YtcbbjfckokckcaaGreatDoorRows.lean that lists a variable, with what it lists TIED to the program's text (the seventh form; the later family's looks); each row that meets fmt, with fmt's text TOLD by the authors' own Lean function (tested against real Go, not proved from fmt's source: count such statements apart). THE CARD IS WHAT COUNTS. Prove the row's statement (the work); the ties are given (YtcbbjfckokckcaaGreatDoorTie.lean); close each card by the builder's one call (the guide's Derived/Test/ToyasCard.lean, 'card_holds'). Laid BY PROGRAM, IN A SANDBOX (cutbox-door.mjs). By AI agents, Wed Nov 11 2026. No macro, syntax, notation, axiom, sorry.
-/
import Derived.Test.YtcbbjfckokckcaaGreatDoorRows
import GoSem.ClaimSeven
namespace Go.Proofs.YtcbbjfckokckcaaGreatDoor
namespace Rows

/-- THE TIED CARD OF 'specielaw38.PaymentBound'. -/
def paymentBoundCard : Claim7 := { stood := { row := paymentBoundRow, standIns := [], harness := (true, "eda30de4372fbf8d3489c23be3e3fe2e4161a526aaede55c3ab1c3453f6075e3"), looks := false }, kinds := [], alts := [], laidByText := true, laidKinds := [.data, .data, .data, .data], laidTests := true, laidLooks := .later }
def PaymentBoundCardSaid : Prop := Claim7.holds Tryz.pinned (.plain (OpenSpec.ofChange paymentBoundSpec)) paymentBoundCard

/-- THE TIED CARD OF 'specielaw38.PaymentAmounts'. -/
def paymentAmountsCard : Claim7 := { stood := { row := paymentAmountsRow, standIns := [], harness := (true, "eda30de4372fbf8d3489c23be3e3fe2e4161a526aaede55c3ab1c3453f6075e3"), looks := false }, kinds := [], alts := [], laidByText := true, laidKinds := [.data, .data, .data, .data], laidTests := true, laidLooks := .later }
def PaymentAmountsCardSaid : Prop := Claim7.holds Tryz.pinned (.plain (OpenSpec.ofChange paymentAmountsSpec)) paymentAmountsCard

/-- THE TIED CARD OF 'specielaw38.PaymentChecks'. -/
def paymentChecksCard : Claim7 := { stood := { row := paymentChecksRow, standIns := [], harness := (true, "eda30de4372fbf8d3489c23be3e3fe2e4161a526aaede55c3ab1c3453f6075e3"), looks := false }, kinds := [], alts := [], laidByText := true, laidKinds := [.data, .data, .data, .data], laidTests := true, laidLooks := .later }
def PaymentChecksCardSaid : Prop := Claim7.holds Tryz.pinned (.plain (OpenSpec.ofChange paymentChecksSpec)) paymentChecksCard

/-- THE TIED CARD OF 'specielaw47.MerchantOnce'. -/
def merchantOnceCard : Claim7 := { stood := { row := merchantOnceRow, standIns := [], harness := (true, "eda30de4372fbf8d3489c23be3e3fe2e4161a526aaede55c3ab1c3453f6075e3"), looks := false }, kinds := [], alts := [], laidByText := true, laidKinds := [.data, .data, .data, .data], laidTests := true, laidLooks := .later }
def MerchantOnceCardSaid : Prop := Claim7.holds Tryz.pinned (.plain (OpenSpec.ofChange merchantOnceSpec)) merchantOnceCard

/-- THE TIED CARD OF 'specielaw47.MerchantPolicies'. -/
def merchantPoliciesCard : Claim7 := { stood := { row := merchantPoliciesRow, standIns := [], harness := (true, "eda30de4372fbf8d3489c23be3e3fe2e4161a526aaede55c3ab1c3453f6075e3"), looks := false }, kinds := [], alts := [], laidByText := true, laidKinds := [.data, .data, .data, .data], laidTests := true, laidLooks := .later }
def MerchantPoliciesCardSaid : Prop := Claim7.holds Tryz.pinned (.plain (OpenSpec.ofChange merchantPoliciesSpec)) merchantPoliciesCard

/-- THE TIED CARD OF 'specielaw47.MerchantTakes'. -/
def merchantTakesCard : Claim7 := { stood := { row := merchantTakesRow, standIns := [], harness := (true, "eda30de4372fbf8d3489c23be3e3fe2e4161a526aaede55c3ab1c3453f6075e3"), looks := false }, kinds := [], alts := [], laidByText := true, laidKinds := [.data, .data, .data, .data], laidTests := true, laidLooks := .later }
def MerchantTakesCardSaid : Prop := Claim7.holds Tryz.pinned (.plain (OpenSpec.ofChange merchantTakesSpec)) merchantTakesCard

/-- THE SECOND FORM's CARD OF 'specielaw38.PaymentBound'. -/
def paymentBoundUptoCard : Claim7 := { stood := { row := paymentBoundUptoRow, standIns := [], harness := (true, "eda30de4372fbf8d3489c23be3e3fe2e4161a526aaede55c3ab1c3453f6075e3"), looks := false }, kinds := [], alts := [], laidByText := true, laidKinds := [.data, .data, .data, .data], laidTests := true, laidLooks := .later }
def PaymentBoundUptoCardSaid : Prop := Claim7.holds Tryz.pinned (.plain (OpenSpec.upto paymentBoundSpec)) paymentBoundUptoCard

/-- THE SECOND FORM's CARD OF 'specielaw38.PaymentAmounts'. -/
def paymentAmountsUptoCard : Claim7 := { stood := { row := paymentAmountsUptoRow, standIns := [], harness := (true, "eda30de4372fbf8d3489c23be3e3fe2e4161a526aaede55c3ab1c3453f6075e3"), looks := false }, kinds := [], alts := [], laidByText := true, laidKinds := [.data, .data, .data, .data], laidTests := true, laidLooks := .later }
def PaymentAmountsUptoCardSaid : Prop := Claim7.holds Tryz.pinned (.plain (OpenSpec.upto paymentAmountsSpec)) paymentAmountsUptoCard

/-- THE SECOND FORM's CARD OF 'specielaw38.PaymentChecks'. -/
def paymentChecksUptoCard : Claim7 := { stood := { row := paymentChecksUptoRow, standIns := [], harness := (true, "eda30de4372fbf8d3489c23be3e3fe2e4161a526aaede55c3ab1c3453f6075e3"), looks := false }, kinds := [], alts := [], laidByText := true, laidKinds := [.data, .data, .data, .data], laidTests := true, laidLooks := .later }
def PaymentChecksUptoCardSaid : Prop := Claim7.holds Tryz.pinned (.plain (OpenSpec.upto paymentChecksSpec)) paymentChecksUptoCard

/-- THE SECOND FORM's CARD OF 'specielaw47.MerchantOnce'. -/
def merchantOnceUptoCard : Claim7 := { stood := { row := merchantOnceUptoRow, standIns := [], harness := (true, "eda30de4372fbf8d3489c23be3e3fe2e4161a526aaede55c3ab1c3453f6075e3"), looks := false }, kinds := [], alts := [], laidByText := true, laidKinds := [.data, .data, .data, .data], laidTests := true, laidLooks := .later }
def MerchantOnceUptoCardSaid : Prop := Claim7.holds Tryz.pinned (.plain (OpenSpec.upto merchantOnceSpec)) merchantOnceUptoCard

/-- THE SECOND FORM's CARD OF 'specielaw47.MerchantPolicies'. -/
def merchantPoliciesUptoCard : Claim7 := { stood := { row := merchantPoliciesUptoRow, standIns := [], harness := (true, "eda30de4372fbf8d3489c23be3e3fe2e4161a526aaede55c3ab1c3453f6075e3"), looks := false }, kinds := [], alts := [], laidByText := true, laidKinds := [.data, .data, .data, .data], laidTests := true, laidLooks := .later }
def MerchantPoliciesUptoCardSaid : Prop := Claim7.holds Tryz.pinned (.plain (OpenSpec.upto merchantPoliciesSpec)) merchantPoliciesUptoCard

/-- THE SECOND FORM's CARD OF 'specielaw47.MerchantTakes'. -/
def merchantTakesUptoCard : Claim7 := { stood := { row := merchantTakesUptoRow, standIns := [], harness := (true, "eda30de4372fbf8d3489c23be3e3fe2e4161a526aaede55c3ab1c3453f6075e3"), looks := false }, kinds := [], alts := [], laidByText := true, laidKinds := [.data, .data, .data, .data], laidTests := true, laidLooks := .later }
def MerchantTakesUptoCardSaid : Prop := Claim7.holds Tryz.pinned (.plain (OpenSpec.upto merchantTakesSpec)) merchantTakesUptoCard
end Rows
end Go.Proofs.YtcbbjfckokckcaaGreatDoor
