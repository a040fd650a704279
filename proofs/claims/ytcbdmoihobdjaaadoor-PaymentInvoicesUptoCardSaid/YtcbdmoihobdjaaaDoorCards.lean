/-
  DERIVED. GIVEN WITH THE SEED: THE CARDS: each row of YtcbdmoihobdjaaaDoorRows.lean that lists a variable, with what it lists TIED to the program's text (the seventh form; the later family's looks); each row that meets fmt, with fmt's text TOLD by the authors' own Lean function (tested against real Go, not proved from fmt's source: count such statements apart). THE CARD IS WHAT COUNTS. Prove the row's statement (the work); the ties are given (YtcbdmoihobdjaaaDoorTie.lean); close each card by the builder's one call (the guide's Derived/Test/ToyasCard.lean, 'card_holds'). Laid BY PROGRAM, IN A SANDBOX (cutbox-door.mjs). By AI agents, Wed Nov 11 2026. No macro, syntax, notation, axiom, sorry.
-/
import Derived.Test.YtcbdmoihobdjaaaDoorRows
import GoSem.ClaimSeven
namespace Go.Proofs.YtcbdmoihobdjaaaDoor
namespace Rows

/-- THE TIED CARD OF 'specielaw38.PaymentInvoices'. -/
def paymentInvoicesCard : Claim7 := { stood := { row := paymentInvoicesRow, standIns := [], harness := (true, "7d20417d7358ef78dcba552c56ddc58927e7a1c3e1ec29a6a1cd67a1c1ae8ac5"), looks := false }, kinds := [], alts := [], laidByText := true, laidKinds := [.data, .data], laidTests := true, laidLooks := .later }
def PaymentInvoicesCardSaid : Prop := Claim7.holds Tryd.pinned (.plain (OpenSpec.ofChange paymentInvoicesSpec)) paymentInvoicesCard

/-- THE TIED CARD OF 'specielaw31.CoinForms'. -/
def coinFormsCard : Claim7 := { stood := { row := coinFormsRow, standIns := [], harness := (true, "7d20417d7358ef78dcba552c56ddc58927e7a1c3e1ec29a6a1cd67a1c1ae8ac5"), looks := false }, kinds := [], alts := [], laidByText := true, laidKinds := [.data, .data, .data, .data], laidTests := true, laidLooks := .later }
def CoinFormsCardSaid : Prop := Claim7.holds Tryd.pinned (.plain (OpenSpec.ofChange coinFormsSpec)) coinFormsCard

/-- THE TIED CARD OF 'specielaw31.CoinBack'. -/
def coinBackCard : Claim7 := { stood := { row := coinBackRow, standIns := [], harness := (true, "7d20417d7358ef78dcba552c56ddc58927e7a1c3e1ec29a6a1cd67a1c1ae8ac5"), looks := false }, kinds := [], alts := [], laidByText := true, laidKinds := [.data, .data, .data, .data], laidTests := true, laidLooks := .later }
def CoinBackCardSaid : Prop := Claim7.holds Tryd.pinned (.plain (OpenSpec.ofChange coinBackSpec)) coinBackCard

/-- THE SECOND FORM's CARD OF 'specielaw38.PaymentInvoices'. -/
def paymentInvoicesUptoCard : Claim7 := { stood := { row := paymentInvoicesUptoRow, standIns := [], harness := (true, "7d20417d7358ef78dcba552c56ddc58927e7a1c3e1ec29a6a1cd67a1c1ae8ac5"), looks := false }, kinds := [], alts := [], laidByText := true, laidKinds := [.data, .data], laidTests := true, laidLooks := .later }
def PaymentInvoicesUptoCardSaid : Prop := Claim7.holds Tryd.pinned (.plain (OpenSpec.upto paymentInvoicesSpec)) paymentInvoicesUptoCard

/-- THE SECOND FORM's CARD OF 'specielaw31.CoinForms'. -/
def coinFormsUptoCard : Claim7 := { stood := { row := coinFormsUptoRow, standIns := [], harness := (true, "7d20417d7358ef78dcba552c56ddc58927e7a1c3e1ec29a6a1cd67a1c1ae8ac5"), looks := false }, kinds := [], alts := [], laidByText := true, laidKinds := [.data, .data, .data, .data], laidTests := true, laidLooks := .later }
def CoinFormsUptoCardSaid : Prop := Claim7.holds Tryd.pinned (.plain (OpenSpec.upto coinFormsSpec)) coinFormsUptoCard

/-- THE SECOND FORM's CARD OF 'specielaw31.CoinBack'. -/
def coinBackUptoCard : Claim7 := { stood := { row := coinBackUptoRow, standIns := [], harness := (true, "7d20417d7358ef78dcba552c56ddc58927e7a1c3e1ec29a6a1cd67a1c1ae8ac5"), looks := false }, kinds := [], alts := [], laidByText := true, laidKinds := [.data, .data, .data, .data], laidTests := true, laidLooks := .later }
def CoinBackUptoCardSaid : Prop := Claim7.holds Tryd.pinned (.plain (OpenSpec.upto coinBackSpec)) coinBackUptoCard
end Rows
end Go.Proofs.YtcbdmoihobdjaaaDoor
