/-
  DERIVED. GIVEN WITH THE SEED: THE CARDS: each row of YtbjbogfjiifcpaaDoorRows.lean that lists a variable, with what it lists TIED to the program's text (the seventh form; the later family's looks); each row that meets fmt, with fmt's text TOLD by the authors' own Lean function (tested against real Go, not proved from fmt's source: count such statements apart). THE CARD IS WHAT COUNTS. Prove the row's statement (the work); the ties are given (YtbjbogfjiifcpaaDoorTie.lean); close each card by the builder's one call (the guide's Derived/Test/ToyasCard.lean, 'card_holds'). Laid BY PROGRAM, IN A SANDBOX (cutbox-door.mjs). By AI agents, Wed Nov 11 2026. No macro, syntax, notation, axiom, sorry.
-/
import Derived.Test.YtbjbogfjiifcpaaDoorRows
import GoSem.ClaimSeven
namespace Go.Proofs.YtbjbogfjiifcpaaDoor
namespace Rows

/-- THE TIED CARD OF 'specielaw28.DenomTexts'. -/
def denomTextsCard : Claim7 := { stood := { row := denomTextsRow, standIns := [], harness := (true, "4102c07f24e9c1e4ce132167f728db623f7fb5419133791759d106e984fda7d5"), looks := true }, kinds := [], alts := [], laidByText := true, laidKinds := [.data, .data, .data, .data, .pinned], laidTests := true, laidLooks := .later }
def DenomTextsCardSaid : Prop := Claim7.holds Tryd.pinned (.plain (OpenSpec.ofChange denomTextsSpec)) denomTextsCard

/-- THE TIED CARD OF 'specielaw46.PolicyAccepts'. -/
def policyAcceptsCard : Claim7 := { stood := { row := policyAcceptsRow, standIns := [], harness := (true, "4102c07f24e9c1e4ce132167f728db623f7fb5419133791759d106e984fda7d5"), looks := true }, kinds := [], alts := [], laidByText := true, laidKinds := [.data, .data, .data, .data, .sentinel, .sentinel, .pinned], laidTests := true, laidLooks := .later }
def PolicyAcceptsCardSaid : Prop := Claim7.holds Tryd.pinned (.plain (OpenSpec.ofChange policyAcceptsSpec)) policyAcceptsCard

/-- THE TIED CARD OF 'specielaw46.PolicyMonotone'. -/
def policyMonotoneCard : Claim7 := { stood := { row := policyMonotoneRow, standIns := [], harness := (true, "4102c07f24e9c1e4ce132167f728db623f7fb5419133791759d106e984fda7d5"), looks := true }, kinds := [], alts := [], laidByText := true, laidKinds := [.data, .data, .data, .data, .sentinel, .sentinel, .pinned], laidTests := true, laidLooks := .later }
def PolicyMonotoneCardSaid : Prop := Claim7.holds Tryd.pinned (.plain (OpenSpec.ofChange policyMonotoneSpec)) policyMonotoneCard

/-- THE TIED CARD OF 'specielaw46.PolicyLimited'. -/
def policyLimitedCard : Claim7 := { stood := { row := policyLimitedRow, standIns := [], harness := (true, "4102c07f24e9c1e4ce132167f728db623f7fb5419133791759d106e984fda7d5"), looks := true }, kinds := [], alts := [], laidByText := true, laidKinds := [.data, .data, .data, .data, .sentinel, .sentinel, .pinned], laidTests := true, laidLooks := .later }
def PolicyLimitedCardSaid : Prop := Claim7.holds Tryd.pinned (.plain (OpenSpec.ofChange policyLimitedSpec)) policyLimitedCard

/-- THE TIED CARD OF 'specielaw46.PolicyHours'. -/
def policyHoursCard : Claim7 := { stood := { row := policyHoursRow, standIns := [], harness := (true, "4102c07f24e9c1e4ce132167f728db623f7fb5419133791759d106e984fda7d5"), looks := true }, kinds := [], alts := [], laidByText := true, laidKinds := [.data, .data, .data, .data, .sentinel, .sentinel, .pinned], laidTests := true, laidLooks := .later }
def PolicyHoursCardSaid : Prop := Claim7.holds Tryd.pinned (.plain (OpenSpec.ofChange policyHoursSpec)) policyHoursCard

/-- THE TIED CARD OF 'specielaw46.PolicyBoth'. -/
def policyBothCard : Claim7 := { stood := { row := policyBothRow, standIns := [], harness := (true, "4102c07f24e9c1e4ce132167f728db623f7fb5419133791759d106e984fda7d5"), looks := true }, kinds := [], alts := [], laidByText := true, laidKinds := [.data, .data, .data, .data, .sentinel, .sentinel, .pinned], laidTests := true, laidLooks := .later }
def PolicyBothCardSaid : Prop := Claim7.holds Tryd.pinned (.plain (OpenSpec.ofChange policyBothSpec)) policyBothCard

/-- THE TIED CARD OF 'specielaw46.PolicyMerges'. -/
def policyMergesCard : Claim7 := { stood := { row := policyMergesRow, standIns := [], harness := (true, "4102c07f24e9c1e4ce132167f728db623f7fb5419133791759d106e984fda7d5"), looks := true }, kinds := [], alts := [], laidByText := true, laidKinds := [.data, .data, .data, .data, .sentinel, .sentinel, .pinned], laidTests := true, laidLooks := .later }
def PolicyMergesCardSaid : Prop := Claim7.holds Tryd.pinned (.plain (OpenSpec.ofChange policyMergesSpec)) policyMergesCard

/-- THE TIED CARD OF 'specielaw46.PolicyTexts'. -/
def policyTextsCard : Claim7 := { stood := { row := policyTextsRow, standIns := [], harness := (true, "4102c07f24e9c1e4ce132167f728db623f7fb5419133791759d106e984fda7d5"), looks := true }, kinds := [], alts := [], laidByText := true, laidKinds := [.data, .data, .data, .data, .sentinel, .sentinel, .pinned], laidTests := true, laidLooks := .later }
def PolicyTextsCardSaid : Prop := Claim7.holds Tryd.pinned (.plain (OpenSpec.ofChange policyTextsSpec)) policyTextsCard

/-- THE SECOND FORM's CARD OF 'specielaw28.DenomTexts'. -/
def denomTextsUptoCard : Claim7 := { stood := { row := denomTextsUptoRow, standIns := [], harness := (true, "4102c07f24e9c1e4ce132167f728db623f7fb5419133791759d106e984fda7d5"), looks := true }, kinds := [], alts := [], laidByText := true, laidKinds := [.data, .data, .data, .data, .pinned], laidTests := true, laidLooks := .later }
def DenomTextsUptoCardSaid : Prop := Claim7.holds Tryd.pinned (.plain (OpenSpec.upto denomTextsSpec)) denomTextsUptoCard

/-- THE SECOND FORM's CARD OF 'specielaw46.PolicyAccepts'. -/
def policyAcceptsUptoCard : Claim7 := { stood := { row := policyAcceptsUptoRow, standIns := [], harness := (true, "4102c07f24e9c1e4ce132167f728db623f7fb5419133791759d106e984fda7d5"), looks := true }, kinds := [], alts := [], laidByText := true, laidKinds := [.data, .data, .data, .data, .sentinel, .sentinel, .pinned], laidTests := true, laidLooks := .later }
def PolicyAcceptsUptoCardSaid : Prop := Claim7.holds Tryd.pinned (.plain (OpenSpec.upto policyAcceptsSpec)) policyAcceptsUptoCard

/-- THE SECOND FORM's CARD OF 'specielaw46.PolicyMonotone'. -/
def policyMonotoneUptoCard : Claim7 := { stood := { row := policyMonotoneUptoRow, standIns := [], harness := (true, "4102c07f24e9c1e4ce132167f728db623f7fb5419133791759d106e984fda7d5"), looks := true }, kinds := [], alts := [], laidByText := true, laidKinds := [.data, .data, .data, .data, .sentinel, .sentinel, .pinned], laidTests := true, laidLooks := .later }
def PolicyMonotoneUptoCardSaid : Prop := Claim7.holds Tryd.pinned (.plain (OpenSpec.upto policyMonotoneSpec)) policyMonotoneUptoCard

/-- THE SECOND FORM's CARD OF 'specielaw46.PolicyLimited'. -/
def policyLimitedUptoCard : Claim7 := { stood := { row := policyLimitedUptoRow, standIns := [], harness := (true, "4102c07f24e9c1e4ce132167f728db623f7fb5419133791759d106e984fda7d5"), looks := true }, kinds := [], alts := [], laidByText := true, laidKinds := [.data, .data, .data, .data, .sentinel, .sentinel, .pinned], laidTests := true, laidLooks := .later }
def PolicyLimitedUptoCardSaid : Prop := Claim7.holds Tryd.pinned (.plain (OpenSpec.upto policyLimitedSpec)) policyLimitedUptoCard

/-- THE SECOND FORM's CARD OF 'specielaw46.PolicyHours'. -/
def policyHoursUptoCard : Claim7 := { stood := { row := policyHoursUptoRow, standIns := [], harness := (true, "4102c07f24e9c1e4ce132167f728db623f7fb5419133791759d106e984fda7d5"), looks := true }, kinds := [], alts := [], laidByText := true, laidKinds := [.data, .data, .data, .data, .sentinel, .sentinel, .pinned], laidTests := true, laidLooks := .later }
def PolicyHoursUptoCardSaid : Prop := Claim7.holds Tryd.pinned (.plain (OpenSpec.upto policyHoursSpec)) policyHoursUptoCard

/-- THE SECOND FORM's CARD OF 'specielaw46.PolicyBoth'. -/
def policyBothUptoCard : Claim7 := { stood := { row := policyBothUptoRow, standIns := [], harness := (true, "4102c07f24e9c1e4ce132167f728db623f7fb5419133791759d106e984fda7d5"), looks := true }, kinds := [], alts := [], laidByText := true, laidKinds := [.data, .data, .data, .data, .sentinel, .sentinel, .pinned], laidTests := true, laidLooks := .later }
def PolicyBothUptoCardSaid : Prop := Claim7.holds Tryd.pinned (.plain (OpenSpec.upto policyBothSpec)) policyBothUptoCard

/-- THE SECOND FORM's CARD OF 'specielaw46.PolicyMerges'. -/
def policyMergesUptoCard : Claim7 := { stood := { row := policyMergesUptoRow, standIns := [], harness := (true, "4102c07f24e9c1e4ce132167f728db623f7fb5419133791759d106e984fda7d5"), looks := true }, kinds := [], alts := [], laidByText := true, laidKinds := [.data, .data, .data, .data, .sentinel, .sentinel, .pinned], laidTests := true, laidLooks := .later }
def PolicyMergesUptoCardSaid : Prop := Claim7.holds Tryd.pinned (.plain (OpenSpec.upto policyMergesSpec)) policyMergesUptoCard

/-- THE SECOND FORM's CARD OF 'specielaw46.PolicyTexts'. -/
def policyTextsUptoCard : Claim7 := { stood := { row := policyTextsUptoRow, standIns := [], harness := (true, "4102c07f24e9c1e4ce132167f728db623f7fb5419133791759d106e984fda7d5"), looks := true }, kinds := [], alts := [], laidByText := true, laidKinds := [.data, .data, .data, .data, .sentinel, .sentinel, .pinned], laidTests := true, laidLooks := .later }
def PolicyTextsUptoCardSaid : Prop := Claim7.holds Tryd.pinned (.plain (OpenSpec.upto policyTextsSpec)) policyTextsUptoCard
end Rows
end Go.Proofs.YtbjbogfjiifcpaaDoor
