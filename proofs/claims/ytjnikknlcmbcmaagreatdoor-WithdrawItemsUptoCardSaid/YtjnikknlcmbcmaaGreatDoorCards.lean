/-
  DERIVED. GIVEN WITH THE SEED: THE CARDS: each row of YtjnikknlcmbcmaaGreatDoorRows.lean that lists a variable, with what it lists TIED to the program's text (the seventh form; the later family's looks); each row that meets fmt, with fmt's text TOLD by the authors' own Lean function (tested against real Go, not proved from fmt's source: count such statements apart). THE CARD IS WHAT COUNTS. Prove the row's statement (the work); the ties are given (YtjnikknlcmbcmaaGreatDoorTie.lean); close each card by the builder's one call (the guide's Derived/Test/ToyasCard.lean, 'card_holds'). Laid BY PROGRAM, IN A SANDBOX (cutbox-door.mjs). By AI agents, Wed Nov 11 2026. No macro, syntax, notation, axiom, sorry.
-/
import Derived.Test.YtjnikknlcmbcmaaGreatDoorRows
import GoSem.ClaimSeven
namespace Go.Proofs.YtjnikknlcmbcmaaGreatDoor
namespace Rows

/-- THE TIED CARD OF 'specielaw31.CoinParts'. -/
def coinPartsCard : Claim7 := { stood := { row := coinPartsRow, standIns := [], harness := (true, "164a56fec4990425e4dcfd976aa604dbdfb4002e5ee4cdc17010dbd4d979833d"), looks := false }, kinds := [], alts := [], laidByText := true, laidKinds := [.data, .data, .data, .data], laidTests := true, laidLooks := .later }
def CoinPartsCardSaid : Prop := Claim7.holds Tryz.pinned (.plain (OpenSpec.ofChange coinPartsSpec)) coinPartsCard

/-- THE TIED CARD OF 'specielaw31.CoinTrees'. -/
def coinTreesCard : Claim7 := { stood := { row := coinTreesRow, standIns := [], harness := (true, "164a56fec4990425e4dcfd976aa604dbdfb4002e5ee4cdc17010dbd4d979833d"), looks := false }, kinds := [], alts := [], laidByText := true, laidKinds := [.data, .data, .data, .data], laidTests := true, laidLooks := .later }
def CoinTreesCardSaid : Prop := Claim7.holds Tryz.pinned (.plain (OpenSpec.ofChange coinTreesSpec)) coinTreesCard

/-- THE TIED CARD OF 'specielaw37.WithdrawStates'. -/
def withdrawStatesCard : Claim7 := { stood := { row := withdrawStatesRow, standIns := [], harness := (true, "164a56fec4990425e4dcfd976aa604dbdfb4002e5ee4cdc17010dbd4d979833d"), looks := false }, kinds := [], alts := [], laidByText := true, laidKinds := [.data, .data, .data, .data], laidTests := true, laidLooks := .later }
def WithdrawStatesCardSaid : Prop := Claim7.holds Tryz.pinned (.plain (OpenSpec.ofChange withdrawStatesSpec)) withdrawStatesCard

/-- THE TIED CARD OF 'specielaw37.WithdrawItems'. -/
def withdrawItemsCard : Claim7 := { stood := { row := withdrawItemsRow, standIns := [], harness := (true, "164a56fec4990425e4dcfd976aa604dbdfb4002e5ee4cdc17010dbd4d979833d"), looks := false }, kinds := [], alts := [], laidByText := true, laidKinds := [.data, .data, .data, .data], laidTests := true, laidLooks := .later }
def WithdrawItemsCardSaid : Prop := Claim7.holds Tryz.pinned (.plain (OpenSpec.ofChange withdrawItemsSpec)) withdrawItemsCard

/-- THE TIED CARD OF 'specielaw37.WithdrawChallenges'. -/
def withdrawChallengesCard : Claim7 := { stood := { row := withdrawChallengesRow, standIns := [], harness := (true, "164a56fec4990425e4dcfd976aa604dbdfb4002e5ee4cdc17010dbd4d979833d"), looks := false }, kinds := [], alts := [], laidByText := true, laidKinds := [.data, .data, .data, .data], laidTests := true, laidLooks := .later }
def WithdrawChallengesCardSaid : Prop := Claim7.holds Tryz.pinned (.plain (OpenSpec.ofChange withdrawChallengesSpec)) withdrawChallengesCard

/-- THE TIED CARD OF 'specielaw37.WithdrawFinishes'. -/
def withdrawFinishesCard : Claim7 := { stood := { row := withdrawFinishesRow, standIns := [], harness := (true, "164a56fec4990425e4dcfd976aa604dbdfb4002e5ee4cdc17010dbd4d979833d"), looks := false }, kinds := [], alts := [], laidByText := true, laidKinds := [.data, .data, .data, .data], laidTests := true, laidLooks := .later }
def WithdrawFinishesCardSaid : Prop := Claim7.holds Tryz.pinned (.plain (OpenSpec.ofChange withdrawFinishesSpec)) withdrawFinishesCard

/-- THE TIED CARD OF 'specielaw37.WithdrawAnswers'. -/
def withdrawAnswersCard : Claim7 := { stood := { row := withdrawAnswersRow, standIns := [], harness := (true, "164a56fec4990425e4dcfd976aa604dbdfb4002e5ee4cdc17010dbd4d979833d"), looks := false }, kinds := [], alts := [], laidByText := true, laidKinds := [.data, .data, .data, .data], laidTests := true, laidLooks := .later }
def WithdrawAnswersCardSaid : Prop := Claim7.holds Tryz.pinned (.plain (OpenSpec.ofChange withdrawAnswersSpec)) withdrawAnswersCard

/-- THE TIED CARD OF 'specielaw37.WithdrawOnce'. -/
def withdrawOnceCard : Claim7 := { stood := { row := withdrawOnceRow, standIns := [], harness := (true, "164a56fec4990425e4dcfd976aa604dbdfb4002e5ee4cdc17010dbd4d979833d"), looks := false }, kinds := [], alts := [], laidByText := true, laidKinds := [.data, .data, .data, .data], laidTests := true, laidLooks := .later }
def WithdrawOnceCardSaid : Prop := Claim7.holds Tryz.pinned (.plain (OpenSpec.ofChange withdrawOnceSpec)) withdrawOnceCard

/-- THE SECOND FORM's CARD OF 'specielaw31.CoinParts'. -/
def coinPartsUptoCard : Claim7 := { stood := { row := coinPartsUptoRow, standIns := [], harness := (true, "164a56fec4990425e4dcfd976aa604dbdfb4002e5ee4cdc17010dbd4d979833d"), looks := false }, kinds := [], alts := [], laidByText := true, laidKinds := [.data, .data, .data, .data], laidTests := true, laidLooks := .later }
def CoinPartsUptoCardSaid : Prop := Claim7.holds Tryz.pinned (.plain (OpenSpec.upto coinPartsSpec)) coinPartsUptoCard

/-- THE SECOND FORM's CARD OF 'specielaw31.CoinTrees'. -/
def coinTreesUptoCard : Claim7 := { stood := { row := coinTreesUptoRow, standIns := [], harness := (true, "164a56fec4990425e4dcfd976aa604dbdfb4002e5ee4cdc17010dbd4d979833d"), looks := false }, kinds := [], alts := [], laidByText := true, laidKinds := [.data, .data, .data, .data], laidTests := true, laidLooks := .later }
def CoinTreesUptoCardSaid : Prop := Claim7.holds Tryz.pinned (.plain (OpenSpec.upto coinTreesSpec)) coinTreesUptoCard

/-- THE SECOND FORM's CARD OF 'specielaw37.WithdrawStates'. -/
def withdrawStatesUptoCard : Claim7 := { stood := { row := withdrawStatesUptoRow, standIns := [], harness := (true, "164a56fec4990425e4dcfd976aa604dbdfb4002e5ee4cdc17010dbd4d979833d"), looks := false }, kinds := [], alts := [], laidByText := true, laidKinds := [.data, .data, .data, .data], laidTests := true, laidLooks := .later }
def WithdrawStatesUptoCardSaid : Prop := Claim7.holds Tryz.pinned (.plain (OpenSpec.upto withdrawStatesSpec)) withdrawStatesUptoCard

/-- THE SECOND FORM's CARD OF 'specielaw37.WithdrawItems'. -/
def withdrawItemsUptoCard : Claim7 := { stood := { row := withdrawItemsUptoRow, standIns := [], harness := (true, "164a56fec4990425e4dcfd976aa604dbdfb4002e5ee4cdc17010dbd4d979833d"), looks := false }, kinds := [], alts := [], laidByText := true, laidKinds := [.data, .data, .data, .data], laidTests := true, laidLooks := .later }
def WithdrawItemsUptoCardSaid : Prop := Claim7.holds Tryz.pinned (.plain (OpenSpec.upto withdrawItemsSpec)) withdrawItemsUptoCard

/-- THE SECOND FORM's CARD OF 'specielaw37.WithdrawChallenges'. -/
def withdrawChallengesUptoCard : Claim7 := { stood := { row := withdrawChallengesUptoRow, standIns := [], harness := (true, "164a56fec4990425e4dcfd976aa604dbdfb4002e5ee4cdc17010dbd4d979833d"), looks := false }, kinds := [], alts := [], laidByText := true, laidKinds := [.data, .data, .data, .data], laidTests := true, laidLooks := .later }
def WithdrawChallengesUptoCardSaid : Prop := Claim7.holds Tryz.pinned (.plain (OpenSpec.upto withdrawChallengesSpec)) withdrawChallengesUptoCard

/-- THE SECOND FORM's CARD OF 'specielaw37.WithdrawFinishes'. -/
def withdrawFinishesUptoCard : Claim7 := { stood := { row := withdrawFinishesUptoRow, standIns := [], harness := (true, "164a56fec4990425e4dcfd976aa604dbdfb4002e5ee4cdc17010dbd4d979833d"), looks := false }, kinds := [], alts := [], laidByText := true, laidKinds := [.data, .data, .data, .data], laidTests := true, laidLooks := .later }
def WithdrawFinishesUptoCardSaid : Prop := Claim7.holds Tryz.pinned (.plain (OpenSpec.upto withdrawFinishesSpec)) withdrawFinishesUptoCard

/-- THE SECOND FORM's CARD OF 'specielaw37.WithdrawAnswers'. -/
def withdrawAnswersUptoCard : Claim7 := { stood := { row := withdrawAnswersUptoRow, standIns := [], harness := (true, "164a56fec4990425e4dcfd976aa604dbdfb4002e5ee4cdc17010dbd4d979833d"), looks := false }, kinds := [], alts := [], laidByText := true, laidKinds := [.data, .data, .data, .data], laidTests := true, laidLooks := .later }
def WithdrawAnswersUptoCardSaid : Prop := Claim7.holds Tryz.pinned (.plain (OpenSpec.upto withdrawAnswersSpec)) withdrawAnswersUptoCard

/-- THE SECOND FORM's CARD OF 'specielaw37.WithdrawOnce'. -/
def withdrawOnceUptoCard : Claim7 := { stood := { row := withdrawOnceUptoRow, standIns := [], harness := (true, "164a56fec4990425e4dcfd976aa604dbdfb4002e5ee4cdc17010dbd4d979833d"), looks := false }, kinds := [], alts := [], laidByText := true, laidKinds := [.data, .data, .data, .data], laidTests := true, laidLooks := .later }
def WithdrawOnceUptoCardSaid : Prop := Claim7.holds Tryz.pinned (.plain (OpenSpec.upto withdrawOnceSpec)) withdrawOnceUptoCard
end Rows
end Go.Proofs.YtjnikknlcmbcmaaGreatDoor
