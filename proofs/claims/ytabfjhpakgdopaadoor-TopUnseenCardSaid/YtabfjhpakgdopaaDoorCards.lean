/-
  DERIVED. GIVEN WITH THE SEED: THE CARDS: each row of YtabfjhpakgdopaaDoorRows.lean that lists a variable, with what it lists TIED to the program's text (the seventh form; the later family's looks); each row that meets fmt, with fmt's text TOLD by the authors' own Lean function (tested against real Go, not proved from fmt's source: count such statements apart). THE CARD IS WHAT COUNTS. Prove the row's statement (the work); the ties are given (YtabfjhpakgdopaaDoorTie.lean); close each card by the builder's one call (the guide's Derived/Test/ToyasCard.lean, 'card_holds'). Laid BY PROGRAM, IN A SANDBOX (cutbox-door.mjs). By AI agents, Wed Nov 11 2026. No macro, syntax, notation, axiom, sorry.
-/
import Derived.Test.YtabfjhpakgdopaaDoorRows
import GoSem.ClaimSeven
namespace Go.Proofs.YtabfjhpakgdopaaDoor
namespace Rows

/-- THE TIED CARD OF 'hibernacletop.TopOwnPages'. -/
def topOwnPagesCard : Claim7 := { stood := { row := topOwnPagesRow, standIns := [], harness := (true, "e008299682c378e71112739fe60be9b2b92f7f3cfff5fe022f9297eac3ecfac6"), looks := false }, kinds := [], alts := [], laidByText := true, laidKinds := [.data, .data], laidTests := true, laidLooks := .later }
def TopOwnPagesCardSaid : Prop := Claim7.holds Tryd.pinned (.plain (OpenSpec.ofChange topOwnPagesSpec)) topOwnPagesCard

/-- THE TIED CARD OF 'hibernaclelaw16.WalFormats'. -/
def walFormatsCard : Claim7 := { stood := { row := walFormatsRow, standIns := [], harness := (true, "e008299682c378e71112739fe60be9b2b92f7f3cfff5fe022f9297eac3ecfac6"), looks := false }, kinds := [], alts := [], laidByText := true, laidKinds := [.data, .data], laidTests := true, laidLooks := .later }
def WalFormatsCardSaid : Prop := Claim7.holds Tryd.pinned (.plain (OpenSpec.ofChange walFormatsSpec)) walFormatsCard

/-- THE TIED CARD OF 'hibernaclelaw16.WalCommits'. -/
def walCommitsCard : Claim7 := { stood := { row := walCommitsRow, standIns := [], harness := (true, "e008299682c378e71112739fe60be9b2b92f7f3cfff5fe022f9297eac3ecfac6"), looks := false }, kinds := [], alts := [], laidByText := true, laidKinds := [.data, .data], laidTests := true, laidLooks := .later }
def WalCommitsCardSaid : Prop := Claim7.holds Tryd.pinned (.plain (OpenSpec.ofChange walCommitsSpec)) walCommitsCard

/-- THE TIED CARD OF 'hibernaclelaw16.WalHeads'. -/
def walHeadsCard : Claim7 := { stood := { row := walHeadsRow, standIns := [], harness := (true, "e008299682c378e71112739fe60be9b2b92f7f3cfff5fe022f9297eac3ecfac6"), looks := false }, kinds := [], alts := [], laidByText := true, laidKinds := [.data, .data], laidTests := true, laidLooks := .later }
def WalHeadsCardSaid : Prop := Claim7.holds Tryd.pinned (.plain (OpenSpec.ofChange walHeadsSpec)) walHeadsCard

/-- THE TIED CARD OF 'hibernaclelaw16.WalSwaps'. -/
def walSwapsCard : Claim7 := { stood := { row := walSwapsRow, standIns := [], harness := (true, "e008299682c378e71112739fe60be9b2b92f7f3cfff5fe022f9297eac3ecfac6"), looks := false }, kinds := [], alts := [], laidByText := true, laidKinds := [.data, .data], laidTests := true, laidLooks := .later }
def WalSwapsCardSaid : Prop := Claim7.holds Tryd.pinned (.plain (OpenSpec.ofChange walSwapsSpec)) walSwapsCard

/-- THE TIED CARD OF 'hibernaclelaw16.WalRecovers'. -/
def walRecoversCard : Claim7 := { stood := { row := walRecoversRow, standIns := [], harness := (true, "e008299682c378e71112739fe60be9b2b92f7f3cfff5fe022f9297eac3ecfac6"), looks := false }, kinds := [], alts := [], laidByText := true, laidKinds := [.data, .data], laidTests := true, laidLooks := .later }
def WalRecoversCardSaid : Prop := Claim7.holds Tryd.pinned (.plain (OpenSpec.ofChange walRecoversSpec)) walRecoversCard

/-- THE TIED CARD OF 'hibernacletop.TopUnseen'. -/
def topUnseenCard : Claim7 := { stood := { row := topUnseenRow, standIns := [], harness := (true, "e008299682c378e71112739fe60be9b2b92f7f3cfff5fe022f9297eac3ecfac6"), looks := false }, kinds := [], alts := [], laidByText := true, laidKinds := [.data, .data], laidTests := true, laidLooks := .later }
def TopUnseenCardSaid : Prop := Claim7.holds Tryd.pinned (.plain (OpenSpec.ofChange topUnseenSpec)) topUnseenCard

/-- THE SECOND FORM's CARD OF 'hibernacletop.TopOwnPages'. -/
def topOwnPagesUptoCard : Claim7 := { stood := { row := topOwnPagesUptoRow, standIns := [], harness := (true, "e008299682c378e71112739fe60be9b2b92f7f3cfff5fe022f9297eac3ecfac6"), looks := false }, kinds := [], alts := [], laidByText := true, laidKinds := [.data, .data], laidTests := true, laidLooks := .later }
def TopOwnPagesUptoCardSaid : Prop := Claim7.holds Tryd.pinned (.plain (OpenSpec.upto topOwnPagesSpec)) topOwnPagesUptoCard

/-- THE SECOND FORM's CARD OF 'hibernaclelaw16.WalFormats'. -/
def walFormatsUptoCard : Claim7 := { stood := { row := walFormatsUptoRow, standIns := [], harness := (true, "e008299682c378e71112739fe60be9b2b92f7f3cfff5fe022f9297eac3ecfac6"), looks := false }, kinds := [], alts := [], laidByText := true, laidKinds := [.data, .data], laidTests := true, laidLooks := .later }
def WalFormatsUptoCardSaid : Prop := Claim7.holds Tryd.pinned (.plain (OpenSpec.upto walFormatsSpec)) walFormatsUptoCard

/-- THE SECOND FORM's CARD OF 'hibernaclelaw16.WalCommits'. -/
def walCommitsUptoCard : Claim7 := { stood := { row := walCommitsUptoRow, standIns := [], harness := (true, "e008299682c378e71112739fe60be9b2b92f7f3cfff5fe022f9297eac3ecfac6"), looks := false }, kinds := [], alts := [], laidByText := true, laidKinds := [.data, .data], laidTests := true, laidLooks := .later }
def WalCommitsUptoCardSaid : Prop := Claim7.holds Tryd.pinned (.plain (OpenSpec.upto walCommitsSpec)) walCommitsUptoCard

/-- THE SECOND FORM's CARD OF 'hibernaclelaw16.WalHeads'. -/
def walHeadsUptoCard : Claim7 := { stood := { row := walHeadsUptoRow, standIns := [], harness := (true, "e008299682c378e71112739fe60be9b2b92f7f3cfff5fe022f9297eac3ecfac6"), looks := false }, kinds := [], alts := [], laidByText := true, laidKinds := [.data, .data], laidTests := true, laidLooks := .later }
def WalHeadsUptoCardSaid : Prop := Claim7.holds Tryd.pinned (.plain (OpenSpec.upto walHeadsSpec)) walHeadsUptoCard

/-- THE SECOND FORM's CARD OF 'hibernaclelaw16.WalSwaps'. -/
def walSwapsUptoCard : Claim7 := { stood := { row := walSwapsUptoRow, standIns := [], harness := (true, "e008299682c378e71112739fe60be9b2b92f7f3cfff5fe022f9297eac3ecfac6"), looks := false }, kinds := [], alts := [], laidByText := true, laidKinds := [.data, .data], laidTests := true, laidLooks := .later }
def WalSwapsUptoCardSaid : Prop := Claim7.holds Tryd.pinned (.plain (OpenSpec.upto walSwapsSpec)) walSwapsUptoCard

/-- THE SECOND FORM's CARD OF 'hibernaclelaw16.WalRecovers'. -/
def walRecoversUptoCard : Claim7 := { stood := { row := walRecoversUptoRow, standIns := [], harness := (true, "e008299682c378e71112739fe60be9b2b92f7f3cfff5fe022f9297eac3ecfac6"), looks := false }, kinds := [], alts := [], laidByText := true, laidKinds := [.data, .data], laidTests := true, laidLooks := .later }
def WalRecoversUptoCardSaid : Prop := Claim7.holds Tryd.pinned (.plain (OpenSpec.upto walRecoversSpec)) walRecoversUptoCard

/-- THE SECOND FORM's CARD OF 'hibernacletop.TopUnseen'. -/
def topUnseenUptoCard : Claim7 := { stood := { row := topUnseenUptoRow, standIns := [], harness := (true, "e008299682c378e71112739fe60be9b2b92f7f3cfff5fe022f9297eac3ecfac6"), looks := false }, kinds := [], alts := [], laidByText := true, laidKinds := [.data, .data], laidTests := true, laidLooks := .later }
def TopUnseenUptoCardSaid : Prop := Claim7.holds Tryd.pinned (.plain (OpenSpec.upto topUnseenSpec)) topUnseenUptoCard
end Rows
end Go.Proofs.YtabfjhpakgdopaaDoor
