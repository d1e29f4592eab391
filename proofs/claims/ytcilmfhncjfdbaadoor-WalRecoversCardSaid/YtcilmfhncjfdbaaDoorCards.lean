/-
  DERIVED. GIVEN WITH THE SEED: THE CARDS: each row of YtcilmfhncjfdbaaDoorRows.lean that lists a variable, with what it lists TIED to the program's text (the seventh form; the later family's looks); each row that meets fmt, with fmt's text TOLD by the authors' own Lean function (tested against real Go, not proved from fmt's source: count such statements apart). THE CARD IS WHAT COUNTS. Prove the row's statement (the work); the ties are given (YtcilmfhncjfdbaaDoorTie.lean); close each card by the builder's one call (the guide's Derived/Test/ToyasCard.lean, 'card_holds'). Laid BY PROGRAM, IN A SANDBOX (cutbox-door.mjs). By AI agents, Wed Nov 11 2026. No macro, syntax, notation, axiom, sorry.
-/
import Derived.Test.YtcilmfhncjfdbaaDoorRows
import GoSem.ClaimSeven
namespace Go.Proofs.YtcilmfhncjfdbaaDoor
namespace Rows

/-- THE TIED CARD OF 'hibernaclelaw16.WalFormats'. -/
def walFormatsCard : Claim7 := { stood := { row := walFormatsRow, standIns := [], harness := (true, "570e987a7464176aa72b98e3e8a6c6507c71641d08a02231a6415a08330e3dca"), looks := false }, kinds := [], alts := [], laidByText := true, laidKinds := [.data, .data], laidTests := true, laidLooks := .later }
def WalFormatsCardSaid : Prop := Claim7.holds Tryd.pinned (.plain (OpenSpec.ofChange walFormatsSpec)) walFormatsCard

/-- THE TIED CARD OF 'hibernaclelaw16.WalCommits'. -/
def walCommitsCard : Claim7 := { stood := { row := walCommitsRow, standIns := [], harness := (true, "570e987a7464176aa72b98e3e8a6c6507c71641d08a02231a6415a08330e3dca"), looks := false }, kinds := [], alts := [], laidByText := true, laidKinds := [.data, .data], laidTests := true, laidLooks := .later }
def WalCommitsCardSaid : Prop := Claim7.holds Tryd.pinned (.plain (OpenSpec.ofChange walCommitsSpec)) walCommitsCard

/-- THE TIED CARD OF 'hibernaclelaw16.WalHeads'. -/
def walHeadsCard : Claim7 := { stood := { row := walHeadsRow, standIns := [], harness := (true, "570e987a7464176aa72b98e3e8a6c6507c71641d08a02231a6415a08330e3dca"), looks := false }, kinds := [], alts := [], laidByText := true, laidKinds := [.data, .data], laidTests := true, laidLooks := .later }
def WalHeadsCardSaid : Prop := Claim7.holds Tryd.pinned (.plain (OpenSpec.ofChange walHeadsSpec)) walHeadsCard

/-- THE TIED CARD OF 'hibernaclelaw16.WalSwaps'. -/
def walSwapsCard : Claim7 := { stood := { row := walSwapsRow, standIns := [], harness := (true, "570e987a7464176aa72b98e3e8a6c6507c71641d08a02231a6415a08330e3dca"), looks := false }, kinds := [], alts := [], laidByText := true, laidKinds := [.data, .data], laidTests := true, laidLooks := .later }
def WalSwapsCardSaid : Prop := Claim7.holds Tryd.pinned (.plain (OpenSpec.ofChange walSwapsSpec)) walSwapsCard

/-- THE TIED CARD OF 'hibernaclelaw16.WalRecovers'. -/
def walRecoversCard : Claim7 := { stood := { row := walRecoversRow, standIns := [], harness := (true, "570e987a7464176aa72b98e3e8a6c6507c71641d08a02231a6415a08330e3dca"), looks := false }, kinds := [], alts := [], laidByText := true, laidKinds := [.data, .data], laidTests := true, laidLooks := .later }
def WalRecoversCardSaid : Prop := Claim7.holds Tryd.pinned (.plain (OpenSpec.ofChange walRecoversSpec)) walRecoversCard

/-- THE SECOND FORM's CARD OF 'hibernaclelaw16.WalFormats'. -/
def walFormatsUptoCard : Claim7 := { stood := { row := walFormatsUptoRow, standIns := [], harness := (true, "570e987a7464176aa72b98e3e8a6c6507c71641d08a02231a6415a08330e3dca"), looks := false }, kinds := [], alts := [], laidByText := true, laidKinds := [.data, .data], laidTests := true, laidLooks := .later }
def WalFormatsUptoCardSaid : Prop := Claim7.holds Tryd.pinned (.plain (OpenSpec.upto walFormatsSpec)) walFormatsUptoCard

/-- THE SECOND FORM's CARD OF 'hibernaclelaw16.WalCommits'. -/
def walCommitsUptoCard : Claim7 := { stood := { row := walCommitsUptoRow, standIns := [], harness := (true, "570e987a7464176aa72b98e3e8a6c6507c71641d08a02231a6415a08330e3dca"), looks := false }, kinds := [], alts := [], laidByText := true, laidKinds := [.data, .data], laidTests := true, laidLooks := .later }
def WalCommitsUptoCardSaid : Prop := Claim7.holds Tryd.pinned (.plain (OpenSpec.upto walCommitsSpec)) walCommitsUptoCard

/-- THE SECOND FORM's CARD OF 'hibernaclelaw16.WalHeads'. -/
def walHeadsUptoCard : Claim7 := { stood := { row := walHeadsUptoRow, standIns := [], harness := (true, "570e987a7464176aa72b98e3e8a6c6507c71641d08a02231a6415a08330e3dca"), looks := false }, kinds := [], alts := [], laidByText := true, laidKinds := [.data, .data], laidTests := true, laidLooks := .later }
def WalHeadsUptoCardSaid : Prop := Claim7.holds Tryd.pinned (.plain (OpenSpec.upto walHeadsSpec)) walHeadsUptoCard

/-- THE SECOND FORM's CARD OF 'hibernaclelaw16.WalSwaps'. -/
def walSwapsUptoCard : Claim7 := { stood := { row := walSwapsUptoRow, standIns := [], harness := (true, "570e987a7464176aa72b98e3e8a6c6507c71641d08a02231a6415a08330e3dca"), looks := false }, kinds := [], alts := [], laidByText := true, laidKinds := [.data, .data], laidTests := true, laidLooks := .later }
def WalSwapsUptoCardSaid : Prop := Claim7.holds Tryd.pinned (.plain (OpenSpec.upto walSwapsSpec)) walSwapsUptoCard

/-- THE SECOND FORM's CARD OF 'hibernaclelaw16.WalRecovers'. -/
def walRecoversUptoCard : Claim7 := { stood := { row := walRecoversUptoRow, standIns := [], harness := (true, "570e987a7464176aa72b98e3e8a6c6507c71641d08a02231a6415a08330e3dca"), looks := false }, kinds := [], alts := [], laidByText := true, laidKinds := [.data, .data], laidTests := true, laidLooks := .later }
def WalRecoversUptoCardSaid : Prop := Claim7.holds Tryd.pinned (.plain (OpenSpec.upto walRecoversSpec)) walRecoversUptoCard
end Rows
end Go.Proofs.YtcilmfhncjfdbaaDoor
