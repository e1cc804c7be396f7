/-
  DERIVED. GIVEN WITH THE SEED: THE CARDS: each row of YtaeonlafcbgpcaaDoorRows.lean that lists a variable, with what it lists TIED to the program's text (the seventh form; the later family's looks); each row that meets fmt, with fmt's text TOLD by the authors' own Lean function (tested against real Go, not proved from fmt's source: count such statements apart). THE CARD IS WHAT COUNTS. Prove the row's statement (the work); the ties are given (YtaeonlafcbgpcaaDoorTie.lean); close each card by the builder's one call (the guide's Derived/Test/ToyasCard.lean, 'card_holds'). Laid BY PROGRAM, IN A SANDBOX (cutbox-door.mjs). By AI agents, Wed Nov 11 2026. No macro, syntax, notation, axiom, sorry.
-/
import Derived.Test.YtaeonlafcbgpcaaDoorRows
import GoSem.ClaimSeven
namespace Go.Proofs.YtaeonlafcbgpcaaDoor
namespace Rows

/-- THE TIED CARD OF 'pursuivantlaw05.SlotStamps'. -/
def slotStampsCard : Claim7 := { stood := { row := slotStampsRow, standIns := [], harness := (true, "5a2e30dc178d1c48aaec7675884344697ae5e63707614eaccea326b78effe84c"), looks := false }, kinds := [], alts := [], laidByText := true, laidKinds := [.data], laidTests := true, laidLooks := .later }
def SlotStampsCardSaid : Prop := Claim7.holds Tryd.pinned (.plain (OpenSpec.ofChange slotStampsSpec)) slotStampsCard

/-- THE TIED CARD OF 'pursuivantlaw05.SlotTorn'. -/
def slotTornCard : Claim7 := { stood := { row := slotTornRow, standIns := [], harness := (true, "5a2e30dc178d1c48aaec7675884344697ae5e63707614eaccea326b78effe84c"), looks := false }, kinds := [], alts := [], laidByText := true, laidKinds := [.data], laidTests := true, laidLooks := .later }
def SlotTornCardSaid : Prop := Claim7.holds Tryd.pinned (.plain (OpenSpec.ofChange slotTornSpec)) slotTornCard

/-- THE TIED CARD OF 'pursuivantlaw05.SlotEither'. -/
def slotEitherCard : Claim7 := { stood := { row := slotEitherRow, standIns := [], harness := (true, "5a2e30dc178d1c48aaec7675884344697ae5e63707614eaccea326b78effe84c"), looks := false }, kinds := [], alts := [], laidByText := true, laidKinds := [.data], laidTests := true, laidLooks := .later }
def SlotEitherCardSaid : Prop := Claim7.holds Tryd.pinned (.plain (OpenSpec.ofChange slotEitherSpec)) slotEitherCard

/-- THE TIED CARD OF 'pursuivantlaw05.SlotSaved'. -/
def slotSavedCard : Claim7 := { stood := { row := slotSavedRow, standIns := [], harness := (true, "5a2e30dc178d1c48aaec7675884344697ae5e63707614eaccea326b78effe84c"), looks := false }, kinds := [], alts := [], laidByText := true, laidKinds := [.data], laidTests := true, laidLooks := .later }
def SlotSavedCardSaid : Prop := Claim7.holds Tryd.pinned (.plain (OpenSpec.ofChange slotSavedSpec)) slotSavedCard

/-- THE TIED CARD OF 'pursuivantlaw05.SlotAmid'. -/
def slotAmidCard : Claim7 := { stood := { row := slotAmidRow, standIns := [], harness := (true, "5a2e30dc178d1c48aaec7675884344697ae5e63707614eaccea326b78effe84c"), looks := false }, kinds := [], alts := [], laidByText := true, laidKinds := [.data], laidTests := true, laidLooks := .later }
def SlotAmidCardSaid : Prop := Claim7.holds Tryd.pinned (.plain (OpenSpec.ofChange slotAmidSpec)) slotAmidCard

/-- THE TIED CARD OF 'pursuivantlaw05.SlotPlays'. -/
def slotPlaysCard : Claim7 := { stood := { row := slotPlaysRow, standIns := [], harness := (true, "5a2e30dc178d1c48aaec7675884344697ae5e63707614eaccea326b78effe84c"), looks := false }, kinds := [], alts := [], laidByText := true, laidKinds := [.data], laidTests := true, laidLooks := .later }
def SlotPlaysCardSaid : Prop := Claim7.holds Tryd.pinned (.plain (OpenSpec.ofChange slotPlaysSpec)) slotPlaysCard

/-- THE TIED CARD OF 'pursuivantlaw18.VaultBack'. -/
def vaultBackCard : Claim7 := { stood := { row := vaultBackRow, standIns := [], harness := (true, "5a2e30dc178d1c48aaec7675884344697ae5e63707614eaccea326b78effe84c"), looks := false }, kinds := [], alts := [], laidByText := true, laidKinds := [.data], laidTests := true, laidLooks := .later }
def VaultBackCardSaid : Prop := Claim7.holds Tryd.pinned (.plain (OpenSpec.ofChange vaultBackSpec)) vaultBackCard

/-- THE TIED CARD OF 'pursuivantlaw18.VaultAmid'. -/
def vaultAmidCard : Claim7 := { stood := { row := vaultAmidRow, standIns := [], harness := (true, "5a2e30dc178d1c48aaec7675884344697ae5e63707614eaccea326b78effe84c"), looks := false }, kinds := [], alts := [], laidByText := true, laidKinds := [.data], laidTests := true, laidLooks := .later }
def VaultAmidCardSaid : Prop := Claim7.holds Tryd.pinned (.plain (OpenSpec.ofChange vaultAmidSpec)) vaultAmidCard

/-- THE TIED CARD OF 'pursuivantlaw18.VaultRefused'. -/
def vaultRefusedCard : Claim7 := { stood := { row := vaultRefusedRow, standIns := [], harness := (true, "5a2e30dc178d1c48aaec7675884344697ae5e63707614eaccea326b78effe84c"), looks := false }, kinds := [], alts := [], laidByText := true, laidKinds := [.data], laidTests := true, laidLooks := .later }
def VaultRefusedCardSaid : Prop := Claim7.holds Tryd.pinned (.plain (OpenSpec.ofChange vaultRefusedSpec)) vaultRefusedCard

/-- THE SECOND FORM's CARD OF 'pursuivantlaw05.SlotStamps'. -/
def slotStampsUptoCard : Claim7 := { stood := { row := slotStampsUptoRow, standIns := [], harness := (true, "5a2e30dc178d1c48aaec7675884344697ae5e63707614eaccea326b78effe84c"), looks := false }, kinds := [], alts := [], laidByText := true, laidKinds := [.data], laidTests := true, laidLooks := .later }
def SlotStampsUptoCardSaid : Prop := Claim7.holds Tryd.pinned (.plain (OpenSpec.upto slotStampsSpec)) slotStampsUptoCard

/-- THE SECOND FORM's CARD OF 'pursuivantlaw05.SlotTorn'. -/
def slotTornUptoCard : Claim7 := { stood := { row := slotTornUptoRow, standIns := [], harness := (true, "5a2e30dc178d1c48aaec7675884344697ae5e63707614eaccea326b78effe84c"), looks := false }, kinds := [], alts := [], laidByText := true, laidKinds := [.data], laidTests := true, laidLooks := .later }
def SlotTornUptoCardSaid : Prop := Claim7.holds Tryd.pinned (.plain (OpenSpec.upto slotTornSpec)) slotTornUptoCard

/-- THE SECOND FORM's CARD OF 'pursuivantlaw05.SlotEither'. -/
def slotEitherUptoCard : Claim7 := { stood := { row := slotEitherUptoRow, standIns := [], harness := (true, "5a2e30dc178d1c48aaec7675884344697ae5e63707614eaccea326b78effe84c"), looks := false }, kinds := [], alts := [], laidByText := true, laidKinds := [.data], laidTests := true, laidLooks := .later }
def SlotEitherUptoCardSaid : Prop := Claim7.holds Tryd.pinned (.plain (OpenSpec.upto slotEitherSpec)) slotEitherUptoCard

/-- THE SECOND FORM's CARD OF 'pursuivantlaw05.SlotSaved'. -/
def slotSavedUptoCard : Claim7 := { stood := { row := slotSavedUptoRow, standIns := [], harness := (true, "5a2e30dc178d1c48aaec7675884344697ae5e63707614eaccea326b78effe84c"), looks := false }, kinds := [], alts := [], laidByText := true, laidKinds := [.data], laidTests := true, laidLooks := .later }
def SlotSavedUptoCardSaid : Prop := Claim7.holds Tryd.pinned (.plain (OpenSpec.upto slotSavedSpec)) slotSavedUptoCard

/-- THE SECOND FORM's CARD OF 'pursuivantlaw05.SlotAmid'. -/
def slotAmidUptoCard : Claim7 := { stood := { row := slotAmidUptoRow, standIns := [], harness := (true, "5a2e30dc178d1c48aaec7675884344697ae5e63707614eaccea326b78effe84c"), looks := false }, kinds := [], alts := [], laidByText := true, laidKinds := [.data], laidTests := true, laidLooks := .later }
def SlotAmidUptoCardSaid : Prop := Claim7.holds Tryd.pinned (.plain (OpenSpec.upto slotAmidSpec)) slotAmidUptoCard

/-- THE SECOND FORM's CARD OF 'pursuivantlaw05.SlotPlays'. -/
def slotPlaysUptoCard : Claim7 := { stood := { row := slotPlaysUptoRow, standIns := [], harness := (true, "5a2e30dc178d1c48aaec7675884344697ae5e63707614eaccea326b78effe84c"), looks := false }, kinds := [], alts := [], laidByText := true, laidKinds := [.data], laidTests := true, laidLooks := .later }
def SlotPlaysUptoCardSaid : Prop := Claim7.holds Tryd.pinned (.plain (OpenSpec.upto slotPlaysSpec)) slotPlaysUptoCard

/-- THE SECOND FORM's CARD OF 'pursuivantlaw18.VaultBack'. -/
def vaultBackUptoCard : Claim7 := { stood := { row := vaultBackUptoRow, standIns := [], harness := (true, "5a2e30dc178d1c48aaec7675884344697ae5e63707614eaccea326b78effe84c"), looks := false }, kinds := [], alts := [], laidByText := true, laidKinds := [.data], laidTests := true, laidLooks := .later }
def VaultBackUptoCardSaid : Prop := Claim7.holds Tryd.pinned (.plain (OpenSpec.upto vaultBackSpec)) vaultBackUptoCard

/-- THE SECOND FORM's CARD OF 'pursuivantlaw18.VaultAmid'. -/
def vaultAmidUptoCard : Claim7 := { stood := { row := vaultAmidUptoRow, standIns := [], harness := (true, "5a2e30dc178d1c48aaec7675884344697ae5e63707614eaccea326b78effe84c"), looks := false }, kinds := [], alts := [], laidByText := true, laidKinds := [.data], laidTests := true, laidLooks := .later }
def VaultAmidUptoCardSaid : Prop := Claim7.holds Tryd.pinned (.plain (OpenSpec.upto vaultAmidSpec)) vaultAmidUptoCard

/-- THE SECOND FORM's CARD OF 'pursuivantlaw18.VaultRefused'. -/
def vaultRefusedUptoCard : Claim7 := { stood := { row := vaultRefusedUptoRow, standIns := [], harness := (true, "5a2e30dc178d1c48aaec7675884344697ae5e63707614eaccea326b78effe84c"), looks := false }, kinds := [], alts := [], laidByText := true, laidKinds := [.data], laidTests := true, laidLooks := .later }
def VaultRefusedUptoCardSaid : Prop := Claim7.holds Tryd.pinned (.plain (OpenSpec.upto vaultRefusedSpec)) vaultRefusedUptoCard
end Rows
end Go.Proofs.YtaeonlafcbgpcaaDoor
