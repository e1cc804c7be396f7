/-
  DERIVED. GIVEN WITH THE SEED: THE CARDS: each row of YtcpbmempfeloaaaDoorRows.lean that lists a variable, with what it lists TIED to the program's text (the seventh form; the later family's looks); each row that meets fmt, with fmt's text TOLD by the authors' own Lean function (tested against real Go, not proved from fmt's source: count such statements apart). THE CARD IS WHAT COUNTS. Prove the row's statement (the work); the ties are given (YtcpbmempfeloaaaDoorTie.lean); close each card by the builder's one call (the guide's Derived/Test/ToyasCard.lean, 'card_holds'). Laid BY PROGRAM, IN A SANDBOX (cutbox-door.mjs). By AI agents, Wed Nov 11 2026. No macro, syntax, notation, axiom, sorry.
-/
import Derived.Test.YtcpbmempfeloaaaDoorRows
import GoSem.ClaimSeven
namespace Go.Proofs.YtcpbmempfeloaaaDoor
namespace Rows

/-- THE TIED CARD OF 'pursuivantlaw06.JournalGaps'. -/
def journalGapsCard : Claim7 := { stood := { row := journalGapsRow, standIns := [], harness := (true, "90006e00d86b41892ad99775473fccc806f12bcd1bc267e576342ca096e1ef12"), looks := false }, kinds := [], alts := [], laidByText := true, laidKinds := [.data], laidTests := true, laidLooks := .later }
def JournalGapsCardSaid : Prop := Claim7.holds Tryd.pinned (.plain (OpenSpec.ofChange journalGapsSpec)) journalGapsCard

/-- THE TIED CARD OF 'pursuivantlaw06.JournalLost'. -/
def journalLostCard : Claim7 := { stood := { row := journalLostRow, standIns := [], harness := (true, "90006e00d86b41892ad99775473fccc806f12bcd1bc267e576342ca096e1ef12"), looks := false }, kinds := [], alts := [], laidByText := true, laidKinds := [.data], laidTests := true, laidLooks := .later }
def JournalLostCardSaid : Prop := Claim7.holds Tryd.pinned (.plain (OpenSpec.ofChange journalLostSpec)) journalLostCard

/-- THE TIED CARD OF 'pursuivantlaw06.JournalAgain'. -/
def journalAgainCard : Claim7 := { stood := { row := journalAgainRow, standIns := [], harness := (true, "90006e00d86b41892ad99775473fccc806f12bcd1bc267e576342ca096e1ef12"), looks := false }, kinds := [], alts := [], laidByText := true, laidKinds := [.data], laidTests := true, laidLooks := .later }
def JournalAgainCardSaid : Prop := Claim7.holds Tryd.pinned (.plain (OpenSpec.ofChange journalAgainSpec)) journalAgainCard

/-- THE TIED CARD OF 'pursuivantlaw06.JournalAmid'. -/
def journalAmidCard : Claim7 := { stood := { row := journalAmidRow, standIns := [], harness := (true, "90006e00d86b41892ad99775473fccc806f12bcd1bc267e576342ca096e1ef12"), looks := false }, kinds := [], alts := [], laidByText := true, laidKinds := [.data], laidTests := true, laidLooks := .later }
def JournalAmidCardSaid : Prop := Claim7.holds Tryd.pinned (.plain (OpenSpec.ofChange journalAmidSpec)) journalAmidCard

/-- THE TIED CARD OF 'pursuivantlaw06.JournalPlays'. -/
def journalPlaysCard : Claim7 := { stood := { row := journalPlaysRow, standIns := [], harness := (true, "90006e00d86b41892ad99775473fccc806f12bcd1bc267e576342ca096e1ef12"), looks := false }, kinds := [], alts := [], laidByText := true, laidKinds := [.data], laidTests := true, laidLooks := .later }
def JournalPlaysCardSaid : Prop := Claim7.holds Tryd.pinned (.plain (OpenSpec.ofChange journalPlaysSpec)) journalPlaysCard

/-- THE TIED CARD OF 'pursuivantlaw14.KeepBack'. -/
def keepBackCard : Claim7 := { stood := { row := keepBackRow, standIns := [], harness := (true, "90006e00d86b41892ad99775473fccc806f12bcd1bc267e576342ca096e1ef12"), looks := false }, kinds := [], alts := [], laidByText := true, laidKinds := [.data], laidTests := true, laidLooks := .later }
def KeepBackCardSaid : Prop := Claim7.holds Tryd.pinned (.plain (OpenSpec.ofChange keepBackSpec)) keepBackCard

/-- THE TIED CARD OF 'pursuivantlaw14.KeepRefused'. -/
def keepRefusedCard : Claim7 := { stood := { row := keepRefusedRow, standIns := [], harness := (true, "90006e00d86b41892ad99775473fccc806f12bcd1bc267e576342ca096e1ef12"), looks := false }, kinds := [], alts := [], laidByText := true, laidKinds := [.data], laidTests := true, laidLooks := .later }
def KeepRefusedCardSaid : Prop := Claim7.holds Tryd.pinned (.plain (OpenSpec.ofChange keepRefusedSpec)) keepRefusedCard

/-- THE TIED CARD OF 'pursuivantlaw14.KeepAmid'. -/
def keepAmidCard : Claim7 := { stood := { row := keepAmidRow, standIns := [], harness := (true, "90006e00d86b41892ad99775473fccc806f12bcd1bc267e576342ca096e1ef12"), looks := false }, kinds := [], alts := [], laidByText := true, laidKinds := [.data], laidTests := true, laidLooks := .later }
def KeepAmidCardSaid : Prop := Claim7.holds Tryd.pinned (.plain (OpenSpec.ofChange keepAmidSpec)) keepAmidCard

/-- THE SECOND FORM's CARD OF 'pursuivantlaw06.JournalGaps'. -/
def journalGapsUptoCard : Claim7 := { stood := { row := journalGapsUptoRow, standIns := [], harness := (true, "90006e00d86b41892ad99775473fccc806f12bcd1bc267e576342ca096e1ef12"), looks := false }, kinds := [], alts := [], laidByText := true, laidKinds := [.data], laidTests := true, laidLooks := .later }
def JournalGapsUptoCardSaid : Prop := Claim7.holds Tryd.pinned (.plain (OpenSpec.upto journalGapsSpec)) journalGapsUptoCard

/-- THE SECOND FORM's CARD OF 'pursuivantlaw06.JournalLost'. -/
def journalLostUptoCard : Claim7 := { stood := { row := journalLostUptoRow, standIns := [], harness := (true, "90006e00d86b41892ad99775473fccc806f12bcd1bc267e576342ca096e1ef12"), looks := false }, kinds := [], alts := [], laidByText := true, laidKinds := [.data], laidTests := true, laidLooks := .later }
def JournalLostUptoCardSaid : Prop := Claim7.holds Tryd.pinned (.plain (OpenSpec.upto journalLostSpec)) journalLostUptoCard

/-- THE SECOND FORM's CARD OF 'pursuivantlaw06.JournalAgain'. -/
def journalAgainUptoCard : Claim7 := { stood := { row := journalAgainUptoRow, standIns := [], harness := (true, "90006e00d86b41892ad99775473fccc806f12bcd1bc267e576342ca096e1ef12"), looks := false }, kinds := [], alts := [], laidByText := true, laidKinds := [.data], laidTests := true, laidLooks := .later }
def JournalAgainUptoCardSaid : Prop := Claim7.holds Tryd.pinned (.plain (OpenSpec.upto journalAgainSpec)) journalAgainUptoCard

/-- THE SECOND FORM's CARD OF 'pursuivantlaw06.JournalAmid'. -/
def journalAmidUptoCard : Claim7 := { stood := { row := journalAmidUptoRow, standIns := [], harness := (true, "90006e00d86b41892ad99775473fccc806f12bcd1bc267e576342ca096e1ef12"), looks := false }, kinds := [], alts := [], laidByText := true, laidKinds := [.data], laidTests := true, laidLooks := .later }
def JournalAmidUptoCardSaid : Prop := Claim7.holds Tryd.pinned (.plain (OpenSpec.upto journalAmidSpec)) journalAmidUptoCard

/-- THE SECOND FORM's CARD OF 'pursuivantlaw06.JournalPlays'. -/
def journalPlaysUptoCard : Claim7 := { stood := { row := journalPlaysUptoRow, standIns := [], harness := (true, "90006e00d86b41892ad99775473fccc806f12bcd1bc267e576342ca096e1ef12"), looks := false }, kinds := [], alts := [], laidByText := true, laidKinds := [.data], laidTests := true, laidLooks := .later }
def JournalPlaysUptoCardSaid : Prop := Claim7.holds Tryd.pinned (.plain (OpenSpec.upto journalPlaysSpec)) journalPlaysUptoCard

/-- THE SECOND FORM's CARD OF 'pursuivantlaw14.KeepBack'. -/
def keepBackUptoCard : Claim7 := { stood := { row := keepBackUptoRow, standIns := [], harness := (true, "90006e00d86b41892ad99775473fccc806f12bcd1bc267e576342ca096e1ef12"), looks := false }, kinds := [], alts := [], laidByText := true, laidKinds := [.data], laidTests := true, laidLooks := .later }
def KeepBackUptoCardSaid : Prop := Claim7.holds Tryd.pinned (.plain (OpenSpec.upto keepBackSpec)) keepBackUptoCard

/-- THE SECOND FORM's CARD OF 'pursuivantlaw14.KeepRefused'. -/
def keepRefusedUptoCard : Claim7 := { stood := { row := keepRefusedUptoRow, standIns := [], harness := (true, "90006e00d86b41892ad99775473fccc806f12bcd1bc267e576342ca096e1ef12"), looks := false }, kinds := [], alts := [], laidByText := true, laidKinds := [.data], laidTests := true, laidLooks := .later }
def KeepRefusedUptoCardSaid : Prop := Claim7.holds Tryd.pinned (.plain (OpenSpec.upto keepRefusedSpec)) keepRefusedUptoCard

/-- THE SECOND FORM's CARD OF 'pursuivantlaw14.KeepAmid'. -/
def keepAmidUptoCard : Claim7 := { stood := { row := keepAmidUptoRow, standIns := [], harness := (true, "90006e00d86b41892ad99775473fccc806f12bcd1bc267e576342ca096e1ef12"), looks := false }, kinds := [], alts := [], laidByText := true, laidKinds := [.data], laidTests := true, laidLooks := .later }
def KeepAmidUptoCardSaid : Prop := Claim7.holds Tryd.pinned (.plain (OpenSpec.upto keepAmidSpec)) keepAmidUptoCard
end Rows
end Go.Proofs.YtcpbmempfeloaaaDoor
