/-
  DERIVED. GIVEN WITH THE SEED: THE CARDS: each row of YtokdmojbffnfgaaDoorRows.lean that lists a variable, with what it lists TIED to the program's text (the seventh form; the later family's looks); each row that meets fmt, with fmt's text TOLD by the authors' own Lean function (tested against real Go, not proved from fmt's source: count such statements apart). THE CARD IS WHAT COUNTS. Prove the row's statement (the work); the ties are given (YtokdmojbffnfgaaDoorTie.lean); close each card by the builder's one call (the guide's Derived/Test/ToyasCard.lean, 'card_holds'). Laid BY PROGRAM, IN A SANDBOX (cutbox-door.mjs). By AI agents, Wed Nov 11 2026. No macro, syntax, notation, axiom, sorry.
-/
import Derived.Test.YtokdmojbffnfgaaDoorRows
import GoSem.ClaimSeven
namespace Go.Proofs.YtokdmojbffnfgaaDoor
namespace Rows

/-- THE TIED CARD OF 'wagebooklaw38.JournalAppends'. -/
def journalAppendsCard : Claim7 := { stood := { row := journalAppendsRow, standIns := [], harness := (true, "6746e4677e7c61d111428a9ed2a8a731638c15a2791e2e3c4aac1636332c259d"), looks := false }, kinds := [], alts := [], laidByText := true, laidKinds := [.data, .data, .data], laidTests := true, laidLooks := .later }
def JournalAppendsCardSaid : Prop := Claim7.holds Tryd.pinned (.plain (OpenSpec.ofChange journalAppendsSpec)) journalAppendsCard

/-- THE TIED CARD OF 'wagebooklaw38.JournalReads'. -/
def journalReadsCard : Claim7 := { stood := { row := journalReadsRow, standIns := [], harness := (true, "6746e4677e7c61d111428a9ed2a8a731638c15a2791e2e3c4aac1636332c259d"), looks := false }, kinds := [], alts := [], laidByText := true, laidKinds := [.data, .data, .data, .data, .pinned], laidTests := true, laidLooks := .later }
def JournalReadsCardSaid : Prop := Claim7.holds Tryd.pinned (.plain (OpenSpec.ofChange journalReadsSpec)) journalReadsCard

/-- THE TIED CARD OF 'wagebooklaw38.JournalBack'. -/
def journalBackCard : Claim7 := { stood := { row := journalBackRow, standIns := [], harness := (true, "6746e4677e7c61d111428a9ed2a8a731638c15a2791e2e3c4aac1636332c259d"), looks := false }, kinds := [], alts := [], laidByText := true, laidKinds := [.data, .data, .data, .data, .pinned], laidTests := true, laidLooks := .later }
def JournalBackCardSaid : Prop := Claim7.holds Tryd.pinned (.plain (OpenSpec.ofChange journalBackSpec)) journalBackCard

/-- THE TIED CARD OF 'wagebooklaw38.JournalTurns'. -/
def journalTurnsCard : Claim7 := { stood := { row := journalTurnsRow, standIns := [], harness := (true, "6746e4677e7c61d111428a9ed2a8a731638c15a2791e2e3c4aac1636332c259d"), looks := false }, kinds := [], alts := [], laidByText := true, laidKinds := [.data, .data, .data, .data, .pinned], laidTests := true, laidLooks := .later }
def JournalTurnsCardSaid : Prop := Claim7.holds Tryd.pinned (.plain (OpenSpec.ofChange journalTurnsSpec)) journalTurnsCard

/-- THE TIED CARD OF 'wagebooklaw38.JournalCuts'. -/
def journalCutsCard : Claim7 := { stood := { row := journalCutsRow, standIns := [], harness := (true, "6746e4677e7c61d111428a9ed2a8a731638c15a2791e2e3c4aac1636332c259d"), looks := false }, kinds := [], alts := [], laidByText := true, laidKinds := [.data, .data, .data, .data, .pinned], laidTests := true, laidLooks := .later }
def JournalCutsCardSaid : Prop := Claim7.holds Tryd.pinned (.plain (OpenSpec.ofChange journalCutsSpec)) journalCutsCard

/-- THE SECOND FORM's CARD OF 'wagebooklaw38.JournalAppends'. -/
def journalAppendsUptoCard : Claim7 := { stood := { row := journalAppendsUptoRow, standIns := [], harness := (true, "6746e4677e7c61d111428a9ed2a8a731638c15a2791e2e3c4aac1636332c259d"), looks := false }, kinds := [], alts := [], laidByText := true, laidKinds := [.data, .data, .data], laidTests := true, laidLooks := .later }
def JournalAppendsUptoCardSaid : Prop := Claim7.holds Tryd.pinned (.plain (OpenSpec.upto journalAppendsSpec)) journalAppendsUptoCard

/-- THE SECOND FORM's CARD OF 'wagebooklaw38.JournalReads'. -/
def journalReadsUptoCard : Claim7 := { stood := { row := journalReadsUptoRow, standIns := [], harness := (true, "6746e4677e7c61d111428a9ed2a8a731638c15a2791e2e3c4aac1636332c259d"), looks := false }, kinds := [], alts := [], laidByText := true, laidKinds := [.data, .data, .data, .data, .pinned], laidTests := true, laidLooks := .later }
def JournalReadsUptoCardSaid : Prop := Claim7.holds Tryd.pinned (.plain (OpenSpec.upto journalReadsSpec)) journalReadsUptoCard

/-- THE SECOND FORM's CARD OF 'wagebooklaw38.JournalBack'. -/
def journalBackUptoCard : Claim7 := { stood := { row := journalBackUptoRow, standIns := [], harness := (true, "6746e4677e7c61d111428a9ed2a8a731638c15a2791e2e3c4aac1636332c259d"), looks := false }, kinds := [], alts := [], laidByText := true, laidKinds := [.data, .data, .data, .data, .pinned], laidTests := true, laidLooks := .later }
def JournalBackUptoCardSaid : Prop := Claim7.holds Tryd.pinned (.plain (OpenSpec.upto journalBackSpec)) journalBackUptoCard

/-- THE SECOND FORM's CARD OF 'wagebooklaw38.JournalTurns'. -/
def journalTurnsUptoCard : Claim7 := { stood := { row := journalTurnsUptoRow, standIns := [], harness := (true, "6746e4677e7c61d111428a9ed2a8a731638c15a2791e2e3c4aac1636332c259d"), looks := false }, kinds := [], alts := [], laidByText := true, laidKinds := [.data, .data, .data, .data, .pinned], laidTests := true, laidLooks := .later }
def JournalTurnsUptoCardSaid : Prop := Claim7.holds Tryd.pinned (.plain (OpenSpec.upto journalTurnsSpec)) journalTurnsUptoCard

/-- THE SECOND FORM's CARD OF 'wagebooklaw38.JournalCuts'. -/
def journalCutsUptoCard : Claim7 := { stood := { row := journalCutsUptoRow, standIns := [], harness := (true, "6746e4677e7c61d111428a9ed2a8a731638c15a2791e2e3c4aac1636332c259d"), looks := false }, kinds := [], alts := [], laidByText := true, laidKinds := [.data, .data, .data, .data, .pinned], laidTests := true, laidLooks := .later }
def JournalCutsUptoCardSaid : Prop := Claim7.holds Tryd.pinned (.plain (OpenSpec.upto journalCutsSpec)) journalCutsUptoCard
end Rows
end Go.Proofs.YtokdmojbffnfgaaDoor
