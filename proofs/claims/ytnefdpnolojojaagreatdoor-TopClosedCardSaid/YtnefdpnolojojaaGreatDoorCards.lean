/-
  DERIVED. GIVEN WITH THE SEED: THE CARDS: each row of YtnefdpnolojojaaGreatDoorRows.lean that lists a variable, with what it lists TIED to the program's text (the seventh form; the later family's looks); each row that meets fmt, with fmt's text TOLD by the authors' own Lean function (tested against real Go, not proved from fmt's source: count such statements apart). THE CARD IS WHAT COUNTS. Prove the row's statement (the work); the ties are given (YtnefdpnolojojaaGreatDoorTie.lean); close each card by the builder's one call (the guide's Derived/Test/ToyasCard.lean, 'card_holds'). Laid BY PROGRAM, IN A SANDBOX (cutbox-door.mjs). By AI agents, Wed Nov 11 2026. No macro, syntax, notation, axiom, sorry.
-/
import Derived.Test.YtnefdpnolojojaaGreatDoorRows
import GoSem.ClaimSeven
namespace Go.Proofs.YtnefdpnolojojaaGreatDoor
namespace Rows

/-- THE TIED CARD OF 'wagebooktop.TopClosed'. -/
def topClosedCard : Claim7 := { stood := { row := topClosedRow, standIns := [], harness := (true, "1d74c9b8970598916b0151fdfe0cfcbd842ac410e29991e76d5b58c9e0dbc9c8"), looks := false }, kinds := [], alts := [], laidByText := true, laidKinds := [.data, .data, .data], laidTests := true, laidLooks := .later }
def TopClosedCardSaid : Prop := Claim7.holds Tryz.pinned (.plain (OpenSpec.ofChange topClosedSpec)) topClosedCard

/-- THE TIED CARD OF 'wagebooklaw31.RunTexts'. -/
def runTextsCard : Claim7 := { stood := { row := runTextsRow, standIns := [], harness := (true, "1d74c9b8970598916b0151fdfe0cfcbd842ac410e29991e76d5b58c9e0dbc9c8"), looks := false }, kinds := [], alts := [], laidByText := true, laidKinds := [.data, .data, .data], laidTests := true, laidLooks := .later }
def RunTextsCardSaid : Prop := Claim7.holds Tryz.pinned (.plain (OpenSpec.ofChange runTextsSpec)) runTextsCard

/-- THE SECOND FORM's CARD OF 'wagebooktop.TopClosed'. -/
def topClosedUptoCard : Claim7 := { stood := { row := topClosedUptoRow, standIns := [], harness := (true, "1d74c9b8970598916b0151fdfe0cfcbd842ac410e29991e76d5b58c9e0dbc9c8"), looks := false }, kinds := [], alts := [], laidByText := true, laidKinds := [.data, .data, .data], laidTests := true, laidLooks := .later }
def TopClosedUptoCardSaid : Prop := Claim7.holds Tryz.pinned (.plain (OpenSpec.upto topClosedSpec)) topClosedUptoCard

/-- THE SECOND FORM's CARD OF 'wagebooklaw31.RunTexts'. -/
def runTextsUptoCard : Claim7 := { stood := { row := runTextsUptoRow, standIns := [], harness := (true, "1d74c9b8970598916b0151fdfe0cfcbd842ac410e29991e76d5b58c9e0dbc9c8"), looks := false }, kinds := [], alts := [], laidByText := true, laidKinds := [.data, .data, .data], laidTests := true, laidLooks := .later }
def RunTextsUptoCardSaid : Prop := Claim7.holds Tryz.pinned (.plain (OpenSpec.upto runTextsSpec)) runTextsUptoCard
end Rows
end Go.Proofs.YtnefdpnolojojaaGreatDoor
