/-
  DERIVED. GIVEN WITH THE SEED: THE CARDS: each row of YtalpdodajcdibaaDoorRows.lean that lists a variable, with what it lists TIED to the program's text (the seventh form; the later family's looks); each row that meets fmt, with fmt's text TOLD by the authors' own Lean function (tested against real Go, not proved from fmt's source: count such statements apart). THE CARD IS WHAT COUNTS. Prove the row's statement (the work); the ties are given (YtalpdodajcdibaaDoorTie.lean); close each card by the builder's one call (the guide's Derived/Test/ToyasCard.lean, 'card_holds'). Laid BY PROGRAM, IN A SANDBOX (cutbox-door.mjs). By AI agents, Wed Nov 11 2026. No macro, syntax, notation, axiom, sorry.
-/
import Derived.Test.YtalpdodajcdibaaDoorRows
import GoSem.ClaimSeven
namespace Go.Proofs.YtalpdodajcdibaaDoor
namespace Rows

/-- THE TIED CARD OF 'wagebooklaw06.PeriodFinds'. -/
def periodFindsCard : Claim7 := { stood := { row := periodFindsRow, standIns := [], harness := (true, "c89e7a3e69f6295838cdda64dc2cd95d2dbc61594ba0af4b08c381b0aa16716b"), looks := false }, kinds := [], alts := [], laidByText := true, laidKinds := [.data, .data, .data, .data, .data], laidTests := true, laidLooks := .later }
def PeriodFindsCardSaid : Prop := Claim7.holds Tryd.pinned (.plain (OpenSpec.ofChange periodFindsSpec)) periodFindsCard

/-- THE TIED CARD OF 'wagebooklaw06.PeriodTexts'. -/
def periodTextsCard : Claim7 := { stood := { row := periodTextsRow, standIns := [], harness := (true, "c89e7a3e69f6295838cdda64dc2cd95d2dbc61594ba0af4b08c381b0aa16716b"), looks := false }, kinds := [], alts := [], laidByText := true, laidKinds := [.data, .data, .data, .data, .data], laidTests := true, laidLooks := .later }
def PeriodTextsCardSaid : Prop := Claim7.holds Tryd.pinned (.plain (OpenSpec.ofChange periodTextsSpec)) periodTextsCard

/-- THE TIED CARD OF 'wagebooklaw06.PeriodYears'. -/
def periodYearsCard : Claim7 := { stood := { row := periodYearsRow, standIns := [], harness := (true, "c89e7a3e69f6295838cdda64dc2cd95d2dbc61594ba0af4b08c381b0aa16716b"), looks := false }, kinds := [], alts := [], laidByText := true, laidKinds := [.data, .data, .data, .data, .data], laidTests := true, laidLooks := .later }
def PeriodYearsCardSaid : Prop := Claim7.holds Tryd.pinned (.plain (OpenSpec.ofChange periodYearsSpec)) periodYearsCard

/-- THE TIED CARD OF 'wagebooklaw06.PeriodCounts'. -/
def periodCountsCard : Claim7 := { stood := { row := periodCountsRow, standIns := [], harness := (true, "c89e7a3e69f6295838cdda64dc2cd95d2dbc61594ba0af4b08c381b0aa16716b"), looks := false }, kinds := [], alts := [], laidByText := true, laidKinds := [.data, .data, .data, .data, .data], laidTests := true, laidLooks := .later }
def PeriodCountsCardSaid : Prop := Claim7.holds Tryd.pinned (.plain (OpenSpec.ofChange periodCountsSpec)) periodCountsCard

/-- THE TIED CARD OF 'wagebooklaw06.PeriodNexts'. -/
def periodNextsCard : Claim7 := { stood := { row := periodNextsRow, standIns := [], harness := (true, "c89e7a3e69f6295838cdda64dc2cd95d2dbc61594ba0af4b08c381b0aa16716b"), looks := false }, kinds := [], alts := [], laidByText := true, laidKinds := [.data, .data, .data, .data, .data], laidTests := true, laidLooks := .later }
def PeriodNextsCardSaid : Prop := Claim7.holds Tryd.pinned (.plain (OpenSpec.ofChange periodNextsSpec)) periodNextsCard

/-- THE TIED CARD OF 'wagebooklaw06.PeriodFollows'. -/
def periodFollowsCard : Claim7 := { stood := { row := periodFollowsRow, standIns := [], harness := (true, "c89e7a3e69f6295838cdda64dc2cd95d2dbc61594ba0af4b08c381b0aa16716b"), looks := false }, kinds := [], alts := [], laidByText := true, laidKinds := [.data, .data, .data, .data, .data], laidTests := true, laidLooks := .later }
def PeriodFollowsCardSaid : Prop := Claim7.holds Tryd.pinned (.plain (OpenSpec.ofChange periodFollowsSpec)) periodFollowsCard

/-- THE SECOND FORM's CARD OF 'wagebooklaw06.PeriodFinds'. -/
def periodFindsUptoCard : Claim7 := { stood := { row := periodFindsUptoRow, standIns := [], harness := (true, "c89e7a3e69f6295838cdda64dc2cd95d2dbc61594ba0af4b08c381b0aa16716b"), looks := false }, kinds := [], alts := [], laidByText := true, laidKinds := [.data, .data, .data, .data, .data], laidTests := true, laidLooks := .later }
def PeriodFindsUptoCardSaid : Prop := Claim7.holds Tryd.pinned (.plain (OpenSpec.upto periodFindsSpec)) periodFindsUptoCard

/-- THE SECOND FORM's CARD OF 'wagebooklaw06.PeriodTexts'. -/
def periodTextsUptoCard : Claim7 := { stood := { row := periodTextsUptoRow, standIns := [], harness := (true, "c89e7a3e69f6295838cdda64dc2cd95d2dbc61594ba0af4b08c381b0aa16716b"), looks := false }, kinds := [], alts := [], laidByText := true, laidKinds := [.data, .data, .data, .data, .data], laidTests := true, laidLooks := .later }
def PeriodTextsUptoCardSaid : Prop := Claim7.holds Tryd.pinned (.plain (OpenSpec.upto periodTextsSpec)) periodTextsUptoCard

/-- THE SECOND FORM's CARD OF 'wagebooklaw06.PeriodYears'. -/
def periodYearsUptoCard : Claim7 := { stood := { row := periodYearsUptoRow, standIns := [], harness := (true, "c89e7a3e69f6295838cdda64dc2cd95d2dbc61594ba0af4b08c381b0aa16716b"), looks := false }, kinds := [], alts := [], laidByText := true, laidKinds := [.data, .data, .data, .data, .data], laidTests := true, laidLooks := .later }
def PeriodYearsUptoCardSaid : Prop := Claim7.holds Tryd.pinned (.plain (OpenSpec.upto periodYearsSpec)) periodYearsUptoCard

/-- THE SECOND FORM's CARD OF 'wagebooklaw06.PeriodCounts'. -/
def periodCountsUptoCard : Claim7 := { stood := { row := periodCountsUptoRow, standIns := [], harness := (true, "c89e7a3e69f6295838cdda64dc2cd95d2dbc61594ba0af4b08c381b0aa16716b"), looks := false }, kinds := [], alts := [], laidByText := true, laidKinds := [.data, .data, .data, .data, .data], laidTests := true, laidLooks := .later }
def PeriodCountsUptoCardSaid : Prop := Claim7.holds Tryd.pinned (.plain (OpenSpec.upto periodCountsSpec)) periodCountsUptoCard

/-- THE SECOND FORM's CARD OF 'wagebooklaw06.PeriodNexts'. -/
def periodNextsUptoCard : Claim7 := { stood := { row := periodNextsUptoRow, standIns := [], harness := (true, "c89e7a3e69f6295838cdda64dc2cd95d2dbc61594ba0af4b08c381b0aa16716b"), looks := false }, kinds := [], alts := [], laidByText := true, laidKinds := [.data, .data, .data, .data, .data], laidTests := true, laidLooks := .later }
def PeriodNextsUptoCardSaid : Prop := Claim7.holds Tryd.pinned (.plain (OpenSpec.upto periodNextsSpec)) periodNextsUptoCard

/-- THE SECOND FORM's CARD OF 'wagebooklaw06.PeriodFollows'. -/
def periodFollowsUptoCard : Claim7 := { stood := { row := periodFollowsUptoRow, standIns := [], harness := (true, "c89e7a3e69f6295838cdda64dc2cd95d2dbc61594ba0af4b08c381b0aa16716b"), looks := false }, kinds := [], alts := [], laidByText := true, laidKinds := [.data, .data, .data, .data, .data], laidTests := true, laidLooks := .later }
def PeriodFollowsUptoCardSaid : Prop := Claim7.holds Tryd.pinned (.plain (OpenSpec.upto periodFollowsSpec)) periodFollowsUptoCard
end Rows
end Go.Proofs.YtalpdodajcdibaaDoor
