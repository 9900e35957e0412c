/-
  DERIVED. GIVEN WITH THE SEED: THE CARDS: each row of YtpiedhjjpmmomaaDoorRows.lean that lists a variable, with what it lists TIED to the program's text (the seventh form; the later family's looks); each row that meets fmt, with fmt's text TOLD by the authors' own Lean function (tested against real Go, not proved from fmt's source: count such statements apart). THE CARD IS WHAT COUNTS. Prove the row's statement (the work); the ties are given (YtpiedhjjpmmomaaDoorTie.lean); close each card by the builder's one call (the guide's Derived/Test/ToyasCard.lean, 'card_holds'). Laid BY PROGRAM, IN A SANDBOX (cutbox-door.mjs). By AI agents, Wed Nov 11 2026. No macro, syntax, notation, axiom, sorry.
-/
import Derived.Test.YtpiedhjjpmmomaaDoorRows
import GoSem.ClaimSeven
namespace Go.Proofs.YtpiedhjjpmmomaaDoor
namespace Rows

/-- THE TIED CARD OF 'wagebooklaw27.SlipChecks'. -/
def slipChecksCard : Claim7 := { stood := { row := slipChecksRow, standIns := [], harness := (true, "7f60be29ded82038d946d241db2fa590243c63c44559069c5c2cbcfb84ca87ea"), looks := false }, kinds := [], alts := [], laidByText := true, laidKinds := [.data, .data, .data, .data], laidTests := true, laidLooks := .later }
def SlipChecksCardSaid : Prop := Claim7.holds Tryd.pinned (.plain (OpenSpec.ofChange slipChecksSpec)) slipChecksCard

/-- THE TIED CARD OF 'wagebooklaw27.SlipParts'. -/
def slipPartsCard : Claim7 := { stood := { row := slipPartsRow, standIns := [], harness := (true, "7f60be29ded82038d946d241db2fa590243c63c44559069c5c2cbcfb84ca87ea"), looks := false }, kinds := [], alts := [], laidByText := true, laidKinds := [.data, .data, .data, .data], laidTests := true, laidLooks := .later }
def SlipPartsCardSaid : Prop := Claim7.holds Tryd.pinned (.plain (OpenSpec.ofChange slipPartsSpec)) slipPartsCard

/-- THE TIED CARD OF 'wagebooklaw27.SlipChains'. -/
def slipChainsCard : Claim7 := { stood := { row := slipChainsRow, standIns := [], harness := (true, "7f60be29ded82038d946d241db2fa590243c63c44559069c5c2cbcfb84ca87ea"), looks := false }, kinds := [], alts := [], laidByText := true, laidKinds := [.data, .data, .data, .data], laidTests := true, laidLooks := .later }
def SlipChainsCardSaid : Prop := Claim7.holds Tryd.pinned (.plain (OpenSpec.ofChange slipChainsSpec)) slipChainsCard

/-- THE TIED CARD OF 'wagebooklaw27.SlipMerges'. -/
def slipMergesCard : Claim7 := { stood := { row := slipMergesRow, standIns := [], harness := (true, "7f60be29ded82038d946d241db2fa590243c63c44559069c5c2cbcfb84ca87ea"), looks := false }, kinds := [], alts := [], laidByText := true, laidKinds := [.data, .data, .data, .data], laidTests := true, laidLooks := .later }
def SlipMergesCardSaid : Prop := Claim7.holds Tryd.pinned (.plain (OpenSpec.ofChange slipMergesSpec)) slipMergesCard

/-- THE TIED CARD OF 'wagebooklaw27.SlipAdds'. -/
def slipAddsCard : Claim7 := { stood := { row := slipAddsRow, standIns := [], harness := (true, "7f60be29ded82038d946d241db2fa590243c63c44559069c5c2cbcfb84ca87ea"), looks := false }, kinds := [], alts := [], laidByText := true, laidKinds := [.data, .data, .data, .data], laidTests := true, laidLooks := .later }
def SlipAddsCardSaid : Prop := Claim7.holds Tryd.pinned (.plain (OpenSpec.ofChange slipAddsSpec)) slipAddsCard

/-- THE TIED CARD OF 'wagebooklaw27.SlipParses'. -/
def slipParsesCard : Claim7 := { stood := { row := slipParsesRow, standIns := [], harness := (true, "7f60be29ded82038d946d241db2fa590243c63c44559069c5c2cbcfb84ca87ea"), looks := false }, kinds := [], alts := [], laidByText := true, laidKinds := [.data, .data, .data, .data, .data, .pinned], laidTests := true, laidLooks := .later }
def SlipParsesCardSaid : Prop := Claim7.holds Tryd.pinned (.plain (OpenSpec.ofChange slipParsesSpec)) slipParsesCard

/-- THE TIED CARD OF 'wagebooklaw27.SlipTexts'. -/
def slipTextsCard : Claim7 := { stood := { row := slipTextsRow, standIns := [], harness := (true, "7f60be29ded82038d946d241db2fa590243c63c44559069c5c2cbcfb84ca87ea"), looks := false }, kinds := [], alts := [], laidByText := true, laidKinds := [.data, .data, .data, .data, .data, .pinned], laidTests := true, laidLooks := .later }
def SlipTextsCardSaid : Prop := Claim7.holds Tryd.pinned (.plain (OpenSpec.ofChange slipTextsSpec)) slipTextsCard

/-- THE SECOND FORM's CARD OF 'wagebooklaw27.SlipChecks'. -/
def slipChecksUptoCard : Claim7 := { stood := { row := slipChecksUptoRow, standIns := [], harness := (true, "7f60be29ded82038d946d241db2fa590243c63c44559069c5c2cbcfb84ca87ea"), looks := false }, kinds := [], alts := [], laidByText := true, laidKinds := [.data, .data, .data, .data], laidTests := true, laidLooks := .later }
def SlipChecksUptoCardSaid : Prop := Claim7.holds Tryd.pinned (.plain (OpenSpec.upto slipChecksSpec)) slipChecksUptoCard

/-- THE SECOND FORM's CARD OF 'wagebooklaw27.SlipParts'. -/
def slipPartsUptoCard : Claim7 := { stood := { row := slipPartsUptoRow, standIns := [], harness := (true, "7f60be29ded82038d946d241db2fa590243c63c44559069c5c2cbcfb84ca87ea"), looks := false }, kinds := [], alts := [], laidByText := true, laidKinds := [.data, .data, .data, .data], laidTests := true, laidLooks := .later }
def SlipPartsUptoCardSaid : Prop := Claim7.holds Tryd.pinned (.plain (OpenSpec.upto slipPartsSpec)) slipPartsUptoCard

/-- THE SECOND FORM's CARD OF 'wagebooklaw27.SlipChains'. -/
def slipChainsUptoCard : Claim7 := { stood := { row := slipChainsUptoRow, standIns := [], harness := (true, "7f60be29ded82038d946d241db2fa590243c63c44559069c5c2cbcfb84ca87ea"), looks := false }, kinds := [], alts := [], laidByText := true, laidKinds := [.data, .data, .data, .data], laidTests := true, laidLooks := .later }
def SlipChainsUptoCardSaid : Prop := Claim7.holds Tryd.pinned (.plain (OpenSpec.upto slipChainsSpec)) slipChainsUptoCard

/-- THE SECOND FORM's CARD OF 'wagebooklaw27.SlipMerges'. -/
def slipMergesUptoCard : Claim7 := { stood := { row := slipMergesUptoRow, standIns := [], harness := (true, "7f60be29ded82038d946d241db2fa590243c63c44559069c5c2cbcfb84ca87ea"), looks := false }, kinds := [], alts := [], laidByText := true, laidKinds := [.data, .data, .data, .data], laidTests := true, laidLooks := .later }
def SlipMergesUptoCardSaid : Prop := Claim7.holds Tryd.pinned (.plain (OpenSpec.upto slipMergesSpec)) slipMergesUptoCard

/-- THE SECOND FORM's CARD OF 'wagebooklaw27.SlipAdds'. -/
def slipAddsUptoCard : Claim7 := { stood := { row := slipAddsUptoRow, standIns := [], harness := (true, "7f60be29ded82038d946d241db2fa590243c63c44559069c5c2cbcfb84ca87ea"), looks := false }, kinds := [], alts := [], laidByText := true, laidKinds := [.data, .data, .data, .data], laidTests := true, laidLooks := .later }
def SlipAddsUptoCardSaid : Prop := Claim7.holds Tryd.pinned (.plain (OpenSpec.upto slipAddsSpec)) slipAddsUptoCard

/-- THE SECOND FORM's CARD OF 'wagebooklaw27.SlipParses'. -/
def slipParsesUptoCard : Claim7 := { stood := { row := slipParsesUptoRow, standIns := [], harness := (true, "7f60be29ded82038d946d241db2fa590243c63c44559069c5c2cbcfb84ca87ea"), looks := false }, kinds := [], alts := [], laidByText := true, laidKinds := [.data, .data, .data, .data, .data, .pinned], laidTests := true, laidLooks := .later }
def SlipParsesUptoCardSaid : Prop := Claim7.holds Tryd.pinned (.plain (OpenSpec.upto slipParsesSpec)) slipParsesUptoCard

/-- THE SECOND FORM's CARD OF 'wagebooklaw27.SlipTexts'. -/
def slipTextsUptoCard : Claim7 := { stood := { row := slipTextsUptoRow, standIns := [], harness := (true, "7f60be29ded82038d946d241db2fa590243c63c44559069c5c2cbcfb84ca87ea"), looks := false }, kinds := [], alts := [], laidByText := true, laidKinds := [.data, .data, .data, .data, .data, .pinned], laidTests := true, laidLooks := .later }
def SlipTextsUptoCardSaid : Prop := Claim7.holds Tryd.pinned (.plain (OpenSpec.upto slipTextsSpec)) slipTextsUptoCard
end Rows
end Go.Proofs.YtpiedhjjpmmomaaDoor
