/-
  NARROWER THAN 'FOR EVERY INPUT', by the rows' own cells (each row's printed sentence says how): SlipChecks: laid · SlipParts: laid · SlipChains: laid · SlipMerges: laid · SlipAdds: laid · SlipParses: laid · SlipTexts: laid.
  DERIVED. THE GIVEN ROWS OF THIS SEAT. 7 by the template 'for every input the law returns true; each argument reads behind the call as it read before'; 0 by the template 'total and deterministic' (their statements: YtpiedhjjpmmomaaDoorTotals.lean).
  GIVEN WITH THE SEED: the statements are not yours to turn. If you find one false, say at which input.
  Laid BY PROGRAM, IN A SANDBOX (cutbox-rows.mjs): the forced cells as the released guide's own fill.sh prints them over the translation 455e639990e73035… (all of the seat's roots in one cut). By AI agents, Wed Nov 11 2026. No macro, syntax, notation, axiom, sorry.
-/
import Derived.Test.YtpiedhjjpmmomaaDoorChecked
import GoSem.PinnedTables
import GoSem.Claim
import GoSem.ClaimJoined
import GoSem.ClaimMapViews
import Derived.JoinedTies
import Derived.KernelRfl
namespace Go.Proofs.YtpiedhjjpmmomaaDoor
/- THE CELL 'sum', in the pinned program and in every row, IS THE sha256 OF THE DUMP (.gsa) THAT YtpiedhjjpmmomaaDoorProg.lean LOADS. Nothing in Lean hashes anything: it is a label: what it is worth is what the hold of that sum in a sandbox is worth. -/
noncomputable def Tryd.pinned : Pinned := { name := "ytpiedhjjpmmomaadoor", sum := "455e639990e730358a2ee79a84332778724c76cbf0061264a93e841b87c0983c", checked := Tryd.checked }
namespace Rows
def none {H : Type} : Left H := { results := [], args := [] }

/- WHAT THE LISTED PACKAGE-LEVEL VARIABLES READ AS WHEN THE CALL BEGINS. Each datum BY PROGRAM (the guide's laid-datum.mjs) off the statement by which the dump's own 'gosem.cut.vars' lays the variable. In a bare row this is a premise. The card (YtpiedhjjpmmomaaDoorCards.lean) ties it to the program's text. -/
def laid_math_bits_deBruijn32tab {H : Type} : DataW H := .agg [.lit (.int .u8 0), .lit (.int .u8 1), .lit (.int .u8 28), .lit (.int .u8 2), .lit (.int .u8 29), .lit (.int .u8 14), .lit (.int .u8 24), .lit (.int .u8 3), .lit (.int .u8 30), .lit (.int .u8 22), .lit (.int .u8 20), .lit (.int .u8 15), .lit (.int .u8 25), .lit (.int .u8 17), .lit (.int .u8 4), .lit (.int .u8 8), .lit (.int .u8 31), .lit (.int .u8 27), .lit (.int .u8 13), .lit (.int .u8 23), .lit (.int .u8 21), .lit (.int .u8 19), .lit (.int .u8 16), .lit (.int .u8 7), .lit (.int .u8 26), .lit (.int .u8 12), .lit (.int .u8 18), .lit (.int .u8 6), .lit (.int .u8 11), .lit (.int .u8 5), .lit (.int .u8 10), .lit (.int .u8 9)]
def laid_math_bits_deBruijn64tab {H : Type} : DataW H := .agg [.lit (.int .u8 0), .lit (.int .u8 1), .lit (.int .u8 56), .lit (.int .u8 2), .lit (.int .u8 57), .lit (.int .u8 49), .lit (.int .u8 28), .lit (.int .u8 3), .lit (.int .u8 61), .lit (.int .u8 58), .lit (.int .u8 42), .lit (.int .u8 50), .lit (.int .u8 38), .lit (.int .u8 29), .lit (.int .u8 17), .lit (.int .u8 4), .lit (.int .u8 62), .lit (.int .u8 47), .lit (.int .u8 59), .lit (.int .u8 36), .lit (.int .u8 45), .lit (.int .u8 43), .lit (.int .u8 51), .lit (.int .u8 22), .lit (.int .u8 53), .lit (.int .u8 39), .lit (.int .u8 33), .lit (.int .u8 30), .lit (.int .u8 24), .lit (.int .u8 18), .lit (.int .u8 12), .lit (.int .u8 5), .lit (.int .u8 63), .lit (.int .u8 55), .lit (.int .u8 48), .lit (.int .u8 27), .lit (.int .u8 60), .lit (.int .u8 41), .lit (.int .u8 37), .lit (.int .u8 16), .lit (.int .u8 46), .lit (.int .u8 35), .lit (.int .u8 44), .lit (.int .u8 21), .lit (.int .u8 52), .lit (.int .u8 32), .lit (.int .u8 23), .lit (.int .u8 11), .lit (.int .u8 54), .lit (.int .u8 26), .lit (.int .u8 40), .lit (.int .u8 15), .lit (.int .u8 34), .lit (.int .u8 20), .lit (.int .u8 31), .lit (.int .u8 10), .lit (.int .u8 25), .lit (.int .u8 14), .lit (.int .u8 19), .lit (.int .u8 9), .lit (.int .u8 13), .lit (.int .u8 8), .lit (.int .u8 7), .lit (.int .u8 6)]
def laid_internal_strconv_uint64pow10 {H : Type} : DataW H := .agg [.lit (.int .u64 1), .lit (.int .u64 10), .lit (.int .u64 100), .lit (.int .u64 1000), .lit (.int .u64 10000), .lit (.int .u64 100000), .lit (.int .u64 1000000), .lit (.int .u64 10000000), .lit (.int .u64 100000000), .lit (.int .u64 1000000000), .lit (.int .u64 10000000000), .lit (.int .u64 100000000000), .lit (.int .u64 1000000000000), .lit (.int .u64 10000000000000), .lit (.int .u64 100000000000000), .lit (.int .u64 1000000000000000), .lit (.int .u64 10000000000000000), .lit (.int .u64 100000000000000000), .lit (.int .u64 1000000000000000000), .lit (.int .u64 10000000000000000000)]
def laid_wagebook_slip_words {H : Type} : DataW H := .agg [.lit (.string [103, 114, 111, 115, 115]), .lit (.string [98, 101, 102, 111, 114, 101]), .lit (.string [119, 111, 114, 107, 101, 114]), .lit (.string [116, 97, 120]), .lit (.string [97, 102, 116, 101, 114]), .lit (.string [111, 114, 100, 101, 114, 115]), .lit (.string [102, 105, 114, 109])]
def laid_unicode_utf8_acceptRanges {H : Type} : DataW H := .agg [.agg [.lit (.int .u8 128), .lit (.int .u8 191)], .agg [.lit (.int .u8 160), .lit (.int .u8 191)], .agg [.lit (.int .u8 128), .lit (.int .u8 159)], .agg [.lit (.int .u8 144), .lit (.int .u8 191)], .agg [.lit (.int .u8 128), .lit (.int .u8 143)], .agg [.lit (.int .u8 0), .lit (.int .u8 0)], .agg [.lit (.int .u8 0), .lit (.int .u8 0)], .agg [.lit (.int .u8 0), .lit (.int .u8 0)], .agg [.lit (.int .u8 0), .lit (.int .u8 0)], .agg [.lit (.int .u8 0), .lit (.int .u8 0)], .agg [.lit (.int .u8 0), .lit (.int .u8 0)], .agg [.lit (.int .u8 0), .lit (.int .u8 0)], .agg [.lit (.int .u8 0), .lit (.int .u8 0)], .agg [.lit (.int .u8 0), .lit (.int .u8 0)], .agg [.lit (.int .u8 0), .lit (.int .u8 0)], .agg [.lit (.int .u8 0), .lit (.int .u8 0)]]
/-- One of Go's own tables, pinned by name: the form's constant. -/
def laid_unicode_utf8_first : DataW Unit := Go.Pinned.utf8First

/-- 'wagebooklaw27.SlipChecks': WHATEVER THE INPUT: true; the input reads as it did. -/
def slipChecksSpec : ChangeSpec := { name := "slipChecks", fn := fun _ => fun
  | [d1, d2] => { results := [.lit (.bool true)], args := [d1, d2] }
  | _ => none }
def slipChecksRow : OpenClaim := { program := "ytpiedhjjpmmomaadoor", sum := "455e639990e730358a2ee79a84332778724c76cbf0061264a93e841b87c0983c", func := "wagebook/wagebooklaw27.SlipChecks", spec := "slipChecks", named := ["wagebook/slip.words", "internal/strconv.uint64pow10", "math/bits.deBruijn32tab", "math/bits.deBruijn64tab"], apart := false, laid := [("math/bits.deBruijn32tab", laid_math_bits_deBruijn32tab), ("math/bits.deBruijn64tab", laid_math_bits_deBruijn64tab), ("internal/strconv.uint64pow10", laid_internal_strconv_uint64pow10), ("wagebook/slip.words", laid_wagebook_slip_words)] }
def SlipChecksSaid : Prop := slipChecksRow.holds Tryd.pinned (OpenSpec.ofChange slipChecksSpec)

/-- ITS FALSE NEIGHBOUR: 'it returns false'. Refute it at one input. -/
def slipChecksWrong : ChangeSpec := { name := "slipChecks", fn := fun _ => fun
  | [d1, d2] => { results := [.lit (.bool false)], args := [d1, d2] }
  | _ => none }
def SlipChecksWrongFalsely : Prop := slipChecksRow.holds Tryd.pinned (OpenSpec.ofChange slipChecksWrong)

/-- 'wagebooklaw27.SlipParts': WHATEVER THE INPUT: true; the input reads as it did. -/
def slipPartsSpec : ChangeSpec := { name := "slipParts", fn := fun _ => fun
  | [d1, d2] => { results := [.lit (.bool true)], args := [d1, d2] }
  | _ => none }
def slipPartsRow : OpenClaim := { program := "ytpiedhjjpmmomaadoor", sum := "455e639990e730358a2ee79a84332778724c76cbf0061264a93e841b87c0983c", func := "wagebook/wagebooklaw27.SlipParts", spec := "slipParts", named := ["wagebook/slip.words", "internal/strconv.uint64pow10", "math/bits.deBruijn32tab", "math/bits.deBruijn64tab"], apart := false, laid := [("math/bits.deBruijn32tab", laid_math_bits_deBruijn32tab), ("math/bits.deBruijn64tab", laid_math_bits_deBruijn64tab), ("internal/strconv.uint64pow10", laid_internal_strconv_uint64pow10), ("wagebook/slip.words", laid_wagebook_slip_words)] }
def SlipPartsSaid : Prop := slipPartsRow.holds Tryd.pinned (OpenSpec.ofChange slipPartsSpec)

/-- ITS FALSE NEIGHBOUR: 'it returns false'. Refute it at one input. -/
def slipPartsWrong : ChangeSpec := { name := "slipParts", fn := fun _ => fun
  | [d1, d2] => { results := [.lit (.bool false)], args := [d1, d2] }
  | _ => none }
def SlipPartsWrongFalsely : Prop := slipPartsRow.holds Tryd.pinned (OpenSpec.ofChange slipPartsWrong)

/-- 'wagebooklaw27.SlipChains': WHATEVER THE INPUT: true; the input reads as it did. -/
def slipChainsSpec : ChangeSpec := { name := "slipChains", fn := fun _ => fun
  | [d1, d2, d3] => { results := [.lit (.bool true)], args := [d1, d2, d3] }
  | _ => none }
def slipChainsRow : OpenClaim := { program := "ytpiedhjjpmmomaadoor", sum := "455e639990e730358a2ee79a84332778724c76cbf0061264a93e841b87c0983c", func := "wagebook/wagebooklaw27.SlipChains", spec := "slipChains", named := ["wagebook/slip.words", "internal/strconv.uint64pow10", "math/bits.deBruijn32tab", "math/bits.deBruijn64tab"], apart := false, laid := [("math/bits.deBruijn32tab", laid_math_bits_deBruijn32tab), ("math/bits.deBruijn64tab", laid_math_bits_deBruijn64tab), ("internal/strconv.uint64pow10", laid_internal_strconv_uint64pow10), ("wagebook/slip.words", laid_wagebook_slip_words)] }
def SlipChainsSaid : Prop := slipChainsRow.holds Tryd.pinned (OpenSpec.ofChange slipChainsSpec)

/-- ITS FALSE NEIGHBOUR: 'it returns false'. Refute it at one input. -/
def slipChainsWrong : ChangeSpec := { name := "slipChains", fn := fun _ => fun
  | [d1, d2, d3] => { results := [.lit (.bool false)], args := [d1, d2, d3] }
  | _ => none }
def SlipChainsWrongFalsely : Prop := slipChainsRow.holds Tryd.pinned (OpenSpec.ofChange slipChainsWrong)

/-- 'wagebooklaw27.SlipMerges': WHATEVER THE INPUT: true; the input reads as it did. -/
def slipMergesSpec : ChangeSpec := { name := "slipMerges", fn := fun _ => fun
  | [d1, d2] => { results := [.lit (.bool true)], args := [d1, d2] }
  | _ => none }
def slipMergesRow : OpenClaim := { program := "ytpiedhjjpmmomaadoor", sum := "455e639990e730358a2ee79a84332778724c76cbf0061264a93e841b87c0983c", func := "wagebook/wagebooklaw27.SlipMerges", spec := "slipMerges", named := ["wagebook/slip.words", "internal/strconv.uint64pow10", "math/bits.deBruijn32tab", "math/bits.deBruijn64tab"], apart := false, laid := [("math/bits.deBruijn32tab", laid_math_bits_deBruijn32tab), ("math/bits.deBruijn64tab", laid_math_bits_deBruijn64tab), ("internal/strconv.uint64pow10", laid_internal_strconv_uint64pow10), ("wagebook/slip.words", laid_wagebook_slip_words)] }
def SlipMergesSaid : Prop := slipMergesRow.holds Tryd.pinned (OpenSpec.ofChange slipMergesSpec)

/-- ITS FALSE NEIGHBOUR: 'it returns false'. Refute it at one input. -/
def slipMergesWrong : ChangeSpec := { name := "slipMerges", fn := fun _ => fun
  | [d1, d2] => { results := [.lit (.bool false)], args := [d1, d2] }
  | _ => none }
def SlipMergesWrongFalsely : Prop := slipMergesRow.holds Tryd.pinned (OpenSpec.ofChange slipMergesWrong)

/-- 'wagebooklaw27.SlipAdds': WHATEVER THE INPUT: true; the input reads as it did. -/
def slipAddsSpec : ChangeSpec := { name := "slipAdds", fn := fun _ => fun
  | [d1, d2] => { results := [.lit (.bool true)], args := [d1, d2] }
  | _ => none }
def slipAddsRow : OpenClaim := { program := "ytpiedhjjpmmomaadoor", sum := "455e639990e730358a2ee79a84332778724c76cbf0061264a93e841b87c0983c", func := "wagebook/wagebooklaw27.SlipAdds", spec := "slipAdds", named := ["wagebook/slip.words", "internal/strconv.uint64pow10", "math/bits.deBruijn32tab", "math/bits.deBruijn64tab"], apart := false, laid := [("math/bits.deBruijn32tab", laid_math_bits_deBruijn32tab), ("math/bits.deBruijn64tab", laid_math_bits_deBruijn64tab), ("internal/strconv.uint64pow10", laid_internal_strconv_uint64pow10), ("wagebook/slip.words", laid_wagebook_slip_words)] }
def SlipAddsSaid : Prop := slipAddsRow.holds Tryd.pinned (OpenSpec.ofChange slipAddsSpec)

/-- ITS FALSE NEIGHBOUR: 'it returns false'. Refute it at one input. -/
def slipAddsWrong : ChangeSpec := { name := "slipAdds", fn := fun _ => fun
  | [d1, d2] => { results := [.lit (.bool false)], args := [d1, d2] }
  | _ => none }
def SlipAddsWrongFalsely : Prop := slipAddsRow.holds Tryd.pinned (OpenSpec.ofChange slipAddsWrong)

/-- 'wagebooklaw27.SlipParses': WHATEVER THE INPUT: true; the input reads as it did. -/
def slipParsesSpec : ChangeSpec := { name := "slipParses", fn := fun _ => fun
  | [d] => { results := [.lit (.bool true)], args := [d] }
  | _ => none }
def slipParsesRow : OpenClaim := { program := "ytpiedhjjpmmomaadoor", sum := "455e639990e730358a2ee79a84332778724c76cbf0061264a93e841b87c0983c", func := "wagebook/wagebooklaw27.SlipParses", spec := "slipParses", inPlace := ["internal/bytealg.CountString", "internal/bytealg.IndexByteString", "internal/bytealg.IndexString"], named := ["wagebook/slip.words", "internal/strconv.uint64pow10", "math/bits.deBruijn32tab", "math/bits.deBruijn64tab", "unicode/utf8.first", "unicode/utf8.acceptRanges", "internal/bytealg.MaxLen"], apart := false, laid := [("math/bits.deBruijn32tab", laid_math_bits_deBruijn32tab), ("math/bits.deBruijn64tab", laid_math_bits_deBruijn64tab), ("internal/strconv.uint64pow10", laid_internal_strconv_uint64pow10), ("unicode/utf8.acceptRanges", laid_unicode_utf8_acceptRanges), ("wagebook/slip.words", laid_wagebook_slip_words), ("unicode/utf8.first", laid_unicode_utf8_first)] }
def SlipParsesSaid : Prop := slipParsesRow.holds Tryd.pinned (OpenSpec.ofChange slipParsesSpec)

/-- ITS FALSE NEIGHBOUR: 'it returns false'. Refute it at one input. -/
def slipParsesWrong : ChangeSpec := { name := "slipParses", fn := fun _ => fun
  | [d] => { results := [.lit (.bool false)], args := [d] }
  | _ => none }
def SlipParsesWrongFalsely : Prop := slipParsesRow.holds Tryd.pinned (OpenSpec.ofChange slipParsesWrong)

/-- 'wagebooklaw27.SlipTexts': WHATEVER THE INPUT: true; the input reads as it did. -/
def slipTextsSpec : ChangeSpec := { name := "slipTexts", fn := fun _ => fun
  | [d1, d2] => { results := [.lit (.bool true)], args := [d1, d2] }
  | _ => none }
def slipTextsRow : OpenClaim := { program := "ytpiedhjjpmmomaadoor", sum := "455e639990e730358a2ee79a84332778724c76cbf0061264a93e841b87c0983c", func := "wagebook/wagebooklaw27.SlipTexts", spec := "slipTexts", inPlace := ["internal/bytealg.CountString", "internal/bytealg.IndexByteString", "internal/bytealg.IndexString"], recurses := true, named := ["wagebook/slip.words", "internal/strconv.uint64pow10", "math/bits.deBruijn32tab", "math/bits.deBruijn64tab", "unicode/utf8.first", "unicode/utf8.acceptRanges", "internal/bytealg.MaxLen"], apart := false, laid := [("math/bits.deBruijn32tab", laid_math_bits_deBruijn32tab), ("math/bits.deBruijn64tab", laid_math_bits_deBruijn64tab), ("internal/strconv.uint64pow10", laid_internal_strconv_uint64pow10), ("unicode/utf8.acceptRanges", laid_unicode_utf8_acceptRanges), ("wagebook/slip.words", laid_wagebook_slip_words), ("unicode/utf8.first", laid_unicode_utf8_first)] }
def SlipTextsSaid : Prop := slipTextsRow.holds Tryd.pinned (OpenSpec.ofChange slipTextsSpec)

/-- ITS FALSE NEIGHBOUR: 'it returns false'. Refute it at one input. -/
def slipTextsWrong : ChangeSpec := { name := "slipTexts", fn := fun _ => fun
  | [d1, d2] => { results := [.lit (.bool false)], args := [d1, d2] }
  | _ => none }
def SlipTextsWrongFalsely : Prop := slipTextsRow.holds Tryd.pinned (OpenSpec.ofChange slipTextsWrong)

/- THE SECOND FORM. 'bulk': how many values and letters a reading holds, each counted each time it is reached (what is shared counts as often as it is met; a slice's spare places count too). A statement '..UptoSaid' is the law's where the arguments, and the package variables that the reading takes, are together of bulk at most 1048576: NARROWER than '..Said'. Prove '..Said' where nothing that the law and all that it calls make is longer than what came in: it says more and counts as full. Else prove '..UptoSaid'. A law counts once. -/
mutual
def uptoBulk {H : Type} : DataW H → Nat
  | .lit (.string bytes) => bytes.length + 1
  | .lit _ => 1
  | .nil => 1
  | .ptr d => uptoBulk d + 1
  | .slice elems spare => uptoBulkAll elems + uptoBulkAll spare + 1
  | .agg parts => uptoBulkAll parts + 1
  | .iface _ d => uptoBulk d + 1
  | .map entries => uptoBulkEntries entries + 1
  | .held _ => 1
def uptoBulkAll {H : Type} : List (DataW H) → Nat
  | [] => 0
  | d :: r => uptoBulk d + uptoBulkAll r
def uptoBulkEntries {H : Type} : List (Lit × DataW H) → Nat
  | [] => 0
  | x :: r => uptoBulkEntry x + uptoBulkEntries r
def uptoBulkEntry {H : Type} : Lit × DataW H → Nat
  | (.string bytes, d) => bytes.length + uptoBulk d + 1
  | (_, d) => uptoBulk d + 1
 end
def uptoSmall : (H : Type) → List (DataW H) → Bool := fun _ ds => decide (uptoBulkAll ds ≤ 1048576)
def OpenSpec.upto (s : _root_.Go.ChangeSpec) : _root_.Go.OpenSpec := { _root_.Go.OpenSpec.ofChange s with cond := some uptoSmall }

/-- 'wagebooklaw27.SlipChecks', WHERE WHAT IT READS IS OF BULK AT MOST 1048576: true; the input reads as it did. -/
def slipChecksUptoRow : OpenClaim := { program := "ytpiedhjjpmmomaadoor", sum := "455e639990e730358a2ee79a84332778724c76cbf0061264a93e841b87c0983c", func := "wagebook/wagebooklaw27.SlipChecks", spec := "slipChecks", named := ["wagebook/slip.words", "internal/strconv.uint64pow10", "math/bits.deBruijn32tab", "math/bits.deBruijn64tab"], apart := false, laid := [("math/bits.deBruijn32tab", laid_math_bits_deBruijn32tab), ("math/bits.deBruijn64tab", laid_math_bits_deBruijn64tab), ("internal/strconv.uint64pow10", laid_internal_strconv_uint64pow10), ("wagebook/slip.words", laid_wagebook_slip_words)], narrowed := true }
def SlipChecksUptoSaid : Prop := slipChecksUptoRow.holds Tryd.pinned (OpenSpec.upto slipChecksSpec)

/-- 'wagebooklaw27.SlipParts', WHERE WHAT IT READS IS OF BULK AT MOST 1048576: true; the input reads as it did. -/
def slipPartsUptoRow : OpenClaim := { program := "ytpiedhjjpmmomaadoor", sum := "455e639990e730358a2ee79a84332778724c76cbf0061264a93e841b87c0983c", func := "wagebook/wagebooklaw27.SlipParts", spec := "slipParts", named := ["wagebook/slip.words", "internal/strconv.uint64pow10", "math/bits.deBruijn32tab", "math/bits.deBruijn64tab"], apart := false, laid := [("math/bits.deBruijn32tab", laid_math_bits_deBruijn32tab), ("math/bits.deBruijn64tab", laid_math_bits_deBruijn64tab), ("internal/strconv.uint64pow10", laid_internal_strconv_uint64pow10), ("wagebook/slip.words", laid_wagebook_slip_words)], narrowed := true }
def SlipPartsUptoSaid : Prop := slipPartsUptoRow.holds Tryd.pinned (OpenSpec.upto slipPartsSpec)

/-- 'wagebooklaw27.SlipChains', WHERE WHAT IT READS IS OF BULK AT MOST 1048576: true; the input reads as it did. -/
def slipChainsUptoRow : OpenClaim := { program := "ytpiedhjjpmmomaadoor", sum := "455e639990e730358a2ee79a84332778724c76cbf0061264a93e841b87c0983c", func := "wagebook/wagebooklaw27.SlipChains", spec := "slipChains", named := ["wagebook/slip.words", "internal/strconv.uint64pow10", "math/bits.deBruijn32tab", "math/bits.deBruijn64tab"], apart := false, laid := [("math/bits.deBruijn32tab", laid_math_bits_deBruijn32tab), ("math/bits.deBruijn64tab", laid_math_bits_deBruijn64tab), ("internal/strconv.uint64pow10", laid_internal_strconv_uint64pow10), ("wagebook/slip.words", laid_wagebook_slip_words)], narrowed := true }
def SlipChainsUptoSaid : Prop := slipChainsUptoRow.holds Tryd.pinned (OpenSpec.upto slipChainsSpec)

/-- 'wagebooklaw27.SlipMerges', WHERE WHAT IT READS IS OF BULK AT MOST 1048576: true; the input reads as it did. -/
def slipMergesUptoRow : OpenClaim := { program := "ytpiedhjjpmmomaadoor", sum := "455e639990e730358a2ee79a84332778724c76cbf0061264a93e841b87c0983c", func := "wagebook/wagebooklaw27.SlipMerges", spec := "slipMerges", named := ["wagebook/slip.words", "internal/strconv.uint64pow10", "math/bits.deBruijn32tab", "math/bits.deBruijn64tab"], apart := false, laid := [("math/bits.deBruijn32tab", laid_math_bits_deBruijn32tab), ("math/bits.deBruijn64tab", laid_math_bits_deBruijn64tab), ("internal/strconv.uint64pow10", laid_internal_strconv_uint64pow10), ("wagebook/slip.words", laid_wagebook_slip_words)], narrowed := true }
def SlipMergesUptoSaid : Prop := slipMergesUptoRow.holds Tryd.pinned (OpenSpec.upto slipMergesSpec)

/-- 'wagebooklaw27.SlipAdds', WHERE WHAT IT READS IS OF BULK AT MOST 1048576: true; the input reads as it did. -/
def slipAddsUptoRow : OpenClaim := { program := "ytpiedhjjpmmomaadoor", sum := "455e639990e730358a2ee79a84332778724c76cbf0061264a93e841b87c0983c", func := "wagebook/wagebooklaw27.SlipAdds", spec := "slipAdds", named := ["wagebook/slip.words", "internal/strconv.uint64pow10", "math/bits.deBruijn32tab", "math/bits.deBruijn64tab"], apart := false, laid := [("math/bits.deBruijn32tab", laid_math_bits_deBruijn32tab), ("math/bits.deBruijn64tab", laid_math_bits_deBruijn64tab), ("internal/strconv.uint64pow10", laid_internal_strconv_uint64pow10), ("wagebook/slip.words", laid_wagebook_slip_words)], narrowed := true }
def SlipAddsUptoSaid : Prop := slipAddsUptoRow.holds Tryd.pinned (OpenSpec.upto slipAddsSpec)

/-- 'wagebooklaw27.SlipParses', WHERE WHAT IT READS IS OF BULK AT MOST 1048576: true; the input reads as it did. -/
def slipParsesUptoRow : OpenClaim := { program := "ytpiedhjjpmmomaadoor", sum := "455e639990e730358a2ee79a84332778724c76cbf0061264a93e841b87c0983c", func := "wagebook/wagebooklaw27.SlipParses", spec := "slipParses", inPlace := ["internal/bytealg.CountString", "internal/bytealg.IndexByteString", "internal/bytealg.IndexString"], named := ["wagebook/slip.words", "internal/strconv.uint64pow10", "math/bits.deBruijn32tab", "math/bits.deBruijn64tab", "unicode/utf8.first", "unicode/utf8.acceptRanges", "internal/bytealg.MaxLen"], apart := false, laid := [("math/bits.deBruijn32tab", laid_math_bits_deBruijn32tab), ("math/bits.deBruijn64tab", laid_math_bits_deBruijn64tab), ("internal/strconv.uint64pow10", laid_internal_strconv_uint64pow10), ("unicode/utf8.acceptRanges", laid_unicode_utf8_acceptRanges), ("wagebook/slip.words", laid_wagebook_slip_words), ("unicode/utf8.first", laid_unicode_utf8_first)], narrowed := true }
def SlipParsesUptoSaid : Prop := slipParsesUptoRow.holds Tryd.pinned (OpenSpec.upto slipParsesSpec)

/-- 'wagebooklaw27.SlipTexts', WHERE WHAT IT READS IS OF BULK AT MOST 1048576: true; the input reads as it did. -/
def slipTextsUptoRow : OpenClaim := { program := "ytpiedhjjpmmomaadoor", sum := "455e639990e730358a2ee79a84332778724c76cbf0061264a93e841b87c0983c", func := "wagebook/wagebooklaw27.SlipTexts", spec := "slipTexts", inPlace := ["internal/bytealg.CountString", "internal/bytealg.IndexByteString", "internal/bytealg.IndexString"], recurses := true, named := ["wagebook/slip.words", "internal/strconv.uint64pow10", "math/bits.deBruijn32tab", "math/bits.deBruijn64tab", "unicode/utf8.first", "unicode/utf8.acceptRanges", "internal/bytealg.MaxLen"], apart := false, laid := [("math/bits.deBruijn32tab", laid_math_bits_deBruijn32tab), ("math/bits.deBruijn64tab", laid_math_bits_deBruijn64tab), ("internal/strconv.uint64pow10", laid_internal_strconv_uint64pow10), ("unicode/utf8.acceptRanges", laid_unicode_utf8_acceptRanges), ("wagebook/slip.words", laid_wagebook_slip_words), ("unicode/utf8.first", laid_unicode_utf8_first)], narrowed := true }
def SlipTextsUptoSaid : Prop := slipTextsUptoRow.holds Tryd.pinned (OpenSpec.upto slipTextsSpec)

end Rows
end Go.Proofs.YtpiedhjjpmmomaaDoor
