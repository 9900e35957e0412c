/-
  NARROWER THAN 'FOR EVERY INPUT', by the rows' own cells (each row's printed sentence says how): PeriodFinds: laid · PeriodTexts: laid · PeriodYears: laid · PeriodCounts: laid · PeriodNexts: laid · PeriodFollows: laid.
  DERIVED. THE GIVEN ROWS OF THIS SEAT. 6 by the template 'for every input the law returns true; each argument reads behind the call as it read before'; 0 by the template 'total and deterministic' (their statements: YtalpdodajcdibaaDoorTotals.lean).
  GIVEN WITH THE SEED: the statements are not yours to turn. If you find one false, say at which input.
  Laid BY PROGRAM, IN A SANDBOX (cutbox-rows.mjs): the forced cells as the released guide's own fill.sh prints them over the translation 607ce3278f33741f… (all of the seat's roots in one cut). By AI agents, Wed Nov 11 2026. No macro, syntax, notation, axiom, sorry.
-/
import Derived.Test.YtalpdodajcdibaaDoorChecked
import GoSem.Claim
import GoSem.ClaimJoined
import GoSem.ClaimMapViews
import Derived.JoinedTies
import Derived.KernelRfl
namespace Go.Proofs.YtalpdodajcdibaaDoor
/- THE CELL 'sum', in the pinned program and in every row, IS THE sha256 OF THE DUMP (.gsa) THAT YtalpdodajcdibaaDoorProg.lean LOADS. Nothing in Lean hashes anything: it is a label: what it is worth is what the hold of that sum in a sandbox is worth. -/
noncomputable def Tryd.pinned : Pinned := { name := "ytalpdodajcdibaadoor", sum := "607ce3278f33741f56e1855a40330db33b0e0d0d772e1511f02ffc24f918dcf4", checked := Tryd.checked }
namespace Rows
def none {H : Type} : Left H := { results := [], args := [] }

/- WHAT THE LISTED PACKAGE-LEVEL VARIABLES READ AS WHEN THE CALL BEGINS. Each datum BY PROGRAM (the guide's laid-datum.mjs) off the statement by which the dump's own 'gosem.cut.vars' lays the variable. In a bare row this is a premise. The card (YtalpdodajcdibaaDoorCards.lean) ties it to the program's text. -/
def laid_math_bits_deBruijn32tab {H : Type} : DataW H := .agg [.lit (.int .u8 0), .lit (.int .u8 1), .lit (.int .u8 28), .lit (.int .u8 2), .lit (.int .u8 29), .lit (.int .u8 14), .lit (.int .u8 24), .lit (.int .u8 3), .lit (.int .u8 30), .lit (.int .u8 22), .lit (.int .u8 20), .lit (.int .u8 15), .lit (.int .u8 25), .lit (.int .u8 17), .lit (.int .u8 4), .lit (.int .u8 8), .lit (.int .u8 31), .lit (.int .u8 27), .lit (.int .u8 13), .lit (.int .u8 23), .lit (.int .u8 21), .lit (.int .u8 19), .lit (.int .u8 16), .lit (.int .u8 7), .lit (.int .u8 26), .lit (.int .u8 12), .lit (.int .u8 18), .lit (.int .u8 6), .lit (.int .u8 11), .lit (.int .u8 5), .lit (.int .u8 10), .lit (.int .u8 9)]
def laid_math_bits_deBruijn64tab {H : Type} : DataW H := .agg [.lit (.int .u8 0), .lit (.int .u8 1), .lit (.int .u8 56), .lit (.int .u8 2), .lit (.int .u8 57), .lit (.int .u8 49), .lit (.int .u8 28), .lit (.int .u8 3), .lit (.int .u8 61), .lit (.int .u8 58), .lit (.int .u8 42), .lit (.int .u8 50), .lit (.int .u8 38), .lit (.int .u8 29), .lit (.int .u8 17), .lit (.int .u8 4), .lit (.int .u8 62), .lit (.int .u8 47), .lit (.int .u8 59), .lit (.int .u8 36), .lit (.int .u8 45), .lit (.int .u8 43), .lit (.int .u8 51), .lit (.int .u8 22), .lit (.int .u8 53), .lit (.int .u8 39), .lit (.int .u8 33), .lit (.int .u8 30), .lit (.int .u8 24), .lit (.int .u8 18), .lit (.int .u8 12), .lit (.int .u8 5), .lit (.int .u8 63), .lit (.int .u8 55), .lit (.int .u8 48), .lit (.int .u8 27), .lit (.int .u8 60), .lit (.int .u8 41), .lit (.int .u8 37), .lit (.int .u8 16), .lit (.int .u8 46), .lit (.int .u8 35), .lit (.int .u8 44), .lit (.int .u8 21), .lit (.int .u8 52), .lit (.int .u8 32), .lit (.int .u8 23), .lit (.int .u8 11), .lit (.int .u8 54), .lit (.int .u8 26), .lit (.int .u8 40), .lit (.int .u8 15), .lit (.int .u8 34), .lit (.int .u8 20), .lit (.int .u8 31), .lit (.int .u8 10), .lit (.int .u8 25), .lit (.int .u8 14), .lit (.int .u8 19), .lit (.int .u8 9), .lit (.int .u8 13), .lit (.int .u8 8), .lit (.int .u8 7), .lit (.int .u8 6)]
def laid_internal_strconv_uint64pow10 {H : Type} : DataW H := .agg [.lit (.int .u64 1), .lit (.int .u64 10), .lit (.int .u64 100), .lit (.int .u64 1000), .lit (.int .u64 10000), .lit (.int .u64 100000), .lit (.int .u64 1000000), .lit (.int .u64 10000000), .lit (.int .u64 100000000), .lit (.int .u64 1000000000), .lit (.int .u64 10000000000), .lit (.int .u64 100000000000), .lit (.int .u64 1000000000000), .lit (.int .u64 10000000000000), .lit (.int .u64 100000000000000), .lit (.int .u64 1000000000000000), .lit (.int .u64 10000000000000000), .lit (.int .u64 100000000000000000), .lit (.int .u64 1000000000000000000), .lit (.int .u64 10000000000000000000)]
def laid_wagebook_civil_lengths {H : Type} : DataW H := .agg [.lit (.int .i64 31), .lit (.int .i64 28), .lit (.int .i64 31), .lit (.int .i64 30), .lit (.int .i64 31), .lit (.int .i64 30), .lit (.int .i64 31), .lit (.int .i64 31), .lit (.int .i64 30), .lit (.int .i64 31), .lit (.int .i64 30), .lit (.int .i64 31)]
def laid_wagebook_period_lengths {H : Type} : DataW H := .agg [.lit (.int .i64 0), .lit (.int .i64 14), .lit (.int .i64 28)]

/-- 'wagebooklaw06.PeriodFinds': WHATEVER THE INPUT: true; the input reads as it did. -/
def periodFindsSpec : ChangeSpec := { name := "periodFinds", fn := fun _ => fun
  | [d1, d2] => { results := [.lit (.bool true)], args := [d1, d2] }
  | _ => none }
def periodFindsRow : OpenClaim := { program := "ytalpdodajcdibaadoor", sum := "607ce3278f33741f56e1855a40330db33b0e0d0d772e1511f02ffc24f918dcf4", func := "wagebook/wagebooklaw06.PeriodFinds", spec := "periodFinds", named := ["wagebook/period.lengths", "wagebook/civil.lengths", "internal/strconv.uint64pow10", "math/bits.deBruijn32tab", "math/bits.deBruijn64tab"], apart := false, laid := [("math/bits.deBruijn32tab", laid_math_bits_deBruijn32tab), ("math/bits.deBruijn64tab", laid_math_bits_deBruijn64tab), ("internal/strconv.uint64pow10", laid_internal_strconv_uint64pow10), ("wagebook/civil.lengths", laid_wagebook_civil_lengths), ("wagebook/period.lengths", laid_wagebook_period_lengths)] }
def PeriodFindsSaid : Prop := periodFindsRow.holds Tryd.pinned (OpenSpec.ofChange periodFindsSpec)

/-- ITS FALSE NEIGHBOUR: 'it returns false'. Refute it at one input. -/
def periodFindsWrong : ChangeSpec := { name := "periodFinds", fn := fun _ => fun
  | [d1, d2] => { results := [.lit (.bool false)], args := [d1, d2] }
  | _ => none }
def PeriodFindsWrongFalsely : Prop := periodFindsRow.holds Tryd.pinned (OpenSpec.ofChange periodFindsWrong)

/-- 'wagebooklaw06.PeriodTexts': WHATEVER THE INPUT: true; the input reads as it did. -/
def periodTextsSpec : ChangeSpec := { name := "periodTexts", fn := fun _ => fun
  | [d1, d2] => { results := [.lit (.bool true)], args := [d1, d2] }
  | _ => none }
def periodTextsRow : OpenClaim := { program := "ytalpdodajcdibaadoor", sum := "607ce3278f33741f56e1855a40330db33b0e0d0d772e1511f02ffc24f918dcf4", func := "wagebook/wagebooklaw06.PeriodTexts", spec := "periodTexts", recurses := true, named := ["wagebook/period.lengths", "wagebook/civil.lengths", "internal/strconv.uint64pow10", "math/bits.deBruijn32tab", "math/bits.deBruijn64tab"], apart := false, laid := [("math/bits.deBruijn32tab", laid_math_bits_deBruijn32tab), ("math/bits.deBruijn64tab", laid_math_bits_deBruijn64tab), ("internal/strconv.uint64pow10", laid_internal_strconv_uint64pow10), ("wagebook/civil.lengths", laid_wagebook_civil_lengths), ("wagebook/period.lengths", laid_wagebook_period_lengths)] }
def PeriodTextsSaid : Prop := periodTextsRow.holds Tryd.pinned (OpenSpec.ofChange periodTextsSpec)

/-- ITS FALSE NEIGHBOUR: 'it returns false'. Refute it at one input. -/
def periodTextsWrong : ChangeSpec := { name := "periodTexts", fn := fun _ => fun
  | [d1, d2] => { results := [.lit (.bool false)], args := [d1, d2] }
  | _ => none }
def PeriodTextsWrongFalsely : Prop := periodTextsRow.holds Tryd.pinned (OpenSpec.ofChange periodTextsWrong)

/-- 'wagebooklaw06.PeriodYears': WHATEVER THE INPUT: true; the input reads as it did. -/
def periodYearsSpec : ChangeSpec := { name := "periodYears", fn := fun _ => fun
  | [d1, d2] => { results := [.lit (.bool true)], args := [d1, d2] }
  | _ => none }
def periodYearsRow : OpenClaim := { program := "ytalpdodajcdibaadoor", sum := "607ce3278f33741f56e1855a40330db33b0e0d0d772e1511f02ffc24f918dcf4", func := "wagebook/wagebooklaw06.PeriodYears", spec := "periodYears", named := ["wagebook/civil.lengths", "wagebook/period.lengths", "internal/strconv.uint64pow10", "math/bits.deBruijn32tab", "math/bits.deBruijn64tab"], apart := false, laid := [("math/bits.deBruijn32tab", laid_math_bits_deBruijn32tab), ("math/bits.deBruijn64tab", laid_math_bits_deBruijn64tab), ("internal/strconv.uint64pow10", laid_internal_strconv_uint64pow10), ("wagebook/civil.lengths", laid_wagebook_civil_lengths), ("wagebook/period.lengths", laid_wagebook_period_lengths)] }
def PeriodYearsSaid : Prop := periodYearsRow.holds Tryd.pinned (OpenSpec.ofChange periodYearsSpec)

/-- ITS FALSE NEIGHBOUR: 'it returns false'. Refute it at one input. -/
def periodYearsWrong : ChangeSpec := { name := "periodYears", fn := fun _ => fun
  | [d1, d2] => { results := [.lit (.bool false)], args := [d1, d2] }
  | _ => none }
def PeriodYearsWrongFalsely : Prop := periodYearsRow.holds Tryd.pinned (OpenSpec.ofChange periodYearsWrong)

/-- 'wagebooklaw06.PeriodCounts': WHATEVER THE INPUT: true; the input reads as it did. -/
def periodCountsSpec : ChangeSpec := { name := "periodCounts", fn := fun _ => fun
  | [d1, d2] => { results := [.lit (.bool true)], args := [d1, d2] }
  | _ => none }
def periodCountsRow : OpenClaim := { program := "ytalpdodajcdibaadoor", sum := "607ce3278f33741f56e1855a40330db33b0e0d0d772e1511f02ffc24f918dcf4", func := "wagebook/wagebooklaw06.PeriodCounts", spec := "periodCounts", named := ["wagebook/period.lengths", "wagebook/civil.lengths", "internal/strconv.uint64pow10", "math/bits.deBruijn32tab", "math/bits.deBruijn64tab"], apart := false, laid := [("math/bits.deBruijn32tab", laid_math_bits_deBruijn32tab), ("math/bits.deBruijn64tab", laid_math_bits_deBruijn64tab), ("internal/strconv.uint64pow10", laid_internal_strconv_uint64pow10), ("wagebook/civil.lengths", laid_wagebook_civil_lengths), ("wagebook/period.lengths", laid_wagebook_period_lengths)] }
def PeriodCountsSaid : Prop := periodCountsRow.holds Tryd.pinned (OpenSpec.ofChange periodCountsSpec)

/-- ITS FALSE NEIGHBOUR: 'it returns false'. Refute it at one input. -/
def periodCountsWrong : ChangeSpec := { name := "periodCounts", fn := fun _ => fun
  | [d1, d2] => { results := [.lit (.bool false)], args := [d1, d2] }
  | _ => none }
def PeriodCountsWrongFalsely : Prop := periodCountsRow.holds Tryd.pinned (OpenSpec.ofChange periodCountsWrong)

/-- 'wagebooklaw06.PeriodNexts': WHATEVER THE INPUT: true; the input reads as it did. -/
def periodNextsSpec : ChangeSpec := { name := "periodNexts", fn := fun _ => fun
  | [d1, d2, d3] => { results := [.lit (.bool true)], args := [d1, d2, d3] }
  | _ => none }
def periodNextsRow : OpenClaim := { program := "ytalpdodajcdibaadoor", sum := "607ce3278f33741f56e1855a40330db33b0e0d0d772e1511f02ffc24f918dcf4", func := "wagebook/wagebooklaw06.PeriodNexts", spec := "periodNexts", named := ["wagebook/period.lengths", "wagebook/civil.lengths", "internal/strconv.uint64pow10", "math/bits.deBruijn32tab", "math/bits.deBruijn64tab"], apart := false, laid := [("math/bits.deBruijn32tab", laid_math_bits_deBruijn32tab), ("math/bits.deBruijn64tab", laid_math_bits_deBruijn64tab), ("internal/strconv.uint64pow10", laid_internal_strconv_uint64pow10), ("wagebook/civil.lengths", laid_wagebook_civil_lengths), ("wagebook/period.lengths", laid_wagebook_period_lengths)] }
def PeriodNextsSaid : Prop := periodNextsRow.holds Tryd.pinned (OpenSpec.ofChange periodNextsSpec)

/-- ITS FALSE NEIGHBOUR: 'it returns false'. Refute it at one input. -/
def periodNextsWrong : ChangeSpec := { name := "periodNexts", fn := fun _ => fun
  | [d1, d2, d3] => { results := [.lit (.bool false)], args := [d1, d2, d3] }
  | _ => none }
def PeriodNextsWrongFalsely : Prop := periodNextsRow.holds Tryd.pinned (OpenSpec.ofChange periodNextsWrong)

/-- 'wagebooklaw06.PeriodFollows': WHATEVER THE INPUT: true; the input reads as it did. -/
def periodFollowsSpec : ChangeSpec := { name := "periodFollows", fn := fun _ => fun
  | [d1, d2] => { results := [.lit (.bool true)], args := [d1, d2] }
  | _ => none }
def periodFollowsRow : OpenClaim := { program := "ytalpdodajcdibaadoor", sum := "607ce3278f33741f56e1855a40330db33b0e0d0d772e1511f02ffc24f918dcf4", func := "wagebook/wagebooklaw06.PeriodFollows", spec := "periodFollows", named := ["wagebook/civil.lengths", "wagebook/period.lengths", "internal/strconv.uint64pow10", "math/bits.deBruijn32tab", "math/bits.deBruijn64tab"], apart := false, laid := [("math/bits.deBruijn32tab", laid_math_bits_deBruijn32tab), ("math/bits.deBruijn64tab", laid_math_bits_deBruijn64tab), ("internal/strconv.uint64pow10", laid_internal_strconv_uint64pow10), ("wagebook/civil.lengths", laid_wagebook_civil_lengths), ("wagebook/period.lengths", laid_wagebook_period_lengths)] }
def PeriodFollowsSaid : Prop := periodFollowsRow.holds Tryd.pinned (OpenSpec.ofChange periodFollowsSpec)

/-- ITS FALSE NEIGHBOUR: 'it returns false'. Refute it at one input. -/
def periodFollowsWrong : ChangeSpec := { name := "periodFollows", fn := fun _ => fun
  | [d1, d2] => { results := [.lit (.bool false)], args := [d1, d2] }
  | _ => none }
def PeriodFollowsWrongFalsely : Prop := periodFollowsRow.holds Tryd.pinned (OpenSpec.ofChange periodFollowsWrong)

/- THE SECOND FORM. 'bulk': how many values and letters a reading holds, each counted each time it is reached (what is shared counts as often as it is met; a slice's spare places count too). A statement '..UptoSaid' is the law's where the arguments, and the package variables that the reading takes, are together of bulk at most 1048576: NARROWER than '..Said'. Prove '..Said' where nothing that the law and all that it calls make is longer than what came in: it says more and counts as full. Else prove '..UptoSaid'. A law counts once. -/
mutual
def uptoBulk {H : Type} : DataW H → Nat
  | .lit (.string bytes) => bytes.length + 1
  | .lit _ => 1
  | .nil => 1
  | .ptr d => uptoBulk d + 1
  | .slice elems spare => uptoBulkAll elems + uptoBulkAll spare + 1
  | .agg parts => uptoBulkAll parts + 1
  | .iface _ d => uptoBulk d + 1
  | .map entries => uptoBulkEntries entries + 1
  | .held _ => 1
def uptoBulkAll {H : Type} : List (DataW H) → Nat
  | [] => 0
  | d :: r => uptoBulk d + uptoBulkAll r
def uptoBulkEntries {H : Type} : List (Lit × DataW H) → Nat
  | [] => 0
  | x :: r => uptoBulkEntry x + uptoBulkEntries r
def uptoBulkEntry {H : Type} : Lit × DataW H → Nat
  | (.string bytes, d) => bytes.length + uptoBulk d + 1
  | (_, d) => uptoBulk d + 1
 end
def uptoSmall : (H : Type) → List (DataW H) → Bool := fun _ ds => decide (uptoBulkAll ds ≤ 1048576)
def OpenSpec.upto (s : _root_.Go.ChangeSpec) : _root_.Go.OpenSpec := { _root_.Go.OpenSpec.ofChange s with cond := some uptoSmall }

/-- 'wagebooklaw06.PeriodFinds', WHERE WHAT IT READS IS OF BULK AT MOST 1048576: true; the input reads as it did. -/
def periodFindsUptoRow : OpenClaim := { program := "ytalpdodajcdibaadoor", sum := "607ce3278f33741f56e1855a40330db33b0e0d0d772e1511f02ffc24f918dcf4", func := "wagebook/wagebooklaw06.PeriodFinds", spec := "periodFinds", named := ["wagebook/period.lengths", "wagebook/civil.lengths", "internal/strconv.uint64pow10", "math/bits.deBruijn32tab", "math/bits.deBruijn64tab"], apart := false, laid := [("math/bits.deBruijn32tab", laid_math_bits_deBruijn32tab), ("math/bits.deBruijn64tab", laid_math_bits_deBruijn64tab), ("internal/strconv.uint64pow10", laid_internal_strconv_uint64pow10), ("wagebook/civil.lengths", laid_wagebook_civil_lengths), ("wagebook/period.lengths", laid_wagebook_period_lengths)], narrowed := true }
def PeriodFindsUptoSaid : Prop := periodFindsUptoRow.holds Tryd.pinned (OpenSpec.upto periodFindsSpec)

/-- 'wagebooklaw06.PeriodTexts', WHERE WHAT IT READS IS OF BULK AT MOST 1048576: true; the input reads as it did. -/
def periodTextsUptoRow : OpenClaim := { program := "ytalpdodajcdibaadoor", sum := "607ce3278f33741f56e1855a40330db33b0e0d0d772e1511f02ffc24f918dcf4", func := "wagebook/wagebooklaw06.PeriodTexts", spec := "periodTexts", recurses := true, named := ["wagebook/period.lengths", "wagebook/civil.lengths", "internal/strconv.uint64pow10", "math/bits.deBruijn32tab", "math/bits.deBruijn64tab"], apart := false, laid := [("math/bits.deBruijn32tab", laid_math_bits_deBruijn32tab), ("math/bits.deBruijn64tab", laid_math_bits_deBruijn64tab), ("internal/strconv.uint64pow10", laid_internal_strconv_uint64pow10), ("wagebook/civil.lengths", laid_wagebook_civil_lengths), ("wagebook/period.lengths", laid_wagebook_period_lengths)], narrowed := true }
def PeriodTextsUptoSaid : Prop := periodTextsUptoRow.holds Tryd.pinned (OpenSpec.upto periodTextsSpec)

/-- 'wagebooklaw06.PeriodYears', WHERE WHAT IT READS IS OF BULK AT MOST 1048576: true; the input reads as it did. -/
def periodYearsUptoRow : OpenClaim := { program := "ytalpdodajcdibaadoor", sum := "607ce3278f33741f56e1855a40330db33b0e0d0d772e1511f02ffc24f918dcf4", func := "wagebook/wagebooklaw06.PeriodYears", spec := "periodYears", named := ["wagebook/civil.lengths", "wagebook/period.lengths", "internal/strconv.uint64pow10", "math/bits.deBruijn32tab", "math/bits.deBruijn64tab"], apart := false, laid := [("math/bits.deBruijn32tab", laid_math_bits_deBruijn32tab), ("math/bits.deBruijn64tab", laid_math_bits_deBruijn64tab), ("internal/strconv.uint64pow10", laid_internal_strconv_uint64pow10), ("wagebook/civil.lengths", laid_wagebook_civil_lengths), ("wagebook/period.lengths", laid_wagebook_period_lengths)], narrowed := true }
def PeriodYearsUptoSaid : Prop := periodYearsUptoRow.holds Tryd.pinned (OpenSpec.upto periodYearsSpec)

/-- 'wagebooklaw06.PeriodCounts', WHERE WHAT IT READS IS OF BULK AT MOST 1048576: true; the input reads as it did. -/
def periodCountsUptoRow : OpenClaim := { program := "ytalpdodajcdibaadoor", sum := "607ce3278f33741f56e1855a40330db33b0e0d0d772e1511f02ffc24f918dcf4", func := "wagebook/wagebooklaw06.PeriodCounts", spec := "periodCounts", named := ["wagebook/period.lengths", "wagebook/civil.lengths", "internal/strconv.uint64pow10", "math/bits.deBruijn32tab", "math/bits.deBruijn64tab"], apart := false, laid := [("math/bits.deBruijn32tab", laid_math_bits_deBruijn32tab), ("math/bits.deBruijn64tab", laid_math_bits_deBruijn64tab), ("internal/strconv.uint64pow10", laid_internal_strconv_uint64pow10), ("wagebook/civil.lengths", laid_wagebook_civil_lengths), ("wagebook/period.lengths", laid_wagebook_period_lengths)], narrowed := true }
def PeriodCountsUptoSaid : Prop := periodCountsUptoRow.holds Tryd.pinned (OpenSpec.upto periodCountsSpec)

/-- 'wagebooklaw06.PeriodNexts', WHERE WHAT IT READS IS OF BULK AT MOST 1048576: true; the input reads as it did. -/
def periodNextsUptoRow : OpenClaim := { program := "ytalpdodajcdibaadoor", sum := "607ce3278f33741f56e1855a40330db33b0e0d0d772e1511f02ffc24f918dcf4", func := "wagebook/wagebooklaw06.PeriodNexts", spec := "periodNexts", named := ["wagebook/period.lengths", "wagebook/civil.lengths", "internal/strconv.uint64pow10", "math/bits.deBruijn32tab", "math/bits.deBruijn64tab"], apart := false, laid := [("math/bits.deBruijn32tab", laid_math_bits_deBruijn32tab), ("math/bits.deBruijn64tab", laid_math_bits_deBruijn64tab), ("internal/strconv.uint64pow10", laid_internal_strconv_uint64pow10), ("wagebook/civil.lengths", laid_wagebook_civil_lengths), ("wagebook/period.lengths", laid_wagebook_period_lengths)], narrowed := true }
def PeriodNextsUptoSaid : Prop := periodNextsUptoRow.holds Tryd.pinned (OpenSpec.upto periodNextsSpec)

/-- 'wagebooklaw06.PeriodFollows', WHERE WHAT IT READS IS OF BULK AT MOST 1048576: true; the input reads as it did. -/
def periodFollowsUptoRow : OpenClaim := { program := "ytalpdodajcdibaadoor", sum := "607ce3278f33741f56e1855a40330db33b0e0d0d772e1511f02ffc24f918dcf4", func := "wagebook/wagebooklaw06.PeriodFollows", spec := "periodFollows", named := ["wagebook/civil.lengths", "wagebook/period.lengths", "internal/strconv.uint64pow10", "math/bits.deBruijn32tab", "math/bits.deBruijn64tab"], apart := false, laid := [("math/bits.deBruijn32tab", laid_math_bits_deBruijn32tab), ("math/bits.deBruijn64tab", laid_math_bits_deBruijn64tab), ("internal/strconv.uint64pow10", laid_internal_strconv_uint64pow10), ("wagebook/civil.lengths", laid_wagebook_civil_lengths), ("wagebook/period.lengths", laid_wagebook_period_lengths)], narrowed := true }
def PeriodFollowsUptoSaid : Prop := periodFollowsUptoRow.holds Tryd.pinned (OpenSpec.upto periodFollowsSpec)

end Rows
end Go.Proofs.YtalpdodajcdibaaDoor
