/-
  No cell of these rows narrows 'for every input' (looked for: loops, veiled, ifaces, maps, wideKeys, modest, calm, conditions, laid).
  DERIVED. THE GIVEN ROWS OF THIS SEAT. 8 by the template 'for every input the law returns true; each argument reads behind the call as it read before'; 0 by the template 'total and deterministic' (their statements: YtheofklbmknipaaTotals.lean).
  GIVEN WITH THE SEED: the statements are not yours to turn. If you find one false, say at which input.
  Laid BY PROGRAM, IN A SANDBOX (cutbox-rows.mjs): the forced cells as the released guide's own fill.sh prints them over the translation 9da34935b4027142… (all of the seat's roots in one cut). By AI agents, Wed Nov 11 2026. No macro, syntax, notation, axiom, sorry.
-/
import Derived.Test.YtheofklbmknipaaChecked
import GoSem.Claim
import GoSem.ClaimJoined
import GoSem.ClaimMapViews
import Derived.JoinedTies
import Derived.KernelRfl
namespace Go.Proofs.Ytheofklbmknipaa
/- THE CELL 'sum', in the pinned program and in every row, IS THE sha256 OF THE DUMP (.gsa) THAT YtheofklbmknipaaProg.lean LOADS. Nothing in Lean hashes anything: it is a label: what it is worth is what the hold of that sum in a sandbox is worth. -/
noncomputable def Try.pinned : Pinned := { name := "ytheofklbmknipaa", sum := "9da34935b40271420940d800a5e931e9f33462050e099616745bbd44c6a9b6bc", checked := Try.checked }
namespace Rows
def none {H : Type} : Left H := { results := [], args := [] }

/-- 'wagebooklaw20.ProrateSalary': WHATEVER THE INPUT: true; the input reads as it did. -/
def prorateSalarySpec : ChangeSpec := { name := "prorateSalary", fn := fun _ => fun
  | [d1, d2, d3] => { results := [.lit (.bool true)], args := [d1, d2, d3] }
  | _ => none }
def prorateSalaryRow : OpenClaim := { program := "ytheofklbmknipaa", sum := "9da34935b40271420940d800a5e931e9f33462050e099616745bbd44c6a9b6bc", func := "wagebook/wagebooklaw20.ProrateSalary", spec := "prorateSalary", unfollowed := true, recurses := true, named := ["math/bits.divideError", "math/bits.overflowError"], apart := false }
def ProrateSalarySaid : Prop := prorateSalaryRow.holds Try.pinned (OpenSpec.ofChange prorateSalarySpec)

/-- ITS FALSE NEIGHBOUR: 'it returns false'. Refute it at one input. -/
def prorateSalaryWrong : ChangeSpec := { name := "prorateSalary", fn := fun _ => fun
  | [d1, d2, d3] => { results := [.lit (.bool false)], args := [d1, d2, d3] }
  | _ => none }
def ProrateSalaryWrongFalsely : Prop := prorateSalaryRow.holds Try.pinned (OpenSpec.ofChange prorateSalaryWrong)

/-- 'wagebooklaw20.ProrateLoss': WHATEVER THE INPUT: true; the input reads as it did. -/
def prorateLossSpec : ChangeSpec := { name := "prorateLoss", fn := fun _ => fun
  | [d1, d2, d3, d4, d5, d6] => { results := [.lit (.bool true)], args := [d1, d2, d3, d4, d5, d6] }
  | _ => none }
def prorateLossRow : OpenClaim := { program := "ytheofklbmknipaa", sum := "9da34935b40271420940d800a5e931e9f33462050e099616745bbd44c6a9b6bc", func := "wagebook/wagebooklaw20.ProrateLoss", spec := "prorateLoss", unfollowed := true, recurses := true, named := ["math/bits.divideError", "math/bits.overflowError"], apart := false }
def ProrateLossSaid : Prop := prorateLossRow.holds Try.pinned (OpenSpec.ofChange prorateLossSpec)

/-- ITS FALSE NEIGHBOUR: 'it returns false'. Refute it at one input. -/
def prorateLossWrong : ChangeSpec := { name := "prorateLoss", fn := fun _ => fun
  | [d1, d2, d3, d4, d5, d6] => { results := [.lit (.bool false)], args := [d1, d2, d3, d4, d5, d6] }
  | _ => none }
def ProrateLossWrongFalsely : Prop := prorateLossRow.holds Try.pinned (OpenSpec.ofChange prorateLossWrong)

/-- 'wagebooklaw20.ProrateLost': WHATEVER THE INPUT: true; the input reads as it did. -/
def prorateLostSpec : ChangeSpec := { name := "prorateLost", fn := fun _ => fun
  | [d1, d2, d3, d4, d5, d6, d7] => { results := [.lit (.bool true)], args := [d1, d2, d3, d4, d5, d6, d7] }
  | _ => none }
def prorateLostRow : OpenClaim := { program := "ytheofklbmknipaa", sum := "9da34935b40271420940d800a5e931e9f33462050e099616745bbd44c6a9b6bc", func := "wagebook/wagebooklaw20.ProrateLost", spec := "prorateLost", unfollowed := true, recurses := true, named := ["math/bits.divideError", "math/bits.overflowError"], apart := false }
def ProrateLostSaid : Prop := prorateLostRow.holds Try.pinned (OpenSpec.ofChange prorateLostSpec)

/-- ITS FALSE NEIGHBOUR: 'it returns false'. Refute it at one input. -/
def prorateLostWrong : ChangeSpec := { name := "prorateLost", fn := fun _ => fun
  | [d1, d2, d3, d4, d5, d6, d7] => { results := [.lit (.bool false)], args := [d1, d2, d3, d4, d5, d6, d7] }
  | _ => none }
def ProrateLostWrongFalsely : Prop := prorateLostRow.holds Try.pinned (OpenSpec.ofChange prorateLostWrong)

/-- 'wagebooklaw20.ProrateYear': WHATEVER THE INPUT: true; the input reads as it did. -/
def prorateYearSpec : ChangeSpec := { name := "prorateYear", fn := fun _ => fun
  | [d1, d2] => { results := [.lit (.bool true)], args := [d1, d2] }
  | _ => none }
def prorateYearRow : OpenClaim := { program := "ytheofklbmknipaa", sum := "9da34935b40271420940d800a5e931e9f33462050e099616745bbd44c6a9b6bc", func := "wagebook/wagebooklaw20.ProrateYear", spec := "prorateYear", unfollowed := true, recurses := true, named := ["math/bits.divideError", "math/bits.overflowError"], apart := false }
def ProrateYearSaid : Prop := prorateYearRow.holds Try.pinned (OpenSpec.ofChange prorateYearSpec)

/-- ITS FALSE NEIGHBOUR: 'it returns false'. Refute it at one input. -/
def prorateYearWrong : ChangeSpec := { name := "prorateYear", fn := fun _ => fun
  | [d1, d2] => { results := [.lit (.bool false)], args := [d1, d2] }
  | _ => none }
def ProrateYearWrongFalsely : Prop := prorateYearRow.holds Try.pinned (OpenSpec.ofChange prorateYearWrong)

/-- 'wagebooklaw20.ProrateCut': WHATEVER THE INPUT: true; the input reads as it did. -/
def prorateCutSpec : ChangeSpec := { name := "prorateCut", fn := fun _ => fun
  | [d1, d2, d3, d4, d5] => { results := [.lit (.bool true)], args := [d1, d2, d3, d4, d5] }
  | _ => none }
def prorateCutRow : OpenClaim := { program := "ytheofklbmknipaa", sum := "9da34935b40271420940d800a5e931e9f33462050e099616745bbd44c6a9b6bc", func := "wagebook/wagebooklaw20.ProrateCut", spec := "prorateCut", unfollowed := true, recurses := true, named := ["math/bits.divideError", "math/bits.overflowError"], apart := false }
def ProrateCutSaid : Prop := prorateCutRow.holds Try.pinned (OpenSpec.ofChange prorateCutSpec)

/-- ITS FALSE NEIGHBOUR: 'it returns false'. Refute it at one input. -/
def prorateCutWrong : ChangeSpec := { name := "prorateCut", fn := fun _ => fun
  | [d1, d2, d3, d4, d5] => { results := [.lit (.bool false)], args := [d1, d2, d3, d4, d5] }
  | _ => none }
def ProrateCutWrongFalsely : Prop := prorateCutRow.holds Try.pinned (OpenSpec.ofChange prorateCutWrong)

/-- 'wagebooklaw20.ProrateTurned': WHATEVER THE INPUT: true; the input reads as it did. -/
def prorateTurnedSpec : ChangeSpec := { name := "prorateTurned", fn := fun _ => fun
  | [d1, d2, d3] => { results := [.lit (.bool true)], args := [d1, d2, d3] }
  | _ => none }
def prorateTurnedRow : OpenClaim := { program := "ytheofklbmknipaa", sum := "9da34935b40271420940d800a5e931e9f33462050e099616745bbd44c6a9b6bc", func := "wagebook/wagebooklaw20.ProrateTurned", spec := "prorateTurned", unfollowed := true, recurses := true, named := ["math/bits.divideError", "math/bits.overflowError"], apart := false }
def ProrateTurnedSaid : Prop := prorateTurnedRow.holds Try.pinned (OpenSpec.ofChange prorateTurnedSpec)

/-- ITS FALSE NEIGHBOUR: 'it returns false'. Refute it at one input. -/
def prorateTurnedWrong : ChangeSpec := { name := "prorateTurned", fn := fun _ => fun
  | [d1, d2, d3] => { results := [.lit (.bool false)], args := [d1, d2, d3] }
  | _ => none }
def ProrateTurnedWrongFalsely : Prop := prorateTurnedRow.holds Try.pinned (OpenSpec.ofChange prorateTurnedWrong)

/-- 'wagebooklaw20.ProrateDays': WHATEVER THE INPUT: true; the input reads as it did. -/
def prorateDaysSpec : ChangeSpec := { name := "prorateDays", fn := fun _ => fun
  | [d1, d2, d3, d4, d5] => { results := [.lit (.bool true)], args := [d1, d2, d3, d4, d5] }
  | _ => none }
def prorateDaysRow : OpenClaim := { program := "ytheofklbmknipaa", sum := "9da34935b40271420940d800a5e931e9f33462050e099616745bbd44c6a9b6bc", func := "wagebook/wagebooklaw20.ProrateDays", spec := "prorateDays", unfollowed := true, recurses := true, named := ["math/bits.divideError", "math/bits.overflowError"], apart := false }
def ProrateDaysSaid : Prop := prorateDaysRow.holds Try.pinned (OpenSpec.ofChange prorateDaysSpec)

/-- ITS FALSE NEIGHBOUR: 'it returns false'. Refute it at one input. -/
def prorateDaysWrong : ChangeSpec := { name := "prorateDays", fn := fun _ => fun
  | [d1, d2, d3, d4, d5] => { results := [.lit (.bool false)], args := [d1, d2, d3, d4, d5] }
  | _ => none }
def ProrateDaysWrongFalsely : Prop := prorateDaysRow.holds Try.pinned (OpenSpec.ofChange prorateDaysWrong)

/-- 'wagebooklaw20.ProrateHours': WHATEVER THE INPUT: true; the input reads as it did. -/
def prorateHoursSpec : ChangeSpec := { name := "prorateHours", fn := fun _ => fun
  | [d1, d2, d3] => { results := [.lit (.bool true)], args := [d1, d2, d3] }
  | _ => none }
def prorateHoursRow : OpenClaim := { program := "ytheofklbmknipaa", sum := "9da34935b40271420940d800a5e931e9f33462050e099616745bbd44c6a9b6bc", func := "wagebook/wagebooklaw20.ProrateHours", spec := "prorateHours", unfollowed := true, recurses := true, named := ["math/bits.divideError", "math/bits.overflowError"], apart := false }
def ProrateHoursSaid : Prop := prorateHoursRow.holds Try.pinned (OpenSpec.ofChange prorateHoursSpec)

/-- ITS FALSE NEIGHBOUR: 'it returns false'. Refute it at one input. -/
def prorateHoursWrong : ChangeSpec := { name := "prorateHours", fn := fun _ => fun
  | [d1, d2, d3] => { results := [.lit (.bool false)], args := [d1, d2, d3] }
  | _ => none }
def ProrateHoursWrongFalsely : Prop := prorateHoursRow.holds Try.pinned (OpenSpec.ofChange prorateHoursWrong)

/- THE SECOND FORM. 'bulk': how many values and letters a reading holds, each counted each time it is reached (what is shared counts as often as it is met; a slice's spare places count too). A statement '..UptoSaid' is the law's where the arguments, and the package variables that the reading takes, are together of bulk at most 1048576: NARROWER than '..Said'. Prove '..Said' where nothing that the law and all that it calls make is longer than what came in: it says more and counts as full. Else prove '..UptoSaid'. A law counts once. -/
mutual
def uptoBulk {H : Type} : DataW H → Nat
  | .lit (.string bytes) => bytes.length + 1
  | .lit _ => 1
  | .nil => 1
  | .ptr d => uptoBulk d + 1
  | .slice elems spare => uptoBulkAll elems + uptoBulkAll spare + 1
  | .agg parts => uptoBulkAll parts + 1
  | .iface _ d => uptoBulk d + 1
  | .map entries => uptoBulkEntries entries + 1
  | .held _ => 1
def uptoBulkAll {H : Type} : List (DataW H) → Nat
  | [] => 0
  | d :: r => uptoBulk d + uptoBulkAll r
def uptoBulkEntries {H : Type} : List (Lit × DataW H) → Nat
  | [] => 0
  | x :: r => uptoBulkEntry x + uptoBulkEntries r
def uptoBulkEntry {H : Type} : Lit × DataW H → Nat
  | (.string bytes, d) => bytes.length + uptoBulk d + 1
  | (_, d) => uptoBulk d + 1
 end
def uptoSmall : (H : Type) → List (DataW H) → Bool := fun _ ds => decide (uptoBulkAll ds ≤ 1048576)
def OpenSpec.upto (s : _root_.Go.ChangeSpec) : _root_.Go.OpenSpec := { _root_.Go.OpenSpec.ofChange s with cond := some uptoSmall }

/-- 'wagebooklaw20.ProrateSalary', WHERE WHAT IT READS IS OF BULK AT MOST 1048576: true; the input reads as it did. -/
def prorateSalaryUptoRow : OpenClaim := { program := "ytheofklbmknipaa", sum := "9da34935b40271420940d800a5e931e9f33462050e099616745bbd44c6a9b6bc", func := "wagebook/wagebooklaw20.ProrateSalary", spec := "prorateSalary", unfollowed := true, recurses := true, named := ["math/bits.divideError", "math/bits.overflowError"], apart := false, narrowed := true }
def ProrateSalaryUptoSaid : Prop := prorateSalaryUptoRow.holds Try.pinned (OpenSpec.upto prorateSalarySpec)

/-- 'wagebooklaw20.ProrateLoss', WHERE WHAT IT READS IS OF BULK AT MOST 1048576: true; the input reads as it did. -/
def prorateLossUptoRow : OpenClaim := { program := "ytheofklbmknipaa", sum := "9da34935b40271420940d800a5e931e9f33462050e099616745bbd44c6a9b6bc", func := "wagebook/wagebooklaw20.ProrateLoss", spec := "prorateLoss", unfollowed := true, recurses := true, named := ["math/bits.divideError", "math/bits.overflowError"], apart := false, narrowed := true }
def ProrateLossUptoSaid : Prop := prorateLossUptoRow.holds Try.pinned (OpenSpec.upto prorateLossSpec)

/-- 'wagebooklaw20.ProrateLost', WHERE WHAT IT READS IS OF BULK AT MOST 1048576: true; the input reads as it did. -/
def prorateLostUptoRow : OpenClaim := { program := "ytheofklbmknipaa", sum := "9da34935b40271420940d800a5e931e9f33462050e099616745bbd44c6a9b6bc", func := "wagebook/wagebooklaw20.ProrateLost", spec := "prorateLost", unfollowed := true, recurses := true, named := ["math/bits.divideError", "math/bits.overflowError"], apart := false, narrowed := true }
def ProrateLostUptoSaid : Prop := prorateLostUptoRow.holds Try.pinned (OpenSpec.upto prorateLostSpec)

/-- 'wagebooklaw20.ProrateYear', WHERE WHAT IT READS IS OF BULK AT MOST 1048576: true; the input reads as it did. -/
def prorateYearUptoRow : OpenClaim := { program := "ytheofklbmknipaa", sum := "9da34935b40271420940d800a5e931e9f33462050e099616745bbd44c6a9b6bc", func := "wagebook/wagebooklaw20.ProrateYear", spec := "prorateYear", unfollowed := true, recurses := true, named := ["math/bits.divideError", "math/bits.overflowError"], apart := false, narrowed := true }
def ProrateYearUptoSaid : Prop := prorateYearUptoRow.holds Try.pinned (OpenSpec.upto prorateYearSpec)

/-- 'wagebooklaw20.ProrateCut', WHERE WHAT IT READS IS OF BULK AT MOST 1048576: true; the input reads as it did. -/
def prorateCutUptoRow : OpenClaim := { program := "ytheofklbmknipaa", sum := "9da34935b40271420940d800a5e931e9f33462050e099616745bbd44c6a9b6bc", func := "wagebook/wagebooklaw20.ProrateCut", spec := "prorateCut", unfollowed := true, recurses := true, named := ["math/bits.divideError", "math/bits.overflowError"], apart := false, narrowed := true }
def ProrateCutUptoSaid : Prop := prorateCutUptoRow.holds Try.pinned (OpenSpec.upto prorateCutSpec)

/-- 'wagebooklaw20.ProrateTurned', WHERE WHAT IT READS IS OF BULK AT MOST 1048576: true; the input reads as it did. -/
def prorateTurnedUptoRow : OpenClaim := { program := "ytheofklbmknipaa", sum := "9da34935b40271420940d800a5e931e9f33462050e099616745bbd44c6a9b6bc", func := "wagebook/wagebooklaw20.ProrateTurned", spec := "prorateTurned", unfollowed := true, recurses := true, named := ["math/bits.divideError", "math/bits.overflowError"], apart := false, narrowed := true }
def ProrateTurnedUptoSaid : Prop := prorateTurnedUptoRow.holds Try.pinned (OpenSpec.upto prorateTurnedSpec)

/-- 'wagebooklaw20.ProrateDays', WHERE WHAT IT READS IS OF BULK AT MOST 1048576: true; the input reads as it did. -/
def prorateDaysUptoRow : OpenClaim := { program := "ytheofklbmknipaa", sum := "9da34935b40271420940d800a5e931e9f33462050e099616745bbd44c6a9b6bc", func := "wagebook/wagebooklaw20.ProrateDays", spec := "prorateDays", unfollowed := true, recurses := true, named := ["math/bits.divideError", "math/bits.overflowError"], apart := false, narrowed := true }
def ProrateDaysUptoSaid : Prop := prorateDaysUptoRow.holds Try.pinned (OpenSpec.upto prorateDaysSpec)

/-- 'wagebooklaw20.ProrateHours', WHERE WHAT IT READS IS OF BULK AT MOST 1048576: true; the input reads as it did. -/
def prorateHoursUptoRow : OpenClaim := { program := "ytheofklbmknipaa", sum := "9da34935b40271420940d800a5e931e9f33462050e099616745bbd44c6a9b6bc", func := "wagebook/wagebooklaw20.ProrateHours", spec := "prorateHours", unfollowed := true, recurses := true, named := ["math/bits.divideError", "math/bits.overflowError"], apart := false, narrowed := true }
def ProrateHoursUptoSaid : Prop := prorateHoursUptoRow.holds Try.pinned (OpenSpec.upto prorateHoursSpec)

end Rows
end Go.Proofs.Ytheofklbmknipaa
