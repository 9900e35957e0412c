/-
  No cell of these rows narrows 'for every input' (looked for: loops, veiled, ifaces, maps, wideKeys, modest, calm, conditions, laid).
  DERIVED. THE GIVEN ROWS OF THIS SEAT. 8 by the template 'for every input the law returns true; each argument reads behind the call as it read before'; 0 by the template 'total and deterministic' (their statements: YtdckghdmopafpaaTotals.lean).
  GIVEN WITH THE SEED: the statements are not yours to turn. If you find one false, say at which input.
  Laid BY PROGRAM, IN A SANDBOX (cutbox-rows.mjs): the forced cells as the released guide's own fill.sh prints them over the translation 62e276e5ef92bbdf… (all of the seat's roots in one cut). By AI agents, Wed Nov 11 2026. No macro, syntax, notation, axiom, sorry.
-/
import Derived.Test.YtdckghdmopafpaaChecked
import GoSem.Claim
import GoSem.ClaimJoined
import GoSem.ClaimMapViews
import Derived.JoinedTies
import Derived.KernelRfl
namespace Go.Proofs.Ytdckghdmopafpaa
/- THE CELL 'sum', in the pinned program and in every row, IS THE sha256 OF THE DUMP (.gsa) THAT YtdckghdmopafpaaProg.lean LOADS. Nothing in Lean hashes anything: it is a label: what it is worth is what the hold of that sum in a sandbox is worth. -/
noncomputable def Try.pinned : Pinned := { name := "ytdckghdmopafpaa", sum := "62e276e5ef92bbdfe7e226ebd39bbbc9a057e3302ed7b88cf99201277f1751d9", checked := Try.checked }
namespace Rows
def none {H : Type} : Left H := { results := [], args := [] }

/-- 'wagebooklaw05.SpanPieces': WHATEVER THE INPUT: true; the input reads as it did. -/
def spanPiecesSpec : ChangeSpec := { name := "spanPieces", fn := fun _ => fun
  | [d1, d2] => { results := [.lit (.bool true)], args := [d1, d2] }
  | _ => none }
def spanPiecesRow : OpenClaim := { program := "ytdckghdmopafpaa", sum := "62e276e5ef92bbdfe7e226ebd39bbbc9a057e3302ed7b88cf99201277f1751d9", func := "wagebook/wagebooklaw05.SpanPieces", spec := "spanPieces", unfollowed := true, recurses := true, apart := false }
def SpanPiecesSaid : Prop := spanPiecesRow.holds Try.pinned (OpenSpec.ofChange spanPiecesSpec)

/-- ITS FALSE NEIGHBOUR: 'it returns false'. Refute it at one input. -/
def spanPiecesWrong : ChangeSpec := { name := "spanPieces", fn := fun _ => fun
  | [d1, d2] => { results := [.lit (.bool false)], args := [d1, d2] }
  | _ => none }
def SpanPiecesWrongFalsely : Prop := spanPiecesRow.holds Try.pinned (OpenSpec.ofChange spanPiecesWrong)

/-- 'wagebooklaw05.SpanSets': WHATEVER THE INPUT: true; the input reads as it did. -/
def spanSetsSpec : ChangeSpec := { name := "spanSets", fn := fun _ => fun
  | [d1, d2, d3] => { results := [.lit (.bool true)], args := [d1, d2, d3] }
  | _ => none }
def spanSetsRow : OpenClaim := { program := "ytdckghdmopafpaa", sum := "62e276e5ef92bbdfe7e226ebd39bbbc9a057e3302ed7b88cf99201277f1751d9", func := "wagebook/wagebooklaw05.SpanSets", spec := "spanSets", unfollowed := true, recurses := true, apart := false }
def SpanSetsSaid : Prop := spanSetsRow.holds Try.pinned (OpenSpec.ofChange spanSetsSpec)

/-- ITS FALSE NEIGHBOUR: 'it returns false'. Refute it at one input. -/
def spanSetsWrong : ChangeSpec := { name := "spanSets", fn := fun _ => fun
  | [d1, d2, d3] => { results := [.lit (.bool false)], args := [d1, d2, d3] }
  | _ => none }
def SpanSetsWrongFalsely : Prop := spanSetsRow.holds Try.pinned (OpenSpec.ofChange spanSetsWrong)

/-- 'wagebooklaw05.SpanDays': WHATEVER THE INPUT: true; the input reads as it did. -/
def spanDaysSpec : ChangeSpec := { name := "spanDays", fn := fun _ => fun
  | [d1, d2, d3] => { results := [.lit (.bool true)], args := [d1, d2, d3] }
  | _ => none }
def spanDaysRow : OpenClaim := { program := "ytdckghdmopafpaa", sum := "62e276e5ef92bbdfe7e226ebd39bbbc9a057e3302ed7b88cf99201277f1751d9", func := "wagebook/wagebooklaw05.SpanDays", spec := "spanDays", unfollowed := true, recurses := true, apart := false }
def SpanDaysSaid : Prop := spanDaysRow.holds Try.pinned (OpenSpec.ofChange spanDaysSpec)

/-- ITS FALSE NEIGHBOUR: 'it returns false'. Refute it at one input. -/
def spanDaysWrong : ChangeSpec := { name := "spanDays", fn := fun _ => fun
  | [d1, d2, d3] => { results := [.lit (.bool false)], args := [d1, d2, d3] }
  | _ => none }
def SpanDaysWrongFalsely : Prop := spanDaysRow.holds Try.pinned (OpenSpec.ofChange spanDaysWrong)

/-- 'wagebooklaw05.SpanParts': WHATEVER THE INPUT: true; the input reads as it did. -/
def spanPartsSpec : ChangeSpec := { name := "spanParts", fn := fun _ => fun
  | [d1, d2] => { results := [.lit (.bool true)], args := [d1, d2] }
  | _ => none }
def spanPartsRow : OpenClaim := { program := "ytdckghdmopafpaa", sum := "62e276e5ef92bbdfe7e226ebd39bbbc9a057e3302ed7b88cf99201277f1751d9", func := "wagebook/wagebooklaw05.SpanParts", spec := "spanParts", unfollowed := true, recurses := true, apart := false }
def SpanPartsSaid : Prop := spanPartsRow.holds Try.pinned (OpenSpec.ofChange spanPartsSpec)

/-- ITS FALSE NEIGHBOUR: 'it returns false'. Refute it at one input. -/
def spanPartsWrong : ChangeSpec := { name := "spanParts", fn := fun _ => fun
  | [d1, d2] => { results := [.lit (.bool false)], args := [d1, d2] }
  | _ => none }
def SpanPartsWrongFalsely : Prop := spanPartsRow.holds Try.pinned (OpenSpec.ofChange spanPartsWrong)

/-- 'wagebooklaw05.SpanCanon': WHATEVER THE INPUT: true; the input reads as it did. -/
def spanCanonSpec : ChangeSpec := { name := "spanCanon", fn := fun _ => fun
  | [d1, d2] => { results := [.lit (.bool true)], args := [d1, d2] }
  | _ => none }
def spanCanonRow : OpenClaim := { program := "ytdckghdmopafpaa", sum := "62e276e5ef92bbdfe7e226ebd39bbbc9a057e3302ed7b88cf99201277f1751d9", func := "wagebook/wagebooklaw05.SpanCanon", spec := "spanCanon", unfollowed := true, recurses := true, apart := false }
def SpanCanonSaid : Prop := spanCanonRow.holds Try.pinned (OpenSpec.ofChange spanCanonSpec)

/-- ITS FALSE NEIGHBOUR: 'it returns false'. Refute it at one input. -/
def spanCanonWrong : ChangeSpec := { name := "spanCanon", fn := fun _ => fun
  | [d1, d2] => { results := [.lit (.bool false)], args := [d1, d2] }
  | _ => none }
def SpanCanonWrongFalsely : Prop := spanCanonRow.holds Try.pinned (OpenSpec.ofChange spanCanonWrong)

/-- 'wagebooklaw05.SpanLaws': WHATEVER THE INPUT: true; the input reads as it did. -/
def spanLawsSpec : ChangeSpec := { name := "spanLaws", fn := fun _ => fun
  | [d1, d2, d3] => { results := [.lit (.bool true)], args := [d1, d2, d3] }
  | _ => none }
def spanLawsRow : OpenClaim := { program := "ytdckghdmopafpaa", sum := "62e276e5ef92bbdfe7e226ebd39bbbc9a057e3302ed7b88cf99201277f1751d9", func := "wagebook/wagebooklaw05.SpanLaws", spec := "spanLaws", unfollowed := true, recurses := true, apart := false }
def SpanLawsSaid : Prop := spanLawsRow.holds Try.pinned (OpenSpec.ofChange spanLawsSpec)

/-- ITS FALSE NEIGHBOUR: 'it returns false'. Refute it at one input. -/
def spanLawsWrong : ChangeSpec := { name := "spanLaws", fn := fun _ => fun
  | [d1, d2, d3] => { results := [.lit (.bool false)], args := [d1, d2, d3] }
  | _ => none }
def SpanLawsWrongFalsely : Prop := spanLawsRow.holds Try.pinned (OpenSpec.ofChange spanLawsWrong)

/-- 'wagebooklaw05.SpanCuts': WHATEVER THE INPUT: true; the input reads as it did. -/
def spanCutsSpec : ChangeSpec := { name := "spanCuts", fn := fun _ => fun
  | [d1, d2, d3] => { results := [.lit (.bool true)], args := [d1, d2, d3] }
  | _ => none }
def spanCutsRow : OpenClaim := { program := "ytdckghdmopafpaa", sum := "62e276e5ef92bbdfe7e226ebd39bbbc9a057e3302ed7b88cf99201277f1751d9", func := "wagebook/wagebooklaw05.SpanCuts", spec := "spanCuts", unfollowed := true, recurses := true, apart := false }
def SpanCutsSaid : Prop := spanCutsRow.holds Try.pinned (OpenSpec.ofChange spanCutsSpec)

/-- ITS FALSE NEIGHBOUR: 'it returns false'. Refute it at one input. -/
def spanCutsWrong : ChangeSpec := { name := "spanCuts", fn := fun _ => fun
  | [d1, d2, d3] => { results := [.lit (.bool false)], args := [d1, d2, d3] }
  | _ => none }
def SpanCutsWrongFalsely : Prop := spanCutsRow.holds Try.pinned (OpenSpec.ofChange spanCutsWrong)

/-- 'wagebooklaw05.SpanCross': WHATEVER THE INPUT: true; the input reads as it did. -/
def spanCrossSpec : ChangeSpec := { name := "spanCross", fn := fun _ => fun
  | [d1, d2, d3] => { results := [.lit (.bool true)], args := [d1, d2, d3] }
  | _ => none }
def spanCrossRow : OpenClaim := { program := "ytdckghdmopafpaa", sum := "62e276e5ef92bbdfe7e226ebd39bbbc9a057e3302ed7b88cf99201277f1751d9", func := "wagebook/wagebooklaw05.SpanCross", spec := "spanCross", unfollowed := true, recurses := true, apart := false }
def SpanCrossSaid : Prop := spanCrossRow.holds Try.pinned (OpenSpec.ofChange spanCrossSpec)

/-- ITS FALSE NEIGHBOUR: 'it returns false'. Refute it at one input. -/
def spanCrossWrong : ChangeSpec := { name := "spanCross", fn := fun _ => fun
  | [d1, d2, d3] => { results := [.lit (.bool false)], args := [d1, d2, d3] }
  | _ => none }
def SpanCrossWrongFalsely : Prop := spanCrossRow.holds Try.pinned (OpenSpec.ofChange spanCrossWrong)

/- THE SECOND FORM. 'bulk': how many values and letters a reading holds, each counted each time it is reached (what is shared counts as often as it is met; a slice's spare places count too). A statement '..UptoSaid' is the law's where the arguments, and the package variables that the reading takes, are together of bulk at most 1048576: NARROWER than '..Said'. Prove '..Said' where nothing that the law and all that it calls make is longer than what came in: it says more and counts as full. Else prove '..UptoSaid'. A law counts once. -/
mutual
def uptoBulk {H : Type} : DataW H → Nat
  | .lit (.string bytes) => bytes.length + 1
  | .lit _ => 1
  | .nil => 1
  | .ptr d => uptoBulk d + 1
  | .slice elems spare => uptoBulkAll elems + uptoBulkAll spare + 1
  | .agg parts => uptoBulkAll parts + 1
  | .iface _ d => uptoBulk d + 1
  | .map entries => uptoBulkEntries entries + 1
  | .held _ => 1
def uptoBulkAll {H : Type} : List (DataW H) → Nat
  | [] => 0
  | d :: r => uptoBulk d + uptoBulkAll r
def uptoBulkEntries {H : Type} : List (Lit × DataW H) → Nat
  | [] => 0
  | x :: r => uptoBulkEntry x + uptoBulkEntries r
def uptoBulkEntry {H : Type} : Lit × DataW H → Nat
  | (.string bytes, d) => bytes.length + uptoBulk d + 1
  | (_, d) => uptoBulk d + 1
 end
def uptoSmall : (H : Type) → List (DataW H) → Bool := fun _ ds => decide (uptoBulkAll ds ≤ 1048576)
def OpenSpec.upto (s : _root_.Go.ChangeSpec) : _root_.Go.OpenSpec := { _root_.Go.OpenSpec.ofChange s with cond := some uptoSmall }

/-- 'wagebooklaw05.SpanPieces', WHERE WHAT IT READS IS OF BULK AT MOST 1048576: true; the input reads as it did. -/
def spanPiecesUptoRow : OpenClaim := { program := "ytdckghdmopafpaa", sum := "62e276e5ef92bbdfe7e226ebd39bbbc9a057e3302ed7b88cf99201277f1751d9", func := "wagebook/wagebooklaw05.SpanPieces", spec := "spanPieces", unfollowed := true, recurses := true, apart := false, narrowed := true }
def SpanPiecesUptoSaid : Prop := spanPiecesUptoRow.holds Try.pinned (OpenSpec.upto spanPiecesSpec)

/-- 'wagebooklaw05.SpanSets', WHERE WHAT IT READS IS OF BULK AT MOST 1048576: true; the input reads as it did. -/
def spanSetsUptoRow : OpenClaim := { program := "ytdckghdmopafpaa", sum := "62e276e5ef92bbdfe7e226ebd39bbbc9a057e3302ed7b88cf99201277f1751d9", func := "wagebook/wagebooklaw05.SpanSets", spec := "spanSets", unfollowed := true, recurses := true, apart := false, narrowed := true }
def SpanSetsUptoSaid : Prop := spanSetsUptoRow.holds Try.pinned (OpenSpec.upto spanSetsSpec)

/-- 'wagebooklaw05.SpanDays', WHERE WHAT IT READS IS OF BULK AT MOST 1048576: true; the input reads as it did. -/
def spanDaysUptoRow : OpenClaim := { program := "ytdckghdmopafpaa", sum := "62e276e5ef92bbdfe7e226ebd39bbbc9a057e3302ed7b88cf99201277f1751d9", func := "wagebook/wagebooklaw05.SpanDays", spec := "spanDays", unfollowed := true, recurses := true, apart := false, narrowed := true }
def SpanDaysUptoSaid : Prop := spanDaysUptoRow.holds Try.pinned (OpenSpec.upto spanDaysSpec)

/-- 'wagebooklaw05.SpanParts', WHERE WHAT IT READS IS OF BULK AT MOST 1048576: true; the input reads as it did. -/
def spanPartsUptoRow : OpenClaim := { program := "ytdckghdmopafpaa", sum := "62e276e5ef92bbdfe7e226ebd39bbbc9a057e3302ed7b88cf99201277f1751d9", func := "wagebook/wagebooklaw05.SpanParts", spec := "spanParts", unfollowed := true, recurses := true, apart := false, narrowed := true }
def SpanPartsUptoSaid : Prop := spanPartsUptoRow.holds Try.pinned (OpenSpec.upto spanPartsSpec)

/-- 'wagebooklaw05.SpanCanon', WHERE WHAT IT READS IS OF BULK AT MOST 1048576: true; the input reads as it did. -/
def spanCanonUptoRow : OpenClaim := { program := "ytdckghdmopafpaa", sum := "62e276e5ef92bbdfe7e226ebd39bbbc9a057e3302ed7b88cf99201277f1751d9", func := "wagebook/wagebooklaw05.SpanCanon", spec := "spanCanon", unfollowed := true, recurses := true, apart := false, narrowed := true }
def SpanCanonUptoSaid : Prop := spanCanonUptoRow.holds Try.pinned (OpenSpec.upto spanCanonSpec)

/-- 'wagebooklaw05.SpanLaws', WHERE WHAT IT READS IS OF BULK AT MOST 1048576: true; the input reads as it did. -/
def spanLawsUptoRow : OpenClaim := { program := "ytdckghdmopafpaa", sum := "62e276e5ef92bbdfe7e226ebd39bbbc9a057e3302ed7b88cf99201277f1751d9", func := "wagebook/wagebooklaw05.SpanLaws", spec := "spanLaws", unfollowed := true, recurses := true, apart := false, narrowed := true }
def SpanLawsUptoSaid : Prop := spanLawsUptoRow.holds Try.pinned (OpenSpec.upto spanLawsSpec)

/-- 'wagebooklaw05.SpanCuts', WHERE WHAT IT READS IS OF BULK AT MOST 1048576: true; the input reads as it did. -/
def spanCutsUptoRow : OpenClaim := { program := "ytdckghdmopafpaa", sum := "62e276e5ef92bbdfe7e226ebd39bbbc9a057e3302ed7b88cf99201277f1751d9", func := "wagebook/wagebooklaw05.SpanCuts", spec := "spanCuts", unfollowed := true, recurses := true, apart := false, narrowed := true }
def SpanCutsUptoSaid : Prop := spanCutsUptoRow.holds Try.pinned (OpenSpec.upto spanCutsSpec)

/-- 'wagebooklaw05.SpanCross', WHERE WHAT IT READS IS OF BULK AT MOST 1048576: true; the input reads as it did. -/
def spanCrossUptoRow : OpenClaim := { program := "ytdckghdmopafpaa", sum := "62e276e5ef92bbdfe7e226ebd39bbbc9a057e3302ed7b88cf99201277f1751d9", func := "wagebook/wagebooklaw05.SpanCross", spec := "spanCross", unfollowed := true, recurses := true, apart := false, narrowed := true }
def SpanCrossUptoSaid : Prop := spanCrossUptoRow.holds Try.pinned (OpenSpec.upto spanCrossSpec)

end Rows
end Go.Proofs.Ytdckghdmopafpaa
