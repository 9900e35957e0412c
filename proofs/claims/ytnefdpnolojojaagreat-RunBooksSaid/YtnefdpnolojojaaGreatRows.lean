/-
  No cell of these rows narrows 'for every input' (looked for: loops, veiled, ifaces, maps, wideKeys, modest, calm, conditions, laid).
  DERIVED. THE GIVEN ROWS OF THIS SEAT. 8 by the template 'for every input the law returns true; each argument reads behind the call as it read before'; 0 by the template 'total and deterministic' (their statements: YtnefdpnolojojaaGreatTotals.lean).
  GIVEN WITH THE SEED: the statements are not yours to turn. If you find one false, say at which input.
  Laid BY PROGRAM, IN A SANDBOX (cutbox-rows.mjs): the forced cells as the released guide's own fill.sh prints them over the translation 862f0e018678dc1b… (all of the seat's roots in one cut). By AI agents, Wed Nov 11 2026. No macro, syntax, notation, axiom, sorry.
-/
import Derived.Test.YtnefdpnolojojaaGreatChecked
import GoSem.Claim
import GoSem.ClaimJoined
import GoSem.ClaimMapViews
import Derived.JoinedTies
import Derived.KernelRfl
namespace Go.Proofs.YtnefdpnolojojaaGreat
/- THE CELL 'sum', in the pinned program and in every row, IS THE sha256 OF THE DUMP (.gsa) THAT YtnefdpnolojojaaGreatProg.lean LOADS. Nothing in Lean hashes anything: it is a label: what it is worth is what the hold of that sum in a sandbox is worth. -/
noncomputable def Tryz.pinned : Pinned := { name := "ytnefdpnolojojaagreat", sum := "862f0e018678dc1bf208ac5f6c7c3bcfaf12fd9137cece901e91fa0da4b3c074", checked := Tryz.checked }
namespace Rows
def none {H : Type} : Left H := { results := [], args := [] }

/-- 'wagebooktop.TopRuns': WHATEVER THE INPUT: true; the input reads as it did. -/
def topRunsSpec : ChangeSpec := { name := "topRuns", fn := fun _ => fun
  | [d1, d2] => { results := [.lit (.bool true)], args := [d1, d2] }
  | _ => none }
def topRunsRow : OpenClaim := { program := "ytnefdpnolojojaagreat", sum := "862f0e018678dc1bf208ac5f6c7c3bcfaf12fd9137cece901e91fa0da4b3c074", func := "wagebook/wagebooktop.TopRuns", spec := "topRuns", unfollowed := true, recurses := true, plainKeys := false, apart := false }
def TopRunsSaid : Prop := topRunsRow.holds Tryz.pinned (OpenSpec.ofChange topRunsSpec)

/-- ITS FALSE NEIGHBOUR: 'it returns false'. Refute it at one input. -/
def topRunsWrong : ChangeSpec := { name := "topRuns", fn := fun _ => fun
  | [d1, d2] => { results := [.lit (.bool false)], args := [d1, d2] }
  | _ => none }
def TopRunsWrongFalsely : Prop := topRunsRow.holds Tryz.pinned (OpenSpec.ofChange topRunsWrong)

/-- 'wagebooklaw31.RunDoes': WHATEVER THE INPUT: true; the input reads as it did. -/
def runDoesSpec : ChangeSpec := { name := "runDoes", fn := fun _ => fun
  | [d] => { results := [.lit (.bool true)], args := [d] }
  | _ => none }
def runDoesRow : OpenClaim := { program := "ytnefdpnolojojaagreat", sum := "862f0e018678dc1bf208ac5f6c7c3bcfaf12fd9137cece901e91fa0da4b3c074", func := "wagebook/wagebooklaw31.RunDoes", spec := "runDoes", unfollowed := true, recurses := true, plainKeys := false, apart := false }
def RunDoesSaid : Prop := runDoesRow.holds Tryz.pinned (OpenSpec.ofChange runDoesSpec)

/-- ITS FALSE NEIGHBOUR: 'it returns false'. Refute it at one input. -/
def runDoesWrong : ChangeSpec := { name := "runDoes", fn := fun _ => fun
  | [d] => { results := [.lit (.bool false)], args := [d] }
  | _ => none }
def RunDoesWrongFalsely : Prop := runDoesRow.holds Tryz.pinned (OpenSpec.ofChange runDoesWrong)

/-- 'wagebooklaw31.RunTwice': WHATEVER THE INPUT: true; the input reads as it did. -/
def runTwiceSpec : ChangeSpec := { name := "runTwice", fn := fun _ => fun
  | [d] => { results := [.lit (.bool true)], args := [d] }
  | _ => none }
def runTwiceRow : OpenClaim := { program := "ytnefdpnolojojaagreat", sum := "862f0e018678dc1bf208ac5f6c7c3bcfaf12fd9137cece901e91fa0da4b3c074", func := "wagebook/wagebooklaw31.RunTwice", spec := "runTwice", unfollowed := true, recurses := true, plainKeys := false, apart := false }
def RunTwiceSaid : Prop := runTwiceRow.holds Tryz.pinned (OpenSpec.ofChange runTwiceSpec)

/-- ITS FALSE NEIGHBOUR: 'it returns false'. Refute it at one input. -/
def runTwiceWrong : ChangeSpec := { name := "runTwice", fn := fun _ => fun
  | [d] => { results := [.lit (.bool false)], args := [d] }
  | _ => none }
def RunTwiceWrongFalsely : Prop := runTwiceRow.holds Tryz.pinned (OpenSpec.ofChange runTwiceWrong)

/-- 'wagebooklaw31.RunSums': WHATEVER THE INPUT: true; the input reads as it did. -/
def runSumsSpec : ChangeSpec := { name := "runSums", fn := fun _ => fun
  | [d] => { results := [.lit (.bool true)], args := [d] }
  | _ => none }
def runSumsRow : OpenClaim := { program := "ytnefdpnolojojaagreat", sum := "862f0e018678dc1bf208ac5f6c7c3bcfaf12fd9137cece901e91fa0da4b3c074", func := "wagebook/wagebooklaw31.RunSums", spec := "runSums", unfollowed := true, recurses := true, plainKeys := false, apart := false }
def RunSumsSaid : Prop := runSumsRow.holds Tryz.pinned (OpenSpec.ofChange runSumsSpec)

/-- ITS FALSE NEIGHBOUR: 'it returns false'. Refute it at one input. -/
def runSumsWrong : ChangeSpec := { name := "runSums", fn := fun _ => fun
  | [d] => { results := [.lit (.bool false)], args := [d] }
  | _ => none }
def RunSumsWrongFalsely : Prop := runSumsRow.holds Tryz.pinned (OpenSpec.ofChange runSumsWrong)

/-- 'wagebooklaw31.RunAgain': WHATEVER THE INPUT: true; the input reads as it did. -/
def runAgainSpec : ChangeSpec := { name := "runAgain", fn := fun _ => fun
  | [d] => { results := [.lit (.bool true)], args := [d] }
  | _ => none }
def runAgainRow : OpenClaim := { program := "ytnefdpnolojojaagreat", sum := "862f0e018678dc1bf208ac5f6c7c3bcfaf12fd9137cece901e91fa0da4b3c074", func := "wagebook/wagebooklaw31.RunAgain", spec := "runAgain", unfollowed := true, recurses := true, plainKeys := false, apart := false }
def RunAgainSaid : Prop := runAgainRow.holds Tryz.pinned (OpenSpec.ofChange runAgainSpec)

/-- ITS FALSE NEIGHBOUR: 'it returns false'. Refute it at one input. -/
def runAgainWrong : ChangeSpec := { name := "runAgain", fn := fun _ => fun
  | [d] => { results := [.lit (.bool false)], args := [d] }
  | _ => none }
def RunAgainWrongFalsely : Prop := runAgainRow.holds Tryz.pinned (OpenSpec.ofChange runAgainWrong)

/-- 'wagebooklaw31.RunApart': WHATEVER THE INPUT: true; the input reads as it did. -/
def runApartSpec : ChangeSpec := { name := "runApart", fn := fun _ => fun
  | [d1, d2] => { results := [.lit (.bool true)], args := [d1, d2] }
  | _ => none }
def runApartRow : OpenClaim := { program := "ytnefdpnolojojaagreat", sum := "862f0e018678dc1bf208ac5f6c7c3bcfaf12fd9137cece901e91fa0da4b3c074", func := "wagebook/wagebooklaw31.RunApart", spec := "runApart", unfollowed := true, recurses := true, plainKeys := false, apart := false }
def RunApartSaid : Prop := runApartRow.holds Tryz.pinned (OpenSpec.ofChange runApartSpec)

/-- ITS FALSE NEIGHBOUR: 'it returns false'. Refute it at one input. -/
def runApartWrong : ChangeSpec := { name := "runApart", fn := fun _ => fun
  | [d1, d2] => { results := [.lit (.bool false)], args := [d1, d2] }
  | _ => none }
def RunApartWrongFalsely : Prop := runApartRow.holds Tryz.pinned (OpenSpec.ofChange runApartWrong)

/-- 'wagebooklaw31.RunBooks': WHATEVER THE INPUT: true; the input reads as it did. -/
def runBooksSpec : ChangeSpec := { name := "runBooks", fn := fun _ => fun
  | [d1, d2] => { results := [.lit (.bool true)], args := [d1, d2] }
  | _ => none }
def runBooksRow : OpenClaim := { program := "ytnefdpnolojojaagreat", sum := "862f0e018678dc1bf208ac5f6c7c3bcfaf12fd9137cece901e91fa0da4b3c074", func := "wagebook/wagebooklaw31.RunBooks", spec := "runBooks", unfollowed := true, recurses := true, plainKeys := false, apart := false }
def RunBooksSaid : Prop := runBooksRow.holds Tryz.pinned (OpenSpec.ofChange runBooksSpec)

/-- ITS FALSE NEIGHBOUR: 'it returns false'. Refute it at one input. -/
def runBooksWrong : ChangeSpec := { name := "runBooks", fn := fun _ => fun
  | [d1, d2] => { results := [.lit (.bool false)], args := [d1, d2] }
  | _ => none }
def RunBooksWrongFalsely : Prop := runBooksRow.holds Tryz.pinned (OpenSpec.ofChange runBooksWrong)

/-- 'wagebooklaw31.RunStays': WHATEVER THE INPUT: true; the input reads as it did. -/
def runStaysSpec : ChangeSpec := { name := "runStays", fn := fun _ => fun
  | [d1, d2] => { results := [.lit (.bool true)], args := [d1, d2] }
  | _ => none }
def runStaysRow : OpenClaim := { program := "ytnefdpnolojojaagreat", sum := "862f0e018678dc1bf208ac5f6c7c3bcfaf12fd9137cece901e91fa0da4b3c074", func := "wagebook/wagebooklaw31.RunStays", spec := "runStays", unfollowed := true, recurses := true, plainKeys := false, apart := false }
def RunStaysSaid : Prop := runStaysRow.holds Tryz.pinned (OpenSpec.ofChange runStaysSpec)

/-- ITS FALSE NEIGHBOUR: 'it returns false'. Refute it at one input. -/
def runStaysWrong : ChangeSpec := { name := "runStays", fn := fun _ => fun
  | [d1, d2] => { results := [.lit (.bool false)], args := [d1, d2] }
  | _ => none }
def RunStaysWrongFalsely : Prop := runStaysRow.holds Tryz.pinned (OpenSpec.ofChange runStaysWrong)

/- THE SECOND FORM. 'bulk': how many values and letters a reading holds, each counted each time it is reached (what is shared counts as often as it is met; a slice's spare places count too). A statement '..UptoSaid' is the law's where the arguments, and the package variables that the reading takes, are together of bulk at most 1048576: NARROWER than '..Said'. Prove '..Said' where nothing that the law and all that it calls make is longer than what came in: it says more and counts as full. Else prove '..UptoSaid'. A law counts once. -/
mutual
def uptoBulk {H : Type} : DataW H → Nat
  | .lit (.string bytes) => bytes.length + 1
  | .lit _ => 1
  | .nil => 1
  | .ptr d => uptoBulk d + 1
  | .slice elems spare => uptoBulkAll elems + uptoBulkAll spare + 1
  | .agg parts => uptoBulkAll parts + 1
  | .iface _ d => uptoBulk d + 1
  | .map entries => uptoBulkEntries entries + 1
  | .held _ => 1
def uptoBulkAll {H : Type} : List (DataW H) → Nat
  | [] => 0
  | d :: r => uptoBulk d + uptoBulkAll r
def uptoBulkEntries {H : Type} : List (Lit × DataW H) → Nat
  | [] => 0
  | x :: r => uptoBulkEntry x + uptoBulkEntries r
def uptoBulkEntry {H : Type} : Lit × DataW H → Nat
  | (.string bytes, d) => bytes.length + uptoBulk d + 1
  | (_, d) => uptoBulk d + 1
 end
def uptoSmall : (H : Type) → List (DataW H) → Bool := fun _ ds => decide (uptoBulkAll ds ≤ 1048576)
def OpenSpec.upto (s : _root_.Go.ChangeSpec) : _root_.Go.OpenSpec := { _root_.Go.OpenSpec.ofChange s with cond := some uptoSmall }

/-- 'wagebooktop.TopRuns', WHERE WHAT IT READS IS OF BULK AT MOST 1048576: true; the input reads as it did. -/
def topRunsUptoRow : OpenClaim := { program := "ytnefdpnolojojaagreat", sum := "862f0e018678dc1bf208ac5f6c7c3bcfaf12fd9137cece901e91fa0da4b3c074", func := "wagebook/wagebooktop.TopRuns", spec := "topRuns", unfollowed := true, recurses := true, plainKeys := false, apart := false, narrowed := true }
def TopRunsUptoSaid : Prop := topRunsUptoRow.holds Tryz.pinned (OpenSpec.upto topRunsSpec)

/-- 'wagebooklaw31.RunDoes', WHERE WHAT IT READS IS OF BULK AT MOST 1048576: true; the input reads as it did. -/
def runDoesUptoRow : OpenClaim := { program := "ytnefdpnolojojaagreat", sum := "862f0e018678dc1bf208ac5f6c7c3bcfaf12fd9137cece901e91fa0da4b3c074", func := "wagebook/wagebooklaw31.RunDoes", spec := "runDoes", unfollowed := true, recurses := true, plainKeys := false, apart := false, narrowed := true }
def RunDoesUptoSaid : Prop := runDoesUptoRow.holds Tryz.pinned (OpenSpec.upto runDoesSpec)

/-- 'wagebooklaw31.RunTwice', WHERE WHAT IT READS IS OF BULK AT MOST 1048576: true; the input reads as it did. -/
def runTwiceUptoRow : OpenClaim := { program := "ytnefdpnolojojaagreat", sum := "862f0e018678dc1bf208ac5f6c7c3bcfaf12fd9137cece901e91fa0da4b3c074", func := "wagebook/wagebooklaw31.RunTwice", spec := "runTwice", unfollowed := true, recurses := true, plainKeys := false, apart := false, narrowed := true }
def RunTwiceUptoSaid : Prop := runTwiceUptoRow.holds Tryz.pinned (OpenSpec.upto runTwiceSpec)

/-- 'wagebooklaw31.RunSums', WHERE WHAT IT READS IS OF BULK AT MOST 1048576: true; the input reads as it did. -/
def runSumsUptoRow : OpenClaim := { program := "ytnefdpnolojojaagreat", sum := "862f0e018678dc1bf208ac5f6c7c3bcfaf12fd9137cece901e91fa0da4b3c074", func := "wagebook/wagebooklaw31.RunSums", spec := "runSums", unfollowed := true, recurses := true, plainKeys := false, apart := false, narrowed := true }
def RunSumsUptoSaid : Prop := runSumsUptoRow.holds Tryz.pinned (OpenSpec.upto runSumsSpec)

/-- 'wagebooklaw31.RunAgain', WHERE WHAT IT READS IS OF BULK AT MOST 1048576: true; the input reads as it did. -/
def runAgainUptoRow : OpenClaim := { program := "ytnefdpnolojojaagreat", sum := "862f0e018678dc1bf208ac5f6c7c3bcfaf12fd9137cece901e91fa0da4b3c074", func := "wagebook/wagebooklaw31.RunAgain", spec := "runAgain", unfollowed := true, recurses := true, plainKeys := false, apart := false, narrowed := true }
def RunAgainUptoSaid : Prop := runAgainUptoRow.holds Tryz.pinned (OpenSpec.upto runAgainSpec)

/-- 'wagebooklaw31.RunApart', WHERE WHAT IT READS IS OF BULK AT MOST 1048576: true; the input reads as it did. -/
def runApartUptoRow : OpenClaim := { program := "ytnefdpnolojojaagreat", sum := "862f0e018678dc1bf208ac5f6c7c3bcfaf12fd9137cece901e91fa0da4b3c074", func := "wagebook/wagebooklaw31.RunApart", spec := "runApart", unfollowed := true, recurses := true, plainKeys := false, apart := false, narrowed := true }
def RunApartUptoSaid : Prop := runApartUptoRow.holds Tryz.pinned (OpenSpec.upto runApartSpec)

/-- 'wagebooklaw31.RunBooks', WHERE WHAT IT READS IS OF BULK AT MOST 1048576: true; the input reads as it did. -/
def runBooksUptoRow : OpenClaim := { program := "ytnefdpnolojojaagreat", sum := "862f0e018678dc1bf208ac5f6c7c3bcfaf12fd9137cece901e91fa0da4b3c074", func := "wagebook/wagebooklaw31.RunBooks", spec := "runBooks", unfollowed := true, recurses := true, plainKeys := false, apart := false, narrowed := true }
def RunBooksUptoSaid : Prop := runBooksUptoRow.holds Tryz.pinned (OpenSpec.upto runBooksSpec)

/-- 'wagebooklaw31.RunStays', WHERE WHAT IT READS IS OF BULK AT MOST 1048576: true; the input reads as it did. -/
def runStaysUptoRow : OpenClaim := { program := "ytnefdpnolojojaagreat", sum := "862f0e018678dc1bf208ac5f6c7c3bcfaf12fd9137cece901e91fa0da4b3c074", func := "wagebook/wagebooklaw31.RunStays", spec := "runStays", unfollowed := true, recurses := true, plainKeys := false, apart := false, narrowed := true }
def RunStaysUptoSaid : Prop := runStaysUptoRow.holds Tryz.pinned (OpenSpec.upto runStaysSpec)

end Rows
end Go.Proofs.YtnefdpnolojojaaGreat
