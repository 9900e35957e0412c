/-
  No cell of these rows narrows 'for every input' (looked for: loops, veiled, ifaces, maps, wideKeys, modest, calm, conditions, laid).
  DERIVED. THE GIVEN ROWS OF THIS SEAT. 7 by the template 'for every input the law returns true; each argument reads behind the call as it read before'; 0 by the template 'total and deterministic' (their statements: YtdfmlgjemfcmlaaTotals.lean).
  GIVEN WITH THE SEED: the statements are not yours to turn. If you find one false, say at which input.
  Laid BY PROGRAM, IN A SANDBOX (cutbox-rows.mjs): the forced cells as the released guide's own fill.sh prints them over the translation 2ecce1d9ff558c78… (all of the seat's roots in one cut). By AI agents, Wed Nov 11 2026. No macro, syntax, notation, axiom, sorry.
-/
import Derived.Test.YtdfmlgjemfcmlaaChecked
import GoSem.Claim
import GoSem.ClaimJoined
import GoSem.ClaimMapViews
import Derived.JoinedTies
import Derived.KernelRfl
namespace Go.Proofs.Ytdfmlgjemfcmlaa
/- THE CELL 'sum', in the pinned program and in every row, IS THE sha256 OF THE DUMP (.gsa) THAT YtdfmlgjemfcmlaaProg.lean LOADS. Nothing in Lean hashes anything: it is a label: what it is worth is what the hold of that sum in a sandbox is worth. -/
noncomputable def Try.pinned : Pinned := { name := "ytdfmlgjemfcmlaa", sum := "2ecce1d9ff558c784b826669c8d915252a8d6913135bcae97bafa360ed6233b1", checked := Try.checked }
namespace Rows
def none {H : Type} : Left H := { results := [], args := [] }

/-- 'wagebooklaw29.DeltaOf': WHATEVER THE INPUT: true; the input reads as it did. -/
def deltaOfSpec : ChangeSpec := { name := "deltaOf", fn := fun _ => fun
  | [d1, d2, d3] => { results := [.lit (.bool true)], args := [d1, d2, d3] }
  | _ => none }
def deltaOfRow : OpenClaim := { program := "ytdfmlgjemfcmlaa", sum := "2ecce1d9ff558c784b826669c8d915252a8d6913135bcae97bafa360ed6233b1", func := "wagebook/wagebooklaw29.DeltaOf", spec := "deltaOf", unfollowed := true, recurses := true, plainKeys := false, apart := false }
def DeltaOfSaid : Prop := deltaOfRow.holds Try.pinned (OpenSpec.ofChange deltaOfSpec)

/-- ITS FALSE NEIGHBOUR: 'it returns false'. Refute it at one input. -/
def deltaOfWrong : ChangeSpec := { name := "deltaOf", fn := fun _ => fun
  | [d1, d2, d3] => { results := [.lit (.bool false)], args := [d1, d2, d3] }
  | _ => none }
def DeltaOfWrongFalsely : Prop := deltaOfRow.holds Try.pinned (OpenSpec.ofChange deltaOfWrong)

/-- 'wagebooklaw29.DeltaSums': WHATEVER THE INPUT: true; the input reads as it did. -/
def deltaSumsSpec : ChangeSpec := { name := "deltaSums", fn := fun _ => fun
  | [d1, d2] => { results := [.lit (.bool true)], args := [d1, d2] }
  | _ => none }
def deltaSumsRow : OpenClaim := { program := "ytdfmlgjemfcmlaa", sum := "2ecce1d9ff558c784b826669c8d915252a8d6913135bcae97bafa360ed6233b1", func := "wagebook/wagebooklaw29.DeltaSums", spec := "deltaSums", unfollowed := true, recurses := true, plainKeys := false, apart := false }
def DeltaSumsSaid : Prop := deltaSumsRow.holds Try.pinned (OpenSpec.ofChange deltaSumsSpec)

/-- ITS FALSE NEIGHBOUR: 'it returns false'. Refute it at one input. -/
def deltaSumsWrong : ChangeSpec := { name := "deltaSums", fn := fun _ => fun
  | [d1, d2] => { results := [.lit (.bool false)], args := [d1, d2] }
  | _ => none }
def DeltaSumsWrongFalsely : Prop := deltaSumsRow.holds Try.pinned (OpenSpec.ofChange deltaSumsWrong)

/-- 'wagebooklaw29.DeltaBack': WHATEVER THE INPUT: true; the input reads as it did. -/
def deltaBackSpec : ChangeSpec := { name := "deltaBack", fn := fun _ => fun
  | [d1, d2] => { results := [.lit (.bool true)], args := [d1, d2] }
  | _ => none }
def deltaBackRow : OpenClaim := { program := "ytdfmlgjemfcmlaa", sum := "2ecce1d9ff558c784b826669c8d915252a8d6913135bcae97bafa360ed6233b1", func := "wagebook/wagebooklaw29.DeltaBack", spec := "deltaBack", unfollowed := true, recurses := true, plainKeys := false, apart := false }
def DeltaBackSaid : Prop := deltaBackRow.holds Try.pinned (OpenSpec.ofChange deltaBackSpec)

/-- ITS FALSE NEIGHBOUR: 'it returns false'. Refute it at one input. -/
def deltaBackWrong : ChangeSpec := { name := "deltaBack", fn := fun _ => fun
  | [d1, d2] => { results := [.lit (.bool false)], args := [d1, d2] }
  | _ => none }
def DeltaBackWrongFalsely : Prop := deltaBackRow.holds Try.pinned (OpenSpec.ofChange deltaBackWrong)

/-- 'wagebooklaw29.DeltaChain': WHATEVER THE INPUT: true; the input reads as it did. -/
def deltaChainSpec : ChangeSpec := { name := "deltaChain", fn := fun _ => fun
  | [d1, d2, d3] => { results := [.lit (.bool true)], args := [d1, d2, d3] }
  | _ => none }
def deltaChainRow : OpenClaim := { program := "ytdfmlgjemfcmlaa", sum := "2ecce1d9ff558c784b826669c8d915252a8d6913135bcae97bafa360ed6233b1", func := "wagebook/wagebooklaw29.DeltaChain", spec := "deltaChain", unfollowed := true, recurses := true, plainKeys := false, apart := false }
def DeltaChainSaid : Prop := deltaChainRow.holds Try.pinned (OpenSpec.ofChange deltaChainSpec)

/-- ITS FALSE NEIGHBOUR: 'it returns false'. Refute it at one input. -/
def deltaChainWrong : ChangeSpec := { name := "deltaChain", fn := fun _ => fun
  | [d1, d2, d3] => { results := [.lit (.bool false)], args := [d1, d2, d3] }
  | _ => none }
def DeltaChainWrongFalsely : Prop := deltaChainRow.holds Try.pinned (OpenSpec.ofChange deltaChainWrong)

/-- 'wagebooklaw29.DeltaNets': WHATEVER THE INPUT: true; the input reads as it did. -/
def deltaNetsSpec : ChangeSpec := { name := "deltaNets", fn := fun _ => fun
  | [d1, d2] => { results := [.lit (.bool true)], args := [d1, d2] }
  | _ => none }
def deltaNetsRow : OpenClaim := { program := "ytdfmlgjemfcmlaa", sum := "2ecce1d9ff558c784b826669c8d915252a8d6913135bcae97bafa360ed6233b1", func := "wagebook/wagebooklaw29.DeltaNets", spec := "deltaNets", unfollowed := true, recurses := true, plainKeys := false, apart := false }
def DeltaNetsSaid : Prop := deltaNetsRow.holds Try.pinned (OpenSpec.ofChange deltaNetsSpec)

/-- ITS FALSE NEIGHBOUR: 'it returns false'. Refute it at one input. -/
def deltaNetsWrong : ChangeSpec := { name := "deltaNets", fn := fun _ => fun
  | [d1, d2] => { results := [.lit (.bool false)], args := [d1, d2] }
  | _ => none }
def DeltaNetsWrongFalsely : Prop := deltaNetsRow.holds Try.pinned (OpenSpec.ofChange deltaNetsWrong)

/-- 'wagebooklaw29.DeltaAll': WHATEVER THE INPUT: true; the input reads as it did. -/
def deltaAllSpec : ChangeSpec := { name := "deltaAll", fn := fun _ => fun
  | [d1, d2] => { results := [.lit (.bool true)], args := [d1, d2] }
  | _ => none }
def deltaAllRow : OpenClaim := { program := "ytdfmlgjemfcmlaa", sum := "2ecce1d9ff558c784b826669c8d915252a8d6913135bcae97bafa360ed6233b1", func := "wagebook/wagebooklaw29.DeltaAll", spec := "deltaAll", unfollowed := true, recurses := true, plainKeys := false, apart := false }
def DeltaAllSaid : Prop := deltaAllRow.holds Try.pinned (OpenSpec.ofChange deltaAllSpec)

/-- ITS FALSE NEIGHBOUR: 'it returns false'. Refute it at one input. -/
def deltaAllWrong : ChangeSpec := { name := "deltaAll", fn := fun _ => fun
  | [d1, d2] => { results := [.lit (.bool false)], args := [d1, d2] }
  | _ => none }
def DeltaAllWrongFalsely : Prop := deltaAllRow.holds Try.pinned (OpenSpec.ofChange deltaAllWrong)

/-- 'wagebooklaw29.DeltaAdds': WHATEVER THE INPUT: true; the input reads as it did. -/
def deltaAddsSpec : ChangeSpec := { name := "deltaAdds", fn := fun _ => fun
  | [d1, d2] => { results := [.lit (.bool true)], args := [d1, d2] }
  | _ => none }
def deltaAddsRow : OpenClaim := { program := "ytdfmlgjemfcmlaa", sum := "2ecce1d9ff558c784b826669c8d915252a8d6913135bcae97bafa360ed6233b1", func := "wagebook/wagebooklaw29.DeltaAdds", spec := "deltaAdds", unfollowed := true, recurses := true, plainKeys := false, apart := false }
def DeltaAddsSaid : Prop := deltaAddsRow.holds Try.pinned (OpenSpec.ofChange deltaAddsSpec)

/-- ITS FALSE NEIGHBOUR: 'it returns false'. Refute it at one input. -/
def deltaAddsWrong : ChangeSpec := { name := "deltaAdds", fn := fun _ => fun
  | [d1, d2] => { results := [.lit (.bool false)], args := [d1, d2] }
  | _ => none }
def DeltaAddsWrongFalsely : Prop := deltaAddsRow.holds Try.pinned (OpenSpec.ofChange deltaAddsWrong)

/- THE SECOND FORM. 'bulk': how many values and letters a reading holds, each counted each time it is reached (what is shared counts as often as it is met; a slice's spare places count too). A statement '..UptoSaid' is the law's where the arguments, and the package variables that the reading takes, are together of bulk at most 1048576: NARROWER than '..Said'. Prove '..Said' where nothing that the law and all that it calls make is longer than what came in: it says more and counts as full. Else prove '..UptoSaid'. A law counts once. -/
mutual
def uptoBulk {H : Type} : DataW H → Nat
  | .lit (.string bytes) => bytes.length + 1
  | .lit _ => 1
  | .nil => 1
  | .ptr d => uptoBulk d + 1
  | .slice elems spare => uptoBulkAll elems + uptoBulkAll spare + 1
  | .agg parts => uptoBulkAll parts + 1
  | .iface _ d => uptoBulk d + 1
  | .map entries => uptoBulkEntries entries + 1
  | .held _ => 1
def uptoBulkAll {H : Type} : List (DataW H) → Nat
  | [] => 0
  | d :: r => uptoBulk d + uptoBulkAll r
def uptoBulkEntries {H : Type} : List (Lit × DataW H) → Nat
  | [] => 0
  | x :: r => uptoBulkEntry x + uptoBulkEntries r
def uptoBulkEntry {H : Type} : Lit × DataW H → Nat
  | (.string bytes, d) => bytes.length + uptoBulk d + 1
  | (_, d) => uptoBulk d + 1
 end
def uptoSmall : (H : Type) → List (DataW H) → Bool := fun _ ds => decide (uptoBulkAll ds ≤ 1048576)
def OpenSpec.upto (s : _root_.Go.ChangeSpec) : _root_.Go.OpenSpec := { _root_.Go.OpenSpec.ofChange s with cond := some uptoSmall }

/-- 'wagebooklaw29.DeltaOf', WHERE WHAT IT READS IS OF BULK AT MOST 1048576: true; the input reads as it did. -/
def deltaOfUptoRow : OpenClaim := { program := "ytdfmlgjemfcmlaa", sum := "2ecce1d9ff558c784b826669c8d915252a8d6913135bcae97bafa360ed6233b1", func := "wagebook/wagebooklaw29.DeltaOf", spec := "deltaOf", unfollowed := true, recurses := true, plainKeys := false, apart := false, narrowed := true }
def DeltaOfUptoSaid : Prop := deltaOfUptoRow.holds Try.pinned (OpenSpec.upto deltaOfSpec)

/-- 'wagebooklaw29.DeltaSums', WHERE WHAT IT READS IS OF BULK AT MOST 1048576: true; the input reads as it did. -/
def deltaSumsUptoRow : OpenClaim := { program := "ytdfmlgjemfcmlaa", sum := "2ecce1d9ff558c784b826669c8d915252a8d6913135bcae97bafa360ed6233b1", func := "wagebook/wagebooklaw29.DeltaSums", spec := "deltaSums", unfollowed := true, recurses := true, plainKeys := false, apart := false, narrowed := true }
def DeltaSumsUptoSaid : Prop := deltaSumsUptoRow.holds Try.pinned (OpenSpec.upto deltaSumsSpec)

/-- 'wagebooklaw29.DeltaBack', WHERE WHAT IT READS IS OF BULK AT MOST 1048576: true; the input reads as it did. -/
def deltaBackUptoRow : OpenClaim := { program := "ytdfmlgjemfcmlaa", sum := "2ecce1d9ff558c784b826669c8d915252a8d6913135bcae97bafa360ed6233b1", func := "wagebook/wagebooklaw29.DeltaBack", spec := "deltaBack", unfollowed := true, recurses := true, plainKeys := false, apart := false, narrowed := true }
def DeltaBackUptoSaid : Prop := deltaBackUptoRow.holds Try.pinned (OpenSpec.upto deltaBackSpec)

/-- 'wagebooklaw29.DeltaChain', WHERE WHAT IT READS IS OF BULK AT MOST 1048576: true; the input reads as it did. -/
def deltaChainUptoRow : OpenClaim := { program := "ytdfmlgjemfcmlaa", sum := "2ecce1d9ff558c784b826669c8d915252a8d6913135bcae97bafa360ed6233b1", func := "wagebook/wagebooklaw29.DeltaChain", spec := "deltaChain", unfollowed := true, recurses := true, plainKeys := false, apart := false, narrowed := true }
def DeltaChainUptoSaid : Prop := deltaChainUptoRow.holds Try.pinned (OpenSpec.upto deltaChainSpec)

/-- 'wagebooklaw29.DeltaNets', WHERE WHAT IT READS IS OF BULK AT MOST 1048576: true; the input reads as it did. -/
def deltaNetsUptoRow : OpenClaim := { program := "ytdfmlgjemfcmlaa", sum := "2ecce1d9ff558c784b826669c8d915252a8d6913135bcae97bafa360ed6233b1", func := "wagebook/wagebooklaw29.DeltaNets", spec := "deltaNets", unfollowed := true, recurses := true, plainKeys := false, apart := false, narrowed := true }
def DeltaNetsUptoSaid : Prop := deltaNetsUptoRow.holds Try.pinned (OpenSpec.upto deltaNetsSpec)

/-- 'wagebooklaw29.DeltaAll', WHERE WHAT IT READS IS OF BULK AT MOST 1048576: true; the input reads as it did. -/
def deltaAllUptoRow : OpenClaim := { program := "ytdfmlgjemfcmlaa", sum := "2ecce1d9ff558c784b826669c8d915252a8d6913135bcae97bafa360ed6233b1", func := "wagebook/wagebooklaw29.DeltaAll", spec := "deltaAll", unfollowed := true, recurses := true, plainKeys := false, apart := false, narrowed := true }
def DeltaAllUptoSaid : Prop := deltaAllUptoRow.holds Try.pinned (OpenSpec.upto deltaAllSpec)

/-- 'wagebooklaw29.DeltaAdds', WHERE WHAT IT READS IS OF BULK AT MOST 1048576: true; the input reads as it did. -/
def deltaAddsUptoRow : OpenClaim := { program := "ytdfmlgjemfcmlaa", sum := "2ecce1d9ff558c784b826669c8d915252a8d6913135bcae97bafa360ed6233b1", func := "wagebook/wagebooklaw29.DeltaAdds", spec := "deltaAdds", unfollowed := true, recurses := true, plainKeys := false, apart := false, narrowed := true }
def DeltaAddsUptoSaid : Prop := deltaAddsUptoRow.holds Try.pinned (OpenSpec.upto deltaAddsSpec)

end Rows
end Go.Proofs.Ytdfmlgjemfcmlaa
