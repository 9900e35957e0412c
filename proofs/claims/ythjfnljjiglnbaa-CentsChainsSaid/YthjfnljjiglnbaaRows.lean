/-
  No cell of these rows narrows 'for every input' (looked for: loops, veiled, ifaces, maps, wideKeys, modest, calm, conditions, laid).
  DERIVED. THE GIVEN ROWS OF THIS SEAT. 7 by the template 'for every input the law returns true; each argument reads behind the call as it read before'; 0 by the template 'total and deterministic' (their statements: YthjfnljjiglnbaaTotals.lean).
  GIVEN WITH THE SEED: the statements are not yours to turn. If you find one false, say at which input.
  Laid BY PROGRAM, IN A SANDBOX (cutbox-rows.mjs): the forced cells as the released guide's own fill.sh prints them over the translation 6770ca259079470d… (all of the seat's roots in one cut). By AI agents, Wed Nov 11 2026. No macro, syntax, notation, axiom, sorry.
-/
import Derived.Test.YthjfnljjiglnbaaChecked
import GoSem.Claim
import GoSem.ClaimJoined
import GoSem.ClaimMapViews
import Derived.JoinedTies
import Derived.KernelRfl
namespace Go.Proofs.Ythjfnljjiglnbaa
/- THE CELL 'sum', in the pinned program and in every row, IS THE sha256 OF THE DUMP (.gsa) THAT YthjfnljjiglnbaaProg.lean LOADS. Nothing in Lean hashes anything: it is a label: what it is worth is what the hold of that sum in a sandbox is worth. -/
noncomputable def Try.pinned : Pinned := { name := "ythjfnljjiglnbaa", sum := "6770ca259079470dc8d7e1c2e5b99a046c61587c3fe96266a031eacbad3acf74", checked := Try.checked }
namespace Rows
def none {H : Type} : Left H := { results := [], args := [] }

/-- 'wagebooklaw01.CentsTexts': WHATEVER THE INPUT: true; the input reads as it did. -/
def centsTextsSpec : ChangeSpec := { name := "centsTexts", fn := fun _ => fun
  | [d] => { results := [.lit (.bool true)], args := [d] }
  | _ => none }
def centsTextsRow : OpenClaim := { program := "ythjfnljjiglnbaa", sum := "6770ca259079470dc8d7e1c2e5b99a046c61587c3fe96266a031eacbad3acf74", func := "wagebook/wagebooklaw01.CentsTexts", spec := "centsTexts", recurses := true, apart := false }
def CentsTextsSaid : Prop := centsTextsRow.holds Try.pinned (OpenSpec.ofChange centsTextsSpec)

/-- ITS FALSE NEIGHBOUR: 'it returns false'. Refute it at one input. -/
def centsTextsWrong : ChangeSpec := { name := "centsTexts", fn := fun _ => fun
  | [d] => { results := [.lit (.bool false)], args := [d] }
  | _ => none }
def CentsTextsWrongFalsely : Prop := centsTextsRow.holds Try.pinned (OpenSpec.ofChange centsTextsWrong)

/-- 'wagebooklaw01.CentsParses': WHATEVER THE INPUT: true; the input reads as it did. -/
def centsParsesSpec : ChangeSpec := { name := "centsParses", fn := fun _ => fun
  | [d] => { results := [.lit (.bool true)], args := [d] }
  | _ => none }
def centsParsesRow : OpenClaim := { program := "ythjfnljjiglnbaa", sum := "6770ca259079470dc8d7e1c2e5b99a046c61587c3fe96266a031eacbad3acf74", func := "wagebook/wagebooklaw01.CentsParses", spec := "centsParses", apart := false }
def CentsParsesSaid : Prop := centsParsesRow.holds Try.pinned (OpenSpec.ofChange centsParsesSpec)

/-- ITS FALSE NEIGHBOUR: 'it returns false'. Refute it at one input. -/
def centsParsesWrong : ChangeSpec := { name := "centsParses", fn := fun _ => fun
  | [d] => { results := [.lit (.bool false)], args := [d] }
  | _ => none }
def CentsParsesWrongFalsely : Prop := centsParsesRow.holds Try.pinned (OpenSpec.ofChange centsParsesWrong)

/-- 'wagebooklaw01.CentsAdds': WHATEVER THE INPUT: true; the input reads as it did. -/
def centsAddsSpec : ChangeSpec := { name := "centsAdds", fn := fun _ => fun
  | [d1, d2] => { results := [.lit (.bool true)], args := [d1, d2] }
  | _ => none }
def centsAddsRow : OpenClaim := { program := "ythjfnljjiglnbaa", sum := "6770ca259079470dc8d7e1c2e5b99a046c61587c3fe96266a031eacbad3acf74", func := "wagebook/wagebooklaw01.CentsAdds", spec := "centsAdds", apart := false }
def CentsAddsSaid : Prop := centsAddsRow.holds Try.pinned (OpenSpec.ofChange centsAddsSpec)

/-- ITS FALSE NEIGHBOUR: 'it returns false'. Refute it at one input. -/
def centsAddsWrong : ChangeSpec := { name := "centsAdds", fn := fun _ => fun
  | [d1, d2] => { results := [.lit (.bool false)], args := [d1, d2] }
  | _ => none }
def CentsAddsWrongFalsely : Prop := centsAddsRow.holds Try.pinned (OpenSpec.ofChange centsAddsWrong)

/-- 'wagebooklaw01.CentsBetween': WHATEVER THE INPUT: true; the input reads as it did. -/
def centsBetweenSpec : ChangeSpec := { name := "centsBetween", fn := fun _ => fun
  | [d1, d2, d3] => { results := [.lit (.bool true)], args := [d1, d2, d3] }
  | _ => none }
def centsBetweenRow : OpenClaim := { program := "ythjfnljjiglnbaa", sum := "6770ca259079470dc8d7e1c2e5b99a046c61587c3fe96266a031eacbad3acf74", func := "wagebook/wagebooklaw01.CentsBetween", spec := "centsBetween", apart := false }
def CentsBetweenSaid : Prop := centsBetweenRow.holds Try.pinned (OpenSpec.ofChange centsBetweenSpec)

/-- ITS FALSE NEIGHBOUR: 'it returns false'. Refute it at one input. -/
def centsBetweenWrong : ChangeSpec := { name := "centsBetween", fn := fun _ => fun
  | [d1, d2, d3] => { results := [.lit (.bool false)], args := [d1, d2, d3] }
  | _ => none }
def CentsBetweenWrongFalsely : Prop := centsBetweenRow.holds Try.pinned (OpenSpec.ofChange centsBetweenWrong)

/-- 'wagebooklaw01.CentsSums': WHATEVER THE INPUT: true; the input reads as it did. -/
def centsSumsSpec : ChangeSpec := { name := "centsSums", fn := fun _ => fun
  | [d] => { results := [.lit (.bool true)], args := [d] }
  | _ => none }
def centsSumsRow : OpenClaim := { program := "ythjfnljjiglnbaa", sum := "6770ca259079470dc8d7e1c2e5b99a046c61587c3fe96266a031eacbad3acf74", func := "wagebook/wagebooklaw01.CentsSums", spec := "centsSums", apart := false }
def CentsSumsSaid : Prop := centsSumsRow.holds Try.pinned (OpenSpec.ofChange centsSumsSpec)

/-- ITS FALSE NEIGHBOUR: 'it returns false'. Refute it at one input. -/
def centsSumsWrong : ChangeSpec := { name := "centsSums", fn := fun _ => fun
  | [d] => { results := [.lit (.bool false)], args := [d] }
  | _ => none }
def CentsSumsWrongFalsely : Prop := centsSumsRow.holds Try.pinned (OpenSpec.ofChange centsSumsWrong)

/-- 'wagebooklaw01.CentsChains': WHATEVER THE INPUT: true; the input reads as it did. -/
def centsChainsSpec : ChangeSpec := { name := "centsChains", fn := fun _ => fun
  | [d1, d2] => { results := [.lit (.bool true)], args := [d1, d2] }
  | _ => none }
def centsChainsRow : OpenClaim := { program := "ythjfnljjiglnbaa", sum := "6770ca259079470dc8d7e1c2e5b99a046c61587c3fe96266a031eacbad3acf74", func := "wagebook/wagebooklaw01.CentsChains", spec := "centsChains", apart := false }
def CentsChainsSaid : Prop := centsChainsRow.holds Try.pinned (OpenSpec.ofChange centsChainsSpec)

/-- ITS FALSE NEIGHBOUR: 'it returns false'. Refute it at one input. -/
def centsChainsWrong : ChangeSpec := { name := "centsChains", fn := fun _ => fun
  | [d1, d2] => { results := [.lit (.bool false)], args := [d1, d2] }
  | _ => none }
def CentsChainsWrongFalsely : Prop := centsChainsRow.holds Try.pinned (OpenSpec.ofChange centsChainsWrong)

/-- 'wagebooklaw01.CentsBack': WHATEVER THE INPUT: true; the input reads as it did. -/
def centsBackSpec : ChangeSpec := { name := "centsBack", fn := fun _ => fun
  | [d1, d2] => { results := [.lit (.bool true)], args := [d1, d2] }
  | _ => none }
def centsBackRow : OpenClaim := { program := "ythjfnljjiglnbaa", sum := "6770ca259079470dc8d7e1c2e5b99a046c61587c3fe96266a031eacbad3acf74", func := "wagebook/wagebooklaw01.CentsBack", spec := "centsBack", apart := false }
def CentsBackSaid : Prop := centsBackRow.holds Try.pinned (OpenSpec.ofChange centsBackSpec)

/-- ITS FALSE NEIGHBOUR: 'it returns false'. Refute it at one input. -/
def centsBackWrong : ChangeSpec := { name := "centsBack", fn := fun _ => fun
  | [d1, d2] => { results := [.lit (.bool false)], args := [d1, d2] }
  | _ => none }
def CentsBackWrongFalsely : Prop := centsBackRow.holds Try.pinned (OpenSpec.ofChange centsBackWrong)

/- THE SECOND FORM. 'bulk': how many values and letters a reading holds, each counted each time it is reached (what is shared counts as often as it is met; a slice's spare places count too). A statement '..UptoSaid' is the law's where the arguments, and the package variables that the reading takes, are together of bulk at most 1048576: NARROWER than '..Said'. Prove '..Said' where nothing that the law and all that it calls make is longer than what came in: it says more and counts as full. Else prove '..UptoSaid'. A law counts once. -/
mutual
def uptoBulk {H : Type} : DataW H → Nat
  | .lit (.string bytes) => bytes.length + 1
  | .lit _ => 1
  | .nil => 1
  | .ptr d => uptoBulk d + 1
  | .slice elems spare => uptoBulkAll elems + uptoBulkAll spare + 1
  | .agg parts => uptoBulkAll parts + 1
  | .iface _ d => uptoBulk d + 1
  | .map entries => uptoBulkEntries entries + 1
  | .held _ => 1
def uptoBulkAll {H : Type} : List (DataW H) → Nat
  | [] => 0
  | d :: r => uptoBulk d + uptoBulkAll r
def uptoBulkEntries {H : Type} : List (Lit × DataW H) → Nat
  | [] => 0
  | x :: r => uptoBulkEntry x + uptoBulkEntries r
def uptoBulkEntry {H : Type} : Lit × DataW H → Nat
  | (.string bytes, d) => bytes.length + uptoBulk d + 1
  | (_, d) => uptoBulk d + 1
 end
def uptoSmall : (H : Type) → List (DataW H) → Bool := fun _ ds => decide (uptoBulkAll ds ≤ 1048576)
def OpenSpec.upto (s : _root_.Go.ChangeSpec) : _root_.Go.OpenSpec := { _root_.Go.OpenSpec.ofChange s with cond := some uptoSmall }

/-- 'wagebooklaw01.CentsTexts', WHERE WHAT IT READS IS OF BULK AT MOST 1048576: true; the input reads as it did. -/
def centsTextsUptoRow : OpenClaim := { program := "ythjfnljjiglnbaa", sum := "6770ca259079470dc8d7e1c2e5b99a046c61587c3fe96266a031eacbad3acf74", func := "wagebook/wagebooklaw01.CentsTexts", spec := "centsTexts", recurses := true, apart := false, narrowed := true }
def CentsTextsUptoSaid : Prop := centsTextsUptoRow.holds Try.pinned (OpenSpec.upto centsTextsSpec)

/-- 'wagebooklaw01.CentsParses', WHERE WHAT IT READS IS OF BULK AT MOST 1048576: true; the input reads as it did. -/
def centsParsesUptoRow : OpenClaim := { program := "ythjfnljjiglnbaa", sum := "6770ca259079470dc8d7e1c2e5b99a046c61587c3fe96266a031eacbad3acf74", func := "wagebook/wagebooklaw01.CentsParses", spec := "centsParses", apart := false, narrowed := true }
def CentsParsesUptoSaid : Prop := centsParsesUptoRow.holds Try.pinned (OpenSpec.upto centsParsesSpec)

/-- 'wagebooklaw01.CentsAdds', WHERE WHAT IT READS IS OF BULK AT MOST 1048576: true; the input reads as it did. -/
def centsAddsUptoRow : OpenClaim := { program := "ythjfnljjiglnbaa", sum := "6770ca259079470dc8d7e1c2e5b99a046c61587c3fe96266a031eacbad3acf74", func := "wagebook/wagebooklaw01.CentsAdds", spec := "centsAdds", apart := false, narrowed := true }
def CentsAddsUptoSaid : Prop := centsAddsUptoRow.holds Try.pinned (OpenSpec.upto centsAddsSpec)

/-- 'wagebooklaw01.CentsBetween', WHERE WHAT IT READS IS OF BULK AT MOST 1048576: true; the input reads as it did. -/
def centsBetweenUptoRow : OpenClaim := { program := "ythjfnljjiglnbaa", sum := "6770ca259079470dc8d7e1c2e5b99a046c61587c3fe96266a031eacbad3acf74", func := "wagebook/wagebooklaw01.CentsBetween", spec := "centsBetween", apart := false, narrowed := true }
def CentsBetweenUptoSaid : Prop := centsBetweenUptoRow.holds Try.pinned (OpenSpec.upto centsBetweenSpec)

/-- 'wagebooklaw01.CentsSums', WHERE WHAT IT READS IS OF BULK AT MOST 1048576: true; the input reads as it did. -/
def centsSumsUptoRow : OpenClaim := { program := "ythjfnljjiglnbaa", sum := "6770ca259079470dc8d7e1c2e5b99a046c61587c3fe96266a031eacbad3acf74", func := "wagebook/wagebooklaw01.CentsSums", spec := "centsSums", apart := false, narrowed := true }
def CentsSumsUptoSaid : Prop := centsSumsUptoRow.holds Try.pinned (OpenSpec.upto centsSumsSpec)

/-- 'wagebooklaw01.CentsChains', WHERE WHAT IT READS IS OF BULK AT MOST 1048576: true; the input reads as it did. -/
def centsChainsUptoRow : OpenClaim := { program := "ythjfnljjiglnbaa", sum := "6770ca259079470dc8d7e1c2e5b99a046c61587c3fe96266a031eacbad3acf74", func := "wagebook/wagebooklaw01.CentsChains", spec := "centsChains", apart := false, narrowed := true }
def CentsChainsUptoSaid : Prop := centsChainsUptoRow.holds Try.pinned (OpenSpec.upto centsChainsSpec)

/-- 'wagebooklaw01.CentsBack', WHERE WHAT IT READS IS OF BULK AT MOST 1048576: true; the input reads as it did. -/
def centsBackUptoRow : OpenClaim := { program := "ythjfnljjiglnbaa", sum := "6770ca259079470dc8d7e1c2e5b99a046c61587c3fe96266a031eacbad3acf74", func := "wagebook/wagebooklaw01.CentsBack", spec := "centsBack", apart := false, narrowed := true }
def CentsBackUptoSaid : Prop := centsBackUptoRow.holds Try.pinned (OpenSpec.upto centsBackSpec)

end Rows
end Go.Proofs.Ythjfnljjiglnbaa
