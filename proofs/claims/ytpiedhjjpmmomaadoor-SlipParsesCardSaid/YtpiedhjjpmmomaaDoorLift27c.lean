/- A world for the witness in which the library's tables for texts are laid, too. -/
import Derived.Test.YtpiedhjjpmmomaaDoorLift27
import Derived.Test.YtpiedhjjpmmomaaDoorSlip20
namespace Go.Proofs.YtpiedhjjpmmomaaDoor

def lit27 : DataW Unit → Value
  | .lit (.int k z) => .int k z
  | .lit (.string b) => .string ⟨b.toArray⟩
  | _ => .bool false
def flat27 : DataW Unit → List Value
  | .agg parts => parts.flatMap fun
    | .agg qs => qs.map lit27
    | d => [lit27 d]
  | _ => []
def layAt27 (g : Nat) (d : DataW Unit) (heap : Array Obj) : Array Obj := heap.modify g fun
  | .cells _ t frozen => .cells (flat27 d).toArray t frozen
  | o => o
noncomputable def laidWorld2 (os : Os) : World :=
  { laidWorld os with heap := layAt27 2 Rows.laid_unicode_utf8_first (layAt27 3 Rows.laid_unicode_utf8_acceptRanges (laidWorld os).heap) }

end Go.Proofs.YtpiedhjjpmmomaaDoor
