/- The walk of the laws' example: its first run. -/
import Derived.Test.YtnefdpnolojojaaGreatMRd
import Derived.BigQuiet
namespace Go.Proofs.YtnefdpnolojojaaGreat
open Go.RowKit Go.Sort Go.Lib Go.Maps
set_option maxRecDepth 8000
attribute [local go_sem ↓] Go.wp_at_zero Go.wp_at_succ
attribute [local irreducible] insW NewM

/-- a post that bears no way out but the end -/
def OnEnd (R : Act → World → Prop) (e : Exit) (a : Act) (w : World) : Prop := match e with
  | .normal => R a w
  | _ => False
theorem OnEnd.imp {R : Act → World → Prop} {Q : Exit → Act → World → Prop} (h : ∀ a w, R a w → Q .normal a w) : ∀ e a w, OnEnd R e a w → Q e a w := fun e a w k => by
  cases e <;> first | exact h _ _ k | exact (k : False).elim
end Go.Proofs.YtnefdpnolojojaaGreat
