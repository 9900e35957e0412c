/- Run26 -/
import Derived.Test.YtnefdpnolojojaaGreatDoorMRd
import Derived.BigQuiet
namespace Go.Proofs.YtnefdpnolojojaaGreatDoor
open Go.RowKit Go.Sort Go.Lib Go.Maps
set_option maxRecDepth 8000
attribute [local go_sem ↓] Go.wp_at_zero Go.wp_at_succ
attribute [local irreducible] insW NewM
def findReg (id : Nat) : Code → Option Code
 | .region i ops b => if i = id then some (.region i ops b) else none
 | .loop c => findReg id c
 | .seq a b => match findReg id a with
  | some c => some c
  | none => findReg id b
 | .block _ c => findReg id c
 | .scope c => findReg id c
 | .cond _ a b => match findReg id a with
  | some c => some c
  | none => findReg id b
 | _ => none
def OnEnd (R : Act → World → Prop) (e : Exit) (a : Act) (w : World) : Prop := match e with
 | .normal => R a w
 | _ => False
theorem OnEnd.imp {R : Act → World → Prop} {Q : Exit → Act → World → Prop} (h : ∀ a w, R a w → Q .normal a w) : ∀ e a w, OnEnd R e a w → Q e a w := fun e a w k => by
 cases e <;> first | exact h _ _ k | exact (k : False).elim
end Go.Proofs.YtnefdpnolojojaaGreatDoor
