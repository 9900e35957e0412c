/- Chapter 31's reference: Periods. -/
import Derived.Test.YtnefdpnolojojaaGreatMod3
import Derived.Test.YtnefdpnolojojaaGreatMRa
import Derived.Deep.RegionHeld3
namespace Go.Proofs.YtnefdpnolojojaaGreat
open Go.RowKit Go.Sort Go.Lib Go.Maps
set_option maxRecDepth 8000
attribute [local go_sem ↓] Go.wp_at_zero Go.wp_at_succ

/-- what is appended, wherever it lies -/
def SrcX (w : World) (size : Nat) (v : Value) (m : Nat) (news : List Value) : Prop := Wb.SrcRow w size v m news ∨ (m = 0 ∧ news = [] ∧ ∃ c, v = .slice none 0 c)
theorem SrcX.ext {w w' : World} {size m : Nat} {v : Value} {news : List Value} (h : SrcX w size v m news) (k : Wb.Ext w w') : SrcX w' size v m news := h.elim (fun h => .inl (h.ext k)) .inr
end Go.Proofs.YtnefdpnolojojaaGreat
