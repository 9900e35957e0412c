/- Chapter 31's model: a person's row. -/
import Derived.Test.YtnefdpnolojojaaGreatMod4
namespace Go.Proofs.YtnefdpnolojojaaGreat
open Go.RowKit Go.Sort Go.Lib Go.Maps
set_option maxRecDepth 8000
attribute [local go_sem ↓] Go.wp_at_zero Go.wp_at_succ

end Go.Proofs.YtnefdpnolojojaaGreat
