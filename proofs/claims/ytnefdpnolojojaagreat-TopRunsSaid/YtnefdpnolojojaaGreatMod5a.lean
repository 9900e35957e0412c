/- Chapter 31's model: what is wrong with what is handed in. -/
import Derived.Test.YtnefdpnolojojaaGreatMod3
import Derived.Test.YtnefdpnolojojaaGreatRun26
import Derived.Deep.RegionHeld
namespace Go.Proofs.YtnefdpnolojojaaGreat
open Go.RowKit Go.Sort Go.Lib Go.Maps
set_option maxRecDepth 8000
attribute [local go_sem ↓] Go.wp_at_zero Go.wp_at_succ

end Go.Proofs.YtnefdpnolojojaaGreat
