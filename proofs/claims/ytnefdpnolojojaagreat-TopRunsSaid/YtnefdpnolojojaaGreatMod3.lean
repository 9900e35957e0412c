/- Chapter 31's reference: Less, At. -/
import Derived.Test.YtnefdpnolojojaaGreatMSt
import Derived.Test.YtnefdpnolojojaaGreatMRf
namespace Go.Proofs.YtnefdpnolojojaaGreat
open Go.RowKit Go.Sort Go.Lib Go.Maps
set_option maxRecDepth 8000
attribute [local go_sem ↓] Go.wp_at_zero Go.wp_at_succ

end Go.Proofs.YtnefdpnolojojaaGreat
