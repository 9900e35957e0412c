/- Ag8 -/
import Derived.Test.YtnefdpnolojojaaGreatMRd
import Derived.Test.YtnefdpnolojojaaGreatRun26
import Derived.Deep.RegionHeldLaw
namespace Go.Proofs.YtnefdpnolojojaaGreat
open Go.RowKit Go.Sort Go.Lib Go.Maps
set_option maxRecDepth 8000
attribute [local go_sem ↓] Go.wp_at_zero Go.wp_at_succ
theorem did_at2 {P : Nat → Prop} {w1 wx : World} {nW n0 lo hi : Nat} {rv : Value} {mp mo : Option Nat} {B B' : Wb.Bk} {y i k : Int} {S : Int → List Wb.Ct} {hs ks : List Int} {N : Nat} {r : RnM} {E : Int}
  (hd : DidF (fun q => q < nW → Ok0 P n0 lo hi q) w1 rv mp mo B B' y i k S hs ks N r E) (hk : Kept (fun q => q < w1.heap.size ∧ (q < nW → Ok0 P n0 lo hi q)) w1 wx) (hP : ∀ q, P q → q < n0) (hlo : ∀ q, P q → q < lo) (hW : n0 ≤ nW) :
  DidF (fun q => ¬ P q) wx rv mp mo B B' y i k S hs ks N r E := by
 have hk2 : Kept (fun q => q < nW → Ok0 P n0 lo hi q) w1 wx := hk.mono fun i h1 h2 => ⟨h1, h2⟩
 refine (hd.kept hk2).mono (fun q _ h e => ?_)
 have hq := hP q e
 rcases h (by omega) with h | h
 ·exact h.1 e
 ·have := hlo q e; omega
end Go.Proofs.YtnefdpnolojojaaGreat
