/- Per0 -/
import Derived.Test.YtnefdpnolojojaaGreatDoorMBa
import Derived.Test.YtnefdpnolojojaaGreatDoorMPl
import Derived.Test.YtnefdpnolojojaaGreatDoorShelf
import Derived.Deep.QuietTactic
import Derived.BigQuiet
import Derived.Deep.RegionHeld3
import Derived.WalkSmall
import Derived.Deep.DeepFit
namespace Go.Proofs.YtnefdpnolojojaaGreatDoor
open Go.RowKit
set_option maxRecDepth 4000
theorem dec_digs (n : Nat) : Lib.decDigits n = Wb.digs n := by
 induction n using Nat.strongRecOn with
 | _ n ih =>
  by_cases h : n < 10
  ·rw [Wb.digs_lt h, Lib.decDigits, dif_pos h]; rfl
  ·rw [Wb.digs_ge (by omega), Lib.decDigits, dif_neg h, ih (n / 10) (by omega)]; rfl
def itoa (n : Int) : List UInt8 := if n < 0 then 45 :: Wb.digs n.natAbs else Wb.digs n.natAbs
theorem itoa_lib (n : Int) : Lib.itoa n = itoa n := by
 unfold Lib.itoa itoa
 split
 ·rw [dec_digs]
 ·rw [dec_digs, show n.toNat = n.natAbs by omega]
def Tab10 (w : World) : Prop := Lib.TabIs Tryz.prog w "internal/strconv.uint64pow10" .u64 Lib.pow10Tab
theorem g10 : Tryz.prog.globalNamed "internal/strconv.uint64pow10" = some 0 := by kernel_rfl
theorem Tab10.ext {w w' : World} (h : Tab10 w) (k : Wb.Ext w w') : Tab10 w' := by
 refine var?_below k g10 ?_ h
 have := Lib.TabIs.cell h g10 0 (by decide)
 exact Wb.cell_size this
end Go.Proofs.YtnefdpnolojojaaGreatDoor
