/- Del8 -/
import Derived.Test.YtnefdpnolojojaaGreatDoorMDa
import Derived.Test.YtnefdpnolojojaaGreatDoorMDb
import Derived.Test.YtnefdpnolojojaaGreatDoorDel6
import Derived.Test.YtnefdpnolojojaaGreatDoorMPm
import Derived.Deep.DeepCutAuto
import Derived.Deep.CutBlock
import Derived.IntWalk
namespace Go.Proofs.YtnefdpnolojojaaGreatDoor
open Go.RowKit Go.Sort Go.Lib Go.Maps
set_option maxRecDepth 8000
attribute [local go_sem ↓] Go.wp_at_zero Go.wp_at_succ
theorem ext_grow (w : World) (q : Nat) (os : Array Obj) : Wb.Ext w (grow (w.drewN q) os) := by
 refine ⟨rfl, rfl, rfl, by simp [grow], fun k hk => ?_⟩
 show (w.heap ++ os)[k]? = w.heap[k]?
 rw [Array.getElem?_append_left hk]
def SlsB (w : World) (v : Value) (L : List Wb.Sl) : Prop := Tbl 3 slc w v L ∧ (L.length ≤ 4096 → Sls w v L)
theorem SlsB.ext {w w' : World} {v : Value} {L : List Wb.Sl} (h : SlsB w v L) (k : Wb.Ext w w') : SlsB w' v L := ⟨h.1.ext k, fun hl => (h.2 hl).ext k⟩
theorem prOk_check {s : Wb.Sl} (h : Wb.check s.y s.i s.l = 0) : PrOk (Wb.perS s) := by
 obtain ⟨h1, h2, h3, h4⟩ := Wb.ok_years h
 exact prOk_of (by simp only [Wb.perS]; omega) (by simp only [Wb.perS]; omega)
theorem find_take {L : List Wb.Sl} {k : Nat} {x : Wb.Sl} (hx : L[k]? = some x) (h : ∀ s ∈ L.take k, Wb.perS s ≠ Wb.perS x) : (fun q => if Wb.perS x = q then some x else Wb.findS (L.take k) q) = Wb.findS (L.take (k + 1)) := by
 funext q
 have e : L.take (k + 1) = L.take k ++ [x] := by
  obtain ⟨h1, rfl⟩ := List.getElem?_eq_some_iff.1 hx
  exact List.take_succ_eq_append_getElem h1
 rw [e, Wb.find_app h]
end Go.Proofs.YtnefdpnolojojaaGreatDoor
