/- Run17 -/
import Derived.Test.YtnefdpnolojojaaGreatDoorMRc
namespace Go.Proofs.YtnefdpnolojojaaGreatDoor
open Go.RowKit Go.Sort Go.Lib Go.Maps
set_option maxRecDepth 8000
attribute [local go_sem ↓] Go.wp_at_zero Go.wp_at_succ
structure HdsW (w : World) (v : Value) (hs : List HdM) : Prop where
 tab : Tbl 2 hdc w v hs
 each : ∀ h ∈ hs, Sls w h.v h.L ∧ kU32.ok h.p
theorem HdsW.ext {w w' : World} {v : Value} {hs : List HdM} (h : HdsW w v hs) (k : Wb.Ext w w') : HdsW w' v hs := ⟨h.tab.ext k, fun x hx => ⟨(h.each x hx).1.ext k, (h.each x hx).2⟩⟩
structure AcM where
 y : Int
 i : Int
 k : Int
 v : Value
 hs : List HdM
def acc (a : AcM) : List Value := [.int .i64 a.y, .int .i64 a.i, .int .i64 a.k, a.v]
structure ActsM (w : World) (v : Value) (al : List AcM) : Prop where
 tab : Tbl 4 acc w v al
 each : ∀ a ∈ al, HdsW w a.v a.hs
theorem ActsM.ext {w w' : World} {v : Value} {al : List AcM} (h : ActsM w v al) (k : Wb.Ext w w') : ActsM w' v al := ⟨h.tab.ext k, fun x hx => (h.each x hx).ext k⟩
def SmallH (n : Int) (h : HdM) : Prop := h.L.length ≤ 60 ∧ ∀ s ∈ h.L, (s.l.length : Int) ≤ n
def SmallA (n : Int) (a : AcM) : Prop := a.hs.length ≤ 20 ∧ ∀ h ∈ a.hs, SmallH n h
theorem SmallH.mono {n m : Int} {h : HdM} (k : SmallH n h) (e : n ≤ m) : SmallH m h := ⟨k.1, fun s hs => Int.le_trans (k.2 s hs) e⟩
theorem SmallA.mono {n m : Int} {a : AcM} (k : SmallA n a) (e : n ≤ m) : SmallA m a := ⟨k.1, fun h hh => (k.2 h hh).mono e⟩
end Go.Proofs.YtnefdpnolojojaaGreatDoor
