/- MRf -/
import Derived.Test.YtnefdpnolojojaaGreatDoorMRd
import Derived.Deep.RegionHeldLaw
import Derived.Deep.RegionHeld3
namespace Go.Proofs.YtnefdpnolojojaaGreatDoor
open Go.RowKit
set_option maxRecDepth 8000
attribute [local go_sem ↓] Go.wp_at_zero Go.wp_at_succ
end Go.Proofs.YtnefdpnolojojaaGreatDoor
namespace Go.Proofs.YtnefdpnolojojaaGreatDoor
open Go.RowKit Go.Sort Go.Lib Go.Maps
set_option maxRecDepth 8000
attribute [local go_sem ↓] Go.wp_at_zero Go.wp_at_succ
end Go.Proofs.YtnefdpnolojojaaGreatDoor
namespace Go.Proofs.YtnefdpnolojojaaGreatDoor
open Go.RowKit Go.Sort Go.Lib Go.Maps
set_option maxRecDepth 8000
attribute [local go_sem ↓] Go.wp_at_zero Go.wp_at_succ
end Go.Proofs.YtnefdpnolojojaaGreatDoor
namespace Go.Proofs.YtnefdpnolojojaaGreatDoor
open Go.RowKit Go.Sort Go.Lib Go.Maps
set_option maxRecDepth 8000
attribute [local go_sem ↓] Go.wp_at_zero Go.wp_at_succ
end Go.Proofs.YtnefdpnolojojaaGreatDoor
namespace Go.Proofs.YtnefdpnolojojaaGreatDoor
open Go.RowKit Go.Sort Go.Lib Go.Maps
set_option maxRecDepth 8000
structure OwnIs (hs : List HdM) (p : Int) (O : List HdM) : Prop where
 here : SH O p = SH hs p
 off : ∀ q, q ≠ p → SH O q = []
 ok : ∀ x ∈ O, kU32.ok x.p
 len : O.length ≤ 1
theorem OwnIs.few {hs O : List HdM} {p : Int} {n : Nat} (h : OwnIs hs p O) (hn : ∀ q, (SH hs q).length ≤ n) (q : Int) : (SH O q).length ≤ n := by
 by_cases e : q = p
 ·subst e; rw [h.here]; exact hn q
 ·rw [h.off q e]; exact Nat.zero_le _
structure ApI (w : World) (P : Nat → Prop) (A j : Nat) (wr : World) (ra : Option Addr) (rl rc : Nat) (mp mo : Option Nat) (B : Wb.Bk) (ks : List Int) (N : Nat) : Prop where
 a0 : wr.cell? ⟨A, 0, none⟩ = some (.slice ra rl rc)
 a1 : wr.cell? ⟨A, 1, none⟩ = some (.map mp)
 a2 : wr.cell? ⟨A, 2, none⟩ = some (.map mo)
 af : ∀ j, wr.frozen? ⟨A, j, none⟩ = false
 book : BkF (fun q => ¬ P q) wr (.slice ra rl rc) mp mo B ks N
 ok : BkI j B ks N
 lt : A < wr.heap.size ∧ w.heap.size ≤ A
 ext : Wb.Ext w wr
theorem ApI.ext' {w : World} {P : Nat → Prop} {A j : Nat} {wr w2 : World} {ra : Option Addr} {rl rc : Nat} {mp mo : Option Nat} {B : Wb.Bk} {ks : List Int} {N : Nat} (h : ApI w P A j wr ra rl rc mp mo B ks N) (k : Wb.Ext wr w2) : ApI w P A j w2 ra rl rc mp mo B ks N :=
 ⟨k.keep h.a0, k.keep h.a1, k.keep h.a2, (fun i => (k.cells.2 _ _ h.lt.1).trans (h.af i)), h.book.kept (.ext k), h.ok, ⟨Nat.lt_of_lt_of_le h.lt.1 k.size, h.lt.2⟩, h.ext.trans k⟩
theorem Kept.drewR {F : Nat → Prop} {w w' : World} (h : Kept F w w') : Kept F w w'.drew := h.trans (.ext (.drew (.refl _)))
end Go.Proofs.YtnefdpnolojojaaGreatDoor
