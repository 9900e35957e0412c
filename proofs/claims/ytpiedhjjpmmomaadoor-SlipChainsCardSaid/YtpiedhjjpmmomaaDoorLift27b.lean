/- A slip that is handed in: its lines are no more than there is room for. -/
import Derived.Test.YtpiedhjjpmmomaaDoorLift27
import Derived.Test.YtpiedhjjpmmomaaDoorSlip15
namespace Go.Proofs.YtpiedhjjpmmomaaDoor
open Go.Joins Go.ChangeShapes Go.WideShapes Go.ChangeAt Go.RowKit Go.Deep

set_option maxRecDepth 100000 in
theorem slip_cap {H : Type} {enc : TypeId × Value → H} {W : World} {r : Reach} {b0 base : Nat} {spare : Nat → Bool} {held : Bool} {y i : Int} {u : Value} {d : DataW H} {p : List MemPlace}
    (hv : Value.okWide Tryd.prog W r b0 24 (.agg #[.int .i64 y, .int .i64 i, u])) (h : DataW.Trod enc Tryd.prog W base spare held 24 (.agg #[.int .i64 y, .int .i64 i, u]) d p) : lenOf u ≤ capOf u := by
  obtain ⟨v0, v1, v2, y0, y1, y2, n, he, _, _, _, _, h2⟩ := open_agg3 Tryd.underlying24 (by kernel_rfl) cellsSlip hv h
  cases he
  rcases open_slice Tryd.underlying22 h2 with ⟨hu, _⟩ | ⟨a, len, cap, m, n, D, Pl, hcs, hb, hl, _⟩
  · simp at hu; subst hu; exact Nat.le_refl _
  · simp at hcs; subst hcs; exact hl

end Go.Proofs.YtpiedhjjpmmomaaDoor
