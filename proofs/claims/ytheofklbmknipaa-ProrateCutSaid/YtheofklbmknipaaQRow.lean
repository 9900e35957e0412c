/- Chapter 20: rows of pieces, appended to at a drawn step. -/
import Derived.Test.YtheofklbmknipaaQSum
import Derived.Test.YtheofklbmknipaaLift20
import Derived.Test.YtheofklbmknipaaApp1
namespace Go.Proofs.Ytheofklbmknipaa
open Go.RowKit Go.Lib

theorem infoPc' : (Try.prog.info? 50).map (fun i => (i.zero, i.size, i.bytes)) = some (some (.agg #[.int .i64 0, .int .i64 0, .int .i64 0, .int .i64 0]), 4, 32) := by kernel_rfl
theorem rpc_one (l : List Pc) : ∀ u ∈ rowsOf pcc l, u.oneCell' = true := by
  intro u hu
  obtain ⟨x, _, hx⟩ := List.mem_flatMap.1 hu
  simp [pcc] at hx
  rcases hx with rfl | rfl | rfl | rfl <;> rfl
theorem own_empty {w : World} {base e s : Nat} (hb : base ≤ w.heap.size) : (w.alloc (.cells #[] e)).ownsRow base e s (.slice (some ⟨w.heap.size, 0, none⟩) 0 0) 0 [] :=
  ⟨by simp, .inr ⟨w.heap.size, 0, #[], rfl, hb, heap_alloc_new _ _, Nat.le_refl _, Nat.zero_le _, by simp, by simp⟩⟩
theorem src_grown {w w' : World} {size m : Nat} {v : Value} {news : List Value} {row : Option Nat} (h : Wb.SrcRow w size v m news) (hg : w.grownBy w' row) (hne : ∀ a m' c, v = .slice (some a) m' c → row ≠ some a.block) : Wb.SrcRow w' size v m news := by
  refine ⟨h.1, ?_⟩
  rcases h.2 with h | ⟨ad, c, h1, h2⟩
  · exact .inl h
  · refine .inr ⟨ad, c, h1, fun j u hj => ?_⟩
    have hc := h2 j u hj
    have hlt : (ad.add j).block < w.heap.size := by
      rcases Nat.lt_or_ge (ad.add j).block w.heap.size with q | q
      · exact q
      · simp [World.cell?, Array.getElem?_eq_none q] at hc
    rw [hg.cell_far _ hlt (by have := hne ad m c h1; intro e; apply this; rw [← e]; simp [Addr.add]; split <;> rfl)]
    exact hc

end Go.Proofs.Ytheofklbmknipaa
