/- MSt -/
import Derived.Test.YtnefdpnolojojaaGreatDoorMRd
import Derived.Test.YtnefdpnolojojaaGreatDoorMRc
namespace Go.Proofs.YtnefdpnolojojaaGreatDoor
open Go.RowKit Go.Sort Go.Lib Go.Maps
set_option maxRecDepth 8000
attribute [local go_sem ↓] Go.wp_at_zero Go.wp_at_succ
def NumR (base : Nat) (w : World) (v : Value) (l : List Int) : Prop := w.ownsRow base 47 1 v l.length (rowsOf u32c l)
theorem NumR.ext {base : Nat} {w w' : World} {v : Value} {l : List Int} (h : NumR base w v l) (k : Wb.Ext w w') : NumR base w' v l := row_ext3 h k
theorem NumR.shape {base : Nat} {w : World} {v : Value} {l : List Int} (h : NumR base w v l) : ∃ a c, v = .slice a l.length c := row_shape h
theorem NumR.tbl {base : Nat} {w : World} {v : Value} {l : List Int} (h : NumR base w v l) : Tbl 1 u32c w v l := row_tbl u32c_len (by decide) h
theorem NumR.nil {base : Nat} {w : World} : NumR base w (.slice none 0 0) [] := own_none
theorem NumR.mono {base base' : Nat} {w : World} {v : Value} {l : List Int} (h : NumR base w v l) (hb : base' ≤ base) : NumR base' w v l := by
 obtain ⟨h1, h2 | ⟨g, cap, cur, hv, hg, rest⟩⟩ := h
 ·exact ⟨h1, .inl h2⟩
 ·exact ⟨h1, .inr ⟨g, cap, cur, hv, Nat.le_trans hb hg, rest⟩⟩
end Go.Proofs.YtnefdpnolojojaaGreatDoor
namespace Go.Proofs.YtnefdpnolojojaaGreatDoor
open Go.RowKit Go.Sort Go.Lib Go.Maps
set_option maxRecDepth 8000
attribute [local go_sem ↓] Go.wp_at_zero Go.wp_at_succ
structure PsAt (w wr : World) (v : Value) (l : List Int) (l0 ss : List Int) : Prop where
 row : NumR w.heap.size wr v l
 rise : l.Pairwise (· < ·)
 mem : ∀ p, p ∈ l ↔ p ∈ l0 ∨ p ∈ ss
 len : l.length ≤ l0.length + ss.length
 ext : Wb.Ext w wr
theorem PsAt.put {w wr w2 : World} {v v' : Value} {l l0 ss : List Int} {p : Int} (h : PsAt w wr v l l0 ss) (k : NumR w.heap.size w2 v' (Wb.putU l p)) (e : Wb.Ext wr w2) : PsAt w w2 v' (Wb.putU l p) l0 (ss ++ [p]) :=
 ⟨k, Wb.putU_rise h.rise, fun q => by rw [Wb.putU_mem, h.mem, List.mem_append, List.mem_singleton]; exact ⟨fun h => h.elim (fun a => .inr (.inr a)) (fun b => b.elim .inl (fun c => .inr (.inl c))), fun h => h.elim (fun a => .inr (.inl a)) (fun b => b.elim (fun c => .inr (.inr c)) .inl)⟩, by have := Wb.putU_len (l := l) (p := p); have := h.len; rw [List.length_append]; simp; omega, h.ext.trans e⟩
end Go.Proofs.YtnefdpnolojojaaGreatDoor
