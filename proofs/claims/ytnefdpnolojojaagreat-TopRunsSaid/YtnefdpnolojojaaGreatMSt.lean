/- Several texts in one. -/
import Derived.Test.YtnefdpnolojojaaGreatMRd
import Derived.Test.YtnefdpnolojojaaGreatMRc
import Derived.Test.YtnefdpnolojojaaGreatRun26
import Derived.Test.YtnefdpnolojojaaGreatMRa
import Derived.Deep.RegionHeld
/- Chapter 31's model: put, persons: numbers that rise. -/
namespace Go.Proofs.YtnefdpnolojojaaGreat
open Go.RowKit Go.Sort Go.Lib Go.Maps
set_option maxRecDepth 8000
attribute [local go_sem ↓] Go.wp_at_zero Go.wp_at_succ

/-- a row of numbers, made by the law's own calls -/
def NumR (base : Nat) (w : World) (v : Value) (l : List Int) : Prop := w.ownsRow base 35 1 v l.length (rowsOf u32c l)
theorem NumR.ext {base : Nat} {w w' : World} {v : Value} {l : List Int} (h : NumR base w v l) (k : Wb.Ext w w') : NumR base w' v l := row_ext3 h k
theorem NumR.shape {base : Nat} {w : World} {v : Value} {l : List Int} (h : NumR base w v l) : ∃ a c, v = .slice a l.length c := row_shape h
theorem NumR.tbl {base : Nat} {w : World} {v : Value} {l : List Int} (h : NumR base w v l) : Tbl 1 u32c w v l := row_tbl u32c_len (by decide) h
theorem NumR.nil {base : Nat} {w : World} : NumR base w (.slice none 0 0) [] := own_none
theorem NumR.mono {base base' : Nat} {w : World} {v : Value} {l : List Int} (h : NumR base w v l) (hb : base' ≤ base) : NumR base' w v l := by
  obtain ⟨h1, h2 | ⟨g, cap, cur, hv, hg, rest⟩⟩ := h
  · exact ⟨h1, .inl h2⟩
  · exact ⟨h1, .inr ⟨g, cap, cur, hv, Nat.le_trans hb hg, rest⟩⟩
end Go.Proofs.YtnefdpnolojojaaGreat
/- Chapter 31's model: persons: the keys of two maps, rising. -/
namespace Go.Proofs.YtnefdpnolojojaaGreat
open Go.RowKit Go.Sort Go.Lib Go.Maps
set_option maxRecDepth 8000
attribute [local go_sem ↓] Go.wp_at_zero Go.wp_at_succ

/-- what stands at a round: ss have come, l is what was put of them behind l0 -/
structure PsAt (w wr : World) (v : Value) (l : List Int) (l0 ss : List Int) : Prop where
  row : NumR w.heap.size wr v l
  rise : l.Pairwise (· < ·)
  mem : ∀ p, p ∈ l ↔ p ∈ l0 ∨ p ∈ ss
  len : l.length ≤ l0.length + ss.length
  ext : Wb.Ext w wr
theorem PsAt.put {w wr w2 : World} {v v' : Value} {l l0 ss : List Int} {p : Int} (h : PsAt w wr v l l0 ss) (k : NumR w.heap.size w2 v' (Wb.putU l p)) (e : Wb.Ext wr w2) : PsAt w w2 v' (Wb.putU l p) l0 (ss ++ [p]) :=
  ⟨k, Wb.putU_rise h.rise, fun q => by rw [Wb.putU_mem, h.mem, List.mem_append, List.mem_singleton]; exact ⟨fun h => h.elim (fun a => .inr (.inr a)) (fun b => b.elim .inl (fun c => .inr (.inl c))), fun h => h.elim (fun a => .inr (.inl a)) (fun b => b.elim (fun c => .inr (.inr c)) .inl)⟩, by have := Wb.putU_len (l := l) (p := p); have := h.len; rw [List.length_append]; simp; omega, h.ext.trans e⟩
end Go.Proofs.YtnefdpnolojojaaGreat
/- RunStays: the runs and one more. -/
namespace Go.Proofs.YtnefdpnolojojaaGreat
open Go.RowKit Go.Sort Go.Lib Go.Maps
set_option maxRecDepth 8000
attribute [local go_sem ↓] Go.wp_at_zero Go.wp_at_succ

end Go.Proofs.YtnefdpnolojojaaGreat
/- RunStays: its runs' region. -/
namespace Go.Proofs.YtnefdpnolojojaaGreat
open Go.RowKit Go.Sort Go.Lib Go.Maps
set_option maxRecDepth 8000
attribute [local go_sem ↓] Go.wp_at_zero Go.wp_at_succ

end Go.Proofs.YtnefdpnolojojaaGreat
/- RunStays: what each person is paid for, one behind the other. -/
namespace Go.Proofs.YtnefdpnolojojaaGreat
open Go.RowKit Go.Sort Go.Lib Go.Maps
set_option maxRecDepth 8000
attribute [local go_sem ↓] Go.wp_at_zero Go.wp_at_succ

/-- a list of slips, in memory -/
structure SsM where
  v : Value
  L : List Wb.Sl
def ssv (x : SsM) : List Value := [x.v]
/-- what is paid for, person by person, in a row of the law's own -/
structure StP (n0 : Nat) (wr : World) (pv : Value) (B : Wb.Bk) (l : List Int) (PL : List SsM) : Prop where
  row : wr.ownsRow n0 39 1 pv PL.length (rowsOf ssv PL)
  each : ∀ x ∈ PL, ∀ w2, Kept (fun q => n0 ≤ q ∧ pv.ownBlock ≠ some q) wr w2 → Sls w2 x.v x.L
  paid : PL.map (fun x => x.L.map Wb.ct) = l.map B.paid
theorem StP.nil {n0 : Nat} {wr : World} {B : Wb.Bk} : StP n0 wr (.slice none 0 0) B [] [] := ⟨own_none, (fun x hx => by cases hx), rfl⟩
theorem StP.ext {n0 : Nat} {wr w2 : World} {pv : Value} {B : Wb.Bk} {l : List Int} {PL : List SsM} (h : StP n0 wr pv B l PL) (k : Wb.Ext wr w2) : StP n0 w2 pv B l PL :=
  ⟨row_ext3 h.row k, fun x hx w3 h3 => h.each x hx w3 ((Kept.ext k).trans h3), h.paid⟩
theorem StP.step {n0 : Nat} {wr W W' wa w6 : World} {pv v' u : Value} {B : Wb.Bk} {l : List Int} {p : Int} {PL : List SsM} {D : List Wb.Sl} (h : StP n0 wr pv B l PL) (h0 : n0 ≤ wr.heap.size) (hx : Wb.Ext wr W) (hu : SlR W.heap.size W' u D) (hn : ∀ s ∈ D, ∀ q, s.v.ownBlock = some q → W.heap.size ≤ q) (hD : D.map Wb.ct = B.paid p) (hx2 : Wb.Ext W W') (hxa : Wb.Ext W' wa)
    (hown : w6.ownsRow n0 39 1 v' (PL.length + 1) (rowsOf ssv PL ++ [u])) (hg : wa.grownBy w6 pv.ownBlock) (hblk : v'.ownBlock = pv.ownBlock ∨ v'.ownBlock = some wa.heap.size) : StP n0 w6 v' B (l ++ [p]) (PL ++ [⟨u, D⟩]) := by
  have s1 := hx.size
  have s2 := hx2.size
  have s3 := hxa.size
  have hlo := h.row.lt
  have hk6 : Kept (fun q => pv.ownBlock ≠ some q) wa w6 := .grown hg (fun q e _ hne => hne e)
  have hb2 : ∀ w2, Kept (fun q => n0 ≤ q ∧ v'.ownBlock ≠ some q) w6 w2 → Kept (fun q => n0 ≤ q ∧ pv.ownBlock ≠ some q) wa w2 := fun w2 h2 =>
    ⟨h2.os.trans hk6.os, h2.tape.trans hk6.tape, h2.output.trans hk6.output, Nat.le_trans hk6.size h2.size, fun q hq hf => by
      refine (h2.block q (Nat.lt_of_lt_of_le hq hk6.size) ⟨hf.1, fun e => ?_⟩).trans (hk6.block q hq hf.2)
      rcases hblk with e2 | e2
      · exact hf.2 (e2 ▸ e)
      · rw [e2] at e; injection e with e; omega⟩
  refine ⟨?_, fun x hm w2 h2 => ?_, ?_⟩
  · rw [List.length_append, rowsOf_app, show rowsOf ssv [(⟨u, D⟩ : SsM)] = [u] from rfl]
    exact hown
  · rcases List.mem_append.1 hm with hm | hm
    · exact h.each x hm w2 ((Kept.ext (hx.trans (hx2.trans hxa))).trans (hb2 w2 h2))
    · obtain rfl : x = ⟨u, D⟩ := by simpa using hm
      have hk : Kept (fun q => W.heap.size ≤ q ∧ q < W'.heap.size) W' w2 := ((Kept.ext hxa).trans (hb2 w2 h2)).mono fun q hq hf => ⟨by omega, fun e => by have := (hlo q e).2; omega⟩
      have hlu := hu.1.lt
      refine ((hk.mono (G := fun q => W.heap.size ≤ q) fun q hq hf => ⟨hf, hq⟩).sls hu.sls (fun q hq => (hlu q hq).1) fun s hs _ q hq => hn s hs q hq)
  · rw [List.map_append, List.map_append, h.paid]
    simp [hD]
end Go.Proofs.YtnefdpnolojojaaGreat
/- RunStays: its conditions. -/
namespace Go.Proofs.YtnefdpnolojojaaGreat
open Go.RowKit Go.Sort Go.Lib Go.Maps
set_option maxRecDepth 8000
attribute [local go_sem ↓] Go.wp_at_zero Go.wp_at_succ

end Go.Proofs.YtnefdpnolojojaaGreat
