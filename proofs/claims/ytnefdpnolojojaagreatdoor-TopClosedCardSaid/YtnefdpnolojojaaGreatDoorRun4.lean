/- Run4 -/
import Derived.Test.YtnefdpnolojojaaGreatDoorRun3
namespace Go.Proofs.YtnefdpnolojojaaGreatDoor
open Go.RowKit Go.Sort Go.Lib Go.Maps
set_option maxRecDepth 8000
attribute [local go_sem ↓] Go.wp_at_zero Go.wp_at_succ
theorem Tbl.kept {α : Type} {k : Nat} {f : α → List Value} {w w' : World} {v : Value} {l : List α} {row : Option Nat} (h : Tbl k f w v l) (hg : w.grownBy w' row) (hne : ∀ q, v.ownBlock = some q → row ≠ some q) : Tbl k f w' v l := by
  rcases h with h | ⟨b, off, cap, h1, h2⟩
  · exact .inl h
  · refine .inr ⟨b, off, cap, h1, fun j x hj i u hu => ?_⟩
    have hc := h2 j x hj i u hu
    rw [hg.cell_far ⟨b, off + j * k + i, none⟩ (Wb.cell_size hc) (fun e => hne b (by rw [h1]; rfl) e.symm)]
    exact hc
theorem setj_grown (W : World) (b j : Nat) (v : Value) : W.grownBy (W.setCell ⟨b, j, none⟩ v) (some b) :=
  ⟨rfl, rfl, rfl, (KeepsWalks.setCell W _ v).size, fun k _ hk => Below.heap_setCell _ _ _ k (fun e => hk (by rw [e]))⟩
structure Kept (F : Nat → Prop) (w w' : World) : Prop where
  os : w'.os = w.os
  tape : w'.tape = w.tape
  output : w'.output = w.output
  size : w.heap.size ≤ w'.heap.size
  block : ∀ k, k < w.heap.size → F k → w'.heap[k]? = w.heap[k]?
theorem Kept.refl {F : Nat → Prop} {w : World} : Kept F w w := ⟨rfl, rfl, rfl, Nat.le_refl _, fun _ _ _ => rfl⟩
theorem Kept.trans {F : Nat → Prop} {a b c : World} (h : Kept F a b) (k : Kept F b c) : Kept F a c :=
  ⟨k.os.trans h.os, k.tape.trans h.tape, k.output.trans h.output, Nat.le_trans h.size k.size, fun i hi hr => (k.block i (Nat.lt_of_lt_of_le hi h.size) hr).trans (h.block i hi hr)⟩
theorem Kept.ext {F : Nat → Prop} {w w' : World} (h : Wb.Ext w w') : Kept F w w' := ⟨h.os, h.tape, h.output, h.size, fun k hk _ => h.block k hk⟩
theorem Kept.grown {F : Nat → Prop} {row : Option Nat} {w w' : World} (h : w.grownBy w' row) (h1 : ∀ b, row = some b → b < w.heap.size → ¬ F b) : Kept F w w' :=
  ⟨h.os, h.tape, h.output, h.size, fun k hk hr => h.block k hk (fun e => h1 k e.symm hk hr)⟩
theorem Kept.mono {F G : Nat → Prop} {w w' : World} (h : Kept F w w') (k : ∀ i, i < w.heap.size → G i → F i) : Kept G w w' := ⟨h.os, h.tape, h.output, h.size, fun i hi hg => h.block i hi (k i hi hg)⟩
theorem Kept.cell {F : Nat → Prop} {w w' : World} (h : Kept F w w') {b o : Nat} {v : Value} (hb : F b) (hc : w.cell? ⟨b, o, none⟩ = some v) : w'.cell? ⟨b, o, none⟩ = some v := by
  have hbk := h.block b (Wb.cell_size hc) hb
  simp only [World.cell?, hbk] at hc ⊢; exact hc
theorem Kept.frozen {F : Nat → Prop} {w w' : World} (h : Kept F w w') {b o : Nat} (hb : F b) (hl : b < w.heap.size) (hc : w.frozen? ⟨b, o, none⟩ = false) : w'.frozen? ⟨b, o, none⟩ = false := by
  have hbk := h.block b hl hb
  simp only [World.frozen?, hbk] at hc ⊢; exact hc
theorem Kept.old {F : Nat → Prop} {w0 w w' : World} (h : Kept F w w') (k : Wb.Ext w0 w) (hl : ∀ i, i < w0.heap.size → F i) : Wb.Ext w0 w' :=
  ⟨h.os.trans k.os, h.tape.trans k.tape, h.output.trans k.output, Nat.le_trans k.size h.size, fun i hi => (h.block i (Nat.lt_of_lt_of_le hi k.size) (hl i hi)).trans (k.block i hi)⟩
theorem Kept.lns {F : Nat → Prop} {w w' : World} (h : Kept F w w') {v : Value} {l : List Wb.Ln} (hl : LnsC w v l) (hfar : l ≠ [] → ∀ q, v.ownBlock = some q → F q) : LnsC w' v l :=
  lnsC_cells hl fun b k u hb hr hc => by
    refine h.cell ?_ hc
    rcases hl.1 with ⟨q, _⟩ | ⟨b9, o9, c9, e9, _⟩
    · exact absurd q hr
    have hq9 : v.ownBlock = some b9 := by rw [e9]; rfl
    rw [hb b9 hq9]; exact hfar hr b9 hq9
theorem Kept.tbl {F : Nat → Prop} {w w' : World} (h : Kept F w w') {α : Type} {k : Nat} {f : α → List Value} {v : Value} {l : List α} (ht : Tbl k f w v l) (hfar : ∀ q, v.ownBlock = some q → F q) : Tbl k f w' v l := by
  rcases ht with ht | ⟨b, off, cap, h1, h2⟩
  · exact .inl ht
  · exact .inr ⟨b, off, cap, h1, fun j x hj i u hu => h.cell (hfar b (by rw [h1]; rfl)) (h2 j x hj i u hu)⟩
theorem Kept.sls {F : Nat → Prop} {w w' : World} (h : Kept F w w') {v : Value} {L : List Wb.Sl} (hl : Sls w v L) (h1 : ∀ q, v.ownBlock = some q → F q) (h2 : ∀ s ∈ L, s.l ≠ [] → ∀ q, s.v.ownBlock = some q → F q) : Sls w' v L :=
  ⟨h.tbl hl.1 h1, fun s hs => ⟨h.lns (hl.2 s hs).1 (h2 s hs), (hl.2 s hs).2⟩⟩
structure SlQ (R base : Nat) (w : World) (v : Value) (D : List Wb.Sl) : Prop where
  row : SlR base w v D
  lt : R < base
  far : ∀ s ∈ D, s.l ≠ [] → ∀ q, s.v.ownBlock = some q → R < q
theorem SlQ.ext {R base : Nat} {w w' : World} {v : Value} {D : List Wb.Sl} (h : SlQ R base w v D) (k : Wb.Ext w w') : SlQ R base w' v D := ⟨h.row.ext k, h.lt, h.far⟩
theorem SlQ.kept {R base : Nat} {w w' : World} {v : Value} {D : List Wb.Sl} (h : SlQ R base w v D) (hg : w.grownBy w' (some R)) : SlQ R base w' v D := by
  refine ⟨⟨h.row.1.kept hg ?_, fun s hs => ⟨lnsC_kept (h.row.2.1 s hs).1 hg (fun hne q hq e => by cases e; exact Nat.lt_irrefl _ (h.far s hs hne _ hq)), (h.row.2.1 s hs).2⟩, h.row.2.2⟩, h.lt, h.far⟩
  rcases hb : v.ownBlock with _ | k
  · exact .inl rfl
  · refine .inr fun e => ?_
    injection e with e
    have := (h.row.1.lt k hb).1
    have := h.lt
    omega
theorem SlQ.set {R base : Nat} {w : World} {v : Value} {D : List Wb.Sl} (h : SlQ R base w v D) {b : Nat} (hb : b ≤ R) (j : Nat) (u : Value) : SlQ R base (w.setCell ⟨b, j, none⟩ u) v D := by
  have hg : w.grownBy (w.setCell ⟨b, j, none⟩ u) (some b) := setj_grown _ _ _ _
  refine ⟨⟨h.row.1.kept hg ?_, fun s hs => ⟨lnsC_kept (h.row.2.1 s hs).1 hg (fun hne q hq e => by cases e; have := h.far s hs hne _ hq; omega), (h.row.2.1 s hs).2⟩, h.row.2.2⟩, h.lt, h.far⟩
  rcases hb : v.ownBlock with _ | k
  · exact .inl rfl
  · refine .inr fun e => ?_
    injection e with e
    have := (h.row.1.lt k hb).1
    have := h.lt
    omega
structure RwM where
  p : Int
  now : Wb.Sl
  bv : Value
  back : List Wb.Sl
  due : Int
  paid : Int
  owed : Int
def RwM.c (r : RwM) : Wb.Rw := ⟨r.p, Wb.ct r.now, r.back.map Wb.ct, r.due, r.paid, r.owed⟩
def rwv (r : RwM) : Value := .agg #[.int .u32 r.p, .int .i64 r.now.y, .int .i64 r.now.i, r.now.v, r.bv, .int .i64 r.due, .int .i64 r.paid, .int .i64 r.owed]
def rwc (r : RwM) : List Value := [.int .u32 r.p, .int .i64 r.now.y, .int .i64 r.now.i, r.now.v, r.bv, .int .i64 r.due, .int .i64 r.paid, .int .i64 r.owed]
theorem rwc_len (r : RwM) : (rwc r).length = 8 := rfl
structure RwIs (w : World) (r : RwM) : Prop where
  now : LnsC w r.now.v r.now.l
  sized : Sized r.now.l
  few : r.now.l.length ≤ 2000
  back : Sls w r.bv r.back
  many : r.back.length ≤ 100000
  less : ∀ s ∈ r.back, s.l.length ≤ 2000
theorem RwIs.ext {w w' : World} {r : RwM} (h : RwIs w r) (k : Wb.Ext w w') : RwIs w' r := ⟨h.now.ext k, h.sized, h.few, h.back.ext k, h.many, h.less⟩
structure RwAt (w wr : World) (R Q base : Nat) (p ny ni : Int) (na : Option Addr) (nn nc : Nat) (da : Option Addr) (dc : Nat) (D : List Wb.Sl) (T : Value) (P : List Pd) : Prop where
  c0 : wr.cell? ⟨R, 0, none⟩ = some (.int .u32 p)
  c1 : wr.cell? ⟨R, 1, none⟩ = some (.int .i64 ny)
  c2 : wr.cell? ⟨R, 2, none⟩ = some (.int .i64 ni)
  c3 : wr.cell? ⟨R, 3, none⟩ = some (.slice na nn nc)
  c4 : wr.cell? ⟨R, 4, none⟩ = some (.slice da D.length dc)
  c5 : wr.cell? ⟨R, 5, none⟩ = some (.int .i64 0)
  c6 : wr.cell? ⟨R, 6, none⟩ = some (.int .i64 0)
  c7 : wr.cell? ⟨R, 7, none⟩ = some (.int .i64 0)
  fr : ∀ j, wr.frozen? ⟨R, j, none⟩ = false
  q0 : wr.cell? ⟨Q, 0, none⟩ = some (.int .u32 0)
  q1 : wr.cell? ⟨Q, 1, none⟩ = some (.int .i64 0)
  q2 : wr.cell? ⟨Q, 2, none⟩ = some (.int .i64 0)
  q3 : wr.cell? ⟨Q, 3, none⟩ = some (.slice none 0 0)
  q4 : wr.cell? ⟨Q, 4, none⟩ = some (.slice none 0 0)
  q5 : wr.cell? ⟨Q, 5, none⟩ = some (.int .i64 0)
  q6 : wr.cell? ⟨Q, 6, none⟩ = some (.int .i64 0)
  q7 : wr.cell? ⟨Q, 7, none⟩ = some (.int .i64 0)
  fq : ∀ j, wr.frozen? ⟨Q, j, none⟩ = false
  ne : Q < R
  lt : R < wr.heap.size
  tab : Tbl 6 pdc wr T P
  far : ∀ q, T.ownBlock = some q → R < q
  back : SlQ R base wr (.slice da D.length dc) D
  ext : Wb.Ext w wr
  new : w.heap.size ≤ Q
  bs : base ≤ wr.heap.size
theorem RwAt.later {w wr w' : World} {R Q base : Nat} {p ny ni : Int} {na : Option Addr} {nn nc : Nat} {da : Option Addr} {dc : Nat} {D : List Wb.Sl} {T : Value} {P : List Pd} (h : RwAt w wr R Q base p ny ni na nn nc da dc D T P) (k : Wb.Ext wr w') : RwAt w w' R Q base p ny ni na nn nc da dc D T P :=
  ⟨k.keep h.c0, k.keep h.c1, k.keep h.c2, k.keep h.c3, k.keep h.c4, k.keep h.c5, k.keep h.c6, k.keep h.c7, fun j => (k.cells.2 _ _ h.lt).trans (h.fr j), k.keep h.q0, k.keep h.q1, k.keep h.q2, k.keep h.q3, k.keep h.q4, k.keep h.q5, k.keep h.q6, k.keep h.q7, fun j => (k.cells.2 _ _ (by have := h.ne; have := h.lt; omega)).trans (h.fq j), h.ne, Nat.lt_of_lt_of_le h.lt k.size, h.tab.ext k, h.far, h.back.ext k, h.ext.trans k, h.new, Nat.le_trans h.bs k.size⟩
theorem RwAt.setNow {w wr : World} {R Q base : Nat} {p ny ni : Int} {na : Option Addr} {nn nc : Nat} {da : Option Addr} {dc : Nat} {D : List Wb.Sl} {T : Value} {P : List Pd} (h : RwAt w wr R Q base p ny ni na nn nc da dc D T P) (y i : Int) (ma : Option Addr) (mn mc : Nat) :
    RwAt w (((wr.setCell ⟨R, 1, none⟩ (.int .i64 y)).setCell ⟨R, 2, none⟩ (.int .i64 i)).setCell ⟨R, 3, none⟩ (.slice ma mn mc)) R Q base p y i ma mn mc da dc D T P := by
  have hg : wr.grownBy (((wr.setCell ⟨R, 1, none⟩ (.int .i64 y)).setCell ⟨R, 2, none⟩ (.int .i64 i)).setCell ⟨R, 3, none⟩ (.slice ma mn mc)) (some R) := grown_trans (grown_trans (setj_grown _ _ _ _) (setj_grown _ _ _ _)) (setj_grown _ _ _ _)
  have hne := h.ne
  have h1 : ¬ Q = R := by omega
  have h2 : ¬ R = Q := by omega
  refine ⟨?_, ?_, ?_, ?_, ?_, ?_, ?_, ?_, fun j => ?_, grown_keep hg h.q0 h1, grown_keep hg h.q1 h1, grown_keep hg h.q2 h1, grown_keep hg h.q3 h1, grown_keep hg h.q4 h1, grown_keep hg h.q5 h1, grown_keep hg h.q6 h1, grown_keep hg h.q7 h1, fun j => ?_, h.ne, Nat.lt_of_lt_of_le h.lt hg.size, h.tab.kept hg (fun q hq e => by cases e; exact Nat.lt_irrefl _ (h.far _ hq)), h.far, h.back.kept hg, h.ext.grown hg (fun k e => by cases e; have := h.new; omega), h.new, Nat.le_trans h.bs hg.size⟩
  · have := h.c0; simp [go_sem, this]
  · have := h.c1; simp [go_sem, this]
  · have := h.c2; simp [go_sem, this]
  · have := h.c3; simp [go_sem, this]
  · have := h.c4; simp [go_sem, this]
  · have := h.c5; simp [go_sem, this]
  · have := h.c6; simp [go_sem, this]
  · have := h.c7; simp [go_sem, this]
  · have := h.fr j; simp [go_sem, this]
  · have := h.fq j; simp [go_sem, this]
theorem RwAt.setBack {w wr w6 : World} {R Q base : Nat} {p ny ni : Int} {na : Option Addr} {nn nc : Nat} {da : Option Addr} {dc : Nat} {D : List Wb.Sl} {T : Value} {P : List Pd} (h : RwAt w wr R Q base p ny ni na nn nc da dc D T P)
    {s : Wb.Sl} {ea : Option Addr} {ec : Nat} (hg : wr.grownBy w6 (Value.slice da D.length dc).ownBlock) (hs : SlR base w6 (.slice ea (D.length + 1) ec) (D ++ [s])) (hfar : s.l ≠ [] → ∀ q, s.v.ownBlock = some q → R < q) (hT : ∀ q, T.ownBlock = some q → (Value.slice da D.length dc).ownBlock ≠ some q) :
    RwAt w (w6.setCell ⟨R, 4, none⟩ (.slice ea (D.length + 1) ec)) R Q base p ny ni na nn nc ea ec (D ++ [s]) T P := by
  have hne := h.ne
  have h1 : ¬ Q = R := by omega
  have hlo := h.back.row.1.lt
  have hb := h.back.lt
  have far : ∀ b o, b ≤ R → ∀ v, wr.cell? ⟨b, o, none⟩ = some v → w6.cell? ⟨b, o, none⟩ = some v := fun b o hbr v hc => by
    rw [hg.cell_far ⟨b, o, none⟩ (Wb.cell_size hc) (fun e => by have := (hlo b e.symm).1; omega)]; exact hc
  have farf : ∀ b o, b ≤ R → b < wr.heap.size → wr.frozen? ⟨b, o, none⟩ = false → w6.frozen? ⟨b, o, none⟩ = false := fun b o hbr hl hc => by
    have hbk : w6.heap[b]? = wr.heap[b]? := hg.block b hl (fun e => by have := (hlo _ e.symm).1; omega)
    simp only [World.frozen?, hbk] at hc ⊢; exact hc
  have hg2 : w6.grownBy (w6.setCell ⟨R, 4, none⟩ (.slice ea (D.length + 1) ec)) (some R) := setj_grown _ _ _ _
  have hlt6 : R < w6.heap.size := Nat.lt_of_lt_of_le h.lt hg.size
  have hQR : Q ≤ R := by omega
  refine ⟨?_, ?_, ?_, ?_, ?_, ?_, ?_, ?_, fun j => ?_, grown_keep hg2 (far _ _ hQR _ h.q0) h1, grown_keep hg2 (far _ _ hQR _ h.q1) h1, grown_keep hg2 (far _ _ hQR _ h.q2) h1, grown_keep hg2 (far _ _ hQR _ h.q3) h1, grown_keep hg2 (far _ _ hQR _ h.q4) h1, grown_keep hg2 (far _ _ hQR _ h.q5) h1, grown_keep hg2 (far _ _ hQR _ h.q6) h1, grown_keep hg2 (far _ _ hQR _ h.q7) h1, fun j => ?_, h.ne, Nat.lt_of_lt_of_le hlt6 hg2.size, (h.tab.kept hg (fun q hq e => hT q hq e)).kept hg2 (fun q hq e => by cases e; exact Nat.lt_irrefl _ (h.far _ hq)), h.far, ?_, (h.ext.grown hg (fun k e => by have := (hlo k e).1; have := h.new; omega)).grown hg2 (fun k e => by cases e; have := h.new; omega), h.new, Nat.le_trans (Nat.le_trans h.bs hg.size) hg2.size⟩
  · have := far _ _ (Nat.le_refl _) _ h.c0; simp [go_sem, this]
  · have := far _ _ (Nat.le_refl _) _ h.c1; simp [go_sem, this]
  · have := far _ _ (Nat.le_refl _) _ h.c2; simp [go_sem, this]
  · have := far _ _ (Nat.le_refl _) _ h.c3; simp [go_sem, this]
  · have := far _ _ (Nat.le_refl _) _ h.c4; simp [go_sem, this]
  · have := far _ _ (Nat.le_refl _) _ h.c5; simp [go_sem, this]
  · have := far _ _ (Nat.le_refl _) _ h.c6; simp [go_sem, this]
  · have := far _ _ (Nat.le_refl _) _ h.c7; simp [go_sem, this]
  · have := farf R j (Nat.le_refl _) h.lt (h.fr j); simp [go_sem, this]
  · have := farf Q j hQR (by have := h.lt; omega) (h.fq j); simp [go_sem, this]
  · refine SlQ.kept ⟨by rw [List.length_append]; exact hs, h.back.lt, fun t ht hl q hq => ?_⟩ hg2
    rcases List.mem_append.1 ht with ht | ht
    · exact h.back.far t ht hl q hq
    · simp at ht; subst ht; exact hfar hl q hq
theorem RwAt.back4 {w wr w5 w6 : World} {R Q base : Nat} {p ny ni : Int} {na : Option Addr} {nn nc : Nat} {da : Option Addr} {dc : Nat} {D : List Wb.Sl} {T : Value} {P : List Pd} (h : RwAt w wr R Q base p ny ni na nn nc da dc D T P) (k : Wb.Ext wr w5) (hg : w5.grownBy w6 (Value.slice da D.length dc).ownBlock) :
    w6.cell? ⟨R, 4, none⟩ = some (.slice da D.length dc) ∧ ∀ j, w6.frozen? ⟨R, j, none⟩ = false := by
  have hlo := h.back.row.1.lt
  have hb := h.back.lt
  refine ⟨?_, fun j => ?_⟩
  · have hc := k.keep h.c4
    rw [hg.cell_far ⟨R, 4, none⟩ (Wb.cell_size hc) (fun e => by have := (hlo R e.symm).1; omega)]; exact hc
  · have hl : R < w5.heap.size := Nat.lt_of_lt_of_le h.lt k.size
    have hf : w5.frozen? ⟨R, j, none⟩ = false := (k.cells.2 _ _ h.lt).trans (h.fr j)
    have hbk : w6.heap[R]? = w5.heap[R]? := hg.block R hl (fun e => by have := (hlo R e.symm).1; omega)
    simp only [World.frozen?, hbk] at hf ⊢; exact hf
namespace Wb
end Wb
theorem nowS_per (B : List Wb.Sl) (p : Int × Int) : (nowS p (Wb.findS B p)).y = p.1 ∧ (nowS p (Wb.findS B p)).i = p.2 := by
  rcases hf : Wb.findS B p with _ | s
  · exact ⟨rfl, rfl⟩
  · have := (Wb.find_mem hf).2
    rw [← this]; exact ⟨rfl, rfl⟩
def nowK (ps : List (Int × Int)) (q : Int × Int) (k : Nat) (B : List Wb.Sl) : Wb.Sl := if q ∈ ps.take k then nowS q (Wb.findS B q) else empS q
theorem take_snoc {α : Type} {l : List α} {k : Nat} {x : α} (h : l[k]? = some x) : l.take (k + 1) = l.take k ++ [x] := by
  obtain ⟨h1, h2⟩ := List.getElem?_eq_some_iff.1 h
  rw [← h2]; exact List.take_succ_eq_append_getElem h1
theorem nowK_hit {ps : List (Int × Int)} {q : Int × Int} {k : Nat} {B : List Wb.Sl} (h : ps[k]? = some q) : nowK ps q (k + 1) B = nowS q (Wb.findS B q) := by
  unfold nowK; rw [take_snoc h, if_pos (by simp)]
theorem nowK_miss {ps : List (Int × Int)} {p q : Int × Int} {k : Nat} {B : List Wb.Sl} (h : ps[k]? = some p) (hne : p ≠ q) : nowK ps q (k + 1) B = nowK ps q k B := by
  unfold nowK; rw [take_snoc h]
  by_cases hm : q ∈ ps.take k
  · rw [if_pos (by simp [hm]), if_pos hm]
  · rw [if_neg (by simp [hm]; exact fun e => hne e.symm), if_neg hm]
theorem nowK_end {ps : List (Int × Int)} {q : Int × Int} {k : Nat} {A B : List Wb.Sl} (hk : ps.length ≤ k) (h : Wb.PerOf A B ps) : nowK ps q k B = nowS q (Wb.findS B q) := by
  unfold nowK
  rw [List.take_of_length_le hk]
  by_cases hm : q ∈ ps
  · rw [if_pos hm]
  · rw [if_neg hm, Wb.find_not (fun hb => hm ((h.2 q).2 (.inr hb)))]; rfl
theorem of_len {y i y' i' Y I : Int} {a b r : List Wb.Ln} (h : Wb.IsOf y i a y' i' b 0 Y I r) : r.length ≤ 2000 := Nat.le_trans (Wb.of_ok h).few (by decide)
set_option maxHeartbeats 8000000 in
theorem row31_any (p y i owed : Int) (va vb : Value) (A B : List Wb.Sl) (w : World) (hA : Sls w va A) (hB : Sls w vb B) (ra : Wb.RiseP A) (rb : Wb.RiseP B) (ca : ∀ s ∈ A, Wb.check s.y s.i s.l = 0) (cb : ∀ s ∈ B, Wb.check s.y s.i s.l = 0) (hla : A.length ≤ 10000) (hlb : B.length ≤ 10000) (ho : 0 ≤ owed ∧ owed ≤ 1125899906842624) :
    Calls Tryz.prog 22 #[.int .u32 p, .int .i64 y, .int .i64 i, va, vb, .int .i64 owed] w fun e w' => ∃ r : RwM, e = .returned (.tuple #[rwv r, .int .i64 (Wb.rowG p (y, i) A B owed).2]) ∧ (∃ a n c a' n' c', r.now.v = .slice a n c ∧ r.bv = .slice a' n' c') ∧ ((Wb.rowG p (y, i) A B owed).2 = 0 → r.c = (Wb.rowG p (y, i) A B owed).1 ∧ RwIs w' r ∧ ∀ (F : Nat → Prop) w2, Kept F w' w2 → (∀ k, w.heap.size ≤ k → F k) → (∀ s ∈ B, LnsC w2 s.v s.l) → RwIs w2 r) ∧ Wb.Ext w w' := by
  obtain ⟨aa, ac, rfl⟩ := hA.1.shape
  obtain ⟨ba, bc, rfl⟩ := hB.1.shape
  have HA := Lib.hid hA
  have HB := Lib.hid hB
  have HRA := Lib.hid ra
  have HRB := Lib.hid rb
  have HCA := Lib.hid ca
  have HCB := Lib.hid cb
  have HOK := Lib.hid (show ∀ p, Wb.hasP A p ∨ Wb.hasP B p → kPr.ok p from fun p hp => by
    rcases hp with ⟨s, hs, rfl⟩ | ⟨s, hs, rfl⟩
    · exact prOk_check (ca s hs)
    · exact prOk_check (cb s hs))
  have HOW := Lib.hid (show Wb.rightC owed = true by simp [Wb.rightC, ho])
  have HIN := Lib.hid (info_parts infoSlip)
  clear hA hB ra rb ca cb ho
  obtain ⟨ps, hps⟩ : ∃ ps, Wb.persP A B = ps := ⟨_, rfl⟩
  have HPS := Lib.hid hps
  have hpl : ps.length ≤ A.length + B.length := by
    have := Wb.heads_len (A ++ B)
    rw [← hps]; unfold Wb.persP; rw [List.length_append] at this; exact this
  clear hps
  obtain ⟨FR, hFR⟩ : ∃ FR, Wb.rowG p (y, i) A B owed = FR := ⟨_, rfl⟩
  have HFR := Lib.hid hFR
  rw [hFR]
  clear hFR
  go_enter Tryz.func22, Tryz.ntmps22
  go_upto_region 2 with (fail)
  refine Wb.wp_at fun W1 hW1 => ?_
  obtain ⟨Q, hQ⟩ : ∃ Q, w.heap.size = Q := ⟨_, rfl⟩
  have HX1 := Lib.hid (show Wb.Ext w W1 by rw [hW1]; (repeat' (first | (with_reducible assumption) | (with_reducible exact Wb.Ext.refl _) | (with_reducible refine Wb.Ext.drew ?_) | (with_reducible refine Wb.Ext.drewN ?_ _) | (with_reducible refine Wb.Ext.alloc ?_ _) | (with_reducible refine Wb.ext_set ?_ (by first | assumption | (simp; done) | (simp; omega) | omega) _) | (with_reducible refine Wb.Ext.trans ?_ (by assumption)))))
  have HAT := Lib.hid (show RwAt w W1 (Q + 1) Q (Q + 2) p y i none 0 0 none 0 [] (.slice none 0 0) [] from
    ⟨by rw [hW1, ← hQ]; simp [go_sem], by rw [hW1, ← hQ]; simp [go_sem], by rw [hW1, ← hQ]; simp [go_sem], by rw [hW1, ← hQ]; simp [go_sem], by rw [hW1, ← hQ]; simp [go_sem], by rw [hW1, ← hQ]; simp [go_sem], by rw [hW1, ← hQ]; simp [go_sem], by rw [hW1, ← hQ]; simp [go_sem], fun j => by rw [hW1, ← hQ]; simp [go_sem],
     by rw [hW1, ← hQ]; simp [go_sem], by rw [hW1, ← hQ]; simp [go_sem], by rw [hW1, ← hQ]; simp [go_sem], by rw [hW1, ← hQ]; simp [go_sem], by rw [hW1, ← hQ]; simp [go_sem], by rw [hW1, ← hQ]; simp [go_sem], by rw [hW1, ← hQ]; simp [go_sem], by rw [hW1, ← hQ]; simp [go_sem], fun j => by rw [hW1, ← hQ]; simp [go_sem],
     by omega, by rw [hW1, ← hQ]; simp, Tbl.nil, (fun q hq => by cases hq), ⟨SlR.nil, by omega, (fun s hs => by cases hs)⟩, HX1.out, by omega, by rw [hW1, ← hQ]; simp⟩)
  have hQ1 : w.heap.size + 1 = Q + 1 := by omega
  have hs1 : W1.heap.size = Q + 2 := by rw [hW1, ← hQ]; simp
  rw [hQ]
  clear hW1 hQ1
  go_wp2_with fail
  go_fit (pairs_any _ _ A B _ (HA.out.ext HX1.out) (HB.out.ext HX1.out) HRA.out HRB.out HOK.out hla hlb); rintro e w2 ⟨T, rfl, hT, hTB, hx2⟩
  rw [HPS.out] at hT
  have HFAR := Lib.hid (show ∀ q, T.ownBlock = some q → Q + 1 < q from fun q hq => by have := hTB q hq; omega)
  obtain ⟨base, hbase⟩ : ∃ b, w2.heap.size = b := ⟨_, rfl⟩
  have HAT2 := Lib.hid (show RwAt w w2 (Q + 1) Q base p y i none 0 0 none 0 [] T (ps.map (pdOf A B)) from by
    have h := HAT.out.later hx2
    exact ⟨h.c0, h.c1, h.c2, h.c3, h.c4, h.c5, h.c6, h.c7, h.fr, h.q0, h.q1, h.q2, h.q3, h.q4, h.q5, h.q6, h.q7, h.fq, h.ne, h.lt, hT, HFAR.out, ⟨SlR.nil, by have := h.lt; omega, (fun s hs => by cases hs)⟩, h.ext, h.new, by omega⟩)
  obtain ⟨Ta, Tc, hTv⟩ := hT.shape
  have hTlen : (ps.map (pdOf A B)).length = ps.length := by simp
  rw [hTlen] at hTv
  have HBASE := Lib.hid (show ps ≠ [] → ∀ q, T.ownBlock = some q → q < base from fun hne q hq => by
    rw [← hbase]
    rcases hT with ⟨h9, _⟩ | ⟨b9, o9, c9, e9, hc9⟩
    · exact absurd (by simpa using h9) hne
    · obtain ⟨x, r, hxr⟩ : ∃ x r, ps = x :: r := by
        rcases ps with _ | ⟨x, r⟩
        · exact absurd rfl hne
        · exact ⟨x, r, rfl⟩
      have := Wb.cell_size (hc9 0 (pdOf A B x) (by rw [hxr]; rfl) 0 _ rfl)
      rw [e9] at hq
      injection hq with hq
      simp only at hq
      omega)
  subst hTv
  have HNW0 := Lib.hid (show nowK ps (y, i) 0 B = ⟨y, i, .slice none 0 0, []⟩ by unfold nowK; rw [if_neg (by simp)]; rfl)
  clear HAT HX1 hT hTB hx2 hs1 hbase hTlen
  go_wp2_with fail
  go_loopw [32] (fun iv wr => ∃ (k : Nat) (na : Option Addr) (nn nc : Nat) (da : Option Addr) (dc : Nat) (D : List Wb.Sl), k ≤ ps.length ∧ iv = .int .i64 k ∧ Hid ((nowK ps (y, i) k B).v = .slice na nn nc) ∧ D.length ≤ k ∧ Hid (∀ s ∈ D, s.l.length ≤ 2000) ∧ Hid (RwAt w wr (Q + 1) Q base p (nowK ps (y, i) k B).y (nowK ps (y, i) k B).i na nn nc da dc D (.slice Ta ps.length Tc) (ps.map (pdOf A B))) ∧ Hid (Wb.backG A B (y, i) [] ps = Wb.backG A B (y, i) (D.map Wb.ct) (ps.drop k))) (fun iv _ => ps.length - (intOf iv).toNat)
  case atStart => exact ⟨0, none, 0, 0, none, 0, [], Nat.zero_le _, rfl, Lib.hid (by rw [HNW0.out]), Nat.zero_le _, Lib.hid (fun s hs => by cases hs), Lib.hid (by rw [HNW0.out]; exact HAT2.out), Lib.hid rfl⟩
  case round =>
    clear HAT2
    obtain ⟨k, na, nn, nc, da, dc, D, hk, rfl, HNV, hDk, HDF, HAT, HBK⟩ := hrel
    obtain ⟨wO, hwz⟩ : ∃ z, z = wr := ⟨_, rfl⟩
    subst hwz
    by_cases hlt : k < ps.length
    · obtain ⟨p', hp⟩ := Wb.get_ex hlt
      have hpne : ps ≠ [] := by rintro rfl; simp at hp
      have HTB := Lib.hid (HBASE.out hpne)
      have hpm := List.mem_of_getElem? hp
      have HPO := Lib.hid (((Wb.persP_of A B).2 p').1 (HPS.out ▸ hpm))
      obtain ⟨s, hs⟩ : ∃ s, wasS (Wb.findS A p') = s := ⟨_, rfl⟩
      obtain ⟨t, ht⟩ : ∃ t, nowS p' (Wb.findS B p') = t := ⟨_, rfl⟩
      have hsl : LnsC w s.v s.l ∧ Sized s.l := by
        rw [← hs]
        rcases hf : Wb.findS A p' with _ | s9
        · exact ⟨⟨.inl ⟨rfl, _, _, rfl⟩, Nat.le_refl _⟩, by unfold Sized; exact ⟨by simp [wasS], (fun x hx => by cases hx)⟩⟩
        · exact HA.out.2 s9 (Wb.find_mem hf).1
      have htl : LnsC w t.v t.l ∧ Sized t.l := by
        rw [← ht]
        rcases hf : Wb.findS B p' with _ | s9
        · exact ⟨⟨.inl ⟨rfl, _, _, rfl⟩, Nat.le_refl _⟩, by unfold Sized; exact ⟨by simp [nowS, empS], (fun x hx => by cases hx)⟩⟩
        · exact HB.out.2 s9 (Wb.find_mem hf).1
      have htp : t.y = p'.1 ∧ t.i = p'.2 := by rw [← ht]; exact nowS_per B p'
      obtain ⟨sa, sc, hsv⟩ := hsl.1.1.shape
      obtain ⟨ta, tc, htv⟩ := htl.1.1.shape
      have HSL := Lib.hid (show Lns w (.slice sa s.l.length sc) s.l ∧ Sized s.l by rw [← hsv]; exact ⟨hsl.1.1, hsl.2⟩)
      have HTL := Lib.hid (show Lns w (.slice ta t.l.length tc) t.l ∧ Sized t.l by rw [← htv]; exact ⟨htl.1.1, htl.2⟩)
      have HSV := Lib.hid hsv
      have HTV := Lib.hid htv
      have HS := Lib.hid hs
      have HT := Lib.hid ht
      have HP := Lib.hid hp
      have HDR := Lib.hid (drop_at hp)
      have hki : (k : Int) < ps.length := by omega
      obtain ⟨b, off, hTa, hc⟩ := HAT.out.tab.opened (by simpa using hpne)
      have hpd : (ps.map (pdOf A B))[k]? = some (pdOf A B p') := by simp [hp]
      have hpc : pdc (pdOf A B p') = [.int .i64 s.y, .int .i64 s.i, .slice sa s.l.length sc, .int .i64 t.y, .int .i64 t.i, .slice ta t.l.length tc] := by rw [pdc, pdOf, hs, ht, hsv, htv]
      have c0 := hc k _ hpd 0 (.int .i64 s.y) (by rw [hpc]; rfl)
      have c1 := hc k _ hpd 1 (.int .i64 s.i) (by rw [hpc]; rfl)
      have c2 := hc k _ hpd 2 (.slice sa s.l.length sc) (by rw [hpc]; rfl)
      have c3 := hc k _ hpd 3 (.int .i64 t.y) (by rw [hpc]; rfl)
      have c4 := hc k _ hpd 4 (.int .i64 t.i) (by rw [hpc]; rfl)
      have c5 := hc k _ hpd 5 (.slice ta t.l.length tc) (by rw [hpc]; rfl)
      rw [Nat.add_zero] at c0
      obtain rfl : Ta = some ⟨b, off, none⟩ := by
        have := hTa
        first | exact this | (injection this)
      have HTP := Lib.hid htp
      clear hp hpm hs ht hsv htv hsl htl hc hpd hpc hTa hpne htp
      go_upto_region 5 with (fail)
      refine Wb.wp_at fun W0 hW0 => ?_
      obtain ⟨X, hX⟩ : ∃ X, wO.heap.size = X := ⟨_, rfl⟩
      have hb0 : Wb.Ext wO W0 := by rw [hW0]; (repeat' (first | (with_reducible assumption) | (with_reducible exact Wb.Ext.refl _) | (with_reducible refine Wb.Ext.drew ?_) | (with_reducible refine Wb.Ext.drewN ?_ _) | (with_reducible refine Wb.Ext.alloc ?_ _) | (with_reducible refine Wb.ext_set ?_ (by first | assumption | (simp; done) | (simp; omega) | omega) _) | (with_reducible refine Wb.Ext.trans ?_ (by assumption))))
      have x0 : W0.cell? ⟨X, 0, none⟩ = some (.int .i64 s.y) := by rw [hW0, ← hX]; simp [go_sem]
      have x1 : W0.cell? ⟨X, 1, none⟩ = some (.int .i64 s.i) := by rw [hW0, ← hX]; simp [go_sem]
      have x2 : W0.cell? ⟨X, 2, none⟩ = some (.slice sa s.l.length sc) := by rw [hW0, ← hX]; simp [go_sem]
      have x3 : W0.cell? ⟨X, 3, none⟩ = some (.int .i64 t.y) := by rw [hW0, ← hX]; simp [go_sem]
      have x4 : W0.cell? ⟨X, 4, none⟩ = some (.int .i64 t.i) := by rw [hW0, ← hX]; simp [go_sem]
      have x5 : W0.cell? ⟨X, 5, none⟩ = some (.slice ta t.l.length tc) := by rw [hW0, ← hX]; simp [go_sem]
      have HAT0 := Lib.hid (HAT.out.later hb0)
      rw [hX]
      clear hW0 hX c0 c1 c2 c3 c4 c5 hb0 HAT
      by_cases hown : t.y = y ∧ t.i = i
      · obtain ⟨hty, hti⟩ := hown
        have e1 : (t.y == y) = true := by simp [hty]
        have e2 : (t.i == i) = true := by simp [hti]
        have hpq : p' = (y, i) := Prod.ext (HTP.out.1.symm.trans hty) (HTP.out.2.symm.trans hti)
        have HNX := Lib.hid (show nowK ps (y, i) (k + 1) B = t by rw [nowK_hit (hpq ▸ HP.out), ← HT.out, hpq])
        have HBN := Lib.hid (show Wb.backG A B (y, i) [] ps = Wb.backG A B (y, i) (D.map Wb.ct) (ps.drop (k + 1)) by rw [HBK.out, HDR.out, hpq, Wb.back_own])
        have HATN := Lib.hid (HAT0.out.setNow t.y t.i ta t.l.length tc)
        have r1 := HAT0.out.c1
        have r2 := HAT0.out.c2
        have r3 := HAT0.out.c3
        have rf := HAT0.out.fr
        clear hty hti hpq
        go_wp2
        go_roundw
        case rel => exact ⟨k + 1, ta, t.l.length, tc, da, dc, D, by omega, by go_num, Lib.hid (by rw [HNX.out]; exact HTV.out), by omega, HDF, Lib.hid (by rw [HNX.out]; exact HATN.out), HBN⟩
        case measure => first | (simp [intOf]; done) | (simp [intOf]; omega)
      have hpq : p' ≠ (y, i) := fun e => hown ⟨by rw [HTP.out.1, e], by rw [HTP.out.2, e]⟩
      have HPQ := Lib.hid hpq
      have HNX := Lib.hid (show nowK ps (y, i) (k + 1) B = nowK ps (y, i) k B from nowK_miss HP.out hpq)
      clear hpq
      go_cut [47] (fun v wx => v = .bool false ∧ W0 = wx)
      case first =>
        by_cases hty : t.y = y
        · have hti : ¬ t.i = i := fun e => hown ⟨hty, e⟩
          have e1 : (t.y == y) = true := by simp [hty]
          have e2 : (t.i == i) = false := by simp [hti]
          clear hty hti hown
          go_wp2_with fail
          go_meet
          exact ⟨rfl, rfl⟩
        · have e1 : (t.y == y) = false := by simp [hty]
          clear hty hown
          go_wp2_with fail
          go_meet
          exact ⟨rfl, rfl⟩
      case rest =>
        obtain ⟨rfl, rfl⟩ := hcut
        clear hown
        go_wp2_with fail
        go_fit (dof_any s.y s.i _ s.l t.y t.i _ t.l _ (HSL.out.1.ext HAT0.out.ext) HSL.out.2 (HTL.out.1.ext HAT0.out.ext) HTL.out.2)
        rintro e w3 ⟨Y, I, m, E, rfl, r, hO⟩
        obtain ⟨ma, mc, rfl⟩ := hO.lns.1.shape
        have HOF := Lib.hid hO.of
        have HLN := Lib.hid hO.lns
        have hb3 := hO.ext
        have HNW : Hid (∀ q, (Value.slice ma r.length mc).ownBlock = some q → W0.heap.size ≤ q) := Lib.hid (fun q hq => hO.new q hq)
        have HBS : Hid (r ≠ [] → ∀ q, (Value.slice ma r.length mc).ownBlock = some q → q < w3.heap.size) := Lib.hid (lns_size hO.lns)
        have HOC := Lib.hid (show Wb.ofC (Wb.conO (Wb.findS A p')) (Wb.nowO p' (Wb.findS B p')) = (E, Y, I, r) by
          have h9 := Wb.of_eq hO.of
          rw [← ct_was, ← ct_now, HS.out, HT.out]; exact h9)
        have HAT3 := Lib.hid (HAT0.out.later hb3)
        have hs3 := hb3.size
        clear hO hb3 x0 x1 x2 x3 x4 x5
        obtain ⟨W0s, hW0s⟩ : ∃ n, W0.heap.size = n := ⟨_, rfl⟩
        rw [hW0s] at hs3 HNW
        have HW0L := Lib.hid (show Q + 1 < W0s by rw [← hW0s]; exact HAT0.out.lt)
        have HDL := Lib.hid (show ∀ q, (Value.slice da D.length dc).ownBlock = some q → q < W0s from fun q hq => by rw [← hW0s]; exact (HAT0.out.back.row.1.lt q hq).2)
        clear hW0s HAT0
        go_upto_region 8 with (fail)
        refine Wb.wp_at fun W4 hW4 => ?_
        obtain ⟨Z, hZ⟩ : ∃ Z, w3.heap.size = Z := ⟨_, rfl⟩
        have hb4 : Wb.Ext w3 W4 := by rw [hW4]; (repeat' (first | (with_reducible assumption) | (with_reducible exact Wb.Ext.refl _) | (with_reducible refine Wb.Ext.drew ?_) | (with_reducible refine Wb.Ext.drewN ?_ _) | (with_reducible refine Wb.Ext.alloc ?_ _) | (with_reducible refine Wb.ext_set ?_ (by first | assumption | (simp; done) | (simp; omega) | omega) _) | (with_reducible refine Wb.Ext.trans ?_ (by assumption))))
        have z0 : W4.cell? ⟨Z, 0, none⟩ = some (.int .i64 Y) := by rw [hW4, ← hZ]; simp [go_sem]
        have z1 : W4.cell? ⟨Z, 1, none⟩ = some (.int .i64 I) := by rw [hW4, ← hZ]; simp [go_sem]
        have z2 : W4.cell? ⟨Z, 2, none⟩ = some (.slice ma r.length mc) := by rw [hW4, ← hZ]; simp [go_sem]
        have HAT4 := Lib.hid (HAT3.out.later hb4)
        have HLN4 := Lib.hid (HLN.out.ext hb4)
        have hs4 := hb4.size
        have HBS4 : Hid (r ≠ [] → ∀ q, (Value.slice ma r.length mc).ownBlock = some q → q < W4.heap.size) := Lib.hid (fun h q hq => by have := HBS.out h q hq; omega)
        rw [hZ]
        clear hW4 hZ hb4 HAT3 HBS HLN
        by_cases he : E = 0
        case neg =>
          have dd : (E == 0) = false := by simpa using he
          have dd2 : (E != 0) = true := by simpa using he
          have HF := Lib.hid (show FR = (Wb.noRw, E) by
            have h9 : Wb.backG A B (y, i) [] ps = (E, []) := by rw [HBK.out, HDR.out]; exact Wb.back_bad HPQ.out HOC.out he
            rw [← HFR.out, Wb.rowG, HPS.out, h9, if_pos he])
          clear z0 z1 z2
          go_upto_region 9 with (fail)
          refine Wb.wp_at fun W9 hW9 => ?_
          have HA9 := Lib.hid (show RwAt w W9 (Q + 1) Q base p (nowK ps (y, i) k B).y (nowK ps (y, i) k B).i na nn nc da dc D (.slice (some ⟨b, off, none⟩) ps.length Tc) (ps.map (pdOf A B)) by rw [hW9]; exact HAT4.out.later (by first | exact .refl _ | (repeat' (first | (with_reducible assumption) | (with_reducible exact Wb.Ext.refl _) | (with_reducible refine Wb.Ext.drew ?_) | (with_reducible refine Wb.Ext.drewN ?_ _) | (with_reducible refine Wb.Ext.alloc ?_ _) | (with_reducible refine Wb.ext_set ?_ (by first | assumption | (simp; done) | (simp; omega) | omega) _) | (with_reducible refine Wb.Ext.trans ?_ (by assumption))))))
          clear hW9
          have r0 := HA9.out.q0
          have r1 := HA9.out.q1
          have r2 := HA9.out.q2
          have r3 := HA9.out.q3
          have r4 := HA9.out.q4
          have r5 := HA9.out.q5
          have r6 := HA9.out.q6
          have r7 := HA9.out.q7
          have rf := HA9.out.fq
          have hx9 := HA9.out.ext
          have hnw := HA9.out.new
          go_wp2
          refine bodyPost_ret (v := .tuple #[rwv ⟨0, ⟨0, 0, .slice none 0 0, []⟩, .slice none 0 0, [], 0, 0, 0⟩, .int .i64 E]) (by simp [results, Tryz.results22, go_sem, rwv, r0, r1, r2, r3, r4, r5, r6, r7]) rfl ⟨_, by rw [HF.out], ⟨_, _, _, _, _, _, rfl, rfl⟩, fun h => absurd (by rw [HF.out] at h; exact h) he, by (repeat' (first | (with_reducible assumption) | (with_reducible exact Wb.Ext.refl _) | (with_reducible refine Wb.Ext.drew ?_) | (with_reducible refine Wb.Ext.drewN ?_ _) | (with_reducible refine Wb.Ext.alloc ?_ _) | (with_reducible refine Wb.ext_set ?_ (by first | assumption | (simp; done) | (simp; omega) | omega) _) | (with_reducible refine Wb.Ext.trans ?_ (by assumption))))⟩
        subst he
        have HSZ := Lib.hid (of_sized9 HOF.out rfl)
        go_wp2_with fail
        go_fit (dzero_any Y I _ r _ HLN4.out.1); rintro e w5 ⟨rfl, hb5⟩
        have z0 := hb5.keep z0
        have z1 := hb5.keep z1
        have z2 := hb5.keep z2
        have HAT5 := Lib.hid (HAT4.out.later hb5)
        have HLN5 := Lib.hid (HLN4.out.ext hb5)
        have hs5 := hb5.size
        have HBS5 : Hid (r ≠ [] → ∀ q, (Value.slice ma r.length mc).ownBlock = some q → q < w5.heap.size) := Lib.hid (fun h q hq => by have := HBS4.out h q hq; omega)
        clear hb5 HAT4 HLN4 HBS4
        by_cases hz : r = []
        · have HBN := Lib.hid (show Wb.backG A B (y, i) [] ps = Wb.backG A B (y, i) (D.map Wb.ct) (ps.drop (k + 1)) by rw [HBK.out, HDR.out]; exact Wb.back_zero HPQ.out HOC.out hz)
          have hemp : r.isEmpty = true := by simp [hz]
          rw [hemp]
          clear hz hemp
          go_wp2
          go_roundw
          case rel => exact ⟨k + 1, na, nn, nc, da, dc, D, by omega, by go_num, Lib.hid (by rw [HNX.out]; exact HNV.out), by omega, HDF, Lib.hid (by rw [HNX.out]; exact HAT5.out), HBN⟩
          case measure => first | (simp [intOf]; done) | (simp [intOf]; omega)
        have hemp : r.isEmpty = false := by simpa using hz
        rw [hemp]
        have HBN := Lib.hid (show Wb.backG A B (y, i) [] ps = Wb.backG A B (y, i) ((D ++ [(⟨Y, I, .slice ma r.length mc, r⟩ : Wb.Sl)]).map Wb.ct) (ps.drop (k + 1)) by rw [HBK.out, HDR.out, List.map_append]; exact Wb.back_more HPQ.out HOC.out hz)
        have HRL := Lib.hid (show r.length ≤ 2000 from of_len HOF.out)
        clear hz hemp
        have b4 := HAT5.out.c4
        have bf := HAT5.out.fr
        have hbs := HAT5.out.back.row
        obtain ⟨hi, hz0, hz1, hz2⟩ := HIN.out.choose_spec
        go_upto_region 11 with (fail)
        go_wp2_with (at_builtin; go_loud (refine wpList_append_row2 rfl (.tmp 67) (.tmp 69) 51 rfl base 50 _ slZ 3 40 Tryz.underlying51 hi hz0 hz1 hz2 rfl (by decide) _ _ _ rfl (row_ext3 hbs.1 ((Wb.Ext.refl _).alloc _)) _ rfl 1 (slc (⟨Y, I, .slice ma r.length mc, r⟩ : Wb.Sl)) ?c1 ?c2 ?c3 ?c4 ?c5 ?_))
        case c1 => exact src_lit _ _ (by simp) (slc (⟨Y, I, .slice ma r.length mc, r⟩ : Wb.Sl)) _ _
        case c2 => intro u hu; simp [slc] at hu; rcases hu with rfl | rfl | rfl <;> rfl
        case c3 => unfold maxLen; omega
        case c4 => omega
        case c5 => have := HAT5.out.bs; simp; omega
        intro u2 w6 hown2 hg2 hblk
        have hxa : Wb.Ext w5 (w5.alloc (.cells (slc (⟨Y, I, .slice ma r.length mc, r⟩ : Wb.Sl)).toArray 50)) := .alloc (.refl _) _
        obtain ⟨b46, bf6⟩ := HAT5.out.back4 hxa hg2
        have hbl := (HAT5.out.later hxa).back.row
        have hlo := HAT5.out.back.row.1.lt
        have HSL6 : Hid (SlR base w6 u2 (D ++ [(⟨Y, I, .slice ma r.length mc, r⟩ : Wb.Sl)])) := Lib.hid (SlR.append (s := ⟨Y, I, .slice ma r.length mc, r⟩) hbl hown2 hg2 (by have := hblk; simp at this ⊢; exact this) (HLN5.out.ext hxa) HSZ.out (fun hne q hq e => by have h1 := HNW.out q hq; have h2 := HDL.out q e; omega))
        have hu := HSL6.out.shape
        rw [List.length_append] at hu
        obtain ⟨ua, uc, rfl⟩ := hu
        have HATN := Lib.hid ((HAT5.out.later hxa).setBack (s := ⟨Y, I, .slice ma r.length mc, r⟩) hg2 HSL6.out (fun _ q hq => by have := HNW.out q hq; have := HW0L.out; omega) (fun q hq e => by have h1 := HTB.out q hq; have h2 := (hlo q e).1; omega))
        clear hi hz0 hz1 hz2 hg2 hown2 hblk hbl hlo hxa hbs b4 bf
        have hl1 : D.length + [(⟨Y, I, .slice ma r.length mc, r⟩ : Wb.Sl)].length = D.length + 1 := rfl
        rw [hl1]
        clear hl1
        go_wp2
        go_roundw
        case rel => exact ⟨k + 1, na, nn, nc, ua, uc, D ++ [⟨Y, I, .slice ma r.length mc, r⟩], by omega, by go_num, Lib.hid (by rw [HNX.out]; exact HNV.out), by simp; omega, Lib.hid (fun s hs => by
          rcases List.mem_append.1 hs with hs | hs
          · exact HDF.out s hs
          · simp at hs; subst hs; exact HRL.out), Lib.hid (by rw [HNX.out]; exact HATN.out), HBN⟩
        case measure => first | (simp [intOf]; done) | (simp [intOf]; omega)
    obtain rfl : k = ps.length := by omega
    have HNE := Lib.hid (show nowK ps (y, i) ps.length B = nowS (y, i) (Wb.findS B (y, i)) from nowK_end (Nat.le_refl _) (HPS.out ▸ Wb.persP_of A B))
    have HBE := Lib.hid (show Wb.backG A B (y, i) [] ps = (0, D.map Wb.ct) by rw [HBK.out, List.drop_length, Wb.backG])
    obtain ⟨N, hN⟩ : ∃ N, nowS (y, i) (Wb.findS B (y, i)) = N := ⟨_, rfl⟩
    have hNc : Wb.ct N = Wb.nowG B (y, i) := by rw [← hN, ct_now]; rfl
    have hNl : LnsC w N.v N.l ∧ Sized N.l ∧ N.l.length ≤ 2000 := by
      rw [← hN]
      rcases hf : Wb.findS B (y, i) with _ | s9
      · exact ⟨⟨.inl ⟨rfl, _, _, rfl⟩, Nat.le_refl _⟩, by unfold Sized; exact ⟨by simp [nowS, empS], (fun x hx => by cases hx)⟩, by simp [nowS, empS]⟩
      · have hm := (Wb.find_mem hf).1
        exact ⟨(HB.out.2 s9 hm).1, (HB.out.2 s9 hm).2, Nat.le_trans (Wb.check_small (HCB.out s9 hm)) (by decide)⟩
    have HNF := Lib.hid (show ∀ w2 : World, (∀ s ∈ B, LnsC w2 s.v s.l) → LnsC w2 N.v N.l from fun w2 h2 => by
      rw [← hN]
      rcases hf : Wb.findS B (y, i) with _ | s9
      · exact ⟨.inl ⟨rfl, _, _, rfl⟩, Nat.le_refl _⟩
      · exact h2 s9 (Wb.find_mem hf).1)
    have HNL := Lib.hid hNl
    have HNC := Lib.hid hNc
    rw [hN] at HNE
    rw [HNE.out] at HNV HAT
    have HNY := Lib.hid (show N.v = .slice na nn nc from HNV.out)
    clear hN hNc hNl hlt hk HNV HBK
    have hD : D.length ≤ 20000 := by omega
    obtain ⟨ny, hny⟩ : ∃ ny, N.y = ny := ⟨_, rfl⟩
    obtain ⟨ni, hni⟩ : ∃ ni, N.i = ni := ⟨_, rfl⟩
    have HNYI := Lib.hid (show N.y = ny ∧ N.i = ni from ⟨hny, hni⟩)
    rw [hny, hni] at HAT
    clear hny hni
    have HSLS := Lib.hid (show Sls wO (.slice da D.length dc) D from HAT.out.back.row.sls)
    have HLNN := Lib.hid (show Lns wO (.slice na nn nc) N.l by rw [← HNY.out]; exact HNL.out.1.1.ext HAT.out.ext)
    obtain ⟨⟨due, E⟩, hdue⟩ : ∃ q, Wb.dueG (ny, ni, N.l) (D.map Wb.ct) = q := ⟨_, rfl⟩
    have HDUE := Lib.hid hdue
    have HFD := Lib.hid (show FR = (if E ≠ 0 then (Wb.noRw, E) else (⟨p, Wb.ct N, D.map Wb.ct, due, (Wb.settleG owed due).2.1, (Wb.settleG owed due).1⟩, (Wb.settleG owed due).2.2)) by
      have e1 : Wb.nowG B (y, i) = (ny, ni, N.l) := by rw [← HNC.out, ← HNYI.out.1, ← HNYI.out.2]; rfl
      rw [← HFR.out, Wb.rowG, HPS.out, HBE.out]
      simp only [e1, hdue, ne_eq, not_true_eq_false, if_false]
      rw [show Wb.ct N = (ny, ni, N.l) by rw [HNC.out, e1]])
    clear hdue
    have c0 := HAT.out.c0
    have c1 := HAT.out.c1
    have c2 := HAT.out.c2
    have c3 := HAT.out.c3
    have c4 := HAT.out.c4
    have c5 := HAT.out.c5
    have c6 := HAT.out.c6
    have c7 := HAT.out.c7
    go_wp2_with fail
    go_fit (due_any p ny ni _ _ N.l D 0 0 0 _ HLNN.out HNL.out.2.1 HSLS.out (by omega)); rintro e w3 ⟨rfl, hb3⟩
    rw [HDUE.out]
    have HAT3 := Lib.hid (HAT.out.later hb3)
    clear c0 c1 c2 c3 c4 c5 c6 c7 hb3 HAT
    by_cases he : E = 0
    case neg =>
      have dd : (E == 0) = false := by simpa using he
      have dd2 : (E != 0) = true := by simpa using he
      have HF := Lib.hid (show FR = (Wb.noRw, E) by rw [HFD.out, if_pos he])
      go_upto_region 15 with (fail)
      refine Wb.wp_at fun W9 hW9 => ?_
      have HA9 := Lib.hid (show RwAt w W9 (Q + 1) Q base p ny ni na nn nc da dc D (.slice Ta ps.length Tc) (ps.map (pdOf A B)) by rw [hW9]; exact HAT3.out.later (by first | exact .refl _ | (repeat' (first | (with_reducible assumption) | (with_reducible exact Wb.Ext.refl _) | (with_reducible refine Wb.Ext.drew ?_) | (with_reducible refine Wb.Ext.drewN ?_ _) | (with_reducible refine Wb.Ext.alloc ?_ _) | (with_reducible refine Wb.ext_set ?_ (by first | assumption | (simp; done) | (simp; omega) | omega) _) | (with_reducible refine Wb.Ext.trans ?_ (by assumption))))))
      clear hW9
      have r0 := HA9.out.q0
      have r1 := HA9.out.q1
      have r2 := HA9.out.q2
      have r3 := HA9.out.q3
      have r4 := HA9.out.q4
      have r5 := HA9.out.q5
      have r6 := HA9.out.q6
      have r7 := HA9.out.q7
      have rf := HA9.out.fq
      have hx9 := HA9.out.ext
      have hnw := HA9.out.new
      go_wp2
      refine bodyPost_ret (v := .tuple #[rwv ⟨0, ⟨0, 0, .slice none 0 0, []⟩, .slice none 0 0, [], 0, 0, 0⟩, .int .i64 E]) (by simp [results, Tryz.results22, go_sem, rwv, r0, r1, r2, r3, r4, r5, r6, r7]) rfl ⟨_, by rw [HF.out], ⟨_, _, _, _, _, _, rfl, rfl⟩, fun h => absurd (by rw [HF.out] at h; exact h) he, by (repeat' (first | (with_reducible assumption) | (with_reducible exact Wb.Ext.refl _) | (with_reducible refine Wb.Ext.drew ?_) | (with_reducible refine Wb.Ext.drewN ?_ _) | (with_reducible refine Wb.Ext.alloc ?_ _) | (with_reducible refine Wb.ext_set ?_ (by first | assumption | (simp; done) | (simp; omega) | omega) _) | (with_reducible refine Wb.Ext.trans ?_ (by assumption))))⟩
    subst he
    obtain ⟨⟨o2, pd, E2⟩, hst⟩ : ∃ q, Wb.settleG owed due = q := ⟨_, rfl⟩
    have HST := Lib.hid hst
    have HF := Lib.hid (show FR = (⟨p, Wb.ct N, D.map Wb.ct, due, pd, o2⟩, E2) by
      have h9 := HFD.out
      rw [if_neg (show ¬ ((0 : Int) ≠ 0) by simp), hst] at h9
      exact h9)
    clear hst
    go_wp2_with fail
    go_fit (settle_any owed due (.inl HOW.out) _); rintro e w4 ⟨rfl, hb4⟩
    rw [HST.out]
    have HAT4 := Lib.hid (HAT3.out.later hb4)
    clear hb4 HAT3
    go_upto_region 17 with (fail)
    refine Wb.wp_at fun W5 hW5 => ?_
    obtain ⟨Z, hZ⟩ : ∃ Z, w4.heap.size = Z := ⟨_, rfl⟩
    have hb5 : Wb.Ext w4 W5 := by rw [hW5]; (repeat' (first | (with_reducible assumption) | (with_reducible exact Wb.Ext.refl _) | (with_reducible refine Wb.Ext.drew ?_) | (with_reducible refine Wb.Ext.drewN ?_ _) | (with_reducible refine Wb.Ext.alloc ?_ _) | (with_reducible refine Wb.ext_set ?_ (by first | assumption | (simp; done) | (simp; omega) | omega) _) | (with_reducible refine Wb.Ext.trans ?_ (by assumption))))
    have z0 : W5.cell? ⟨Z, 0, none⟩ = some (.int .i64 o2) := by rw [hW5, ← hZ]; simp [go_sem]
    have hZR : ¬ Z = Q + 1 := by have := HAT4.out.lt; omega
    have hRZ : ¬ Q + 1 = Z := fun e => hZR e.symm
    have HAT5 := Lib.hid (HAT4.out.later hb5)
    rw [hZ]
    clear hW5 hZ hb5 HAT4
    have c0 := HAT5.out.c0
    have c1 := HAT5.out.c1
    have c2 := HAT5.out.c2
    have c3 := HAT5.out.c3
    have c4 := HAT5.out.c4
    have c5 := HAT5.out.c5
    have c6 := HAT5.out.c6
    have c7 := HAT5.out.c7
    have cf := HAT5.out.fr
    have r0 := HAT5.out.q0
    have r1 := HAT5.out.q1
    have r2 := HAT5.out.q2
    have r3 := HAT5.out.q3
    have r4 := HAT5.out.q4
    have r5 := HAT5.out.q5
    have r6 := HAT5.out.q6
    have r7 := HAT5.out.q7
    have rf := HAT5.out.fq
    have hQR : ¬ Q = Q + 1 := by omega
    have hQR2 : ¬ Q + 1 = Q := by omega
    go_wp2_with fail
    go_region
    obtain ⟨W6, hW6⟩ : ∃ z, z = (((W5.setCell ⟨Q + 1, 5, none⟩ (.int .i64 due)).setCell ⟨Q + 1, 6, none⟩ (.int .i64 pd)).setCell ⟨Q + 1, 7, none⟩ (.int .i64 o2)).drew := ⟨_, rfl⟩
    rw [← hW6]
    have hnw := HAT5.out.new
    have d0 : W6.cell? ⟨Q + 1, 0, none⟩ = some (.int .u32 p) := by rw [hW6]; simp [go_sem, c0]
    have d1 : W6.cell? ⟨Q + 1, 1, none⟩ = some (.int .i64 ny) := by rw [hW6]; simp [go_sem, c1]
    have d2 : W6.cell? ⟨Q + 1, 2, none⟩ = some (.int .i64 ni) := by rw [hW6]; simp [go_sem, c2]
    have d3 : W6.cell? ⟨Q + 1, 3, none⟩ = some (.slice na nn nc) := by rw [hW6]; simp [go_sem, c3]
    have d4 : W6.cell? ⟨Q + 1, 4, none⟩ = some (.slice da D.length dc) := by rw [hW6]; simp [go_sem, c4]
    have d5 : W6.cell? ⟨Q + 1, 5, none⟩ = some (.int .i64 due) := by rw [hW6]; simp [go_sem, c5]
    have d6 : W6.cell? ⟨Q + 1, 6, none⟩ = some (.int .i64 pd) := by rw [hW6]; simp [go_sem, c6]
    have d7 : W6.cell? ⟨Q + 1, 7, none⟩ = some (.int .i64 o2) := by rw [hW6]; simp [go_sem, c7]
    have s0 : W6.cell? ⟨Q, 0, none⟩ = some (.int .u32 0) := by rw [hW6]; simp [go_sem, r0]
    have s1 : W6.cell? ⟨Q, 1, none⟩ = some (.int .i64 0) := by rw [hW6]; simp [go_sem, r1]
    have s2 : W6.cell? ⟨Q, 2, none⟩ = some (.int .i64 0) := by rw [hW6]; simp [go_sem, r2]
    have s3 : W6.cell? ⟨Q, 3, none⟩ = some (.slice none 0 0) := by rw [hW6]; simp [go_sem, r3]
    have s4 : W6.cell? ⟨Q, 4, none⟩ = some (.slice none 0 0) := by rw [hW6]; simp [go_sem, r4]
    have s5 : W6.cell? ⟨Q, 5, none⟩ = some (.int .i64 0) := by rw [hW6]; simp [go_sem, r5]
    have s6 : W6.cell? ⟨Q, 6, none⟩ = some (.int .i64 0) := by rw [hW6]; simp [go_sem, r6]
    have s7 : W6.cell? ⟨Q, 7, none⟩ = some (.int .i64 0) := by rw [hW6]; simp [go_sem, r7]
    have sf : ∀ j, W6.frozen? ⟨Q, j, none⟩ = false := fun j => by rw [hW6]; have := rf j; simp [go_sem, this]
    have HB6 := Lib.hid (show SlQ (Q + 1) base W6 (.slice da D.length dc) D by
      rw [hW6]
      exact ((((HAT5.out.back).set (Nat.le_refl _) _ _).set (Nat.le_refl _) _ _).set (Nat.le_refl _) _ _).ext (.drew (.refl _)))
    have hx5 := HAT5.out.ext
    have HX6 := Lib.hid (show Wb.Ext w W6 by rw [hW6]; (repeat' (first | (with_reducible assumption) | (with_reducible exact Wb.Ext.refl _) | (with_reducible refine Wb.Ext.drew ?_) | (with_reducible refine Wb.Ext.drewN ?_ _) | (with_reducible refine Wb.Ext.alloc ?_ _) | (with_reducible refine Wb.ext_set ?_ (by first | assumption | (simp; done) | (simp; omega) | omega) _) | (with_reducible refine Wb.Ext.trans ?_ (by assumption)))))
    clear hW6 c0 c1 c2 c3 c4 c5 c6 c7 cf r0 r1 r2 r3 r4 r5 r6 r7 rf z0 hx5
    have hx6 := HX6.out
    go_wp2
    refine bodyPost_ret (v := .tuple #[rwv ⟨p, ⟨ny, ni, .slice na nn nc, N.l⟩, .slice da D.length dc, D, due, pd, o2⟩, .int .i64 E2]) (by simp [results, Tryz.results22, go_sem, rwv, s0, s1, s2, s3, s4, s5, s6, s7]) rfl ⟨_, by rw [HF.out], ⟨_, _, _, _, _, _, rfl, rfl⟩, fun _ => ⟨?_, ?_, ?_⟩, by (repeat' (first | (with_reducible assumption) | (with_reducible exact Wb.Ext.refl _) | (with_reducible refine Wb.Ext.drew ?_) | (with_reducible refine Wb.Ext.drewN ?_ _) | (with_reducible refine Wb.Ext.alloc ?_ _) | (with_reducible refine Wb.ext_set ?_ (by first | assumption | (simp; done) | (simp; omega) | omega) _) | (with_reducible refine Wb.Ext.trans ?_ (by assumption))))⟩
    · rw [HF.out]
      show (⟨p, _, _, _, _, _⟩ : Wb.Rw) = ⟨p, _, _, _, _, _⟩
      rw [show Wb.ct (⟨ny, ni, .slice na nn nc, N.l⟩ : Wb.Sl) = Wb.ct N by rw [← HNYI.out.1, ← HNYI.out.2]; rfl]
    · have hb9 := (((((((((HB6.out).set (show Q ≤ Q + 1 by omega) 0 (.int .u32 p)).set (show Q ≤ Q + 1 by omega) 1 (.int .i64 ny)).set (show Q ≤ Q + 1 by omega) 2 (.int .i64 ni)).set (show Q ≤ Q + 1 by omega) 3 (.slice na nn nc)).set (show Q ≤ Q + 1 by omega) 4 (.slice da D.length dc)).set (show Q ≤ Q + 1 by omega) 5 (.int .i64 due)).set (show Q ≤ Q + 1 by omega) 6 (.int .i64 pd)).set (show Q ≤ Q + 1 by omega) 7 (.int .i64 o2))
      exact ⟨by rw [← HNY.out]; exact HNL.out.1.ext (by (repeat' (first | (with_reducible assumption) | (with_reducible exact Wb.Ext.refl _) | (with_reducible refine Wb.Ext.drew ?_) | (with_reducible refine Wb.Ext.drewN ?_ _) | (with_reducible refine Wb.Ext.alloc ?_ _) | (with_reducible refine Wb.ext_set ?_ (by first | assumption | (simp; done) | (simp; omega) | omega) _) | (with_reducible refine Wb.Ext.trans ?_ (by assumption))))), HNL.out.2.1, HNL.out.2.2, hb9.row.sls, by show D.length ≤ _; omega, HDF.out⟩
    · intro F w2 h2 hF hB2
      have hb9 := (((((((((HB6.out).set (show Q ≤ Q + 1 by omega) 0 (.int .u32 p)).set (show Q ≤ Q + 1 by omega) 1 (.int .i64 ny)).set (show Q ≤ Q + 1 by omega) 2 (.int .i64 ni)).set (show Q ≤ Q + 1 by omega) 3 (.slice na nn nc)).set (show Q ≤ Q + 1 by omega) 4 (.slice da D.length dc)).set (show Q ≤ Q + 1 by omega) 5 (.int .i64 due)).set (show Q ≤ Q + 1 by omega) 6 (.int .i64 pd)).set (show Q ≤ Q + 1 by omega) 7 (.int .i64 o2))
      refine ⟨by rw [← HNY.out]; exact HNF.out _ hB2, HNL.out.2.1, HNL.out.2.2, h2.sls hb9.row.sls (fun q hq => hF q ?_) (fun s hs hl q hq => hF q ?_), by show D.length ≤ _; omega, HDF.out⟩
      · have := (hb9.row.1.lt q hq).1; have := hb9.lt; omega
      · have := hb9.far s hs hl q hq; omega
end Go.Proofs.YtnefdpnolojojaaGreatDoor
