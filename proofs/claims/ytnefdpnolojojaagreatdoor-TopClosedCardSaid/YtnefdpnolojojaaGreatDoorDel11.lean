/- Del11 -/
import Derived.Test.YtnefdpnolojojaaGreatDoorMDa
import Derived.Test.YtnefdpnolojojaaGreatDoorDel8
import Derived.Test.YtnefdpnolojojaaGreatDoorMDc
namespace Go.Proofs.YtnefdpnolojojaaGreatDoor
open Go.RowKit Go.Sort Go.Lib Go.Maps
set_option maxRecDepth 8000
attribute [local go_sem ↓] Go.wp_at_zero Go.wp_at_succ
namespace Wb
end Wb
theorem lnsC_cells {w w' : World} {v : Value} {l : List Wb.Ln} (h : LnsC w v l) (hk : ∀ b k u, (∀ q, v.ownBlock = some q → b = q) → l ≠ [] → w.cell? ⟨b, k, none⟩ = some u → w'.cell? ⟨b, k, none⟩ = some u) : LnsC w' v l := by
 refine ⟨?_, h.2⟩
 rcases h.1 with q | ⟨b, off, cap, h1, h2⟩
 ·exact .inl q
 ·refine .inr ⟨b, off, cap, h1, fun j x hj => ?_⟩
  obtain ⟨c0, c1, c2⟩ := h2 j x hj
  have hne : l ≠ [] := by rintro rfl; simp at hj
  have hb : ∀ q, v.ownBlock = some q → b = q := fun q hq => by rw [h1] at hq; injection hq
  exact ⟨hk b _ _ hb hne c0, hk b _ _ hb hne c1, hk b _ _ hb hne c2⟩
theorem lnsC_kept {w w' : World} {v : Value} {l : List Wb.Ln} {row : Option Nat} (h : LnsC w v l) (hg : w.grownBy w' row) (hne : l ≠ [] → ∀ q, v.ownBlock = some q → row ≠ some q) : LnsC w' v l := by
 refine lnsC_cells h fun b k u hb hl hc => ?_
 obtain ⟨a, n, hv⟩ := h.1.shape
 rw [hg.cell_far ⟨b, k, none⟩ (Wb.cell_size hc) (fun e => ?_)]
 ·exact hc
 ·rcases a with _ | a
  ·subst hv
   rcases h.1 with ⟨q, _⟩ | ⟨_, _, _, q, _⟩
   ·exact hl q
   ·cases q
  ·have hq : v.ownBlock = some a.block := by rw [hv]; rfl
   exact hne hl _ hq (by rw [← e, hb _ hq])
def SlR (base : Nat) (w : World) (v : Value) (R : List Wb.Sl) : Prop := w.ownsRow base 50 3 v R.length (rowsOf slc R) ∧ (∀ s ∈ R, LnsC w s.v s.l ∧ Sized s.l) ∧ ∀ s ∈ R, s.l ≠ [] → ∀ q, s.v.ownBlock = some q → v.ownBlock ≠ some q
theorem SlR.nil {base : Nat} {w : World} : SlR base w (.slice none 0 0) [] := ⟨own_none, (fun s hs => by cases hs), fun s hs => by cases hs⟩
theorem row_ext3 {w w' : World} {base e s n : Nat} {v : Value} {xs : List Value} (h : w.ownsRow base e s v n xs) (hw : Wb.Ext w w') : w'.ownsRow base e s v n xs := by
 have hl := h.lt
 obtain ⟨h1, h2 | ⟨g, cap, cur, hv, hb, hg, rest⟩⟩ := h
 ·exact ⟨h1, .inl h2⟩
 ·refine ⟨h1, .inr ⟨g, cap, cur, hv, hb, ?_, rest⟩⟩
  subst hv
  rw [hw.block g (hl g rfl).2]; exact hg
theorem SlR.ext {base : Nat} {w w' : World} {v : Value} {R : List Wb.Sl} (h : SlR base w v R) (k : Wb.Ext w w') : SlR base w' v R := ⟨row_ext3 h.1 k, fun s hs => ⟨(h.2.1 s hs).1.ext k, (h.2.1 s hs).2⟩, h.2.2⟩
theorem SlR.mono {base base' : Nat} {w : World} {v : Value} {R : List Wb.Sl} (h : SlR base w v R) (k : base' ≤ base) : SlR base' w v R := ⟨row_mono h.1 k, h.2⟩
theorem SlR.shape {base : Nat} {w : World} {v : Value} {R : List Wb.Sl} (h : SlR base w v R) : ∃ a c, v = .slice a R.length c := row_shape h.1
theorem SlR.sls {base : Nat} {w : World} {v : Value} {R : List Wb.Sl} (h : SlR base w v R) : Sls w v R := ⟨row_tbl slc_len (by decide) h.1, h.2.1⟩
theorem SlR.append {base : Nat} {w w' : World} {v v' : Value} {R : List Wb.Sl} {s : Wb.Sl} (h : SlR base w v R) (ho : w'.ownsRow base 50 3 v' (R.length + 1) (rowsOf slc R ++ slc s)) (hg : w.grownBy w' v.ownBlock) (hb : v'.ownBlock = v.ownBlock ∨ v'.ownBlock = some w.heap.size)
  (hs : LnsC w s.v s.l) (hz : Sized s.l) (hn : s.l ≠ [] → ∀ q, s.v.ownBlock = some q → v.ownBlock ≠ some q) : SlR base w' v' (R ++ [s]) := by
 have blk : ∀ t : Wb.Sl, LnsC w t.v t.l → t.l ≠ [] → ∀ q, t.v.ownBlock = some q → q < w.heap.size := by
  intro t ht hne q hq
  obtain ⟨a, n, hv⟩ := ht.1.shape
  have h1 := ht.1
  rw [hv] at h1 hq
  obtain ⟨b, off, rfl, hc⟩ := h1.opened hne
  injection hq with hq
  obtain ⟨x, r, hx⟩ : ∃ x r, t.l = x :: r := by
   rcases ht : t.l with _ | ⟨x, r⟩
   ·exact absurd ht hne
   ·exact ⟨x, r, rfl⟩
  have := Wb.cell_size (hc 0 x (by rw [hx]; rfl)).1
  simp only at hq; omega
 refine ⟨by rw [List.length_append, rowsOf_app, rowsOf_one]; exact ho, fun t ht => ?_, fun t ht hne q hq => ?_⟩
 ·rcases List.mem_append.1 ht with ht | ht
  ·exact ⟨lnsC_kept (h.2.1 t ht).1 hg (h.2.2 t ht), (h.2.1 t ht).2⟩
  ·simp at ht; subst ht; exact ⟨lnsC_kept hs hg hn, hz⟩
 ·have hold : v.ownBlock ≠ some q := by
   rcases List.mem_append.1 ht with ht | ht
   ·exact h.2.2 t ht hne q hq
   ·simp at ht; subst ht; exact hn hne q hq
  rcases hb with hb | hb
  ·rw [hb]; exact hold
  ·rw [hb]
   have hlt : q < w.heap.size := by
    rcases List.mem_append.1 ht with ht | ht
    ·exact blk t (h.2.1 t ht).1 hne q hq
    ·simp at ht; subst ht; exact blk _ hs hne q hq
   intro e; injection e with e; omega
theorem infoSlip : (Tryz.prog.info? 50).map (fun i => (i.zero, i.size, i.bytes)) = some (some slZ, 3, 40) := by kernel_rfl
theorem of_sized9 {y i y' i' E Y I : Int} {a b r : List Wb.Ln} (h : Wb.IsOf y i a y' i' b E Y I r) (he : E = 0) : Sized r := by
 subst he
 have k := Wb.of_ok h
 have hr := Wb.delta_right k.del (Wb.wrong_ok k.wa).2.2 (Wb.wrong_ok k.wb).2.2 k.fit
 refine ⟨Nat.le_trans k.few (by decide), fun x hx => ?_⟩
 obtain ⟨_, _, h3, _⟩ := Wb.lineErr_iff.1 (hr x hx)
 have : x.code.length ≤ 32 := by
  simp [Wb.codeOk] at h3
  exact h3.1.2
 exact Nat.le_trans this (by decide)
theorem lns_size {w : World} {a : Option Addr} {n c : Nat} {l : List Wb.Ln} (h : LnsC w (.slice a n c) l) (hne : l ≠ []) (q : Nat) (hq : (Value.slice a n c).ownBlock = some q) : q < w.heap.size := by
 obtain ⟨b, off, rfl, hc⟩ := h.1.opened hne
 injection hq with hq
 obtain ⟨x, r, hx⟩ : ∃ x r, l = x :: r := by
  rcases ht : l with _ | ⟨x, r⟩
  ·exact absurd ht hne
  ·exact ⟨x, r, rfl⟩
 have := Wb.cell_size (hc 0 x (by rw [hx]; rfl)).1
 simp only at hq; omega
end Go.Proofs.YtnefdpnolojojaaGreatDoor
