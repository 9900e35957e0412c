/- Chapter 27: Merge. -/
import Derived.Test.YtdfmlgjemfcmlaaSlip14
import Derived.Test.YtdfmlgjemfcmlaaSlip8
import Derived.Test.YtdfmlgjemfcmlaaPlain27e
import Derived.Deep.RegionHeldLaw
import Derived.Deep.AppendLies
import Derived.Deep.DrawnRows
namespace Go.Proofs.Ytdfmlgjemfcmlaa
open Go.RowKit
set_option maxRecDepth 4000
attribute [local go_sem ↓] Go.wp_at_zero Go.wp_at_succ

def lnv (x : Wb.Ln) : List Value := [.int .i64 x.part, .string (Wb.S x.code), .int .i64 x.cents]
def lnvs (l : List Wb.Ln) : List Value := l.flatMap lnv
theorem lnvs_app (a b : List Wb.Ln) : lnvs (a ++ b) = lnvs a ++ lnvs b := by simp [lnvs]
theorem lnvs_length (l : List Wb.Ln) : (lnvs l).length = l.length * 3 := by
  induction l with
  | nil => rfl
  | cons x r ih => simp only [lnvs, List.flatMap_cons, List.length_append] at ih ⊢; rw [ih]; simp [lnv]; omega
theorem lnvs_get {l : List Wb.Ln} : ∀ {j : Nat} {x : Wb.Ln}, l[j]? = some x → (lnvs l)[j * 3]? = some (.int .i64 x.part) ∧ (lnvs l)[j * 3 + 1]? = some (.string (Wb.S x.code)) ∧ (lnvs l)[j * 3 + 2]? = some (.int .i64 x.cents) := by
  induction l with
  | nil => intro j x h; simp at h
  | cons y r ih =>
    intro j x h
    cases j with
    | zero => simp at h; subst h; simp [lnvs, lnv]
    | succ j =>
      have := ih (j := j) (x := x) (by simpa using h)
      have e1 : (j + 1) * 3 = j * 3 + 1 + 1 + 1 := by omega
      rw [e1]
      simpa [lnvs, lnv] using this
theorem infoLine : (Try.prog.info? 44).map (fun i => (i.zero, i.size, i.bytes)) = some (some (.agg #[.int .i64 0, .string "".toUTF8, .int .i64 0]), 3, 32) := by kernel_rfl
theorem lns_of_row {w : World} {base n : Nat} {v : Value} {l : List Wb.Ln} (h : w.ownsRow base 44 3 v n (lnvs l)) : Lns w v l := by
  have hn : n = l.length := by have := h.1; rw [lnvs_length] at this; omega
  subst hn
  by_cases hv : v = .slice none 0 0
  · obtain ⟨_, h | ⟨g, cap, cur, hv', _⟩⟩ := h
    · have : l = [] := List.length_eq_zero_iff.1 h.2
      exact .inl ⟨this, _, _, hv⟩
    · rw [hv] at hv'; cases hv'
  · obtain ⟨g, cap, rfl, _, _, _, hc⟩ := Wb.ownsRow_at h hv
    refine .inr ⟨g, 0, cap, rfl, fun j x hj => ?_⟩
    obtain ⟨h1, h2, h3⟩ := lnvs_get hj
    simp only [Nat.zero_add]
    exact ⟨hc _ _ h1, hc _ _ h2, hc _ _ h3⟩

theorem Lns.tail {w : World} {b off cap cap' : Nat} {x : Wb.Ln} {r : List Wb.Ln} (h : Lns w (.slice (some ⟨b, off, none⟩) (x :: r).length cap) (x :: r)) : Lns w (.slice (some ⟨b, off + 3, none⟩) r.length cap') r := by
  rcases h with ⟨h, _⟩ | ⟨b', off', c, hv, hc⟩
  · cases h
  · cases hv
    refine .inr ⟨b, off + 3, cap', rfl, fun j z hj => ?_⟩
    have := hc (j + 1) z (by simpa using hj)
    rw [show off + (j + 1) * 3 = off + 3 + j * 3 by omega] at this
    exact this
theorem Lns.head {w : World} {a : Option Addr} {n cap : Nat} {x : Wb.Ln} {r : List Wb.Ln} (h : Lns w (.slice a n cap) (x :: r)) : ∃ b off, a = some ⟨b, off, none⟩ ∧ n = r.length + 1 ∧ w.cell? ⟨b, off, none⟩ = some (.int .i64 x.part) ∧ w.cell? ⟨b, off + 1, none⟩ = some (.string (Wb.S x.code)) ∧ w.cell? ⟨b, off + 2, none⟩ = some (.int .i64 x.cents) := by
  rcases h with ⟨h, _⟩ | ⟨b', off', c, hv, hc⟩
  · cases h
  · cases hv
    have := hc 0 x rfl
    simp only [Nat.zero_mul, Nat.add_zero] at this
    exact ⟨b', off', rfl, rfl, this⟩
theorem row_set {w : World} {base e s n : Nat} {v : Value} {xs : List Value} (h : w.ownsRow base e s v n xs) {p : Addr} (hp : p.block < base) (u : Value) : (w.setCell p u).ownsRow base e s v n xs := by
  obtain ⟨h1, h2 | ⟨g, cap, cur, hv, hb, hg, rest⟩⟩ := h
  · exact ⟨h1, .inl h2⟩
  · exact ⟨h1, .inr ⟨g, cap, cur, hv, hb, by rw [Below.heap_setCell _ _ _ _ (by omega)]; exact hg, rest⟩⟩
def lenOf : Value → Nat
  | .slice _ n _ => n
  | _ => 0

theorem ext_set {w w' : World} (h : Wb.Ext w w') {p : Addr} (hp : w.heap.size ≤ p.block) (u : Value) : Wb.Ext w (w'.setCell p u) := Below.setCell h hp u

theorem row_set2 {w : World} {base e s n : Nat} {v : Value} {xs : List Value} (h : w.ownsRow base e s v n xs) {p : Addr} (hp : ∀ k, v.ownBlock = some k → k ≠ p.block) (u : Value) : (w.setCell p u).ownsRow base e s v n xs := by
  obtain ⟨h1, h2 | ⟨g, cap, cur, hv, hb, hg, rest⟩⟩ := h
  · exact ⟨h1, .inl h2⟩
  · refine ⟨h1, .inr ⟨g, cap, cur, hv, hb, ?_, rest⟩⟩
    rw [Below.heap_setCell _ _ _ _ (by subst hv; exact hp g rfl)]; exact hg
theorem far3 {w : World} {b c k : Nat} {x y z v : Value} (h : w.cell? ⟨c, k, none⟩ = some v) (hc : c ≠ b) : (((w.setCell ⟨b, 0, none⟩ x).setCell ⟨b, 1, none⟩ y).setCell ⟨b, 2, none⟩ z).cell? ⟨c, k, none⟩ = some v := by
  have hc' : ¬ b = c := fun h => hc h.symm
  first
    | simp [go_sem, h]
    | simp [go_sem, hc', h]
theorem at_then {K : Act → World → Prop} {Q : Exit → Act → World → Prop} {e : Exit} {a : Act} {w : World} (h : ∀ w', w' = w → Exit.then K Q e a w') : Exit.then K Q e a w := h w rfl
theorem cd {w : World} {p : Addr} {v : Value} (h : w.cell? p = some v) : w.drew.cell? p = some v := h
theorem cda {w : World} {o : Obj} {b k : Nat} {v : Value} (h : w.drew.cell? ⟨b, k, none⟩ = some v) : (w.alloc o).drew.cell? ⟨b, k, none⟩ = some v := ((Wb.Ext.refl w).alloc o).keep h
theorem al2 {w : World} {o o' : Obj} {b k : Nat} {v : Value} (hb : b < w.heap.size) (h : (w.alloc o).cell? ⟨b, k, none⟩ = some v) : (w.alloc o').cell? ⟨b, k, none⟩ = some v := by
  rw [((Wb.Ext.refl w).alloc o').cells.1 b k hb, ← ((Wb.Ext.refl w).alloc o).cells.1 b k hb]; exact h
theorem row_ext {w w' : World} {base e s n : Nat} {v : Value} {xs : List Value} (h : w.ownsRow base e s v n xs) (hw : Wb.Ext w w') : w'.ownsRow base e s v n xs := by
  have hl := h.lt
  obtain ⟨h1, h2 | ⟨g, cap, cur, hv, hb, hg, rest⟩⟩ := h
  · exact ⟨h1, .inl h2⟩
  · refine ⟨h1, .inr ⟨g, cap, cur, hv, hb, ?_, rest⟩⟩
    subst hv
    rw [hw.block g (hl g rfl).2]; exact hg
theorem row_drew {w : World} {base e s n : Nat} {v : Value} {xs : List Value} (h : w.ownsRow base e s v n xs) : w.drew.ownsRow base e s v n xs := h
theorem src_three (w : World) (n : Nat) (hn : n = w.heap.size) (x : Wb.Ln) (T : TypeId) (c : Nat) : Wb.SrcRow (w.alloc (.cells #[.int .i64 x.part, .string (Wb.S x.code), .int .i64 x.cents] T)) 3 (.slice (some ⟨n, 0, none⟩) 1 c) 1 (lnv x) := by
  subst hn
  refine ⟨rfl, .inr ⟨_, _, rfl, fun j u hj => ?_⟩⟩
  match j, hj with
  | 0, hj => simp [lnv] at hj; subst hj; simp [go_sem, Addr.add]
  | 1, hj => simp [lnv] at hj; subst hj; simp [go_sem, Addr.add]
  | 2, hj => simp [lnv] at hj; subst hj; simp [go_sem, Addr.add]
  | j + 3, hj => simp [lnv] at hj
theorem wp_at {P : Program} {c : Code} {Q : Exit → Act → World → Prop} {a : Act} {w : World} (K : ∀ w', w' = w → Code.wp P c Q a w') : Code.wp P c Q a w := K w rfl
theorem row_shape3 {w : World} {base e n : Nat} {v : Value} {xs : List Value} (h : w.ownsRow base e 3 v n xs) : ∃ a c, v = .slice a n c := by
  obtain ⟨h1, h2 | ⟨g, cap, cur, hv, _⟩⟩ := h
  · have : n = 0 := by rw [h2.2] at h1; simp at h1; omega
    subst this; exact ⟨_, _, h2.1⟩
  · exact ⟨_, _, hv⟩
def capOf : Value → Nat
  | .slice _ _ c => c
  | _ => 0

/-- lines in memory, no more than there is room for -/
def LnsC (w : World) (v : Value) (l : List Wb.Ln) : Prop := Lns w v l ∧ lenOf v ≤ capOf v
theorem LnsC.ext {w w' : World} {v : Value} {l : List Wb.Ln} (h : LnsC w v l) (k : Wb.Ext w w') : LnsC w' v l := ⟨h.1.ext k, h.2⟩
theorem lnsC_of_row {w : World} {base n : Nat} {v : Value} {l : List Wb.Ln} (h : w.ownsRow base 44 3 v n (lnvs l)) : LnsC w v l := by
  refine ⟨lns_of_row h, ?_⟩
  obtain ⟨_, h2 | ⟨g, cap, cur, hv, hb, hg, hc, rest⟩⟩ := h
  · rw [h2.1]; exact Nat.le_refl _
  · rw [hv]; exact hc
/-- a slice of lines without its first one -/
theorem sl_tail (b o n c : Nat) (h : n + 1 ≤ c) : ∃ (A : Option Addr) (k : Nat), (∀ W : World, (Instr.sliceAt 22 (.slice (some ⟨b, o, none⟩) (n + 1) c) (some (.int .i64 1)) none none).run Try.prog W = .ok (.slice A n k) W) ∧ n ≤ k ∧
    ∀ (w : World) (x : Wb.Ln) (r : List Wb.Ln), r.length = n → Lns w (.slice (some ⟨b, o, none⟩) (n + 1) c) (x :: r) → Lns w (.slice A n k) r := by
  have hl : (1 : Int) ≤ ((n + 1 : Nat) : Int) := by omega
  by_cases hc : c = 1
  · have hn : n = 0 := by omega
    subst hc hn
    refine ⟨some ⟨b, o, none⟩, 0, fun W => ?_, by omega, fun w x r hr _ => ?_⟩
    · simp [go_sem, Try.underlying22]
    · exact .inl ⟨List.eq_nil_of_length_eq_zero hr, _, _, rfl⟩
  · refine ⟨some ⟨b, o + 3, none⟩, c - 1, fun W => ?_, by omega, fun w x r hr hL => ?_⟩
    · have hn1 : ¬ ((n : Int) + 1 < 1) := by omega
      simp [go_sem, Try.underlying22, hc, hn1]
    · subst hr; exact hL.tail

theorem at_inBlock {n : Nat} {K : Exit → Act → World → Prop} {e : Exit} {a : Act} {w : World} (h : ∀ w', w' = w → Exit.inBlock n K e a w') : Exit.inBlock n K e a w := h w rfl
/-- what a store of a line into a box leaves -/
theorem store3 {w w' : World} {b : Nat} {x y z x' y' z' : Value} (hw : w' = (((w.setCell ⟨b, 0, none⟩ x).setCell ⟨b, 1, none⟩ y).setCell ⟨b, 2, none⟩ z).drew) (h0 : w.cell? ⟨b, 0, none⟩ = some x') (h1 : w.cell? ⟨b, 1, none⟩ = some y') (h2 : w.cell? ⟨b, 2, none⟩ = some z') :
    w'.cell? ⟨b, 0, none⟩ = some x ∧ w'.cell? ⟨b, 1, none⟩ = some y ∧ w'.cell? ⟨b, 2, none⟩ = some z ∧ (∀ c o, c ≠ b → w'.cell? ⟨c, o, none⟩ = w.cell? ⟨c, o, none⟩) ∧ (∀ p, w'.frozen? p = w.frozen? p) ∧ w'.heap.size = w.heap.size ∧
    (∀ W : World, W.heap.size ≤ b → Wb.Ext W w → Wb.Ext W w') ∧ (∀ base e s n v xs, (∀ k, v.ownBlock = some k → k ≠ b) → w.ownsRow base e s v n xs → w'.ownsRow base e s v n xs) := by
  subst hw
  refine ⟨by simp [go_sem, h0], by simp [go_sem, h1], by simp [go_sem, h2], fun c o hc => ?_, fun p => by simp [go_sem], by simp [go_sem], fun W hW hE => Wb.Ext.drew (ext_set (ext_set (ext_set hE hW _) hW _) hW _), fun base e s n v xs hk h => row_drew (row_set2 (row_set2 (row_set2 h hk _) hk _) hk _)⟩
  have hc' : ¬ b = c := fun h => hc h.symm
  first
    | (simp [go_sem]; done)
    | simp [go_sem, hc']
    | simp [go_sem, hc]

set_option maxHeartbeats 8000000 in
theorem merge_any (y i y' i' : Int) (u v : Value) (a b : List Wb.Ln) (w : World) (hu : Lns w u a) (hv : Lns w v b) (hsa : Sized a) (hsb : Sized b) (hcu : lenOf u ≤ capOf u) (hcv : lenOf v ≤ capOf v) :
    Calls Try.prog 21 #[.agg #[.int .i64 y, .int .i64 i, u], .agg #[.int .i64 y', .int .i64 i', v]] w fun e w' => ∃ m, e = .returned (.tuple #[.agg #[.int .i64 (Wb.merge y i a y' i' b).2.1, .int .i64 (Wb.merge y i a y' i' b).2.2.1, m], .int .i64 (Wb.merge y i a y' i' b).1]) ∧ LnsC w' m (Wb.merge y i a y' i' b).2.2.2 ∧ Wb.Ext w w' := by
  obtain ⟨i0, hi, hz0, hz1, hz2⟩ := info_parts infoLine
  have HIN := Lib.hid (show Try.prog.info? 44 = some i0 ∧ i0.zero = some (.agg #[.int .i64 0, .string "".toUTF8, .int .i64 0]) ∧ i0.size = 3 ∧ i0.bytes = 32 from ⟨hi, hz0, hz1, hz2⟩)
  clear hi hz0 hz1 hz2
  obtain ⟨ua, uc, rfl⟩ := hu.shape
  obtain ⟨va, vc, rfl⟩ := hv.shape
  have HU := Lib.hid hu; clear hu
  have HV := Lib.hid hv; clear hv
  have HSA := Lib.hid hsa; clear hsa
  have HSB := Lib.hid hsb; clear hsb
  go_enter Try.func21, Try.ntmps21
  go_wp2_with fail
  obtain ⟨W, hW⟩ : ∃ W, (((w.alloc (.cells #[.int .i64 y, .int .i64 i, .slice ua a.length uc] 24)).alloc (.cells #[.int .i64 y', .int .i64 i', .slice va b.length vc] 24)).alloc (.cells #[.int .i64 0, .int .i64 0, .slice none 0 0] 24)).alloc (.cells #[.int .i64 y, .int .i64 i, .slice ua a.length uc, .int .i64 y', .int .i64 i', .slice va b.length vc] 24) = W := ⟨_, rfl⟩
  have heW : Wb.Ext w W := by rw [← hW]; (repeat' (first | (with_reducible assumption) | (with_reducible exact Wb.Ext.refl _) | (with_reducible refine Wb.Ext.drew ?_) | (with_reducible refine Wb.Ext.drewN ?_ _) | (with_reducible refine Wb.Ext.alloc ?_ _) | (with_reducible refine Wb.Ext.trans ?_ (by assumption))))
  have a0 : W.cell? ⟨w.heap.size, 0, none⟩ = some (.int .i64 y) := by rw [← hW]; simp [go_sem]
  have a1 : W.cell? ⟨w.heap.size, 1, none⟩ = some (.int .i64 i) := by rw [← hW]; simp [go_sem]
  have a2 : W.cell? ⟨w.heap.size, 2, none⟩ = some (.slice ua a.length uc) := by rw [← hW]; simp [go_sem]
  have b0 : W.cell? ⟨w.heap.size + 1, 0, none⟩ = some (.int .i64 y') := by rw [← hW]; simp [go_sem]
  have b1 : W.cell? ⟨w.heap.size + 1, 1, none⟩ = some (.int .i64 i') := by rw [← hW]; simp [go_sem]
  have b2 : W.cell? ⟨w.heap.size + 1, 2, none⟩ = some (.slice va b.length vc) := by rw [← hW]; simp [go_sem]
  have r0 : W.cell? ⟨w.heap.size + 1 + 1, 0, none⟩ = some (.int .i64 0) := by rw [← hW]; simp [go_sem]
  have r1 : W.cell? ⟨w.heap.size + 1 + 1, 1, none⟩ = some (.int .i64 0) := by rw [← hW]; simp [go_sem]
  have r2 : W.cell? ⟨w.heap.size + 1 + 1, 2, none⟩ = some (.slice none 0 0) := by rw [← hW]; simp [go_sem]
  have rf : ∀ j, W.frozen? ⟨w.heap.size + 1 + 1, j, none⟩ = false := by intro j; rw [← hW]; simp [go_sem]
  have s0 : W.cell? ⟨w.heap.size + 1 + 1 + 1, 0, none⟩ = some (.int .i64 y) := by rw [← hW]; simp [go_sem]
  have s1 : W.cell? ⟨w.heap.size + 1 + 1 + 1, 1, none⟩ = some (.int .i64 i) := by rw [← hW]; simp [go_sem]
  have s2 : W.cell? ⟨w.heap.size + 1 + 1 + 1, 2, none⟩ = some (.slice ua a.length uc) := by rw [← hW]; simp [go_sem]
  have s3 : W.cell? ⟨w.heap.size + 1 + 1 + 1, 3, none⟩ = some (.int .i64 y') := by rw [← hW]; simp [go_sem]
  have s4 : W.cell? ⟨w.heap.size + 1 + 1 + 1, 4, none⟩ = some (.int .i64 i') := by rw [← hW]; simp [go_sem]
  have s5 : W.cell? ⟨w.heap.size + 1 + 1 + 1, 5, none⟩ = some (.slice va b.length vc) := by rw [← hW]; simp [go_sem]
  have hWs : w.heap.size + 1 + 1 + 1 < W.heap.size := by rw [← hW]; simp
  rw [hW]
  clear hW
  go_loopw [19] (fun iv wr => ∃ k : Nat, iv = .int .i64 k ∧ Wb.Ext W wr ∧ (k = 0 ∨ (k = 1 ∧ (Wb.check y i a == 0) = true) ∨ (k = 2 ∧ (Wb.check y i a == 0) = true ∧ (Wb.check y' i' b == 0) = true))) (fun iv _ => 2 - (intOf iv).toNat)
  case atStart => exact ⟨0, rfl, Wb.Ext.refl _, .inl rfl⟩
  case round =>
    obtain ⟨k, rfl, hext, hr⟩ := hrel
    have hew : Wb.Ext w wr := heW.trans hext
    have a0' := hext.keep a0
    have a1' := hext.keep a1
    have a2' := hext.keep a2
    have b0' := hext.keep b0
    have b1' := hext.keep b1
    have b2' := hext.keep b2
    have r0' := hext.keep r0
    have r1' := hext.keep r1
    have r2' := hext.keep r2
    have s0' := hext.keep s0
    have s1' := hext.keep s1
    have s2' := hext.keep s2
    have s3' := hext.keep s3
    have s4' := hext.keep s4
    have s5' := hext.keep s5
    have hz := Wb.cell_size s0'
    have rf' : ∀ j, wr.frozen? ⟨w.heap.size + 1 + 1, j, none⟩ = false := fun j => (Below.frozen hext (by simp; omega)).trans (rf j)
    rcases hr with rfl | ⟨rfl, h1⟩ | ⟨rfl, h1, h2⟩
    · obtain ⟨ck, hck⟩ : ∃ c, Wb.check y i a = c := ⟨_, rfl⟩
      have HCK := Lib.hid hck; clear hck
      
      go_wp2_with fail
      refine (check_any y i _ a _ (HU.out.ext (by (repeat' (first | (with_reducible assumption) | (with_reducible exact Wb.Ext.refl _) | (with_reducible refine Wb.Ext.drew ?_) | (with_reducible refine Wb.Ext.drewN ?_ _) | (with_reducible refine Wb.Ext.alloc ?_ _) | (with_reducible refine Wb.Ext.trans ?_ (by assumption)))))) HSA.out).mono ?_; rintro e w1 ⟨rfl, hb1⟩
      rw [HCK.out]
      have hext1 : Wb.Ext W w1 := (hext.alloc _).trans hb1
      have q0 := hext1.keep r0
      have q1 := hext1.keep r1
      have q2 := hext1.keep r2
      have qf : ∀ j, w1.frozen? ⟨w.heap.size + 1 + 1, j, none⟩ = false := fun j => (Below.frozen hext1 (by simp; omega)).trans (rf j)
      have hz1 := Wb.cell_size q0
      clear hb1
      cases hc : (ck != 0)
      · have HC := Lib.hid hc
        go_wp2
        go_roundw
        case rel => exact ⟨1, by go_num, hext1, .inr (.inl ⟨rfl, by rw [HCK.out]; simpa using HC.out⟩)⟩
        case measure => simp [intOf]
      · have HM := Lib.hid (show Wb.merge y i a y' i' b = (ck, 0, 0, []) by rw [Wb.merge, if_pos (by rw [HCK.out]; simpa using hc)]; rw [HCK.out])
        go_wp2
        refine bodyPost_ret (v := .tuple #[.agg #[.int .i64 0, .int .i64 0, .slice none 0 0], .int .i64 ck]) (by simp [results, Try.results21, go_sem, q0, q1, q2]) rfl ⟨.slice none 0 0, by rw [HM.out] <;> rfl, by rw [HM.out]; exact ⟨.inl ⟨rfl, _, _, rfl⟩, Nat.le_refl _⟩, ext_set (ext_set (ext_set (heW.trans hext1) (by simp; omega) _) (by simp; omega) _) (by simp; omega) _⟩
    · obtain ⟨ck, hck⟩ : ∃ c, Wb.check y' i' b = c := ⟨_, rfl⟩
      have HCK := Lib.hid hck; clear hck
      have H1 := Lib.hid h1; clear h1
      go_wp2_with fail
      refine (check_any y' i' _ b _ (HV.out.ext (by (repeat' (first | (with_reducible assumption) | (with_reducible exact Wb.Ext.refl _) | (with_reducible refine Wb.Ext.drew ?_) | (with_reducible refine Wb.Ext.drewN ?_ _) | (with_reducible refine Wb.Ext.alloc ?_ _) | (with_reducible refine Wb.Ext.trans ?_ (by assumption)))))) HSB.out).mono ?_; rintro e w1 ⟨rfl, hb1⟩
      rw [HCK.out]
      have hext1 : Wb.Ext W w1 := (hext.alloc _).trans hb1
      have q0 := hext1.keep r0
      have q1 := hext1.keep r1
      have q2 := hext1.keep r2
      have qf : ∀ j, w1.frozen? ⟨w.heap.size + 1 + 1, j, none⟩ = false := fun j => (Below.frozen hext1 (by simp; omega)).trans (rf j)
      have hz1 := Wb.cell_size q0
      clear hb1
      cases hc : (ck != 0)
      · have HC := Lib.hid hc
        go_wp2
        go_roundw
        case rel => exact ⟨2, by go_num, hext1, .inr (.inr ⟨rfl, H1.out, by rw [HCK.out]; simpa using HC.out⟩)⟩
        case measure => simp [intOf]
      · have HM := Lib.hid (show Wb.merge y i a y' i' b = (ck, 0, 0, []) by rw [Wb.merge, if_neg (by simpa using H1.out), if_pos (by rw [HCK.out]; simpa using hc)]; rw [HCK.out])
        go_wp2
        refine bodyPost_ret (v := .tuple #[.agg #[.int .i64 0, .int .i64 0, .slice none 0 0], .int .i64 ck]) (by simp [results, Try.results21, go_sem, q0, q1, q2]) rfl ⟨.slice none 0 0, by rw [HM.out] <;> rfl, by rw [HM.out]; exact ⟨.inl ⟨rfl, _, _, rfl⟩, Nat.le_refl _⟩, ext_set (ext_set (ext_set (heW.trans hext1) (by simp; omega) _) (by simp; omega) _) (by simp; omega) _⟩
    · rw [show ((2 : Nat) : Int) = 2 from rfl]
      have H1 := Lib.hid h1
      have H2 := Lib.hid h2
      clear h1 h2
      cases hy : (y != y')
      · have HY := Lib.hid (show y = y' by simpa using hy)
        cases hi : (i != i')
        · have HI := Lib.hid (show i = i' by simpa using hi)
          have o0 : (wr.alloc (.cells #[.int .i64 y, .int .i64 i, .slice none 0 0] 24)).cell? ⟨w.heap.size, 2, none⟩ = some (.slice ua a.length uc) := ((Wb.Ext.refl wr).alloc _).keep a2'
          have o1 : (wr.alloc (.cells #[.int .i64 y, .int .i64 i, .slice none 0 0] 24)).cell? ⟨w.heap.size + 1, 2, none⟩ = some (.slice va b.length vc) := ((Wb.Ext.refl wr).alloc _).keep b2'
          go_wp2_with fail
          go_region_held3 (fun w' => w'.cell? ⟨w.heap.size, 2, none⟩ = some (.slice ua a.length uc) ∧ w'.cell? ⟨w.heap.size + 1, 2, none⟩ = some (.slice va b.length vc)) (first | exact ⟨o0, o1⟩ | assumption | go_keep) (fail)
          have hB : w.heap.size + 1 + 1 + 1 < wr.heap.size := hz
          have HCA := Lib.hid (show Wb.check y i a = 0 by simpa using H1.out)
          have HCB := Lib.hid (show Wb.check y i b = 0 by have := H2.out; rw [← HY.out, ← HI.out] at this; simpa using this)
          have hla := (Wb.check_ok HCA.out).2.2.2.2.1
          have hlb := (Wb.check_ok HCB.out).2.2.2.2.1
          go_wp2_with fail
          clear a0 a1 a2 b0 b1 b2 s0 s1 s2 s3 s4 s5 a0' a1' a2' b0' b1' b2' r0' r1' r2' s0' s1' s2' s3' s4' s5' rf' o0 o1
          obtain ⟨wo, rfl⟩ : ∃ wo : World, wo = wr := ⟨_, rfl⟩
          go_loopw [10, 11] (fun xv yv wq => ∃ (xa yb done : List Wb.Ln) (ov : Value), Lns w xv xa ∧ Lns w yv yb ∧ lenOf xv = xa.length ∧ lenOf yv = yb.length ∧ lenOf xv ≤ capOf xv ∧ lenOf yv ≤ capOf yv ∧ wq.ownsRow (wo.heap.size + 1) 44 3 ov done.length (lnvs done) ∧ Wb.mergeL a b = (Wb.mergeL xa yb).map (done ++ ·) ∧ xa.length + yb.length + done.length ≤ 896 ∧ (∀ x ∈ xa, Wb.lineErr x = 0) ∧ (∀ x ∈ yb, Wb.lineErr x = 0) ∧ wq.cell? ⟨wo.heap.size, 0, none⟩ = some (.int .i64 y) ∧ wq.cell? ⟨wo.heap.size, 1, none⟩ = some (.int .i64 i) ∧ wq.cell? ⟨wo.heap.size, 2, none⟩ = some ov ∧ (∀ j, wq.frozen? ⟨wo.heap.size, j, none⟩ = false) ∧ Wb.Ext W wq) (fun xv yv _ => lenOf xv + lenOf yv)
          case atStart =>
            refine ⟨a, b, [], .slice none 0 0, HU.out, HV.out, rfl, rfl, hcu, hcv, World.ownsRow_nil _ _ _ _, by simp, by simp; omega, (Wb.check_ok HCA.out).2.2.2.2.2.2, (Wb.check_ok HCB.out).2.2.2.2.2.2, by simp [go_sem], by simp [go_sem], by simp [go_sem], by intro j; simp [go_sem], ?_⟩
            (repeat' (first | (with_reducible assumption) | (with_reducible exact Wb.Ext.refl _) | (with_reducible refine Wb.Ext.drew ?_) | (with_reducible refine Wb.Ext.drewN ?_ _) | (with_reducible refine Wb.Ext.alloc ?_ _) | (with_reducible refine Wb.Ext.trans ?_ (by assumption))))
          case round =>
            obtain ⟨xa, yb, done, ov, hxa, hyb, hlx, hly, hcx, hcy, hown, hmg, hln, hxl, hyl, hc0, hc1, hc2, hcf, hextq⟩ := hrel
            obtain ⟨xp, xc, rfl⟩ := hxa.shape
            obtain ⟨yp, yc, rfl⟩ := hyb.shape
            have HXA := Lib.hid hxa
            have HYB := Lib.hid hyb
            have HO := Lib.hid hown
            have HMG := Lib.hid hmg
            have HXL := Lib.hid hxl
            have HYL := Lib.hid hyl
            clear hxa hyb hown hmg hxl hyl hlx hly
            have hOL := lns_of_row HO.out
            obtain ⟨oa, oc, rfl⟩ := hOL.shape
            have HOL := Lib.hid hOL; clear hOL
            have q0 := hextq.keep r0
            have q1 := hextq.keep r1
            have q2 := hextq.keep r2
            have qf : ∀ j, wr.frozen? ⟨w.heap.size + 1 + 1, j, none⟩ = false := fun j => (Below.frozen hextq (by simp; omega)).trans (rf j)
            have hzB := Wb.cell_size hc0
            have hewq := heW.trans hextq
            cases xa with
            | nil =>
              cases yb with
              | nil =>
                have HD := Lib.hid (show Wb.mergeL a b = some done by rw [HMG.out, Wb.mergeL]; simp)
                have HBASE := Lib.hid (show Wb.merge y i a y' i' b = if 448 < done.length then (5, 0, 0, []) else (0, y, i, done) by rw [Wb.merge, if_neg (by rw [HCA.out]; simp), if_neg (by simpa using H2.out), if_neg (by rw [HY.out, HI.out]; simp), HD.out])
                by_cases hbig : 448 < done.length
                · have hbigi : (448 : Int) < done.length := by omega
                  have HM := Lib.hid (show Wb.merge y i a y' i' b = (5, 0, 0, []) by rw [HBASE.out, if_pos hbig])
                  go_wp2
                  refine bodyPost_ret (v := .tuple #[.agg #[.int .i64 0, .int .i64 0, .slice none 0 0], .int .i64 5]) (by simp [results, Try.results21, go_sem, q0, q1, q2]) rfl ⟨.slice none 0 0, by rw [HM.out] <;> rfl, by rw [HM.out]; exact ⟨.inl ⟨rfl, _, _, rfl⟩, Nat.le_refl _⟩, ext_set (ext_set (ext_set hewq (by simp; omega) _) (by simp; omega) _) (by simp; omega) _⟩
                · have dbig : decide ((448 : Int) < done.length) = false := by simp; omega
                  have HM := Lib.hid (show Wb.merge y i a y' i' b = (0, y, i, done) by rw [HBASE.out, if_neg hbig])
                  have hes := ext_set (ext_set (ext_set hewq (p := ⟨w.heap.size + 1 + 1, 0, none⟩) (by simp; omega) (.int .i64 y)) (p := ⟨w.heap.size + 1 + 1, 1, none⟩) (by simp; omega) (.int .i64 i)) (p := ⟨w.heap.size + 1 + 1, 2, none⟩) (by simp; omega) (.slice oa done.length oc)
                  go_wp2
                  refine bodyPost_ret (v := .tuple #[.agg #[.int .i64 y, .int .i64 i, .slice oa done.length oc], .int .i64 0]) (by simp [results, Try.results21, go_sem, q0, q1, q2]) rfl ⟨.slice oa done.length oc, by rw [HM.out] <;> rfl, by rw [HM.out]; exact lnsC_of_row (row_set (row_set (row_set HO.out (by simp; omega) _) (by simp; omega) _) (by simp; omega) _), hes⟩
              | cons yh yt =>
                obtain ⟨cy, oy, rfl, _, hyh0, hyh1, hyh2⟩ := (HYB.out.ext hewq).head
                have hbcy := Wb.cell_size hyh0
                have hlenY : (0 : Int) < yt.length + 1 := by omega
                have hyhe := HYL.out yh (by simp)
                have HFY := Lib.hid (Wb.lineErr_ok hyhe)
                have HYL2 := Lib.hid (show ∀ x ∈ yt, Wb.lineErr x = 0 from fun x hx => HYL.out x (by simp [hx]))
                obtain ⟨ay, ky, hslY, hcapY, hLTY⟩ := sl_tail cy oy yt.length yc (by simpa [lenOf, capOf] using hcy)
                have HYT := Lib.hid (hLTY w yh yt rfl HYB.out)
                clear hyhe hLTY
                have hbn1Y : ¬ wr.heap.size = cy := by omega
                have hbn2Y : ¬ cy = wr.heap.size := by omega
                have hln2 : yt.length + 1 + done.length ≤ 896 := by simp at hln; omega
                have HSTEP := Lib.hid (show Wb.mergeL a b = (Wb.mergeL [] yt).map ((done ++ [yh]) ++ ·) by rw [HMG.out, Wb.step_y (.inl rfl), Wb.map_done])
                rw [List.length_cons]
                clear hcy hln q0 q1 q2 qf
                obtain ⟨zp, zc, zn⟩ := yh
                simp only at hyh0 hyh1 hyh2
                have hxz : (zn != 0) = true := by simpa using HFY.out.2.2.2.1
                have hyl0 : ((yt.length : Int) + 1 == 0) = false := by simp; omega
                go_wp2_with fail
                go_quiet (fail)
                go_wp2_with fail
                go_quiet (fail)
                go_wp2_with fail
                refine wp_at fun w2 hw2 => ?_
                have heN : Wb.Ext (wr.alloc (.cells #[.int .i64 0, .string ⟨#[]⟩, .int .i64 0] 44)) w2 := by rw [hw2]; exact ((Wb.Ext.refl _).drewN _).drewN _
                clear hw2
                have hN : wr.heap.size < w2.heap.size := by have := heN.size; simp at this; omega
                have n0 : w2.cell? ⟨wr.heap.size, 0, none⟩ = some (.int .i64 0) := heN.keep (by simp [go_sem])
                have n1 : w2.cell? ⟨wr.heap.size, 1, none⟩ = some (.string ⟨#[]⟩) := heN.keep (by simp [go_sem])
                have n2 : w2.cell? ⟨wr.heap.size, 2, none⟩ = some (.int .i64 0) := heN.keep (by simp [go_sem])
                have nf : ∀ j, w2.frozen? ⟨wr.heap.size, j, none⟩ = false := fun j => (Below.frozen heN (by simp)).trans (by simp [go_sem])
                have he2 : Wb.Ext wr w2 := ((Wb.Ext.refl wr).alloc _).trans heN
                have p0 := he2.keep hc0
                have p1 := he2.keep hc1
                have p2 := he2.keep hc2
                have pf : ∀ j, w2.frozen? ⟨wo.heap.size, j, none⟩ = false := fun j => (Below.frozen he2 (by simp; omega)).trans (hcf j)
                have hE2 : Wb.Ext W w2 := hextq.trans he2
                have HO2 := Lib.hid (row_ext HO.out he2)
                have kyh0 := he2.keep hyh0
                have kyh1 := he2.keep hyh1
                have kyh2 := he2.keep hyh2
                clear hc0 hc1 hc2 hcf hyh0 hyh1 hyh2 heN he2
                go_region_held3 (fun w' => w'.cell? ⟨cy, oy, none⟩ = some (.int .i64 zp) ∧ w'.cell? ⟨cy, oy + 1, none⟩ = some (.string (Wb.S zc)) ∧ w'.cell? ⟨cy, oy + 2, none⟩ = some (.int .i64 zn)) (first | with_reducible exact ⟨cd kyh0, cd kyh1, cd kyh2⟩ | with_reducible assumption | go_keep) (fail)
                refine at_inBlock fun w3 hw3 => ?_
                obtain ⟨t0, t1, t2, t3, t4, t5, t6, t7⟩ := store3 hw3 (x' := .int .i64 0) (y' := .string ⟨#[]⟩) (z' := .int .i64 0) n0 n1 n2
                have hz3 : wr.heap.size < w3.heap.size := by rw [t5]; exact hN
                have p0 : w3.cell? ⟨wo.heap.size, 0, none⟩ = some (.int .i64 y) := (t3 _ _ (by omega)).trans p0
                have p1 : w3.cell? ⟨wo.heap.size, 1, none⟩ = some (.int .i64 i) := (t3 _ _ (by omega)).trans p1
                have p2 : w3.cell? ⟨wo.heap.size, 2, none⟩ = some (.slice oa done.length oc) := (t3 _ _ (by omega)).trans p2
                have pf : ∀ j, w3.frozen? ⟨wo.heap.size, j, none⟩ = false := fun j => (t4 _).trans (pf j)
                have hE3 : Wb.Ext W w3 := t6 W hextq.size hE2
                have HO3 := Lib.hid (t7 _ _ _ _ _ _ (fun k hk => by have := HO.out.lt k hk; omega) HO2.out)
                clear hw3 t3 t4 t5 t6 t7 n0 n1 n2 nf kyh0 kyh1 kyh2 hslY
                obtain ⟨hi1, hi2, hi3, hi4⟩ := HIN.out
                go_wp2_with (at_builtin; (refine Wb.wpList_append_row rfl (.tmp 123) (.tmp 125) 22 rfl (wo.heap.size + 1) 44 i0 (.agg #[.int .i64 0, .string "".toUTF8, .int .i64 0]) 3 32 Try.underlying22 hi1 hi2 hi3 hi4 rfl (by decide) _ _ _ rfl (HO3.out.alloc _) (.slice (some ⟨w3.heap.size, 0, none⟩) 1 1) rfl 1 (lnv ⟨zp, zc, zn⟩) ?c1 ?c2 ?c3 ?c4 ?c5 ?_))
                case c1 => exact src_three _ _ (by simp) _ _ _
                case c2 => intro q hq; simp [lnv] at hq; rcases hq with rfl | rfl | rfl <;> rfl
                case c3 => unfold maxLen; omega
                case c4 => omega
                case c5 => simp; omega
                intro ov2 w4 hown4 hg4 _
                obtain ⟨na, nc, rfl⟩ := row_shape3 hown4
                have hWo := hext.size
                clear hi1 hi2 hi3 hi4
                have hne : some wo.heap.size ≠ (Value.slice oa done.length oc).ownBlock := fun h => by have := HO3.out.lt _ h.symm; omega
                have g0 : w4.cell? ⟨wo.heap.size, 0, none⟩ = some (.int .i64 y) := (hg4.cell_far _ (by simp; omega) hne).trans (((Wb.Ext.refl w3).alloc _).keep p0)
                have g1 : w4.cell? ⟨wo.heap.size, 1, none⟩ = some (.int .i64 i) := (hg4.cell_far _ (by simp; omega) hne).trans (((Wb.Ext.refl w3).alloc _).keep p1)
                have g2 : w4.cell? ⟨wo.heap.size, 2, none⟩ = some (.slice oa done.length oc) := (hg4.cell_far _ (by simp; omega) hne).trans (((Wb.Ext.refl w3).alloc _).keep p2)
                have gf : ∀ j, w4.frozen? ⟨wo.heap.size, j, none⟩ = false := fun j => (hg4.frozen_far _ (by simp; omega) hne).trans ((Below.frozen ((Wb.Ext.refl w3).alloc _) (by simp; omega)).trans (pf j))
                have hE4 : Wb.Ext W w4 := Wb.Ext.grown (hE3.alloc _) hg4 (fun q hq => by have := HO3.out.lt q hq; omega)
                have hE5 := ext_set hE4 (p := ⟨wo.heap.size, 2, none⟩) (by simp; omega) (.slice na (done.length + 1) nc)
                have HO4 := Lib.hid (row_set hown4 (p := ⟨wo.heap.size, 2, none⟩) (by simp) (.slice na (done.length + 1) nc))
                clear hown4 hg4 hne p0 p1 p2 pf t0 t1 t2 HO3
                go_wp2
                go_roundw
                case rel =>
                  refine ⟨[], yt, done ++ [⟨zp, zc, zn⟩], .slice na (done.length + 1) nc, HXA.out, HYT.out, rfl, rfl, hcx, hcapY, ?_, HSTEP.out, by simp only [List.length_append, List.length_cons, List.length_nil]; omega, HXL.out, HYL2.out, by simp [go_sem, g0], by simp [go_sem, g1], by simp [go_sem, g2], by intro j; simp [go_sem, gf], hE5⟩
                  simpa [lnvs_app, lnvs] using HO4.out
                case measure => simp [lenOf] <;> omega
            | cons xh xt =>
              cases yb with
              | nil =>
                obtain ⟨bx, ox, rfl, _, hxh0, hxh1, hxh2⟩ := (HXA.out.ext hewq).head
                have hbbx := Wb.cell_size hxh0
                have hlenX : (0 : Int) < xt.length + 1 := by omega
                have hxhe := HXL.out xh (by simp)
                have HFX := Lib.hid (Wb.lineErr_ok hxhe)
                have HXL2 := Lib.hid (show ∀ x ∈ xt, Wb.lineErr x = 0 from fun x hx => HXL.out x (by simp [hx]))
                obtain ⟨ax, kx, hslX, hcapX, hLTX⟩ := sl_tail bx ox xt.length xc (by simpa [lenOf, capOf] using hcx)
                have HXT := Lib.hid (hLTX w xh xt rfl HXA.out)
                clear hxhe hLTX
                have hbn1X : ¬ wr.heap.size = bx := by omega
                have hbn2X : ¬ bx = wr.heap.size := by omega
                have hln2 : xt.length + 1 + done.length ≤ 896 := by simpa using hln
                have HSTEP := Lib.hid (show Wb.mergeL a b = (Wb.mergeL xt []).map ((done ++ [xh]) ++ ·) by rw [HMG.out, Wb.step_x (.inl rfl), Wb.map_done])
                rw [List.length_cons]
                clear hcx hln q0 q1 q2 qf
                obtain ⟨zp, zc, zn⟩ := xh
                simp only at hxh0 hxh1 hxh2
                have hxz : (zn != 0) = true := by simpa using HFX.out.2.2.2.1
                go_wp2_with fail
                go_quiet (fail)
                go_wp2_with fail
                refine wp_at fun w2 hw2 => ?_
                have heN : Wb.Ext (wr.alloc (.cells #[.int .i64 0, .string ⟨#[]⟩, .int .i64 0] 44)) w2 := by rw [hw2]; exact (Wb.Ext.refl _).drewN _
                clear hw2
                have hN : wr.heap.size < w2.heap.size := by have := heN.size; simp at this; omega
                have n0 : w2.cell? ⟨wr.heap.size, 0, none⟩ = some (.int .i64 0) := heN.keep (by simp [go_sem])
                have n1 : w2.cell? ⟨wr.heap.size, 1, none⟩ = some (.string ⟨#[]⟩) := heN.keep (by simp [go_sem])
                have n2 : w2.cell? ⟨wr.heap.size, 2, none⟩ = some (.int .i64 0) := heN.keep (by simp [go_sem])
                have nf : ∀ j, w2.frozen? ⟨wr.heap.size, j, none⟩ = false := fun j => (Below.frozen heN (by simp)).trans (by simp [go_sem])
                have he2 : Wb.Ext wr w2 := ((Wb.Ext.refl wr).alloc _).trans heN
                have p0 := he2.keep hc0
                have p1 := he2.keep hc1
                have p2 := he2.keep hc2
                have pf : ∀ j, w2.frozen? ⟨wo.heap.size, j, none⟩ = false := fun j => (Below.frozen he2 (by simp; omega)).trans (hcf j)
                have hE2 : Wb.Ext W w2 := hextq.trans he2
                have HO2 := Lib.hid (row_ext HO.out he2)
                have kxh0 := he2.keep hxh0
                have kxh1 := he2.keep hxh1
                have kxh2 := he2.keep hxh2
                clear hc0 hc1 hc2 hcf hxh0 hxh1 hxh2 heN he2
                go_region_held3 (fun w' => w'.cell? ⟨bx, ox, none⟩ = some (.int .i64 zp) ∧ w'.cell? ⟨bx, ox + 1, none⟩ = some (.string (Wb.S zc)) ∧ w'.cell? ⟨bx, ox + 2, none⟩ = some (.int .i64 zn)) (first | with_reducible exact ⟨cd kxh0, cd kxh1, cd kxh2⟩ | with_reducible assumption | go_keep) (fail)
                refine at_inBlock fun w3 hw3 => ?_
                obtain ⟨t0, t1, t2, t3, t4, t5, t6, t7⟩ := store3 hw3 (x' := .int .i64 0) (y' := .string ⟨#[]⟩) (z' := .int .i64 0) n0 n1 n2
                have hz3 : wr.heap.size < w3.heap.size := by rw [t5]; exact hN
                have p0 : w3.cell? ⟨wo.heap.size, 0, none⟩ = some (.int .i64 y) := (t3 _ _ (by omega)).trans p0
                have p1 : w3.cell? ⟨wo.heap.size, 1, none⟩ = some (.int .i64 i) := (t3 _ _ (by omega)).trans p1
                have p2 : w3.cell? ⟨wo.heap.size, 2, none⟩ = some (.slice oa done.length oc) := (t3 _ _ (by omega)).trans p2
                have pf : ∀ j, w3.frozen? ⟨wo.heap.size, j, none⟩ = false := fun j => (t4 _).trans (pf j)
                have hE3 : Wb.Ext W w3 := t6 W hextq.size hE2
                have HO3 := Lib.hid (t7 _ _ _ _ _ _ (fun k hk => by have := HO.out.lt k hk; omega) HO2.out)
                clear hw3 t3 t4 t5 t6 t7 n0 n1 n2 nf kxh0 kxh1 kxh2 hslX
                obtain ⟨hi1, hi2, hi3, hi4⟩ := HIN.out
                go_wp2_with (at_builtin; (refine Wb.wpList_append_row rfl (.tmp 123) (.tmp 125) 22 rfl (wo.heap.size + 1) 44 i0 (.agg #[.int .i64 0, .string "".toUTF8, .int .i64 0]) 3 32 Try.underlying22 hi1 hi2 hi3 hi4 rfl (by decide) _ _ _ rfl (HO3.out.alloc _) (.slice (some ⟨w3.heap.size, 0, none⟩) 1 1) rfl 1 (lnv ⟨zp, zc, zn⟩) ?c1 ?c2 ?c3 ?c4 ?c5 ?_))
                case c1 => exact src_three _ _ (by simp) _ _ _
                case c2 => intro q hq; simp [lnv] at hq; rcases hq with rfl | rfl | rfl <;> rfl
                case c3 => unfold maxLen; omega
                case c4 => omega
                case c5 => simp; omega
                intro ov2 w4 hown4 hg4 _
                obtain ⟨na, nc, rfl⟩ := row_shape3 hown4
                have hWo := hext.size
                clear hi1 hi2 hi3 hi4
                have hne : some wo.heap.size ≠ (Value.slice oa done.length oc).ownBlock := fun h => by have := HO3.out.lt _ h.symm; omega
                have g0 : w4.cell? ⟨wo.heap.size, 0, none⟩ = some (.int .i64 y) := (hg4.cell_far _ (by simp; omega) hne).trans (((Wb.Ext.refl w3).alloc _).keep p0)
                have g1 : w4.cell? ⟨wo.heap.size, 1, none⟩ = some (.int .i64 i) := (hg4.cell_far _ (by simp; omega) hne).trans (((Wb.Ext.refl w3).alloc _).keep p1)
                have g2 : w4.cell? ⟨wo.heap.size, 2, none⟩ = some (.slice oa done.length oc) := (hg4.cell_far _ (by simp; omega) hne).trans (((Wb.Ext.refl w3).alloc _).keep p2)
                have gf : ∀ j, w4.frozen? ⟨wo.heap.size, j, none⟩ = false := fun j => (hg4.frozen_far _ (by simp; omega) hne).trans ((Below.frozen ((Wb.Ext.refl w3).alloc _) (by simp; omega)).trans (pf j))
                have hE4 : Wb.Ext W w4 := Wb.Ext.grown (hE3.alloc _) hg4 (fun q hq => by have := HO3.out.lt q hq; omega)
                have hE5 := ext_set hE4 (p := ⟨wo.heap.size, 2, none⟩) (by simp; omega) (.slice na (done.length + 1) nc)
                have HO4 := Lib.hid (row_set hown4 (p := ⟨wo.heap.size, 2, none⟩) (by simp) (.slice na (done.length + 1) nc))
                clear hown4 hg4 hne p0 p1 p2 pf t0 t1 t2 HO3
                go_wp2
                go_roundw
                case rel =>
                  refine ⟨xt, [], done ++ [⟨zp, zc, zn⟩], .slice na (done.length + 1) nc, HXT.out, HYB.out, rfl, rfl, hcapX, hcy, ?_, HSTEP.out, by simp only [List.length_append, List.length_cons, List.length_nil]; omega, HXL2.out, HYL.out, by simp [go_sem, g0], by simp [go_sem, g1], by simp [go_sem, g2], by intro j; simp [go_sem, gf], hE5⟩
                  simpa [lnvs_app, lnvs] using HO4.out
                case measure => simp [lenOf] <;> omega
              | cons yh yt =>
                obtain ⟨bx, ox, rfl, _, hxh0, hxh1, hxh2⟩ := (HXA.out.ext hewq).head
                have hbbx := Wb.cell_size hxh0
                have hlenX : (0 : Int) < xt.length + 1 := by omega
                have hxhe := HXL.out xh (by simp)
                have HFX := Lib.hid (Wb.lineErr_ok hxhe)
                have HXL2 := Lib.hid (show ∀ x ∈ xt, Wb.lineErr x = 0 from fun x hx => HXL.out x (by simp [hx]))
                obtain ⟨ax, kx, hslX, hcapX, hLTX⟩ := sl_tail bx ox xt.length xc (by simpa [lenOf, capOf] using hcx)
                have HXT := Lib.hid (hLTX w xh xt rfl HXA.out)
                clear hxhe hLTX
                have hbn1X : ¬ wr.heap.size = bx := by omega
                have hbn2X : ¬ bx = wr.heap.size := by omega
                obtain ⟨cy, oy, rfl, _, hyh0, hyh1, hyh2⟩ := (HYB.out.ext hewq).head
                have hbcy := Wb.cell_size hyh0
                have hlenY : (0 : Int) < yt.length + 1 := by omega
                have hyhe := HYL.out yh (by simp)
                have HFY := Lib.hid (Wb.lineErr_ok hyhe)
                have HYL2 := Lib.hid (show ∀ x ∈ yt, Wb.lineErr x = 0 from fun x hx => HYL.out x (by simp [hx]))
                obtain ⟨ay, ky, hslY, hcapY, hLTY⟩ := sl_tail cy oy yt.length yc (by simpa [lenOf, capOf] using hcy)
                have HYT := Lib.hid (hLTY w yh yt rfl HYB.out)
                clear hyhe hLTY
                have hbn1Y : ¬ wr.heap.size = cy := by omega
                have hbn2Y : ¬ cy = wr.heap.size := by omega
                have hln2 : xt.length + 1 + (yt.length + 1) + done.length ≤ 896 := by simpa using hln
                rw [List.length_cons, List.length_cons]
                obtain ⟨xp, xs, xn⟩ := xh
                obtain ⟨yq, ys, yn⟩ := yh
                simp only at hxh0 hxh1 hxh2 hyh0 hyh1 hyh2
                have hyl0 : ((yt.length : Int) + 1 == 0) = false := by simp; omega
                have hxl0 : ((xt.length : Int) + 1 == 0) = false := by simp; omega
                have he1 : Wb.Ext wr (wr.alloc (.cells #[.int .i64 0, .string ⟨#[]⟩, .int .i64 0] 44)) := (Wb.Ext.refl wr).alloc _
                have hxh0' := he1.keep hxh0
                have hxh1' := he1.keep hxh1
                have hxh2' := he1.keep hxh2
                have hyh0' := he1.keep hyh0
                have hyh1' := he1.keep hyh1
                have hyh2' := he1.keep hyh2
                cases hlt : Wb.lnLt ⟨xp, xs, xn⟩ ⟨yq, ys, yn⟩ with
                | true =>
                  have HLT := Lib.hid hlt
                  have HSTEP := Lib.hid (show Wb.mergeL a b = (Wb.mergeL xt (⟨yq, ys, yn⟩ :: yt)).map ((done ++ [⟨xp, xs, xn⟩]) ++ ·) by rw [HMG.out, Wb.step_x (.inr ⟨_, _, rfl, hlt⟩), Wb.map_done])
                  clear hlt hcx hln q0 q1 q2 qf hslY hcapY
                  have hxz : (xn != 0) = true := by simpa using HFX.out.2.2.2.1
                  go_wp2_with fail
                  go_region_held3 (fun w' => w'.cell? ⟨bx, ox, none⟩ = some (.int .i64 xp) ∧ w'.cell? ⟨bx, ox + 1, none⟩ = some (.string (Wb.S xs)) ∧ w'.cell? ⟨bx, ox + 2, none⟩ = some (.int .i64 xn) ∧ w'.cell? ⟨cy, oy, none⟩ = some (.int .i64 yq) ∧ w'.cell? ⟨cy, oy + 1, none⟩ = some (.string (Wb.S ys)) ∧ w'.cell? ⟨cy, oy + 2, none⟩ = some (.int .i64 yn)) (first | with_reducible exact ⟨cd hxh0', cd hxh1', cd hxh2', cd hyh0', cd hyh1', cd hyh2'⟩ | assumption | (obtain ⟨j0, j1, j2, j3, j4, j5⟩ := ‹_ ∧ _ ∧ _ ∧ _ ∧ _ ∧ _›; with_reducible exact ⟨hb.keep j0, hb.keep j1, hb.keep j2, hb.keep j3, hb.keep j4, hb.keep j5⟩) | go_keep) (first | (go_at_call 44; go_fit (less_any ⟨xp, xs, xn⟩ ⟨yq, ys, yn⟩ _); rintro e w' ⟨rfl, hb⟩; rw [HLT.out]))
                  go_wp2_with fail
                  refine wp_at fun w2 hw2 => ?_
                  have heN : Wb.Ext (wr.alloc (.cells #[.int .i64 0, .string ⟨#[]⟩, .int .i64 0] 44)) w2 := by rw [hw2]; (repeat' (first | (with_reducible assumption) | (with_reducible exact Wb.Ext.refl _) | (with_reducible refine Wb.Ext.drew ?_) | (with_reducible refine Wb.Ext.drewN ?_ _) | (with_reducible refine Wb.Ext.alloc ?_ _) | (with_reducible refine Wb.Ext.trans ?_ (by assumption))))
                  clear hw2
                  have hN : wr.heap.size < w2.heap.size := by have := heN.size; simp at this; omega
                  have n0 : w2.cell? ⟨wr.heap.size, 0, none⟩ = some (.int .i64 0) := heN.keep (by simp [go_sem])
                  have n1 : w2.cell? ⟨wr.heap.size, 1, none⟩ = some (.string ⟨#[]⟩) := heN.keep (by simp [go_sem])
                  have n2 : w2.cell? ⟨wr.heap.size, 2, none⟩ = some (.int .i64 0) := heN.keep (by simp [go_sem])
                  have nf : ∀ j, w2.frozen? ⟨wr.heap.size, j, none⟩ = false := fun j => (Below.frozen heN (by simp)).trans (by simp [go_sem])
                  have he2 : Wb.Ext wr w2 := ((Wb.Ext.refl wr).alloc _).trans heN
                  have p0 := he2.keep hc0
                  have p1 := he2.keep hc1
                  have p2 := he2.keep hc2
                  have pf : ∀ j, w2.frozen? ⟨wo.heap.size, j, none⟩ = false := fun j => (Below.frozen he2 (by simp; omega)).trans (hcf j)
                  have hE2 : Wb.Ext W w2 := hextq.trans he2
                  have HO2 := Lib.hid (row_ext HO.out he2)
                  have kxh0 := he2.keep hxh0
                  have kxh1 := he2.keep hxh1
                  have kxh2 := he2.keep hxh2
                  clear hc0 hc1 hc2 hcf hxh0 hxh1 hxh2 hxh0' hxh1' hxh2' hyh0 hyh1 hyh2 hyh0' hyh1' hyh2' heN he2 he1
                  go_region_held3 (fun w' => w'.cell? ⟨bx, ox, none⟩ = some (.int .i64 xp) ∧ w'.cell? ⟨bx, ox + 1, none⟩ = some (.string (Wb.S xs)) ∧ w'.cell? ⟨bx, ox + 2, none⟩ = some (.int .i64 xn)) (first | with_reducible exact ⟨cd kxh0, cd kxh1, cd kxh2⟩ | with_reducible assumption | go_keep) (fail)
                  refine at_inBlock fun w3 hw3 => ?_
                  obtain ⟨t0, t1, t2, t3, t4, t5, t6, t7⟩ := store3 hw3 (x' := .int .i64 0) (y' := .string ⟨#[]⟩) (z' := .int .i64 0) n0 n1 n2
                  have hz3 : wr.heap.size < w3.heap.size := by rw [t5]; exact hN
                  have p0 : w3.cell? ⟨wo.heap.size, 0, none⟩ = some (.int .i64 y) := (t3 _ _ (by omega)).trans p0
                  have p1 : w3.cell? ⟨wo.heap.size, 1, none⟩ = some (.int .i64 i) := (t3 _ _ (by omega)).trans p1
                  have p2 : w3.cell? ⟨wo.heap.size, 2, none⟩ = some (.slice oa done.length oc) := (t3 _ _ (by omega)).trans p2
                  have pf : ∀ j, w3.frozen? ⟨wo.heap.size, j, none⟩ = false := fun j => (t4 _).trans (pf j)
                  have hE3 : Wb.Ext W w3 := t6 W hextq.size hE2
                  have HO3 := Lib.hid (t7 _ _ _ _ _ _ (fun k hk => by have := HO.out.lt k hk; omega) HO2.out)
                  clear hw3 t3 t4 t5 t6 t7 n0 n1 n2 nf kxh0 kxh1 kxh2 hslX
                  obtain ⟨hi1, hi2, hi3, hi4⟩ := HIN.out
                  go_wp2_with (at_builtin; (refine Wb.wpList_append_row rfl (.tmp 123) (.tmp 125) 22 rfl (wo.heap.size + 1) 44 i0 (.agg #[.int .i64 0, .string "".toUTF8, .int .i64 0]) 3 32 Try.underlying22 hi1 hi2 hi3 hi4 rfl (by decide) _ _ _ rfl (HO3.out.alloc _) (.slice (some ⟨w3.heap.size, 0, none⟩) 1 1) rfl 1 (lnv ⟨xp, xs, xn⟩) ?c1 ?c2 ?c3 ?c4 ?c5 ?_))
                  case c1 => exact src_three _ _ (by simp) _ _ _
                  case c2 => intro q hq; simp [lnv] at hq; rcases hq with rfl | rfl | rfl <;> rfl
                  case c3 => unfold maxLen; omega
                  case c4 => omega
                  case c5 => simp; omega
                  intro ov2 w4 hown4 hg4 _
                  obtain ⟨na, nc, rfl⟩ := row_shape3 hown4
                  have hWo := hext.size
                  clear hi1 hi2 hi3 hi4
                  have hne : some wo.heap.size ≠ (Value.slice oa done.length oc).ownBlock := fun h => by have := HO3.out.lt _ h.symm; omega
                  have g0 : w4.cell? ⟨wo.heap.size, 0, none⟩ = some (.int .i64 y) := (hg4.cell_far _ (by simp; omega) hne).trans (((Wb.Ext.refl w3).alloc _).keep p0)
                  have g1 : w4.cell? ⟨wo.heap.size, 1, none⟩ = some (.int .i64 i) := (hg4.cell_far _ (by simp; omega) hne).trans (((Wb.Ext.refl w3).alloc _).keep p1)
                  have g2 : w4.cell? ⟨wo.heap.size, 2, none⟩ = some (.slice oa done.length oc) := (hg4.cell_far _ (by simp; omega) hne).trans (((Wb.Ext.refl w3).alloc _).keep p2)
                  have gf : ∀ j, w4.frozen? ⟨wo.heap.size, j, none⟩ = false := fun j => (hg4.frozen_far _ (by simp; omega) hne).trans ((Below.frozen ((Wb.Ext.refl w3).alloc _) (by simp; omega)).trans (pf j))
                  have hE4 : Wb.Ext W w4 := Wb.Ext.grown (hE3.alloc _) hg4 (fun q hq => by have := HO3.out.lt q hq; omega)
                  have hE5 := ext_set hE4 (p := ⟨wo.heap.size, 2, none⟩) (by simp; omega) (.slice na (done.length + 1) nc)
                  have HO4 := Lib.hid (row_set hown4 (p := ⟨wo.heap.size, 2, none⟩) (by simp) (.slice na (done.length + 1) nc))
                  clear hown4 hg4 hne p0 p1 p2 pf t0 t1 t2 HO3
                  go_wp2
                  go_roundw
                  case rel =>
                    refine ⟨xt, _ :: yt, done ++ [⟨xp, xs, xn⟩], .slice na (done.length + 1) nc, HXT.out, HYB.out, rfl, rfl, hcapX, hcy, ?_, HSTEP.out, by simp only [List.length_append, List.length_cons, List.length_nil]; omega, HXL2.out, HYL.out, by simp [go_sem, g0], by simp [go_sem, g1], by simp [go_sem, g2], by intro j; simp [go_sem, gf], hE5⟩
                    simpa [lnvs_app, lnvs] using HO4.out
                  case measure => simp [lenOf] <;> omega
                | false =>
                  have HLT := Lib.hid hlt
                  have hlf := hlt
                  clear hlt
                  go_wp2_with fail
                  go_region_held3 (fun w' => w'.cell? ⟨bx, ox, none⟩ = some (.int .i64 xp) ∧ w'.cell? ⟨bx, ox + 1, none⟩ = some (.string (Wb.S xs)) ∧ w'.cell? ⟨bx, ox + 2, none⟩ = some (.int .i64 xn) ∧ w'.cell? ⟨cy, oy, none⟩ = some (.int .i64 yq) ∧ w'.cell? ⟨cy, oy + 1, none⟩ = some (.string (Wb.S ys)) ∧ w'.cell? ⟨cy, oy + 2, none⟩ = some (.int .i64 yn)) (first | with_reducible exact ⟨cd hxh0', cd hxh1', cd hxh2', cd hyh0', cd hyh1', cd hyh2'⟩ | assumption | (obtain ⟨j0, j1, j2, j3, j4, j5⟩ := ‹_ ∧ _ ∧ _ ∧ _ ∧ _ ∧ _›; with_reducible exact ⟨hb.keep j0, hb.keep j1, hb.keep j2, hb.keep j3, hb.keep j4, hb.keep j5⟩) | go_keep) (first | (go_at_call 44; go_fit (less_any ⟨xp, xs, xn⟩ ⟨yq, ys, yn⟩ _); rintro e w' ⟨rfl, hb⟩; rw [HLT.out]))
                  go_wp2_with fail
                  refine wp_at fun w2 hw2 => ?_
                  have heN : Wb.Ext (wr.alloc (.cells #[.int .i64 0, .string ⟨#[]⟩, .int .i64 0] 44)) w2 := by rw [hw2]; (repeat' (first | (with_reducible assumption) | (with_reducible exact Wb.Ext.refl _) | (with_reducible refine Wb.Ext.drew ?_) | (with_reducible refine Wb.Ext.drewN ?_ _) | (with_reducible refine Wb.Ext.alloc ?_ _) | (with_reducible refine Wb.Ext.trans ?_ (by assumption))))
                  clear hw2
                  have hN : wr.heap.size < w2.heap.size := by have := heN.size; simp at this; omega
                  have n0 : w2.cell? ⟨wr.heap.size, 0, none⟩ = some (.int .i64 0) := heN.keep (by simp [go_sem])
                  have n1 : w2.cell? ⟨wr.heap.size, 1, none⟩ = some (.string ⟨#[]⟩) := heN.keep (by simp [go_sem])
                  have n2 : w2.cell? ⟨wr.heap.size, 2, none⟩ = some (.int .i64 0) := heN.keep (by simp [go_sem])
                  have nf : ∀ j, w2.frozen? ⟨wr.heap.size, j, none⟩ = false := fun j => (Below.frozen heN (by simp)).trans (by simp [go_sem])
                  have he2 : Wb.Ext wr w2 := ((Wb.Ext.refl wr).alloc _).trans heN
                  have p0 := he2.keep hc0
                  have p1 := he2.keep hc1
                  have p2 := he2.keep hc2
                  have pf : ∀ j, w2.frozen? ⟨wo.heap.size, j, none⟩ = false := fun j => (Below.frozen he2 (by simp; omega)).trans (hcf j)
                  have hE2 : Wb.Ext W w2 := hextq.trans he2
                  have HO2 := Lib.hid (row_ext HO.out he2)
                  have kxh0 := he2.keep hxh0
                  have kxh1 := he2.keep hxh1
                  have kxh2 := he2.keep hxh2
                  have kyh0 := he2.keep hyh0
                  have kyh1 := he2.keep hyh1
                  have kyh2 := he2.keep hyh2
                  clear hc0 hc1 hc2 hcf hxh0 hxh1 hxh2 hxh0' hxh1' hxh2' hyh0 hyh1 hyh2 hyh0' hyh1' hyh2' he1
                  cases hgt : Wb.lnLt ⟨yq, ys, yn⟩ ⟨xp, xs, xn⟩ with
                  | true =>
                    have HGT := Lib.hid hgt
                    have HSTEP := Lib.hid (show Wb.mergeL a b = (Wb.mergeL (⟨xp, xs, xn⟩ :: xt) yt).map ((done ++ [⟨yq, ys, yn⟩]) ++ ·) by rw [HMG.out, Wb.step_y (.inr ⟨_, _, rfl, HLT.out, hgt⟩), Wb.map_done])
                    clear hgt hcy hln q0 q1 q2 qf hslX hcapX
                    have hxz : (yn != 0) = true := by simpa using HFY.out.2.2.2.1
                    go_region_held3 (fun w' => w'.cell? ⟨bx, ox, none⟩ = some (.int .i64 xp) ∧ w'.cell? ⟨bx, ox + 1, none⟩ = some (.string (Wb.S xs)) ∧ w'.cell? ⟨bx, ox + 2, none⟩ = some (.int .i64 xn) ∧ w'.cell? ⟨cy, oy, none⟩ = some (.int .i64 yq) ∧ w'.cell? ⟨cy, oy + 1, none⟩ = some (.string (Wb.S ys)) ∧ w'.cell? ⟨cy, oy + 2, none⟩ = some (.int .i64 yn)) (first | with_reducible exact ⟨cd kxh0, cd kxh1, cd kxh2, cd kyh0, cd kyh1, cd kyh2⟩ | assumption | (obtain ⟨j0, j1, j2, j3, j4, j5⟩ := ‹_ ∧ _ ∧ _ ∧ _ ∧ _ ∧ _›; with_reducible exact ⟨hb.keep j0, hb.keep j1, hb.keep j2, hb.keep j3, hb.keep j4, hb.keep j5⟩) | go_keep) (first | (go_at_call 44; go_fit (less_any ⟨yq, ys, yn⟩ ⟨xp, xs, xn⟩ _); rintro e w' ⟨rfl, hb⟩; rw [HGT.out]))
                    go_wp2_with fail
                    refine wp_at fun w5 hw5 => ?_
                    have he5 : Wb.Ext w2 w5 := by rw [hw5]; (repeat' (first | (with_reducible assumption) | (with_reducible exact Wb.Ext.refl _) | (with_reducible refine Wb.Ext.drew ?_) | (with_reducible refine Wb.Ext.drewN ?_ _) | (with_reducible refine Wb.Ext.alloc ?_ _) | (with_reducible refine Wb.Ext.trans ?_ (by assumption))))
                    clear hw5
                    have hN : wr.heap.size < w5.heap.size := by have := he5.size; omega
                    have n0 := he5.keep n0
                    have n1 := he5.keep n1
                    have n2 := he5.keep n2
                    have nf : ∀ j, w5.frozen? ⟨wr.heap.size, j, none⟩ = false := fun j => (Below.frozen he5 (by simp; omega)).trans (nf j)
                    have p0 := he5.keep p0
                    have p1 := he5.keep p1
                    have p2 := he5.keep p2
                    have pf : ∀ j, w5.frozen? ⟨wo.heap.size, j, none⟩ = false := fun j => (Below.frozen he5 (by simp; omega)).trans (pf j)
                    have hE2 : Wb.Ext W w5 := hE2.trans he5
                    have HO2 := Lib.hid (row_ext HO2.out he5)
                    have kxh0 := he5.keep kxh0
                    have kxh1 := he5.keep kxh1
                    have kxh2 := he5.keep kxh2
                    have kyh0 := he5.keep kyh0
                    have kyh1 := he5.keep kyh1
                    have kyh2 := he5.keep kyh2
                    clear heN he2 he5
                    go_region_held3 (fun w' => w'.cell? ⟨cy, oy, none⟩ = some (.int .i64 yq) ∧ w'.cell? ⟨cy, oy + 1, none⟩ = some (.string (Wb.S ys)) ∧ w'.cell? ⟨cy, oy + 2, none⟩ = some (.int .i64 yn)) (first | with_reducible exact ⟨cd kyh0, cd kyh1, cd kyh2⟩ | with_reducible assumption | go_keep) (fail)
                    refine at_inBlock fun w3 hw3 => ?_
                    obtain ⟨t0, t1, t2, t3, t4, t5, t6, t7⟩ := store3 hw3 (x' := .int .i64 0) (y' := .string ⟨#[]⟩) (z' := .int .i64 0) n0 n1 n2
                    have hz3 : wr.heap.size < w3.heap.size := by rw [t5]; exact hN
                    have p0 : w3.cell? ⟨wo.heap.size, 0, none⟩ = some (.int .i64 y) := (t3 _ _ (by omega)).trans p0
                    have p1 : w3.cell? ⟨wo.heap.size, 1, none⟩ = some (.int .i64 i) := (t3 _ _ (by omega)).trans p1
                    have p2 : w3.cell? ⟨wo.heap.size, 2, none⟩ = some (.slice oa done.length oc) := (t3 _ _ (by omega)).trans p2
                    have pf : ∀ j, w3.frozen? ⟨wo.heap.size, j, none⟩ = false := fun j => (t4 _).trans (pf j)
                    have hE3 : Wb.Ext W w3 := t6 W hextq.size hE2
                    have HO3 := Lib.hid (t7 _ _ _ _ _ _ (fun k hk => by have := HO.out.lt k hk; omega) HO2.out)
                    clear hw3 t3 t4 t5 t6 t7 n0 n1 n2 nf kxh0 kxh1 kxh2 kyh0 kyh1 kyh2 hslY
                    obtain ⟨hi1, hi2, hi3, hi4⟩ := HIN.out
                    go_wp2_with (at_builtin; (refine Wb.wpList_append_row rfl (.tmp 123) (.tmp 125) 22 rfl (wo.heap.size + 1) 44 i0 (.agg #[.int .i64 0, .string "".toUTF8, .int .i64 0]) 3 32 Try.underlying22 hi1 hi2 hi3 hi4 rfl (by decide) _ _ _ rfl (HO3.out.alloc _) (.slice (some ⟨w3.heap.size, 0, none⟩) 1 1) rfl 1 (lnv ⟨yq, ys, yn⟩) ?c1 ?c2 ?c3 ?c4 ?c5 ?_))
                    case c1 => exact src_three _ _ (by simp) _ _ _
                    case c2 => intro q hq; simp [lnv] at hq; rcases hq with rfl | rfl | rfl <;> rfl
                    case c3 => unfold maxLen; omega
                    case c4 => omega
                    case c5 => simp; omega
                    intro ov2 w4 hown4 hg4 _
                    obtain ⟨na, nc, rfl⟩ := row_shape3 hown4
                    have hWo := hext.size
                    clear hi1 hi2 hi3 hi4
                    have hne : some wo.heap.size ≠ (Value.slice oa done.length oc).ownBlock := fun h => by have := HO3.out.lt _ h.symm; omega
                    have g0 : w4.cell? ⟨wo.heap.size, 0, none⟩ = some (.int .i64 y) := (hg4.cell_far _ (by simp; omega) hne).trans (((Wb.Ext.refl w3).alloc _).keep p0)
                    have g1 : w4.cell? ⟨wo.heap.size, 1, none⟩ = some (.int .i64 i) := (hg4.cell_far _ (by simp; omega) hne).trans (((Wb.Ext.refl w3).alloc _).keep p1)
                    have g2 : w4.cell? ⟨wo.heap.size, 2, none⟩ = some (.slice oa done.length oc) := (hg4.cell_far _ (by simp; omega) hne).trans (((Wb.Ext.refl w3).alloc _).keep p2)
                    have gf : ∀ j, w4.frozen? ⟨wo.heap.size, j, none⟩ = false := fun j => (hg4.frozen_far _ (by simp; omega) hne).trans ((Below.frozen ((Wb.Ext.refl w3).alloc _) (by simp; omega)).trans (pf j))
                    have hE4 : Wb.Ext W w4 := Wb.Ext.grown (hE3.alloc _) hg4 (fun q hq => by have := HO3.out.lt q hq; omega)
                    have hE5 := ext_set hE4 (p := ⟨wo.heap.size, 2, none⟩) (by simp; omega) (.slice na (done.length + 1) nc)
                    have HO4 := Lib.hid (row_set hown4 (p := ⟨wo.heap.size, 2, none⟩) (by simp) (.slice na (done.length + 1) nc))
                    clear hown4 hg4 hne p0 p1 p2 pf t0 t1 t2 HO3
                    go_wp2
                    go_roundw
                    case rel =>
                      refine ⟨_ :: xt, yt, done ++ [⟨yq, ys, yn⟩], .slice na (done.length + 1) nc, HXA.out, HYT.out, rfl, rfl, hcx, hcapY, ?_, HSTEP.out, by simp only [List.length_append, List.length_cons, List.length_nil]; omega, HXL.out, HYL2.out, by simp [go_sem, g0], by simp [go_sem, g1], by simp [go_sem, g2], by intro j; simp [go_sem, gf], hE5⟩
                      simpa [lnvs_app, lnvs] using HO4.out
                    case measure => simp [lenOf] <;> omega
                  | false =>
                    have htl : Wb.mergeL (⟨xp, xs, xn⟩ :: xt) (⟨yq, ys, yn⟩ :: yt) = Wb.mergeL (⟨xp, xs, xn⟩ :: xt) (⟨yq, ys, yn⟩ :: yt) := rfl
                    clear htl hewq
                    have HGT := Lib.hid hgt
                    clear hgt
                    go_region_held3 (fun w' => w'.cell? ⟨bx, ox, none⟩ = some (.int .i64 xp) ∧ w'.cell? ⟨bx, ox + 1, none⟩ = some (.string (Wb.S xs)) ∧ w'.cell? ⟨bx, ox + 2, none⟩ = some (.int .i64 xn) ∧ w'.cell? ⟨cy, oy, none⟩ = some (.int .i64 yq) ∧ w'.cell? ⟨cy, oy + 1, none⟩ = some (.string (Wb.S ys)) ∧ w'.cell? ⟨cy, oy + 2, none⟩ = some (.int .i64 yn)) (first | with_reducible exact ⟨cd kxh0, cd kxh1, cd kxh2, cd kyh0, cd kyh1, cd kyh2⟩ | assumption | (obtain ⟨j0, j1, j2, j3, j4, j5⟩ := ‹_ ∧ _ ∧ _ ∧ _ ∧ _ ∧ _›; with_reducible exact ⟨hb.keep j0, hb.keep j1, hb.keep j2, hb.keep j3, hb.keep j4, hb.keep j5⟩) | go_keep) (first | (go_at_call 44; go_fit (less_any ⟨yq, ys, yn⟩ ⟨xp, xs, xn⟩ _); rintro e w' ⟨rfl, hb⟩; rw [HGT.out]))
                    go_wp2_with fail
                    refine wp_at fun w5 hw5 => ?_
                    have he5 : Wb.Ext w2 w5 := by rw [hw5]; (repeat' (first | (with_reducible assumption) | (with_reducible exact Wb.Ext.refl _) | (with_reducible refine Wb.Ext.drew ?_) | (with_reducible refine Wb.Ext.drewN ?_ _) | (with_reducible refine Wb.Ext.alloc ?_ _) | (with_reducible refine Wb.Ext.trans ?_ (by assumption))))
                    clear hw5
                    have hN : wr.heap.size < w5.heap.size := by have := he5.size; omega
                    have n0 := he5.keep n0
                    have n1 := he5.keep n1
                    have n2 := he5.keep n2
                    have nf : ∀ j, w5.frozen? ⟨wr.heap.size, j, none⟩ = false := fun j => (Below.frozen he5 (by simp; omega)).trans (nf j)
                    have p0 := he5.keep p0
                    have p1 := he5.keep p1
                    have p2 := he5.keep p2
                    have pf : ∀ j, w5.frozen? ⟨wo.heap.size, j, none⟩ = false := fun j => (Below.frozen he5 (by simp; omega)).trans (pf j)
                    have hE2 : Wb.Ext W w5 := hE2.trans he5
                    have HO2 := Lib.hid (row_ext HO2.out he5)
                    have kxh0 := he5.keep kxh0
                    have kxh1 := he5.keep kxh1
                    have kxh2 := he5.keep kxh2
                    have kyh0 := he5.keep kyh0
                    have kyh1 := he5.keep kyh1
                    have kyh2 := he5.keep kyh2
                    clear heN he2 he5
                    have hfx : Wb.fits xn = true := HFX.out.2.2.2.2
                    have hfy : Wb.fits yn = true := HFY.out.2.2.2.2
                    have HST := Lib.hid (And.intro n0 <| And.intro n1 <| And.intro n2 <| And.intro nf <| And.intro p0 <| And.intro p1 <| And.intro p2 <| pf)
                    clear n0 n1 n2 nf p0 p1 p2 pf
                    cases hf : Wb.fits (xn + yn) with
                    | false =>
                      have HADD := Lib.hid (show ∀ W : World, Calls Try.prog 45 #[LnV ⟨xp, xs, xn⟩, LnV ⟨yq, ys, yn⟩] W fun e w' => e = .returned (.tuple #[.agg #[.int .i64 xp, .string (Wb.S xs), .int .i64 0], .bool false]) ∧ Wb.Ext W w' from fun W => (add27_any ⟨xp, xs, xn⟩ ⟨yq, ys, yn⟩ W).mono (by rintro e w' ⟨rfl, hb⟩; exact ⟨by simp [Wb.told, hfx, hfy, hf], hb⟩))
                      have HD := Lib.hid (show Wb.mergeL a b = none by rw [HMG.out, Wb.step_over HLT.out HGT.out hf]; rfl)
                      clear hf hfx hfy q0 q1 q2 qf
                      have hbx5 : bx ≠ w5.heap.size := by omega
                      have hby5 : cy ≠ w5.heap.size := by omega
                      go_region_held3 (fun w' => w'.cell? ⟨bx, ox, none⟩ = some (.int .i64 xp) ∧ w'.cell? ⟨bx, ox + 1, none⟩ = some (.string (Wb.S xs)) ∧ w'.cell? ⟨bx, ox + 2, none⟩ = some (.int .i64 xn) ∧ w'.cell? ⟨cy, oy, none⟩ = some (.int .i64 yq) ∧ w'.cell? ⟨cy, oy + 1, none⟩ = some (.string (Wb.S ys)) ∧ w'.cell? ⟨cy, oy + 2, none⟩ = some (.int .i64 yn)) (first | with_reducible exact ⟨cd kxh0, cd kxh1, cd kxh2, cd kyh0, cd kyh1, cd kyh2⟩ | (obtain ⟨j0, j1, j2, j3, j4, j5⟩ := ‹_ ∧ _ ∧ _ ∧ _ ∧ _ ∧ _›; with_reducible exact ⟨hb.keep j0, hb.keep j1, hb.keep j2, hb.keep j3, hb.keep j4, hb.keep j5⟩) | (obtain ⟨j0, j1, j2, j3, j4, j5⟩ := ‹_ ∧ _ ∧ _ ∧ _ ∧ _ ∧ _›; with_reducible exact ⟨((Wb.Ext.refl _).alloc _).keep j0, ((Wb.Ext.refl _).alloc _).keep j1, ((Wb.Ext.refl _).alloc _).keep j2, ((Wb.Ext.refl _).alloc _).keep j3, ((Wb.Ext.refl _).alloc _).keep j4, ((Wb.Ext.refl _).alloc _).keep j5⟩) | (obtain ⟨j0, j1, j2, j3, j4, j5⟩ := ‹_ ∧ _ ∧ _ ∧ _ ∧ _ ∧ _›; with_reducible exact ⟨cda j0, cda j1, cda j2, cda j3, cda j4, cda j5⟩) | (obtain ⟨j0, j1, j2, j3, j4, j5⟩ := ‹_ ∧ _ ∧ _ ∧ _ ∧ _ ∧ _›; with_reducible exact ⟨far3 j0 hbx5, far3 j1 hbx5, far3 j2 hbx5, far3 j3 hby5, far3 j4 hby5, far3 j5 hby5⟩) | (obtain ⟨j0, j1, j2, j3, j4, j5⟩ := ‹_ ∧ _ ∧ _ ∧ _ ∧ _ ∧ _›; have hq1 := Nat.lt_of_lt_of_le (Nat.lt_trans hbbx hN) hb.size; have hq2 := Nat.lt_of_lt_of_le (Nat.lt_trans hbcy hN) hb.size; with_reducible exact ⟨al2 hq1 j0, al2 hq1 j1, al2 hq1 j2, al2 hq2 j3, al2 hq2 j4, al2 hq2 j5⟩) | fail) (first | (go_at_call 45; go_fit (HADD.out _); rintro e w' ⟨rfl, hb⟩; have hcM := fun o => hb.cells.1 w5.heap.size o; have hfM := fun o => hb.cells.2 w5.heap.size o))
                      all_goals
                        refine at_then fun w6 hw6 => ?_
                        have he6 : Wb.Ext w5 w6 := by
                          rw [hw6]
                          (repeat' (first | (with_reducible assumption) | (with_reducible exact Wb.Ext.refl _) | (with_reducible refine Wb.Ext.drew ?_) | (with_reducible refine Wb.Ext.alloc ?_ _) | (refine ext_set ?_ (by first | exact Nat.le_refl _ | (have := hb.size; simp at this; simp; omega)) _) | (with_reducible refine Wb.Ext.trans ?_ (by assumption))))
                        have hE6 : Wb.Ext W w6 := hE2.trans he6
                        obtain ⟨n0, n1, n2, nf, p0, p1, p2, pf⟩ := HST.out
                        have q0 := hE6.keep r0
                        have q1 := hE6.keep r1
                        have q2 := hE6.keep r2
                        have qf : ∀ j, w6.frozen? ⟨w.heap.size + 1 + 1, j, none⟩ = false := fun j => (Below.frozen hE6 (by simp; omega)).trans (rf j)
                        have hew6 : Wb.Ext w w6 := heW.trans hE6
                        have HM := Lib.hid (show Wb.merge y i a y' i' b = (9, 0, 0, []) by rw [Wb.merge, if_neg (by rw [HCA.out]; simp), if_neg (by simpa using H2.out), if_neg (by rw [HY.out, HI.out]; simp), HD.out])
                        clear hw6 hb hcM hfM HST n0 n1 n2 nf p0 p1 p2 pf kxh0 kxh1 kxh2 kyh0 kyh1 kyh2 hslX hslY
                        go_wp2
                        refine bodyPost_ret (v := .tuple #[.agg #[.int .i64 0, .int .i64 0, .slice none 0 0], .int .i64 9]) (by simp [results, Try.results21, go_sem, q0, q1, q2]) rfl ⟨.slice none 0 0, by rw [HM.out] <;> rfl, by rw [HM.out]; exact ⟨.inl ⟨rfl, _, _, rfl⟩, Nat.le_refl _⟩, ext_set (ext_set (ext_set hew6 (by simp; omega) _) (by simp; omega) _) (by simp; omega) _⟩
                    | true =>
                      have HADD := Lib.hid (show ∀ W : World, Calls Try.prog 45 #[LnV ⟨xp, xs, xn⟩, LnV ⟨yq, ys, yn⟩] W fun e w' => e = .returned (.tuple #[.agg #[.int .i64 xp, .string (Wb.S xs), .int .i64 (xn + yn)], .bool true]) ∧ Wb.Ext W w' from fun W => (add27_any ⟨xp, xs, xn⟩ ⟨yq, ys, yn⟩ W).mono (by rintro e w' ⟨rfl, hb⟩; exact ⟨by simp [Wb.told, hfx, hfy, hf], hb⟩))
                      have hbx5 : bx ≠ w5.heap.size := by omega
                      have hby5 : cy ≠ w5.heap.size := by omega
                      have HF := Lib.hid hf
                      clear hf hfx hfy q0 q1 q2 qf
                      go_region_held3 (fun w' => w'.cell? ⟨bx, ox, none⟩ = some (.int .i64 xp) ∧ w'.cell? ⟨bx, ox + 1, none⟩ = some (.string (Wb.S xs)) ∧ w'.cell? ⟨bx, ox + 2, none⟩ = some (.int .i64 xn) ∧ w'.cell? ⟨cy, oy, none⟩ = some (.int .i64 yq) ∧ w'.cell? ⟨cy, oy + 1, none⟩ = some (.string (Wb.S ys)) ∧ w'.cell? ⟨cy, oy + 2, none⟩ = some (.int .i64 yn)) (first | with_reducible exact ⟨cd kxh0, cd kxh1, cd kxh2, cd kyh0, cd kyh1, cd kyh2⟩ | (obtain ⟨j0, j1, j2, j3, j4, j5⟩ := ‹_ ∧ _ ∧ _ ∧ _ ∧ _ ∧ _›; with_reducible exact ⟨hb.keep j0, hb.keep j1, hb.keep j2, hb.keep j3, hb.keep j4, hb.keep j5⟩) | (obtain ⟨j0, j1, j2, j3, j4, j5⟩ := ‹_ ∧ _ ∧ _ ∧ _ ∧ _ ∧ _›; with_reducible exact ⟨((Wb.Ext.refl _).alloc _).keep j0, ((Wb.Ext.refl _).alloc _).keep j1, ((Wb.Ext.refl _).alloc _).keep j2, ((Wb.Ext.refl _).alloc _).keep j3, ((Wb.Ext.refl _).alloc _).keep j4, ((Wb.Ext.refl _).alloc _).keep j5⟩) | (obtain ⟨j0, j1, j2, j3, j4, j5⟩ := ‹_ ∧ _ ∧ _ ∧ _ ∧ _ ∧ _›; with_reducible exact ⟨cda j0, cda j1, cda j2, cda j3, cda j4, cda j5⟩) | (obtain ⟨j0, j1, j2, j3, j4, j5⟩ := ‹_ ∧ _ ∧ _ ∧ _ ∧ _ ∧ _›; with_reducible exact ⟨far3 j0 hbx5, far3 j1 hbx5, far3 j2 hbx5, far3 j3 hby5, far3 j4 hby5, far3 j5 hby5⟩) | (obtain ⟨j0, j1, j2, j3, j4, j5⟩ := ‹_ ∧ _ ∧ _ ∧ _ ∧ _ ∧ _›; have hq1 := Nat.lt_of_lt_of_le (Nat.lt_trans hbbx hN) hb.size; have hq2 := Nat.lt_of_lt_of_le (Nat.lt_trans hbcy hN) hb.size; with_reducible exact ⟨al2 hq1 j0, al2 hq1 j1, al2 hq1 j2, al2 hq2 j3, al2 hq2 j4, al2 hq2 j5⟩) | fail) (first | (go_at_call 45; go_fit (HADD.out _); rintro e w' ⟨rfl, hb⟩; have hcM := fun o => hb.cells.1 w5.heap.size o; have hfM := fun o => hb.cells.2 w5.heap.size o))
                      all_goals
                        refine at_then fun w6 hw6 => ?_
                        have he6 : Wb.Ext w5 w6 := by
                          rw [hw6]
                          (repeat' (first | (with_reducible assumption) | (with_reducible exact Wb.Ext.refl _) | (with_reducible refine Wb.Ext.drew ?_) | (with_reducible refine Wb.Ext.alloc ?_ _) | (refine ext_set ?_ (by first | exact Nat.le_refl _ | (have := hb.size; simp at this; simp; omega)) _) | (with_reducible refine Wb.Ext.trans ?_ (by assumption))))
                        have hE6 : Wb.Ext W w6 := hE2.trans he6
                        obtain ⟨n0, n1, n2, nf, p0, p1, p2, pf⟩ := HST.out
                        first
                          | (generalize hM : w'.heap.size = M; have hM5 : w5.heap.size ≤ M := by rw [← hM]; exact hb.size)
                          | (generalize hM : w5.heap.size = M; have hM5 : w5.heap.size ≤ M := Nat.le_of_eq hM)
                        have m0 : w6.cell? ⟨M, 0, none⟩ = some (.int .i64 xp) := by rw [hw6, ← hM]; first | (simp [go_sem]; done) | simp [go_sem, hcM]
                        have m1 : w6.cell? ⟨M, 1, none⟩ = some (.string (Wb.S xs)) := by rw [hw6, ← hM]; first | (simp [go_sem]; done) | simp [go_sem, hcM]
                        have m2 : w6.cell? ⟨M, 2, none⟩ = some (.int .i64 (xn + yn)) := by rw [hw6, ← hM]; first | (simp [go_sem]; done) | simp [go_sem, hcM]
                        have hN : wr.heap.size < w6.heap.size := Nat.lt_of_lt_of_le hN he6.size
                        have n0 := he6.keep n0
                        have n1 := he6.keep n1
                        have n2 := he6.keep n2
                        have nf : ∀ j, w6.frozen? ⟨wr.heap.size, j, none⟩ = false := fun j => (Below.frozen he6 (by simp; omega)).trans (nf j)
                        have p0 := he6.keep p0
                        have p1 := he6.keep p1
                        have p2 := he6.keep p2
                        have pf : ∀ j, w6.frozen? ⟨wo.heap.size, j, none⟩ = false := fun j => (Below.frozen he6 (by simp; omega)).trans (pf j)
                        have hE2 : Wb.Ext W w6 := hE6
                        have HO2 := Lib.hid (row_ext HO2.out he6)
                        have hMn1 : ¬ wr.heap.size = M := by omega
                        have hMn2 : ¬ M = wr.heap.size := by omega
                        clear hw6 hb hcM hfM HST kxh0 kxh1 kxh2 kyh0 kyh1 kyh2 hM he6 hE6 hbx5 hby5 HADD
                        clear hcx hcy hln
                        by_cases hz : xn + yn = 0
                        · have hxz : (xn + yn != 0) = false := by simp [hz]
                          have HSTEP := Lib.hid (show Wb.mergeL a b = (Wb.mergeL xt yt).map (done ++ ·) by rw [HMG.out, Wb.step_none HLT.out HGT.out HF.out hz])
                          clear hz
                          go_wp2_with fail
                          go_region_held3 (fun w' => w'.cell? ⟨M, 0, none⟩ = some (.int .i64 xp) ∧ w'.cell? ⟨M, 1, none⟩ = some (.string (Wb.S xs)) ∧ w'.cell? ⟨M, 2, none⟩ = some (.int .i64 (xn + yn))) (first | with_reducible exact ⟨cd m0, cd m1, cd m2⟩ | with_reducible assumption | go_keep) (fail)
                          refine at_inBlock fun w3 hw3 => ?_
                          obtain ⟨t0, t1, t2, t3, t4, t5, t6, t7⟩ := store3 hw3 (x' := .int .i64 0) (y' := .string ⟨#[]⟩) (z' := .int .i64 0) n0 n1 n2
                          have hz3 : wr.heap.size < w3.heap.size := by rw [t5]; exact hN
                          have p0 : w3.cell? ⟨wo.heap.size, 0, none⟩ = some (.int .i64 y) := (t3 _ _ (by omega)).trans p0
                          have p1 : w3.cell? ⟨wo.heap.size, 1, none⟩ = some (.int .i64 i) := (t3 _ _ (by omega)).trans p1
                          have p2 : w3.cell? ⟨wo.heap.size, 2, none⟩ = some (.slice oa done.length oc) := (t3 _ _ (by omega)).trans p2
                          have pf : ∀ j, w3.frozen? ⟨wo.heap.size, j, none⟩ = false := fun j => (t4 _).trans (pf j)
                          have hE3 : Wb.Ext W w3 := t6 W hextq.size hE2
                          have HO3 := Lib.hid (t7 _ _ _ _ _ _ (fun k hk => by have := HO.out.lt k hk; omega) HO2.out)
                          clear hw3 t3 t4 t5 t6 t7 n0 n1 n2 nf m0 m1 m2 hslX hslY

                          go_wp2
                          go_roundw
                          case rel => exact ⟨xt, yt, done, .slice oa done.length oc, HXT.out, HYT.out, rfl, rfl, hcapX, hcapY, HO3.out, HSTEP.out, by omega, HXL2.out, HYL2.out, p0, p1, p2, pf, hE3⟩
                          case measure => simp [lenOf] <;> omega
                        · have hxz : (xn + yn != 0) = true := by simpa using hz
                          have HSTEP := Lib.hid (show Wb.mergeL a b = (Wb.mergeL xt yt).map ((done ++ [⟨xp, xs, xn + yn⟩]) ++ ·) by rw [HMG.out, Wb.step_both HLT.out HGT.out HF.out hz, Wb.map_done])
                          clear hz
                          go_wp2_with fail
                          go_region_held3 (fun w' => w'.cell? ⟨M, 0, none⟩ = some (.int .i64 xp) ∧ w'.cell? ⟨M, 1, none⟩ = some (.string (Wb.S xs)) ∧ w'.cell? ⟨M, 2, none⟩ = some (.int .i64 (xn + yn))) (first | with_reducible exact ⟨cd m0, cd m1, cd m2⟩ | with_reducible assumption | go_keep) (fail)
                          refine at_inBlock fun w3 hw3 => ?_
                          obtain ⟨t0, t1, t2, t3, t4, t5, t6, t7⟩ := store3 hw3 (x' := .int .i64 0) (y' := .string ⟨#[]⟩) (z' := .int .i64 0) n0 n1 n2
                          have hz3 : wr.heap.size < w3.heap.size := by rw [t5]; exact hN
                          have p0 : w3.cell? ⟨wo.heap.size, 0, none⟩ = some (.int .i64 y) := (t3 _ _ (by omega)).trans p0
                          have p1 : w3.cell? ⟨wo.heap.size, 1, none⟩ = some (.int .i64 i) := (t3 _ _ (by omega)).trans p1
                          have p2 : w3.cell? ⟨wo.heap.size, 2, none⟩ = some (.slice oa done.length oc) := (t3 _ _ (by omega)).trans p2
                          have pf : ∀ j, w3.frozen? ⟨wo.heap.size, j, none⟩ = false := fun j => (t4 _).trans (pf j)
                          have hE3 : Wb.Ext W w3 := t6 W hextq.size hE2
                          have HO3 := Lib.hid (t7 _ _ _ _ _ _ (fun k hk => by have := HO.out.lt k hk; omega) HO2.out)
                          clear hw3 t3 t4 t5 t6 t7 n0 n1 n2 nf m0 m1 m2 hslX hslY
                          obtain ⟨hi1, hi2, hi3, hi4⟩ := HIN.out
                          go_wp2_with (at_builtin; (refine Wb.wpList_append_row rfl (.tmp 123) (.tmp 125) 22 rfl (wo.heap.size + 1) 44 i0 (.agg #[.int .i64 0, .string "".toUTF8, .int .i64 0]) 3 32 Try.underlying22 hi1 hi2 hi3 hi4 rfl (by decide) _ _ _ rfl (HO3.out.alloc _) (.slice (some ⟨w3.heap.size, 0, none⟩) 1 1) rfl 1 (lnv ⟨xp, xs, xn + yn⟩) ?c1 ?c2 ?c3 ?c4 ?c5 ?_))
                          case c1 => exact src_three _ _ (by simp) _ _ _
                          case c2 => intro q hq; simp [lnv] at hq; rcases hq with rfl | rfl | rfl <;> rfl
                          case c3 => unfold maxLen; omega
                          case c4 => omega
                          case c5 => simp; omega
                          intro ov2 w4 hown4 hg4 _
                          obtain ⟨na, nc, rfl⟩ := row_shape3 hown4
                          have hWo := hext.size
                          clear hi1 hi2 hi3 hi4
                          have hne : some wo.heap.size ≠ (Value.slice oa done.length oc).ownBlock := fun h => by have := HO3.out.lt _ h.symm; omega
                          have g0 : w4.cell? ⟨wo.heap.size, 0, none⟩ = some (.int .i64 y) := (hg4.cell_far _ (by simp; omega) hne).trans (((Wb.Ext.refl w3).alloc _).keep p0)
                          have g1 : w4.cell? ⟨wo.heap.size, 1, none⟩ = some (.int .i64 i) := (hg4.cell_far _ (by simp; omega) hne).trans (((Wb.Ext.refl w3).alloc _).keep p1)
                          have g2 : w4.cell? ⟨wo.heap.size, 2, none⟩ = some (.slice oa done.length oc) := (hg4.cell_far _ (by simp; omega) hne).trans (((Wb.Ext.refl w3).alloc _).keep p2)
                          have gf : ∀ j, w4.frozen? ⟨wo.heap.size, j, none⟩ = false := fun j => (hg4.frozen_far _ (by simp; omega) hne).trans ((Below.frozen ((Wb.Ext.refl w3).alloc _) (by simp; omega)).trans (pf j))
                          have hE4 : Wb.Ext W w4 := Wb.Ext.grown (hE3.alloc _) hg4 (fun q hq => by have := HO3.out.lt q hq; omega)
                          have hE5 := ext_set hE4 (p := ⟨wo.heap.size, 2, none⟩) (by simp; omega) (.slice na (done.length + 1) nc)
                          have HO4 := Lib.hid (row_set hown4 (p := ⟨wo.heap.size, 2, none⟩) (by simp) (.slice na (done.length + 1) nc))
                          clear hown4 hg4 hne p0 p1 p2 pf t0 t1 t2 HO3
                          go_wp2
                          go_roundw
                          case rel =>
                            refine ⟨xt, yt, done ++ [⟨xp, xs, xn + yn⟩], .slice na (done.length + 1) nc, HXT.out, HYT.out, rfl, rfl, hcapX, hcapY, ?_, HSTEP.out, by simp only [List.length_append, List.length_cons, List.length_nil]; omega, HXL2.out, HYL2.out, by simp [go_sem, g0], by simp [go_sem, g1], by simp [go_sem, g2], by intro j; simp [go_sem, gf], hE5⟩
                            simpa [lnvs_app, lnvs] using HO4.out
                          case measure => simp [lenOf] <;> omega

        · have HM := Lib.hid (show Wb.merge y i a y' i' b = (18, 0, 0, []) by rw [Wb.merge, if_neg (by simpa using H1.out), if_neg (by simpa using H2.out), if_pos (.inr (by simpa using hi))])
          go_wp2
          refine bodyPost_ret (v := .tuple #[.agg #[.int .i64 0, .int .i64 0, .slice none 0 0], .int .i64 18]) (by simp [results, Try.results21, go_sem, r0', r1', r2']) rfl ⟨.slice none 0 0, by rw [HM.out] <;> rfl, by rw [HM.out]; exact ⟨.inl ⟨rfl, _, _, rfl⟩, Nat.le_refl _⟩, ext_set (ext_set (ext_set hew (by simp; omega) _) (by simp; omega) _) (by simp; omega) _⟩
      · have HM := Lib.hid (show Wb.merge y i a y' i' b = (18, 0, 0, []) by rw [Wb.merge, if_neg (by simpa using H1.out), if_neg (by simpa using H2.out), if_pos (.inl (by simpa using hy))])
        go_wp2
        refine bodyPost_ret (v := .tuple #[.agg #[.int .i64 0, .int .i64 0, .slice none 0 0], .int .i64 18]) (by simp [results, Try.results21, go_sem, r0', r1', r2']) rfl ⟨.slice none 0 0, by rw [HM.out] <;> rfl, by rw [HM.out]; exact ⟨.inl ⟨rfl, _, _, rfl⟩, Nat.le_refl _⟩, ext_set (ext_set (ext_set hew (by simp; omega) _) (by simp; omega) _) (by simp; omega) _⟩

end Go.Proofs.Ytdfmlgjemfcmlaa
