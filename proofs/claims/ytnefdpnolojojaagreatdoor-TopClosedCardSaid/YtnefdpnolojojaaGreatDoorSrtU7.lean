/- SrtU7 -/
import Derived.Test.YtnefdpnolojojaaGreatDoorSrtU6
import Derived.Test.YtnefdpnolojojaaGreatDoorShelf
import Derived.Test.YtnefdpnolojojaaGreatDoorMKm
import Derived.Shelf.SlSortCmp.Xorshift
namespace Go.Proofs.YtnefdpnolojojaaGreatDoor
open Go.RowKit Go.Sort
set_option maxRecDepth 8000
set_option maxHeartbeats 4000000
attribute [local go_sem ↓] Go.wp_at_zero Go.wp_at_succ
structure BoxU (w0 w : World) (g n cap : Nat) (d : Array Int) (s : Nat) (v : Value) : Prop where
 row : RowU w0 w g n cap d
 ne : s ≠ g
 new : w0.heap.size ≤ s
 cell : w.cell? ⟨s, 0, none⟩ = some v
 free : w.frozen? ⟨s, 0, none⟩ = false
 lt : s < w.heap.size
theorem BoxU.ext {w0 w w' : World} {g n cap : Nat} {d : Array Int} {s : Nat} {v : Value} (h : BoxU w0 w g n cap d s v) (k : Wb.Ext w w') : BoxU w0 w' g n cap d s v :=
 ⟨h.row.ext k, h.ne, h.new, k.keep h.cell, by rw [k.cells.2 _ _ h.lt]; exact h.free, Nat.lt_of_lt_of_le h.lt k.size⟩
theorem BoxU.set {w0 w : World} {g n cap : Nat} {d : Array Int} {s : Nat} {v : Value} (h : BoxU w0 w g n cap d s v) (u : Value) : BoxU w0 (w.setCell ⟨s, 0, none⟩ u) g n cap d s u := by
 have hg : w.grownBy (w.setCell ⟨s, 0, none⟩ u) (some s) := set_grown0 _ _ _
 refine ⟨⟨h.row.own.kept hg (.inr fun e => by simp [Value.ownBlock] at e; exact h.ne e.symm), ?_⟩, h.ne, h.new, ?_, ?_, ?_⟩
 ·have k := h.row.grow
  refine ⟨hg.os.trans k.os, hg.tape.trans k.tape, hg.output.trans k.output, Nat.le_trans k.size hg.size, fun j hj hne => ?_⟩
  rw [hg.block j (Nat.lt_of_lt_of_le hj k.size) (fun e => by cases e; have := h.new; omega)]
  exact k.block j hj hne
 ·have := h.cell; simp [go_sem, this]
 ·have := h.free; simp [go_sem, this]
 ·exact Nat.lt_of_lt_of_le h.lt hg.size
theorem BoxU.swp {w0 w : World} {g n cap : Nat} {d : Array Int} {s : Nat} {v : Value} (h : BoxU w0 w g n cap d s v) (i j : Nat) : BoxU w0 ((w.setCell ⟨g, i, none⟩ (.int .u32 d[j]!)).setCell ⟨g, j, none⟩ (.int .u32 d[i]!)) g n cap (Sort.swp d i j) s v := by
 have hs := h.ne
 have hg : g ≠ s := fun e => hs e.symm
 have h1 := h.cell
 have h2 := h.free
 have h3 := h.lt
 exact ⟨h.row.swp i j, h.ne, h.new, by simp [go_sem, h1], by simp [go_sem, h2], by simpa using h3⟩
theorem ordU_any (g n cap : Nat) (d : Array Int) (s c a b lo hi : Nat) (w0 w : World) (h : BoxU w0 w g n cap d s (.int .i64 (c : Int))) (ha : lo ≤ a ∧ a < hi) (hb : lo ≤ b ∧ b < hi) (hn : hi ≤ n) (hc : c ≤ 1000) :
  Calls Tryz.prog 125 #[.slice (some ⟨g, 0, none⟩) n cap, .int .i64 a, .int .i64 b, .pointer (some ⟨s, 0, none⟩)] w fun e w' => ∃ x y c' : Nat, e = .returned (.tuple #[.int .i64 x, .int .i64 y]) ∧ (lo ≤ x ∧ x < hi) ∧ (lo ≤ y ∧ y < hi) ∧ c' ≤ c + 1 ∧ BoxU w0 w' g n cap d s (.int .i64 (c' : Int)) := by
 have HB := Lib.hid h
 clear h
 obtain ⟨G, hG⟩ : ∃ G : Nat → Int, ∀ t, G t = d[t]! := ⟨fun t => d[t]!, fun _ => rfl⟩
 have HG : Hid (∀ t, G t = d[t]!) := hG
 clear hG
 have hcw : ∀ t, t < n → w.cell? ⟨g, t, none⟩ = some (.int .u32 (G t)) := fun t ht => by rw [HG.out]; exact HB.out.row.cell ht
 have hai : (a : Int) < n := by omega
 have haN : a < n := by omega
 have hbi : (b : Int) < n := by omega
 have hbN : b < n := by omega
 have HA := Lib.hid ha
 have HBB := Lib.hid hb
 clear ha hb
 go_enter Tryz.func125, Tryz.ntmps125
 cases hl : ltInt (G b) (G a)
 ·go_wp2_with fail
  go_quiet (first | (go_at_call 90; refine Calls.quiet_of_same (lessU_any _ _ _)))
  rw [hl]
  go_wp2
  refine bodyPost_ret (v := .tuple #[.int .i64 (a : Int), .int .i64 (b : Int)]) (by simp [results, Tryz.results125, go_sem]) rfl ⟨a, b, c, rfl, HA.out, HBB.out, by omega, HB.out.ext (by (repeat' (first | (with_reducible assumption) | (with_reducible exact Wb.Ext.refl _) | (with_reducible refine Wb.Ext.drew ?_) | (with_reducible refine Wb.Ext.drewN ?_ _) | (with_reducible refine Wb.Ext.alloc ?_ _) | (with_reducible refine Wb.Ext.trans ?_ (by assumption)))))⟩
 ·go_wp2_with fail
  go_quiet (first | (go_at_call 90; refine Calls.quiet_of_same (lessU_any _ _ _)))
  rw [hl]
  clear hcw
  obtain ⟨w5, hw5⟩ : ∃ z, z = w.drewN nq := ⟨_, rfl⟩
  rw [← hw5]
  have HB5 := Lib.hid (show BoxU w0 w5 g n cap d s (.int .i64 (c : Int)) by rw [hw5]; exact HB.out.ext (by (repeat' (first | (with_reducible assumption) | (with_reducible exact Wb.Ext.refl _) | (with_reducible refine Wb.Ext.drew ?_) | (with_reducible refine Wb.Ext.drewN ?_ _) | (with_reducible refine Wb.Ext.alloc ?_ _) | (with_reducible refine Wb.Ext.trans ?_ (by assumption))))))
  clear hw5
  have hc5 := HB5.out.cell
  have hf5 := HB5.out.free
  have hcc : IntKind.i64.wrap ((c : Int) + 1) = (c : Int) + 1 := IntWalk.i64_in _ (by omega)
  go_wp2
  refine bodyPost_ret (v := .tuple #[.int .i64 (b : Int), .int .i64 (a : Int)]) (by simp [results, Tryz.results125, go_sem]) rfl ⟨b, a, c + 1, rfl, HBB.out, HA.out, by omega, by have h9 := HB5.out.set (.int .i64 ((c : Int) + 1)); rw [show (((c + 1 : Nat)) : Int) = (c : Int) + 1 from rfl]; exact h9⟩
theorem medU_any (g n cap : Nat) (d : Array Int) (s c a b m lo hi : Nat) (w0 w : World) (h : BoxU w0 w g n cap d s (.int .i64 (c : Int))) (ha : lo ≤ a ∧ a < hi) (hb : lo ≤ b ∧ b < hi) (hm : lo ≤ m ∧ m < hi) (hn : hi ≤ n) (hc : c ≤ 900) :
  Calls Tryz.prog 116 #[.slice (some ⟨g, 0, none⟩) n cap, .int .i64 a, .int .i64 b, .int .i64 m, .pointer (some ⟨s, 0, none⟩)] w fun e w' => ∃ x c' : Nat, e = .returned (.int .i64 x) ∧ (lo ≤ x ∧ x < hi) ∧ c' ≤ c + 3 ∧ BoxU w0 w' g n cap d s (.int .i64 (c' : Int)) := by
 have HB := Lib.hid h
 have HA := Lib.hid ha
 have HBB := Lib.hid hb
 have HM := Lib.hid hm
 clear h ha hb hm
 go_enter Tryz.func116, Tryz.ntmps116
 go_wp2_with fail
 go_fit (ordU_any g n cap d s c a b lo hi w0 _ (HB.out.ext (by (repeat' (first | (with_reducible assumption) | (with_reducible exact Wb.Ext.refl _) | (with_reducible refine Wb.Ext.drew ?_) | (with_reducible refine Wb.Ext.drewN ?_ _) | (with_reducible refine Wb.Ext.alloc ?_ _) | (with_reducible refine Wb.Ext.trans ?_ (by assumption)))))) HA.out HBB.out hn (by omega)); rintro e w1 ⟨x1, y1, c1, rfl, hx1, hy1, hc1, hb1⟩
 have HX1 := Lib.hid hx1
 have HY1 := Lib.hid hy1
 have HB1 := Lib.hid hb1
 clear hx1 hy1 hb1
 go_wp2_with fail
 go_fit (ordU_any g n cap d s c1 y1 m lo hi w0 _ (HB1.out.ext (by (repeat' (first | (with_reducible assumption) | (with_reducible exact Wb.Ext.refl _) | (with_reducible refine Wb.Ext.drew ?_) | (with_reducible refine Wb.Ext.drewN ?_ _) | (with_reducible refine Wb.Ext.alloc ?_ _) | (with_reducible refine Wb.Ext.trans ?_ (by assumption)))))) HY1.out HM.out hn (by omega)); rintro e w2 ⟨x2, y2, c2, rfl, hx2, hy2, hc2, hb2⟩
 have HX2 := Lib.hid hx2
 have HY2 := Lib.hid hy2
 have HB2 := Lib.hid hb2
 clear hx2 hy2 hb2
 go_wp2_with fail
 go_fit (ordU_any g n cap d s c2 x1 x2 lo hi w0 _ (HB2.out.ext (by (repeat' (first | (with_reducible assumption) | (with_reducible exact Wb.Ext.refl _) | (with_reducible refine Wb.Ext.drew ?_) | (with_reducible refine Wb.Ext.drewN ?_ _) | (with_reducible refine Wb.Ext.alloc ?_ _) | (with_reducible refine Wb.Ext.trans ?_ (by assumption)))))) HX1.out HX2.out hn (by omega)); rintro e w3 ⟨x3, y3, c3, rfl, hx3, hy3, hc3, hb3⟩
 have HY3 := Lib.hid hy3
 have HB3 := Lib.hid hb3
 clear hx3 hy3 hb3
 go_wp2
 refine bodyPost_ret (v := .int .i64 (y3 : Int)) (by simp [results, Tryz.results116, go_sem]) rfl ⟨y3, c3, rfl, HY3.out, by omega, HB3.out.ext (by (repeat' (first | (with_reducible assumption) | (with_reducible exact Wb.Ext.refl _) | (with_reducible refine Wb.Ext.drew ?_) | (with_reducible refine Wb.Ext.drewN ?_ _) | (with_reducible refine Wb.Ext.alloc ?_ _) | (with_reducible refine Wb.Ext.trans ?_ (by assumption)))))⟩
theorem madU_any (g n cap : Nat) (d : Array Int) (s c a lo hi : Nat) (w0 w : World) (h : BoxU w0 w g n cap d s (.int .i64 (c : Int))) (ha : lo + 1 ≤ a ∧ a + 1 < hi) (hn : hi ≤ n) (hc : c ≤ 900) (hbn : n ≤ 1000000000000) :
  Calls Tryz.prog 115 #[.slice (some ⟨g, 0, none⟩) n cap, .int .i64 a, .pointer (some ⟨s, 0, none⟩)] w fun e w' => ∃ x c' : Nat, e = .returned (.int .i64 x) ∧ (lo ≤ x ∧ x < hi) ∧ c' ≤ c + 3 ∧ BoxU w0 w' g n cap d s (.int .i64 (c' : Int)) := by
 have HB := Lib.hid h
 clear h
 obtain ⟨z, hz⟩ : ∃ z, a - 1 = z := ⟨_, rfl⟩
 have hzw : IntKind.i64.wrap ((a : Int) - 1) = (z : Int) := by rw [IntWalk.i64_in _ (by omega)]; omega
 obtain ⟨y, hy⟩ : ∃ y, a + 1 = y := ⟨_, rfl⟩
 have hyw : IntKind.i64.wrap ((a : Int) + 1) = (y : Int) := by rw [IntWalk.i64_in _ (by omega)]; omega
 have HF := Lib.hid (show (lo ≤ z ∧ z < hi) ∧ (lo ≤ a ∧ a < hi) ∧ (lo ≤ y ∧ y < hi) by omega)
 clear hz hy
 go_enter Tryz.func115, Tryz.ntmps115
 go_wp2_with fail
 go_fit (medU_any g n cap d s c z a y lo hi w0 _ (HB.out.ext (by (repeat' (first | (with_reducible assumption) | (with_reducible exact Wb.Ext.refl _) | (with_reducible refine Wb.Ext.drew ?_) | (with_reducible refine Wb.Ext.drewN ?_ _) | (with_reducible refine Wb.Ext.alloc ?_ _) | (with_reducible refine Wb.Ext.trans ?_ (by assumption)))))) HF.out.1 HF.out.2.1 HF.out.2.2 hn hc); rintro e w1 ⟨x1, c1, rfl, hx1, hc1, hb1⟩
 have HX1 := Lib.hid hx1
 have HB1 := Lib.hid hb1
 clear hx1 hb1
 go_wp2
 refine bodyPost_ret (v := .int .i64 (x1 : Int)) (by simp [results, Tryz.results115, go_sem]) rfl ⟨x1, c1, rfl, HX1.out, by omega, HB1.out.ext (by (repeat' (first | (with_reducible assumption) | (with_reducible exact Wb.Ext.refl _) | (with_reducible refine Wb.Ext.drew ?_) | (with_reducible refine Wb.Ext.drewN ?_ _) | (with_reducible refine Wb.Ext.alloc ?_ _) | (with_reducible refine Wb.Ext.trans ?_ (by assumption)))))⟩
theorem boxU_alloc {w0 w : World} {g n cap : Nat} {d : Array Int} (h : RowU w0 w g n cap d) (v : Value) (T : TypeId) : BoxU w0 (w.alloc (.cells #[v] T)) g n cap d w.heap.size v := by
 have hs := h.grow.size
 refine ⟨h.ext (by (repeat' (first | (with_reducible assumption) | (with_reducible exact Wb.Ext.refl _) | (with_reducible refine Wb.Ext.drew ?_) | (with_reducible refine Wb.Ext.drewN ?_ _) | (with_reducible refine Wb.Ext.alloc ?_ _) | (with_reducible refine Wb.Ext.trans ?_ (by assumption))))), ?_, hs, by simp [go_sem], by simp [go_sem], by simp⟩
 rintro rfl
 obtain ⟨_, h2⟩ := h.own
 rcases h2 with ⟨h2, _⟩ | ⟨b, c, cur, h2, _, hb, _⟩
 ·cases h2
 ·cases h2
  exact absurd (Array.getElem?_eq_some_iff.1 hb).1 (by omega)
theorem pivU_any (g n cap a b l : Nat) (d : Array Int) (w0 w : World) (h : RowU w0 w g n cap d) (hl : a + l = b) (hl1 : 13 ≤ l) (hb : b ≤ n) (hn : n ≤ 1000000000000) :
  Calls Tryz.prog 87 #[.slice (some ⟨g, 0, none⟩) n cap, .int .i64 a, .int .i64 b] w fun e w' => ∃ x hint : Nat, e = .returned (.tuple #[.int .i64 x, .int .i64 hint]) ∧ (a ≤ x ∧ x < b) ∧ RowU w0 w' g n cap d := by
 have HW0 := Lib.hid h
 clear h
 have hlw : IntKind.i64.wrap ((b : Int) - a) = (l : Int) := by rw [IntWalk.i64_in _ (by omega)]; omega
 obtain ⟨q, hq⟩ : ∃ q, l / 4 = q := ⟨_, rfl⟩
 have hqi : wrap64 ((l : Int) / 4) = (q : Int) := by rw [show ((l : Int) / 4) = (q : Int) by omega]; exact IntWalk.wrap64_in _ (by omega)
 have hqi2 : ((l : Int) / 4) = (q : Int) := by omega
 obtain ⟨i, hi⟩ : ∃ i, a + q = i := ⟨_, rfl⟩
 have hiw : IntKind.i64.wrap ((a : Int) + q) = (i : Int) := by rw [IntWalk.i64_in _ (by omega)]; omega
 obtain ⟨j, hj⟩ : ∃ j, a + q * 2 = j := ⟨_, rfl⟩
 obtain ⟨q2, hq2⟩ : ∃ q2, q * 2 = q2 := ⟨_, rfl⟩
 have hq2w : IntKind.i64.wrap ((q : Int) * 2) = (q2 : Int) := by rw [IntWalk.i64_in _ (by omega)]; omega
 have hjw : IntKind.i64.wrap ((a : Int) + q2) = (j : Int) := by rw [IntWalk.i64_in _ (by omega)]; omega
 obtain ⟨k, hk⟩ : ∃ k, a + q * 3 = k := ⟨_, rfl⟩
 obtain ⟨q3, hq3⟩ : ∃ q3, q * 3 = q3 := ⟨_, rfl⟩
 have hq3w : IntKind.i64.wrap ((q : Int) * 3) = (q3 : Int) := by rw [IntWalk.i64_in _ (by omega)]; omega
 have hkw : IntKind.i64.wrap ((a : Int) + q3) = (k : Int) := by rw [IntWalk.i64_in _ (by omega)]; omega
 have HF := Lib.hid (show (a ≤ i ∧ i < b) ∧ (a ≤ j ∧ j < b) ∧ (a ≤ k ∧ k < b) by omega)
 have HF2 := Lib.hid (show 50 ≤ l → (a + 1 ≤ i ∧ i + 1 < b) ∧ (a + 1 ≤ j ∧ j + 1 < b) ∧ (a + 1 ≤ k ∧ k + 1 < b) by omega)
 have d8 : decide ((8 : Int) ≤ (l : Int)) = true := by simp; omega
 have hln : l ≤ 1000000000000 := by omega
 clear hq hi hj hk hq2 hq3 hl
 go_enter Tryz.func87, Tryz.ntmps87
 go_upto_region 6 with (fail)
 refine Wb.wp_at fun w1 hw1 => ?_
 have HB1 := Lib.hid (show BoxU w0 w1 g n cap d w.heap.size (.int .i64 ((0 : Nat) : Int)) by rw [hw1]; exact boxU_alloc HW0.out _ _)
 obtain ⟨s, hs⟩ : ∃ s, w.heap.size = s := ⟨_, rfl⟩
 rw [hs] at HB1 ⊢
 clear hs hw1 hlw
 by_cases h50 : 50 ≤ l
 ·have d50 : decide ((50 : Int) ≤ (l : Int)) = true := by simp; omega
  have H3 := Lib.hid (HF2.out h50)
  go_wp2_with fail
  go_fit (madU_any g n cap d s 0 i a b w0 _ (HB1.out.ext (by (repeat' (first | (with_reducible assumption) | (with_reducible exact Wb.Ext.refl _) | (with_reducible refine Wb.Ext.drew ?_) | (with_reducible refine Wb.Ext.drewN ?_ _) | (with_reducible refine Wb.Ext.alloc ?_ _) | (with_reducible refine Wb.Ext.trans ?_ (by assumption)))))) H3.out.1 hb (by omega) hn); rintro e w2 ⟨x1, c1, rfl, hx1, hc1, hb1⟩
  have HX1 := Lib.hid hx1
  have HB2 := Lib.hid hb1
  clear hx1 hb1
  go_wp2_with fail
  go_fit (madU_any g n cap d s c1 j a b w0 _ (HB2.out.ext (by (repeat' (first | (with_reducible assumption) | (with_reducible exact Wb.Ext.refl _) | (with_reducible refine Wb.Ext.drew ?_) | (with_reducible refine Wb.Ext.drewN ?_ _) | (with_reducible refine Wb.Ext.alloc ?_ _) | (with_reducible refine Wb.Ext.trans ?_ (by assumption)))))) H3.out.2.1 hb (by omega) hn); rintro e w3 ⟨x2, c2, rfl, hx2, hc2, hb2⟩
  have HX2 := Lib.hid hx2
  have HB3 := Lib.hid hb2
  clear hx2 hb2
  go_wp2_with fail
  go_fit (madU_any g n cap d s c2 k a b w0 _ (HB3.out.ext (by (repeat' (first | (with_reducible assumption) | (with_reducible exact Wb.Ext.refl _) | (with_reducible refine Wb.Ext.drew ?_) | (with_reducible refine Wb.Ext.drewN ?_ _) | (with_reducible refine Wb.Ext.alloc ?_ _) | (with_reducible refine Wb.Ext.trans ?_ (by assumption)))))) H3.out.2.2 hb (by omega) hn); rintro e w4 ⟨x3, c3, rfl, hx3, hc3, hb3⟩
  have HX3 := Lib.hid hx3
  have HB4 := Lib.hid hb3
  clear hx3 hb3
  go_wp2_with fail
  go_fit (medU_any g n cap d s c3 x1 x2 x3 a b w0 _ (HB4.out.ext (by (repeat' (first | (with_reducible assumption) | (with_reducible exact Wb.Ext.refl _) | (with_reducible refine Wb.Ext.drew ?_) | (with_reducible refine Wb.Ext.drewN ?_ _) | (with_reducible refine Wb.Ext.alloc ?_ _) | (with_reducible refine Wb.Ext.trans ?_ (by assumption)))))) HX1.out HX2.out HX3.out hb (by omega)); rintro e w5 ⟨x, cX, rfl, hx, hcX, hbX⟩
  have HX := Lib.hid hx
  have HBX := Lib.hid hbX
  clear hx hbX
  have hcell := HBX.out.cell
  by_cases hc0 : cX = 0
  ·subst hc0
   go_wp2
   refine bodyPost_ret (v := .tuple #[.int .i64 (x : Int), .int .i64 1]) (by simp [results, Tryz.results87, go_sem]) rfl ⟨x, 1, rfl, HX.out, HBX.out.row.ext (by (repeat' (first | (with_reducible assumption) | (with_reducible exact Wb.Ext.refl _) | (with_reducible refine Wb.Ext.drew ?_) | (with_reducible refine Wb.Ext.drewN ?_ _) | (with_reducible refine Wb.Ext.alloc ?_ _) | (with_reducible refine Wb.Ext.trans ?_ (by assumption)))))⟩
  ·have e0 : ((cX : Int) == 0) = false := by simp; omega
   by_cases hc1 : cX = 12
   ·subst hc1
    go_wp2
    refine bodyPost_ret (v := .tuple #[.int .i64 (x : Int), .int .i64 2]) (by simp [results, Tryz.results87, go_sem]) rfl ⟨x, 2, rfl, HX.out, HBX.out.row.ext (by (repeat' (first | (with_reducible assumption) | (with_reducible exact Wb.Ext.refl _) | (with_reducible refine Wb.Ext.drew ?_) | (with_reducible refine Wb.Ext.drewN ?_ _) | (with_reducible refine Wb.Ext.alloc ?_ _) | (with_reducible refine Wb.Ext.trans ?_ (by assumption)))))⟩
   ·have e1 : ((cX : Int) == 12) = false := by simp; omega
    go_wp2
    refine bodyPost_ret (v := .tuple #[.int .i64 (x : Int), .int .i64 0]) (by simp [results, Tryz.results87, go_sem]) rfl ⟨x, 0, rfl, HX.out, HBX.out.row.ext (by (repeat' (first | (with_reducible assumption) | (with_reducible exact Wb.Ext.refl _) | (with_reducible refine Wb.Ext.drew ?_) | (with_reducible refine Wb.Ext.drewN ?_ _) | (with_reducible refine Wb.Ext.alloc ?_ _) | (with_reducible refine Wb.Ext.trans ?_ (by assumption)))))⟩
 ·have d50 : decide ((50 : Int) ≤ (l : Int)) = false := by simp; omega
  go_wp2_with fail
  go_fit (medU_any g n cap d s 0 i j k a b w0 _ (HB1.out.ext (by (repeat' (first | (with_reducible assumption) | (with_reducible exact Wb.Ext.refl _) | (with_reducible refine Wb.Ext.drew ?_) | (with_reducible refine Wb.Ext.drewN ?_ _) | (with_reducible refine Wb.Ext.alloc ?_ _) | (with_reducible refine Wb.Ext.trans ?_ (by assumption)))))) HF.out.1 HF.out.2.1 HF.out.2.2 hb (by omega)); rintro e w5 ⟨x, cX, rfl, hx, hcX, hbX⟩
  have HX := Lib.hid hx
  have HBX := Lib.hid hbX
  clear hx hbX
  have hcell := HBX.out.cell
  by_cases hc0 : cX = 0
  ·subst hc0
   go_wp2
   refine bodyPost_ret (v := .tuple #[.int .i64 (x : Int), .int .i64 1]) (by simp [results, Tryz.results87, go_sem]) rfl ⟨x, 1, rfl, HX.out, HBX.out.row.ext (by (repeat' (first | (with_reducible assumption) | (with_reducible exact Wb.Ext.refl _) | (with_reducible refine Wb.Ext.drew ?_) | (with_reducible refine Wb.Ext.drewN ?_ _) | (with_reducible refine Wb.Ext.alloc ?_ _) | (with_reducible refine Wb.Ext.trans ?_ (by assumption)))))⟩
  ·have e0 : ((cX : Int) == 0) = false := by simp; omega
   by_cases hc1 : cX = 12
   ·subst hc1
    go_wp2
    refine bodyPost_ret (v := .tuple #[.int .i64 (x : Int), .int .i64 2]) (by simp [results, Tryz.results87, go_sem]) rfl ⟨x, 2, rfl, HX.out, HBX.out.row.ext (by (repeat' (first | (with_reducible assumption) | (with_reducible exact Wb.Ext.refl _) | (with_reducible refine Wb.Ext.drew ?_) | (with_reducible refine Wb.Ext.drewN ?_ _) | (with_reducible refine Wb.Ext.alloc ?_ _) | (with_reducible refine Wb.Ext.trans ?_ (by assumption)))))⟩
   ·have e1 : ((cX : Int) == 12) = false := by simp; omega
    go_wp2
    refine bodyPost_ret (v := .tuple #[.int .i64 (x : Int), .int .i64 0]) (by simp [results, Tryz.results87, go_sem]) rfl ⟨x, 0, rfl, HX.out, HBX.out.row.ext (by (repeat' (first | (with_reducible assumption) | (with_reducible exact Wb.Ext.refl _) | (with_reducible refine Wb.Ext.drew ?_) | (with_reducible refine Wb.Ext.drewN ?_ _) | (with_reducible refine Wb.Ext.alloc ?_ _) | (with_reducible refine Wb.Ext.trans ?_ (by assumption)))))⟩
theorem xorU_any (s X : Nat) (hX : X < 18446744073709551616) (w : World) (hc : w.cell? ⟨s, 0, none⟩ = some (.int .u64 X)) (hf : w.frozen? ⟨s, 0, none⟩ = false) :
  Calls Tryz.prog 114 #[.pointer (some ⟨s, 0, none⟩)] w fun e w' => ∃ Y : Nat, Y < 18446744073709551616 ∧ e = .returned (.int .u64 Y) ∧ w' = (w.setCell ⟨s, 0, none⟩ (.int .u64 Y)).drewN 3 := by
 have h := AnyF.xorshift_Next Tryz.xorNext s 0 X hX w hc hf
 change Calls Tryz.prog 114 _ _ _ at h
 exact h.mono fun e w' ⟨h1, h2⟩ => ⟨_, xorNextN_lt X hX, h1, h2⟩
theorem npt_any (n : Nat) (hn : n < 4611686018427387904) (w : World) :
  Calls Tryz.prog 113 #[.int .i64 n] w fun e w' => e = .returned (.int .u64 ((1 <<< bitsLen n : Nat) : Int)) ∧ w' = w := by
 have h := AnyF.nextPowerOfTwo Tryz.nextPow n hn w
 change Calls Tryz.prog 113 _ _ _ at h
 exact h
theorem brkU_any (g n cap a b l : Nat) (d : Array Int) (w0 w : World) (h : RowU w0 w g n cap d) (hl : a + l = b) (hl1 : 13 ≤ l) (hb : b ≤ n) (hn : n ≤ 1000000000000) :
  Calls Tryz.prog 86 #[.slice (some ⟨g, 0, none⟩) n cap, .int .i64 a, .int .i64 b] w fun e w' => e = .returned (.tuple #[]) ∧ ∃ d', PermIn a b d d' ∧ RowU w0 w' g n cap d' := by
 have HW0 := Lib.hid h
 clear h
 have hlw : IntKind.i64.wrap ((b : Int) - a) = (l : Int) := by rw [IntWalk.i64_in _ (by omega)]; omega
 have hlu : IntKind.u64.wrap (l : Int) = (l : Int) := by rw [IntKind.wrap_u64]; omega
 obtain ⟨M, hM⟩ : ∃ M, 1 <<< bitsLen l = M := ⟨_, rfl⟩
 have hMb : M ≤ 2 * l ∧ 1 ≤ M := by
  rw [← hM, Nat.one_shiftLeft]
  exact ⟨two_pow_bitsLen_le (by omega), Nat.one_le_two_pow⟩
 have HM := Lib.hid hM
 clear hM
 obtain ⟨M1, hM1⟩ : ∃ M1, M - 1 = M1 := ⟨_, rfl⟩
 have hM1w : IntKind.u64.wrap ((M : Int) - 1) = (M1 : Int) := by rw [IntKind.wrap_u64]; omega
 have hM1b : M1 < 2 * l := by omega
 obtain ⟨q, hq⟩ : ∃ q, l / 4 = q := ⟨_, rfl⟩
 have hqi2 : ((l : Int) / 4) = (q : Int) := by omega
 obtain ⟨q2, hq2⟩ : ∃ q2, q * 2 = q2 := ⟨_, rfl⟩
 have hq2w : IntKind.i64.wrap ((q : Int) * 2) = (q2 : Int) := by rw [IntWalk.i64_in _ (by omega)]; omega
 obtain ⟨j, hj⟩ : ∃ j, a + q2 = j := ⟨_, rfl⟩
 have hjw : IntKind.i64.wrap ((a : Int) + q2) = (j : Int) := by rw [IntWalk.i64_in _ (by omega)]; omega
 obtain ⟨j1, hj1⟩ : ∃ j1, j - 1 = j1 := ⟨_, rfl⟩
 have hj1w : IntKind.i64.wrap ((j : Int) - 1) = (j1 : Int) := by rw [IntWalk.i64_in _ (by omega)]; omega
 obtain ⟨j2, hj2⟩ : ∃ j2, j + 1 = j2 := ⟨_, rfl⟩
 have hj2w : IntKind.i64.wrap ((j : Int) + 1) = (j2 : Int) := by rw [IntWalk.i64_in _ (by omega)]; omega
 have HF := Lib.hid (show a ≤ j1 ∧ j2 < b ∧ j1 ≤ j2 by omega)
 have d8 : decide ((8 : Int) ≤ (l : Int)) = true := by simp; omega
 have hln : l ≤ 1000000000000 := by omega
 have HL := Lib.hid hl
 clear hq hj hq2 hj1 hj2 hl hM1
 go_enter Tryz.func86, Tryz.ntmps86
 go_upto_region 3 with (fail)
 refine Wb.wp_at fun w1 hw1 => ?_
 have HB1 := Lib.hid (show BoxU w0 w1 g n cap d w.heap.size (.int .u64 ((l : Nat) : Int)) by rw [hw1]; exact boxU_alloc HW0.out _ _)
 obtain ⟨s, hs⟩ : ∃ s, w.heap.size = s := ⟨_, rfl⟩
 rw [hs] at HB1 ⊢
 clear hs hw1 hlw
 go_wp2_with fail
 go_fit (npt_any l (by omega) _); rintro e w2 ⟨rfl, hw2⟩
 rw [HM.out]
 have HB2 := Lib.hid (show BoxU w0 w2 g n cap d s (.int .u64 ((l : Nat) : Int)) by rw [hw2]; exact HB1.out)
 clear hw2
 have hl64 : l < 18446744073709551616 := by omega
 go_wp2_with fail
 go_loopw [9] (fun vi wr => ∃ (i X : Nat) (dk : Array Int), vi = .int .i64 i ∧ j1 ≤ i ∧ i ≤ j2 + 1 ∧ X < 18446744073709551616 ∧ Hid (PermIn a b d dk) ∧ Hid (BoxU w0 wr g n cap dk s (.int .u64 (X : Int)))) (fun vi _ => j2 + 1 - (intOf vi).toNat)
 case atStart => exact ⟨j1, l, d, by first | rfl | go_num, by omega, by have := HF.out; omega, hl64, Lib.hid (permIn_refl d a b), HB2⟩
 case round =>
  obtain ⟨i, X, dk, rfl, hi1, hi2, hX, HP, HB⟩ := hrel
  obtain ⟨wO, hwz⟩ : ∃ z, z = wr := ⟨_, rfl⟩
  subst hwz
  by_cases hij : i ≤ j2
  case neg =>
   have dd : decide ((i : Int) ≤ (j2 : Int)) = false := by simp; omega
   go_wp2
   go_end0
   exact ⟨rfl, dk, HP.out, HB.out.row⟩
  have dd : decide ((i : Int) ≤ (j2 : Int)) = true := by simp; omega
  have hii := HF.out
  have hiN : i < n := by omega
  have hiI : (i : Int) < n := by omega
  have hab1 : a ≤ i ∧ i < b := by omega
  clear hii
  go_wp2_with fail
  go_fit (xorU_any s X hX _ HB.out.cell HB.out.free); rintro e w1 ⟨Y, hY, rfl, hw1⟩
  have HB2 := Lib.hid (show BoxU w0 w1 g n cap dk s (.int .u64 (Y : Int)) by rw [hw1]; exact (HB.out.set _).ext (.drewN (.refl _) _))
  clear hw1
  obtain ⟨w2, hwz⟩ : ∃ z, z = w1 := ⟨_, rfl⟩
  subst hwz
  obtain ⟨o, ho⟩ : ∃ o, Y &&& M1 = o := ⟨_, rfl⟩
  have hand : bits .and .u64 (Y : Int) (M1 : Int) = (o : Int) := by rw [bits_and_u64_nat _ _ hY (by omega), ho]
  have hob : o ≤ M1 := by rw [← ho]; exact Nat.and_le_right
  have how : IntKind.i64.wrap (o : Int) = (o : Int) := IntWalk.i64_in _ (by omega)
  clear ho
  have hlo := HL.out
  obtain ⟨G, hG⟩ : ∃ G : Nat → Int, ∀ t, G t = dk[t]! := ⟨fun t => dk[t]!, fun _ => rfl⟩
  have hcw : ∀ t, t < n → w2.cell? ⟨g, t, none⟩ = some (.int .u32 (G t)) := fun t ht => by rw [hG]; exact HB2.out.row.cell ht
  have hfw : ∀ t, t < n → w2.frozen? ⟨g, t, none⟩ = false := fun t ht => HB2.out.row.free t
  have HG : Hid (∀ t, G t = dk[t]!) := hG
  clear hG
  by_cases hol : l ≤ o
  ·have d2 : decide ((l : Int) ≤ (o : Int)) = true := by simp; omega
   obtain ⟨o2, ho2⟩ : ∃ o2, o - l = o2 := ⟨_, rfl⟩
   have ho2w : IntKind.i64.wrap ((o : Int) - l) = (o2 : Int) := by rw [IntWalk.i64_in _ (by omega)]; omega
   have ho2b : a + o2 < b := by omega
   clear ho2
   obtain ⟨p, hp⟩ : ∃ p, a + o2 = p := ⟨_, rfl⟩
   have hpw : IntKind.i64.wrap ((a : Int) + (o2 : Nat)) = (p : Int) := by rw [IntWalk.i64_in _ (by omega)]; omega
   have hpN : p < n := by omega
   have hpI : (p : Int) < n := by omega
   have HPP := Lib.hid (show a ≤ p ∧ p < b by omega)
   have HP2 := Lib.hid (show PermIn a b d (Sort.swp dk i p) from permIn_trans _ _ _ a b HP.out (swp_permIn dk a b i p (by omega) (by omega) HPP.out.1 HPP.out.2 (rowU_b HB2.out.row hb)))
   have HSW := Lib.hid (show ∀ w9, Wb.Ext w2 w9 → BoxU w0 ((w9.setCell ⟨g, i, none⟩ (.int .u32 (G p))).setCell ⟨g, p, none⟩ (.int .u32 (G i))) g n cap (Sort.swp dk i p) s (.int .u64 (Y : Int)) from fun w9 k9 => by rw [HG.out, HG.out]; exact (HB2.out.ext k9).swp i p)
   clear hp
   rcases Nat.lt_trichotomy i p with hxy | hxy | hxy
   ·have hxz : ¬ i = p := by omega
    have hxz2 : ¬ p = i := by omega
    go_wp2_with fail
    go_region
    all_goals go_wp2
    go_roundw
    case rel => exact ⟨i + 1, Y, _, by first | rfl | go_num, by omega, by omega, hY, HP2, Lib.hid (HSW.out _ (.drewN (.refl _) _))⟩
    case measure => first | (simp [intOf]; done) | (simp [intOf]; omega)
   ·subst hxy
    go_wp2_with fail
    go_region
    all_goals go_wp2
    go_roundw
    case rel => exact ⟨i + 1, Y, _, by first | rfl | go_num, by omega, by omega, hY, HP2, Lib.hid (HSW.out _ (.drewN (.refl _) _))⟩
    case measure => first | (simp [intOf]; done) | (simp [intOf]; omega)
   ·have hxz : ¬ i = p := by omega
    have hxz2 : ¬ p = i := by omega
    go_wp2_with fail
    go_region
    all_goals go_wp2
    go_roundw
    case rel => exact ⟨i + 1, Y, _, by first | rfl | go_num, by omega, by omega, hY, HP2, Lib.hid (HSW.out _ (.drewN (.refl _) _))⟩
    case measure => first | (simp [intOf]; done) | (simp [intOf]; omega)
  ·have d2 : decide ((l : Int) ≤ (o : Int)) = false := by simp; omega
   have ho2b : a + o < b := by omega
   obtain ⟨p, hp⟩ : ∃ p, a + o = p := ⟨_, rfl⟩
   have hpw : IntKind.i64.wrap ((a : Int) + (o : Nat)) = (p : Int) := by rw [IntWalk.i64_in _ (by omega)]; omega
   have hpN : p < n := by omega
   have hpI : (p : Int) < n := by omega
   have HPP := Lib.hid (show a ≤ p ∧ p < b by omega)
   have HP2 := Lib.hid (show PermIn a b d (Sort.swp dk i p) from permIn_trans _ _ _ a b HP.out (swp_permIn dk a b i p (by omega) (by omega) HPP.out.1 HPP.out.2 (rowU_b HB2.out.row hb)))
   have HSW := Lib.hid (show ∀ w9, Wb.Ext w2 w9 → BoxU w0 ((w9.setCell ⟨g, i, none⟩ (.int .u32 (G p))).setCell ⟨g, p, none⟩ (.int .u32 (G i))) g n cap (Sort.swp dk i p) s (.int .u64 (Y : Int)) from fun w9 k9 => by rw [HG.out, HG.out]; exact (HB2.out.ext k9).swp i p)
   clear hp
   rcases Nat.lt_trichotomy i p with hxy | hxy | hxy
   ·have hxz : ¬ i = p := by omega
    have hxz2 : ¬ p = i := by omega
    go_wp2_with fail
    go_region
    all_goals go_wp2
    go_roundw
    case rel => exact ⟨i + 1, Y, _, by first | rfl | go_num, by omega, by omega, hY, HP2, Lib.hid (HSW.out _ (.drewN (.refl _) _))⟩
    case measure => first | (simp [intOf]; done) | (simp [intOf]; omega)
   ·subst hxy
    go_wp2_with fail
    go_region
    all_goals go_wp2
    go_roundw
    case rel => exact ⟨i + 1, Y, _, by first | rfl | go_num, by omega, by omega, hY, HP2, Lib.hid (HSW.out _ (.drewN (.refl _) _))⟩
    case measure => first | (simp [intOf]; done) | (simp [intOf]; omega)
   ·have hxz : ¬ i = p := by omega
    have hxz2 : ¬ p = i := by omega
    go_wp2_with fail
    go_region
    all_goals go_wp2
    go_roundw
    case rel => exact ⟨i + 1, Y, _, by first | rfl | go_num, by omega, by omega, hY, HP2, Lib.hid (HSW.out _ (.drewN (.refl _) _))⟩
    case measure => first | (simp [intOf]; done) | (simp [intOf]; omega)
end Go.Proofs.YtnefdpnolojojaaGreatDoor
