/- MSr -/
import Derived.Test.YtnefdpnolojojaaGreatDoorMTb
import Derived.Test.YtnefdpnolojojaaGreatDoorMDa
import Derived.Sort.LotA
import Derived.Laws.OwnMore
import Derived.Deep.QuietTactic
import Derived.BigQuiet
import Derived.BigRegion
import Derived.RegionTactic
import Derived.BigCall
import Derived.CellFam
import Derived.IntWalk
import Derived.Sort.LotB
import Derived.Sort.LotD3
import Derived.Deep.DeepCutAuto
namespace Go.Proofs.YtnefdpnolojojaaGreatDoor
open Go.RowKit Go.Sort
set_option maxRecDepth 8000
attribute [local go_sem ↓] Go.wp_at_zero Go.wp_at_succ
structure RowU (w0 w : World) (g n cap : Nat) (d : Array Int) : Prop where
 own : w.ownsRow g 47 1 (.slice (some ⟨g, 0, none⟩) n cap) n (d.toList.map (Value.int .u32))
 grow : w0.grownBy w (some g)
theorem RowU.size {w0 w : World} {g n cap : Nat} {d : Array Int} (h : RowU w0 w g n cap d) : d.size = n := by
 have := h.own.1
 simpa using this
theorem RowU.cell {w0 w : World} {g n cap : Nat} {d : Array Int} (h : RowU w0 w g n cap d) {j : Nat} (hj : j < n) : w.cell? ⟨g, j, none⟩ = some (.int .u32 d[j]!) := by
 have hs := h.size
 rw [h.own.cellAt j (by omega), List.getElem?_map, Array.getElem?_toList, Array.getElem?_eq_getElem (by omega), getElem!_pos d j (by omega)]
 rfl
theorem RowU.free {w0 w : World} {g n cap : Nat} {d : Array Int} (h : RowU w0 w g n cap d) (j : Nat) : w.frozen? ⟨g, j, none⟩ = false := h.own.frozenAt j
theorem RowU.ext {w0 w w' : World} {g n cap : Nat} {d : Array Int} (h : RowU w0 w g n cap d) (k : Wb.Ext w w') : RowU w0 w' g n cap d := by
 have hg : w.grownBy w' none := ⟨k.os, k.tape, k.output, k.size, fun i hi _ => k.block i hi⟩
 exact ⟨h.own.kept hg (.inr (fun e => by cases e)), h.grow.trans (hg.but _)⟩
theorem RowU.drew {w0 w : World} {g n cap : Nat} {d : Array Int} (h : RowU w0 w g n cap d) : RowU w0 w.drew g n cap d := h.ext (.drew (.refl _))
theorem RowU.set {w0 w : World} {g n cap : Nat} {d : Array Int} (h : RowU w0 w g n cap d) {j : Nat} (x : Int) : RowU w0 (w.setCell ⟨g, j, none⟩ (.int .u32 x)) g n cap (d.setIfInBounds j x) := by
 obtain ⟨h1, h2⟩ := h.own.stored j (.int .u32 x)
 refine ⟨?_, h.grow.trans h2⟩
 rw [Array.toList_setIfInBounds, List.map_set]; exact h1
theorem RowU.swp {w0 w : World} {g n cap : Nat} {d : Array Int} (h : RowU w0 w g n cap d) (i j : Nat) : RowU w0 ((w.setCell ⟨g, i, none⟩ (.int .u32 d[j]!)).setCell ⟨g, j, none⟩ (.int .u32 d[i]!)) g n cap (Sort.swp d i j) := (h.set _).set _
theorem RowU.base {w0 w1 w : World} {g n cap : Nat} {d : Array Int} (h : RowU w1 w g n cap d) (k : w0.grownBy w1 (some g)) : RowU w0 w g n cap d := ⟨h.own, k.trans h.grow⟩
theorem nanU_any (x : Int) (w : World) : Calls Tryz.prog 117 #[.int .u32 x] w fun e w' => e = .returned (.bool false) ∧ w' = w := by
 go_enter Tryz.func117, Tryz.ntmps117
 go_wp2
 go_ret
 exact ⟨by simp, rfl⟩
theorem lessU_any (x y : Int) (w : World) : Calls Tryz.prog 90 #[.int .u32 x, .int .u32 y] w fun e w' => e = .returned (.bool (ltInt x y)) ∧ w' = w := by
 go_enter Tryz.func90, Tryz.ntmps90
 go_wp2_with fail
 go_fit (nanU_any x _); rintro e w1 ⟨rfl, rfl⟩
 go_wp2
 go_ret
 exact ⟨by simp [ltInt], rfl⟩
section
variable {α : Type} [Inhabited α] (lt : α → α → Bool)
theorem insI_go (a j : Nat) (d : Array α) (hj : a < j) (hl : lt d[j]! d[j - 1]! = true) : insInner lt a j d = insInner lt a (j - 1) (swp d j (j - 1)) := by
 obtain ⟨k, rfl⟩ : ∃ k, j = k + 1 := ⟨j - 1, by omega⟩
 rw [insInner]
 simp only [Nat.add_sub_cancel] at hl ⊢
 simp [hj, hl]
theorem insI_stop (a j : Nat) (d : Array α) (h : j ≤ a ∨ lt d[j]! d[j - 1]! = false) : insInner lt a j d = d := by
 cases j with
 | zero => rw [insInner]
 | succ k =>
  rw [insInner]
  simp only [Nat.add_sub_cancel] at h
  rcases h with h | h
  ·simp [show ¬ k + 1 > a by omega]
  ·simp [h]
theorem insO_go (a b i : Nat) (d : Array α) (h : i < b) : insOuter lt a b i d = insOuter lt a b (i + 1) (insInner lt a i d) := by rw [insOuter, if_pos h]
theorem insO_stop (a b i : Nat) (d : Array α) (h : ¬ i < b) : insOuter lt a b i d = d := by rw [insOuter, if_neg h]
end
theorem insU_any (g n cap a b : Nat) (d : Array Int) (w0 w : World) (h : RowU w0 w g n cap d) (hab : a ≤ b) (hb : b ≤ n) (hn : n ≤ 4611686018427387904) :
  Calls Tryz.prog 84 #[.slice (some ⟨g, 0, none⟩) n cap, .int .i64 a, .int .i64 b] w fun e w' => e = .returned (.tuple #[]) ∧ RowU w0 w' g n cap (Sort.insertionSort ltInt d a b) := by
 have HW0 := Lib.hid h
 clear h
 go_enter Tryz.func84, Tryz.ntmps84
 go_wp2
 go_loopw [6] (fun vi wr => ∃ (i : Nat) (dk : Array Int), vi = .int .i64 i ∧ a < i ∧ i ≤ b + 1 ∧ Hid (RowU w0 wr g n cap dk) ∧ Hid (insOuter ltInt a b i dk = insOuter ltInt a b (a + 1) d)) (fun vi _ => b + 1 - (intOf vi).toNat)
 case atStart => exact ⟨a + 1, d, by go_num, by omega, by omega, HW0, Lib.hid rfl⟩
 case round =>
  obtain ⟨i, dk, rfl, hai, hib, HR, HO⟩ := hrel
  by_cases hlt : i < b
  case neg =>
   have hge : decide ((i : Int) < (b : Int)) = false := by simp; omega
   go_wp2
   go_end0
   exact ⟨rfl, by unfold Sort.insertionSort; rw [← HO.out, insO_stop _ _ _ _ _ hlt]; exact HR.out⟩
  have hlti : decide ((i : Int) < (b : Int)) = true := by simp; omega
  go_wp2_with fail
  go_loopw [7] (fun vj wr2 => ∃ (j : Nat) (dj : Array Int), vj = .int .i64 j ∧ a ≤ j ∧ j ≤ i ∧ Hid (RowU w0 wr2 g n cap dj) ∧ Hid (insInner ltInt a j dj = insInner ltInt a i dk)) (fun vj _ => (intOf vj).toNat)
  case atStart => exact ⟨i, dk, rfl, by omega, Nat.le_refl _, HR, Lib.hid rfl⟩
  case round =>
   obtain ⟨j, dj, rfl, haj, hji, HR2, HI⟩ := hrel
   obtain ⟨G, hG⟩ : ∃ G : Nat → Int, ∀ t, G t = dj[t]! := ⟨fun t => dj[t]!, fun _ => rfl⟩
   have hcw : ∀ t, t < n → wr.cell? ⟨g, t, none⟩ = some (.int .u32 (G t)) := fun t ht => by rw [hG]; exact HR2.out.cell ht
   have hfw : ∀ t, t < n → wr.frozen? ⟨g, t, none⟩ = false := fun t ht => HR2.out.free t
   have HG : Hid (∀ t, G t = dj[t]!) := hG
   clear hG
   have OUT : Hid ((j ≤ a ∨ ltInt dj[j]! dj[j - 1]! = false) → insOuter ltInt a b (i + 1) dj = insOuter ltInt a b (a + 1) d) := Lib.hid fun hs => by
    rw [← HO.out, insO_go _ _ _ _ _ hlt, ← HI.out, insI_stop _ _ _ _ hs]
   go_wp2_with fail
   by_cases hja : a < j
   case neg =>
    have dja : decide ((a : Int) < (j : Int)) = false := by simp; omega
    have hA := OUT.out (Or.inl (by omega))
    have hI9 : insInner ltInt a j dj = dj := insI_stop _ _ _ _ (Or.inl (by omega))
    have HO2 := Lib.hid hA
    clear hA hI9
    go_quiet (first | (go_at_call 90; refine Calls.quiet_of_same (lessU_any _ _ _)))
    go_wp2
    go_roundw
    case rel => exact ⟨i + 1, dj, by go_num, by omega, by omega, Lib.hid (HR2.out.ext (by (repeat' (first | (with_reducible assumption) | (with_reducible exact Wb.Ext.refl _) | (with_reducible refine Wb.Ext.drew ?_) | (with_reducible refine Wb.Ext.drewN ?_ _) | (with_reducible refine Wb.Ext.alloc ?_ _) | (with_reducible refine Wb.Ext.trans ?_ (by assumption)))))), HO2⟩
    case measure => first | (simp [intOf]; done) | (simp [intOf]; omega)
   have dja : decide ((a : Int) < (j : Int)) = true := by simp; omega
   have hjn : (j : Int) < n := by omega
   have hjN : j < n := by omega
   have hj1 : IntKind.i64.wrap ((j : Int) - 1) = ((j - 1 : Nat) : Int) := by rw [IntWalk.i64_in _ (by omega)]; omega
   have hjn1 : ((j - 1 : Nat) : Int) < n := by omega
   have hjN1 : j - 1 < n := by omega
   cases hl : ltInt (G j) (G (j - 1))
   ·have HO2 := Lib.hid (OUT.out (Or.inr (by rw [← HG.out, ← HG.out]; exact hl)))
    go_quiet (first | (go_at_call 90; refine Calls.quiet_of_same (lessU_any _ _ _)))
    go_wp2
    go_roundw
    case rel => exact ⟨i + 1, dj, by go_num, by omega, by omega, Lib.hid (HR2.out.ext (by (repeat' (first | (with_reducible assumption) | (with_reducible exact Wb.Ext.refl _) | (with_reducible refine Wb.Ext.drew ?_) | (with_reducible refine Wb.Ext.drewN ?_ _) | (with_reducible refine Wb.Ext.alloc ?_ _) | (with_reducible refine Wb.Ext.trans ?_ (by assumption)))))), HO2⟩
    case measure => first | (simp [intOf]; done) | (simp [intOf]; omega)
   ·have HI2 := Lib.hid (show insInner ltInt a (j - 1) (Sort.swp dj j (j - 1)) = insInner ltInt a i dk by rw [← HI.out, insI_go ltInt a j dj hja (by rw [← HG.out, ← HG.out]; exact hl)])
    have HSW := Lib.hid (show ∀ w9, Wb.Ext wr w9 → RowU w0 ((w9.setCell ⟨g, j, none⟩ (.int .u32 (G (j - 1)))).setCell ⟨g, j - 1, none⟩ (.int .u32 (G j))) g n cap (Sort.swp dj j (j - 1)) from fun w9 k => by rw [HG.out, HG.out]; exact (HR2.out.ext k).swp j (j - 1))
    go_quiet (first | (go_at_call 90; refine Calls.quiet_of_same (lessU_any _ _ _)))
    go_wp2
    go_region
    all_goals go_wp2
    go_roundw
    case rel => exact ⟨j - 1, Sort.swp dj j (j - 1), rfl, by omega, by omega, Lib.hid (HSW.out _ (.drewN (.refl _) _)), HI2⟩
    case measure => first | (simp [intOf]; done) | (simp [intOf]; omega)
end Go.Proofs.YtnefdpnolojojaaGreatDoor
namespace Go.Proofs.YtnefdpnolojojaaGreatDoor
open Go.RowKit Go.Sort
set_option maxRecDepth 8000
attribute [local go_sem ↓] Go.wp_at_zero Go.wp_at_succ
theorem rowU_b {w0 w : World} {g n cap : Nat} {d : Array Int} (h : RowU w0 w g n cap d) {b : Nat} (hb : b ≤ n) : b ≤ d.size := by rw [h.size]; exact hb
theorem revU_any (g n cap a b : Nat) (d : Array Int) (w0 w : World) (h : RowU w0 w g n cap d) (hab : a ≤ b) (hb : b ≤ n) (hn : n ≤ 4611686018427387904) :
  Calls Tryz.prog 88 #[.slice (some ⟨g, 0, none⟩) n cap, .int .i64 a, .int .i64 b] w fun e w' => e = .returned (.tuple #[]) ∧ ∃ d', PermIn a b d d' ∧ RowU w0 w' g n cap d' := by
 have HW0 := Lib.hid h
 clear h
 go_enter Tryz.func88, Tryz.ntmps88
 go_wp2
 go_loopw [6, 7] (fun vi vj wr => ∃ (i : Nat) (j : Int) (dk : Array Int), vi = .int .i64 i ∧ vj = .int .i64 j ∧ a ≤ i ∧ j < b ∧ (i : Int) + j = (a : Int) + b - 1 ∧ i ≤ b ∧ Hid (RowU w0 wr g n cap dk) ∧ Hid (PermIn a b d dk)) (fun vi _ _ => b + 1 - (intOf vi).toNat)
 case atStart => exact ⟨a, (b : Int) - 1, d, rfl, by go_num, Nat.le_refl _, by omega, by omega, hab, HW0, Lib.hid (permIn_refl d a b)⟩
 case round =>
  obtain ⟨i, j, dk, rfl, rfl, hai, hjb, hij, hib, HR, HP⟩ := hrel
  by_cases hlt : (i : Int) < j
  case neg =>
   have hge : decide ((i : Int) < j) = false := by simp; omega
   go_wp2
   go_end0
   exact ⟨rfl, dk, HP.out, HR.out⟩
  obtain ⟨k, rfl⟩ : ∃ k : Nat, j = k := ⟨j.toNat, by omega⟩
  have hlti : decide ((i : Int) < (k : Int)) = true := by simp; omega
  obtain ⟨G, hG⟩ : ∃ G : Nat → Int, ∀ t, G t = dk[t]! := ⟨fun t => dk[t]!, fun _ => rfl⟩
  have hcw : ∀ t, t < n → wr.cell? ⟨g, t, none⟩ = some (.int .u32 (G t)) := fun t ht => by rw [hG]; exact HR.out.cell ht
  have hfw : ∀ t, t < n → wr.frozen? ⟨g, t, none⟩ = false := fun t ht => HR.out.free t
  have HG : Hid (∀ t, G t = dk[t]!) := hG
  clear hG
  have hin : (i : Int) < n := by omega
  have hkn : (k : Int) < n := by omega
  have hiN : i < n := by omega
  have hkN : k < n := by omega
  have HSW := Lib.hid (show ∀ w9, Wb.Ext wr w9 → RowU w0 ((w9.setCell ⟨g, i, none⟩ (.int .u32 (G k))).setCell ⟨g, k, none⟩ (.int .u32 (G i))) g n cap (Sort.swp dk i k) from fun w9 k9 => by rw [HG.out, HG.out]; exact (HR.out.ext k9).swp i k)
  have HP2 := Lib.hid (show PermIn a b d (Sort.swp dk i k) from permIn_trans _ _ _ a b HP.out (swp_permIn dk a b i k (by omega) (by omega) (by omega) (by omega) (rowU_b HR.out hb)))
  have hj1 : IntKind.i64.wrap ((k : Int) - 1) = (k : Int) - 1 := IntWalk.i64_in _ (by omega)
  go_wp2_with fail
  go_region
  all_goals go_wp2
  go_roundw
  case rel => exact ⟨i + 1, (k : Int) - 1, Sort.swp dk i k, by go_num, by first | rfl | go_num, by omega, by omega, by omega, by omega, Lib.hid (HSW.out _ (.drew (.refl _))), HP2⟩
  case measure => first | (simp [intOf]; done) | (simp [intOf]; omega)
theorem sift_end {lt : Int → Int → Bool} {hi first root : Nat} {d : Array Int} (h : 2 * root + 1 ≥ hi) : siftDown lt hi first root d = d := by rw [siftDown, dif_pos h]
theorem sift_two {lt : Int → Int → Bool} {hi first root : Nat} {d : Array Int} (h : ¬ 2 * root + 1 ≥ hi) (h2 : 2 * root + 1 + 1 < hi) (hl : lt d[first + (2 * root + 1)]! d[first + (2 * root + 1) + 1]! = true) :
  siftDown lt hi first root d = if lt d[first + root]! d[first + (2 * root + 2)]! = true then siftDown lt hi first (2 * root + 2) (Sort.swp d (first + root) (first + (2 * root + 2))) else d := by
 conv => lhs; rw [siftDown]
 rw [dif_neg h, if_pos (by simp [h2, hl])]
 cases hc : lt d[first + root]! d[first + (2 * root + 2)]!
 ·simp
 ·simp only [Bool.not_true, Bool.false_eq_true, if_false, if_true]
  rw [dif_pos (by omega)]
theorem sift_one {lt : Int → Int → Bool} {hi first root : Nat} {d : Array Int} (h : ¬ 2 * root + 1 ≥ hi) (h2 : ¬ (2 * root + 1 + 1 < hi ∧ lt d[first + (2 * root + 1)]! d[first + (2 * root + 1) + 1]! = true)) :
  siftDown lt hi first root d = if lt d[first + root]! d[first + (2 * root + 1)]! = true then siftDown lt hi first (2 * root + 1) (Sort.swp d (first + root) (first + (2 * root + 1))) else d := by
 conv => lhs; rw [siftDown]
 rw [dif_neg h, if_neg (by simpa using h2)]
 cases hc : lt d[first + root]! d[first + (2 * root + 1)]!
 ·simp
 ·simp
theorem siftU_any (g n cap lo hi first : Nat) (d : Array Int) (w0 w : World) (h : RowU w0 w g n cap d) (hlo : lo ≤ hi) (hb : first + hi ≤ n) (hn : n ≤ 1000000000000) :
  Calls Tryz.prog 112 #[.slice (some ⟨g, 0, none⟩) n cap, .int .i64 lo, .int .i64 hi, .int .i64 first] w fun e w' => e = .returned (.tuple #[]) ∧ RowU w0 w' g n cap (siftDown ltInt hi first lo d) := by
 have HW0 := Lib.hid h
 clear h
 go_enter Tryz.func112, Tryz.ntmps112
 go_wp2
 go_loopw [8] (fun vi wr => ∃ (r : Nat) (dk : Array Int), vi = .int .i64 r ∧ r ≤ hi ∧ Hid (RowU w0 wr g n cap dk) ∧ Hid (siftDown ltInt hi first r dk = siftDown ltInt hi first lo d)) (fun vi _ => hi - (intOf vi).toNat)
 case atStart => exact ⟨lo, d, rfl, hlo, HW0, Lib.hid rfl⟩
 case round =>
  obtain ⟨r, dk, rfl, hr, HR, HS⟩ := hrel
  obtain ⟨c, hc⟩ : ∃ c, 2 * r + 1 = c := ⟨_, rfl⟩
  go_upto_region 2 with (fail)
  rw [show 2 * (r : Int) + 1 = (c : Int) by omega]
  by_cases hge : c ≥ hi
  ·have d1 : decide ((hi : Int) ≤ (c : Int)) = true := by simp; omega
   have hHS := Lib.hid (show siftDown ltInt hi first lo d = dk by rw [← HS.out, sift_end (by rw [hc]; exact hge)])
   clear hc
   go_wp2
   go_end0
   exact ⟨rfl, by rw [hHS.out]; exact HR.out⟩
  have d1 : decide ((hi : Int) ≤ (c : Int)) = false := by simp; omega
  have hch : c < hi := by omega
  obtain ⟨G, hG⟩ : ∃ G : Nat → Int, ∀ t, G t = dk[t]! := ⟨fun t => dk[t]!, fun _ => rfl⟩
  have hcw : ∀ t, t < n → wr.cell? ⟨g, t, none⟩ = some (.int .u32 (G t)) := fun t ht => by rw [hG]; exact HR.out.cell ht
  have hfw : ∀ t, t < n → wr.frozen? ⟨g, t, none⟩ = false := fun t ht => HR.out.free t
  have HG : Hid (∀ t, G t = dk[t]!) := hG
  clear hG
  obtain ⟨q, hq⟩ : ∃ q, first + r = q := ⟨_, rfl⟩
  obtain ⟨p, hp⟩ : ∃ p, first + c = p := ⟨_, rfl⟩
  obtain ⟨p1, hp1⟩ : ∃ p1, p + 1 = p1 := ⟨_, rfl⟩
  obtain ⟨e, he⟩ : ∃ e, c + 1 = e := ⟨_, rfl⟩
  have hm4 : IntKind.i64.wrap ((first : Int) + r) = (q : Int) := by rw [IntWalk.i64_in _ (by omega)]; omega
  have hm6 : IntKind.i64.wrap ((c : Int) + 1) = (e : Int) := by rw [IntWalk.i64_in _ (by omega)]; omega
  have hm7 : IntKind.i64.wrap ((first : Int) + c) = (p : Int) := by rw [IntWalk.i64_in _ (by omega)]; omega
  have hm8 : IntKind.i64.wrap ((p : Int) + 1) = (p1 : Int) := by rw [IntWalk.i64_in _ (by omega)]; omega
  have hqn : (q : Int) < n := by omega
  have hqN : q < n := by omega
  have hpn : (p : Int) < n := by omega
  have hpN : p < n := by omega
  have hrc : r < c := by omega
  have hre : r < e := by omega
  have hqp : q < p := by omega
  have hqp1 : q < p1 := by omega
  have HQE := Lib.hid hq
  have HC := Lib.hid hc
  have HP := Lib.hid hp
  have HP1 := Lib.hid hp1
  have HE := Lib.hid he
  have hNG := Lib.hid (show ¬ 2 * r + 1 ≥ hi by omega)
  by_cases heh : e < hi
  case neg =>
   have d2 : decide ((e : Int) < (hi : Int)) = false := by simp; omega
   have hN1 := Lib.hid (show ¬ (2 * r + 1 + 1 < hi ∧ ltInt dk[first + (2 * r + 1)]! dk[first + (2 * r + 1) + 1]! = true) by intro h; omega)
   clear hq hc hp hp1
   clear he
   go_wp2_with fail
   go_quiet (first | (go_at_call 90; refine Calls.quiet_of_same (lessU_any _ _ _)))
   go_upto_region 5 with (fail)
   refine Wb.wp_at fun w5 hw5 => ?_
   have hx5 : Wb.Ext wr w5 := by rw [hw5]; first | exact Wb.Ext.refl _ | (repeat' (first | (with_reducible assumption) | (with_reducible exact Wb.Ext.refl _) | (with_reducible refine Wb.Ext.drew ?_) | (with_reducible refine Wb.Ext.drewN ?_ _) | (with_reducible refine Wb.Ext.alloc ?_ _) | (with_reducible refine Wb.Ext.trans ?_ (by assumption))))
   have HR5 := Lib.hid (HR.out.ext hx5)
   clear hcw hfw
   have hcw : ∀ t, t < n → w5.cell? ⟨g, t, none⟩ = some (.int .u32 (G t)) := fun t ht => by rw [HG.out]; exact HR5.out.cell ht
   have hfw : ∀ t, t < n → w5.frozen? ⟨g, t, none⟩ = false := fun t ht => HR5.out.free t
   clear hw5 hx5
   have HSE := HP
   cases hl2 : ltInt (G q) (G p)
   ·have hHS := Lib.hid (show siftDown ltInt hi first lo d = dk by
     rw [← HS.out, sift_one hNG.out hN1.out, HC.out, if_neg (by rw [HQE.out, HSE.out, ← HG.out, ← HG.out, hl2]; decide)])
    have hexit : Hid (RowU w0 w5 g n cap dk) := HR5
    go_wp2_with fail
    go_quiet (first | (go_at_call 90; refine Calls.quiet_of_same (lessU_any _ _ _)))
    go_wp2
    refine bodyPost_ret (v := .tuple #[]) (by simp [results, Tryz.results112, go_sem]) rfl ⟨rfl, by rw [hHS.out]; exact hexit.out.ext (by (repeat' (first | (with_reducible assumption) | (with_reducible exact Wb.Ext.refl _) | (with_reducible refine Wb.Ext.drew ?_) | (with_reducible refine Wb.Ext.drewN ?_ _) | (with_reducible refine Wb.Ext.alloc ?_ _) | (with_reducible refine Wb.Ext.trans ?_ (by assumption)))))⟩
   ·have HSW := Lib.hid (show ∀ w9, Wb.Ext w5 w9 → RowU w0 ((w9.setCell ⟨g, q, none⟩ (.int .u32 (G p))).setCell ⟨g, p, none⟩ (.int .u32 (G q))) g n cap (Sort.swp dk q p) from fun w9 k9 => by rw [HG.out, HG.out]; exact (HR5.out.ext k9).swp q p)
    have HS2 := Lib.hid (show siftDown ltInt hi first c (Sort.swp dk q p) = siftDown ltInt hi first lo d by
     rw [← HS.out, sift_one hNG.out hN1.out, HC.out, if_pos (by rw [HQE.out, HSE.out, ← HG.out, ← HG.out, hl2]), HQE.out, HSE.out])
    go_wp2_with fail
    go_quiet (first | (go_at_call 90; refine Calls.quiet_of_same (lessU_any _ _ _)))
    go_wp2
    go_region
    all_goals go_wp2
    go_roundw
    case rel => exact ⟨c, Sort.swp dk q p, by first | rfl | go_num, by omega, Lib.hid (HSW.out _ (.drewN (.refl _) _)), HS2⟩
    case measure => first | (simp [intOf]; done) | (simp [intOf]; omega)
  have d2 : decide ((e : Int) < (hi : Int)) = true := by simp; omega
  have hp1n : (p1 : Int) < n := by omega
  have hp1N : p1 < n := by omega
  cases hl : ltInt (G p) (G p1)
  ·have hN1 := Lib.hid (show ¬ (2 * r + 1 + 1 < hi ∧ ltInt dk[first + (2 * r + 1)]! dk[first + (2 * r + 1) + 1]! = true) by
    rintro ⟨_, h⟩
    rw [show first + (2 * r + 1) = p by omega, show p + 1 = p1 by omega, ← HG.out, ← HG.out, hl] at h; cases h)
   clear hq hc hp hp1
   clear he
   go_wp2_with fail
   go_quiet (first | (go_at_call 90; refine Calls.quiet_of_same (lessU_any _ _ _)))
   go_upto_region 5 with (fail)
   refine Wb.wp_at fun w5 hw5 => ?_
   have hx5 : Wb.Ext wr w5 := by rw [hw5]; first | exact Wb.Ext.refl _ | (repeat' (first | (with_reducible assumption) | (with_reducible exact Wb.Ext.refl _) | (with_reducible refine Wb.Ext.drew ?_) | (with_reducible refine Wb.Ext.drewN ?_ _) | (with_reducible refine Wb.Ext.alloc ?_ _) | (with_reducible refine Wb.Ext.trans ?_ (by assumption))))
   have HR5 := Lib.hid (HR.out.ext hx5)
   clear hcw hfw
   have hcw : ∀ t, t < n → w5.cell? ⟨g, t, none⟩ = some (.int .u32 (G t)) := fun t ht => by rw [HG.out]; exact HR5.out.cell ht
   have hfw : ∀ t, t < n → w5.frozen? ⟨g, t, none⟩ = false := fun t ht => HR5.out.free t
   clear hw5 hx5
   have HSE := HP
   cases hl2 : ltInt (G q) (G p)
   ·have hHS := Lib.hid (show siftDown ltInt hi first lo d = dk by
     rw [← HS.out, sift_one hNG.out hN1.out, HC.out, if_neg (by rw [HQE.out, HSE.out, ← HG.out, ← HG.out, hl2]; decide)])
    have hexit : Hid (RowU w0 w5 g n cap dk) := HR5
    go_wp2_with fail
    go_quiet (first | (go_at_call 90; refine Calls.quiet_of_same (lessU_any _ _ _)))
    go_wp2
    refine bodyPost_ret (v := .tuple #[]) (by simp [results, Tryz.results112, go_sem]) rfl ⟨rfl, by rw [hHS.out]; exact hexit.out.ext (by (repeat' (first | (with_reducible assumption) | (with_reducible exact Wb.Ext.refl _) | (with_reducible refine Wb.Ext.drew ?_) | (with_reducible refine Wb.Ext.drewN ?_ _) | (with_reducible refine Wb.Ext.alloc ?_ _) | (with_reducible refine Wb.Ext.trans ?_ (by assumption)))))⟩
   ·have HSW := Lib.hid (show ∀ w9, Wb.Ext w5 w9 → RowU w0 ((w9.setCell ⟨g, q, none⟩ (.int .u32 (G p))).setCell ⟨g, p, none⟩ (.int .u32 (G q))) g n cap (Sort.swp dk q p) from fun w9 k9 => by rw [HG.out, HG.out]; exact (HR5.out.ext k9).swp q p)
    have HS2 := Lib.hid (show siftDown ltInt hi first c (Sort.swp dk q p) = siftDown ltInt hi first lo d by
     rw [← HS.out, sift_one hNG.out hN1.out, HC.out, if_pos (by rw [HQE.out, HSE.out, ← HG.out, ← HG.out, hl2]), HQE.out, HSE.out])
    go_wp2_with fail
    go_quiet (first | (go_at_call 90; refine Calls.quiet_of_same (lessU_any _ _ _)))
    go_wp2
    go_region
    all_goals go_wp2
    go_roundw
    case rel => exact ⟨c, Sort.swp dk q p, by first | rfl | go_num, by omega, Lib.hid (HSW.out _ (.drewN (.refl _) _)), HS2⟩
    case measure => first | (simp [intOf]; done) | (simp [intOf]; omega)
  ·have hN1 := Lib.hid (show 2 * r + 1 + 1 < hi ∧ ltInt dk[first + (2 * r + 1)]! dk[first + (2 * r + 1) + 1]! = true from
    ⟨by omega, by rw [show first + (2 * r + 1) = p by omega, show p + 1 = p1 by omega, ← HG.out, ← HG.out, hl]⟩)
   have hE2 := Lib.hid (show 2 * r + 2 = e by omega)
   have hce : (c : Int) + 1 = (e : Int) := by omega
   clear hq hc hp hp1
   clear he
   have HCE := Lib.hid hce
   clear hce
   go_wp2_with fail
   go_quiet (first | (go_at_call 90; refine Calls.quiet_of_same (lessU_any _ _ _)))
   go_upto_region 5 with (fail)
   refine Wb.wp_at fun w5 hw5 => ?_
   have hx5 : Wb.Ext wr w5 := by rw [hw5]; first | exact Wb.Ext.refl _ | (repeat' (first | (with_reducible assumption) | (with_reducible exact Wb.Ext.refl _) | (with_reducible refine Wb.Ext.drew ?_) | (with_reducible refine Wb.Ext.drewN ?_ _) | (with_reducible refine Wb.Ext.alloc ?_ _) | (with_reducible refine Wb.Ext.trans ?_ (by assumption))))
   have HR5 := Lib.hid (HR.out.ext hx5)
   clear hcw hfw
   have hcw : ∀ t, t < n → w5.cell? ⟨g, t, none⟩ = some (.int .u32 (G t)) := fun t ht => by rw [HG.out]; exact HR5.out.cell ht
   have hfw : ∀ t, t < n → w5.frozen? ⟨g, t, none⟩ = false := fun t ht => HR5.out.free t
   clear hw5 hx5
   obtain ⟨s, hs⟩ : ∃ s, first + e = s := ⟨_, rfl⟩
   have hm5 : IntKind.i64.wrap ((first : Int) + e) = (s : Int) := by rw [IntWalk.i64_in _ (by omega)]; omega
   have hsn : (s : Int) < n := by omega
   have hsN : s < n := by omega
   have hqs : q < s := by have := HQE.out; omega
   have HSE := Lib.hid hs
   clear hs
   cases hl2 : ltInt (G q) (G s)
   ·have hHS := Lib.hid (show siftDown ltInt hi first lo d = dk by
     rw [← HS.out, sift_two hNG.out hN1.out.1 hN1.out.2, hE2.out, if_neg (by rw [HQE.out, HSE.out, ← HG.out, ← HG.out, hl2]; decide)])
    have hexit : Hid (RowU w0 w5 g n cap dk) := HR5
    go_wp2_with fail
    go_quiet (first | (go_at_call 90; refine Calls.quiet_of_same (lessU_any _ _ _)))
    go_wp2
    refine bodyPost_ret (v := .tuple #[]) (by simp [results, Tryz.results112, go_sem]) rfl ⟨rfl, by rw [hHS.out]; exact hexit.out.ext (by (repeat' (first | (with_reducible assumption) | (with_reducible exact Wb.Ext.refl _) | (with_reducible refine Wb.Ext.drew ?_) | (with_reducible refine Wb.Ext.drewN ?_ _) | (with_reducible refine Wb.Ext.alloc ?_ _) | (with_reducible refine Wb.Ext.trans ?_ (by assumption)))))⟩
   ·have HSW := Lib.hid (show ∀ w9, Wb.Ext w5 w9 → RowU w0 ((w9.setCell ⟨g, q, none⟩ (.int .u32 (G s))).setCell ⟨g, s, none⟩ (.int .u32 (G q))) g n cap (Sort.swp dk q s) from fun w9 k9 => by rw [HG.out, HG.out]; exact (HR5.out.ext k9).swp q s)
    have HS2 := Lib.hid (show siftDown ltInt hi first e (Sort.swp dk q s) = siftDown ltInt hi first lo d by
     rw [← HS.out, sift_two hNG.out hN1.out.1 hN1.out.2, hE2.out, if_pos (by rw [HQE.out, HSE.out, ← HG.out, ← HG.out, hl2]), HQE.out, HSE.out])
    go_wp2_with fail
    go_quiet (first | (go_at_call 90; refine Calls.quiet_of_same (lessU_any _ _ _)))
    go_wp2
    go_region
    all_goals go_wp2
    go_roundw
    case rel => exact ⟨e, Sort.swp dk q s, by first | rfl | go_num, by omega, Lib.hid (HSW.out _ (.drewN (.refl _) _)), HS2⟩
    case measure => first | (simp [intOf]; done) | (simp [intOf]; omega)
end Go.Proofs.YtnefdpnolojojaaGreatDoor
namespace Go.Proofs.YtnefdpnolojojaaGreatDoor
open Go.RowKit Go.Sort
set_option maxRecDepth 8000
set_option maxHeartbeats 1000000
attribute [local go_sem ↓] Go.wp_at_zero Go.wp_at_succ
theorem heapU_any (g n cap a b m : Nat) (d : Array Int) (w0 w : World) (h : RowU w0 w g n cap d) (hm : a + m = b) (hm1 : 1 ≤ m) (hb : b ≤ n) (hn : n ≤ 1000000000000) :
  Calls Tryz.prog 85 #[.slice (some ⟨g, 0, none⟩) n cap, .int .i64 a, .int .i64 b] w fun e w' => e = .returned (.tuple #[]) ∧ RowU w0 w' g n cap (Sort.heapSort ltInt d a b) := by
 have HW0 := Lib.hid h
 clear h
 have hmw : IntKind.i64.wrap ((b : Int) - a) = (m : Int) := by rw [IntWalk.i64_in _ (by omega)]; omega
 have HMM := Lib.hid hm
 obtain ⟨k0, hk0⟩ : ∃ k0, (m - 1) / 2 + 1 = k0 := ⟨_, rfl⟩
 have HK := Lib.hid hk0
 have hbm : b - a = m := by omega
 have HB := Lib.hid (show Sort.heapSort ltInt d a b = heapPop ltInt a m (heapBuild ltInt m a k0 d) by rw [Sort.heapSort, hbm, hk0])
 have hk1 : IntKind.i64.wrap ((m : Int) - 1) = ((m - 1 : Nat) : Int) := by rw [IntWalk.i64_in _ (by omega)]; omega
 have hkm : k0 ≤ m := by omega
 have hkh : 2 * (k0 - 1) ≤ m - 1 ∧ m - 1 ≤ 2 * (k0 - 1) + 1 := by omega
 have hkn : k0 ≤ 1000000000000 := by omega
 have hm2 : ((m - 1 : Nat) : Int) = (m : Int) - 1 := by clear hmw hk1; omega
 have hq3 : (((m - 1 : Nat) : Int) / 2) = (k0 : Int) - 1 := by clear hmw hk1; omega
 have hq : wrap64 (((m - 1 : Nat) : Int) / 2) = (k0 : Int) - 1 := by
  rw [show (((m - 1 : Nat) : Int) / 2) = (k0 : Int) - 1 by clear hmw hk1; omega]
  exact IntWalk.wrap64_in _ ⟨by clear hmw hk1; omega, by clear hmw hk1; omega⟩
 have hkh2 := Lib.hid hkh
 have hmn : m ≤ 1000000000000 := by clear hmw hk1 hq; omega
 clear hkh
 have HM2 := Lib.hid hm2
 clear hm2
 clear hk0 hbm hm
 go_enter Tryz.func85, Tryz.ntmps85
 go_wp2_with fail
 go_loopw [9] (fun vi wr => ∃ (k : Nat) (dk : Array Int), vi = .int .i64 ((k : Int) - 1) ∧ k ≤ k0 ∧ Hid (RowU w0 wr g n cap dk) ∧ Hid (heapBuild ltInt m a k dk = heapBuild ltInt m a k0 d)) (fun vi _ => (intOf vi + 1).toNat)
 case atStart => exact ⟨k0, d, by first | rfl | rw [hq] | rw [hq3], Nat.le_refl _, HW0, Lib.hid rfl⟩
 case round =>
  obtain ⟨k, dk, rfl, hkk, HR, HS⟩ := hrel
  cases k with
  | succ k =>
   have e1 : ((k + 1 : Nat) : Int) - 1 = (k : Int) := by omega
   have e2 : IntKind.i64.wrap ((k : Int) - 1) = (k : Int) - 1 := IntWalk.i64_in _ (by omega)
   have d1 : decide ((0 : Int) ≤ (k : Int)) = true := by simp
   have HS2 := Lib.hid (show heapBuild ltInt m a k (siftDown ltInt m a k dk) = heapBuild ltInt m a k0 d by rw [← HS.out, heapBuild])
   rw [e1]
   have := HMM.out
   go_wp2_with fail
   go_fit (siftU_any g n cap k m a dk w0 _ (HR.out.ext (by (repeat' (first | (with_reducible assumption) | (with_reducible exact Wb.Ext.refl _) | (with_reducible refine Wb.Ext.drew ?_) | (with_reducible refine Wb.Ext.drewN ?_ _) | (with_reducible refine Wb.Ext.alloc ?_ _) | (with_reducible refine Wb.Ext.trans ?_ (by assumption)))))) (by omega) (by omega) hn); rintro e w1 ⟨rfl, HR1⟩
   have HR2 := Lib.hid HR1
   clear HR1
   go_wp2
   go_roundw
   case rel => exact ⟨k, _, by first | rfl | go_num, by omega, HR2, HS2⟩
   case measure => first | (simp [intOf]; done) | (simp [intOf]; omega)
  | zero =>
   have d1 : decide ((0 : Int) ≤ ((0 : Nat) : Int) - 1) = false := by simp
   obtain ⟨z, hz⟩ : ∃ z : Int, ((0 : Nat) : Int) - 1 = z := ⟨_, rfl⟩
   rw [hz] at d1 ⊢
   clear hz
   have HD := Lib.hid (show Sort.heapSort ltInt d a b = heapPop ltInt a m dk by rw [HB.out, ← HS.out, heapBuild])
   go_wp2_with fail
   go_loopw [10] (fun vi wr => ∃ (k : Nat) (dj : Array Int), vi = .int .i64 ((k : Int) - 1) ∧ k ≤ m ∧ Hid (RowU w0 wr g n cap dj) ∧ Hid (heapPop ltInt a k dj = heapPop ltInt a m dk)) (fun vi _ => (intOf vi + 1).toNat)
   case atStart => exact ⟨m, dk, by rw [HM2.out], Nat.le_refl _, HR, Lib.hid rfl⟩
   case round =>
    obtain ⟨k, dj, rfl, hkm2, HR2, HS2⟩ := hrel
    cases k with
    | zero =>
     have d1 : decide ((0 : Int) ≤ ((0 : Nat) : Int) - 1) = false := by simp
     obtain ⟨z, hz⟩ : ∃ z : Int, ((0 : Nat) : Int) - 1 = z := ⟨_, rfl⟩
     rw [hz] at d1 ⊢
     clear hz
     have HE := Lib.hid (show Sort.heapSort ltInt d a b = dj by rw [HD.out, ← HS2.out, heapPop])
     go_wp2
     go_end0
     exact ⟨rfl, by rw [HE.out]; exact HR2.out⟩
    | succ k =>
     have e1 : ((k + 1 : Nat) : Int) - 1 = (k : Int) := by omega
     have e2 : IntKind.i64.wrap ((k : Int) - 1) = (k : Int) - 1 := IntWalk.i64_in _ (by omega)
     have d1 : decide ((0 : Int) ≤ (k : Int)) = true := by simp
     have := HMM.out
     obtain ⟨s, hs⟩ : ∃ s, a + k = s := ⟨_, rfl⟩
     have hm5 : IntKind.i64.wrap ((a : Int) + k) = (s : Int) := by rw [IntWalk.i64_in _ (by omega)]; omega
     have hsn : (s : Int) < n := by omega
     have hsN : s < n := by omega
     have han : (a : Int) < n := by omega
     have haN : a < n := by omega
     obtain ⟨G, hG⟩ : ∃ G : Nat → Int, ∀ t, G t = dj[t]! := ⟨fun t => dj[t]!, fun _ => rfl⟩
     have hcw : ∀ t, t < n → wr.cell? ⟨g, t, none⟩ = some (.int .u32 (G t)) := fun t ht => by rw [hG]; exact HR2.out.cell ht
     have hfw : ∀ t, t < n → wr.frozen? ⟨g, t, none⟩ = false := fun t ht => HR2.out.free t
     have HG : Hid (∀ t, G t = dj[t]!) := hG
     clear hG
     have HS3 := Lib.hid (show heapPop ltInt a k (siftDown ltInt k a 0 (Sort.swp dj a s)) = heapPop ltInt a m dk by rw [← HS2.out, heapPop, hs])
     have HSW := Lib.hid (show ∀ w9, Wb.Ext wr w9 → RowU w0 ((w9.setCell ⟨g, a, none⟩ (.int .u32 (G s))).setCell ⟨g, s, none⟩ (.int .u32 (G a))) g n cap (Sort.swp dj a s) from fun w9 k9 => by rw [HG.out, HG.out]; exact (HR2.out.ext k9).swp a s)
     have h0k : Hid (0 ≤ k ∧ a + k ≤ n) := Lib.hid ⟨Nat.zero_le _, by omega⟩
     rw [e1]
     clear this hs
     by_cases hk : a = s
     ·subst hk
      go_wp2_with fail
      go_region
      all_goals go_wp2_with fail
      go_fit (siftU_any g n cap 0 k a (Sort.swp dj a a) w0 _ (HSW.out _ (.drewN (.refl _) _)) h0k.out.1 h0k.out.2 hn); rintro e w1 ⟨rfl, HR1⟩
      have HR3 := Lib.hid HR1
      clear HR1
      go_wp2
      go_roundw
      case rel => exact ⟨k, _, by first | rfl | go_num, by omega, HR3, HS3⟩
      case measure => first | (simp [intOf]; done) | (simp [intOf]; omega)
     ·have hks : ¬ s = a := fun e => hk e.symm
      go_wp2_with fail
      go_region
      all_goals go_wp2_with fail
      go_fit (siftU_any g n cap 0 k a (Sort.swp dj a s) w0 _ (HSW.out _ (.drewN (.refl _) _)) h0k.out.1 h0k.out.2 hn); rintro e w1 ⟨rfl, HR1⟩
      have HR3 := Lib.hid HR1
      clear HR1
      go_wp2
      go_roundw
      case rel => exact ⟨k, _, by first | rfl | go_num, by omega, HR3, HS3⟩
      case measure => first | (simp [intOf]; done) | (simp [intOf]; omega)
end Go.Proofs.YtnefdpnolojojaaGreatDoor
