/- Chapter 6: PeriodCounts: the walk. -/
import Derived.Test.YtalpdodajcdibaaDoorPLaw0
import Derived.Test.YtalpdodajcdibaaDoorPCnt
import Derived.Deep.DeepCutAuto
namespace Go.Proofs.YtalpdodajcdibaaDoor
open Go.RowKit
set_option maxRecDepth 4000

def dayL (d0 d1 d2 : Int) : List Int := [d0, d1, d2]
noncomputable def threeP (c : Wb.Cal) (d0 d1 d2 : Int) : List Wb.Per := [findPer c d0, findPer c d1, findPer c d2]
theorem threeL0 {c : Wb.Cal} {d0 d1 d2 : Int} : (threeP c d0 d1 d2).take 1 = (threeP c d0 d1 d2).take 0 ++ [findPer c d0] := rfl
theorem threeL1 {c : Wb.Cal} {d0 d1 d2 : Int} : (threeP c d0 d1 d2).take 2 = (threeP c d0 d1 d2).take 1 ++ [findPer c d1] := rfl
theorem threeL2 {c : Wb.Cal} {d0 d1 d2 : Int} : (threeP c d0 d1 d2).take 3 = (threeP c d0 d1 d2).take 2 ++ [findPer c d2] := rfl

set_option maxHeartbeats 8000000 in
theorem counts_walk (c : Wb.Cal) (d0 d1 d2 : Int) (w : World) (hw : LenC w) (hp : LenP w) (ht : Tab10 w) :
    Calls Tryd.prog 6 #[CalV c, .agg #[.int .i64 d0, .int .i64 d1, .int .i64 d2]] w fun e w' => e = .returned (.bool true) ∧ Wb.Ext w w' := by
  obtain ⟨i0, hi, hz0, hz1, hz2⟩ := info_parts infoPer
  have HIN := Lib.hid (show Tryd.prog.info? 28 = some i0 ∧ i0.zero = some (.agg #[.int .i64 0, .int .i64 0, .int .i64 0, .int .i64 0, .int .i64 0, .int .i64 0]) ∧ i0.size = 6 ∧ i0.bytes = 48 from ⟨hi, hz0, hz1, hz2⟩)
  clear hi hz0 hz1 hz2
  have HW := Lib.hid hw
  have HP := Lib.hid hp
  have HT := Lib.hid ht
  clear hw hp ht
  have ix0 : ∀ w, (Instr.index 52 (.agg #[.int .i64 d0, .int .i64 d1, .int .i64 d2]) (.int .i64 0)).run Tryd.prog w = .ok (.int .i64 d0) w := fun _ => by kernel_rfl
  have ix1 : ∀ w, (Instr.index 52 (.agg #[.int .i64 d0, .int .i64 d1, .int .i64 d2]) (.int .i64 1)).run Tryd.prog w = .ok (.int .i64 d1) w := fun _ => by kernel_rfl
  have ix2 : ∀ w, (Instr.index 52 (.agg #[.int .i64 d0, .int .i64 d1, .int .i64 d2]) (.int .i64 2)).run Tryd.prog w = .ok (.int .i64 d2) w := fun _ => by kernel_rfl
  go_enter Tryd.func6, Tryd.ntmps6
  go_wp2_with fail
  refine Wb.wp_at fun w1 hw1 => ?_
  have hb1 : Wb.Ext ((w.alloc (.cells #[.int .i64 c.kind, .int .i64 c.first, .int .i64 c.lag] 24)).alloc (.cells #[.int .i64 d0, .int .i64 d1, .int .i64 d2] 52)) w1 := by rw [hw1]; exact Wb.Ext.refl _
  clear hw1
  have HC := Lib.hid (CalB.new (c := c) (T := 24) (w1 := w1) (W := w) (Wb.Ext.trans (by (repeat' (first | (with_reducible assumption) | (with_reducible exact Wb.Ext.refl _) | (with_reducible refine Wb.Ext.drew ?_) | (with_reducible refine Wb.Ext.drewN ?_ _) | (with_reducible refine Wb.Ext.alloc ?_ _) | (with_reducible refine Wb.Ext.trans ?_ (by assumption))))) hb1) rfl)
  have he1 : Wb.Ext w w1 := by (repeat' (first | (with_reducible assumption) | (with_reducible exact Wb.Ext.refl _) | (with_reducible refine Wb.Ext.drew ?_) | (with_reducible refine Wb.Ext.drewN ?_ _) | (with_reducible refine Wb.Ext.alloc ?_ _) | (with_reducible refine Wb.Ext.trans ?_ (by assumption))))
  clear hb1
  go_loopw [5, 14] (fun ov iv wr => ∃ (k : Nat) (u : Value), k ≤ 3 ∧ iv = .int .i64 k ∧ ov = u ∧ wr.ownsRow w1.heap.size 28 6 u k (rowsOf perc ((threeP c d0 d1 d2).take k)) ∧ (∀ j v, j < k → (dayL d0 d1 d2)[j]? = some v → findErr c v = 0) ∧ Wb.Ext w1 wr) (fun _ iv _ => (10 - intOf iv).toNat)
  case atStart => exact ⟨0, _, by omega, rfl, rfl, World.ownsRow_nil _ _ _ _, fun j v hj => absurd hj (Nat.not_lt_zero _), by (repeat' (first | (with_reducible assumption) | (with_reducible exact Wb.Ext.refl _) | (with_reducible refine Wb.Ext.drew ?_) | (with_reducible refine Wb.Ext.drewN ?_ _) | (with_reducible refine Wb.Ext.alloc ?_ _) | (with_reducible refine Wb.Ext.trans ?_ (by assumption))))⟩
  case round =>
    obtain ⟨k, u, hk, rfl, rfl, hown, hok, hext⟩ := hrel
    have HO := Lib.hid hown; clear hown
    have HOK := Lib.hid hok; clear hok
    obtain ⟨k0, k1, k2⟩ := HC.out.ext hext
    have hz1 := Wb.cell_size k0
    have hew : Wb.Ext w wr := he1.trans hext
    by_cases hlt : k < 3
    · have hk3 : k = 0 ∨ k = 1 ∨ k = 2 := by omega
      clear hlt hk
      rcases hk3 with rfl | rfl | rfl
      · rw [show ((0 : Nat) : Int) = 0 from rfl]
        obtain ⟨r, hr⟩ : ∃ r, findErr c d0 = r := ⟨_, rfl⟩
        obtain ⟨q, hq⟩ : ∃ q, findPer c d0 = q := ⟨_, rfl⟩
        have HR := Lib.hid hr
        have HQ := Lib.hid hq
        cases he : (r != 0)
        · have hr0 : r = 0 := by simpa using he
          have HR0 := Lib.hid hr0
          clear hr hq hr0
          go_wp2_with fail
          refine (find_any c d0 _ (HW.out.ext (by (repeat' (first | (with_reducible assumption) | (with_reducible exact Wb.Ext.refl _) | (with_reducible refine Wb.Ext.drew ?_) | (with_reducible refine Wb.Ext.drewN ?_ _) | (with_reducible refine Wb.Ext.alloc ?_ _) | (with_reducible refine Wb.Ext.trans ?_ (by assumption)))))) (HP.out.ext (by (repeat' (first | (with_reducible assumption) | (with_reducible exact Wb.Ext.refl _) | (with_reducible refine Wb.Ext.drew ?_) | (with_reducible refine Wb.Ext.drewN ?_ _) | (with_reducible refine Wb.Ext.alloc ?_ _) | (with_reducible refine Wb.Ext.trans ?_ (by assumption))))))).mono ?_; rintro e w2 ⟨rfl, hb2⟩
          rw [HQ.out, HR.out]
          have he12 : Wb.Ext w1 w2 := by (repeat' (first | (with_reducible assumption) | (with_reducible exact Wb.Ext.refl _) | (with_reducible refine Wb.Ext.drew ?_) | (with_reducible refine Wb.Ext.drewN ?_ _) | (with_reducible refine Wb.Ext.alloc ?_ _) | (with_reducible refine Wb.Ext.trans ?_ (by assumption))))
          have hez2 : w.heap.size < w2.heap.size := Wb.cell_size (hb2.keep k0)
          have HO2 := Lib.hid (Wb.row_ext HO.out hb2)
          clear hb2 k0 k1 k2
          obtain ⟨hi, hz0, hz1', hz2⟩ := HIN.out
          go_wp2_with (at_builtin; go_loud (refine Wb.wpList_append_row rfl (.tmp 31) (.tmp 33) 44 rfl w1.heap.size 28 i0 (.agg #[.int .i64 0, .int .i64 0, .int .i64 0, .int .i64 0, .int .i64 0, .int .i64 0]) 6 48 Tryd.underlying44 hi hz0 hz1' hz2 rfl (by decide) _ _ _ rfl ((HO2.out.alloc _).alloc _) (.slice (some ⟨w2.heap.size + 1, 0, none⟩) 1 1) rfl 1 (perc q) ?c1 ?c2 ?c3 ?c4 ?c5 ?_))
          case c1 => exact src_lit _ _ (by simp) (perc q) _ _
          case c2 => intro u hu; simp [perc] at hu; rcases hu with rfl | rfl | rfl | rfl | rfl | rfl <;> rfl
          case c3 => unfold maxLen; omega
          case c4 => omega
          case c5 => have := he12.size; simp; omega
          intro u2 w5 hown2 hg2 hnil2
          clear hi hz0 hz1' hz2 hnil2
          have he15 : Wb.Ext w1 w5 := Wb.Ext.grown (by (repeat' (first | (with_reducible assumption) | (with_reducible exact Wb.Ext.refl _) | (with_reducible refine Wb.Ext.drew ?_) | (with_reducible refine Wb.Ext.drewN ?_ _) | (with_reducible refine Wb.Ext.alloc ?_ _) | (with_reducible refine Wb.Ext.trans ?_ (by assumption))))) hg2 (fun q hq => (HO2.out.lt q hq).1)
          have HO5 := Lib.hid hown2
          clear hown2 hg2
          go_wp2
          go_roundw
          case rel => exact ⟨1, _, by omega, rfl, rfl, by rw [threeL0, rowsOf_app, rowsOf_one, HQ.out]; exact HO5.out, fun j v hj hv => by
            rcases Nat.lt_succ_iff_lt_or_eq.1 hj with a | rfl
            · exact HOK.out j v a hv
            · simp [dayL] at hv; subst hv; rw [HR.out]; exact HR0.out, he15⟩
          case measure => simp [intOf]
        · have HZP := Lib.hid (findErr_no (c := c) (d := d0) (by rw [hr]; simpa using he))
          clear hr hq HQ
          go_wp2_with fail
          refine (find_any c d0 _ (HW.out.ext (by (repeat' (first | (with_reducible assumption) | (with_reducible exact Wb.Ext.refl _) | (with_reducible refine Wb.Ext.drew ?_) | (with_reducible refine Wb.Ext.drewN ?_ _) | (with_reducible refine Wb.Ext.alloc ?_ _) | (with_reducible refine Wb.Ext.trans ?_ (by assumption)))))) (HP.out.ext (by (repeat' (first | (with_reducible assumption) | (with_reducible exact Wb.Ext.refl _) | (with_reducible refine Wb.Ext.drew ?_) | (with_reducible refine Wb.Ext.drewN ?_ _) | (with_reducible refine Wb.Ext.alloc ?_ _) | (with_reducible refine Wb.Ext.trans ?_ (by assumption))))))).mono ?_; rintro e w2 ⟨rfl, hb2⟩
          rw [HZP.out, HR.out]
          have he2 : Wb.Ext w w2 := by (repeat' (first | (with_reducible assumption) | (with_reducible exact Wb.Ext.refl _) | (with_reducible refine Wb.Ext.drew ?_) | (with_reducible refine Wb.Ext.drewN ?_ _) | (with_reducible refine Wb.Ext.alloc ?_ _) | (with_reducible refine Wb.Ext.trans ?_ (by assumption))))
          clear hb2 k0 k1 k2
          go_wp2_with fail
          refine (awake06_any _ (HW.out.ext (by (repeat' (first | (with_reducible assumption) | (with_reducible exact Wb.Ext.refl _) | (with_reducible refine Wb.Ext.drew ?_) | (with_reducible refine Wb.Ext.drewN ?_ _) | (with_reducible refine Wb.Ext.alloc ?_ _) | (with_reducible refine Wb.Ext.trans ?_ (by assumption)))))) (HP.out.ext (by (repeat' (first | (with_reducible assumption) | (with_reducible exact Wb.Ext.refl _) | (with_reducible refine Wb.Ext.drew ?_) | (with_reducible refine Wb.Ext.drewN ?_ _) | (with_reducible refine Wb.Ext.alloc ?_ _) | (with_reducible refine Wb.Ext.trans ?_ (by assumption)))))) (HT.out.ext (by (repeat' (first | (with_reducible assumption) | (with_reducible exact Wb.Ext.refl _) | (with_reducible refine Wb.Ext.drew ?_) | (with_reducible refine Wb.Ext.drewN ?_ _) | (with_reducible refine Wb.Ext.alloc ?_ _) | (with_reducible refine Wb.Ext.trans ?_ (by assumption))))))).mono ?_; rintro e w3 ⟨rfl, hb3⟩
          obtain ⟨g0, g1, g2, g3, g4, g5⟩ := PerB.new (p := zeroPer) (T := 28) (w1 := w3) (W := w2) hb3 rfl
          simp only [zeroPer] at g0 g1 g2 g3 g4 g5
          have he3 : Wb.Ext w w3 := by (repeat' (first | (with_reducible assumption) | (with_reducible exact Wb.Ext.refl _) | (with_reducible refine Wb.Ext.drew ?_) | (with_reducible refine Wb.Ext.drewN ?_ _) | (with_reducible refine Wb.Ext.alloc ?_ _) | (with_reducible refine Wb.Ext.trans ?_ (by assumption))))
          clear hb3
          go_wp2
          go_ret
          exact ⟨rfl, he3⟩
      · rw [show ((1 : Nat) : Int) = 1 from rfl]
        obtain ⟨r, hr⟩ : ∃ r, findErr c d1 = r := ⟨_, rfl⟩
        obtain ⟨q, hq⟩ : ∃ q, findPer c d1 = q := ⟨_, rfl⟩
        have HR := Lib.hid hr
        have HQ := Lib.hid hq
        cases he : (r != 0)
        · have hr0 : r = 0 := by simpa using he
          have HR0 := Lib.hid hr0
          clear hr hq hr0
          go_wp2_with fail
          refine (find_any c d1 _ (HW.out.ext (by (repeat' (first | (with_reducible assumption) | (with_reducible exact Wb.Ext.refl _) | (with_reducible refine Wb.Ext.drew ?_) | (with_reducible refine Wb.Ext.drewN ?_ _) | (with_reducible refine Wb.Ext.alloc ?_ _) | (with_reducible refine Wb.Ext.trans ?_ (by assumption)))))) (HP.out.ext (by (repeat' (first | (with_reducible assumption) | (with_reducible exact Wb.Ext.refl _) | (with_reducible refine Wb.Ext.drew ?_) | (with_reducible refine Wb.Ext.drewN ?_ _) | (with_reducible refine Wb.Ext.alloc ?_ _) | (with_reducible refine Wb.Ext.trans ?_ (by assumption))))))).mono ?_; rintro e w2 ⟨rfl, hb2⟩
          rw [HQ.out, HR.out]
          have he12 : Wb.Ext w1 w2 := by (repeat' (first | (with_reducible assumption) | (with_reducible exact Wb.Ext.refl _) | (with_reducible refine Wb.Ext.drew ?_) | (with_reducible refine Wb.Ext.drewN ?_ _) | (with_reducible refine Wb.Ext.alloc ?_ _) | (with_reducible refine Wb.Ext.trans ?_ (by assumption))))
          have hez2 : w.heap.size < w2.heap.size := Wb.cell_size (hb2.keep k0)
          have HO2 := Lib.hid (Wb.row_ext HO.out hb2)
          clear hb2 k0 k1 k2
          obtain ⟨hi, hz0, hz1', hz2⟩ := HIN.out
          go_wp2_with (at_builtin; go_loud (refine Wb.wpList_append_row rfl (.tmp 31) (.tmp 33) 44 rfl w1.heap.size 28 i0 (.agg #[.int .i64 0, .int .i64 0, .int .i64 0, .int .i64 0, .int .i64 0, .int .i64 0]) 6 48 Tryd.underlying44 hi hz0 hz1' hz2 rfl (by decide) _ _ _ rfl ((HO2.out.alloc _).alloc _) (.slice (some ⟨w2.heap.size + 1, 0, none⟩) 1 1) rfl 1 (perc q) ?c1 ?c2 ?c3 ?c4 ?c5 ?_))
          case c1 => exact src_lit _ _ (by simp) (perc q) _ _
          case c2 => intro u hu; simp [perc] at hu; rcases hu with rfl | rfl | rfl | rfl | rfl | rfl <;> rfl
          case c3 => unfold maxLen; omega
          case c4 => omega
          case c5 => have := he12.size; simp; omega
          intro u2 w5 hown2 hg2 hnil2
          clear hi hz0 hz1' hz2 hnil2
          have he15 : Wb.Ext w1 w5 := Wb.Ext.grown (by (repeat' (first | (with_reducible assumption) | (with_reducible exact Wb.Ext.refl _) | (with_reducible refine Wb.Ext.drew ?_) | (with_reducible refine Wb.Ext.drewN ?_ _) | (with_reducible refine Wb.Ext.alloc ?_ _) | (with_reducible refine Wb.Ext.trans ?_ (by assumption))))) hg2 (fun q hq => (HO2.out.lt q hq).1)
          have HO5 := Lib.hid hown2
          clear hown2 hg2
          go_wp2
          go_roundw
          case rel => exact ⟨2, _, by omega, rfl, rfl, by rw [threeL1, rowsOf_app, rowsOf_one, HQ.out]; exact HO5.out, fun j v hj hv => by
            rcases Nat.lt_succ_iff_lt_or_eq.1 hj with a | rfl
            · exact HOK.out j v a hv
            · simp [dayL] at hv; subst hv; rw [HR.out]; exact HR0.out, he15⟩
          case measure => simp [intOf]
        · have HZP := Lib.hid (findErr_no (c := c) (d := d1) (by rw [hr]; simpa using he))
          clear hr hq HQ
          go_wp2_with fail
          refine (find_any c d1 _ (HW.out.ext (by (repeat' (first | (with_reducible assumption) | (with_reducible exact Wb.Ext.refl _) | (with_reducible refine Wb.Ext.drew ?_) | (with_reducible refine Wb.Ext.drewN ?_ _) | (with_reducible refine Wb.Ext.alloc ?_ _) | (with_reducible refine Wb.Ext.trans ?_ (by assumption)))))) (HP.out.ext (by (repeat' (first | (with_reducible assumption) | (with_reducible exact Wb.Ext.refl _) | (with_reducible refine Wb.Ext.drew ?_) | (with_reducible refine Wb.Ext.drewN ?_ _) | (with_reducible refine Wb.Ext.alloc ?_ _) | (with_reducible refine Wb.Ext.trans ?_ (by assumption))))))).mono ?_; rintro e w2 ⟨rfl, hb2⟩
          rw [HZP.out, HR.out]
          have he2 : Wb.Ext w w2 := by (repeat' (first | (with_reducible assumption) | (with_reducible exact Wb.Ext.refl _) | (with_reducible refine Wb.Ext.drew ?_) | (with_reducible refine Wb.Ext.drewN ?_ _) | (with_reducible refine Wb.Ext.alloc ?_ _) | (with_reducible refine Wb.Ext.trans ?_ (by assumption))))
          clear hb2 k0 k1 k2
          go_wp2_with fail
          refine (awake06_any _ (HW.out.ext (by (repeat' (first | (with_reducible assumption) | (with_reducible exact Wb.Ext.refl _) | (with_reducible refine Wb.Ext.drew ?_) | (with_reducible refine Wb.Ext.drewN ?_ _) | (with_reducible refine Wb.Ext.alloc ?_ _) | (with_reducible refine Wb.Ext.trans ?_ (by assumption)))))) (HP.out.ext (by (repeat' (first | (with_reducible assumption) | (with_reducible exact Wb.Ext.refl _) | (with_reducible refine Wb.Ext.drew ?_) | (with_reducible refine Wb.Ext.drewN ?_ _) | (with_reducible refine Wb.Ext.alloc ?_ _) | (with_reducible refine Wb.Ext.trans ?_ (by assumption)))))) (HT.out.ext (by (repeat' (first | (with_reducible assumption) | (with_reducible exact Wb.Ext.refl _) | (with_reducible refine Wb.Ext.drew ?_) | (with_reducible refine Wb.Ext.drewN ?_ _) | (with_reducible refine Wb.Ext.alloc ?_ _) | (with_reducible refine Wb.Ext.trans ?_ (by assumption))))))).mono ?_; rintro e w3 ⟨rfl, hb3⟩
          obtain ⟨g0, g1, g2, g3, g4, g5⟩ := PerB.new (p := zeroPer) (T := 28) (w1 := w3) (W := w2) hb3 rfl
          simp only [zeroPer] at g0 g1 g2 g3 g4 g5
          have he3 : Wb.Ext w w3 := by (repeat' (first | (with_reducible assumption) | (with_reducible exact Wb.Ext.refl _) | (with_reducible refine Wb.Ext.drew ?_) | (with_reducible refine Wb.Ext.drewN ?_ _) | (with_reducible refine Wb.Ext.alloc ?_ _) | (with_reducible refine Wb.Ext.trans ?_ (by assumption))))
          clear hb3
          go_wp2
          go_ret
          exact ⟨rfl, he3⟩
      · rw [show ((2 : Nat) : Int) = 2 from rfl]
        obtain ⟨r, hr⟩ : ∃ r, findErr c d2 = r := ⟨_, rfl⟩
        obtain ⟨q, hq⟩ : ∃ q, findPer c d2 = q := ⟨_, rfl⟩
        have HR := Lib.hid hr
        have HQ := Lib.hid hq
        cases he : (r != 0)
        · have hr0 : r = 0 := by simpa using he
          have HR0 := Lib.hid hr0
          clear hr hq hr0
          go_wp2_with fail
          refine (find_any c d2 _ (HW.out.ext (by (repeat' (first | (with_reducible assumption) | (with_reducible exact Wb.Ext.refl _) | (with_reducible refine Wb.Ext.drew ?_) | (with_reducible refine Wb.Ext.drewN ?_ _) | (with_reducible refine Wb.Ext.alloc ?_ _) | (with_reducible refine Wb.Ext.trans ?_ (by assumption)))))) (HP.out.ext (by (repeat' (first | (with_reducible assumption) | (with_reducible exact Wb.Ext.refl _) | (with_reducible refine Wb.Ext.drew ?_) | (with_reducible refine Wb.Ext.drewN ?_ _) | (with_reducible refine Wb.Ext.alloc ?_ _) | (with_reducible refine Wb.Ext.trans ?_ (by assumption))))))).mono ?_; rintro e w2 ⟨rfl, hb2⟩
          rw [HQ.out, HR.out]
          have he12 : Wb.Ext w1 w2 := by (repeat' (first | (with_reducible assumption) | (with_reducible exact Wb.Ext.refl _) | (with_reducible refine Wb.Ext.drew ?_) | (with_reducible refine Wb.Ext.drewN ?_ _) | (with_reducible refine Wb.Ext.alloc ?_ _) | (with_reducible refine Wb.Ext.trans ?_ (by assumption))))
          have hez2 : w.heap.size < w2.heap.size := Wb.cell_size (hb2.keep k0)
          have HO2 := Lib.hid (Wb.row_ext HO.out hb2)
          clear hb2 k0 k1 k2
          obtain ⟨hi, hz0, hz1', hz2⟩ := HIN.out
          go_wp2_with (at_builtin; go_loud (refine Wb.wpList_append_row rfl (.tmp 31) (.tmp 33) 44 rfl w1.heap.size 28 i0 (.agg #[.int .i64 0, .int .i64 0, .int .i64 0, .int .i64 0, .int .i64 0, .int .i64 0]) 6 48 Tryd.underlying44 hi hz0 hz1' hz2 rfl (by decide) _ _ _ rfl ((HO2.out.alloc _).alloc _) (.slice (some ⟨w2.heap.size + 1, 0, none⟩) 1 1) rfl 1 (perc q) ?c1 ?c2 ?c3 ?c4 ?c5 ?_))
          case c1 => exact src_lit _ _ (by simp) (perc q) _ _
          case c2 => intro u hu; simp [perc] at hu; rcases hu with rfl | rfl | rfl | rfl | rfl | rfl <;> rfl
          case c3 => unfold maxLen; omega
          case c4 => omega
          case c5 => have := he12.size; simp; omega
          intro u2 w5 hown2 hg2 hnil2
          clear hi hz0 hz1' hz2 hnil2
          have he15 : Wb.Ext w1 w5 := Wb.Ext.grown (by (repeat' (first | (with_reducible assumption) | (with_reducible exact Wb.Ext.refl _) | (with_reducible refine Wb.Ext.drew ?_) | (with_reducible refine Wb.Ext.drewN ?_ _) | (with_reducible refine Wb.Ext.alloc ?_ _) | (with_reducible refine Wb.Ext.trans ?_ (by assumption))))) hg2 (fun q hq => (HO2.out.lt q hq).1)
          have HO5 := Lib.hid hown2
          clear hown2 hg2
          go_wp2
          go_roundw
          case rel => exact ⟨3, _, by omega, rfl, rfl, by rw [threeL2, rowsOf_app, rowsOf_one, HQ.out]; exact HO5.out, fun j v hj hv => by
            rcases Nat.lt_succ_iff_lt_or_eq.1 hj with a | rfl
            · exact HOK.out j v a hv
            · simp [dayL] at hv; subst hv; rw [HR.out]; exact HR0.out, he15⟩
          case measure => simp [intOf]
        · have HZP := Lib.hid (findErr_no (c := c) (d := d2) (by rw [hr]; simpa using he))
          clear hr hq HQ
          go_wp2_with fail
          refine (find_any c d2 _ (HW.out.ext (by (repeat' (first | (with_reducible assumption) | (with_reducible exact Wb.Ext.refl _) | (with_reducible refine Wb.Ext.drew ?_) | (with_reducible refine Wb.Ext.drewN ?_ _) | (with_reducible refine Wb.Ext.alloc ?_ _) | (with_reducible refine Wb.Ext.trans ?_ (by assumption)))))) (HP.out.ext (by (repeat' (first | (with_reducible assumption) | (with_reducible exact Wb.Ext.refl _) | (with_reducible refine Wb.Ext.drew ?_) | (with_reducible refine Wb.Ext.drewN ?_ _) | (with_reducible refine Wb.Ext.alloc ?_ _) | (with_reducible refine Wb.Ext.trans ?_ (by assumption))))))).mono ?_; rintro e w2 ⟨rfl, hb2⟩
          rw [HZP.out, HR.out]
          have he2 : Wb.Ext w w2 := by (repeat' (first | (with_reducible assumption) | (with_reducible exact Wb.Ext.refl _) | (with_reducible refine Wb.Ext.drew ?_) | (with_reducible refine Wb.Ext.drewN ?_ _) | (with_reducible refine Wb.Ext.alloc ?_ _) | (with_reducible refine Wb.Ext.trans ?_ (by assumption))))
          clear hb2 k0 k1 k2
          go_wp2_with fail
          refine (awake06_any _ (HW.out.ext (by (repeat' (first | (with_reducible assumption) | (with_reducible exact Wb.Ext.refl _) | (with_reducible refine Wb.Ext.drew ?_) | (with_reducible refine Wb.Ext.drewN ?_ _) | (with_reducible refine Wb.Ext.alloc ?_ _) | (with_reducible refine Wb.Ext.trans ?_ (by assumption)))))) (HP.out.ext (by (repeat' (first | (with_reducible assumption) | (with_reducible exact Wb.Ext.refl _) | (with_reducible refine Wb.Ext.drew ?_) | (with_reducible refine Wb.Ext.drewN ?_ _) | (with_reducible refine Wb.Ext.alloc ?_ _) | (with_reducible refine Wb.Ext.trans ?_ (by assumption)))))) (HT.out.ext (by (repeat' (first | (with_reducible assumption) | (with_reducible exact Wb.Ext.refl _) | (with_reducible refine Wb.Ext.drew ?_) | (with_reducible refine Wb.Ext.drewN ?_ _) | (with_reducible refine Wb.Ext.alloc ?_ _) | (with_reducible refine Wb.Ext.trans ?_ (by assumption))))))).mono ?_; rintro e w3 ⟨rfl, hb3⟩
          obtain ⟨g0, g1, g2, g3, g4, g5⟩ := PerB.new (p := zeroPer) (T := 28) (w1 := w3) (W := w2) hb3 rfl
          simp only [zeroPer] at g0 g1 g2 g3 g4 g5
          have he3 : Wb.Ext w w3 := by (repeat' (first | (with_reducible assumption) | (with_reducible exact Wb.Ext.refl _) | (with_reducible refine Wb.Ext.drew ?_) | (with_reducible refine Wb.Ext.drewN ?_ _) | (with_reducible refine Wb.Ext.alloc ?_ _) | (with_reducible refine Wb.Ext.trans ?_ (by assumption))))
          clear hb3
          go_wp2
          go_ret
          exact ⟨rfl, he3⟩
    · obtain rfl : k = 3 := by omega
      have hv : u5 ≠ .slice none 0 0 := by
        intro e; have := HO.out; rw [e] at this
        obtain ⟨_, ⟨_, h⟩ | ⟨g, cap, cur, h, _⟩⟩ := this
        · cases h
        · cases h
      obtain ⟨g, cap, hu, _, hg2, _, hcells⟩ := Wb.ownsRow_at HO.out hv
      subst hu
      obtain ⟨p0, hp0⟩ : ∃ p, findPer c d0 = p := ⟨_, rfl⟩
      obtain ⟨p1, hp1⟩ : ∃ p, findPer c d1 = p := ⟨_, rfl⟩
      obtain ⟨p2, hp2⟩ : ∃ p, findPer c d2 = p := ⟨_, rfl⟩
      have a0 : wr.cell? ⟨g, 0, none⟩ = some (.int .i64 p0.year) := by rw [← hp0]; exact hcells 0 _ rfl
      have a1 : wr.cell? ⟨g, 1, none⟩ = some (.int .i64 p0.index) := by rw [← hp0]; exact hcells 1 _ rfl
      have a2 : wr.cell? ⟨g, 2, none⟩ = some (.int .i64 p0.of) := by rw [← hp0]; exact hcells 2 _ rfl
      have a3 : wr.cell? ⟨g, 3, none⟩ = some (.int .i64 p0.from_) := by rw [← hp0]; exact hcells 3 _ rfl
      have a4 : wr.cell? ⟨g, 4, none⟩ = some (.int .i64 p0.to_) := by rw [← hp0]; exact hcells 4 _ rfl
      have a5 : wr.cell? ⟨g, 5, none⟩ = some (.int .i64 p0.pay) := by rw [← hp0]; exact hcells 5 _ rfl
      have a6 : wr.cell? ⟨g, 6, none⟩ = some (.int .i64 p1.year) := by rw [← hp1]; exact hcells 6 _ rfl
      have a7 : wr.cell? ⟨g, 7, none⟩ = some (.int .i64 p1.index) := by rw [← hp1]; exact hcells 7 _ rfl
      have a8 : wr.cell? ⟨g, 8, none⟩ = some (.int .i64 p1.of) := by rw [← hp1]; exact hcells 8 _ rfl
      have a9 : wr.cell? ⟨g, 9, none⟩ = some (.int .i64 p1.from_) := by rw [← hp1]; exact hcells 9 _ rfl
      have a10 : wr.cell? ⟨g, 10, none⟩ = some (.int .i64 p1.to_) := by rw [← hp1]; exact hcells 10 _ rfl
      have a11 : wr.cell? ⟨g, 11, none⟩ = some (.int .i64 p1.pay) := by rw [← hp1]; exact hcells 11 _ rfl
      have a12 : wr.cell? ⟨g, 12, none⟩ = some (.int .i64 p2.year) := by rw [← hp2]; exact hcells 12 _ rfl
      have a13 : wr.cell? ⟨g, 13, none⟩ = some (.int .i64 p2.index) := by rw [← hp2]; exact hcells 13 _ rfl
      have a14 : wr.cell? ⟨g, 14, none⟩ = some (.int .i64 p2.of) := by rw [← hp2]; exact hcells 14 _ rfl
      have a15 : wr.cell? ⟨g, 15, none⟩ = some (.int .i64 p2.from_) := by rw [← hp2]; exact hcells 15 _ rfl
      have a16 : wr.cell? ⟨g, 16, none⟩ = some (.int .i64 p2.to_) := by rw [← hp2]; exact hcells 16 _ rfl
      have a17 : wr.cell? ⟨g, 17, none⟩ = some (.int .i64 p2.pay) := by rw [← hp2]; exact hcells 17 _ rfl
      have f0 := findErr_ok (HOK.out 0 d0 (by decide) rfl)
      have f1 := findErr_ok (HOK.out 1 d1 (by decide) rfl)
      have f2 := findErr_ok (HOK.out 2 d2 (by decide) rfl)
      rw [hp0] at f0
      rw [hp1] at f1
      rw [hp2] at f2
      have F := count_facts f0.1 f0.2 f1.2
      have F2 := count_facts f0.1 f1.2 f2.2
      have FA := count_add f0.1 f0.2 f1.2 f2.2
      have FL := f0.2.lessB f0.1 f1.2
      obtain ⟨x, hx⟩ : ∃ x, countOf c p0 p1 = x := ⟨_, rfl⟩
      obtain ⟨y, hy⟩ : ∃ x, countOf c p1 p2 = x := ⟨_, rfl⟩
      obtain ⟨z, hz⟩ : ∃ x, countOf c p0 p2 = x := ⟨_, rfl⟩
      rw [hx] at F FA
      rw [hy] at F2 FA
      rw [hz] at FA
      have HX := Lib.hid (show countOf c p0 p1 = x ∧ countOf c p1 p2 = y ∧ countOf c p0 p2 = z ∧ countOf c p1 p0 = -x from ⟨hx, hy, hz, F.2.2.1⟩)
      have hxl := F.2.2.2.1
      have hxh := F.2.2.2.2
      have hyl := F2.2.2.2.1
      have hyh := F2.2.2.2.2
      have HF := Lib.hid F
      have HFL := Lib.hid FL
      have hxy : IntKind.i64.wrap (x + y) = z := by rw [IntWalk.i64_in _ (by omega)]; exact FA
      have hxn : IntKind.i64.wrap (-x) = -x := IntWalk.i64_in _ (by omega)
      clear hcells F F2 FA FL hx hy hz f0 f1 f2 hp0 hp1 hp2 hv HO HOK hk hlt ix0 ix1 ix2
      have HXN := Lib.hid hxn
      have HXY := Lib.hid hxy
      clear hxn hxy
      go_upto_region 10 with (fail)
      go_cut [10, 11, 12] (fun s10 s11 s12 wx => s10 = .int .i64 x ∧ s11 = .int .i64 y ∧ s12 = .int .i64 z ∧ Wb.Ext wr wx)
      case first =>
        go_region_held3 (fun w' => w'.cell? ⟨w.heap.size, 0, none⟩ = some (.int .i64 c.kind) ∧ w'.cell? ⟨w.heap.size, 1, none⟩ = some (.int .i64 c.first) ∧ w'.cell? ⟨w.heap.size, 2, none⟩ = some (.int .i64 c.lag) ∧ w'.cell? ⟨g, 0, none⟩ = some (.int .i64 p0.year) ∧ w'.cell? ⟨g, 1, none⟩ = some (.int .i64 p0.index) ∧ w'.cell? ⟨g, 2, none⟩ = some (.int .i64 p0.of) ∧ w'.cell? ⟨g, 3, none⟩ = some (.int .i64 p0.from_) ∧ w'.cell? ⟨g, 4, none⟩ = some (.int .i64 p0.to_) ∧ w'.cell? ⟨g, 5, none⟩ = some (.int .i64 p0.pay) ∧ w'.cell? ⟨g, 6, none⟩ = some (.int .i64 p1.year) ∧ w'.cell? ⟨g, 7, none⟩ = some (.int .i64 p1.index) ∧ w'.cell? ⟨g, 8, none⟩ = some (.int .i64 p1.of) ∧ w'.cell? ⟨g, 9, none⟩ = some (.int .i64 p1.from_) ∧ w'.cell? ⟨g, 10, none⟩ = some (.int .i64 p1.to_) ∧ w'.cell? ⟨g, 11, none⟩ = some (.int .i64 p1.pay) ∧ w'.cell? ⟨g, 12, none⟩ = some (.int .i64 p2.year) ∧ w'.cell? ⟨g, 13, none⟩ = some (.int .i64 p2.index) ∧ w'.cell? ⟨g, 14, none⟩ = some (.int .i64 p2.of) ∧ w'.cell? ⟨g, 15, none⟩ = some (.int .i64 p2.from_) ∧ w'.cell? ⟨g, 16, none⟩ = some (.int .i64 p2.to_) ∧ w'.cell? ⟨g, 17, none⟩ = some (.int .i64 p2.pay)) (first | with_reducible assumption | (obtain ⟨j0, j1, j2, j3, j4, j5, j6, j7, j8, j9, j10, j11, j12, j13, j14, j15, j16, j17, j18, j19, j20⟩ := ‹_ ∧ _ ∧ _ ∧ _ ∧ _ ∧ _ ∧ _ ∧ _ ∧ _ ∧ _ ∧ _ ∧ _ ∧ _ ∧ _ ∧ _ ∧ _ ∧ _ ∧ _ ∧ _ ∧ _ ∧ _›; exact ⟨hb.keep j0, hb.keep j1, hb.keep j2, hb.keep j3, hb.keep j4, hb.keep j5, hb.keep j6, hb.keep j7, hb.keep j8, hb.keep j9, hb.keep j10, hb.keep j11, hb.keep j12, hb.keep j13, hb.keep j14, hb.keep j15, hb.keep j16, hb.keep j17, hb.keep j18, hb.keep j19, hb.keep j20⟩) | exact ⟨k0, k1, k2, a0, a1, a2, a3, a4, a5, a6, a7, a8, a9, a10, a11, a12, a13, a14, a15, a16, a17⟩ | go_keep) (first | (go_at_call 21; first | (go_fit (count_any c p0 p1 _ (HW.out.ext (by (repeat' (first | (with_reducible assumption) | (with_reducible exact Wb.Ext.refl _) | (with_reducible refine Wb.Ext.drew ?_) | (with_reducible refine Wb.Ext.drewN ?_ _) | (with_reducible refine Wb.Ext.alloc ?_ _) | (with_reducible refine Wb.Ext.trans ?_ (by assumption)))))) (HP.out.ext (by (repeat' (first | (with_reducible assumption) | (with_reducible exact Wb.Ext.refl _) | (with_reducible refine Wb.Ext.drew ?_) | (with_reducible refine Wb.Ext.drewN ?_ _) | (with_reducible refine Wb.Ext.alloc ?_ _) | (with_reducible refine Wb.Ext.trans ?_ (by assumption))))))); rintro e w' ⟨rfl, hb⟩; rw [HX.out.1]) | (go_fit (count_any c p1 p2 _ (HW.out.ext (by (repeat' (first | (with_reducible assumption) | (with_reducible exact Wb.Ext.refl _) | (with_reducible refine Wb.Ext.drew ?_) | (with_reducible refine Wb.Ext.drewN ?_ _) | (with_reducible refine Wb.Ext.alloc ?_ _) | (with_reducible refine Wb.Ext.trans ?_ (by assumption)))))) (HP.out.ext (by (repeat' (first | (with_reducible assumption) | (with_reducible exact Wb.Ext.refl _) | (with_reducible refine Wb.Ext.drew ?_) | (with_reducible refine Wb.Ext.drewN ?_ _) | (with_reducible refine Wb.Ext.alloc ?_ _) | (with_reducible refine Wb.Ext.trans ?_ (by assumption))))))); rintro e w' ⟨rfl, hb⟩; rw [HX.out.2.1]) | (go_fit (count_any c p0 p2 _ (HW.out.ext (by (repeat' (first | (with_reducible assumption) | (with_reducible exact Wb.Ext.refl _) | (with_reducible refine Wb.Ext.drew ?_) | (with_reducible refine Wb.Ext.drewN ?_ _) | (with_reducible refine Wb.Ext.alloc ?_ _) | (with_reducible refine Wb.Ext.trans ?_ (by assumption)))))) (HP.out.ext (by (repeat' (first | (with_reducible assumption) | (with_reducible exact Wb.Ext.refl _) | (with_reducible refine Wb.Ext.drew ?_) | (with_reducible refine Wb.Ext.drewN ?_ _) | (with_reducible refine Wb.Ext.alloc ?_ _) | (with_reducible refine Wb.Ext.trans ?_ (by assumption))))))); rintro e w' ⟨rfl, hb⟩; rw [HX.out.2.2.1])))
        all_goals (go_wp2_with fail; go_meet)
        all_goals exact ⟨rfl, rfl, rfl, by (repeat' (first | (with_reducible assumption) | (with_reducible exact Wb.Ext.refl _) | (with_reducible refine Wb.Ext.drew ?_) | (with_reducible refine Wb.Ext.drewN ?_ _) | (with_reducible refine Wb.Ext.alloc ?_ _) | (with_reducible refine Wb.Ext.trans ?_ (by assumption))))⟩
      case rest =>
        obtain ⟨rfl, rfl, rfl, hcut⟩ := hcut
        have hxn := HXN.out
        have hxy := HXY.out
        obtain ⟨bp, hbp⟩ : ∃ b, decide (p0 = p1) = b := ⟨_, rfl⟩
        have heq := perEq28 p0 p1
        simp only [PerV] at heq
        rw [hbp] at heq
        have HBP := Lib.hid hbp
        clear hbp
        have k0' := hcut.keep k0
        have k1' := hcut.keep k1
        have k2' := hcut.keep k2
        have a0' := hcut.keep a0
        have a1' := hcut.keep a1
        have a2' := hcut.keep a2
        have a3' := hcut.keep a3
        have a4' := hcut.keep a4
        have a5' := hcut.keep a5
        have a6' := hcut.keep a6
        have a7' := hcut.keep a7
        have a8' := hcut.keep a8
        have a9' := hcut.keep a9
        have a10' := hcut.keep a10
        have a11' := hcut.keep a11
        have a12' := hcut.keep a12
        have a13' := hcut.keep a13
        have a14' := hcut.keep a14
        have a15' := hcut.keep a15
        have a16' := hcut.keep a16
        have a17' := hcut.keep a17
        clear k0 k1 k2 a0 a1 a2 a3 a4 a5 a6 a7 a8 a9 a10 a11 a12 a13 a14 a15 a16 a17
        have hew2 : Wb.Ext w wc := hew.trans hcut
        clear hcut
        rcases Int.lt_trichotomy x 0 with hs | hs | hs
        · have e1 : decide (0 < x) = false := by simp; omega
          have e2 : (x == 0) = false := by simp; omega
          have HLS := Lib.hid (show lessB p0 p1 = false by rw [HFL.out]; simp; have := HF.out.1; omega)
          have e3 : decide (p0.from_ < p1.from_) = false := by simp; have := HF.out.1; omega
          obtain rfl : bp = false := by rw [← HBP.out]; simp; intro e; have := HF.out.2.1.2 e; omega
          go_wp2_with fail
          go_region_held3 (fun w' => w'.cell? ⟨w.heap.size, 0, none⟩ = some (.int .i64 c.kind) ∧ w'.cell? ⟨w.heap.size, 1, none⟩ = some (.int .i64 c.first) ∧ w'.cell? ⟨w.heap.size, 2, none⟩ = some (.int .i64 c.lag) ∧ w'.cell? ⟨g, 0, none⟩ = some (.int .i64 p0.year) ∧ w'.cell? ⟨g, 1, none⟩ = some (.int .i64 p0.index) ∧ w'.cell? ⟨g, 2, none⟩ = some (.int .i64 p0.of) ∧ w'.cell? ⟨g, 3, none⟩ = some (.int .i64 p0.from_) ∧ w'.cell? ⟨g, 4, none⟩ = some (.int .i64 p0.to_) ∧ w'.cell? ⟨g, 5, none⟩ = some (.int .i64 p0.pay) ∧ w'.cell? ⟨g, 6, none⟩ = some (.int .i64 p1.year) ∧ w'.cell? ⟨g, 7, none⟩ = some (.int .i64 p1.index) ∧ w'.cell? ⟨g, 8, none⟩ = some (.int .i64 p1.of) ∧ w'.cell? ⟨g, 9, none⟩ = some (.int .i64 p1.from_) ∧ w'.cell? ⟨g, 10, none⟩ = some (.int .i64 p1.to_) ∧ w'.cell? ⟨g, 11, none⟩ = some (.int .i64 p1.pay) ∧ w'.cell? ⟨g, 12, none⟩ = some (.int .i64 p2.year) ∧ w'.cell? ⟨g, 13, none⟩ = some (.int .i64 p2.index) ∧ w'.cell? ⟨g, 14, none⟩ = some (.int .i64 p2.of) ∧ w'.cell? ⟨g, 15, none⟩ = some (.int .i64 p2.from_) ∧ w'.cell? ⟨g, 16, none⟩ = some (.int .i64 p2.to_) ∧ w'.cell? ⟨g, 17, none⟩ = some (.int .i64 p2.pay)) (first | with_reducible assumption | (obtain ⟨j0, j1, j2, j3, j4, j5, j6, j7, j8, j9, j10, j11, j12, j13, j14, j15, j16, j17, j18, j19, j20⟩ := ‹_ ∧ _ ∧ _ ∧ _ ∧ _ ∧ _ ∧ _ ∧ _ ∧ _ ∧ _ ∧ _ ∧ _ ∧ _ ∧ _ ∧ _ ∧ _ ∧ _ ∧ _ ∧ _ ∧ _ ∧ _›; exact ⟨hb.keep j0, hb.keep j1, hb.keep j2, hb.keep j3, hb.keep j4, hb.keep j5, hb.keep j6, hb.keep j7, hb.keep j8, hb.keep j9, hb.keep j10, hb.keep j11, hb.keep j12, hb.keep j13, hb.keep j14, hb.keep j15, hb.keep j16, hb.keep j17, hb.keep j18, hb.keep j19, hb.keep j20⟩) | exact ⟨k0', k1', k2', a0', a1', a2', a3', a4', a5', a6', a7', a8', a9', a10', a11', a12', a13', a14', a15', a16', a17'⟩ | go_keep) (first | (go_at_call 12; go_fit (awake06_any _ (HW.out.ext (by (repeat' (first | (with_reducible assumption) | (with_reducible exact Wb.Ext.refl _) | (with_reducible refine Wb.Ext.drew ?_) | (with_reducible refine Wb.Ext.drewN ?_ _) | (with_reducible refine Wb.Ext.alloc ?_ _) | (with_reducible refine Wb.Ext.trans ?_ (by assumption)))))) (HP.out.ext (by (repeat' (first | (with_reducible assumption) | (with_reducible exact Wb.Ext.refl _) | (with_reducible refine Wb.Ext.drew ?_) | (with_reducible refine Wb.Ext.drewN ?_ _) | (with_reducible refine Wb.Ext.alloc ?_ _) | (with_reducible refine Wb.Ext.trans ?_ (by assumption)))))) (HT.out.ext (by (repeat' (first | (with_reducible assumption) | (with_reducible exact Wb.Ext.refl _) | (with_reducible refine Wb.Ext.drew ?_) | (with_reducible refine Wb.Ext.drewN ?_ _) | (with_reducible refine Wb.Ext.alloc ?_ _) | (with_reducible refine Wb.Ext.trans ?_ (by assumption))))))); rintro e w' ⟨rfl, hb⟩) | (go_at_call 21; go_fit (count_any c p1 p0 _ (HW.out.ext (by (repeat' (first | (with_reducible assumption) | (with_reducible exact Wb.Ext.refl _) | (with_reducible refine Wb.Ext.drew ?_) | (with_reducible refine Wb.Ext.drewN ?_ _) | (with_reducible refine Wb.Ext.alloc ?_ _) | (with_reducible refine Wb.Ext.trans ?_ (by assumption)))))) (HP.out.ext (by (repeat' (first | (with_reducible assumption) | (with_reducible exact Wb.Ext.refl _) | (with_reducible refine Wb.Ext.drew ?_) | (with_reducible refine Wb.Ext.drewN ?_ _) | (with_reducible refine Wb.Ext.alloc ?_ _) | (with_reducible refine Wb.Ext.trans ?_ (by assumption))))))); rintro e w' ⟨rfl, hb⟩; rw [HX.out.2.2.2]) | (go_at_call 15; go_fit (less_any p0 p1 _); rintro e w' ⟨rfl, hb⟩; rw [HLS.out]))
          all_goals
            go_wp2
            go_ret
            exact ⟨rfl, by (repeat' (first | (with_reducible assumption) | (with_reducible exact Wb.Ext.refl _) | (with_reducible refine Wb.Ext.drew ?_) | (with_reducible refine Wb.Ext.drewN ?_ _) | (with_reducible refine Wb.Ext.alloc ?_ _) | (with_reducible refine Wb.Ext.trans ?_ (by assumption))))⟩
        · have e1 : decide (0 < x) = false := by simp; omega
          have e2 : (x == 0) = true := by simp; omega
          have HLS := Lib.hid (show lessB p0 p1 = false by rw [HFL.out]; simp; have := HF.out.1; omega)
          have e3 : decide (p0.from_ < p1.from_) = false := by simp; have := HF.out.1; omega
          obtain rfl : bp = true := by rw [← HBP.out]; simp; exact HF.out.2.1.1 hs
          clear hs
          go_wp2_with fail
          go_region_held3 (fun w' => w'.cell? ⟨w.heap.size, 0, none⟩ = some (.int .i64 c.kind) ∧ w'.cell? ⟨w.heap.size, 1, none⟩ = some (.int .i64 c.first) ∧ w'.cell? ⟨w.heap.size, 2, none⟩ = some (.int .i64 c.lag) ∧ w'.cell? ⟨g, 0, none⟩ = some (.int .i64 p0.year) ∧ w'.cell? ⟨g, 1, none⟩ = some (.int .i64 p0.index) ∧ w'.cell? ⟨g, 2, none⟩ = some (.int .i64 p0.of) ∧ w'.cell? ⟨g, 3, none⟩ = some (.int .i64 p0.from_) ∧ w'.cell? ⟨g, 4, none⟩ = some (.int .i64 p0.to_) ∧ w'.cell? ⟨g, 5, none⟩ = some (.int .i64 p0.pay) ∧ w'.cell? ⟨g, 6, none⟩ = some (.int .i64 p1.year) ∧ w'.cell? ⟨g, 7, none⟩ = some (.int .i64 p1.index) ∧ w'.cell? ⟨g, 8, none⟩ = some (.int .i64 p1.of) ∧ w'.cell? ⟨g, 9, none⟩ = some (.int .i64 p1.from_) ∧ w'.cell? ⟨g, 10, none⟩ = some (.int .i64 p1.to_) ∧ w'.cell? ⟨g, 11, none⟩ = some (.int .i64 p1.pay) ∧ w'.cell? ⟨g, 12, none⟩ = some (.int .i64 p2.year) ∧ w'.cell? ⟨g, 13, none⟩ = some (.int .i64 p2.index) ∧ w'.cell? ⟨g, 14, none⟩ = some (.int .i64 p2.of) ∧ w'.cell? ⟨g, 15, none⟩ = some (.int .i64 p2.from_) ∧ w'.cell? ⟨g, 16, none⟩ = some (.int .i64 p2.to_) ∧ w'.cell? ⟨g, 17, none⟩ = some (.int .i64 p2.pay)) (first | with_reducible assumption | (obtain ⟨j0, j1, j2, j3, j4, j5, j6, j7, j8, j9, j10, j11, j12, j13, j14, j15, j16, j17, j18, j19, j20⟩ := ‹_ ∧ _ ∧ _ ∧ _ ∧ _ ∧ _ ∧ _ ∧ _ ∧ _ ∧ _ ∧ _ ∧ _ ∧ _ ∧ _ ∧ _ ∧ _ ∧ _ ∧ _ ∧ _ ∧ _ ∧ _›; exact ⟨hb.keep j0, hb.keep j1, hb.keep j2, hb.keep j3, hb.keep j4, hb.keep j5, hb.keep j6, hb.keep j7, hb.keep j8, hb.keep j9, hb.keep j10, hb.keep j11, hb.keep j12, hb.keep j13, hb.keep j14, hb.keep j15, hb.keep j16, hb.keep j17, hb.keep j18, hb.keep j19, hb.keep j20⟩) | exact ⟨k0', k1', k2', a0', a1', a2', a3', a4', a5', a6', a7', a8', a9', a10', a11', a12', a13', a14', a15', a16', a17'⟩ | go_keep) (first | (go_at_call 12; go_fit (awake06_any _ (HW.out.ext (by (repeat' (first | (with_reducible assumption) | (with_reducible exact Wb.Ext.refl _) | (with_reducible refine Wb.Ext.drew ?_) | (with_reducible refine Wb.Ext.drewN ?_ _) | (with_reducible refine Wb.Ext.alloc ?_ _) | (with_reducible refine Wb.Ext.trans ?_ (by assumption)))))) (HP.out.ext (by (repeat' (first | (with_reducible assumption) | (with_reducible exact Wb.Ext.refl _) | (with_reducible refine Wb.Ext.drew ?_) | (with_reducible refine Wb.Ext.drewN ?_ _) | (with_reducible refine Wb.Ext.alloc ?_ _) | (with_reducible refine Wb.Ext.trans ?_ (by assumption)))))) (HT.out.ext (by (repeat' (first | (with_reducible assumption) | (with_reducible exact Wb.Ext.refl _) | (with_reducible refine Wb.Ext.drew ?_) | (with_reducible refine Wb.Ext.drewN ?_ _) | (with_reducible refine Wb.Ext.alloc ?_ _) | (with_reducible refine Wb.Ext.trans ?_ (by assumption))))))); rintro e w' ⟨rfl, hb⟩) | (go_at_call 21; go_fit (count_any c p1 p0 _ (HW.out.ext (by (repeat' (first | (with_reducible assumption) | (with_reducible exact Wb.Ext.refl _) | (with_reducible refine Wb.Ext.drew ?_) | (with_reducible refine Wb.Ext.drewN ?_ _) | (with_reducible refine Wb.Ext.alloc ?_ _) | (with_reducible refine Wb.Ext.trans ?_ (by assumption)))))) (HP.out.ext (by (repeat' (first | (with_reducible assumption) | (with_reducible exact Wb.Ext.refl _) | (with_reducible refine Wb.Ext.drew ?_) | (with_reducible refine Wb.Ext.drewN ?_ _) | (with_reducible refine Wb.Ext.alloc ?_ _) | (with_reducible refine Wb.Ext.trans ?_ (by assumption))))))); rintro e w' ⟨rfl, hb⟩; rw [HX.out.2.2.2]) | (go_at_call 15; go_fit (less_any p0 p1 _); rintro e w' ⟨rfl, hb⟩; rw [HLS.out]))
          all_goals
            go_wp2
            go_ret
            exact ⟨rfl, by (repeat' (first | (with_reducible assumption) | (with_reducible exact Wb.Ext.refl _) | (with_reducible refine Wb.Ext.drew ?_) | (with_reducible refine Wb.Ext.drewN ?_ _) | (with_reducible refine Wb.Ext.alloc ?_ _) | (with_reducible refine Wb.Ext.trans ?_ (by assumption))))⟩
        · have e1 : decide (0 < x) = true := by simp; omega
          have e2 : (x == 0) = false := by simp; omega
          have HLS := Lib.hid (show lessB p0 p1 = true by rw [HFL.out]; simp; exact HF.out.1.1 hs)
          have e3 : decide (p0.from_ < p1.from_) = true := by simp; exact HF.out.1.1 hs
          obtain rfl : bp = false := by rw [← HBP.out]; simp; intro e; have := HF.out.2.1.2 e; omega
          go_wp2_with fail
          go_region_held3 (fun w' => w'.cell? ⟨w.heap.size, 0, none⟩ = some (.int .i64 c.kind) ∧ w'.cell? ⟨w.heap.size, 1, none⟩ = some (.int .i64 c.first) ∧ w'.cell? ⟨w.heap.size, 2, none⟩ = some (.int .i64 c.lag) ∧ w'.cell? ⟨g, 0, none⟩ = some (.int .i64 p0.year) ∧ w'.cell? ⟨g, 1, none⟩ = some (.int .i64 p0.index) ∧ w'.cell? ⟨g, 2, none⟩ = some (.int .i64 p0.of) ∧ w'.cell? ⟨g, 3, none⟩ = some (.int .i64 p0.from_) ∧ w'.cell? ⟨g, 4, none⟩ = some (.int .i64 p0.to_) ∧ w'.cell? ⟨g, 5, none⟩ = some (.int .i64 p0.pay) ∧ w'.cell? ⟨g, 6, none⟩ = some (.int .i64 p1.year) ∧ w'.cell? ⟨g, 7, none⟩ = some (.int .i64 p1.index) ∧ w'.cell? ⟨g, 8, none⟩ = some (.int .i64 p1.of) ∧ w'.cell? ⟨g, 9, none⟩ = some (.int .i64 p1.from_) ∧ w'.cell? ⟨g, 10, none⟩ = some (.int .i64 p1.to_) ∧ w'.cell? ⟨g, 11, none⟩ = some (.int .i64 p1.pay) ∧ w'.cell? ⟨g, 12, none⟩ = some (.int .i64 p2.year) ∧ w'.cell? ⟨g, 13, none⟩ = some (.int .i64 p2.index) ∧ w'.cell? ⟨g, 14, none⟩ = some (.int .i64 p2.of) ∧ w'.cell? ⟨g, 15, none⟩ = some (.int .i64 p2.from_) ∧ w'.cell? ⟨g, 16, none⟩ = some (.int .i64 p2.to_) ∧ w'.cell? ⟨g, 17, none⟩ = some (.int .i64 p2.pay)) (first | with_reducible assumption | (obtain ⟨j0, j1, j2, j3, j4, j5, j6, j7, j8, j9, j10, j11, j12, j13, j14, j15, j16, j17, j18, j19, j20⟩ := ‹_ ∧ _ ∧ _ ∧ _ ∧ _ ∧ _ ∧ _ ∧ _ ∧ _ ∧ _ ∧ _ ∧ _ ∧ _ ∧ _ ∧ _ ∧ _ ∧ _ ∧ _ ∧ _ ∧ _ ∧ _›; exact ⟨hb.keep j0, hb.keep j1, hb.keep j2, hb.keep j3, hb.keep j4, hb.keep j5, hb.keep j6, hb.keep j7, hb.keep j8, hb.keep j9, hb.keep j10, hb.keep j11, hb.keep j12, hb.keep j13, hb.keep j14, hb.keep j15, hb.keep j16, hb.keep j17, hb.keep j18, hb.keep j19, hb.keep j20⟩) | exact ⟨k0', k1', k2', a0', a1', a2', a3', a4', a5', a6', a7', a8', a9', a10', a11', a12', a13', a14', a15', a16', a17'⟩ | go_keep) (first | (go_at_call 12; go_fit (awake06_any _ (HW.out.ext (by (repeat' (first | (with_reducible assumption) | (with_reducible exact Wb.Ext.refl _) | (with_reducible refine Wb.Ext.drew ?_) | (with_reducible refine Wb.Ext.drewN ?_ _) | (with_reducible refine Wb.Ext.alloc ?_ _) | (with_reducible refine Wb.Ext.trans ?_ (by assumption)))))) (HP.out.ext (by (repeat' (first | (with_reducible assumption) | (with_reducible exact Wb.Ext.refl _) | (with_reducible refine Wb.Ext.drew ?_) | (with_reducible refine Wb.Ext.drewN ?_ _) | (with_reducible refine Wb.Ext.alloc ?_ _) | (with_reducible refine Wb.Ext.trans ?_ (by assumption)))))) (HT.out.ext (by (repeat' (first | (with_reducible assumption) | (with_reducible exact Wb.Ext.refl _) | (with_reducible refine Wb.Ext.drew ?_) | (with_reducible refine Wb.Ext.drewN ?_ _) | (with_reducible refine Wb.Ext.alloc ?_ _) | (with_reducible refine Wb.Ext.trans ?_ (by assumption))))))); rintro e w' ⟨rfl, hb⟩) | (go_at_call 21; go_fit (count_any c p1 p0 _ (HW.out.ext (by (repeat' (first | (with_reducible assumption) | (with_reducible exact Wb.Ext.refl _) | (with_reducible refine Wb.Ext.drew ?_) | (with_reducible refine Wb.Ext.drewN ?_ _) | (with_reducible refine Wb.Ext.alloc ?_ _) | (with_reducible refine Wb.Ext.trans ?_ (by assumption)))))) (HP.out.ext (by (repeat' (first | (with_reducible assumption) | (with_reducible exact Wb.Ext.refl _) | (with_reducible refine Wb.Ext.drew ?_) | (with_reducible refine Wb.Ext.drewN ?_ _) | (with_reducible refine Wb.Ext.alloc ?_ _) | (with_reducible refine Wb.Ext.trans ?_ (by assumption))))))); rintro e w' ⟨rfl, hb⟩; rw [HX.out.2.2.2]) | (go_at_call 15; go_fit (less_any p0 p1 _); rintro e w' ⟨rfl, hb⟩; rw [HLS.out]))
          all_goals
            go_wp2
            go_ret
            exact ⟨rfl, by (repeat' (first | (with_reducible assumption) | (with_reducible exact Wb.Ext.refl _) | (with_reducible refine Wb.Ext.drew ?_) | (with_reducible refine Wb.Ext.drewN ?_ _) | (with_reducible refine Wb.Ext.alloc ?_ _) | (with_reducible refine Wb.Ext.trans ?_ (by assumption))))⟩

end Go.Proofs.YtalpdodajcdibaaDoor
