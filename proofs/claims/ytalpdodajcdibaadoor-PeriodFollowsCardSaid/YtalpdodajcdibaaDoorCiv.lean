/- The walks of package civil, as far as periods reach it. -/
import Derived.Test.YtalpdodajcdibaaDoorBase
import Derived.Test.YtalpdodajcdibaaDoorPlain06d
import Derived.Deep.QuietTactic
import Derived.BigQuiet
import Derived.Deep.RegionHeld3
import Derived.Deep.DeepFit
import Derived.IntWalk
namespace Go.Proofs.YtalpdodajcdibaaDoor
open Go.RowKit
set_option maxRecDepth 4000

def monthsL : List Int := [31, 28, 31, 30, 31, 30, 31, 31, 30, 31, 30, 31]
/-- the months' table as the program lays it -/
def LenC (w : World) : Prop := ∀ j v, monthsL[j]? = some v → w.cell? ⟨1, j, none⟩ = some (.int .i64 v)
theorem LenC.ext {w w' : World} (h : LenC w) (k : Wb.Ext w w') : LenC w' := fun j v hj => k.keep (h j v hj)

theorem leap_any (y : Int) (h : 0 ≤ y) (w : World) :
    Calls Tryd.prog 43 #[.int .i64 y] w fun e w' => e = .returned (.bool (Wb.lpB y)) ∧ w = w' := by
  have H := Lib.hid (Wb.lpB_iff y)
  by_cases h4 : y % 4 = 0
  · have d4 : (y % 4 == 0) = true := by simp [h4]
    by_cases h1 : y % 100 = 0
    · have d1 : (y % 100 != 0) = false := by simp [h1]
      have HB := Lib.hid (show Wb.lpB y = (y % 400 == 0) by
        rw [Bool.eq_iff_iff, H.out]; simp [h4, h1])
      clear h4 h1
      go_enter Tryd.func43, Tryd.ntmps43
      go_wp2
      go_ret
      exact ⟨by rw [HB.out]; rfl, rfl⟩
    · have d1 : (y % 100 != 0) = true := by simp [h1]
      have HB := Lib.hid (show Wb.lpB y = true from H.out.2 ⟨h4, .inl h1⟩)
      clear h4 h1
      go_enter Tryd.func43, Tryd.ntmps43
      go_wp2
      go_ret
      exact ⟨by rw [HB.out]; rfl, rfl⟩
  · have d4 : (y % 4 == 0) = false := by simpa using h4
    have HB := Lib.hid (show Wb.lpB y = false by rw [Bool.eq_false_iff]; exact fun e => h4 (H.out.1 e).1)
    clear h4
    go_enter Tryd.func43, Tryd.ntmps43
    go_wp2
    go_ret
    exact ⟨by rw [HB.out]; rfl, rfl⟩

set_option maxHeartbeats 1000000 in
theorem mdays_any (y m : Int) (h1 : 1900 ≤ y) (h2 : y ≤ 2199) (h3 : 1 ≤ m) (h4 : m ≤ 12) (w : World) (hw : LenC w) :
    Calls Tryd.prog 37 #[.int .i64 y, .int .i64 m] w fun e w' => e = .returned (.int .i64 (Wb.md y m)) ∧ w = w' := by
  have HW := Lib.hid hw
  clear hw
  have a1 : decide (y < 1900) = false := by simp; omega
  have a2 : decide (2199 < y) = false := by simp; omega
  rcases Wb.twelve h3 h4 with h | h | h | h | h | h | h | h | h | h | h | h <;> subst h
  case inr.inl =>
    cases hl : Wb.lpB y with
    | true =>
      have H := Lib.hid (show Wb.md y 2 = 29 by simp [Wb.md, Wb.lp, hl])
      go_enter Tryd.func37, Tryd.ntmps37
      go_wp2_with (go_at_call 43; refine (leap_any y (by omega) _).mono ?_; rintro e w' ⟨rfl, rfl⟩; rw [hl])
      go_ret
      exact ⟨by rw [H.out]; rfl, rfl⟩
    | false =>
      have H := Lib.hid (show Wb.md y 2 = 28 by simp [Wb.md, Wb.lp, hl])
      have hc := HW.out 1 _ rfl
      go_enter Tryd.func37, Tryd.ntmps37
      go_wp2_with (go_at_call 43; refine (leap_any y (by omega) _).mono ?_; rintro e w' ⟨rfl, rfl⟩; rw [hl])
      go_ret
      exact ⟨by rw [H.out]; rfl, rfl⟩
  all_goals
    have c0 := HW.out 0 _ rfl
    have c2 := HW.out 2 _ rfl
    have c3 := HW.out 3 _ rfl
    have c4 := HW.out 4 _ rfl
    have c5 := HW.out 5 _ rfl
    have c6 := HW.out 6 _ rfl
    have c7 := HW.out 7 _ rfl
    have c8 := HW.out 8 _ rfl
    have c9 := HW.out 9 _ rfl
    have c10 := HW.out 10 _ rfl
    have c11 := HW.out 11 _ rfl
    go_enter Tryd.func37, Tryd.ntmps37
    go_wp2
    go_ret
    exact ⟨by simp [Wb.md], rfl⟩

theorem start_any (y : Int) (h1 : 1900 ≤ y) (h2 : y ≤ 2200) (w : World) :
    Calls Tryd.prog 39 #[.int .i64 y] w fun e w' => e = .returned (.int .i64 (Wb.yb y)) ∧ w = w' := by
  go_enter Tryd.func39, Tryd.ntmps39
  go_wp2
  go_ret
  exact ⟨Wb.ret_int (by unfold Wb.yb; omega), rfl⟩

theorem in_any (d : Int) (w : World) :
    Calls Tryd.prog 38 #[.int .i64 d] w fun e w' => e = .returned (.bool (decide (-25567 ≤ d) && decide (d < 84006))) ∧ w = w' := by
  by_cases h : -25567 ≤ d
  · go_enter Tryd.func38, Tryd.ntmps38
    go_wp2
    go_ret
    exact ⟨by simp [h], rfl⟩
  · have h' : decide (-25567 ≤ d) = false := by simpa using h
    go_enter Tryd.func38, Tryd.ntmps38
    go_wp2
    go_ret
    exact ⟨rfl, rfl⟩

set_option maxHeartbeats 1000000 in
theorem to_any (d y m k : Int) (h : Wb.IsDate d y m k) (w : World) (hw : LenC w) :
    Calls Tryd.prog 28 #[.int .i64 d] w fun e w' => e = .returned (.agg #[.int .i64 y, .int .i64 m, .int .i64 k]) ∧ Wb.Ext w w' := by
  have HW := Lib.hid hw
  clear hw
  obtain ⟨a1, a2, a3, a4, a5, a6, a7⟩ := h
  have hyr := Wb.IsDate.year ⟨a1, a2, a3, a4, a5, a6, a7⟩
  have hb1 : Wb.beg y 1 = -25567 + Wb.yb y := by unfold Wb.beg; rw [Wb.cum_one]; omega
  have hb2 : Wb.beg (y + 1) 1 = -25567 + Wb.yb (y + 1) := by unfold Wb.beg; rw [Wb.cum_one]; omega
  have hlo := Wb.yb_mono (show (1900 : Int) ≤ y from a1)
  have hhi := Wb.yb_mono (show y + 1 ≤ 2200 by omega)
  rw [Wb.yb_1900] at hlo
  rw [Wb.yb_2200] at hhi
  obtain ⟨n, hn⟩ : ∃ n, d + 25567 = n := ⟨_, rfl⟩
  have hdn : d = n - 25567 := by omega
  subst hdn
  have hn0 : 0 ≤ n := by omega
  have hnm : n < 109573 := by omega
  have hg := Wb.yb_guess hn0
  have hyl : Wb.yb y ≤ n := by omega
  have hyh : n < Wb.yb (y + 1) := by omega
  have hmn : n - Wb.yb y = Wb.cum y m + k - 1 := by unfold Wb.beg at a7; omega
  clear hb1 hb2 hyr a7 hn hlo hhi
  go_enter Tryd.func28, Tryd.ntmps28
  go_wp2_with (go_at_call 38; refine (in_any _ _).mono ?_; rintro e w' ⟨rfl, rfl⟩; rw [show (decide (-25567 ≤ n - 25567) && decide (n - 25567 < 84006)) = true by simp; omega])
  go_loop [4] (fun v => ∃ z : Int, 1900 ≤ z ∧ z ≤ y ∧ v = .int .i64 z) (fun v => (2300 - intOf v).toNat)
  case atStart =>
    refine ⟨_, by omega, ?_, rfl⟩
    rcases Int.lt_or_le y (1900 + n / 366) with h | h
    · have := Wb.yb_mono (show y + 1 ≤ 1900 + n / 366 by omega); omega
    · exact h
  case round =>
    obtain ⟨z, hz1, hz2, rfl⟩ := hrel
    by_cases hzy : z < y
    · have hle := Wb.yb_mono (show z + 1 ≤ y by omega)
      have hln : Wb.yb (z + 1) ≤ n := by omega
      go_wp2_with (go_at_call 39; refine (start_any _ (by omega) (by omega) _).mono ?_; rintro e w' ⟨rfl, rfl⟩)
      go_round
      case rel => exact ⟨z + 1, by omega, by omega, rfl⟩
      case measure => simp [intOf]; omega
    · have hze : z = y := by omega
      subst hze
      have hdn : decide (Wb.yb (z + 1) ≤ n) = false := by simp; omega
      have hmc := Wb.cum_low z (m := m) (by omega) (by omega)
      have hmd := Wb.md_low z m
      have hs0 : 0 ≤ n - Wb.yb z := by omega
      have hyb0 := Wb.yb_mono (show (1900 : Int) ≤ z from hz1)
      rw [Wb.yb_1900] at hyb0
      have hyb1 := Wb.yb_mono (show z ≤ 2200 by omega)
      rw [Wb.yb_2200] at hyb1
      have HMN := Lib.hid hmn
      clear hmn
      go_wp2_with (go_at_call 39; refine (start_any _ (by omega) (by omega) _).mono ?_; rintro e w' ⟨rfl, rfl⟩)
      go_loop [3, 5] (fun r v => ∃ q : Int, 1 ≤ q ∧ q ≤ m ∧ v = .int .i64 q ∧ r = .int .i64 (Wb.cum z m - Wb.cum z q + k - 1)) (fun _ v => (20 - intOf v).toNat)
      case atStart => exact ⟨1, by omega, by omega, rfl, by rw [HMN.out, Wb.cum_one]; congr 1; omega⟩
      case round =>
        obtain ⟨q, hq1, hq2, rfl, rfl⟩ := hrel
        have hqc := Wb.cum_low z (m := q) (by omega) (by omega)
        have hqd := Wb.md_low z q
        have hmono := Wb.cum_mono z (a := q) (b := m) (by omega) (by omega) (by omega)
        by_cases hqm : q < m
        · have hmono2 := Wb.cum_mono z (a := q + 1) (b := m) (by omega) (by omega) (by omega)
          have hsq := Wb.cum_succ z (m := q) (by omega) (by omega)
          have hge : Wb.md z q ≤ Wb.cum z m - Wb.cum z q + k - 1 := by omega
          have HEQ := Lib.hid (show Wb.cum z m - Wb.cum z q + k - 1 - Wb.md z q = Wb.cum z m - Wb.cum z (q + 1) + k - 1 by omega)
          clear hsq hmono2
          go_wp2_with (go_at_call 37; refine (mdays_any _ _ (by omega) (by omega) (by omega) (by omega) _ (HW.out.ext (by (repeat' (first | (with_reducible assumption) | (with_reducible exact Wb.Ext.refl _) | (with_reducible refine Wb.Ext.drew ?_) | (with_reducible refine Wb.Ext.drewN ?_ _) | (with_reducible refine Wb.Ext.alloc ?_ _) | (with_reducible refine Wb.Ext.trans ?_ (by assumption))))))).mono ?_; rintro e w' ⟨rfl, rfl⟩)
          go_round
          case rel => exact ⟨q + 1, by omega, by omega, rfl, by rw [HEQ.out]⟩
          case measure => simp [intOf]; omega
        · have hqe : q = m := by omega
          subst hqe
          have hge : decide (Wb.md z q ≤ Wb.cum z q - Wb.cum z q + k - 1) = false := by simp; omega
          go_wp2_with (go_at_call 37; refine (mdays_any _ _ (by omega) (by omega) (by omega) (by omega) _ (HW.out.ext (by (repeat' (first | (with_reducible assumption) | (with_reducible exact Wb.Ext.refl _) | (with_reducible refine Wb.Ext.drew ?_) | (with_reducible refine Wb.Ext.drewN ?_ _) | (with_reducible refine Wb.Ext.alloc ?_ _) | (with_reducible refine Wb.Ext.trans ?_ (by assumption))))))).mono ?_; rintro e w' ⟨rfl, rfl⟩)
          exact bodyPost_ret (v := .agg #[.int .i64 z, .int .i64 q, .int .i64 k]) (by simp [results, Tryd.results28, go_sem]) rfl ⟨rfl, by (repeat' (first | (with_reducible assumption) | (with_reducible exact Wb.Ext.refl _) | (with_reducible refine Wb.Ext.drew ?_) | (with_reducible refine Wb.Ext.drewN ?_ _) | (with_reducible refine Wb.Ext.alloc ?_ _) | (with_reducible refine Wb.Ext.trans ?_ (by assumption))))⟩

/-- the first day of a year -/
theorem of_first (y : Int) (h1 : 1900 ≤ y) (h2 : y ≤ 2199) (w : World) (hw : LenC w) :
    Calls Tryd.prog 44 #[.agg #[.int .i64 y, .int .i64 1, .int .i64 1]] w fun e w' => e = .returned (.tuple #[.int .i64 (Wb.beg y 1), .int .i64 0]) ∧ Wb.Ext w w' := by
  have HW := Lib.hid hw
  clear hw
  have hmd : 1 ≤ Wb.md y 1 := by have := Wb.md_low y 1; omega
  have hyb0 := Wb.yb_mono h1
  rw [Wb.yb_1900] at hyb0
  have hyb1 := Wb.yb_mono (show y ≤ 2200 by omega)
  rw [Wb.yb_2200] at hyb1
  have hb : Wb.beg y 1 = Wb.yb y - 25567 := by unfold Wb.beg; rw [Wb.cum_one]; omega
  have HD := Lib.hid (show Wb.IsDate (Wb.yb y - 25567) y 1 1 from ⟨h1, h2, by omega, by omega, by omega, hmd, by omega⟩)
  rw [hb]
  clear hb
  go_enter Tryd.func44, Tryd.ntmps44
  have hx0 : (w.alloc (.cells #[.int .i64 y, .int .i64 1, .int .i64 1] 64)).cell? ⟨w.heap.size, 0, none⟩ = some (.int .i64 y) := by simp [go_sem]
  have hx1 : (w.alloc (.cells #[.int .i64 y, .int .i64 1, .int .i64 1] 64)).cell? ⟨w.heap.size, 1, none⟩ = some (.int .i64 1) := by simp [go_sem]
  have hx2 : (w.alloc (.cells #[.int .i64 y, .int .i64 1, .int .i64 1] 64)).cell? ⟨w.heap.size, 2, none⟩ = some (.int .i64 1) := by simp [go_sem]
  have hmd2 : decide (Wb.md y 1 < 1) = false := by simp; omega
  have hw1 : IntKind.i64.wrap (Wb.yb y + 1) = Wb.yb y + 1 := IntWalk.i64_in _ (by omega)
  have hw2 : IntKind.i64.wrap (Wb.yb y) = Wb.yb y := IntWalk.i64_in _ (by omega)
  go_wp2_with fail
  go_region_held3 (fun w' => w'.cell? ⟨w.heap.size, 0, none⟩ = some (.int .i64 y) ∧ w'.cell? ⟨w.heap.size, 1, none⟩ = some (.int .i64 1) ∧ w'.cell? ⟨w.heap.size, 2, none⟩ = some (.int .i64 1)) (first | exact ⟨hx0, hx1, hx2⟩ | assumption | go_keep) (first | (go_at_call 37; go_fit (mdays_any y 1 h1 h2 (by omega) (by omega) _ (HW.out.ext (by (repeat' (first | (with_reducible assumption) | (with_reducible exact Wb.Ext.refl _) | (with_reducible refine Wb.Ext.drew ?_) | (with_reducible refine Wb.Ext.drewN ?_ _) | (with_reducible refine Wb.Ext.alloc ?_ _) | (with_reducible refine Wb.Ext.trans ?_ (by assumption))))))); rintro e w' ⟨rfl, rfl⟩))
  go_wp2_with fail
  go_region_held3 (fun w' => w'.cell? ⟨w.heap.size, 0, none⟩ = some (.int .i64 y) ∧ w'.cell? ⟨w.heap.size, 1, none⟩ = some (.int .i64 1) ∧ w'.cell? ⟨w.heap.size, 2, none⟩ = some (.int .i64 1)) (first | exact ⟨hx0, hx1, hx2⟩ | assumption | go_keep) (first | (go_at_call 39; go_fit (start_any y h1 (by omega) _); rintro e w' ⟨rfl, rfl⟩))
  go_wp2_with fail
  go_loop [4, 5] (fun a b => a = .int .i64 (Wb.yb y) ∧ b = .int .i64 1) (fun _ _ => 0)
  case atStart => exact ⟨rfl, rfl⟩
  case round =>
    obtain ⟨rfl, rfl⟩ := hrel
    clear hw1 hw2
    go_wp2_with fail
    go_region_held3 (fun w' => w'.cell? ⟨w.heap.size, 0, none⟩ = some (.int .i64 y) ∧ w'.cell? ⟨w.heap.size, 1, none⟩ = some (.int .i64 1) ∧ w'.cell? ⟨w.heap.size, 2, none⟩ = some (.int .i64 1)) (first | exact ⟨hx0, hx1, hx2⟩ | assumption | (obtain ⟨j0, j1, j2⟩ := ‹_ ∧ _ ∧ _›; exact ⟨hb.keep j0, hb.keep j1, hb.keep j2⟩) | go_keep) (first | (go_at_call 28; go_fit (to_any _ _ _ _ HD.out _ (HW.out.ext (by (repeat' (first | (with_reducible assumption) | (with_reducible exact Wb.Ext.refl _) | (with_reducible refine Wb.Ext.drew ?_) | (with_reducible refine Wb.Ext.drewN ?_ _) | (with_reducible refine Wb.Ext.alloc ?_ _) | (with_reducible refine Wb.Ext.trans ?_ (by assumption))))))); rintro e w' ⟨rfl, hb⟩))
    all_goals
      go_wp2
      go_ret2
      exact ⟨rfl, by (repeat' (first | (with_reducible assumption) | (with_reducible exact Wb.Ext.refl _) | (with_reducible refine Wb.Ext.drew ?_) | (with_reducible refine Wb.Ext.drewN ?_ _) | (with_reducible refine Wb.Ext.alloc ?_ _) | (with_reducible refine Wb.Ext.trans ?_ (by assumption))))⟩

end Go.Proofs.YtalpdodajcdibaaDoor
