/- Chapter 6: PeriodFinds, PeriodYears: the walks. -/
import Derived.Test.YtalpdodajcdibaaDoorPLaw0
namespace Go.Proofs.YtalpdodajcdibaaDoor
open Go.RowKit
set_option maxRecDepth 4000

set_option maxHeartbeats 1000000 in
theorem finds_walk (c : Wb.Cal) (d : Int) (w : World) (hw : LenC w) (hp : LenP w) (ht : Tab10 w) :
    Calls Tryd.prog 3 #[CalV c, .int .i64 d] w fun e w' => e = .returned (.bool true) ∧ Wb.Ext w w' := by
  have HW := Lib.hid hw
  have HP := Lib.hid hp
  have HT := Lib.hid ht
  clear hw hp ht
  obtain ⟨q, hq⟩ : ∃ q, findPer c d = q := ⟨_, rfl⟩
  obtain ⟨r, hr⟩ : ∃ r, findErr c d = r := ⟨_, rfl⟩
  have HQ := Lib.hid hq
  have HR := Lib.hid hr
  clear hq hr
  go_enter Tryd.func3, Tryd.ntmps3
  go_wp2_with fail
  refine (find_any c d _ (HW.out.ext (by (repeat' (first | (with_reducible assumption) | (with_reducible exact Wb.Ext.refl _) | (with_reducible refine Wb.Ext.drew ?_) | (with_reducible refine Wb.Ext.drewN ?_ _) | (with_reducible refine Wb.Ext.alloc ?_ _) | (with_reducible refine Wb.Ext.trans ?_ (by assumption)))))) (HP.out.ext (by (repeat' (first | (with_reducible assumption) | (with_reducible exact Wb.Ext.refl _) | (with_reducible refine Wb.Ext.drew ?_) | (with_reducible refine Wb.Ext.drewN ?_ _) | (with_reducible refine Wb.Ext.alloc ?_ _) | (with_reducible refine Wb.Ext.trans ?_ (by assumption))))))).mono ?_; rintro e w1 ⟨rfl, hb1⟩
  rw [HQ.out, HR.out]
  obtain ⟨k0, k1, k2⟩ := CalB.new (c := c) (T := 24) (w1 := w1) (W := w) hb1 rfl
  have hz1 := Wb.cell_size k0
  have he1 : Wb.Ext w w1 := by (repeat' (first | (with_reducible assumption) | (with_reducible exact Wb.Ext.refl _) | (with_reducible refine Wb.Ext.drew ?_) | (with_reducible refine Wb.Ext.drewN ?_ _) | (with_reducible refine Wb.Ext.alloc ?_ _) | (with_reducible refine Wb.Ext.trans ?_ (by assumption))))
  clear hb1
  go_wp2_with fail
  refine (ofc_any c _).mono ?_; rintro e w2 ⟨rfl, hb2⟩
  obtain ⟨g0, g1, g2, g3, g4, g5⟩ := PerB.new (p := q) (T := 28) (w1 := w2) (W := w1) hb2 rfl
  have he2 : Wb.Ext w w2 := by (repeat' (first | (with_reducible assumption) | (with_reducible exact Wb.Ext.refl _) | (with_reducible refine Wb.Ext.drew ?_) | (with_reducible refine Wb.Ext.drewN ?_ _) | (with_reducible refine Wb.Ext.alloc ?_ _) | (with_reducible refine Wb.Ext.trans ?_ (by assumption))))
  clear hb2 k0 k1 k2
  go_wp2_with fail
  refine (rfind_any c d _).mono ?_; rintro e w3 ⟨rfl, hb3⟩
  rw [HQ.out, HR.out]
  have j0 := hb3.keep g0
  have j1 := hb3.keep g1
  have j2 := hb3.keep g2
  have j3 := hb3.keep g3
  have j4 := hb3.keep g4
  have j5 := hb3.keep g5
  have hz3 := Wb.cell_size j0
  have he3 : Wb.Ext w w3 := by (repeat' (first | (with_reducible assumption) | (with_reducible exact Wb.Ext.refl _) | (with_reducible refine Wb.Ext.drew ?_) | (with_reducible refine Wb.Ext.drewN ?_ _) | (with_reducible refine Wb.Ext.alloc ?_ _) | (with_reducible refine Wb.Ext.trans ?_ (by assumption))))
  clear hb3 g0 g1 g2 g3 g4 g5
  go_wp2_with fail
  refine (awake06_any _ (HW.out.ext (by (repeat' (first | (with_reducible assumption) | (with_reducible exact Wb.Ext.refl _) | (with_reducible refine Wb.Ext.drew ?_) | (with_reducible refine Wb.Ext.drewN ?_ _) | (with_reducible refine Wb.Ext.alloc ?_ _) | (with_reducible refine Wb.Ext.trans ?_ (by assumption)))))) (HP.out.ext (by (repeat' (first | (with_reducible assumption) | (with_reducible exact Wb.Ext.refl _) | (with_reducible refine Wb.Ext.drew ?_) | (with_reducible refine Wb.Ext.drewN ?_ _) | (with_reducible refine Wb.Ext.alloc ?_ _) | (with_reducible refine Wb.Ext.trans ?_ (by assumption)))))) (HT.out.ext (by (repeat' (first | (with_reducible assumption) | (with_reducible exact Wb.Ext.refl _) | (with_reducible refine Wb.Ext.drew ?_) | (with_reducible refine Wb.Ext.drewN ?_ _) | (with_reducible refine Wb.Ext.alloc ?_ _) | (with_reducible refine Wb.Ext.trans ?_ (by assumption))))))).mono ?_; rintro e w4 ⟨rfl, hb4⟩
  obtain ⟨g0, g1, g2, g3, g4, g5⟩ := PerB.new (p := q) (T := 32) (w1 := w4) (W := w3) hb4 rfl
  have hb34 : Wb.Ext w3 w4 := Wb.Ext.trans ((Wb.Ext.refl _).alloc _) hb4
  have l0 := hb34.keep j0
  have l1 := hb34.keep j1
  have l2 := hb34.keep j2
  have l3 := hb34.keep j3
  have l4 := hb34.keep j4
  have l5 := hb34.keep j5
  have he4 : Wb.Ext w w4 := he3.trans hb34
  clear hb4 hb34 j0 j1 j2 j3 j4 j5
  go_wp2
  go_ret
  exact ⟨rfl, he4⟩

set_option maxHeartbeats 1000000 in
theorem years_walk (c : Wb.Cal) (y : Int) (w : World) (hw : LenC w) (hp : LenP w) (ht : Tab10 w) :
    Calls Tryd.prog 5 #[CalV c, .int .i64 y] w fun e w' => e = .returned (.bool true) ∧ Wb.Ext w w' := by
  have HW := Lib.hid hw
  have HP := Lib.hid hp
  have HT := Lib.hid ht
  clear hw hp ht
  obtain ⟨q, hq⟩ : ∃ q, Wb.calErr c = q := ⟨_, rfl⟩
  have HQ := Lib.hid hq
  cases hc : (q != 0)
  · have h0 : q = 0 := by simpa using hc
    subst h0
    clear hc hq
    by_cases hy : y < 1900 ∨ 2199 < y
    · have HY := Lib.hid hy
      by_cases h1 : y < 1900
      · clear hy
        go_enter Tryd.func5, Tryd.ntmps5
        go_wp2_with fail
        refine (ofc_any c _).mono ?_; rintro e w1 ⟨rfl, hb1⟩
        have HC1 := Lib.hid (CalB.new (c := c) (T := 24) (w1 := w1) (W := w) hb1 rfl)
        have he1 : Wb.Ext w w1 := by (repeat' (first | (with_reducible assumption) | (with_reducible exact Wb.Ext.refl _) | (with_reducible refine Wb.Ext.drew ?_) | (with_reducible refine Wb.Ext.drewN ?_ _) | (with_reducible refine Wb.Ext.alloc ?_ _) | (with_reducible refine Wb.Ext.trans ?_ (by assumption))))
        clear hb1
        go_wp2_with fail
        refine (rcheck_any c _).mono ?_; rintro e w2 ⟨rfl, hb2⟩
        rw [HQ.out]
        have HC2 := Lib.hid (HC1.out.ext hb2)
        have he2 : Wb.Ext w w2 := by (repeat' (first | (with_reducible assumption) | (with_reducible exact Wb.Ext.refl _) | (with_reducible refine Wb.Ext.drew ?_) | (with_reducible refine Wb.Ext.drewN ?_ _) | (with_reducible refine Wb.Ext.alloc ?_ _) | (with_reducible refine Wb.Ext.trans ?_ (by assumption))))
        clear hb2
        obtain ⟨k0, k1, k2⟩ := HC2.out
        go_wp2_with fail
        refine (year_range c y HQ.out HY.out _).mono ?_; rintro e w3 ⟨rfl, hb3⟩
        have he3 : Wb.Ext w w3 := by (repeat' (first | (with_reducible assumption) | (with_reducible exact Wb.Ext.refl _) | (with_reducible refine Wb.Ext.drew ?_) | (with_reducible refine Wb.Ext.drewN ?_ _) | (with_reducible refine Wb.Ext.alloc ?_ _) | (with_reducible refine Wb.Ext.trans ?_ (by assumption))))
        clear k0 k1 k2
        obtain ⟨k0, k1, k2⟩ := HC2.out.ext hb3
        clear hb3
        go_wp2_with fail
        refine (pcheck_any c _).mono ?_; rintro e w4 ⟨rfl, hb4⟩
        rw [HQ.out]
        have he4 : Wb.Ext w w4 := by (repeat' (first | (with_reducible assumption) | (with_reducible exact Wb.Ext.refl _) | (with_reducible refine Wb.Ext.drew ?_) | (with_reducible refine Wb.Ext.drewN ?_ _) | (with_reducible refine Wb.Ext.alloc ?_ _) | (with_reducible refine Wb.Ext.trans ?_ (by assumption))))
        clear hb4 k0 k1 k2
        go_wp2_with fail
        refine (awake06_any _ (HW.out.ext (by (repeat' (first | (with_reducible assumption) | (with_reducible exact Wb.Ext.refl _) | (with_reducible refine Wb.Ext.drew ?_) | (with_reducible refine Wb.Ext.drewN ?_ _) | (with_reducible refine Wb.Ext.alloc ?_ _) | (with_reducible refine Wb.Ext.trans ?_ (by assumption)))))) (HP.out.ext (by (repeat' (first | (with_reducible assumption) | (with_reducible exact Wb.Ext.refl _) | (with_reducible refine Wb.Ext.drew ?_) | (with_reducible refine Wb.Ext.drewN ?_ _) | (with_reducible refine Wb.Ext.alloc ?_ _) | (with_reducible refine Wb.Ext.trans ?_ (by assumption)))))) (HT.out.ext (by (repeat' (first | (with_reducible assumption) | (with_reducible exact Wb.Ext.refl _) | (with_reducible refine Wb.Ext.drew ?_) | (with_reducible refine Wb.Ext.drewN ?_ _) | (with_reducible refine Wb.Ext.alloc ?_ _) | (with_reducible refine Wb.Ext.trans ?_ (by assumption))))))).mono ?_; rintro e w5 ⟨rfl, hb5⟩
        go_wp2
        go_ret
        exact ⟨rfl, by (repeat' (first | (with_reducible assumption) | (with_reducible exact Wb.Ext.refl _) | (with_reducible refine Wb.Ext.drew ?_) | (with_reducible refine Wb.Ext.drewN ?_ _) | (with_reducible refine Wb.Ext.alloc ?_ _) | (with_reducible refine Wb.Ext.trans ?_ (by assumption))))⟩
      · have d1 : decide (y < 1900) = false := by simpa using h1
        have h2 : 2199 < y := by omega
        clear hy
        go_enter Tryd.func5, Tryd.ntmps5
        go_wp2_with fail
        refine (ofc_any c _).mono ?_; rintro e w1 ⟨rfl, hb1⟩
        have HC1 := Lib.hid (CalB.new (c := c) (T := 24) (w1 := w1) (W := w) hb1 rfl)
        have he1 : Wb.Ext w w1 := by (repeat' (first | (with_reducible assumption) | (with_reducible exact Wb.Ext.refl _) | (with_reducible refine Wb.Ext.drew ?_) | (with_reducible refine Wb.Ext.drewN ?_ _) | (with_reducible refine Wb.Ext.alloc ?_ _) | (with_reducible refine Wb.Ext.trans ?_ (by assumption))))
        clear hb1
        go_wp2_with fail
        refine (rcheck_any c _).mono ?_; rintro e w2 ⟨rfl, hb2⟩
        rw [HQ.out]
        have HC2 := Lib.hid (HC1.out.ext hb2)
        have he2 : Wb.Ext w w2 := by (repeat' (first | (with_reducible assumption) | (with_reducible exact Wb.Ext.refl _) | (with_reducible refine Wb.Ext.drew ?_) | (with_reducible refine Wb.Ext.drewN ?_ _) | (with_reducible refine Wb.Ext.alloc ?_ _) | (with_reducible refine Wb.Ext.trans ?_ (by assumption))))
        clear hb2
        obtain ⟨k0, k1, k2⟩ := HC2.out
        go_wp2_with fail
        refine (year_range c y HQ.out HY.out _).mono ?_; rintro e w3 ⟨rfl, hb3⟩
        have he3 : Wb.Ext w w3 := by (repeat' (first | (with_reducible assumption) | (with_reducible exact Wb.Ext.refl _) | (with_reducible refine Wb.Ext.drew ?_) | (with_reducible refine Wb.Ext.drewN ?_ _) | (with_reducible refine Wb.Ext.alloc ?_ _) | (with_reducible refine Wb.Ext.trans ?_ (by assumption))))
        clear k0 k1 k2
        obtain ⟨k0, k1, k2⟩ := HC2.out.ext hb3
        clear hb3
        go_wp2_with fail
        refine (pcheck_any c _).mono ?_; rintro e w4 ⟨rfl, hb4⟩
        rw [HQ.out]
        have he4 : Wb.Ext w w4 := by (repeat' (first | (with_reducible assumption) | (with_reducible exact Wb.Ext.refl _) | (with_reducible refine Wb.Ext.drew ?_) | (with_reducible refine Wb.Ext.drewN ?_ _) | (with_reducible refine Wb.Ext.alloc ?_ _) | (with_reducible refine Wb.Ext.trans ?_ (by assumption))))
        clear hb4 k0 k1 k2
        go_wp2_with fail
        refine (awake06_any _ (HW.out.ext (by (repeat' (first | (with_reducible assumption) | (with_reducible exact Wb.Ext.refl _) | (with_reducible refine Wb.Ext.drew ?_) | (with_reducible refine Wb.Ext.drewN ?_ _) | (with_reducible refine Wb.Ext.alloc ?_ _) | (with_reducible refine Wb.Ext.trans ?_ (by assumption)))))) (HP.out.ext (by (repeat' (first | (with_reducible assumption) | (with_reducible exact Wb.Ext.refl _) | (with_reducible refine Wb.Ext.drew ?_) | (with_reducible refine Wb.Ext.drewN ?_ _) | (with_reducible refine Wb.Ext.alloc ?_ _) | (with_reducible refine Wb.Ext.trans ?_ (by assumption)))))) (HT.out.ext (by (repeat' (first | (with_reducible assumption) | (with_reducible exact Wb.Ext.refl _) | (with_reducible refine Wb.Ext.drew ?_) | (with_reducible refine Wb.Ext.drewN ?_ _) | (with_reducible refine Wb.Ext.alloc ?_ _) | (with_reducible refine Wb.Ext.trans ?_ (by assumption))))))).mono ?_; rintro e w5 ⟨rfl, hb5⟩
        go_wp2
        go_ret
        exact ⟨rfl, by (repeat' (first | (with_reducible assumption) | (with_reducible exact Wb.Ext.refl _) | (with_reducible refine Wb.Ext.drew ?_) | (with_reducible refine Wb.Ext.drewN ?_ _) | (with_reducible refine Wb.Ext.alloc ?_ _) | (with_reducible refine Wb.Ext.trans ?_ (by assumption))))⟩
    · have hy1 : 1900 ≤ y := by omega
      have hy2 : y ≤ 2199 := by omega
      have d1 : decide (y < 1900) = false := by simp; omega
      have d2 : decide (2199 < y) = false := by simp; omega
      obtain ⟨L, hL⟩ : ∃ L, Wb.yearPers c y = L := ⟨_, rfl⟩
      have HL := Lib.hid hL
      have hlen : L.length ≤ 366 := by rw [← hL, Wb.yearPers, Wb.persFrom_len]; exact Wb.spans_len c y
      clear hy hL
      go_enter Tryd.func5, Tryd.ntmps5
      go_wp2_with fail
      refine (ofc_any c _).mono ?_; rintro e w1 ⟨rfl, hb1⟩
      have HC1 := Lib.hid (CalB.new (c := c) (T := 24) (w1 := w1) (W := w) hb1 rfl)
      have he1 : Wb.Ext w w1 := by (repeat' (first | (with_reducible assumption) | (with_reducible exact Wb.Ext.refl _) | (with_reducible refine Wb.Ext.drew ?_) | (with_reducible refine Wb.Ext.drewN ?_ _) | (with_reducible refine Wb.Ext.alloc ?_ _) | (with_reducible refine Wb.Ext.trans ?_ (by assumption))))
      clear hb1
      go_wp2_with fail
      refine (rcheck_any c _).mono ?_; rintro e w2 ⟨rfl, hb2⟩
      rw [HQ.out]
      have HC2 := Lib.hid (HC1.out.ext hb2)
      have he2 : Wb.Ext w w2 := by (repeat' (first | (with_reducible assumption) | (with_reducible exact Wb.Ext.refl _) | (with_reducible refine Wb.Ext.drew ?_) | (with_reducible refine Wb.Ext.drewN ?_ _) | (with_reducible refine Wb.Ext.alloc ?_ _) | (with_reducible refine Wb.Ext.trans ?_ (by assumption))))
      clear hb2
      obtain ⟨k0, k1, k2⟩ := HC2.out
      go_wp2_with fail
      refine (year_ok c y HQ.out hy1 hy2 _ (HW.out.ext (by (repeat' (first | (with_reducible assumption) | (with_reducible exact Wb.Ext.refl _) | (with_reducible refine Wb.Ext.drew ?_) | (with_reducible refine Wb.Ext.drewN ?_ _) | (with_reducible refine Wb.Ext.alloc ?_ _) | (with_reducible refine Wb.Ext.trans ?_ (by assumption)))))) (HP.out.ext (by (repeat' (first | (with_reducible assumption) | (with_reducible exact Wb.Ext.refl _) | (with_reducible refine Wb.Ext.drew ?_) | (with_reducible refine Wb.Ext.drewN ?_ _) | (with_reducible refine Wb.Ext.alloc ?_ _) | (with_reducible refine Wb.Ext.trans ?_ (by assumption))))))).mono ?_; rintro e w3 ⟨v, rfl, hv, hb3⟩
      rw [HL.out] at hv
      have he3 : Wb.Ext w w3 := by (repeat' (first | (with_reducible assumption) | (with_reducible exact Wb.Ext.refl _) | (with_reducible refine Wb.Ext.drew ?_) | (with_reducible refine Wb.Ext.drewN ?_ _) | (with_reducible refine Wb.Ext.alloc ?_ _) | (with_reducible refine Wb.Ext.trans ?_ (by assumption))))
      clear k0 k1 k2
      have HC3 := Lib.hid (HC2.out.ext hb3)
      obtain ⟨k0, k1, k2⟩ := HC3.out
      have HV := Lib.hid hv
      clear hb3 hv
      go_wp2_with fail
      refine (pcheck_any c _).mono ?_; rintro e w4 ⟨rfl, hb4⟩
      rw [HQ.out]
      have he34 : Wb.Ext w3 w4 := by (repeat' (first | (with_reducible assumption) | (with_reducible exact Wb.Ext.refl _) | (with_reducible refine Wb.Ext.drew ?_) | (with_reducible refine Wb.Ext.drewN ?_ _) | (with_reducible refine Wb.Ext.alloc ?_ _) | (with_reducible refine Wb.Ext.trans ?_ (by assumption))))
      have he4 : Wb.Ext w w4 := he3.trans he34
      clear hb4 k0 k1 k2
      go_wp2_with fail
      refine (awake06_any _ (HW.out.ext (by (repeat' (first | (with_reducible assumption) | (with_reducible exact Wb.Ext.refl _) | (with_reducible refine Wb.Ext.drew ?_) | (with_reducible refine Wb.Ext.drewN ?_ _) | (with_reducible refine Wb.Ext.alloc ?_ _) | (with_reducible refine Wb.Ext.trans ?_ (by assumption)))))) (HP.out.ext (by (repeat' (first | (with_reducible assumption) | (with_reducible exact Wb.Ext.refl _) | (with_reducible refine Wb.Ext.drew ?_) | (with_reducible refine Wb.Ext.drewN ?_ _) | (with_reducible refine Wb.Ext.alloc ?_ _) | (with_reducible refine Wb.Ext.trans ?_ (by assumption)))))) (HT.out.ext (by (repeat' (first | (with_reducible assumption) | (with_reducible exact Wb.Ext.refl _) | (with_reducible refine Wb.Ext.drew ?_) | (with_reducible refine Wb.Ext.drewN ?_ _) | (with_reducible refine Wb.Ext.alloc ?_ _) | (with_reducible refine Wb.Ext.trans ?_ (by assumption))))))).mono ?_; rintro e w5 ⟨rfl, hb5⟩
      have he35 : Wb.Ext w3 w5 := he34.trans hb5
      have he5 : Wb.Ext w w5 := he3.trans he35
      clear hb5
      obtain ⟨k0, k1, k2⟩ := HC3.out.ext he35
      go_wp2_with fail
      refine (ofc_any c _).mono ?_; rintro e w6 ⟨rfl, hb6⟩
      have he36 : Wb.Ext w3 w6 := he35.trans hb6
      have he6 : Wb.Ext w w6 := he3.trans he36
      clear hb6 k0 k1 k2
      go_wp2_with fail
      refine (ryear_any c y HQ.out hy1 hy2 _).mono ?_; rintro e w7 ⟨u, rfl, hu, hb7⟩
      rw [HL.out] at hu
      have he37 : Wb.Ext w3 w7 := he36.trans hb7
      have he7 : Wb.Ext w w7 := he3.trans he37
      have HU := Lib.hid hu
      clear hb7 hu
      go_wp2_with fail
      refine (same_any v u L _ (HV.out.ext he37) HU.out (by omega)).mono ?_; rintro e w8 ⟨rfl, hb8⟩
      go_wp2
      go_ret
      exact ⟨rfl, he7.trans hb8⟩
  · have hcn : Wb.calErr c ≠ 0 := by rw [hq]; simpa using hc
    have hq0 : (q == 0) = false := by simpa using hc
    have HCN := Lib.hid hcn
    clear hq hcn
    go_enter Tryd.func5, Tryd.ntmps5
    go_wp2_with fail
    refine (ofc_any c _).mono ?_; rintro e w1 ⟨rfl, hb1⟩
    have HC1 := Lib.hid (CalB.new (c := c) (T := 24) (w1 := w1) (W := w) hb1 rfl)
    have he1 : Wb.Ext w w1 := by (repeat' (first | (with_reducible assumption) | (with_reducible exact Wb.Ext.refl _) | (with_reducible refine Wb.Ext.drew ?_) | (with_reducible refine Wb.Ext.drewN ?_ _) | (with_reducible refine Wb.Ext.alloc ?_ _) | (with_reducible refine Wb.Ext.trans ?_ (by assumption))))
    clear hb1
    go_wp2_with fail
    refine (rcheck_any c _).mono ?_; rintro e w2 ⟨rfl, hb2⟩
    rw [HQ.out]
    have HC2 := Lib.hid (HC1.out.ext hb2)
    have he2 : Wb.Ext w w2 := by (repeat' (first | (with_reducible assumption) | (with_reducible exact Wb.Ext.refl _) | (with_reducible refine Wb.Ext.drew ?_) | (with_reducible refine Wb.Ext.drewN ?_ _) | (with_reducible refine Wb.Ext.alloc ?_ _) | (with_reducible refine Wb.Ext.trans ?_ (by assumption))))
    clear hb2
    obtain ⟨k0, k1, k2⟩ := HC2.out
    go_wp2_with fail
    refine (year_no c y HCN.out _).mono ?_; rintro e w3 ⟨rfl, hb3⟩
    rw [HQ.out]
    have he3 : Wb.Ext w w3 := by (repeat' (first | (with_reducible assumption) | (with_reducible exact Wb.Ext.refl _) | (with_reducible refine Wb.Ext.drew ?_) | (with_reducible refine Wb.Ext.drewN ?_ _) | (with_reducible refine Wb.Ext.alloc ?_ _) | (with_reducible refine Wb.Ext.trans ?_ (by assumption))))
    clear k0 k1 k2
    obtain ⟨k0, k1, k2⟩ := HC2.out.ext hb3
    clear hb3
    go_wp2_with fail
    refine (pcheck_any c _).mono ?_; rintro e w4 ⟨rfl, hb4⟩
    rw [HQ.out]
    have he4 : Wb.Ext w w4 := by (repeat' (first | (with_reducible assumption) | (with_reducible exact Wb.Ext.refl _) | (with_reducible refine Wb.Ext.drew ?_) | (with_reducible refine Wb.Ext.drewN ?_ _) | (with_reducible refine Wb.Ext.alloc ?_ _) | (with_reducible refine Wb.Ext.trans ?_ (by assumption))))
    clear hb4 k0 k1 k2
    go_wp2_with fail
    refine (awake06_any _ (HW.out.ext (by (repeat' (first | (with_reducible assumption) | (with_reducible exact Wb.Ext.refl _) | (with_reducible refine Wb.Ext.drew ?_) | (with_reducible refine Wb.Ext.drewN ?_ _) | (with_reducible refine Wb.Ext.alloc ?_ _) | (with_reducible refine Wb.Ext.trans ?_ (by assumption)))))) (HP.out.ext (by (repeat' (first | (with_reducible assumption) | (with_reducible exact Wb.Ext.refl _) | (with_reducible refine Wb.Ext.drew ?_) | (with_reducible refine Wb.Ext.drewN ?_ _) | (with_reducible refine Wb.Ext.alloc ?_ _) | (with_reducible refine Wb.Ext.trans ?_ (by assumption)))))) (HT.out.ext (by (repeat' (first | (with_reducible assumption) | (with_reducible exact Wb.Ext.refl _) | (with_reducible refine Wb.Ext.drew ?_) | (with_reducible refine Wb.Ext.drewN ?_ _) | (with_reducible refine Wb.Ext.alloc ?_ _) | (with_reducible refine Wb.Ext.trans ?_ (by assumption))))))).mono ?_; rintro e w5 ⟨rfl, hb5⟩
    go_wp2
    go_ret
    exact ⟨rfl, by (repeat' (first | (with_reducible assumption) | (with_reducible exact Wb.Ext.refl _) | (with_reducible refine Wb.Ext.drew ?_) | (with_reducible refine Wb.Ext.drewN ?_ _) | (with_reducible refine Wb.Ext.alloc ?_ _) | (with_reducible refine Wb.Ext.trans ?_ (by assumption))))⟩

end Go.Proofs.YtalpdodajcdibaaDoor
