/- Chapter 29: DeltaChain. -/
import Derived.Test.YtdfmlgjemfcmlaaDLaw0
import Derived.Test.YtdfmlgjemfcmlaaPlain29d
import Derived.Deep.RegionHeld3
namespace Go.Proofs.Ytdfmlgjemfcmlaa
open Go.RowKit Go.Lib
set_option maxRecDepth 8000
attribute [local go_sem ↓] Go.wp_at_zero Go.wp_at_succ

set_option maxHeartbeats 4000000 in
theorem dchain_walk (y i : Int) (ua : Value) (a : List Wb.Ln) (y' i' : Int) (ub : Value) (b : List Wb.Ln) (y'' i'' : Int) (uc : Value) (c : List Wb.Ln) (w : World) (ha : LnsS w ua a) (hBa : BigL a) (hb : LnsS w ub b) (hBb : BigL b) (hc : LnsS w uc c) (hBc : BigL c) :
    Calls Try.prog 6 #[SlV y i ua, SlV y' i' ub, SlV y'' i'' uc] w fun e w' => e = .returned (.bool true) ∧ Wb.Ext w w' := by
  obtain ⟨aA, aK, rfl⟩ := ha.1.1.shape
  have Ha := Lib.hid ha
  have HBa := Lib.hid hBa
  clear ha hBa
  obtain ⟨bA, bK, rfl⟩ := hb.1.1.shape
  have Hb := Lib.hid hb
  have HBb := Lib.hid hBb
  clear hb hBb
  obtain ⟨cA, cK, rfl⟩ := hc.1.1.shape
  have Hc := Lib.hid hc
  have HBc := Lib.hid hBc
  clear hc hBc
  go_enter Try.func6, Try.ntmps6
  go_wp2_with fail
  go_fit (awake29_any _); rintro e w1 ⟨rfl, hb1⟩
  have hn1 : Wb.Ext w w1 := Wb.Ext.trans (by (repeat' (first | (with_reducible assumption) | (with_reducible exact Wb.Ext.refl _) | (with_reducible refine Wb.Ext.drew ?_) | (with_reducible refine Wb.Ext.drewN ?_ _) | (with_reducible refine Wb.Ext.alloc ?_ _) | (with_reducible refine Wb.Ext.trans ?_ (by assumption))))) hb1
  have hx1 : Wb.Ext w w1 := hn1
  have xa0 : w1.cell? ⟨w.heap.size, 0, none⟩ = some (.int .i64 y) := hb1.keep (by simp [go_sem])
  have xa1 : w1.cell? ⟨w.heap.size, 1, none⟩ = some (.int .i64 i) := hb1.keep (by simp [go_sem])
  have xa2 : w1.cell? ⟨w.heap.size, 2, none⟩ = some (.slice aA a.length aK) := hb1.keep (by simp [go_sem])
  have xb0 : w1.cell? ⟨w.heap.size + 1, 0, none⟩ = some (.int .i64 y') := hb1.keep (by simp [go_sem])
  have xb1 : w1.cell? ⟨w.heap.size + 1, 1, none⟩ = some (.int .i64 i') := hb1.keep (by simp [go_sem])
  have xb2 : w1.cell? ⟨w.heap.size + 1, 2, none⟩ = some (.slice bA b.length bK) := hb1.keep (by simp [go_sem])
  have xc0 : w1.cell? ⟨w.heap.size + 1 + 1, 0, none⟩ = some (.int .i64 y'') := hb1.keep (by simp [go_sem])
  have xc1 : w1.cell? ⟨w.heap.size + 1 + 1, 1, none⟩ = some (.int .i64 i'') := hb1.keep (by simp [go_sem])
  have xc2 : w1.cell? ⟨w.heap.size + 1 + 1, 2, none⟩ = some (.slice cA c.length cK) := hb1.keep (by simp [go_sem])
  have zxa := Wb.cell_size xa0
  have zxb := Wb.cell_size xb0
  have zxc := Wb.cell_size xc0
  clear hb1 hn1
  go_wp2_with fail
  go_fit (rshort2_any y i _ a _ (Ha.out.1.1.ext (by (repeat' (first | (with_reducible assumption) | (with_reducible exact Wb.Ext.refl _) | (with_reducible refine Wb.Ext.drew ?_) | (with_reducible refine Wb.Ext.drewN ?_ _) | (with_reducible refine Wb.Ext.alloc ?_ _) | (with_reducible refine Wb.Ext.trans ?_ (by assumption)))))) HBa.out); rintro e w2 ⟨qa, rfl, hqa, hb2⟩
  have hn2 : Wb.Ext w1 w2 := Wb.Ext.trans (by (repeat' (first | (with_reducible assumption) | (with_reducible exact Wb.Ext.refl _) | (with_reducible refine Wb.Ext.drew ?_) | (with_reducible refine Wb.Ext.drewN ?_ _) | (with_reducible refine Wb.Ext.alloc ?_ _) | (with_reducible refine Wb.Ext.trans ?_ (by assumption))))) hb2
  have hx2 : Wb.Ext w w2 := hx1.trans hn2
  have xa0 := hn2.keep xa0
  have xa1 := hn2.keep xa1
  have xa2 := hn2.keep xa2
  have xb0 := hn2.keep xb0
  have xb1 := hn2.keep xb1
  have xb2 := hn2.keep xb2
  have xc0 := hn2.keep xc0
  have xc1 := hn2.keep xc1
  have xc2 := hn2.keep xc2
  have zxa := Wb.cell_size xa0
  have zxb := Wb.cell_size xb0
  have zxc := Wb.cell_size xc0
  clear hb2 hn2
  have HQa := Lib.hid hqa
  clear hqa
  cases qa
  · go_wp2
    go_ret
    exact ⟨rfl, by (repeat' (first | (with_reducible assumption) | (with_reducible exact Wb.Ext.refl _) | (with_reducible refine Wb.Ext.drew ?_) | (with_reducible refine Wb.Ext.drewN ?_ _) | (with_reducible refine Wb.Ext.alloc ?_ _) | (with_reducible refine Wb.Ext.trans ?_ (by assumption))))⟩
  · skip
    have HFa : Hid (Few a) := Lib.hid (HQa.out rfl)
    clear HQa
    go_wp2_with fail
    go_fit (rshort2_any y' i' _ b _ (Hb.out.1.1.ext (by (repeat' (first | (with_reducible assumption) | (with_reducible exact Wb.Ext.refl _) | (with_reducible refine Wb.Ext.drew ?_) | (with_reducible refine Wb.Ext.drewN ?_ _) | (with_reducible refine Wb.Ext.alloc ?_ _) | (with_reducible refine Wb.Ext.trans ?_ (by assumption)))))) HBb.out); rintro e w3 ⟨qb, rfl, hqb, hb3⟩
    have hn3 : Wb.Ext w2 w3 := Wb.Ext.trans (by (repeat' (first | (with_reducible assumption) | (with_reducible exact Wb.Ext.refl _) | (with_reducible refine Wb.Ext.drew ?_) | (with_reducible refine Wb.Ext.drewN ?_ _) | (with_reducible refine Wb.Ext.alloc ?_ _) | (with_reducible refine Wb.Ext.trans ?_ (by assumption))))) hb3
    have hx3 : Wb.Ext w w3 := hx2.trans hn3
    have xa0 := hn3.keep xa0
    have xa1 := hn3.keep xa1
    have xa2 := hn3.keep xa2
    have xb0 := hn3.keep xb0
    have xb1 := hn3.keep xb1
    have xb2 := hn3.keep xb2
    have xc0 := hn3.keep xc0
    have xc1 := hn3.keep xc1
    have xc2 := hn3.keep xc2
    have zxa := Wb.cell_size xa0
    have zxb := Wb.cell_size xb0
    have zxc := Wb.cell_size xc0
    clear hb3 hn3
    have HQb := Lib.hid hqb
    clear hqb
    cases qb
    · go_wp2
      go_ret
      exact ⟨rfl, by (repeat' (first | (with_reducible assumption) | (with_reducible exact Wb.Ext.refl _) | (with_reducible refine Wb.Ext.drew ?_) | (with_reducible refine Wb.Ext.drewN ?_ _) | (with_reducible refine Wb.Ext.alloc ?_ _) | (with_reducible refine Wb.Ext.trans ?_ (by assumption))))⟩
    · skip
      have HFb : Hid (Few b) := Lib.hid (HQb.out rfl)
      clear HQb
      go_wp2_with fail
      go_fit (rshort2_any y'' i'' _ c _ (Hc.out.1.1.ext (by (repeat' (first | (with_reducible assumption) | (with_reducible exact Wb.Ext.refl _) | (with_reducible refine Wb.Ext.drew ?_) | (with_reducible refine Wb.Ext.drewN ?_ _) | (with_reducible refine Wb.Ext.alloc ?_ _) | (with_reducible refine Wb.Ext.trans ?_ (by assumption)))))) HBc.out); rintro e w4 ⟨qc, rfl, hqc, hb4⟩
      have hn4 : Wb.Ext w3 w4 := Wb.Ext.trans (by (repeat' (first | (with_reducible assumption) | (with_reducible exact Wb.Ext.refl _) | (with_reducible refine Wb.Ext.drew ?_) | (with_reducible refine Wb.Ext.drewN ?_ _) | (with_reducible refine Wb.Ext.alloc ?_ _) | (with_reducible refine Wb.Ext.trans ?_ (by assumption))))) hb4
      have hx4 : Wb.Ext w w4 := hx3.trans hn4
      have xa0 := hn4.keep xa0
      have xa1 := hn4.keep xa1
      have xa2 := hn4.keep xa2
      have xb0 := hn4.keep xb0
      have xb1 := hn4.keep xb1
      have xb2 := hn4.keep xb2
      have xc0 := hn4.keep xc0
      have xc1 := hn4.keep xc1
      have xc2 := hn4.keep xc2
      have zxa := Wb.cell_size xa0
      have zxb := Wb.cell_size xb0
      have zxc := Wb.cell_size xc0
      clear hb4 hn4
      have HQc := Lib.hid hqc
      clear hqc
      cases qc
      · go_wp2
        go_ret
        exact ⟨rfl, by (repeat' (first | (with_reducible assumption) | (with_reducible exact Wb.Ext.refl _) | (with_reducible refine Wb.Ext.drew ?_) | (with_reducible refine Wb.Ext.drewN ?_ _) | (with_reducible refine Wb.Ext.alloc ?_ _) | (with_reducible refine Wb.Ext.trans ?_ (by assumption))))⟩
      · skip
        have HFc : Hid (Few c) := Lib.hid (HQc.out rfl)
        clear HQc
        go_wp2_with fail
        go_fit (dof_any y i _ a y' i' _ b _ (Ha.out.1.1.ext (by (repeat' (first | (with_reducible assumption) | (with_reducible exact Wb.Ext.refl _) | (with_reducible refine Wb.Ext.drew ?_) | (with_reducible refine Wb.Ext.drewN ?_ _) | (with_reducible refine Wb.Ext.alloc ?_ _) | (with_reducible refine Wb.Ext.trans ?_ (by assumption)))))) HFa.out.sized (Hb.out.1.1.ext (by (repeat' (first | (with_reducible assumption) | (with_reducible exact Wb.Ext.refl _) | (with_reducible refine Wb.Ext.drew ?_) | (with_reducible refine Wb.Ext.drewN ?_ _) | (with_reducible refine Wb.Ext.alloc ?_ _) | (with_reducible refine Wb.Ext.trans ?_ (by assumption)))))) HFb.out.sized); rintro e w5 ⟨Yr, Ir, mr, Er, rfl, r, hOr⟩
        have hb5 := hOr.ext
        have hn5 : Wb.Ext w4 w5 := Wb.Ext.trans (by (repeat' (first | (with_reducible assumption) | (with_reducible exact Wb.Ext.refl _) | (with_reducible refine Wb.Ext.drew ?_) | (with_reducible refine Wb.Ext.drewN ?_ _) | (with_reducible refine Wb.Ext.alloc ?_ _) | (with_reducible refine Wb.Ext.trans ?_ (by assumption))))) hb5
        have hx5 : Wb.Ext w w5 := hx4.trans hn5
        have xa0 := hn5.keep xa0
        have xa1 := hn5.keep xa1
        have xa2 := hn5.keep xa2
        have xb0 := hn5.keep xb0
        have xb1 := hn5.keep xb1
        have xb2 := hn5.keep xb2
        have xc0 := hn5.keep xc0
        have xc1 := hn5.keep xc1
        have xc2 := hn5.keep xc2
        have zxa := Wb.cell_size xa0
        have zxb := Wb.cell_size xb0
        have zxc := Wb.cell_size xc0
        clear hb5 hn5
        obtain ⟨rA, rK, rfl⟩ := hOr.lns.1.shape
        have HOr := Lib.hid hOr.of
        have HLr := Lib.hid hOr.lns
        clear hOr
        go_wp2_with fail
        go_fit (dof_any y' i' _ b y'' i'' _ c _ (Hb.out.1.1.ext (by (repeat' (first | (with_reducible assumption) | (with_reducible exact Wb.Ext.refl _) | (with_reducible refine Wb.Ext.drew ?_) | (with_reducible refine Wb.Ext.drewN ?_ _) | (with_reducible refine Wb.Ext.alloc ?_ _) | (with_reducible refine Wb.Ext.trans ?_ (by assumption)))))) HFb.out.sized (Hc.out.1.1.ext (by (repeat' (first | (with_reducible assumption) | (with_reducible exact Wb.Ext.refl _) | (with_reducible refine Wb.Ext.drew ?_) | (with_reducible refine Wb.Ext.drewN ?_ _) | (with_reducible refine Wb.Ext.alloc ?_ _) | (with_reducible refine Wb.Ext.trans ?_ (by assumption)))))) HFc.out.sized); rintro e w6 ⟨Ys, Is, ms, Es, rfl, s, hOs⟩
        have hb6 := hOs.ext
        have hn6 : Wb.Ext w5 w6 := Wb.Ext.trans (by (repeat' (first | (with_reducible assumption) | (with_reducible exact Wb.Ext.refl _) | (with_reducible refine Wb.Ext.drew ?_) | (with_reducible refine Wb.Ext.drewN ?_ _) | (with_reducible refine Wb.Ext.alloc ?_ _) | (with_reducible refine Wb.Ext.trans ?_ (by assumption))))) hb6
        have hx6 : Wb.Ext w w6 := hx5.trans hn6
        have xa0 := hn6.keep xa0
        have xa1 := hn6.keep xa1
        have xa2 := hn6.keep xa2
        have xb0 := hn6.keep xb0
        have xb1 := hn6.keep xb1
        have xb2 := hn6.keep xb2
        have xc0 := hn6.keep xc0
        have xc1 := hn6.keep xc1
        have xc2 := hn6.keep xc2
        have xr0 : w6.cell? ⟨w5.heap.size, 0, none⟩ = some (.int .i64 Yr) := hb6.keep (by simp [go_sem])
        have xr1 : w6.cell? ⟨w5.heap.size, 1, none⟩ = some (.int .i64 Ir) := hb6.keep (by simp [go_sem])
        have xr2 : w6.cell? ⟨w5.heap.size, 2, none⟩ = some (.slice rA r.length rK) := hb6.keep (by simp [go_sem])
        have zxa := Wb.cell_size xa0
        have zxb := Wb.cell_size xb0
        have zxc := Wb.cell_size xc0
        have zxr := Wb.cell_size xr0
        replace HLr := Lib.hid (HLr.out.ext hn6)
        clear hb6 hn6
        obtain ⟨sA, sK, rfl⟩ := hOs.lns.1.shape
        have HOs := Lib.hid hOs.of
        have HLs := Lib.hid hOs.lns
        clear hOs
        go_wp2_with fail
        go_fit (dof_any y i _ a y'' i'' _ c _ (Ha.out.1.1.ext (by (repeat' (first | (with_reducible assumption) | (with_reducible exact Wb.Ext.refl _) | (with_reducible refine Wb.Ext.drew ?_) | (with_reducible refine Wb.Ext.drewN ?_ _) | (with_reducible refine Wb.Ext.alloc ?_ _) | (with_reducible refine Wb.Ext.trans ?_ (by assumption)))))) HFa.out.sized (Hc.out.1.1.ext (by (repeat' (first | (with_reducible assumption) | (with_reducible exact Wb.Ext.refl _) | (with_reducible refine Wb.Ext.drew ?_) | (with_reducible refine Wb.Ext.drewN ?_ _) | (with_reducible refine Wb.Ext.alloc ?_ _) | (with_reducible refine Wb.Ext.trans ?_ (by assumption)))))) HFc.out.sized); rintro e w7 ⟨Yt, It, mt, Et, rfl, t, hOt⟩
        have hb7 := hOt.ext
        have hn7 : Wb.Ext w6 w7 := Wb.Ext.trans (by (repeat' (first | (with_reducible assumption) | (with_reducible exact Wb.Ext.refl _) | (with_reducible refine Wb.Ext.drew ?_) | (with_reducible refine Wb.Ext.drewN ?_ _) | (with_reducible refine Wb.Ext.alloc ?_ _) | (with_reducible refine Wb.Ext.trans ?_ (by assumption))))) hb7
        have hx7 : Wb.Ext w w7 := hx6.trans hn7
        have xa0 := hn7.keep xa0
        have xa1 := hn7.keep xa1
        have xa2 := hn7.keep xa2
        have xb0 := hn7.keep xb0
        have xb1 := hn7.keep xb1
        have xb2 := hn7.keep xb2
        have xc0 := hn7.keep xc0
        have xc1 := hn7.keep xc1
        have xc2 := hn7.keep xc2
        have xr0 := hn7.keep xr0
        have xr1 := hn7.keep xr1
        have xr2 := hn7.keep xr2
        have xs0 : w7.cell? ⟨w6.heap.size, 0, none⟩ = some (.int .i64 Ys) := hb7.keep (by simp [go_sem])
        have xs1 : w7.cell? ⟨w6.heap.size, 1, none⟩ = some (.int .i64 Is) := hb7.keep (by simp [go_sem])
        have xs2 : w7.cell? ⟨w6.heap.size, 2, none⟩ = some (.slice sA s.length sK) := hb7.keep (by simp [go_sem])
        have zxa := Wb.cell_size xa0
        have zxb := Wb.cell_size xb0
        have zxc := Wb.cell_size xc0
        have zxr := Wb.cell_size xr0
        have zxs := Wb.cell_size xs0
        replace HLr := Lib.hid (HLr.out.ext hn7)
        replace HLs := Lib.hid (HLs.out.ext hn7)
        clear hb7 hn7
        obtain ⟨tA, tK, rfl⟩ := hOt.lns.1.shape
        have HOt := Lib.hid hOt.of
        have HLt := Lib.hid hOt.lns
        clear hOt
        by_cases hEr : Er = 0
        case neg =>
          have d : (Er == 0) = false := by simpa using hEr
          have d2 : (Er != 0) = true := by simpa using hEr
          clear hEr
          go_wp2
          go_ret
          exact ⟨rfl, by (repeat' (first | (with_reducible assumption) | (with_reducible exact Wb.Ext.refl _) | (with_reducible refine Wb.Ext.drew ?_) | (with_reducible refine Wb.Ext.drewN ?_ _) | (with_reducible refine Wb.Ext.alloc ?_ _) | (with_reducible refine Wb.Ext.trans ?_ (by assumption))))⟩
        subst hEr
        by_cases hEs : Es = 0
        case neg =>
          have d : (Es == 0) = false := by simpa using hEs
          have d2 : (Es != 0) = true := by simpa using hEs
          clear hEs
          go_wp2
          go_ret
          exact ⟨rfl, by (repeat' (first | (with_reducible assumption) | (with_reducible exact Wb.Ext.refl _) | (with_reducible refine Wb.Ext.drew ?_) | (with_reducible refine Wb.Ext.drewN ?_ _) | (with_reducible refine Wb.Ext.alloc ?_ _) | (with_reducible refine Wb.Ext.trans ?_ (by assumption))))⟩
        subst hEs
        by_cases hEt : Et = 0
        case neg =>
          have d : (Et == 0) = false := by simpa using hEt
          have d2 : (Et != 0) = true := by simpa using hEt
          clear hEt
          go_wp2
          go_ret
          exact ⟨rfl, by (repeat' (first | (with_reducible assumption) | (with_reducible exact Wb.Ext.refl _) | (with_reducible refine Wb.Ext.drew ?_) | (with_reducible refine Wb.Ext.drewN ?_ _) | (with_reducible refine Wb.Ext.alloc ?_ _) | (with_reducible refine Wb.Ext.trans ?_ (by assumption))))⟩
        subst hEt
        have HSr : Hid (Sized r) := Lib.hid (of_sized HOr.out)
        have HSs : Hid (Sized s) := Lib.hid (of_sized HOs.out)
        have HSt : Hid (Sized t) := Lib.hid (of_sized HOt.out)
        go_wp2_with fail
        go_fit (rzero_any Yr Ir _ r _ (HLr.out.1.ext (by (repeat' (first | (with_reducible assumption) | (with_reducible exact Wb.Ext.refl _) | (with_reducible refine Wb.Ext.drew ?_) | (with_reducible refine Wb.Ext.drewN ?_ _) | (with_reducible refine Wb.Ext.alloc ?_ _) | (with_reducible refine Wb.Ext.trans ?_ (by assumption))))))); rintro e w8 ⟨rfl, hb8⟩
        have hn8 : Wb.Ext w7 w8 := Wb.Ext.trans (by (repeat' (first | (with_reducible assumption) | (with_reducible exact Wb.Ext.refl _) | (with_reducible refine Wb.Ext.drew ?_) | (with_reducible refine Wb.Ext.drewN ?_ _) | (with_reducible refine Wb.Ext.alloc ?_ _) | (with_reducible refine Wb.Ext.trans ?_ (by assumption))))) hb8
        have hx8 : Wb.Ext w w8 := hx7.trans hn8
        have xa0 := hn8.keep xa0
        have xa1 := hn8.keep xa1
        have xa2 := hn8.keep xa2
        have xb0 := hn8.keep xb0
        have xb1 := hn8.keep xb1
        have xb2 := hn8.keep xb2
        have xc0 := hn8.keep xc0
        have xc1 := hn8.keep xc1
        have xc2 := hn8.keep xc2
        have xr0 := hn8.keep xr0
        have xr1 := hn8.keep xr1
        have xr2 := hn8.keep xr2
        have xs0 := hn8.keep xs0
        have xs1 := hn8.keep xs1
        have xs2 := hn8.keep xs2
        have xt0 : w8.cell? ⟨w7.heap.size, 0, none⟩ = some (.int .i64 Yt) := hb8.keep (by simp [go_sem])
        have xt1 : w8.cell? ⟨w7.heap.size, 1, none⟩ = some (.int .i64 It) := hb8.keep (by simp [go_sem])
        have xt2 : w8.cell? ⟨w7.heap.size, 2, none⟩ = some (.slice tA t.length tK) := hb8.keep (by simp [go_sem])
        have zxa := Wb.cell_size xa0
        have zxb := Wb.cell_size xb0
        have zxc := Wb.cell_size xc0
        have zxr := Wb.cell_size xr0
        have zxs := Wb.cell_size xs0
        have zxt := Wb.cell_size xt0
        replace HLr := Lib.hid (HLr.out.ext hn8)
        replace HLs := Lib.hid (HLs.out.ext hn8)
        replace HLt := Lib.hid (HLt.out.ext hn8)
        clear hb8 hn8
        obtain ⟨Nr, hNr⟩ : ∃ N, Wb.noneB Yr Ir r = N := ⟨_, rfl⟩
        have HNr := Lib.hid hNr
        rw [hNr]
        clear hNr
        cases Nr
        rotate_left
        · go_wp2
          go_ret
          exact ⟨rfl, by (repeat' (first | (with_reducible assumption) | (with_reducible exact Wb.Ext.refl _) | (with_reducible refine Wb.Ext.drew ?_) | (with_reducible refine Wb.Ext.drewN ?_ _) | (with_reducible refine Wb.Ext.alloc ?_ _) | (with_reducible refine Wb.Ext.trans ?_ (by assumption))))⟩
        · skip
          go_wp2_with fail
          go_fit (rzero_any Ys Is _ s _ (HLs.out.1.ext (by (repeat' (first | (with_reducible assumption) | (with_reducible exact Wb.Ext.refl _) | (with_reducible refine Wb.Ext.drew ?_) | (with_reducible refine Wb.Ext.drewN ?_ _) | (with_reducible refine Wb.Ext.alloc ?_ _) | (with_reducible refine Wb.Ext.trans ?_ (by assumption))))))); rintro e w9 ⟨rfl, hb9⟩
          have hn9 : Wb.Ext w8 w9 := Wb.Ext.trans (by (repeat' (first | (with_reducible assumption) | (with_reducible exact Wb.Ext.refl _) | (with_reducible refine Wb.Ext.drew ?_) | (with_reducible refine Wb.Ext.drewN ?_ _) | (with_reducible refine Wb.Ext.alloc ?_ _) | (with_reducible refine Wb.Ext.trans ?_ (by assumption))))) hb9
          have hx9 : Wb.Ext w w9 := hx8.trans hn9
          have xa0 := hn9.keep xa0
          have xa1 := hn9.keep xa1
          have xa2 := hn9.keep xa2
          have xb0 := hn9.keep xb0
          have xb1 := hn9.keep xb1
          have xb2 := hn9.keep xb2
          have xc0 := hn9.keep xc0
          have xc1 := hn9.keep xc1
          have xc2 := hn9.keep xc2
          have xr0 := hn9.keep xr0
          have xr1 := hn9.keep xr1
          have xr2 := hn9.keep xr2
          have xs0 := hn9.keep xs0
          have xs1 := hn9.keep xs1
          have xs2 := hn9.keep xs2
          have xt0 := hn9.keep xt0
          have xt1 := hn9.keep xt1
          have xt2 := hn9.keep xt2
          have zxa := Wb.cell_size xa0
          have zxb := Wb.cell_size xb0
          have zxc := Wb.cell_size xc0
          have zxr := Wb.cell_size xr0
          have zxs := Wb.cell_size xs0
          have zxt := Wb.cell_size xt0
          replace HLr := Lib.hid (HLr.out.ext hn9)
          replace HLs := Lib.hid (HLs.out.ext hn9)
          replace HLt := Lib.hid (HLt.out.ext hn9)
          clear hb9 hn9
          obtain ⟨Ns, hNs⟩ : ∃ N, Wb.noneB Ys Is s = N := ⟨_, rfl⟩
          have HNs := Lib.hid hNs
          rw [hNs]
          clear hNs
          cases Ns
          rotate_left
          · go_wp2
            go_ret
            exact ⟨rfl, by (repeat' (first | (with_reducible assumption) | (with_reducible exact Wb.Ext.refl _) | (with_reducible refine Wb.Ext.drew ?_) | (with_reducible refine Wb.Ext.drewN ?_ _) | (with_reducible refine Wb.Ext.alloc ?_ _) | (with_reducible refine Wb.Ext.trans ?_ (by assumption))))⟩
          · skip
            go_wp2_with fail
            go_fit (rzero_any Yt It _ t _ (HLt.out.1.ext (by (repeat' (first | (with_reducible assumption) | (with_reducible exact Wb.Ext.refl _) | (with_reducible refine Wb.Ext.drew ?_) | (with_reducible refine Wb.Ext.drewN ?_ _) | (with_reducible refine Wb.Ext.alloc ?_ _) | (with_reducible refine Wb.Ext.trans ?_ (by assumption))))))); rintro e w10 ⟨rfl, hb10⟩
            have hn10 : Wb.Ext w9 w10 := Wb.Ext.trans (by (repeat' (first | (with_reducible assumption) | (with_reducible exact Wb.Ext.refl _) | (with_reducible refine Wb.Ext.drew ?_) | (with_reducible refine Wb.Ext.drewN ?_ _) | (with_reducible refine Wb.Ext.alloc ?_ _) | (with_reducible refine Wb.Ext.trans ?_ (by assumption))))) hb10
            have hx10 : Wb.Ext w w10 := hx9.trans hn10
            have xa0 := hn10.keep xa0
            have xa1 := hn10.keep xa1
            have xa2 := hn10.keep xa2
            have xb0 := hn10.keep xb0
            have xb1 := hn10.keep xb1
            have xb2 := hn10.keep xb2
            have xc0 := hn10.keep xc0
            have xc1 := hn10.keep xc1
            have xc2 := hn10.keep xc2
            have xr0 := hn10.keep xr0
            have xr1 := hn10.keep xr1
            have xr2 := hn10.keep xr2
            have xs0 := hn10.keep xs0
            have xs1 := hn10.keep xs1
            have xs2 := hn10.keep xs2
            have xt0 := hn10.keep xt0
            have xt1 := hn10.keep xt1
            have xt2 := hn10.keep xt2
            have zxa := Wb.cell_size xa0
            have zxb := Wb.cell_size xb0
            have zxc := Wb.cell_size xc0
            have zxr := Wb.cell_size xr0
            have zxs := Wb.cell_size xs0
            have zxt := Wb.cell_size xt0
            replace HLr := Lib.hid (HLr.out.ext hn10)
            replace HLs := Lib.hid (HLs.out.ext hn10)
            replace HLt := Lib.hid (HLt.out.ext hn10)
            clear hb10 hn10
            obtain ⟨Nt, hNt⟩ : ∃ N, Wb.noneB Yt It t = N := ⟨_, rfl⟩
            have HNt := Lib.hid hNt
            rw [hNt]
            clear hNt
            cases Nt
            rotate_left
            · go_wp2
              go_ret
              exact ⟨rfl, by (repeat' (first | (with_reducible assumption) | (with_reducible exact Wb.Ext.refl _) | (with_reducible refine Wb.Ext.drew ?_) | (with_reducible refine Wb.Ext.drewN ?_ _) | (with_reducible refine Wb.Ext.alloc ?_ _) | (with_reducible refine Wb.Ext.trans ?_ (by assumption))))⟩
            · skip
              have HM := Lib.hid (Wb.of_chain HOr.out HOs.out HOt.out HNr.out HNs.out HNt.out)
              go_wp2_with fail
              go_fit (merge_any Yr Ir Ys Is _ _ r s _ (HLr.out.1.ext (by (repeat' (first | (with_reducible assumption) | (with_reducible exact Wb.Ext.refl _) | (with_reducible refine Wb.Ext.drew ?_) | (with_reducible refine Wb.Ext.drewN ?_ _) | (with_reducible refine Wb.Ext.alloc ?_ _) | (with_reducible refine Wb.Ext.trans ?_ (by assumption)))))) (HLs.out.1.ext (by (repeat' (first | (with_reducible assumption) | (with_reducible exact Wb.Ext.refl _) | (with_reducible refine Wb.Ext.drew ?_) | (with_reducible refine Wb.Ext.drewN ?_ _) | (with_reducible refine Wb.Ext.alloc ?_ _) | (with_reducible refine Wb.Ext.trans ?_ (by assumption)))))) HSr.out HSs.out HLr.out.2 HLs.out.2); rintro e w11 ⟨m, rfl, hm, hb11⟩
              have hn11 : Wb.Ext w10 w11 := Wb.Ext.trans (by (repeat' (first | (with_reducible assumption) | (with_reducible exact Wb.Ext.refl _) | (with_reducible refine Wb.Ext.drew ?_) | (with_reducible refine Wb.Ext.drewN ?_ _) | (with_reducible refine Wb.Ext.alloc ?_ _) | (with_reducible refine Wb.Ext.trans ?_ (by assumption))))) hb11
              have hx11 : Wb.Ext w w11 := hx10.trans hn11
              have xa0 := hn11.keep xa0
              have xa1 := hn11.keep xa1
              have xa2 := hn11.keep xa2
              have xb0 := hn11.keep xb0
              have xb1 := hn11.keep xb1
              have xb2 := hn11.keep xb2
              have xc0 := hn11.keep xc0
              have xc1 := hn11.keep xc1
              have xc2 := hn11.keep xc2
              have xr0 := hn11.keep xr0
              have xr1 := hn11.keep xr1
              have xr2 := hn11.keep xr2
              have xs0 := hn11.keep xs0
              have xs1 := hn11.keep xs1
              have xs2 := hn11.keep xs2
              have xt0 := hn11.keep xt0
              have xt1 := hn11.keep xt1
              have xt2 := hn11.keep xt2
              have zxa := Wb.cell_size xa0
              have zxb := Wb.cell_size xb0
              have zxc := Wb.cell_size xc0
              have zxr := Wb.cell_size xr0
              have zxs := Wb.cell_size xs0
              have zxt := Wb.cell_size xt0
              replace HLr := Lib.hid (HLr.out.ext hn11)
              replace HLs := Lib.hid (HLs.out.ext hn11)
              replace HLt := Lib.hid (HLt.out.ext hn11)
              clear hb11 hn11
              rw [HM.out] at hm ⊢
              simp only at hm
              obtain ⟨mA, mK, rfl⟩ := hm.1.shape
              have HLm := Lib.hid hm
              clear hm
              go_wp2_with fail
              go_fit (same_eq Yt It _ _ t _ (HLm.out.1.ext (by (repeat' (first | (with_reducible assumption) | (with_reducible exact Wb.Ext.refl _) | (with_reducible refine Wb.Ext.drew ?_) | (with_reducible refine Wb.Ext.drewN ?_ _) | (with_reducible refine Wb.Ext.alloc ?_ _) | (with_reducible refine Wb.Ext.trans ?_ (by assumption)))))) (HLt.out.1.ext (by (repeat' (first | (with_reducible assumption) | (with_reducible exact Wb.Ext.refl _) | (with_reducible refine Wb.Ext.drew ?_) | (with_reducible refine Wb.Ext.drewN ?_ _) | (with_reducible refine Wb.Ext.alloc ?_ _) | (with_reducible refine Wb.Ext.trans ?_ (by assumption)))))) HSt.out); rintro e w99 ⟨rfl, hb99⟩
              go_wp2
              go_ret
              exact ⟨rfl, by (repeat' (first | (with_reducible assumption) | (with_reducible exact Wb.Ext.refl _) | (with_reducible refine Wb.Ext.drew ?_) | (with_reducible refine Wb.Ext.drewN ?_ _) | (with_reducible refine Wb.Ext.alloc ?_ _) | (with_reducible refine Wb.Ext.trans ?_ (by assumption))))⟩

end Go.Proofs.Ytdfmlgjemfcmlaa
