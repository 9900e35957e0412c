/- Chapter 29: DeltaBack. -/
import Derived.Test.YtdfmlgjemfcmlaaDLaw0
import Derived.Test.YtdfmlgjemfcmlaaPlain29d
import Derived.Deep.RegionHeld3
namespace Go.Proofs.Ytdfmlgjemfcmlaa
open Go.RowKit Go.Lib
set_option maxRecDepth 8000
attribute [local go_sem ↓] Go.wp_at_zero Go.wp_at_succ

set_option maxHeartbeats 4000000 in
theorem dback_walk (y i : Int) (ua : Value) (a : List Wb.Ln) (y' i' : Int) (ub : Value) (b : List Wb.Ln) (w : World) (ha : LnsS w ua a) (hBa : BigL a) (hb : LnsS w ub b) (hBb : BigL b) :
    Calls Try.prog 5 #[SlV y i ua, SlV y' i' ub] w fun e w' => e = .returned (.bool true) ∧ Wb.Ext w w' := by
  obtain ⟨aA, aK, rfl⟩ := ha.1.1.shape
  have Ha := Lib.hid ha
  have HBa := Lib.hid hBa
  clear ha hBa
  obtain ⟨bA, bK, rfl⟩ := hb.1.1.shape
  have Hb := Lib.hid hb
  have HBb := Lib.hid hBb
  clear hb hBb
  go_enter Try.func5, Try.ntmps5
  go_wp2_with fail
  go_fit (awake29_any _); rintro e w1 ⟨rfl, hb1⟩
  have hn1 : Wb.Ext w w1 := Wb.Ext.trans (by (repeat' (first | (with_reducible assumption) | (with_reducible exact Wb.Ext.refl _) | (with_reducible refine Wb.Ext.drew ?_) | (with_reducible refine Wb.Ext.drewN ?_ _) | (with_reducible refine Wb.Ext.alloc ?_ _) | (with_reducible refine Wb.Ext.trans ?_ (by assumption))))) hb1
  have hx1 : Wb.Ext w w1 := hn1
  have xa0 : w1.cell? ⟨w.heap.size, 0, none⟩ = some (.int .i64 y) := hb1.keep (by simp [go_sem])
  have xa1 : w1.cell? ⟨w.heap.size, 1, none⟩ = some (.int .i64 i) := hb1.keep (by simp [go_sem])
  have xa2 : w1.cell? ⟨w.heap.size, 2, none⟩ = some (.slice aA a.length aK) := hb1.keep (by simp [go_sem])
  have xb0 : w1.cell? ⟨w.heap.size + 1, 0, none⟩ = some (.int .i64 y') := hb1.keep (by simp [go_sem])
  have xb1 : w1.cell? ⟨w.heap.size + 1, 1, none⟩ = some (.int .i64 i') := hb1.keep (by simp [go_sem])
  have xb2 : w1.cell? ⟨w.heap.size + 1, 2, none⟩ = some (.slice bA b.length bK) := hb1.keep (by simp [go_sem])
  have zxa := Wb.cell_size xa0
  have zxb := Wb.cell_size xb0
  clear hb1 hn1
  go_wp2_with fail
  go_fit (rshort2_any y i _ a _ (Ha.out.1.1.ext (by (repeat' (first | (with_reducible assumption) | (with_reducible exact Wb.Ext.refl _) | (with_reducible refine Wb.Ext.drew ?_) | (with_reducible refine Wb.Ext.drewN ?_ _) | (with_reducible refine Wb.Ext.alloc ?_ _) | (with_reducible refine Wb.Ext.trans ?_ (by assumption)))))) HBa.out); rintro e w2 ⟨qa, rfl, hqa, hb2⟩
  have hn2 : Wb.Ext w1 w2 := Wb.Ext.trans (by (repeat' (first | (with_reducible assumption) | (with_reducible exact Wb.Ext.refl _) | (with_reducible refine Wb.Ext.drew ?_) | (with_reducible refine Wb.Ext.drewN ?_ _) | (with_reducible refine Wb.Ext.alloc ?_ _) | (with_reducible refine Wb.Ext.trans ?_ (by assumption))))) hb2
  have hx2 : Wb.Ext w w2 := hx1.trans hn2
  have xa0 := hn2.keep xa0
  have xa1 := hn2.keep xa1
  have xa2 := hn2.keep xa2
  have xb0 := hn2.keep xb0
  have xb1 := hn2.keep xb1
  have xb2 := hn2.keep xb2
  have zxa := Wb.cell_size xa0
  have zxb := Wb.cell_size xb0
  clear hb2 hn2
  have HQa := Lib.hid hqa
  clear hqa
  cases qa
  · go_wp2
    go_ret
    exact ⟨rfl, by (repeat' (first | (with_reducible assumption) | (with_reducible exact Wb.Ext.refl _) | (with_reducible refine Wb.Ext.drew ?_) | (with_reducible refine Wb.Ext.drewN ?_ _) | (with_reducible refine Wb.Ext.alloc ?_ _) | (with_reducible refine Wb.Ext.trans ?_ (by assumption))))⟩
  · skip
    have HFa : Hid (Few a) := Lib.hid (HQa.out rfl)
    clear HQa
    go_wp2_with fail
    go_fit (rshort2_any y' i' _ b _ (Hb.out.1.1.ext (by (repeat' (first | (with_reducible assumption) | (with_reducible exact Wb.Ext.refl _) | (with_reducible refine Wb.Ext.drew ?_) | (with_reducible refine Wb.Ext.drewN ?_ _) | (with_reducible refine Wb.Ext.alloc ?_ _) | (with_reducible refine Wb.Ext.trans ?_ (by assumption)))))) HBb.out); rintro e w3 ⟨qb, rfl, hqb, hb3⟩
    have hn3 : Wb.Ext w2 w3 := Wb.Ext.trans (by (repeat' (first | (with_reducible assumption) | (with_reducible exact Wb.Ext.refl _) | (with_reducible refine Wb.Ext.drew ?_) | (with_reducible refine Wb.Ext.drewN ?_ _) | (with_reducible refine Wb.Ext.alloc ?_ _) | (with_reducible refine Wb.Ext.trans ?_ (by assumption))))) hb3
    have hx3 : Wb.Ext w w3 := hx2.trans hn3
    have xa0 := hn3.keep xa0
    have xa1 := hn3.keep xa1
    have xa2 := hn3.keep xa2
    have xb0 := hn3.keep xb0
    have xb1 := hn3.keep xb1
    have xb2 := hn3.keep xb2
    have zxa := Wb.cell_size xa0
    have zxb := Wb.cell_size xb0
    clear hb3 hn3
    have HQb := Lib.hid hqb
    clear hqb
    cases qb
    · go_wp2
      go_ret
      exact ⟨rfl, by (repeat' (first | (with_reducible assumption) | (with_reducible exact Wb.Ext.refl _) | (with_reducible refine Wb.Ext.drew ?_) | (with_reducible refine Wb.Ext.drewN ?_ _) | (with_reducible refine Wb.Ext.alloc ?_ _) | (with_reducible refine Wb.Ext.trans ?_ (by assumption))))⟩
    · skip
      have HFb : Hid (Few b) := Lib.hid (HQb.out rfl)
      clear HQb
      go_wp2_with fail
      go_fit (dof_any y i _ a y' i' _ b _ (Ha.out.1.1.ext (by (repeat' (first | (with_reducible assumption) | (with_reducible exact Wb.Ext.refl _) | (with_reducible refine Wb.Ext.drew ?_) | (with_reducible refine Wb.Ext.drewN ?_ _) | (with_reducible refine Wb.Ext.alloc ?_ _) | (with_reducible refine Wb.Ext.trans ?_ (by assumption)))))) HFa.out.sized (Hb.out.1.1.ext (by (repeat' (first | (with_reducible assumption) | (with_reducible exact Wb.Ext.refl _) | (with_reducible refine Wb.Ext.drew ?_) | (with_reducible refine Wb.Ext.drewN ?_ _) | (with_reducible refine Wb.Ext.alloc ?_ _) | (with_reducible refine Wb.Ext.trans ?_ (by assumption)))))) HFb.out.sized); rintro e w4 ⟨Yd, Id, md, Ed, rfl, d, hOd⟩
      have hb4 := hOd.ext
      have hn4 : Wb.Ext w3 w4 := Wb.Ext.trans (by (repeat' (first | (with_reducible assumption) | (with_reducible exact Wb.Ext.refl _) | (with_reducible refine Wb.Ext.drew ?_) | (with_reducible refine Wb.Ext.drewN ?_ _) | (with_reducible refine Wb.Ext.alloc ?_ _) | (with_reducible refine Wb.Ext.trans ?_ (by assumption))))) hb4
      have hx4 : Wb.Ext w w4 := hx3.trans hn4
      have xa0 := hn4.keep xa0
      have xa1 := hn4.keep xa1
      have xa2 := hn4.keep xa2
      have xb0 := hn4.keep xb0
      have xb1 := hn4.keep xb1
      have xb2 := hn4.keep xb2
      have zxa := Wb.cell_size xa0
      have zxb := Wb.cell_size xb0
      clear hb4 hn4
      obtain ⟨dA, dK, rfl⟩ := hOd.lns.1.shape
      have HOd := Lib.hid hOd.of
      have HLd := Lib.hid hOd.lns
      clear hOd
      by_cases hEd : Ed = 0
      case neg =>
        have d1 : (Ed == 0) = false := by simpa using hEd
        have d2 : (Ed != 0) = true := by simpa using hEd
        have d3 : ((d.length : Int) == 0) = true := by rw [(Wb.of_bad HOd.out hEd).2.2]; rfl
        clear hEd
        go_wp2
        go_ret
        exact ⟨by first | rfl | exact Wb.ret_bool d3, by (repeat' (first | (with_reducible assumption) | (with_reducible exact Wb.Ext.refl _) | (with_reducible refine Wb.Ext.drew ?_) | (with_reducible refine Wb.Ext.drewN ?_ _) | (with_reducible refine Wb.Ext.alloc ?_ _) | (with_reducible refine Wb.Ext.trans ?_ (by assumption))))⟩
      subst hEd
      have HSd : Hid (Sized d) := Lib.hid (of_sized HOd.out)
      have HFI : Hid (∀ x ∈ d, Wb.fits x.cents = true) := Lib.hid (Wb.of_ok HOd.out).fit
      go_wp2_with fail
      go_fit (dof_any y i _ a y i _ a _ (Ha.out.1.1.ext (by (repeat' (first | (with_reducible assumption) | (with_reducible exact Wb.Ext.refl _) | (with_reducible refine Wb.Ext.drew ?_) | (with_reducible refine Wb.Ext.drewN ?_ _) | (with_reducible refine Wb.Ext.alloc ?_ _) | (with_reducible refine Wb.Ext.trans ?_ (by assumption)))))) HFa.out.sized (Ha.out.1.1.ext (by (repeat' (first | (with_reducible assumption) | (with_reducible exact Wb.Ext.refl _) | (with_reducible refine Wb.Ext.drew ?_) | (with_reducible refine Wb.Ext.drewN ?_ _) | (with_reducible refine Wb.Ext.alloc ?_ _) | (with_reducible refine Wb.Ext.trans ?_ (by assumption)))))) HFa.out.sized); rintro e w5 ⟨Ys, Is, ms, Es, rfl, s, hOs⟩
      have hb5 := hOs.ext
      have hn5 : Wb.Ext w4 w5 := Wb.Ext.trans (by (repeat' (first | (with_reducible assumption) | (with_reducible exact Wb.Ext.refl _) | (with_reducible refine Wb.Ext.drew ?_) | (with_reducible refine Wb.Ext.drewN ?_ _) | (with_reducible refine Wb.Ext.alloc ?_ _) | (with_reducible refine Wb.Ext.trans ?_ (by assumption))))) hb5
      have hx5 : Wb.Ext w w5 := hx4.trans hn5
      have xa0 := hn5.keep xa0
      have xa1 := hn5.keep xa1
      have xa2 := hn5.keep xa2
      have xb0 := hn5.keep xb0
      have xb1 := hn5.keep xb1
      have xb2 := hn5.keep xb2
      have xd0 : w5.cell? ⟨w4.heap.size, 0, none⟩ = some (.int .i64 Yd) := hb5.keep (by simp [go_sem])
      have xd1 : w5.cell? ⟨w4.heap.size, 1, none⟩ = some (.int .i64 Id) := hb5.keep (by simp [go_sem])
      have xd2 : w5.cell? ⟨w4.heap.size, 2, none⟩ = some (.slice dA d.length dK) := hb5.keep (by simp [go_sem])
      have zxa := Wb.cell_size xa0
      have zxb := Wb.cell_size xb0
      have zxd := Wb.cell_size xd0
      replace HLd := Lib.hid (HLd.out.ext hn5)
      clear hb5 hn5
      obtain ⟨sA, sK, rfl⟩ := hOs.lns.1.shape
      have HOs := Lib.hid hOs.of
      have HLs := Lib.hid hOs.lns
      clear hOs
      obtain ⟨rfl, hs0⟩ := Wb.of_self (E := 0) HOd.out HOs.out
      have HS0 := Lib.hid hs0
      clear hs0
      go_wp2_with fail
      go_fit (dof_any y' i' _ b y i _ a _ (Hb.out.1.1.ext (by (repeat' (first | (with_reducible assumption) | (with_reducible exact Wb.Ext.refl _) | (with_reducible refine Wb.Ext.drew ?_) | (with_reducible refine Wb.Ext.drewN ?_ _) | (with_reducible refine Wb.Ext.alloc ?_ _) | (with_reducible refine Wb.Ext.trans ?_ (by assumption)))))) HFb.out.sized (Ha.out.1.1.ext (by (repeat' (first | (with_reducible assumption) | (with_reducible exact Wb.Ext.refl _) | (with_reducible refine Wb.Ext.drew ?_) | (with_reducible refine Wb.Ext.drewN ?_ _) | (with_reducible refine Wb.Ext.alloc ?_ _) | (with_reducible refine Wb.Ext.trans ?_ (by assumption)))))) HFa.out.sized); rintro e w6 ⟨Yr, Ir, mr, Er, rfl, r, hOr⟩
      have hb6 := hOr.ext
      have hn6 : Wb.Ext w5 w6 := Wb.Ext.trans (by (repeat' (first | (with_reducible assumption) | (with_reducible exact Wb.Ext.refl _) | (with_reducible refine Wb.Ext.drew ?_) | (with_reducible refine Wb.Ext.drewN ?_ _) | (with_reducible refine Wb.Ext.alloc ?_ _) | (with_reducible refine Wb.Ext.trans ?_ (by assumption))))) hb6
      have hx6 : Wb.Ext w w6 := hx5.trans hn6
      have xa0 := hn6.keep xa0
      have xa1 := hn6.keep xa1
      have xa2 := hn6.keep xa2
      have xb0 := hn6.keep xb0
      have xb1 := hn6.keep xb1
      have xb2 := hn6.keep xb2
      have xd0 := hn6.keep xd0
      have xd1 := hn6.keep xd1
      have xd2 := hn6.keep xd2
      have xs0 : w6.cell? ⟨w5.heap.size, 0, none⟩ = some (.int .i64 Ys) := hb6.keep (by simp [go_sem])
      have xs1 : w6.cell? ⟨w5.heap.size, 1, none⟩ = some (.int .i64 Is) := hb6.keep (by simp [go_sem])
      have xs2 : w6.cell? ⟨w5.heap.size, 2, none⟩ = some (.slice sA s.length sK) := hb6.keep (by simp [go_sem])
      have zxa := Wb.cell_size xa0
      have zxb := Wb.cell_size xb0
      have zxd := Wb.cell_size xd0
      have zxs := Wb.cell_size xs0
      replace HLd := Lib.hid (HLd.out.ext hn6)
      replace HLs := Lib.hid (HLs.out.ext hn6)
      clear hb6 hn6
      obtain ⟨rA, rK, rfl⟩ := hOr.lns.1.shape
      have HOr := Lib.hid hOr.of
      have HLr := Lib.hid hOr.lns
      clear hOr
      obtain ⟨rfl, hr0⟩ := Wb.of_turn HOd.out HOr.out
      have HR0 := Lib.hid hr0
      have HRL : Hid (r.length = d.length) := Lib.hid (by rw [hr0]; simp [Wb.neg])
      clear hr0
      have HLr : Hid (LnsC _ (.slice rA d.length rK) r) := Lib.hid (by have q := HLr.out; rw [HRL.out] at q; exact q)
      rw [HRL.out]
      go_wp2_with fail
      go_fit (dzero_any Ys Is _ s _ (HLs.out.1.ext (by (repeat' (first | (with_reducible assumption) | (with_reducible exact Wb.Ext.refl _) | (with_reducible refine Wb.Ext.drew ?_) | (with_reducible refine Wb.Ext.drewN ?_ _) | (with_reducible refine Wb.Ext.alloc ?_ _) | (with_reducible refine Wb.Ext.trans ?_ (by assumption))))))); rintro e w7 ⟨rfl, hb7⟩
      have hn7 : Wb.Ext w6 w7 := Wb.Ext.trans (by (repeat' (first | (with_reducible assumption) | (with_reducible exact Wb.Ext.refl _) | (with_reducible refine Wb.Ext.drew ?_) | (with_reducible refine Wb.Ext.drewN ?_ _) | (with_reducible refine Wb.Ext.alloc ?_ _) | (with_reducible refine Wb.Ext.trans ?_ (by assumption))))) hb7
      have hx7 : Wb.Ext w w7 := hx6.trans hn7
      have xa0 := hn7.keep xa0
      have xa1 := hn7.keep xa1
      have xa2 := hn7.keep xa2
      have xb0 := hn7.keep xb0
      have xb1 := hn7.keep xb1
      have xb2 := hn7.keep xb2
      have xd0 := hn7.keep xd0
      have xd1 := hn7.keep xd1
      have xd2 := hn7.keep xd2
      have xs0 := hn7.keep xs0
      have xs1 := hn7.keep xs1
      have xs2 := hn7.keep xs2
      have xr0 : w7.cell? ⟨w6.heap.size, 0, none⟩ = some (.int .i64 Yr) := hb7.keep (by simp [go_sem])
      have xr1 : w7.cell? ⟨w6.heap.size, 1, none⟩ = some (.int .i64 Ir) := hb7.keep (by simp [go_sem])
      have xr2 : w7.cell? ⟨w6.heap.size, 2, none⟩ = some (.slice rA d.length rK) := hb7.keep (by simp [go_sem])
      have zxa := Wb.cell_size xa0
      have zxb := Wb.cell_size xb0
      have zxd := Wb.cell_size xd0
      have zxs := Wb.cell_size xs0
      have zxr := Wb.cell_size xr0
      replace HLd := Lib.hid (HLd.out.ext hn7)
      replace HLs := Lib.hid (HLs.out.ext hn7)
      replace HLr := Lib.hid (HLr.out.ext hn7)
      clear hb7 hn7
      rw [show s.isEmpty = true by rw [HS0.out]; rfl]
      go_wp2_with fail
      go_loopw [11] (fun iv wr => ∃ k : Nat, k ≤ d.length ∧ iv = .int .i64 k ∧ Wb.Ext w7 wr) (fun iv _ => d.length - (intOf iv).toNat)
      case atStart => exact ⟨0, Nat.zero_le _, rfl, by (repeat' (first | (with_reducible assumption) | (with_reducible exact Wb.Ext.refl _) | (with_reducible refine Wb.Ext.drew ?_) | (with_reducible refine Wb.Ext.drewN ?_ _) | (with_reducible refine Wb.Ext.alloc ?_ _) | (with_reducible refine Wb.Ext.trans ?_ (by assumption))))⟩
      case round =>
        obtain ⟨k, hk, rfl, hext⟩ := hrel
        have xa0 := hext.keep xa0
        have xa1 := hext.keep xa1
        have xa2 := hext.keep xa2
        have xb0 := hext.keep xb0
        have xb1 := hext.keep xb1
        have xb2 := hext.keep xb2
        have xd0 := hext.keep xd0
        have xd1 := hext.keep xd1
        have xd2 := hext.keep xd2
        have xs0 := hext.keep xs0
        have xs1 := hext.keep xs1
        have xs2 := hext.keep xs2
        have xr0 := hext.keep xr0
        have xr1 := hext.keep xr1
        have xr2 := hext.keep xr2
        have zxa := Wb.cell_size xa0
        have zxb := Wb.cell_size xb0
        have zxd := Wb.cell_size xd0
        have zxs := Wb.cell_size xs0
        have zxr := Wb.cell_size xr0
        replace HLd := Lib.hid (HLd.out.ext hext)
        replace HLs := Lib.hid (HLs.out.ext hext)
        replace HLr := Lib.hid (HLr.out.ext hext)
        have hx8 : Wb.Ext w wr := hx7.trans hext
        have hdl := HSd.out.1
        by_cases hlt : k < d.length
        · obtain ⟨x, hx⟩ := Wb.get_ex hlt
          have hy : r[k]? = some ⟨x.part, x.code, -x.cents⟩ := by rw [HR0.out, Wb.neg, List.getElem?_map, hx]; rfl
          obtain ⟨hc1, hc2⟩ := (Wb.fits_iff _).1 (HFI.out x (List.mem_of_getElem? hx))
          obtain ⟨bd, od, rfl, hd⟩ := HLd.out.1.opened (tne hlt)
          obtain ⟨br, or, rfl, hr⟩ := HLr.out.1.opened (tne (k := k) (by rw [HRL.out]; exact hlt))
          obtain ⟨c0, c1, c2⟩ := hd _ x hx
          obtain ⟨g0, g1, g2⟩ := hr _ _ hy
          have hki : (k : Int) < d.length := by omega
          clear hx hy hd hr
          go_wp2_with fail
          go_quiet (fail)
          go_wp2
          go_roundw
          case rel => exact ⟨k + 1, by omega, by go_num, by (repeat' (first | (with_reducible assumption) | (with_reducible exact Wb.Ext.refl _) | (with_reducible refine Wb.Ext.drew ?_) | (with_reducible refine Wb.Ext.drewN ?_ _) | (with_reducible refine Wb.Ext.alloc ?_ _) | (with_reducible refine Wb.Ext.trans ?_ (by assumption))))⟩
          case measure => simp [intOf]; omega
        · obtain rfl : k = d.length := by omega
          go_wp2_with fail
          go_fit (rzero_any y i _ a _ (Ha.out.1.1.ext (by (repeat' (first | (with_reducible assumption) | (with_reducible exact Wb.Ext.refl _) | (with_reducible refine Wb.Ext.drew ?_) | (with_reducible refine Wb.Ext.drewN ?_ _) | (with_reducible refine Wb.Ext.alloc ?_ _) | (with_reducible refine Wb.Ext.trans ?_ (by assumption))))))); rintro e w9 ⟨rfl, hb9⟩
          have hn9 : Wb.Ext wr w9 := Wb.Ext.trans (by (repeat' (first | (with_reducible assumption) | (with_reducible exact Wb.Ext.refl _) | (with_reducible refine Wb.Ext.drew ?_) | (with_reducible refine Wb.Ext.drewN ?_ _) | (with_reducible refine Wb.Ext.alloc ?_ _) | (with_reducible refine Wb.Ext.trans ?_ (by assumption))))) hb9
          have hx9 : Wb.Ext w w9 := hx8.trans hn9
          have xa0 := hn9.keep xa0
          have xa1 := hn9.keep xa1
          have xa2 := hn9.keep xa2
          have xb0 := hn9.keep xb0
          have xb1 := hn9.keep xb1
          have xb2 := hn9.keep xb2
          have xd0 := hn9.keep xd0
          have xd1 := hn9.keep xd1
          have xd2 := hn9.keep xd2
          have xs0 := hn9.keep xs0
          have xs1 := hn9.keep xs1
          have xs2 := hn9.keep xs2
          have xr0 := hn9.keep xr0
          have xr1 := hn9.keep xr1
          have xr2 := hn9.keep xr2
          have zxa := Wb.cell_size xa0
          have zxb := Wb.cell_size xb0
          have zxd := Wb.cell_size xd0
          have zxs := Wb.cell_size xs0
          have zxr := Wb.cell_size xr0
          replace HLd := Lib.hid (HLd.out.ext hn9)
          replace HLs := Lib.hid (HLs.out.ext hn9)
          replace HLr := Lib.hid (HLr.out.ext hn9)
          clear hb9 hn9
          obtain ⟨Na, hNa⟩ : ∃ N, Wb.noneB y i a = N := ⟨_, rfl⟩
          have HNa := Lib.hid hNa
          rw [hNa]
          clear hNa
          cases Na
          rotate_left
          · go_wp2_with fail
            go_fit (rzero_any y' i' _ b _ (Hb.out.1.1.ext (by (repeat' (first | (with_reducible assumption) | (with_reducible exact Wb.Ext.refl _) | (with_reducible refine Wb.Ext.drew ?_) | (with_reducible refine Wb.Ext.drewN ?_ _) | (with_reducible refine Wb.Ext.alloc ?_ _) | (with_reducible refine Wb.Ext.trans ?_ (by assumption))))))); rintro e w10 ⟨rfl, hb10⟩
            have hn10 : Wb.Ext w9 w10 := Wb.Ext.trans (by (repeat' (first | (with_reducible assumption) | (with_reducible exact Wb.Ext.refl _) | (with_reducible refine Wb.Ext.drew ?_) | (with_reducible refine Wb.Ext.drewN ?_ _) | (with_reducible refine Wb.Ext.alloc ?_ _) | (with_reducible refine Wb.Ext.trans ?_ (by assumption))))) hb10
            have hx10 : Wb.Ext w w10 := hx9.trans hn10
            have xa0 := hn10.keep xa0
            have xa1 := hn10.keep xa1
            have xa2 := hn10.keep xa2
            have xb0 := hn10.keep xb0
            have xb1 := hn10.keep xb1
            have xb2 := hn10.keep xb2
            have xd0 := hn10.keep xd0
            have xd1 := hn10.keep xd1
            have xd2 := hn10.keep xd2
            have xs0 := hn10.keep xs0
            have xs1 := hn10.keep xs1
            have xs2 := hn10.keep xs2
            have xr0 := hn10.keep xr0
            have xr1 := hn10.keep xr1
            have xr2 := hn10.keep xr2
            have zxa := Wb.cell_size xa0
            have zxb := Wb.cell_size xb0
            have zxd := Wb.cell_size xd0
            have zxs := Wb.cell_size xs0
            have zxr := Wb.cell_size xr0
            replace HLd := Lib.hid (HLd.out.ext hn10)
            replace HLs := Lib.hid (HLs.out.ext hn10)
            replace HLr := Lib.hid (HLr.out.ext hn10)
            clear hb10 hn10
            obtain ⟨Nb, hNb⟩ : ∃ N, Wb.noneB y' i' b = N := ⟨_, rfl⟩
            have HNb := Lib.hid hNb
            rw [hNb]
            clear hNb
            cases Nb
            rotate_left
            · go_wp2
              go_ret
              exact ⟨rfl, by (repeat' (first | (with_reducible assumption) | (with_reducible exact Wb.Ext.refl _) | (with_reducible refine Wb.Ext.drew ?_) | (with_reducible refine Wb.Ext.drewN ?_ _) | (with_reducible refine Wb.Ext.alloc ?_ _) | (with_reducible refine Wb.Ext.trans ?_ (by assumption))))⟩
            obtain ⟨e1, e2, e3⟩ := Wb.of_none HOd.out HNa.out HNb.out
            have HSb : Hid (Sized b) := Lib.hid HFb.out.sized
            subst e1
            subst e2
            subst e3
            go_wp2_with fail
            go_fit (same_eq _ _ _ _ _ _ (HLd.out.1.ext (by (repeat' (first | (with_reducible assumption) | (with_reducible exact Wb.Ext.refl _) | (with_reducible refine Wb.Ext.drew ?_) | (with_reducible refine Wb.Ext.drewN ?_ _) | (with_reducible refine Wb.Ext.alloc ?_ _) | (with_reducible refine Wb.Ext.trans ?_ (by assumption)))))) (Hb.out.1.1.ext (by (repeat' (first | (with_reducible assumption) | (with_reducible exact Wb.Ext.refl _) | (with_reducible refine Wb.Ext.drew ?_) | (with_reducible refine Wb.Ext.drewN ?_ _) | (with_reducible refine Wb.Ext.alloc ?_ _) | (with_reducible refine Wb.Ext.trans ?_ (by assumption)))))) HSd.out); rintro e w99 ⟨rfl, hb99⟩
            go_wp2
            go_ret
            exact ⟨rfl, by (repeat' (first | (with_reducible assumption) | (with_reducible exact Wb.Ext.refl _) | (with_reducible refine Wb.Ext.drew ?_) | (with_reducible refine Wb.Ext.drewN ?_ _) | (with_reducible refine Wb.Ext.alloc ?_ _) | (with_reducible refine Wb.Ext.trans ?_ (by assumption))))⟩
          go_wp2_with fail
          go_fit (rzero_any y' i' _ b _ (Hb.out.1.1.ext (by (repeat' (first | (with_reducible assumption) | (with_reducible exact Wb.Ext.refl _) | (with_reducible refine Wb.Ext.drew ?_) | (with_reducible refine Wb.Ext.drewN ?_ _) | (with_reducible refine Wb.Ext.alloc ?_ _) | (with_reducible refine Wb.Ext.trans ?_ (by assumption))))))); rintro e w10 ⟨rfl, hb10⟩
          have hn10 : Wb.Ext w9 w10 := Wb.Ext.trans (by (repeat' (first | (with_reducible assumption) | (with_reducible exact Wb.Ext.refl _) | (with_reducible refine Wb.Ext.drew ?_) | (with_reducible refine Wb.Ext.drewN ?_ _) | (with_reducible refine Wb.Ext.alloc ?_ _) | (with_reducible refine Wb.Ext.trans ?_ (by assumption))))) hb10
          have hx10 : Wb.Ext w w10 := hx9.trans hn10
          have xa0 := hn10.keep xa0
          have xa1 := hn10.keep xa1
          have xa2 := hn10.keep xa2
          have xb0 := hn10.keep xb0
          have xb1 := hn10.keep xb1
          have xb2 := hn10.keep xb2
          have xd0 := hn10.keep xd0
          have xd1 := hn10.keep xd1
          have xd2 := hn10.keep xd2
          have xs0 := hn10.keep xs0
          have xs1 := hn10.keep xs1
          have xs2 := hn10.keep xs2
          have xr0 := hn10.keep xr0
          have xr1 := hn10.keep xr1
          have xr2 := hn10.keep xr2
          have zxa := Wb.cell_size xa0
          have zxb := Wb.cell_size xb0
          have zxd := Wb.cell_size xd0
          have zxs := Wb.cell_size xs0
          have zxr := Wb.cell_size xr0
          replace HLd := Lib.hid (HLd.out.ext hn10)
          replace HLs := Lib.hid (HLs.out.ext hn10)
          replace HLr := Lib.hid (HLr.out.ext hn10)
          clear hb10 hn10
          obtain ⟨Nb, hNb⟩ : ∃ N, Wb.noneB y' i' b = N := ⟨_, rfl⟩
          have HNb := Lib.hid hNb
          rw [hNb]
          clear hNb
          cases Nb
          rotate_left
          · go_wp2_with fail
            go_fit (rzero_any y' i' _ b _ (Hb.out.1.1.ext (by (repeat' (first | (with_reducible assumption) | (with_reducible exact Wb.Ext.refl _) | (with_reducible refine Wb.Ext.drew ?_) | (with_reducible refine Wb.Ext.drewN ?_ _) | (with_reducible refine Wb.Ext.alloc ?_ _) | (with_reducible refine Wb.Ext.trans ?_ (by assumption))))))); rintro e w11 ⟨rfl, hb11⟩
            have hn11 : Wb.Ext w10 w11 := Wb.Ext.trans (by (repeat' (first | (with_reducible assumption) | (with_reducible exact Wb.Ext.refl _) | (with_reducible refine Wb.Ext.drew ?_) | (with_reducible refine Wb.Ext.drewN ?_ _) | (with_reducible refine Wb.Ext.alloc ?_ _) | (with_reducible refine Wb.Ext.trans ?_ (by assumption))))) hb11
            have hx11 : Wb.Ext w w11 := hx10.trans hn11
            have xa0 := hn11.keep xa0
            have xa1 := hn11.keep xa1
            have xa2 := hn11.keep xa2
            have xb0 := hn11.keep xb0
            have xb1 := hn11.keep xb1
            have xb2 := hn11.keep xb2
            have xd0 := hn11.keep xd0
            have xd1 := hn11.keep xd1
            have xd2 := hn11.keep xd2
            have xs0 := hn11.keep xs0
            have xs1 := hn11.keep xs1
            have xs2 := hn11.keep xs2
            have xr0 := hn11.keep xr0
            have xr1 := hn11.keep xr1
            have xr2 := hn11.keep xr2
            have zxa := Wb.cell_size xa0
            have zxb := Wb.cell_size xb0
            have zxd := Wb.cell_size xd0
            have zxs := Wb.cell_size xs0
            have zxr := Wb.cell_size xr0
            replace HLd := Lib.hid (HLd.out.ext hn11)
            replace HLs := Lib.hid (HLs.out.ext hn11)
            replace HLr := Lib.hid (HLr.out.ext hn11)
            clear hb11 hn11
            rw [HNb.out]
            go_wp2
            go_ret
            exact ⟨rfl, by (repeat' (first | (with_reducible assumption) | (with_reducible exact Wb.Ext.refl _) | (with_reducible refine Wb.Ext.drew ?_) | (with_reducible refine Wb.Ext.drewN ?_ _) | (with_reducible refine Wb.Ext.alloc ?_ _) | (with_reducible refine Wb.Ext.trans ?_ (by assumption))))⟩
          have HBK := Lib.hid (Wb.of_back HOd.out HNa.out HNb.out)
          go_wp2_with fail
          go_fit (merge_any y i Yd Id _ _ a d _ (Ha.out.1.1.ext (by (repeat' (first | (with_reducible assumption) | (with_reducible exact Wb.Ext.refl _) | (with_reducible refine Wb.Ext.drew ?_) | (with_reducible refine Wb.Ext.drewN ?_ _) | (with_reducible refine Wb.Ext.alloc ?_ _) | (with_reducible refine Wb.Ext.trans ?_ (by assumption)))))) (HLd.out.1.ext (by (repeat' (first | (with_reducible assumption) | (with_reducible exact Wb.Ext.refl _) | (with_reducible refine Wb.Ext.drew ?_) | (with_reducible refine Wb.Ext.drewN ?_ _) | (with_reducible refine Wb.Ext.alloc ?_ _) | (with_reducible refine Wb.Ext.trans ?_ (by assumption)))))) HFa.out.sized HSd.out Ha.out.1.2 HLd.out.2); rintro e w11 ⟨m, rfl, hm, hb11⟩
          have hn11 : Wb.Ext w10 w11 := Wb.Ext.trans (by (repeat' (first | (with_reducible assumption) | (with_reducible exact Wb.Ext.refl _) | (with_reducible refine Wb.Ext.drew ?_) | (with_reducible refine Wb.Ext.drewN ?_ _) | (with_reducible refine Wb.Ext.alloc ?_ _) | (with_reducible refine Wb.Ext.trans ?_ (by assumption))))) hb11
          have hx11 : Wb.Ext w w11 := hx10.trans hn11
          have xa0 := hn11.keep xa0
          have xa1 := hn11.keep xa1
          have xa2 := hn11.keep xa2
          have xb0 := hn11.keep xb0
          have xb1 := hn11.keep xb1
          have xb2 := hn11.keep xb2
          have xd0 := hn11.keep xd0
          have xd1 := hn11.keep xd1
          have xd2 := hn11.keep xd2
          have xs0 := hn11.keep xs0
          have xs1 := hn11.keep xs1
          have xs2 := hn11.keep xs2
          have xr0 := hn11.keep xr0
          have xr1 := hn11.keep xr1
          have xr2 := hn11.keep xr2
          have zxa := Wb.cell_size xa0
          have zxb := Wb.cell_size xb0
          have zxd := Wb.cell_size xd0
          have zxs := Wb.cell_size xs0
          have zxr := Wb.cell_size xr0
          replace HLd := Lib.hid (HLd.out.ext hn11)
          replace HLs := Lib.hid (HLs.out.ext hn11)
          replace HLr := Lib.hid (HLr.out.ext hn11)
          clear hb11 hn11
          rw [HBK.out.2.2.2.2] at hm ⊢
          simp only at hm
          obtain ⟨mA, mK, rfl⟩ := hm.1.shape
          have HLm := Lib.hid hm
          clear hm
          go_wp2_with fail
          go_fit (same_eq y' i' _ _ b _ (HLm.out.1.ext (by (repeat' (first | (with_reducible assumption) | (with_reducible exact Wb.Ext.refl _) | (with_reducible refine Wb.Ext.drew ?_) | (with_reducible refine Wb.Ext.drewN ?_ _) | (with_reducible refine Wb.Ext.alloc ?_ _) | (with_reducible refine Wb.Ext.trans ?_ (by assumption)))))) (Hb.out.1.1.ext (by (repeat' (first | (with_reducible assumption) | (with_reducible exact Wb.Ext.refl _) | (with_reducible refine Wb.Ext.drew ?_) | (with_reducible refine Wb.Ext.drewN ?_ _) | (with_reducible refine Wb.Ext.alloc ?_ _) | (with_reducible refine Wb.Ext.trans ?_ (by assumption)))))) HFb.out.sized); rintro e w99 ⟨rfl, hb99⟩
          go_wp2
          go_ret
          exact ⟨rfl, by (repeat' (first | (with_reducible assumption) | (with_reducible exact Wb.Ext.refl _) | (with_reducible refine Wb.Ext.drew ?_) | (with_reducible refine Wb.Ext.drewN ?_ _) | (with_reducible refine Wb.Ext.alloc ?_ _) | (with_reducible refine Wb.Ext.trans ?_ (by assumption))))⟩

end Go.Proofs.Ytdfmlgjemfcmlaa
