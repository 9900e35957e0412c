/- Chapter 29: DeltaSums. -/
import Derived.Test.YtdfmlgjemfcmlaaDLaw0
import Derived.Test.YtdfmlgjemfcmlaaPlain29d
import Derived.Deep.RegionHeld3
namespace Go.Proofs.Ytdfmlgjemfcmlaa
open Go.RowKit Go.Lib
set_option maxRecDepth 8000
attribute [local go_sem ↓] Go.wp_at_zero Go.wp_at_succ

set_option maxHeartbeats 4000000 in
theorem dsums_walk (y i : Int) (ua : Value) (a : List Wb.Ln) (y' i' : Int) (ub : Value) (b : List Wb.Ln) (w : World) (ha : LnsS w ua a) (hBa : BigL a) (hb : LnsS w ub b) (hBb : BigL b) :
    Calls Try.prog 4 #[SlV y i ua, SlV y' i' ub] w fun e w' => e = .returned (.bool true) ∧ Wb.Ext w w' := by
  obtain ⟨aA, aK, rfl⟩ := ha.1.1.shape
  have Ha := Lib.hid ha
  have HBa := Lib.hid hBa
  clear ha hBa
  obtain ⟨bA, bK, rfl⟩ := hb.1.1.shape
  have Hb := Lib.hid hb
  have HBb := Lib.hid hBb
  clear hb hBb
  go_enter Try.func4, Try.ntmps4
  go_wp2_with fail
  go_fit (awake29_any _); rintro e w1 ⟨rfl, hb1⟩
  have hn1 : Wb.Ext w w1 := Wb.Ext.trans (by (repeat' (first | (with_reducible assumption) | (with_reducible exact Wb.Ext.refl _) | (with_reducible refine Wb.Ext.drew ?_) | (with_reducible refine Wb.Ext.drewN ?_ _) | (with_reducible refine Wb.Ext.alloc ?_ _) | (with_reducible refine Wb.Ext.trans ?_ (by assumption))))) hb1
  have hx1 : Wb.Ext w w1 := hn1
  have xa0 : w1.cell? ⟨w.heap.size, 0, none⟩ = some (.int .i64 y) := hb1.keep (by simp [go_sem])
  have xa1 : w1.cell? ⟨w.heap.size, 1, none⟩ = some (.int .i64 i) := hb1.keep (by simp [go_sem])
  have xa2 : w1.cell? ⟨w.heap.size, 2, none⟩ = some (.slice aA a.length aK) := hb1.keep (by simp [go_sem])
  have xb0 : w1.cell? ⟨w.heap.size + 1, 0, none⟩ = some (.int .i64 y') := hb1.keep (by simp [go_sem])
  have xb1 : w1.cell? ⟨w.heap.size + 1, 1, none⟩ = some (.int .i64 i') := hb1.keep (by simp [go_sem])
  have xb2 : w1.cell? ⟨w.heap.size + 1, 2, none⟩ = some (.slice bA b.length bK) := hb1.keep (by simp [go_sem])
  have zxa := Wb.cell_size xa0
  have zxb := Wb.cell_size xb0
  clear hb1 hn1
  go_wp2_with fail
  go_fit (rshort2_any y i _ a _ (Ha.out.1.1.ext (by (repeat' (first | (with_reducible assumption) | (with_reducible exact Wb.Ext.refl _) | (with_reducible refine Wb.Ext.drew ?_) | (with_reducible refine Wb.Ext.drewN ?_ _) | (with_reducible refine Wb.Ext.alloc ?_ _) | (with_reducible refine Wb.Ext.trans ?_ (by assumption)))))) HBa.out); rintro e w2 ⟨qa, rfl, hqa, hb2⟩
  have hn2 : Wb.Ext w1 w2 := Wb.Ext.trans (by (repeat' (first | (with_reducible assumption) | (with_reducible exact Wb.Ext.refl _) | (with_reducible refine Wb.Ext.drew ?_) | (with_reducible refine Wb.Ext.drewN ?_ _) | (with_reducible refine Wb.Ext.alloc ?_ _) | (with_reducible refine Wb.Ext.trans ?_ (by assumption))))) hb2
  have hx2 : Wb.Ext w w2 := hx1.trans hn2
  have xa0 := hn2.keep xa0
  have xa1 := hn2.keep xa1
  have xa2 := hn2.keep xa2
  have xb0 := hn2.keep xb0
  have xb1 := hn2.keep xb1
  have xb2 := hn2.keep xb2
  have zxa := Wb.cell_size xa0
  have zxb := Wb.cell_size xb0
  clear hb2 hn2
  have HQa := Lib.hid hqa
  clear hqa
  cases qa
  · go_wp2
    go_ret
    exact ⟨rfl, by (repeat' (first | (with_reducible assumption) | (with_reducible exact Wb.Ext.refl _) | (with_reducible refine Wb.Ext.drew ?_) | (with_reducible refine Wb.Ext.drewN ?_ _) | (with_reducible refine Wb.Ext.alloc ?_ _) | (with_reducible refine Wb.Ext.trans ?_ (by assumption))))⟩
  · skip
    have HFa : Hid (Few a) := Lib.hid (HQa.out rfl)
    clear HQa
    go_wp2_with fail
    go_fit (rshort2_any y' i' _ b _ (Hb.out.1.1.ext (by (repeat' (first | (with_reducible assumption) | (with_reducible exact Wb.Ext.refl _) | (with_reducible refine Wb.Ext.drew ?_) | (with_reducible refine Wb.Ext.drewN ?_ _) | (with_reducible refine Wb.Ext.alloc ?_ _) | (with_reducible refine Wb.Ext.trans ?_ (by assumption)))))) HBb.out); rintro e w3 ⟨qb, rfl, hqb, hb3⟩
    have hn3 : Wb.Ext w2 w3 := Wb.Ext.trans (by (repeat' (first | (with_reducible assumption) | (with_reducible exact Wb.Ext.refl _) | (with_reducible refine Wb.Ext.drew ?_) | (with_reducible refine Wb.Ext.drewN ?_ _) | (with_reducible refine Wb.Ext.alloc ?_ _) | (with_reducible refine Wb.Ext.trans ?_ (by assumption))))) hb3
    have hx3 : Wb.Ext w w3 := hx2.trans hn3
    have xa0 := hn3.keep xa0
    have xa1 := hn3.keep xa1
    have xa2 := hn3.keep xa2
    have xb0 := hn3.keep xb0
    have xb1 := hn3.keep xb1
    have xb2 := hn3.keep xb2
    have zxa := Wb.cell_size xa0
    have zxb := Wb.cell_size xb0
    clear hb3 hn3
    have HQb := Lib.hid hqb
    clear hqb
    cases qb
    · go_wp2
      go_ret
      exact ⟨rfl, by (repeat' (first | (with_reducible assumption) | (with_reducible exact Wb.Ext.refl _) | (with_reducible refine Wb.Ext.drew ?_) | (with_reducible refine Wb.Ext.drewN ?_ _) | (with_reducible refine Wb.Ext.alloc ?_ _) | (with_reducible refine Wb.Ext.trans ?_ (by assumption))))⟩
    · skip
      have HFb : Hid (Few b) := Lib.hid (HQb.out rfl)
      clear HQb
      go_wp2_with fail
      go_fit (dof_any y i _ a y' i' _ b _ (Ha.out.1.1.ext (by (repeat' (first | (with_reducible assumption) | (with_reducible exact Wb.Ext.refl _) | (with_reducible refine Wb.Ext.drew ?_) | (with_reducible refine Wb.Ext.drewN ?_ _) | (with_reducible refine Wb.Ext.alloc ?_ _) | (with_reducible refine Wb.Ext.trans ?_ (by assumption)))))) HFa.out.sized (Hb.out.1.1.ext (by (repeat' (first | (with_reducible assumption) | (with_reducible exact Wb.Ext.refl _) | (with_reducible refine Wb.Ext.drew ?_) | (with_reducible refine Wb.Ext.drewN ?_ _) | (with_reducible refine Wb.Ext.alloc ?_ _) | (with_reducible refine Wb.Ext.trans ?_ (by assumption)))))) HFb.out.sized); rintro e w4 ⟨Yd, Id, md, Ed, rfl, d, hOd⟩
      have hb4 := hOd.ext
      have hn4 : Wb.Ext w3 w4 := Wb.Ext.trans (by (repeat' (first | (with_reducible assumption) | (with_reducible exact Wb.Ext.refl _) | (with_reducible refine Wb.Ext.drew ?_) | (with_reducible refine Wb.Ext.drewN ?_ _) | (with_reducible refine Wb.Ext.alloc ?_ _) | (with_reducible refine Wb.Ext.trans ?_ (by assumption))))) hb4
      have hx4 : Wb.Ext w w4 := hx3.trans hn4
      have xa0 := hn4.keep xa0
      have xa1 := hn4.keep xa1
      have xa2 := hn4.keep xa2
      have xb0 := hn4.keep xb0
      have xb1 := hn4.keep xb1
      have xb2 := hn4.keep xb2
      have zxa := Wb.cell_size xa0
      have zxb := Wb.cell_size xb0
      clear hb4 hn4
      obtain ⟨dA, dK, rfl⟩ := hOd.lns.1.shape
      have HOd := Lib.hid hOd.of
      have HLd := Lib.hid hOd.lns
      clear hOd
      by_cases hEd : Ed = 0
      case neg =>
        have d : (Ed == 0) = false := by simpa using hEd
        have d2 : (Ed != 0) = true := by simpa using hEd
        clear hEd
        go_wp2
        go_ret
        exact ⟨rfl, by (repeat' (first | (with_reducible assumption) | (with_reducible exact Wb.Ext.refl _) | (with_reducible refine Wb.Ext.drew ?_) | (with_reducible refine Wb.Ext.drewN ?_ _) | (with_reducible refine Wb.Ext.alloc ?_ _) | (with_reducible refine Wb.Ext.trans ?_ (by assumption))))⟩
      subst hEd
      have HSd : Hid (Sized d) := Lib.hid (of_sized HOd.out)
      go_wp2_with fail
      go_fit (rzero_any y i _ a _ (Ha.out.1.1.ext (by (repeat' (first | (with_reducible assumption) | (with_reducible exact Wb.Ext.refl _) | (with_reducible refine Wb.Ext.drew ?_) | (with_reducible refine Wb.Ext.drewN ?_ _) | (with_reducible refine Wb.Ext.alloc ?_ _) | (with_reducible refine Wb.Ext.trans ?_ (by assumption))))))); rintro e w5 ⟨rfl, hb5⟩
      have hn5 : Wb.Ext w4 w5 := Wb.Ext.trans (by (repeat' (first | (with_reducible assumption) | (with_reducible exact Wb.Ext.refl _) | (with_reducible refine Wb.Ext.drew ?_) | (with_reducible refine Wb.Ext.drewN ?_ _) | (with_reducible refine Wb.Ext.alloc ?_ _) | (with_reducible refine Wb.Ext.trans ?_ (by assumption))))) hb5
      have hx5 : Wb.Ext w w5 := hx4.trans hn5
      have xa0 := hn5.keep xa0
      have xa1 := hn5.keep xa1
      have xa2 := hn5.keep xa2
      have xb0 := hn5.keep xb0
      have xb1 := hn5.keep xb1
      have xb2 := hn5.keep xb2
      have xd0 : w5.cell? ⟨w4.heap.size, 0, none⟩ = some (.int .i64 Yd) := hb5.keep (by simp [go_sem])
      have xd1 : w5.cell? ⟨w4.heap.size, 1, none⟩ = some (.int .i64 Id) := hb5.keep (by simp [go_sem])
      have xd2 : w5.cell? ⟨w4.heap.size, 2, none⟩ = some (.slice dA d.length dK) := hb5.keep (by simp [go_sem])
      have zxa := Wb.cell_size xa0
      have zxb := Wb.cell_size xb0
      have zxd := Wb.cell_size xd0
      replace HLd := Lib.hid (HLd.out.ext hn5)
      clear hb5 hn5
      obtain ⟨Na, hNa⟩ : ∃ N, Wb.noneB y i a = N := ⟨_, rfl⟩
      have HNa := Lib.hid hNa
      rw [hNa]
      clear hNa
      cases Na
      rotate_left
      · go_wp2
        go_ret
        exact ⟨rfl, by (repeat' (first | (with_reducible assumption) | (with_reducible exact Wb.Ext.refl _) | (with_reducible refine Wb.Ext.drew ?_) | (with_reducible refine Wb.Ext.drewN ?_ _) | (with_reducible refine Wb.Ext.alloc ?_ _) | (with_reducible refine Wb.Ext.trans ?_ (by assumption))))⟩
      · skip
        go_wp2_with fail
        go_fit (rzero_any y' i' _ b _ (Hb.out.1.1.ext (by (repeat' (first | (with_reducible assumption) | (with_reducible exact Wb.Ext.refl _) | (with_reducible refine Wb.Ext.drew ?_) | (with_reducible refine Wb.Ext.drewN ?_ _) | (with_reducible refine Wb.Ext.alloc ?_ _) | (with_reducible refine Wb.Ext.trans ?_ (by assumption))))))); rintro e w6 ⟨rfl, hb6⟩
        have hn6 : Wb.Ext w5 w6 := Wb.Ext.trans (by (repeat' (first | (with_reducible assumption) | (with_reducible exact Wb.Ext.refl _) | (with_reducible refine Wb.Ext.drew ?_) | (with_reducible refine Wb.Ext.drewN ?_ _) | (with_reducible refine Wb.Ext.alloc ?_ _) | (with_reducible refine Wb.Ext.trans ?_ (by assumption))))) hb6
        have hx6 : Wb.Ext w w6 := hx5.trans hn6
        have xa0 := hn6.keep xa0
        have xa1 := hn6.keep xa1
        have xa2 := hn6.keep xa2
        have xb0 := hn6.keep xb0
        have xb1 := hn6.keep xb1
        have xb2 := hn6.keep xb2
        have xd0 := hn6.keep xd0
        have xd1 := hn6.keep xd1
        have xd2 := hn6.keep xd2
        have zxa := Wb.cell_size xa0
        have zxb := Wb.cell_size xb0
        have zxd := Wb.cell_size xd0
        replace HLd := Lib.hid (HLd.out.ext hn6)
        clear hb6 hn6
        obtain ⟨Nb, hNb⟩ : ∃ N, Wb.noneB y' i' b = N := ⟨_, rfl⟩
        have HNb := Lib.hid hNb
        rw [hNb]
        clear hNb
        cases Nb
        rotate_left
        · go_wp2
          go_ret
          exact ⟨rfl, by (repeat' (first | (with_reducible assumption) | (with_reducible exact Wb.Ext.refl _) | (with_reducible refine Wb.Ext.drew ?_) | (with_reducible refine Wb.Ext.drewN ?_ _) | (with_reducible refine Wb.Ext.alloc ?_ _) | (with_reducible refine Wb.Ext.trans ?_ (by assumption))))⟩
        · skip
          have HBK := Lib.hid (Wb.of_back HOd.out HNa.out HNb.out)
          obtain ⟨⟨ga, ha, na, fa, ea⟩, hqa⟩ : ∃ q, Wb.sums y i a = q := ⟨_, rfl⟩
          have HUa := Lib.hid hqa
          have HUBa := Lib.hid (Wb.sums_law hqa)
          clear hqa
          go_wp2_with fail
          go_fit (sums_any y i _ a _ (Ha.out.1.1.ext (by (repeat' (first | (with_reducible assumption) | (with_reducible exact Wb.Ext.refl _) | (with_reducible refine Wb.Ext.drew ?_) | (with_reducible refine Wb.Ext.drewN ?_ _) | (with_reducible refine Wb.Ext.alloc ?_ _) | (with_reducible refine Wb.Ext.trans ?_ (by assumption)))))) HFa.out.sized); rintro e w7 ⟨rfl, hb7⟩
          have hn7 : Wb.Ext w6 w7 := Wb.Ext.trans (by (repeat' (first | (with_reducible assumption) | (with_reducible exact Wb.Ext.refl _) | (with_reducible refine Wb.Ext.drew ?_) | (with_reducible refine Wb.Ext.drewN ?_ _) | (with_reducible refine Wb.Ext.alloc ?_ _) | (with_reducible refine Wb.Ext.trans ?_ (by assumption))))) hb7
          have hx7 : Wb.Ext w w7 := hx6.trans hn7
          have xa0 := hn7.keep xa0
          have xa1 := hn7.keep xa1
          have xa2 := hn7.keep xa2
          have xb0 := hn7.keep xb0
          have xb1 := hn7.keep xb1
          have xb2 := hn7.keep xb2
          have xd0 := hn7.keep xd0
          have xd1 := hn7.keep xd1
          have xd2 := hn7.keep xd2
          have zxa := Wb.cell_size xa0
          have zxb := Wb.cell_size xb0
          have zxd := Wb.cell_size xd0
          replace HLd := Lib.hid (HLd.out.ext hn7)
          clear hb7 hn7
          rw [HUa.out]
          obtain ⟨⟨gb, hb, nb, fb, eb⟩, hqb⟩ : ∃ q, Wb.sums y' i' b = q := ⟨_, rfl⟩
          have HUb := Lib.hid hqb
          have HUBb := Lib.hid (Wb.sums_law hqb)
          clear hqb
          go_wp2_with fail
          go_fit (sums_any y' i' _ b _ (Hb.out.1.1.ext (by (repeat' (first | (with_reducible assumption) | (with_reducible exact Wb.Ext.refl _) | (with_reducible refine Wb.Ext.drew ?_) | (with_reducible refine Wb.Ext.drewN ?_ _) | (with_reducible refine Wb.Ext.alloc ?_ _) | (with_reducible refine Wb.Ext.trans ?_ (by assumption)))))) HFb.out.sized); rintro e w8 ⟨rfl, hb8⟩
          have hn8 : Wb.Ext w7 w8 := Wb.Ext.trans (by (repeat' (first | (with_reducible assumption) | (with_reducible exact Wb.Ext.refl _) | (with_reducible refine Wb.Ext.drew ?_) | (with_reducible refine Wb.Ext.drewN ?_ _) | (with_reducible refine Wb.Ext.alloc ?_ _) | (with_reducible refine Wb.Ext.trans ?_ (by assumption))))) hb8
          have hx8 : Wb.Ext w w8 := hx7.trans hn8
          have xa0 := hn8.keep xa0
          have xa1 := hn8.keep xa1
          have xa2 := hn8.keep xa2
          have xb0 := hn8.keep xb0
          have xb1 := hn8.keep xb1
          have xb2 := hn8.keep xb2
          have xd0 := hn8.keep xd0
          have xd1 := hn8.keep xd1
          have xd2 := hn8.keep xd2
          have zxa := Wb.cell_size xa0
          have zxb := Wb.cell_size xb0
          have zxd := Wb.cell_size xd0
          replace HLd := Lib.hid (HLd.out.ext hn8)
          clear hb8 hn8
          rw [HUb.out]
          obtain ⟨⟨gd, hd, nd, fd, ed⟩, hqd⟩ : ∃ q, Wb.sums Yd Id d = q := ⟨_, rfl⟩
          have HUd := Lib.hid hqd
          have HUBd := Lib.hid (Wb.sums_law hqd)
          clear hqd
          go_wp2_with fail
          go_fit (sums_any Yd Id _ d _ (HLd.out.1.ext (by (repeat' (first | (with_reducible assumption) | (with_reducible exact Wb.Ext.refl _) | (with_reducible refine Wb.Ext.drew ?_) | (with_reducible refine Wb.Ext.drewN ?_ _) | (with_reducible refine Wb.Ext.alloc ?_ _) | (with_reducible refine Wb.Ext.trans ?_ (by assumption)))))) HSd.out); rintro e w9 ⟨rfl, hb9⟩
          have hn9 : Wb.Ext w8 w9 := Wb.Ext.trans (by (repeat' (first | (with_reducible assumption) | (with_reducible exact Wb.Ext.refl _) | (with_reducible refine Wb.Ext.drew ?_) | (with_reducible refine Wb.Ext.drewN ?_ _) | (with_reducible refine Wb.Ext.alloc ?_ _) | (with_reducible refine Wb.Ext.trans ?_ (by assumption))))) hb9
          have hx9 : Wb.Ext w w9 := hx8.trans hn9
          have xa0 := hn9.keep xa0
          have xa1 := hn9.keep xa1
          have xa2 := hn9.keep xa2
          have xb0 := hn9.keep xb0
          have xb1 := hn9.keep xb1
          have xb2 := hn9.keep xb2
          have xd0 := hn9.keep xd0
          have xd1 := hn9.keep xd1
          have xd2 := hn9.keep xd2
          have zxa := Wb.cell_size xa0
          have zxb := Wb.cell_size xb0
          have zxd := Wb.cell_size xd0
          replace HLd := Lib.hid (HLd.out.ext hn9)
          clear hb9 hn9
          rw [HUd.out]
          by_cases hea : ea = 0
          case neg =>
            have d : (ea == 0) = false := by simpa using hea
            have d2 : (ea != 0) = true := by simpa using hea
            clear hea
            go_wp2
            go_ret
            exact ⟨rfl, by (repeat' (first | (with_reducible assumption) | (with_reducible exact Wb.Ext.refl _) | (with_reducible refine Wb.Ext.drew ?_) | (with_reducible refine Wb.Ext.drewN ?_ _) | (with_reducible refine Wb.Ext.alloc ?_ _) | (with_reducible refine Wb.Ext.trans ?_ (by assumption))))⟩
          subst hea
          by_cases heb : eb = 0
          case neg =>
            have d : (eb == 0) = false := by simpa using heb
            have d2 : (eb != 0) = true := by simpa using heb
            clear heb
            go_wp2
            go_ret
            exact ⟨rfl, by (repeat' (first | (with_reducible assumption) | (with_reducible exact Wb.Ext.refl _) | (with_reducible refine Wb.Ext.drew ?_) | (with_reducible refine Wb.Ext.drewN ?_ _) | (with_reducible refine Wb.Ext.alloc ?_ _) | (with_reducible refine Wb.Ext.trans ?_ (by assumption))))⟩
          subst heb
          by_cases hed : ed = 0
          case neg =>
            have d : (ed == 0) = false := by simpa using hed
            have d2 : (ed != 0) = true := by simpa using hed
            clear hed
            go_wp2
            go_ret
            exact ⟨rfl, by (repeat' (first | (with_reducible assumption) | (with_reducible exact Wb.Ext.refl _) | (with_reducible refine Wb.Ext.drew ?_) | (with_reducible refine Wb.Ext.drewN ?_ _) | (with_reducible refine Wb.Ext.alloc ?_ _) | (with_reducible refine Wb.Ext.trans ?_ (by assumption))))⟩
          subst hed
          have HADD := Lib.hid (Wb.sums_add HUa.out HUd.out HUb.out HBK.out.2.2.2.1 rfl rfl rfl)
          obtain ⟨-, ⟨ba1, ba2⟩, ⟨ba3, ba4⟩, ⟨ba5, ba6⟩, ba7, ba8⟩ := HUBa.out
          obtain ⟨-, ⟨bb1, bb2⟩, ⟨bb3, bb4⟩, ⟨bb5, bb6⟩, bb7, bb8⟩ := HUBb.out
          obtain ⟨-, ⟨bd1, bd2⟩, ⟨bd3, bd4⟩, ⟨bd5, bd6⟩, bd7, bd8⟩ := HUBd.out
          have HNF := Lib.hid (show Wb.netF 0 [⟨y, i, .slice aA a.length aK, a⟩, ⟨Yd, Id, .slice dA d.length dK, d⟩] = (nb, 0) by
            have hnd : Wb.noneB Yd Id d = false := Wb.check_none HBK.out.2.2.1
            have hs := HADD.out.2.2.1
            rw [net_more (s := ⟨y, i, .slice aA a.length aK, a⟩) HNa.out HUa.out ((Wb.fits_iff _).2 (by omega)), net_more (s := ⟨Yd, Id, .slice dA d.length dK, d⟩) hnd HUd.out ((Wb.fits_iff _).2 (by omega)), Wb.netF, hs, Int.zero_add])
          go_wp2_with fail
          go_fit (dnet_any _ [⟨y, i, .slice aA a.length aK, a⟩, ⟨Yd, Id, .slice dA d.length dK, d⟩] _ ⟨tbl_lit w9 _ rfl _ _, fun s hs => by
            simp at hs
            rcases hs with rfl | rfl
            · exact ⟨Ha.out.1.ext (by (repeat' (first | (with_reducible assumption) | (with_reducible exact Wb.Ext.refl _) | (with_reducible refine Wb.Ext.drew ?_) | (with_reducible refine Wb.Ext.drewN ?_ _) | (with_reducible refine Wb.Ext.alloc ?_ _) | (with_reducible refine Wb.Ext.trans ?_ (by assumption))))), HFa.out.sized⟩
            · exact ⟨HLd.out.ext (by (repeat' (first | (with_reducible assumption) | (with_reducible exact Wb.Ext.refl _) | (with_reducible refine Wb.Ext.drew ?_) | (with_reducible refine Wb.Ext.drewN ?_ _) | (with_reducible refine Wb.Ext.alloc ?_ _) | (with_reducible refine Wb.Ext.trans ?_ (by assumption))))), HSd.out⟩⟩ (by simp)); rintro e w99 ⟨rfl, hb99⟩
          rw [HNF.out]
          obtain ⟨s1, s2, s3, s4⟩ := HADD.out
          have s5 := HUBd.out.1
          have t1 : (ga + gd == gb) = true := by simpa using s1.symm
          have t2 : (ha + hd == hb) = true := by simpa using s2.symm
          have t3 : (na + nd == nb) = true := by simpa using s3.symm
          have t4 : (fa + fd == fb) = true := by simpa using s4.symm
          have t5 : (gd == nd + hd) = true := by simp; omega
          clear s1 s2 s3 s4 s5
          go_wp2
          go_ret
          exact ⟨rfl, by (repeat' (first | (with_reducible assumption) | (with_reducible exact Wb.Ext.refl _) | (with_reducible refine Wb.Ext.drew ?_) | (with_reducible refine Wb.Ext.drewN ?_ _) | (with_reducible refine Wb.Ext.alloc ?_ _) | (with_reducible refine Wb.Ext.trans ?_ (by assumption))))⟩

end Go.Proofs.Ytdfmlgjemfcmlaa
