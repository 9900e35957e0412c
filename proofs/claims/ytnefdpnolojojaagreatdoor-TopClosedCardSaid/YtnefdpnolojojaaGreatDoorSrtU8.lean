/- SrtU8 -/
import Derived.Test.YtnefdpnolojojaaGreatDoorSrtU5
import Derived.Test.YtnefdpnolojojaaGreatDoorSrtU7
import Derived.Sort.LotD3
import Derived.Shelf.Small.Bits
namespace Go.Proofs.YtnefdpnolojojaaGreatDoor
open Go.RowKit Go.Sort
set_option maxRecDepth 8000
set_option maxHeartbeats 20000000
attribute [local go_sem ↓] Go.wp_at_zero Go.wp_at_succ
set_option linter.unusedVariables false in
theorem pdqU_all (g n cap : Nat) (hn : n ≤ 1000000000000) : ∀ (len a b lim : Nat) (d : Array Int) (w0 w : World), b - a = len → RowU w0 w g n cap d → a ≤ b → b ≤ n → lim ≤ 1000000 → Below ltInt a b d →
  Calls Tryz.prog 60 #[.slice (some ⟨g, 0, none⟩) n cap, .int .i64 a, .int .i64 b, .int .i64 lim] w fun e w' => e = .returned (.tuple #[]) ∧ ∃ d', PermIn a b d d' ∧ SortedIn ltInt a b d' ∧ RowU w0 w' g n cap d' := by
 intro len
 induction len using Nat.strongRecOn with
 | _ len IH0 =>
 intro a b lim d w0 w hlen h hab hbn hlim hB
 have IH := Lib.hid IH0
 clear IH0
 have HW0 := Lib.hid h
 have HLEN := Lib.hid hlen
 have HC0 := Lib.hid (show ∀ R, PermIn a b d R → SortedIn ltInt a b R → PermIn a b d R ∧ SortedIn ltInt a b R from fun R h1 h2 => ⟨h1, h2⟩)
 have HB0 := Lib.hid hB
 clear h hlen hB
 go_enter Tryz.func60, Tryz.ntmps60
 go_wp2_with fail
 go_loopw [1, 2, 3, 8, 9] (fun v1 v2 v3 v8 v9 wr => ∃ (x y lm : Nat) (bal part : Bool) (dk : Array Int), v1 = .int .i64 x ∧ v2 = .int .i64 y ∧ v3 = .int .i64 lm ∧ v8 = .bool bal ∧ v9 = .bool part ∧ a ≤ x ∧ x ≤ y ∧ y ≤ b ∧ lm ≤ 1000000 ∧ Hid (Below ltInt x y dk) ∧ Hid (∀ R, PermIn x y dk R → SortedIn ltInt x y R → PermIn a b d R ∧ SortedIn ltInt a b R) ∧ Hid (RowU w0 wr g n cap dk)) (fun v1 v2 _ _ _ _ => (intOf v2 - intOf v1).toNat)
 case atStart => exact ⟨a, b, lim, true, true, d, rfl, rfl, rfl, rfl, rfl, Nat.le_refl _, hab, Nat.le_refl _, hlim, HB0, HC0, HW0⟩
 case round =>
  obtain ⟨x, y, lm, bal, part, dk, rfl, rfl, rfl, rfl, rfl, hax, hxy, hyb, hlmb, HBk, HC, HR⟩ := hrel
  obtain ⟨wO, hwz⟩ : ∃ z, z = wr := ⟨_, rfl⟩
  subst hwz
  obtain ⟨l, hl⟩ : ∃ l, y - x = l := ⟨_, rfl⟩
  have hlw : IntKind.i64.wrap ((y : Int) - x) = (l : Int) := by rw [IntWalk.i64_in _ (by omega)]; omega
  have hxl : x + l = y := by omega
  have hyn : y ≤ n := by omega
  have hln : l ≤ 1000000000000 := by omega
  have hll : l ≤ len := by have := HLEN.out; omega
  clear hl
  by_cases h12 : l ≤ 12
  ·have d12 : decide ((l : Int) ≤ 12) = true := by simp; omega
   have HI := Lib.hid (insertionSort_holds (lt := ltInt) swo_ltInt dk x y hxy (rowU_b HR.out hyn))
   go_wp2_with fail
   go_fit (insU_any g n cap x y dk w0 _ (HR.out.ext (by (repeat' (first | (with_reducible assumption) | (with_reducible exact Wb.Ext.refl _) | (with_reducible refine Wb.Ext.drew ?_) | (with_reducible refine Wb.Ext.drewN ?_ _) | (with_reducible refine Wb.Ext.alloc ?_ _) | (with_reducible refine Wb.Ext.trans ?_ (by assumption)))))) hxy hyn (by omega)); rintro e w1 ⟨rfl, hr1⟩
   have HF := Lib.hid (HC.out _ HI.out.1 HI.out.2)
   have HR1 := Lib.hid hr1
   clear hr1
   go_wp2
   refine bodyPost_ret (v := .tuple #[]) (by simp [results, Tryz.results60, go_sem]) rfl ⟨rfl, _, HF.out.1, HF.out.2, HR1.out⟩
  have d12 : decide ((l : Int) ≤ 12) = false := by simp; omega
  have hl13 : 13 ≤ l := by omega
  have hxylt : x < y := by omega
  by_cases hlm : lm = 0
  ·have d0 : ((lm : Int) == 0) = true := by simp [hlm]
   have HI := Lib.hid (heapSort_holds (lt := ltInt) swo_ltInt dk x y hxy (rowU_b HR.out hyn))
   clear hlm
   go_wp2_with fail
   go_fit (heapU_any g n cap x y l dk w0 _ (HR.out.ext (by (repeat' (first | (with_reducible assumption) | (with_reducible exact Wb.Ext.refl _) | (with_reducible refine Wb.Ext.drew ?_) | (with_reducible refine Wb.Ext.drewN ?_ _) | (with_reducible refine Wb.Ext.alloc ?_ _) | (with_reducible refine Wb.Ext.trans ?_ (by assumption)))))) hxl (by omega) hyn hn); rintro e w1 ⟨rfl, hr1⟩
   have HF := Lib.hid (HC.out _ HI.out.1 HI.out.2)
   have HR1 := Lib.hid hr1
   clear hr1
   go_wp2
   refine bodyPost_ret (v := .tuple #[]) (by simp [results, Tryz.results60, go_sem]) rfl ⟨rfl, _, HF.out.1, HF.out.2, HR1.out⟩
  have d0 : ((lm : Int) == 0) = false := by simp; omega
  obtain ⟨lm1, hlm1⟩ : ∃ lm1, lm - 1 = lm1 := ⟨_, rfl⟩
  have hlmw : IntKind.i64.wrap ((lm : Int) - 1) = (lm1 : Int) := by rw [IntWalk.i64_in _ (by omega)]; omega
  have hlm1b : lm1 ≤ 1000000 := by omega
  clear hlm1
  go_upto_if 35 with (fail)
  go_cut [3] (fun v wx => ∃ (lm2 : Nat) (d1 : Array Int), v = .int .i64 lm2 ∧ lm2 ≤ 1000000 ∧ PermIn x y dk d1 ∧ RowU w0 wx g n cap d1)
  case first =>
   cases bal
   ·go_wp2_with fail
    go_fit (brkU_any g n cap x y l dk w0 _ (HR.out.ext (by (repeat' (first | (with_reducible assumption) | (with_reducible exact Wb.Ext.refl _) | (with_reducible refine Wb.Ext.drew ?_) | (with_reducible refine Wb.Ext.drewN ?_ _) | (with_reducible refine Wb.Ext.alloc ?_ _) | (with_reducible refine Wb.Ext.trans ?_ (by assumption)))))) hxl hl13 hyn hn); rintro e w1 ⟨rfl, d1, hp1, hr1⟩
    have HR1 := Lib.hid hr1
    have HP1 := Lib.hid hp1
    clear hr1 hp1
    go_wp2_with fail
    go_meet
    exact ⟨lm1, d1, rfl, hlm1b, HP1.out, HR1.out⟩
   ·go_wp2_with fail
    go_meet
    exact ⟨lm, dk, rfl, hlmb, permIn_refl dk x y, HR.out⟩
  case rest =>
   obtain ⟨lm2, d1, rfl, hlm2, hp1, hr1⟩ := hcut
   obtain ⟨w1, hwz⟩ : ∃ z, z = wc := ⟨_, rfl⟩
   subst hwz
   have HR1 := Lib.hid hr1
   have HP1 := Lib.hid hp1
   clear hr1 hp1
   go_wp2_with fail
   go_fit (pivU_any g n cap x y l d1 w0 _ (HR1.out.ext (by (repeat' (first | (with_reducible assumption) | (with_reducible exact Wb.Ext.refl _) | (with_reducible refine Wb.Ext.drew ?_) | (with_reducible refine Wb.Ext.drewN ?_ _) | (with_reducible refine Wb.Ext.alloc ?_ _) | (with_reducible refine Wb.Ext.trans ?_ (by assumption)))))) hxl hl13 hyn hn); rintro e w2 ⟨p0, hint, rfl, hp0, hr2⟩
   have HR2 := Lib.hid hr2
   clear hr2
   obtain ⟨y1, hy1⟩ : ∃ y1, y - 1 = y1 := ⟨_, rfl⟩
   have hy1w : IntKind.i64.wrap ((y : Int) - 1) = (y1 : Int) := by rw [IntWalk.i64_in _ (by omega)]; omega
   obtain ⟨px, hpx⟩ : ∃ px, p0 - x = px := ⟨_, rfl⟩
   have hpxw : IntKind.i64.wrap ((p0 : Int) - x) = (px : Int) := by rw [IntWalk.i64_in _ (by omega)]; omega
   obtain ⟨p1, hp1⟩ : ∃ p1, y1 - px = p1 := ⟨_, rfl⟩
   have hp1w : IntKind.i64.wrap ((y1 : Int) - px) = (p1 : Int) := by rw [IntWalk.i64_in _ (by omega)]; omega
   have hp1b : x ≤ p1 ∧ p1 < y := by omega
   clear hy1 hpx hp1
   go_upto_if 50 with (fail)
   go_cut [11, 12] (fun v11 v12 wx => ∃ (p hi : Nat) (d2 : Array Int), v11 = .int .i64 p ∧ v12 = .int .i64 hi ∧ (x ≤ p ∧ p < y) ∧ PermIn x y dk d2 ∧ RowU w0 wx g n cap d2)
   case first =>
    by_cases h2 : hint = 2
    ·have e2 : ((hint : Int) == 2) = true := by simp [h2]
     clear h2
     rw [e2]
     go_wp2_with fail
     go_fit (revU_any g n cap x y d1 w0 _ (HR2.out.ext (by (repeat' (first | (with_reducible assumption) | (with_reducible exact Wb.Ext.refl _) | (with_reducible refine Wb.Ext.drew ?_) | (with_reducible refine Wb.Ext.drewN ?_ _) | (with_reducible refine Wb.Ext.alloc ?_ _) | (with_reducible refine Wb.Ext.trans ?_ (by assumption)))))) hxy hyn (by omega)); rintro e w3 ⟨rfl, d2, hp2, hr3⟩
     have HR3 := Lib.hid hr3
     have HP2 := Lib.hid (permIn_trans _ _ _ x y HP1.out hp2)
     clear hr3 hp2
     go_wp2_with fail
     go_meet
     exact ⟨p1, 1, d2, rfl, rfl, hp1b, HP2.out, HR3.out⟩
    ·have e2 : ((hint : Int) == 2) = false := by simp; omega
     rw [e2]
     go_wp2_with fail
     go_meet
     exact ⟨p0, hint, d1, rfl, rfl, hp0, HP1.out, HR2.out⟩
   case rest =>
    obtain ⟨p, hi, d2, rfl, rfl, ⟨hxp, hpy⟩, hp2, hr2⟩ := hcut
    obtain ⟨wP, hwz⟩ : ∃ z, z = wc := ⟨_, rfl⟩
    subst hwz
    have HRP := Lib.hid hr2
    have HP2 := Lib.hid hp2
    have HBP := Lib.hid (Below.perm HBk.out (rowU_b HR.out hyn) hp2)
    clear hr2 hp2 HR1 HR2 HP1
    go_upto_region 15 with (fail)
    go_cut [68] (fun v wx => ∃ T : Bool, v = .bool T ∧ wP = wx)
    case first =>
     cases bal
     ·go_wp2_with fail
      go_meet
      exact ⟨false, rfl, rfl⟩
     ·cases part
      ·go_wp2_with fail
       go_meet
       exact ⟨false, rfl, rfl⟩
      ·go_wp2_with fail
       all_goals go_meet
       all_goals exact ⟨_, rfl, rfl⟩
    case rest =>
     obtain ⟨T, rfl, rfl⟩ := hcut
     go_upto_if 68 with (fail)
     go_cut [0] (fun v wx => v = (.slice (some ⟨g, 0, none⟩) n cap) ∧ ∃ d3, PermIn x y dk d3 ∧ RowU w0 wx g n cap d3)
     case first =>
      cases T
      ·go_wp2_with fail
       go_meet
       exact ⟨rfl, d2, HP2.out, HRP.out⟩
      ·have HI := Lib.hid (partialInsertionSort_holds (lt := ltInt) swo_ltInt d2 x y hxylt (rowU_b HRP.out hyn) HBP.out)
       obtain ⟨D, fin, hD⟩ : ∃ D fin, partialInsertionSort ltInt d2 x y = (D, fin) := ⟨_, _, rfl⟩
       have HD := Lib.hid hD
       clear hD
       go_wp2_with fail
       go_fit (pinU_any g n cap x y d2 w0 _ (HRP.out.ext (by (repeat' (first | (with_reducible assumption) | (with_reducible exact Wb.Ext.refl _) | (with_reducible refine Wb.Ext.drew ?_) | (with_reducible refine Wb.Ext.drewN ?_ _) | (with_reducible refine Wb.Ext.alloc ?_ _) | (with_reducible refine Wb.Ext.trans ?_ (by assumption)))))) hxylt hyn hn); rintro e w3 ⟨rfl, hr3⟩
       rw [HD.out] at hr3 ⊢
       have HR3 := Lib.hid hr3
       clear hr3
       have HI2 := Lib.hid (show PermIn x y dk D ∧ (fin = true → SortedIn ltInt x y D) by
        have := HI.out; rw [HD.out] at this; exact ⟨permIn_trans _ _ _ x y HP2.out this.1, this.2⟩)
       cases fin
       ·go_wp2_with fail
        go_meet
        exact ⟨rfl, D, HI2.out.1, HR3.out⟩
       ·have HF := Lib.hid (HC.out _ HI2.out.1 (HI2.out.2 rfl))
        go_wp2
        refine bodyPost_ret (v := .tuple #[]) (by simp [results, Tryz.results60, go_sem]) rfl ⟨rfl, _, HF.out.1, HF.out.2, HR3.out⟩
     case rest =>
      obtain ⟨rfl, d3, hp3, hr3⟩ := hcut
      obtain ⟨w3, hwz⟩ : ∃ z, z = wc := ⟨_, rfl⟩
      subst hwz
      have HB3 := Lib.hid (Below.perm HBk.out (rowU_b HR.out hyn) hp3)
      have HC3 := Lib.hid (show ∀ R, PermIn x y d3 R → SortedIn ltInt x y R → PermIn a b d R ∧ SortedIn ltInt a b R from fun R h1 h2 => HC.out R (permIn_trans _ _ _ x y hp3 h1) h2)
      have HR3 := Lib.hid hr3
      clear hp3 hr3 HRP HP2 HBP
      obtain ⟨G, hG⟩ : ∃ G : Nat → Int, ∀ t, G t = d3[t]! := ⟨fun t => d3[t]!, fun _ => rfl⟩
      have hcw : ∀ t, t < n → w3.cell? ⟨g, t, none⟩ = some (.int .u32 (G t)) := fun t ht => by rw [hG]; exact HR3.out.cell ht
      have HG : Hid (∀ t, G t = d3[t]!) := hG
      clear hG
      have hpn : p < n := by omega
      have hpI : (p : Int) < n := by omega
      by_cases hx0 : 0 < x
      case neg =>
       have dx : decide ((0 : Int) < (x : Int)) = false := by simp; omega
       go_wp2_with fail
       go_quiet (first | (go_at_call 90; refine Calls.quiet_of_same (lessU_any _ _ _)))
       clear hcw
       obtain ⟨w5, hw5⟩ : ∃ z, z = w3.drewN nq := ⟨_, rfl⟩
       rw [← hw5]
       have HR5 := Lib.hid (show RowU w0 w5 g n cap d3 by rw [hw5]; exact HR3.out.ext (by (repeat' (first | (with_reducible assumption) | (with_reducible exact Wb.Ext.refl _) | (with_reducible refine Wb.Ext.drew ?_) | (with_reducible refine Wb.Ext.drewN ?_ _) | (with_reducible refine Wb.Ext.alloc ?_ _) | (with_reducible refine Wb.Ext.trans ?_ (by assumption))))))
       clear hw5
       obtain ⟨mid, ap, d4, hx⟩ : ∃ mid ap d4, partition ltInt d3 x y p = (mid, ap, d4) := ⟨_, _, _, rfl⟩
       obtain ⟨r1, r2, r3, r4, r5, r6, r7⟩ := round_part swo_ltInt (partition_holds ltInt) hxp hpy (rowU_b HR3.out hyn) HB3.out hx
       have HX := Lib.hid hx
       have HB4L := Lib.hid r4
       have HB4R := Lib.hid r5
       have H6 := Lib.hid r6
       have H7 := Lib.hid r7
       clear hx r3 r4 r5 r6 r7
       go_wp2_with fail
       go_fit (partU_any g n cap x y p d3 w0 _ (HR5.out.ext (by (repeat' (first | (with_reducible assumption) | (with_reducible exact Wb.Ext.refl _) | (with_reducible refine Wb.Ext.drew ?_) | (with_reducible refine Wb.Ext.drewN ?_ _) | (with_reducible refine Wb.Ext.alloc ?_ _) | (with_reducible refine Wb.Ext.trans ?_ (by assumption)))))) hxp hpy hyn hn); rintro e w6 ⟨rfl, hr6⟩
       rw [HX.out] at hr6 ⊢
       have HR6 := Lib.hid hr6
       clear hr6
       obtain ⟨ll, hll1⟩ : ∃ ll, mid - x = ll := ⟨_, rfl⟩
       have hllw : IntKind.i64.wrap ((mid : Int) - x) = (ll : Int) := by rw [IntWalk.i64_in _ (by omega)]; omega
       obtain ⟨rl, hrl1⟩ : ∃ rl, y - mid = rl := ⟨_, rfl⟩
       have hrlw : IntKind.i64.wrap ((y : Int) - mid) = (rl : Int) := by rw [IntWalk.i64_in _ (by omega)]; omega
       obtain ⟨m1, hm1⟩ : ∃ m1, mid + 1 = m1 := ⟨_, rfl⟩
       have hm1w : IntKind.i64.wrap ((mid : Int) + 1) = (m1 : Int) := by rw [IntWalk.i64_in _ (by omega)]; omega
       have hl1b : mid - x < len := by omega
       have hl2b : y - m1 < len := by omega
       have hm1y : m1 ≤ y := by omega
       have hmid : mid ≤ n := by omega
       have hM1 := Lib.hid hm1
       have hmx : x < m1 := by omega
       by_cases hlr : ll < rl
       ·have dlr : decide ((ll : Int) < (rl : Int)) = true := by simp; omega
        have HM := Lib.hid (show x ≤ mid ∧ mid < y by omega)
        clear hll1 hrl1 hm1
        go_wp2_with fail
        go_fit (IH.out (mid - x) hl1b x mid lm2 d4 w0 _ rfl (HR6.out.ext (by (repeat' (first | (with_reducible assumption) | (with_reducible exact Wb.Ext.refl _) | (with_reducible refine Wb.Ext.drew ?_) | (with_reducible refine Wb.Ext.drewN ?_ _) | (with_reducible refine Wb.Ext.alloc ?_ _) | (with_reducible refine Wb.Ext.trans ?_ (by assumption)))))) r1 hmid hlm2 HB4L.out); rintro e w7 ⟨rfl, L, hL1, hL2, hr7⟩
        have HN := Lib.hid (H6.out L hL1 hL2)
        have HR7 := Lib.hid hr7
        clear hr7 hL1 hL2
        have HBN := Lib.hid (show Below ltInt m1 y L by rw [← hM1.out]; exact HN.out.1)
        have HCN := Lib.hid (show ∀ R, PermIn m1 y L R → SortedIn ltInt m1 y R → PermIn a b d R ∧ SortedIn ltInt a b R by
         intro R h1 h2
         rw [← hM1.out] at h1 h2
         obtain ⟨k1, k2⟩ := HN.out.2 R h1 h2
         exact HC3.out R k1 k2)
        go_wp2
        go_roundw
        case rel => exact ⟨m1, y, lm2, _, ap, L, by first | rfl | go_num, by first | rfl | go_num, rfl, rfl, rfl, by omega, hm1y, hyb, hlm2, HBN, HCN, HR7⟩
        case measure => first | (simp [intOf]; done) | (simp [intOf]; omega)
       ·have dlr : decide ((ll : Int) < (rl : Int)) = false := by simp; omega
        have HM := Lib.hid (show x ≤ mid ∧ mid < y by omega)
        clear hll1 hrl1 hm1
        go_wp2_with fail
        go_fit (IH.out (y - m1) hl2b m1 y lm2 d4 w0 _ rfl (HR6.out.ext (by (repeat' (first | (with_reducible assumption) | (with_reducible exact Wb.Ext.refl _) | (with_reducible refine Wb.Ext.drew ?_) | (with_reducible refine Wb.Ext.drewN ?_ _) | (with_reducible refine Wb.Ext.alloc ?_ _) | (with_reducible refine Wb.Ext.trans ?_ (by assumption)))))) hm1y hyn hlm2 (by rw [← hM1.out]; exact HB4R.out)); rintro e w7 ⟨rfl, L, hL1, hL2, hr7⟩
        have HN := Lib.hid (H7.out L (by rw [hM1.out]; exact hL1) (by rw [hM1.out]; exact hL2))
        have HR7 := Lib.hid hr7
        clear hr7 hL1 hL2
        have HBN := Lib.hid HN.out.1
        have HCN := Lib.hid (show ∀ R, PermIn x mid L R → SortedIn ltInt x mid R → PermIn a b d R ∧ SortedIn ltInt a b R by
         intro R h1 h2
         obtain ⟨k1, k2⟩ := HN.out.2 R h1 h2
         exact HC3.out R k1 k2)
        go_wp2
        go_roundw
        case rel => exact ⟨x, mid, lm2, _, ap, L, by first | rfl | go_num, by first | rfl | go_num, rfl, rfl, rfl, hax, r1, by omega, hlm2, HBN, HCN, HR7⟩
        case measure => first | (simp [intOf]; done) | (simp [intOf]; omega)
      have dx : decide ((0 : Int) < (x : Int)) = true := by simp; omega
      obtain ⟨z, hz⟩ : ∃ z, x - 1 = z := ⟨_, rfl⟩
      have hzw : IntKind.i64.wrap ((x : Int) - 1) = (z : Int) := by rw [IntWalk.i64_in _ (by omega)]; omega
      have hzn : z < n := by omega
      have hzI : (z : Int) < n := by omega
      have HZ := Lib.hid hz
      clear hz
      cases hls : ltInt (G z) (G p)
      ·have HNL := Lib.hid (show ltInt d3[x - 1]! d3[p]! = false by rw [HZ.out, ← HG.out, ← HG.out]; exact hls)
       go_wp2_with fail
       go_quiet (first | (go_at_call 90; refine Calls.quiet_of_same (lessU_any _ _ _)))
       clear hcw
       obtain ⟨w5, hw5⟩ : ∃ z, z = w3.drewN nq := ⟨_, rfl⟩
       rw [← hw5]
       have HR5 := Lib.hid (show RowU w0 w5 g n cap d3 by rw [hw5]; exact HR3.out.ext (by (repeat' (first | (with_reducible assumption) | (with_reducible exact Wb.Ext.refl _) | (with_reducible refine Wb.Ext.drew ?_) | (with_reducible refine Wb.Ext.drewN ?_ _) | (with_reducible refine Wb.Ext.alloc ?_ _) | (with_reducible refine Wb.Ext.trans ?_ (by assumption))))))
       clear hw5
       obtain ⟨mid, d4, hx⟩ : ∃ mid d4, partitionEqual ltInt d3 x y p = (mid, d4) := ⟨_, _, rfl⟩
       obtain ⟨r1, r2, r3, r4, r5⟩ := round_eq swo_ltInt (partitionEqual_holds ltInt) hx0 hxp hpy (rowU_b HR3.out hyn) HB3.out HNL.out hx
       have HX := Lib.hid hx
       have HBN := Lib.hid r4
       have HN := Lib.hid r5
       clear hx r3 r4 r5
       go_wp2_with fail
       go_fit (peqU_any g n cap x y p d3 w0 _ (HR5.out.ext (by (repeat' (first | (with_reducible assumption) | (with_reducible exact Wb.Ext.refl _) | (with_reducible refine Wb.Ext.drew ?_) | (with_reducible refine Wb.Ext.drewN ?_ _) | (with_reducible refine Wb.Ext.alloc ?_ _) | (with_reducible refine Wb.Ext.trans ?_ (by assumption)))))) hxp hpy hyn hn); rintro e w6 ⟨rfl, hr6⟩
       rw [HX.out] at hr6 ⊢
       have HR6 := Lib.hid hr6
       clear hr6
       have HCN := Lib.hid (show ∀ R, PermIn mid y d4 R → SortedIn ltInt mid y R → PermIn a b d R ∧ SortedIn ltInt a b R by
        intro R h1 h2
        obtain ⟨k1, k2⟩ := HN.out R h1 h2
        exact HC3.out R k1 k2)
       go_wp2
       go_roundw
       case rel => exact ⟨mid, y, lm2, bal, part, d4, by first | rfl | go_num, by first | rfl | go_num, rfl, rfl, rfl, by omega, r2, hyb, hlm2, HBN, HCN, HR6⟩
       case measure => first | (simp [intOf]; done) | (simp [intOf]; omega)
      ·go_wp2_with fail
       go_quiet (first | (go_at_call 90; refine Calls.quiet_of_same (lessU_any _ _ _)))
       clear hcw
       obtain ⟨w5, hw5⟩ : ∃ z, z = w3.drewN nq := ⟨_, rfl⟩
       rw [← hw5]
       have HR5 := Lib.hid (show RowU w0 w5 g n cap d3 by rw [hw5]; exact HR3.out.ext (by (repeat' (first | (with_reducible assumption) | (with_reducible exact Wb.Ext.refl _) | (with_reducible refine Wb.Ext.drew ?_) | (with_reducible refine Wb.Ext.drewN ?_ _) | (with_reducible refine Wb.Ext.alloc ?_ _) | (with_reducible refine Wb.Ext.trans ?_ (by assumption))))))
       clear hw5
       obtain ⟨mid, ap, d4, hx⟩ : ∃ mid ap d4, partition ltInt d3 x y p = (mid, ap, d4) := ⟨_, _, _, rfl⟩
       obtain ⟨r1, r2, r3, r4, r5, r6, r7⟩ := round_part swo_ltInt (partition_holds ltInt) hxp hpy (rowU_b HR3.out hyn) HB3.out hx
       have HX := Lib.hid hx
       have HB4L := Lib.hid r4
       have HB4R := Lib.hid r5
       have H6 := Lib.hid r6
       have H7 := Lib.hid r7
       clear hx r3 r4 r5 r6 r7
       go_wp2_with fail
       go_fit (partU_any g n cap x y p d3 w0 _ (HR5.out.ext (by (repeat' (first | (with_reducible assumption) | (with_reducible exact Wb.Ext.refl _) | (with_reducible refine Wb.Ext.drew ?_) | (with_reducible refine Wb.Ext.drewN ?_ _) | (with_reducible refine Wb.Ext.alloc ?_ _) | (with_reducible refine Wb.Ext.trans ?_ (by assumption)))))) hxp hpy hyn hn); rintro e w6 ⟨rfl, hr6⟩
       rw [HX.out] at hr6 ⊢
       have HR6 := Lib.hid hr6
       clear hr6
       obtain ⟨ll, hll1⟩ : ∃ ll, mid - x = ll := ⟨_, rfl⟩
       have hllw : IntKind.i64.wrap ((mid : Int) - x) = (ll : Int) := by rw [IntWalk.i64_in _ (by omega)]; omega
       obtain ⟨rl, hrl1⟩ : ∃ rl, y - mid = rl := ⟨_, rfl⟩
       have hrlw : IntKind.i64.wrap ((y : Int) - mid) = (rl : Int) := by rw [IntWalk.i64_in _ (by omega)]; omega
       obtain ⟨m1, hm1⟩ : ∃ m1, mid + 1 = m1 := ⟨_, rfl⟩
       have hm1w : IntKind.i64.wrap ((mid : Int) + 1) = (m1 : Int) := by rw [IntWalk.i64_in _ (by omega)]; omega
       have hl1b : mid - x < len := by omega
       have hl2b : y - m1 < len := by omega
       have hm1y : m1 ≤ y := by omega
       have hmid : mid ≤ n := by omega
       have hM1 := Lib.hid hm1
       have hmx : x < m1 := by omega
       by_cases hlr : ll < rl
       ·have dlr : decide ((ll : Int) < (rl : Int)) = true := by simp; omega
        have HM := Lib.hid (show x ≤ mid ∧ mid < y by omega)
        clear hll1 hrl1 hm1
        go_wp2_with fail
        go_fit (IH.out (mid - x) hl1b x mid lm2 d4 w0 _ rfl (HR6.out.ext (by (repeat' (first | (with_reducible assumption) | (with_reducible exact Wb.Ext.refl _) | (with_reducible refine Wb.Ext.drew ?_) | (with_reducible refine Wb.Ext.drewN ?_ _) | (with_reducible refine Wb.Ext.alloc ?_ _) | (with_reducible refine Wb.Ext.trans ?_ (by assumption)))))) r1 hmid hlm2 HB4L.out); rintro e w7 ⟨rfl, L, hL1, hL2, hr7⟩
        have HN := Lib.hid (H6.out L hL1 hL2)
        have HR7 := Lib.hid hr7
        clear hr7 hL1 hL2
        have HBN := Lib.hid (show Below ltInt m1 y L by rw [← hM1.out]; exact HN.out.1)
        have HCN := Lib.hid (show ∀ R, PermIn m1 y L R → SortedIn ltInt m1 y R → PermIn a b d R ∧ SortedIn ltInt a b R by
         intro R h1 h2
         rw [← hM1.out] at h1 h2
         obtain ⟨k1, k2⟩ := HN.out.2 R h1 h2
         exact HC3.out R k1 k2)
        go_wp2
        go_roundw
        case rel => exact ⟨m1, y, lm2, _, ap, L, by first | rfl | go_num, by first | rfl | go_num, rfl, rfl, rfl, by omega, hm1y, hyb, hlm2, HBN, HCN, HR7⟩
        case measure => first | (simp [intOf]; done) | (simp [intOf]; omega)
       ·have dlr : decide ((ll : Int) < (rl : Int)) = false := by simp; omega
        have HM := Lib.hid (show x ≤ mid ∧ mid < y by omega)
        clear hll1 hrl1 hm1
        go_wp2_with fail
        go_fit (IH.out (y - m1) hl2b m1 y lm2 d4 w0 _ rfl (HR6.out.ext (by (repeat' (first | (with_reducible assumption) | (with_reducible exact Wb.Ext.refl _) | (with_reducible refine Wb.Ext.drew ?_) | (with_reducible refine Wb.Ext.drewN ?_ _) | (with_reducible refine Wb.Ext.alloc ?_ _) | (with_reducible refine Wb.Ext.trans ?_ (by assumption)))))) hm1y hyn hlm2 (by rw [← hM1.out]; exact HB4R.out)); rintro e w7 ⟨rfl, L, hL1, hL2, hr7⟩
        have HN := Lib.hid (H7.out L (by rw [hM1.out]; exact hL1) (by rw [hM1.out]; exact hL2))
        have HR7 := Lib.hid hr7
        clear hr7 hL1 hL2
        have HBN := Lib.hid HN.out.1
        have HCN := Lib.hid (show ∀ R, PermIn x mid L R → SortedIn ltInt x mid R → PermIn a b d R ∧ SortedIn ltInt a b R by
         intro R h1 h2
         obtain ⟨k1, k2⟩ := HN.out.2 R h1 h2
         exact HC3.out R k1 k2)
        go_wp2
        go_roundw
        case rel => exact ⟨x, mid, lm2, _, ap, L, by first | rfl | go_num, by first | rfl | go_num, rfl, rfl, rfl, hax, r1, by omega, hlm2, HBN, HCN, HR7⟩
        case measure => first | (simp [intOf]; done) | (simp [intOf]; omega)
theorem bitsLenU_any (x : Nat) (hx : x ≤ 1000000000000) (w : World) : Calls Tryz.prog 61 #[.int .u64 x] w fun e w' => ∃ L : Nat, L ≤ 64 ∧ e = .returned (.int .i64 L) ∧ w' = w := by
 have h := Any.bits_Len Tryz.bitsLen (x : Int) w (by omega) (by omega)
 change Calls Tryz.prog 61 _ _ _ at h
 rw [Int.toNat_natCast, bitLen_eq _ (by omega)] at h
 exact h.mono fun e w' ⟨h1, h2⟩ => ⟨_, Nat.le_trans ((bitsLen_le_iff x 62).2 (by omega)) (by decide), h1, h2⟩
end Go.Proofs.YtnefdpnolojojaaGreatDoor
