/- The reference of chapter 6: leap, begin, Check. -/
import Derived.Test.YtalpdodajcdibaaDoorPer7
namespace Go.Proofs.YtalpdodajcdibaaDoor
open Go.RowKit
set_option maxRecDepth 4000

theorem rleap_any (y : Int) (h : 0 ≤ y) (w : World) :
    Calls Tryd.prog 41 #[.int .i64 y] w fun e w' => e = .returned (.bool (Wb.lpB y)) ∧ w = w' := by
  have H := Lib.hid (Wb.lpB_iff y)
  by_cases h4 : y % 4 = 0
  · have d4 : (y % 4 == 0) = true := by simp [h4]
    by_cases h1 : y % 100 = 0
    · have d1 : (y % 100 != 0) = false := by simp [h1]
      have HB := Lib.hid (show Wb.lpB y = (y % 400 == 0) by
        rw [Bool.eq_iff_iff, H.out]; simp [h4, h1])
      clear h4 h1
      go_enter Tryd.func41, Tryd.ntmps41
      go_wp2
      go_ret
      exact ⟨by rw [HB.out]; rfl, rfl⟩
    · have d1 : (y % 100 != 0) = true := by simp [h1]
      have HB := Lib.hid (show Wb.lpB y = true from H.out.2 ⟨h4, .inl h1⟩)
      clear h4 h1
      go_enter Tryd.func41, Tryd.ntmps41
      go_wp2
      go_ret
      exact ⟨by rw [HB.out]; rfl, rfl⟩
  · have d4 : (y % 4 == 0) = false := by simpa using h4
    have d400 : (y % 400 == 0) = false := by simp; omega
    have HB := Lib.hid (show Wb.lpB y = false by rw [Bool.eq_false_iff]; exact fun e => h4 (H.out.1 e).1)
    clear h4
    go_enter Tryd.func41, Tryd.ntmps41
    go_wp2
    go_ret
    exact ⟨by rw [HB.out]; rfl, rfl⟩

theorem rcheck_any (c : Wb.Cal) (w : World) :
    Calls Tryd.prog 16 #[CalV c] w fun e w' => e = .returned (.int .i64 (Wb.calErr c)) ∧ Wb.Ext w w' := by
  obtain ⟨kd, fd, lg⟩ := c
  by_cases k0 : kd < 0
  · have H := Lib.hid (show Wb.calErr ⟨kd, fd, lg⟩ = 11 by simp only [Wb.calErr]; rw [if_pos (by omega)])
    go_enter Tryd.func16, Tryd.ntmps16
    go_wp2
    go_ret
    exact ⟨by rw [H.out]; rfl, by (repeat' (first | (with_reducible assumption) | (with_reducible exact Wb.Ext.refl _) | (with_reducible refine Wb.Ext.drew ?_) | (with_reducible refine Wb.Ext.drewN ?_ _) | (with_reducible refine Wb.Ext.alloc ?_ _) | (with_reducible refine Wb.Ext.trans ?_ (by assumption))))⟩
  have dk0 : decide (kd < 0) = false := by simpa using k0
  by_cases k1 : 2 < kd
  · have H := Lib.hid (show Wb.calErr ⟨kd, fd, lg⟩ = 11 by simp only [Wb.calErr]; rw [if_pos (by omega)])
    go_enter Tryd.func16, Tryd.ntmps16
    go_wp2
    go_ret
    exact ⟨by rw [H.out]; rfl, by (repeat' (first | (with_reducible assumption) | (with_reducible exact Wb.Ext.refl _) | (with_reducible refine Wb.Ext.drew ?_) | (with_reducible refine Wb.Ext.drewN ?_ _) | (with_reducible refine Wb.Ext.alloc ?_ _) | (with_reducible refine Wb.Ext.trans ?_ (by assumption))))⟩
  have dk1 : decide (2 < kd) = false := by simpa using k1
  have hk := Lib.hid (show ¬ (kd < 0 ∨ 2 < kd) by omega)
  clear k0 k1
  by_cases f0 : fd < -25567
  · have H := Lib.hid (show Wb.calErr ⟨kd, fd, lg⟩ = 15 by simp only [Wb.calErr]; rw [if_neg hk.out, if_pos (by omega)])
    go_enter Tryd.func16, Tryd.ntmps16
    go_wp2
    go_ret
    exact ⟨by rw [H.out]; rfl, by (repeat' (first | (with_reducible assumption) | (with_reducible exact Wb.Ext.refl _) | (with_reducible refine Wb.Ext.drew ?_) | (with_reducible refine Wb.Ext.drewN ?_ _) | (with_reducible refine Wb.Ext.alloc ?_ _) | (with_reducible refine Wb.Ext.trans ?_ (by assumption))))⟩
  have df0 : decide (fd < -25567) = false := by simpa using f0
  by_cases f1 : 84006 ≤ fd
  · have H := Lib.hid (show Wb.calErr ⟨kd, fd, lg⟩ = 15 by simp only [Wb.calErr]; rw [if_neg hk.out, if_pos (by omega)])
    go_enter Tryd.func16, Tryd.ntmps16
    go_wp2
    go_ret
    exact ⟨by rw [H.out]; rfl, by (repeat' (first | (with_reducible assumption) | (with_reducible exact Wb.Ext.refl _) | (with_reducible refine Wb.Ext.drew ?_) | (with_reducible refine Wb.Ext.drewN ?_ _) | (with_reducible refine Wb.Ext.alloc ?_ _) | (with_reducible refine Wb.Ext.trans ?_ (by assumption))))⟩
  have df1 : decide (84006 ≤ fd) = false := by simpa using f1
  have hf := Lib.hid (show ¬ (fd < -25567 ∨ 84006 ≤ fd) by omega)
  clear f0 f1
  by_cases l0 : lg < 0
  · have H := Lib.hid (show Wb.calErr ⟨kd, fd, lg⟩ = 2 by simp only [Wb.calErr]; rw [if_neg hk.out, if_neg hf.out, if_pos (by omega)])
    go_enter Tryd.func16, Tryd.ntmps16
    go_wp2
    go_ret
    exact ⟨by rw [H.out]; rfl, by (repeat' (first | (with_reducible assumption) | (with_reducible exact Wb.Ext.refl _) | (with_reducible refine Wb.Ext.drew ?_) | (with_reducible refine Wb.Ext.drewN ?_ _) | (with_reducible refine Wb.Ext.alloc ?_ _) | (with_reducible refine Wb.Ext.trans ?_ (by assumption))))⟩
  have dl0 : decide (lg < 0) = false := by simpa using l0
  by_cases l1 : 60 < lg
  · have H := Lib.hid (show Wb.calErr ⟨kd, fd, lg⟩ = 2 by simp only [Wb.calErr]; rw [if_neg hk.out, if_neg hf.out, if_pos (by omega)])
    go_enter Tryd.func16, Tryd.ntmps16
    go_wp2
    go_ret
    exact ⟨by rw [H.out]; rfl, by (repeat' (first | (with_reducible assumption) | (with_reducible exact Wb.Ext.refl _) | (with_reducible refine Wb.Ext.drew ?_) | (with_reducible refine Wb.Ext.drewN ?_ _) | (with_reducible refine Wb.Ext.alloc ?_ _) | (with_reducible refine Wb.Ext.trans ?_ (by assumption))))⟩
  have dl1 : decide (60 < lg) = false := by simpa using l1
  have H := Lib.hid (show Wb.calErr ⟨kd, fd, lg⟩ = 0 by simp only [Wb.calErr]; rw [if_neg hk.out, if_neg hf.out, if_neg (by omega)])
  clear l0 l1
  go_enter Tryd.func16, Tryd.ntmps16
  go_wp2
  go_ret
  exact ⟨by rw [H.out]; rfl, by (repeat' (first | (with_reducible assumption) | (with_reducible exact Wb.Ext.refl _) | (with_reducible refine Wb.Ext.drew ?_) | (with_reducible refine Wb.Ext.drewN ?_ _) | (with_reducible refine Wb.Ext.alloc ?_ _) | (with_reducible refine Wb.Ext.trans ?_ (by assumption))))⟩

def md0 (k : Nat) : Int := if k = 1 then 28 else if k = 3 ∨ k = 5 ∨ k = 8 ∨ k = 10 then 30 else 31
theorem md_md0 (y : Int) (k : Nat) : Wb.md y (k + 1) = md0 k + if k = 1 then Wb.lp y else 0 := by
  unfold Wb.md md0
  by_cases h : k = 1
  · subst h; simp
  · rw [if_neg h, if_neg h, if_neg (by omega)]
    by_cases h2 : k = 3 ∨ k = 5 ∨ k = 8 ∨ k = 10
    · rw [if_pos h2, if_pos (by omega)]; omega
    · rw [if_neg h2, if_neg (by omega)]; omega
theorem md0_low (k : Nat) : 28 ≤ md0 k ∧ md0 k ≤ 31 := by unfold md0; split <;> (try split) <;> omega

set_option maxHeartbeats 1000000 in
theorem rbegin_any (y m : Int) (h1 : 1900 ≤ y) (h2 : y ≤ 2200) (h3 : 1 ≤ m) (h4 : m ≤ 13) (w : World) :
    Calls Tryd.prog 31 #[.int .i64 y, .int .i64 m] w fun e w' => e = .returned (.int .i64 (Wb.beg y m)) ∧ Wb.Ext w w' := by
  go_enter Tryd.func31, Tryd.ntmps31
  go_wp2_with fail
  go_loop [5, 6] (fun dv yv => ∃ z : Int, 1900 ≤ z ∧ z ≤ y ∧ yv = .int .i64 z ∧ dv = .int .i64 (-25567 + Wb.yb z)) (fun _ yv => (2300 - intOf yv).toNat)
  case atStart => exact ⟨1900, by omega, by omega, rfl, rfl⟩
  case round =>
    obtain ⟨z, hz1, hz2, rfl, rfl⟩ := hrel
    have hb0 := Wb.yb_mono hz1
    have hb1 := Wb.yb_mono (show z ≤ 2200 by omega)
    rw [Wb.yb_1900] at hb0
    rw [Wb.yb_2200] at hb1
    by_cases hlt : z < y
    · have HS := Lib.hid (Wb.yb_succ z)
      cases hl : Wb.lpB z
      · have HL := Lib.hid (show Wb.lp z = 0 by simp [Wb.lp, hl])
        have HB := Lib.hid hl
        clear hl
        go_wp2_with (go_at_call 41; refine (rleap_any z (by omega) _).mono ?_; rintro e w' ⟨rfl, rfl⟩; rw [HB.out])
        go_round
        case rel => exact ⟨z + 1, by omega, by omega, rfl, congrArg (Value.int .i64) (by have := HS.out; have := HL.out; omega)⟩
        case measure => simp [intOf]; omega
      · have HL := Lib.hid (show Wb.lp z = 1 by simp [Wb.lp, hl])
        have HB := Lib.hid hl
        clear hl
        go_wp2_with (go_at_call 41; refine (rleap_any z (by omega) _).mono ?_; rintro e w' ⟨rfl, rfl⟩; rw [HB.out])
        go_round
        case rel => exact ⟨z + 1, by omega, by omega, rfl, congrArg (Value.int .i64) (by have := HS.out; have := HL.out; omega)⟩
        case measure => simp [intOf]; omega
    · obtain rfl : z = y := by omega
      have HB1 := Lib.hid (show Wb.beg z 1 = -25567 + Wb.yb z by unfold Wb.beg; rw [Wb.cum_one]; omega)
      clear hlt
      go_wp2_with fail
      go_loop [5, 8] (fun dv mv => ∃ k : Nat, (k : Int) + 1 ≤ m ∧ mv = .int .i64 ((k : Int) + 1) ∧ dv = .int .i64 (Wb.beg z ((k : Int) + 1))) (fun _ mv => (20 - intOf mv).toNat)
      case atStart => exact ⟨0, by omega, rfl, congrArg (Value.int .i64) (by have := HB1.out; simpa using this.symm)⟩
      case round =>
        obtain ⟨k, hk, rfl, rfl⟩ := hrel
        have hc1 := Wb.cum_low z (m := (k : Int) + 1) (by omega) (by omega)
        have hbb : Wb.beg z ((k : Int) + 1) = -25567 + Wb.yb z + Wb.cum z ((k : Int) + 1) := rfl
        have hbl : -25567 ≤ Wb.beg z ((k : Int) + 1) := by omega
        have hbh : Wb.beg z ((k : Int) + 1) ≤ 90000 := by omega
        clear hbb
        have hm := md0_low k
        by_cases hlt : (k : Int) + 1 < m
        · have hcell : (w.alloc (.cells #[.int .i64 31, .int .i64 28, .int .i64 31, .int .i64 30, .int .i64 31, .int .i64 30, .int .i64 31, .int .i64 31, .int .i64 30, .int .i64 31, .int .i64 30, .int .i64 31] 3)).cell? ⟨w.heap.size, k, none⟩ = some (.int .i64 (md0 k)) := by
            have hk12 : k = 0 ∨ k = 1 ∨ k = 2 ∨ k = 3 ∨ k = 4 ∨ k = 5 ∨ k = 6 ∨ k = 7 ∨ k = 8 ∨ k = 9 ∨ k = 10 ∨ k = 11 := by omega
            rcases hk12 with rfl | rfl | rfl | rfl | rfl | rfl | rfl | rfl | rfl | rfl | rfl | rfl <;> simp [go_sem, md0]
          have HS := Lib.hid (Wb.beg_succ z (m := (k : Int) + 1) (by omega) (by omega))
          have HM := Lib.hid (md_md0 z k)
          have hkm : (k : Int) < 12 := by omega
          by_cases hk2 : k = 1
          · subst hk2
            have hq1 : -25567 ≤ Wb.beg z 2 := hbl
            have hq2 : Wb.beg z 2 ≤ 90000 := hbh
            have hm0 : md0 1 = 28 := rfl
            have HM2 := Lib.hid (show Wb.beg z (((2 : Nat) : Int) + 1) = Wb.beg z 2 + (28 + Wb.lp z) by
              have h1 : Wb.beg z (((2 : Nat) : Int) + 1) = Wb.beg z 2 + Wb.md z 2 := HS.out
              have h2 : Wb.md z 2 = 28 + Wb.lp z := HM.out
              rw [h1, h2])
            clear HM
            cases hl : Wb.lpB z
            · have HL := Lib.hid (show Wb.lp z = 0 by simp [Wb.lp, hl])
              have HB := Lib.hid hl
              clear hl
              go_wp2_with (go_at_call 41; refine (rleap_any z (by omega) _).mono ?_; rintro e w' ⟨rfl, rfl⟩; rw [HB.out])
              go_round
              case rel => exact ⟨2, by omega, rfl, congrArg (Value.int .i64) (by have h1 := HM2.out; have h3 := HL.out; rw [h1, h3]; omega)⟩
              case measure => simp [intOf]
            · have HL := Lib.hid (show Wb.lp z = 1 by simp [Wb.lp, hl])
              have HB := Lib.hid hl
              clear hl
              go_wp2_with (go_at_call 41; refine (rleap_any z (by omega) _).mono ?_; rintro e w' ⟨rfl, rfl⟩; rw [HB.out])
              go_round
              case rel => exact ⟨2, by omega, rfl, congrArg (Value.int .i64) (by have h1 := HM2.out; have h3 := HL.out; rw [h1, h3]; omega)⟩
              case measure => simp [intOf]
          · have hd2 : ((k : Int) + 1 == 2) = false := by simp; omega
            go_wp2
            go_round
            case rel => exact ⟨k + 1, by omega, by go_num, congrArg (Value.int .i64) (by have h1 := HS.out; have h2 := HM.out; rw [if_neg hk2] at h2; rw [show ((k + 1 : Nat) : Int) + 1 = (k : Int) + 1 + 1 by omega]; omega)⟩
            case measure => simp [intOf]; omega
        · have hme : (k : Int) + 1 = m := by omega
          have HE := Lib.hid hme
          clear hme
          go_wp2
          go_ret
          exact ⟨Wb.ret_int (by rw [HE.out]), by (repeat' (first | (with_reducible assumption) | (with_reducible exact Wb.Ext.refl _) | (with_reducible refine Wb.Ext.drew ?_) | (with_reducible refine Wb.Ext.drewN ?_ _) | (with_reducible refine Wb.Ext.alloc ?_ _) | (with_reducible refine Wb.Ext.trans ?_ (by assumption))))⟩

end Go.Proofs.YtalpdodajcdibaaDoor
