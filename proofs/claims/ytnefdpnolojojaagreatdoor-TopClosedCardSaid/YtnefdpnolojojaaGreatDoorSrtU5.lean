/- SrtU5 -/
import Derived.Test.YtnefdpnolojojaaGreatDoorSrtU4
import Derived.Sort.LotC
import Derived.Deep.CutBlock
namespace Go.Proofs.YtnefdpnolojojaaGreatDoor
open Go.RowKit Go.Sort
set_option maxRecDepth 8000
set_option maxHeartbeats 20000000
attribute [local go_sem ↓] Go.wp_at_zero Go.wp_at_succ
theorem eloop_stop {d : Array Int} {a i j I J : Nat} (hI : scanUp (fun x => !ltInt d[a]! x) d j i = I) (hJ : scanDown (fun x => ltInt d[a]! x) d I j = J) (h : I > J) : partEqLoop ltInt a i j d = (I, d) := by
 subst hI hJ
 rw [partEqLoop_eq, if_pos h]
theorem eloop_go {d : Array Int} {a i j I J : Nat} (hI : scanUp (fun x => !ltInt d[a]! x) d j i = I) (hJ : scanDown (fun x => ltInt d[a]! x) d I j = J) (h : ¬ I > J) : partEqLoop ltInt a i j d = partEqLoop ltInt a (I + 1) (J - 1) (Sort.swp d I J) := by
 subst hI hJ
 rw [partEqLoop_eq, if_neg h]
theorem peqU_any (g n cap a b p : Nat) (d : Array Int) (w0 w : World) (h : RowU w0 w g n cap d) (hap : a ≤ p) (hpb : p < b) (hb : b ≤ n) (hn : n ≤ 1000000000000) :
  Calls Tryz.prog 91 #[.slice (some ⟨g, 0, none⟩) n cap, .int .i64 a, .int .i64 b, .int .i64 p] w fun e w' => e = .returned (.int .i64 ((partitionEqual ltInt d a b p).1 : Int)) ∧ RowU w0 w' g n cap (partitionEqual ltInt d a b p).2 := by
 have HW0 := Lib.hid h
 clear h
 obtain ⟨z, hz⟩ : ∃ z, b - 1 = z := ⟨_, rfl⟩
 have hzw : IntKind.i64.wrap ((b : Int) - 1) = (z : Int) := by rw [IntWalk.i64_in _ (by omega)]; omega
 have hzn : z < n := by omega
 have haz : a ≤ z := by omega
 obtain ⟨D, hD⟩ : ∃ D, Sort.swp d a p = D := ⟨_, rfl⟩
 have HD := Lib.hid hD
 have HE := Lib.hid (show partitionEqual ltInt d a b p = partEqLoop ltInt a (a + 1) z D by rw [partitionEqual, hz, hD])
 clear hz hD
 have hpn : p < n := by omega
 have han : a < n := by omega
 go_enter Tryz.func91, Tryz.ntmps91
 go_upto_region 1 with (fail)
 go_cut [8] (fun s wx => s = .int .i64 0 ∧ RowU w0 wx g n cap (Sort.swp (d) a p))
 case first =>
  obtain ⟨G, hG⟩ : ∃ G : Nat → Int, ∀ t, G t = (d)[t]! := ⟨fun t => (d)[t]!, fun _ => rfl⟩
  have HG : Hid (∀ t, G t = (d)[t]!) := hG
  clear hG
  have hcw : ∀ t, t < n → w.cell? ⟨g, t, none⟩ = some (.int .u32 (G t)) := fun t ht => by rw [HG.out]; exact (HW0.out).cell ht
  have hfw : ∀ t, t < n → w.frozen? ⟨g, t, none⟩ = false := fun t ht => (HW0.out).free t
  have hxi : (a : Int) < n := by omega
  have hyi : (p : Int) < n := by omega
  have HSW := Lib.hid (show ∀ w9, Wb.Ext w w9 → RowU w0 ((w9.setCell ⟨g, a, none⟩ (.int .u32 (G p))).setCell ⟨g, p, none⟩ (.int .u32 (G a))) g n cap (Sort.swp (d) a p) from fun w9 k9 => by rw [HG.out, HG.out]; exact (HW0.out.ext k9).swp a p)
  rcases Nat.lt_trichotomy a p with hxy | hxy | hxy
  ·have hxz : ¬ a = p := by omega
   have hxz2 : ¬ p = a := by omega
   go_wp2_with fail
   go_region
   all_goals go_wp2_with fail
   all_goals go_meet
   all_goals exact ⟨rfl, HSW.out _ (.drewN (.refl _) _)⟩
  ·subst hxy
   go_wp2_with fail
   go_region
   all_goals go_wp2_with fail
   all_goals go_meet
   all_goals exact ⟨rfl, HSW.out _ (.drewN (.refl _) _)⟩
  ·have hxz : ¬ a = p := by omega
   have hxz2 : ¬ p = a := by omega
   go_wp2_with fail
   go_region
   all_goals go_wp2_with fail
   all_goals go_meet
   all_goals exact ⟨rfl, HSW.out _ (.drewN (.refl _) _)⟩
 case rest =>
  obtain ⟨rfl, hrw⟩ := hcut
  obtain ⟨wB1, hwz⟩ : ∃ z, z = wc := ⟨_, rfl⟩
  subst hwz
  rw [HD.out] at hrw
  have HR1 := Lib.hid hrw
  clear hrw
  go_wp2_with fail
  go_loopw [9, 10] (fun vi vj wr => ∃ (i j : Nat) (dk : Array Int), vi = .int .i64 i ∧ vj = .int .i64 j ∧ a < i ∧ i ≤ j + 1 ∧ j ≤ z ∧ Hid (partEqLoop ltInt a i j dk = partEqLoop ltInt a (a + 1) z D) ∧ Hid (RowU w0 wr g n cap dk)) (fun vi vj _ => (intOf vj + 1 - intOf vi).toNat)
  case atStart => exact ⟨a + 1, z, D, by first | rfl | go_num, by first | rfl | go_num, by omega, by omega, by omega, Lib.hid rfl, HR1⟩
  case round =>
   obtain ⟨i, j, dk, rfl, rfl, hai, hij, hjz, HP, HR4⟩ := hrel
   obtain ⟨wO, hwz⟩ : ∃ z, z = wr := ⟨_, rfl⟩
   subst hwz
   obtain ⟨I2, hI2⟩ : ∃ I2, scanUp (fun x => !ltInt dk[a]! x) dk j i = I2 := ⟨_, rfl⟩
   have HI2 := Lib.hid hI2
   obtain ⟨J2, hJ2⟩ : ∃ J2, scanDown (fun x => ltInt dk[a]! x) dk I2 j = J2 := ⟨_, rfl⟩
   have HJ2 := Lib.hid hJ2
   obtain ⟨hb1, hb2⟩ := up_bd hI2 (by omega)
   obtain ⟨hb3, hb4⟩ := down_bd hJ2 (by omega)
   clear hI2 hJ2
   go_upto_block 2 with (fail)
   go_cut [9] (fun v wx => v = .int .i64 (I2 : Int) ∧ Wb.Ext wO wx)
   case first =>
    obtain ⟨G, hG⟩ : ∃ G : Nat → Int, ∀ t, G t = (dk)[t]! := ⟨fun t => (dk)[t]!, fun _ => rfl⟩
    have HG : Hid (∀ t, G t = (dk)[t]!) := hG
    clear hG
    go_wp2_with fail
    go_loopw [9] (fun vi wr => ∃ i : Nat, vi = .int .i64 i ∧ i ≤ i ∧ i ≤ j + 1 ∧ Hid (scanUp (fun x => !ltInt (dk)[a]! x) (dk) j i = I2) ∧ Wb.Ext wO wr) (fun vi _ => j + 1 - (intOf vi).toNat)
    case atStart => exact ⟨i, by first | rfl | go_num, Nat.le_refl _, by omega, HI2, .refl _⟩
    case round =>
     obtain ⟨i, rfl, hq1, hq2, HS, hxr⟩ := hrel
     have hcw : ∀ t, t < n → wr.cell? ⟨g, t, none⟩ = some (.int .u32 (G t)) := fun t ht => by rw [HG.out]; exact (HR4.out.ext hxr).cell ht
     have hfw : ∀ t, t < n → wr.frozen? ⟨g, t, none⟩ = false := fun t ht => (HR4.out.ext hxr).free t
     by_cases hij : i ≤ j
     case neg =>
      have dd : decide ((i : Int) ≤ (j : Int)) = false := by simp; omega
      have HE := Lib.hid (show i = I2 by rw [← HS.out]; exact (scanUp_stop _ _ _ _ (by rintro ⟨q1, q2⟩; exact hij q1)).symm)
      go_wp2_with fail
      go_quiet (first | (go_at_call 90; refine Calls.quiet_of_same (lessU_any _ _ _)))
      go_wp2
      go_meet
      exact ⟨by rw [HE.out], by (repeat' (first | (with_reducible assumption) | (with_reducible exact Wb.Ext.refl _) | (with_reducible refine Wb.Ext.drew ?_) | (with_reducible refine Wb.Ext.drewN ?_ _) | (with_reducible refine Wb.Ext.alloc ?_ _) | (with_reducible refine Wb.Ext.trans ?_ (by assumption))))⟩
     have dd : decide ((i : Int) ≤ (j : Int)) = true := by simp; omega
     have hiI : (i : Int) < n := by omega
     have hiN : i < n := by omega
     have haI : (a : Int) < n := by omega
     have haN : a < n := by omega
     cases hl : ltInt (G a) (G i)
     ·have hp9 : ltInt ((dk)[a]!) ((dk)[i]!) = false := by rw [← HG.out, ← HG.out]; exact hl
      have HS2 := Lib.hid (show scanUp (fun x => !ltInt (dk)[a]! x) (dk) j (i + 1) = I2 by rw [← HS.out, scanUp_go hij (by simp [hp9])])
      clear hp9
      go_wp2_with fail
      go_quiet (first | (go_at_call 90; refine Calls.quiet_of_same (lessU_any _ _ _)))
      go_wp2
      go_roundw
      case rel => exact ⟨i + 1, by first | rfl | go_num, by omega, by omega, HS2, by (repeat' (first | (with_reducible assumption) | (with_reducible exact Wb.Ext.refl _) | (with_reducible refine Wb.Ext.drew ?_) | (with_reducible refine Wb.Ext.drewN ?_ _) | (with_reducible refine Wb.Ext.alloc ?_ _) | (with_reducible refine Wb.Ext.trans ?_ (by assumption))))⟩
      case measure => first | (simp [intOf]; done) | (simp [intOf]; omega)
     ·have hp9 : ltInt ((dk)[a]!) ((dk)[i]!) = true := by rw [← HG.out, ← HG.out]; exact hl
      have HE := Lib.hid (show i = I2 by rw [← HS.out]; exact (scanUp_stop _ _ _ _ (by rintro ⟨q1, q2⟩; simp [hp9] at q2)).symm)
      clear hp9
      go_wp2_with fail
      go_quiet (first | (go_at_call 90; refine Calls.quiet_of_same (lessU_any _ _ _)))
      go_wp2
      go_meet
      exact ⟨by rw [HE.out], by (repeat' (first | (with_reducible assumption) | (with_reducible exact Wb.Ext.refl _) | (with_reducible refine Wb.Ext.drew ?_) | (with_reducible refine Wb.Ext.drewN ?_ _) | (with_reducible refine Wb.Ext.alloc ?_ _) | (with_reducible refine Wb.Ext.trans ?_ (by assumption))))⟩
   case rest =>
    obtain ⟨rfl, hxe⟩ := hcut
    obtain ⟨wI1, hwz⟩ : ∃ z, z = wc := ⟨_, rfl⟩
    subst hwz
    have HR5 := Lib.hid (HR4.out.ext hxe)
    clear hxe
    go_upto_block 4 with (fail)
    go_cut [10] (fun v wx => v = .int .i64 (J2 : Int) ∧ Wb.Ext wI1 wx)
    case first =>
     obtain ⟨G, hG⟩ : ∃ G : Nat → Int, ∀ t, G t = (dk)[t]! := ⟨fun t => (dk)[t]!, fun _ => rfl⟩
     have HG : Hid (∀ t, G t = (dk)[t]!) := hG
     clear hG
     go_wp2_with fail
     go_loopw [10] (fun vi wr => ∃ i : Nat, vi = .int .i64 i ∧ i ≤ j ∧ I2 ≤ i + 1 ∧ Hid (scanDown (fun x => ltInt (dk)[a]! x) (dk) I2 i = J2) ∧ Wb.Ext wI1 wr) (fun vi _ => (intOf vi).toNat)
     case atStart => exact ⟨j, by first | rfl | go_num, Nat.le_refl _, by omega, HJ2, .refl _⟩
     case round =>
      obtain ⟨i, rfl, hq1, hq2, HS, hxr⟩ := hrel
      have hcw : ∀ t, t < n → wr.cell? ⟨g, t, none⟩ = some (.int .u32 (G t)) := fun t ht => by rw [HG.out]; exact (HR5.out.ext hxr).cell ht
      have hfw : ∀ t, t < n → wr.frozen? ⟨g, t, none⟩ = false := fun t ht => (HR5.out.ext hxr).free t
      by_cases hij : I2 ≤ i
      case neg =>
       have dd : decide ((I2 : Int) ≤ (i : Int)) = false := by simp; omega
       have HE := Lib.hid (show i = J2 by rw [← HS.out]; exact (scanDown_stop _ _ _ _ (by rintro ⟨q1, q2⟩; exact hij q1)).symm)
       go_wp2_with fail
       go_quiet (first | (go_at_call 90; refine Calls.quiet_of_same (lessU_any _ _ _)))
       go_wp2
       go_meet
       exact ⟨by rw [HE.out], by (repeat' (first | (with_reducible assumption) | (with_reducible exact Wb.Ext.refl _) | (with_reducible refine Wb.Ext.drew ?_) | (with_reducible refine Wb.Ext.drewN ?_ _) | (with_reducible refine Wb.Ext.alloc ?_ _) | (with_reducible refine Wb.Ext.trans ?_ (by assumption))))⟩
      have dd : decide ((I2 : Int) ≤ (i : Int)) = true := by simp; omega
      have hiI : (i : Int) < n := by omega
      have hiN : i < n := by omega
      have haI : (a : Int) < n := by omega
      have haN : a < n := by omega
      cases hl : ltInt (G a) (G i)
      ·have hp9 : ltInt ((dk)[a]!) ((dk)[i]!) = false := by rw [← HG.out, ← HG.out]; exact hl
       have HE := Lib.hid (show i = J2 by rw [← HS.out]; exact (scanDown_stop _ _ _ _ (by rintro ⟨q1, q2⟩; simp [hp9] at q2)).symm)
       clear hp9
       go_wp2_with fail
       go_quiet (first | (go_at_call 90; refine Calls.quiet_of_same (lessU_any _ _ _)))
       go_wp2
       go_meet
       exact ⟨by rw [HE.out], by (repeat' (first | (with_reducible assumption) | (with_reducible exact Wb.Ext.refl _) | (with_reducible refine Wb.Ext.drew ?_) | (with_reducible refine Wb.Ext.drewN ?_ _) | (with_reducible refine Wb.Ext.alloc ?_ _) | (with_reducible refine Wb.Ext.trans ?_ (by assumption))))⟩
      ·have hp9 : ltInt ((dk)[a]!) ((dk)[i]!) = true := by rw [← HG.out, ← HG.out]; exact hl
       have HS2 := Lib.hid (show scanDown (fun x => ltInt (dk)[a]! x) (dk) I2 (i - 1) = J2 by rw [← HS.out, scanDown_go (by omega) hij (by simp [hp9])])
       clear hp9
       have hi1 : IntKind.i64.wrap ((i : Int) - 1) = ((i - 1 : Nat) : Int) := by rw [IntWalk.i64_in _ (by omega)]; omega
       go_wp2_with fail
       go_quiet (first | (go_at_call 90; refine Calls.quiet_of_same (lessU_any _ _ _)))
       go_wp2
       go_roundw
       case rel => exact ⟨i - 1, by first | rfl | go_num, by omega, by omega, HS2, by (repeat' (first | (with_reducible assumption) | (with_reducible exact Wb.Ext.refl _) | (with_reducible refine Wb.Ext.drew ?_) | (with_reducible refine Wb.Ext.drewN ?_ _) | (with_reducible refine Wb.Ext.alloc ?_ _) | (with_reducible refine Wb.Ext.trans ?_ (by assumption))))⟩
       case measure => first | (simp [intOf]; done) | (simp [intOf]; omega)
    case rest =>
     obtain ⟨rfl, hxe⟩ := hcut
     obtain ⟨wI2, hwz⟩ : ∃ z, z = wc := ⟨_, rfl⟩
     subst hwz
     have HR6 := Lib.hid (HR5.out.ext hxe)
     by_cases hIJ2 : I2 > J2
     ·have HF := Lib.hid (show partEqLoop ltInt a (a + 1) z D = (I2, dk) by rw [← HP.out]; exact eloop_stop HI2.out HJ2.out hIJ2)
      have d5 : decide ((J2 : Int) < (I2 : Int)) = true := by simp; omega
      go_wp2
      refine bodyPost_ret (v := .int .i64 (I2 : Int)) (by simp [results, Tryz.results91, go_sem]) rfl ⟨by rw [HE.out, HF.out], by rw [HE.out, HF.out]; exact HR6.out.ext (by (repeat' (first | (with_reducible assumption) | (with_reducible exact Wb.Ext.refl _) | (with_reducible refine Wb.Ext.drew ?_) | (with_reducible refine Wb.Ext.drewN ?_ _) | (with_reducible refine Wb.Ext.alloc ?_ _) | (with_reducible refine Wb.Ext.trans ?_ (by assumption)))))⟩
     ·have hnij : I2 < J2 := scan_ne (fun x => by simp) HI2.out HJ2.out hIJ2 (by omega)
      have HF := Lib.hid (show partEqLoop ltInt a (I2 + 1) (J2 - 1) (Sort.swp dk I2 J2) = partEqLoop ltInt a (a + 1) z D by rw [← HP.out, eloop_go HI2.out HJ2.out hIJ2])
      have d5 : decide ((J2 : Int) < (I2 : Int)) = false := by simp; omega
      have hJn : J2 < n := by omega
      have hIn : I2 < n := by omega
      have hj1 : IntKind.i64.wrap ((J2 : Int) - 1) = ((J2 - 1 : Nat) : Int) := by rw [IntWalk.i64_in _ (by omega)]; omega
      go_upto_region 8 with (fail)
      go_cut [8] (fun s wx => s = .int .i64 0 ∧ RowU w0 wx g n cap (Sort.swp (dk) I2 J2))
      case first =>
       obtain ⟨G, hG⟩ : ∃ G : Nat → Int, ∀ t, G t = (dk)[t]! := ⟨fun t => (dk)[t]!, fun _ => rfl⟩
       have HG : Hid (∀ t, G t = (dk)[t]!) := hG
       clear hG
       have hcw : ∀ t, t < n → wI2.cell? ⟨g, t, none⟩ = some (.int .u32 (G t)) := fun t ht => by rw [HG.out]; exact (HR6.out).cell ht
       have hfw : ∀ t, t < n → wI2.frozen? ⟨g, t, none⟩ = false := fun t ht => (HR6.out).free t
       have hxi : (I2 : Int) < n := by omega
       have hyi : (J2 : Int) < n := by omega
       have HSW := Lib.hid (show ∀ w9, Wb.Ext wI2 w9 → RowU w0 ((w9.setCell ⟨g, I2, none⟩ (.int .u32 (G J2))).setCell ⟨g, J2, none⟩ (.int .u32 (G I2))) g n cap (Sort.swp (dk) I2 J2) from fun w9 k9 => by rw [HG.out, HG.out]; exact (HR6.out.ext k9).swp I2 J2)
       rcases Nat.lt_trichotomy I2 J2 with hxy | hxy | hxy
       ·have hxz : ¬ I2 = J2 := by omega
        have hxz2 : ¬ J2 = I2 := by omega
        go_wp2_with fail
        go_region
        all_goals go_wp2_with fail
        all_goals go_meet
        all_goals exact ⟨rfl, HSW.out _ (.drewN (.refl _) _)⟩
       ·subst hxy
        go_wp2_with fail
        go_region
        all_goals go_wp2_with fail
        all_goals go_meet
        all_goals exact ⟨rfl, HSW.out _ (.drewN (.refl _) _)⟩
       ·have hxz : ¬ I2 = J2 := by omega
        have hxz2 : ¬ J2 = I2 := by omega
        go_wp2_with fail
        go_region
        all_goals go_wp2_with fail
        all_goals go_meet
        all_goals exact ⟨rfl, HSW.out _ (.drewN (.refl _) _)⟩
      case rest =>
       obtain ⟨rfl, hrw⟩ := hcut
       obtain ⟨wE, hwz⟩ : ∃ z, z = wc := ⟨_, rfl⟩
       subst hwz
       have HRE := Lib.hid hrw
       clear hrw
       go_wp2
       go_roundw
       case rel => exact ⟨I2 + 1, J2 - 1, Sort.swp dk I2 J2, by first | rfl | go_num, by first | rfl | go_num, by omega, by omega, by omega, HF, HRE⟩
       case measure => first | (simp [intOf]; done) | (simp [intOf]; omega)
end Go.Proofs.YtnefdpnolojojaaGreatDoor
