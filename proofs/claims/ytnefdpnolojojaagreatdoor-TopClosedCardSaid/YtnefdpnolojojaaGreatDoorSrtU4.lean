/- SrtU4 -/
import Derived.Test.YtnefdpnolojojaaGreatDoorMSr
import Derived.Sort.LotC
import Derived.Deep.CutBlock
namespace Go.Proofs.YtnefdpnolojojaaGreatDoor
open Go.RowKit Go.Sort
set_option maxRecDepth 8000
set_option maxHeartbeats 20000000
attribute [local go_sem ↓] Go.wp_at_zero Go.wp_at_succ
theorem scanUp_go {p : Int → Bool} {d : Array Int} {j i : Nat} (h : i ≤ j) (k : p d[i]! = true) : scanUp p d j i = scanUp p d j (i + 1) := by
 conv => lhs; rw [scanUp]
 rw [if_pos (by simp [h, k])]
theorem scanUp_stop (p : Int → Bool) (d : Array Int) (j i : Nat) (h : ¬ (i ≤ j ∧ p d[i]! = true)) : scanUp p d j i = i := by
 rw [scanUp, if_neg (by simpa using h)]
theorem scanDown_go {p : Int → Bool} {d : Array Int} {i j : Nat} (h0 : 1 ≤ j) (h : i ≤ j) (k : p d[j]! = true) : scanDown p d i j = scanDown p d i (j - 1) := by
 obtain ⟨m, rfl⟩ : ∃ m, j = m + 1 := ⟨j - 1, by omega⟩
 conv => lhs; rw [scanDown]
 rw [if_pos (by simp [h, k])]; rfl
theorem scanDown_stop (p : Int → Bool) (d : Array Int) (i j : Nat) (h : ¬ (i ≤ j ∧ p d[j]! = true)) : scanDown p d i j = j := by
 cases j with
 | zero => rw [scanDown]
 | succ m => rw [scanDown, if_neg (by simpa using h)]
theorem part_early {d D : Array Int} {a b p I J : Nat} (hD : Sort.swp d a p = D) (hI : scanUp (fun x => ltInt x D[a]!) D (b - 1) (a + 1) = I) (hJ : scanDown (fun x => !ltInt x D[a]!) D I (b - 1) = J) (h : I > J) :
  partition ltInt d a b p = (J, true, Sort.swp D J a) := by
 subst hD hI hJ
 unfold partition
 simp only [if_pos h]
theorem part_late {d D : Array Int} {a b p I J : Nat} (hD : Sort.swp d a p = D) (hI : scanUp (fun x => ltInt x D[a]!) D (b - 1) (a + 1) = I) (hJ : scanDown (fun x => !ltInt x D[a]!) D I (b - 1) = J) (h : ¬ I > J) :
  partition ltInt d a b p = ((partLoop ltInt a (I + 1) (J - 1) (Sort.swp D I J)).1, false, Sort.swp (partLoop ltInt a (I + 1) (J - 1) (Sort.swp D I J)).2 (partLoop ltInt a (I + 1) (J - 1) (Sort.swp D I J)).1 a) := by
 subst hD hI hJ
 unfold partition
 simp only [if_neg h]
theorem loop_stop {d : Array Int} {a i j I J : Nat} (hI : scanUp (fun x => ltInt x d[a]!) d j i = I) (hJ : scanDown (fun x => !ltInt x d[a]!) d I j = J) (h : I > J) : partLoop ltInt a i j d = (J, d) := by
 subst hI hJ
 rw [partLoop_eq, if_pos h]
theorem loop_go {d : Array Int} {a i j I J : Nat} (hI : scanUp (fun x => ltInt x d[a]!) d j i = I) (hJ : scanDown (fun x => !ltInt x d[a]!) d I j = J) (h : ¬ I > J) : partLoop ltInt a i j d = partLoop ltInt a (I + 1) (J - 1) (Sort.swp d I J) := by
 subst hI hJ
 rw [partLoop_eq, if_neg h]
theorem up_bd {p : Int → Bool} {d : Array Int} {j i I : Nat} (h : scanUp p d j i = I) (hi : i ≤ j + 1) : i ≤ I ∧ I ≤ j + 1 := by
 obtain ⟨h1, h2, _⟩ := scanUp_spec p d j _ i rfl
 rw [h] at h1 h2; exact ⟨h1, h2 hi⟩
theorem down_bd {p : Int → Bool} {d : Array Int} {i j J : Nat} (h : scanDown p d i j = J) (hi : i ≤ j + 1) : J ≤ j ∧ i ≤ J + 1 := by
 obtain ⟨h1, h2, _⟩ := scanDown_spec p d i j
 rw [h] at h1 h2; exact ⟨h1, h2 hi⟩
theorem scan_ne {p q : Int → Bool} (hq : ∀ x, q x = !p x) {d : Array Int} {j i I J : Nat} (hI : scanUp p d j i = I) (hJ : scanDown q d I j = J) (h : ¬ I > J) (h0 : 0 < J) : I < J := by
 obtain ⟨_, _, _, h1⟩ := scanUp_spec p d j _ i rfl
 obtain ⟨h2, _, _, h3⟩ := scanDown_spec q d I j
 rw [hI] at h1
 rw [hJ] at h2 h3
 rcases Nat.lt_or_ge I J with k | k
 ·exact k
 ·obtain rfl : I = J := by omega
  have e1 := h1 h2
  have e2 := h3 (Nat.le_refl _) h0
  rw [hq, e1] at e2; cases e2
theorem partU_any (g n cap a b p : Nat) (d : Array Int) (w0 w : World) (h : RowU w0 w g n cap d) (hap : a ≤ p) (hpb : p < b) (hb : b ≤ n) (hn : n ≤ 1000000000000) :
  Calls Tryz.prog 92 #[.slice (some ⟨g, 0, none⟩) n cap, .int .i64 a, .int .i64 b, .int .i64 p] w fun e w' => e = .returned (.tuple #[.int .i64 ((partition ltInt d a b p).1 : Int), .bool (partition ltInt d a b p).2.1]) ∧ RowU w0 w' g n cap (partition ltInt d a b p).2.2 := by
 have HW0 := Lib.hid h
 clear h
 obtain ⟨z, hz⟩ : ∃ z, b - 1 = z := ⟨_, rfl⟩
 have hzw : IntKind.i64.wrap ((b : Int) - 1) = (z : Int) := by rw [IntWalk.i64_in _ (by omega)]; omega
 have hzn : z < n := by omega
 have haz : a ≤ z := by omega
 obtain ⟨D, hD⟩ : ∃ D, Sort.swp d a p = D := ⟨_, rfl⟩
 have HD := Lib.hid hD
 obtain ⟨I, hI⟩ : ∃ I, scanUp (fun x => ltInt x D[a]!) D z (a + 1) = I := ⟨_, rfl⟩
 have HI := Lib.hid hI
 obtain ⟨J, hJ⟩ : ∃ J, scanDown (fun x => !ltInt x D[a]!) D I z = J := ⟨_, rfl⟩
 have HJ := Lib.hid hJ
 obtain ⟨hI1, hI2⟩ := up_bd hI (by omega)
 obtain ⟨hJ1, hJ2⟩ := down_bd hJ (by omega)
 have HZ := Lib.hid hz
 clear hz hD hI hJ
 have hpn : p < n := by omega
 have han : a < n := by omega
 have hI3 : I ≤ n := by omega
 go_enter Tryz.func92, Tryz.ntmps92
 go_upto_region 1 with (fail)
 go_cut [9] (fun s wx => s = .bool false ∧ RowU w0 wx g n cap (Sort.swp (d) a p))
 case first =>
  obtain ⟨G, hG⟩ : ∃ G : Nat → Int, ∀ t, G t = (d)[t]! := ⟨fun t => (d)[t]!, fun _ => rfl⟩
  have HG : Hid (∀ t, G t = (d)[t]!) := hG
  clear hG
  have hcw : ∀ t, t < n → w.cell? ⟨g, t, none⟩ = some (.int .u32 (G t)) := fun t ht => by rw [HG.out]; exact (HW0.out).cell ht
  have hfw : ∀ t, t < n → w.frozen? ⟨g, t, none⟩ = false := fun t ht => (HW0.out).free t
  have hxi : (a : Int) < n := by omega
  have hyi : (p : Int) < n := by omega
  have HSW := Lib.hid (show ∀ w9, Wb.Ext w w9 → RowU w0 ((w9.setCell ⟨g, a, none⟩ (.int .u32 (G p))).setCell ⟨g, p, none⟩ (.int .u32 (G a))) g n cap (Sort.swp (d) a p) from fun w9 k9 => by rw [HG.out, HG.out]; exact (HW0.out.ext k9).swp a p)
  rcases Nat.lt_trichotomy a p with hxy | hxy | hxy
  ·have hxz : ¬ a = p := by omega
   have hxz2 : ¬ p = a := by omega
   go_wp2_with fail
   go_region
   all_goals go_wp2_with fail
   all_goals go_meet
   all_goals exact ⟨rfl, HSW.out _ (.drewN (.refl _) _)⟩
  ·subst hxy
   go_wp2_with fail
   go_region
   all_goals go_wp2_with fail
   all_goals go_meet
   all_goals exact ⟨rfl, HSW.out _ (.drewN (.refl _) _)⟩
  ·have hxz : ¬ a = p := by omega
   have hxz2 : ¬ p = a := by omega
   go_wp2_with fail
   go_region
   all_goals go_wp2_with fail
   all_goals go_meet
   all_goals exact ⟨rfl, HSW.out _ (.drewN (.refl _) _)⟩
 case rest =>
  obtain ⟨rfl, hrw⟩ := hcut
  obtain ⟨wB1, hwz⟩ : ∃ z, z = wc := ⟨_, rfl⟩
  subst hwz
  rw [HD.out] at hrw
  have HR1 := Lib.hid hrw
  clear hrw
  have h11 : Wb.Ext wB1 wB1 := .refl _
  go_upto_block 0 with (fail)
  go_cut [10] (fun v wx => v = .int .i64 (I : Int) ∧ Wb.Ext wB1 wx)
  case first =>
   obtain ⟨G, hG⟩ : ∃ G : Nat → Int, ∀ t, G t = (D)[t]! := ⟨fun t => (D)[t]!, fun _ => rfl⟩
   have HG : Hid (∀ t, G t = (D)[t]!) := hG
   clear hG
   go_wp2_with fail
   go_loopw [10] (fun vi wr => ∃ i : Nat, vi = .int .i64 i ∧ (a + 1) ≤ i ∧ i ≤ z + 1 ∧ Hid (scanUp (fun x => ltInt x (D)[a]!) (D) z i = I) ∧ Wb.Ext wB1 wr) (fun vi _ => z + 1 - (intOf vi).toNat)
   case atStart => exact ⟨(a + 1), by first | rfl | go_num, Nat.le_refl _, by omega, HI, .refl _⟩
   case round =>
    obtain ⟨i, rfl, hq1, hq2, HS, hxr⟩ := hrel
    have hcw : ∀ t, t < n → wr.cell? ⟨g, t, none⟩ = some (.int .u32 (G t)) := fun t ht => by rw [HG.out]; exact (HR1.out.ext hxr).cell ht
    have hfw : ∀ t, t < n → wr.frozen? ⟨g, t, none⟩ = false := fun t ht => (HR1.out.ext hxr).free t
    by_cases hij : i ≤ z
    case neg =>
     have dd : decide ((i : Int) ≤ (z : Int)) = false := by simp; omega
     have HE := Lib.hid (show i = I by rw [← HS.out]; exact (scanUp_stop _ _ _ _ (by rintro ⟨q1, q2⟩; exact hij q1)).symm)
     go_wp2_with fail
     go_quiet (first | (go_at_call 90; refine Calls.quiet_of_same (lessU_any _ _ _)))
     go_wp2
     go_meet
     exact ⟨by rw [HE.out], by (repeat' (first | (with_reducible assumption) | (with_reducible exact Wb.Ext.refl _) | (with_reducible refine Wb.Ext.drew ?_) | (with_reducible refine Wb.Ext.drewN ?_ _) | (with_reducible refine Wb.Ext.alloc ?_ _) | (with_reducible refine Wb.Ext.trans ?_ (by assumption))))⟩
    have dd : decide ((i : Int) ≤ (z : Int)) = true := by simp; omega
    have hiI : (i : Int) < n := by omega
    have hiN : i < n := by omega
    have haI : (a : Int) < n := by omega
    have haN : a < n := by omega
    cases hl : ltInt (G i) (G a)
    ·have hp9 : ltInt ((D)[i]!) ((D)[a]!) = false := by rw [← HG.out, ← HG.out]; exact hl
     have HE := Lib.hid (show i = I by rw [← HS.out]; exact (scanUp_stop _ _ _ _ (by rintro ⟨q1, q2⟩; simp [hp9] at q2)).symm)
     clear hp9
     go_wp2_with fail
     go_quiet (first | (go_at_call 90; refine Calls.quiet_of_same (lessU_any _ _ _)))
     go_wp2
     go_meet
     exact ⟨by rw [HE.out], by (repeat' (first | (with_reducible assumption) | (with_reducible exact Wb.Ext.refl _) | (with_reducible refine Wb.Ext.drew ?_) | (with_reducible refine Wb.Ext.drewN ?_ _) | (with_reducible refine Wb.Ext.alloc ?_ _) | (with_reducible refine Wb.Ext.trans ?_ (by assumption))))⟩
    ·have hp9 : ltInt ((D)[i]!) ((D)[a]!) = true := by rw [← HG.out, ← HG.out]; exact hl
     have HS2 := Lib.hid (show scanUp (fun x => ltInt x (D)[a]!) (D) z (i + 1) = I by rw [← HS.out, scanUp_go hij (by simp [hp9])])
     clear hp9
     go_wp2_with fail
     go_quiet (first | (go_at_call 90; refine Calls.quiet_of_same (lessU_any _ _ _)))
     go_wp2
     go_roundw
     case rel => exact ⟨i + 1, by first | rfl | go_num, by omega, by omega, HS2, by (repeat' (first | (with_reducible assumption) | (with_reducible exact Wb.Ext.refl _) | (with_reducible refine Wb.Ext.drew ?_) | (with_reducible refine Wb.Ext.drewN ?_ _) | (with_reducible refine Wb.Ext.alloc ?_ _) | (with_reducible refine Wb.Ext.trans ?_ (by assumption))))⟩
     case measure => first | (simp [intOf]; done) | (simp [intOf]; omega)
  case rest =>
   obtain ⟨rfl, hxe⟩ := hcut
   obtain ⟨wB2, hwz⟩ : ∃ z, z = wc := ⟨_, rfl⟩
   subst hwz
   have HR2 := Lib.hid (HR1.out.ext hxe)
   clear hxe
   go_upto_block 2 with (fail)
   go_cut [11] (fun v wx => v = .int .i64 (J : Int) ∧ Wb.Ext wB2 wx)
   case first =>
    obtain ⟨G, hG⟩ : ∃ G : Nat → Int, ∀ t, G t = (D)[t]! := ⟨fun t => (D)[t]!, fun _ => rfl⟩
    have HG : Hid (∀ t, G t = (D)[t]!) := hG
    clear hG
    go_wp2_with fail
    go_loopw [11] (fun vi wr => ∃ i : Nat, vi = .int .i64 i ∧ i ≤ z ∧ I ≤ i + 1 ∧ Hid (scanDown (fun x => !ltInt x (D)[a]!) (D) I i = J) ∧ Wb.Ext wB2 wr) (fun vi _ => (intOf vi).toNat)
    case atStart => exact ⟨z, by first | rfl | go_num, Nat.le_refl _, by omega, HJ, .refl _⟩
    case round =>
     obtain ⟨i, rfl, hq1, hq2, HS, hxr⟩ := hrel
     have hcw : ∀ t, t < n → wr.cell? ⟨g, t, none⟩ = some (.int .u32 (G t)) := fun t ht => by rw [HG.out]; exact (HR2.out.ext hxr).cell ht
     have hfw : ∀ t, t < n → wr.frozen? ⟨g, t, none⟩ = false := fun t ht => (HR2.out.ext hxr).free t
     by_cases hij : I ≤ i
     case neg =>
      have dd : decide ((I : Int) ≤ (i : Int)) = false := by simp; omega
      have HE := Lib.hid (show i = J by rw [← HS.out]; exact (scanDown_stop _ _ _ _ (by rintro ⟨q1, q2⟩; exact hij q1)).symm)
      go_wp2_with fail
      go_quiet (first | (go_at_call 90; refine Calls.quiet_of_same (lessU_any _ _ _)))
      go_wp2
      go_meet
      exact ⟨by rw [HE.out], by (repeat' (first | (with_reducible assumption) | (with_reducible exact Wb.Ext.refl _) | (with_reducible refine Wb.Ext.drew ?_) | (with_reducible refine Wb.Ext.drewN ?_ _) | (with_reducible refine Wb.Ext.alloc ?_ _) | (with_reducible refine Wb.Ext.trans ?_ (by assumption))))⟩
     have dd : decide ((I : Int) ≤ (i : Int)) = true := by simp; omega
     have hiI : (i : Int) < n := by omega
     have hiN : i < n := by omega
     have haI : (a : Int) < n := by omega
     have haN : a < n := by omega
     cases hl : ltInt (G i) (G a)
     ·have hp9 : ltInt ((D)[i]!) ((D)[a]!) = false := by rw [← HG.out, ← HG.out]; exact hl
      have HS2 := Lib.hid (show scanDown (fun x => !ltInt x (D)[a]!) (D) I (i - 1) = J by rw [← HS.out, scanDown_go (by omega) hij (by simp [hp9])])
      clear hp9
      have hi1 : IntKind.i64.wrap ((i : Int) - 1) = ((i - 1 : Nat) : Int) := by rw [IntWalk.i64_in _ (by omega)]; omega
      go_wp2_with fail
      go_quiet (first | (go_at_call 90; refine Calls.quiet_of_same (lessU_any _ _ _)))
      go_wp2
      go_roundw
      case rel => exact ⟨i - 1, by first | rfl | go_num, by omega, by omega, HS2, by (repeat' (first | (with_reducible assumption) | (with_reducible exact Wb.Ext.refl _) | (with_reducible refine Wb.Ext.drew ?_) | (with_reducible refine Wb.Ext.drewN ?_ _) | (with_reducible refine Wb.Ext.alloc ?_ _) | (with_reducible refine Wb.Ext.trans ?_ (by assumption))))⟩
      case measure => first | (simp [intOf]; done) | (simp [intOf]; omega)
     ·have hp9 : ltInt ((D)[i]!) ((D)[a]!) = true := by rw [← HG.out, ← HG.out]; exact hl
      have HE := Lib.hid (show i = J by rw [← HS.out]; exact (scanDown_stop _ _ _ _ (by rintro ⟨q1, q2⟩; simp [hp9] at q2)).symm)
      clear hp9
      go_wp2_with fail
      go_quiet (first | (go_at_call 90; refine Calls.quiet_of_same (lessU_any _ _ _)))
      go_wp2
      go_meet
      exact ⟨by rw [HE.out], by (repeat' (first | (with_reducible assumption) | (with_reducible exact Wb.Ext.refl _) | (with_reducible refine Wb.Ext.drew ?_) | (with_reducible refine Wb.Ext.drewN ?_ _) | (with_reducible refine Wb.Ext.alloc ?_ _) | (with_reducible refine Wb.Ext.trans ?_ (by assumption))))⟩
   case rest =>
    obtain ⟨rfl, hxe⟩ := hcut
    obtain ⟨wB3, hwz⟩ : ∃ z, z = wc := ⟨_, rfl⟩
    subst hwz
    have HR3 := Lib.hid (HR2.out.ext hxe)
    clear hxe
    by_cases hIJ : I > J
    ·have d4 : decide ((J : Int) < (I : Int)) = true := by simp; omega
     have hJn : J < n := by omega
     have hJa : a ≤ J := by omega
     go_upto_region 8 with (fail)
     go_cut [9] (fun s wx => s = .bool false ∧ RowU w0 wx g n cap (Sort.swp (D) J a))
     case first =>
      obtain ⟨G, hG⟩ : ∃ G : Nat → Int, ∀ t, G t = (D)[t]! := ⟨fun t => (D)[t]!, fun _ => rfl⟩
      have HG : Hid (∀ t, G t = (D)[t]!) := hG
      clear hG
      have hcw : ∀ t, t < n → wB3.cell? ⟨g, t, none⟩ = some (.int .u32 (G t)) := fun t ht => by rw [HG.out]; exact (HR3.out).cell ht
      have hfw : ∀ t, t < n → wB3.frozen? ⟨g, t, none⟩ = false := fun t ht => (HR3.out).free t
      have hxi : (J : Int) < n := by omega
      have hyi : (a : Int) < n := by omega
      have HSW := Lib.hid (show ∀ w9, Wb.Ext wB3 w9 → RowU w0 ((w9.setCell ⟨g, J, none⟩ (.int .u32 (G a))).setCell ⟨g, a, none⟩ (.int .u32 (G J))) g n cap (Sort.swp (D) J a) from fun w9 k9 => by rw [HG.out, HG.out]; exact (HR3.out.ext k9).swp J a)
      rcases Nat.lt_trichotomy J a with hxy | hxy | hxy
      ·have hxz : ¬ J = a := by omega
       have hxz2 : ¬ a = J := by omega
       go_wp2_with fail
       go_region
       all_goals go_wp2_with fail
       all_goals go_meet
       all_goals exact ⟨rfl, HSW.out _ (.drewN (.refl _) _)⟩
      ·subst hxy
       go_wp2_with fail
       go_region
       all_goals go_wp2_with fail
       all_goals go_meet
       all_goals exact ⟨rfl, HSW.out _ (.drewN (.refl _) _)⟩
      ·have hxz : ¬ J = a := by omega
       have hxz2 : ¬ a = J := by omega
       go_wp2_with fail
       go_region
       all_goals go_wp2_with fail
       all_goals go_meet
       all_goals exact ⟨rfl, HSW.out _ (.drewN (.refl _) _)⟩
     case rest =>
      obtain ⟨rfl, hrw⟩ := hcut
      obtain ⟨wE, hwz⟩ : ∃ z, z = wc := ⟨_, rfl⟩
      subst hwz
      have HE := Lib.hid (part_early HD.out (by rw [HZ.out]; exact HI.out) (by rw [HZ.out]; exact HJ.out) hIJ)
      have HRE := Lib.hid hrw
      clear hrw
      go_wp2
      refine bodyPost_ret (v := .tuple #[.int .i64 (J : Int), .bool true]) (by simp [results, Tryz.results92, go_sem]) rfl ⟨by rw [HE.out], by rw [HE.out]; exact HRE.out⟩
    ·have hnij : I < J := scan_ne (fun _ => rfl) HI.out HJ.out hIJ (by omega)
     have d4 : decide ((J : Int) < (I : Int)) = false := by simp; omega
     have hJn : J < n := by omega
     have hIn : I < n := by omega
     have hj0 : IntKind.i64.wrap ((J : Int) - 1) = ((J - 1 : Nat) : Int) := by rw [IntWalk.i64_in _ (by omega)]; omega
     go_upto_region 10 with (fail)
     go_cut [9] (fun s wx => s = .bool false ∧ RowU w0 wx g n cap (Sort.swp (D) I J))
     case first =>
      obtain ⟨G, hG⟩ : ∃ G : Nat → Int, ∀ t, G t = (D)[t]! := ⟨fun t => (D)[t]!, fun _ => rfl⟩
      have HG : Hid (∀ t, G t = (D)[t]!) := hG
      clear hG
      have hcw : ∀ t, t < n → wB3.cell? ⟨g, t, none⟩ = some (.int .u32 (G t)) := fun t ht => by rw [HG.out]; exact (HR3.out).cell ht
      have hfw : ∀ t, t < n → wB3.frozen? ⟨g, t, none⟩ = false := fun t ht => (HR3.out).free t
      have hxi : (I : Int) < n := by omega
      have hyi : (J : Int) < n := by omega
      have HSW := Lib.hid (show ∀ w9, Wb.Ext wB3 w9 → RowU w0 ((w9.setCell ⟨g, I, none⟩ (.int .u32 (G J))).setCell ⟨g, J, none⟩ (.int .u32 (G I))) g n cap (Sort.swp (D) I J) from fun w9 k9 => by rw [HG.out, HG.out]; exact (HR3.out.ext k9).swp I J)
      rcases Nat.lt_trichotomy I J with hxy | hxy | hxy
      ·have hxz : ¬ I = J := by omega
       have hxz2 : ¬ J = I := by omega
       go_wp2_with fail
       go_region
       all_goals go_wp2_with fail
       all_goals go_meet
       all_goals exact ⟨rfl, HSW.out _ (.drewN (.refl _) _)⟩
      ·subst hxy
       go_wp2_with fail
       go_region
       all_goals go_wp2_with fail
       all_goals go_meet
       all_goals exact ⟨rfl, HSW.out _ (.drewN (.refl _) _)⟩
      ·have hxz : ¬ I = J := by omega
       have hxz2 : ¬ J = I := by omega
       go_wp2_with fail
       go_region
       all_goals go_wp2_with fail
       all_goals go_meet
       all_goals exact ⟨rfl, HSW.out _ (.drewN (.refl _) _)⟩
     case rest =>
      obtain ⟨rfl, hrw⟩ := hcut
      obtain ⟨wB4, hwz⟩ : ∃ z, z = wc := ⟨_, rfl⟩
      subst hwz
      have HR0 := Lib.hid hrw
      clear hrw
      go_upto_block 4 with (fail)
      go_cut [11] (fun v wx => ∃ (m : Nat) (df : Array Int), v = .int .i64 (m : Int) ∧ a ≤ m ∧ m ≤ z ∧ (m, df) = partLoop ltInt a (I + 1) (J - 1) (Sort.swp D I J) ∧ RowU w0 wx g n cap df)
      case first =>
       go_wp2_with fail
       go_loopw [10, 11] (fun vi vj wr => ∃ (i j : Nat) (dk : Array Int), vi = .int .i64 i ∧ vj = .int .i64 j ∧ a < i ∧ i ≤ j + 1 ∧ j ≤ z ∧ Hid (partLoop ltInt a i j dk = partLoop ltInt a (I + 1) (J - 1) (Sort.swp D I J)) ∧ Hid (RowU w0 wr g n cap dk)) (fun vi vj _ => (intOf vj + 1 - intOf vi).toNat)
       case atStart => exact ⟨I + 1, J - 1, _, by first | rfl | go_num, by first | rfl | go_num, by omega, by omega, by omega, Lib.hid rfl, HR0⟩
       case round =>
        obtain ⟨i, j, dk, rfl, rfl, hai, hij, hjz, HP, HR4⟩ := hrel
        obtain ⟨wO, hwz⟩ : ∃ z, z = wr := ⟨_, rfl⟩
        subst hwz
        obtain ⟨I2, hI2⟩ : ∃ I2, scanUp (fun x => ltInt x dk[a]!) dk j i = I2 := ⟨_, rfl⟩
        have HI2 := Lib.hid hI2
        obtain ⟨J2, hJ2⟩ : ∃ J2, scanDown (fun x => !ltInt x dk[a]!) dk I2 j = J2 := ⟨_, rfl⟩
        have HJ2 := Lib.hid hJ2
        obtain ⟨hb1, hb2⟩ := up_bd hI2 (by omega)
        obtain ⟨hb3, hb4⟩ := down_bd hJ2 (by omega)
        clear hI2 hJ2
        go_upto_block 6 with (fail)
        go_cut [10] (fun v wx => v = .int .i64 (I2 : Int) ∧ Wb.Ext wO wx)
        case first =>
         obtain ⟨G, hG⟩ : ∃ G : Nat → Int, ∀ t, G t = (dk)[t]! := ⟨fun t => (dk)[t]!, fun _ => rfl⟩
         have HG : Hid (∀ t, G t = (dk)[t]!) := hG
         clear hG
         go_wp2_with fail
         go_loopw [10] (fun vi wr => ∃ i : Nat, vi = .int .i64 i ∧ i ≤ i ∧ i ≤ j + 1 ∧ Hid (scanUp (fun x => ltInt x (dk)[a]!) (dk) j i = I2) ∧ Wb.Ext wO wr) (fun vi _ => j + 1 - (intOf vi).toNat)
         case atStart => exact ⟨i, by first | rfl | go_num, Nat.le_refl _, by omega, HI2, .refl _⟩
         case round =>
          obtain ⟨i, rfl, hq1, hq2, HS, hxr⟩ := hrel
          have hcw : ∀ t, t < n → wr.cell? ⟨g, t, none⟩ = some (.int .u32 (G t)) := fun t ht => by rw [HG.out]; exact (HR4.out.ext hxr).cell ht
          have hfw : ∀ t, t < n → wr.frozen? ⟨g, t, none⟩ = false := fun t ht => (HR4.out.ext hxr).free t
          by_cases hij : i ≤ j
          case neg =>
           have dd : decide ((i : Int) ≤ (j : Int)) = false := by simp; omega
           have HE := Lib.hid (show i = I2 by rw [← HS.out]; exact (scanUp_stop _ _ _ _ (by rintro ⟨q1, q2⟩; exact hij q1)).symm)
           go_wp2_with fail
           go_quiet (first | (go_at_call 90; refine Calls.quiet_of_same (lessU_any _ _ _)))
           go_wp2
           go_meet
           exact ⟨by rw [HE.out], by (repeat' (first | (with_reducible assumption) | (with_reducible exact Wb.Ext.refl _) | (with_reducible refine Wb.Ext.drew ?_) | (with_reducible refine Wb.Ext.drewN ?_ _) | (with_reducible refine Wb.Ext.alloc ?_ _) | (with_reducible refine Wb.Ext.trans ?_ (by assumption))))⟩
          have dd : decide ((i : Int) ≤ (j : Int)) = true := by simp; omega
          have hiI : (i : Int) < n := by omega
          have hiN : i < n := by omega
          have haI : (a : Int) < n := by omega
          have haN : a < n := by omega
          cases hl : ltInt (G i) (G a)
          ·have hp9 : ltInt ((dk)[i]!) ((dk)[a]!) = false := by rw [← HG.out, ← HG.out]; exact hl
           have HE := Lib.hid (show i = I2 by rw [← HS.out]; exact (scanUp_stop _ _ _ _ (by rintro ⟨q1, q2⟩; simp [hp9] at q2)).symm)
           clear hp9
           go_wp2_with fail
           go_quiet (first | (go_at_call 90; refine Calls.quiet_of_same (lessU_any _ _ _)))
           go_wp2
           go_meet
           exact ⟨by rw [HE.out], by (repeat' (first | (with_reducible assumption) | (with_reducible exact Wb.Ext.refl _) | (with_reducible refine Wb.Ext.drew ?_) | (with_reducible refine Wb.Ext.drewN ?_ _) | (with_reducible refine Wb.Ext.alloc ?_ _) | (with_reducible refine Wb.Ext.trans ?_ (by assumption))))⟩
          ·have hp9 : ltInt ((dk)[i]!) ((dk)[a]!) = true := by rw [← HG.out, ← HG.out]; exact hl
           have HS2 := Lib.hid (show scanUp (fun x => ltInt x (dk)[a]!) (dk) j (i + 1) = I2 by rw [← HS.out, scanUp_go hij (by simp [hp9])])
           clear hp9
           go_wp2_with fail
           go_quiet (first | (go_at_call 90; refine Calls.quiet_of_same (lessU_any _ _ _)))
           go_wp2
           go_roundw
           case rel => exact ⟨i + 1, by first | rfl | go_num, by omega, by omega, HS2, by (repeat' (first | (with_reducible assumption) | (with_reducible exact Wb.Ext.refl _) | (with_reducible refine Wb.Ext.drew ?_) | (with_reducible refine Wb.Ext.drewN ?_ _) | (with_reducible refine Wb.Ext.alloc ?_ _) | (with_reducible refine Wb.Ext.trans ?_ (by assumption))))⟩
           case measure => first | (simp [intOf]; done) | (simp [intOf]; omega)
        case rest =>
         obtain ⟨rfl, hxe⟩ := hcut
         obtain ⟨wI1, hwz⟩ : ∃ z, z = wc := ⟨_, rfl⟩
         subst hwz
         have HR5 := Lib.hid (HR4.out.ext hxe)
         clear hxe
         go_upto_block 8 with (fail)
         go_cut [11] (fun v wx => v = .int .i64 (J2 : Int) ∧ Wb.Ext wI1 wx)
         case first =>
          obtain ⟨G, hG⟩ : ∃ G : Nat → Int, ∀ t, G t = (dk)[t]! := ⟨fun t => (dk)[t]!, fun _ => rfl⟩
          have HG : Hid (∀ t, G t = (dk)[t]!) := hG
          clear hG
          go_wp2_with fail
          go_loopw [11] (fun vi wr => ∃ i : Nat, vi = .int .i64 i ∧ i ≤ j ∧ I2 ≤ i + 1 ∧ Hid (scanDown (fun x => !ltInt x (dk)[a]!) (dk) I2 i = J2) ∧ Wb.Ext wI1 wr) (fun vi _ => (intOf vi).toNat)
          case atStart => exact ⟨j, by first | rfl | go_num, Nat.le_refl _, by omega, HJ2, .refl _⟩
          case round =>
           obtain ⟨i, rfl, hq1, hq2, HS, hxr⟩ := hrel
           have hcw : ∀ t, t < n → wr.cell? ⟨g, t, none⟩ = some (.int .u32 (G t)) := fun t ht => by rw [HG.out]; exact (HR5.out.ext hxr).cell ht
           have hfw : ∀ t, t < n → wr.frozen? ⟨g, t, none⟩ = false := fun t ht => (HR5.out.ext hxr).free t
           by_cases hij : I2 ≤ i
           case neg =>
            have dd : decide ((I2 : Int) ≤ (i : Int)) = false := by simp; omega
            have HE := Lib.hid (show i = J2 by rw [← HS.out]; exact (scanDown_stop _ _ _ _ (by rintro ⟨q1, q2⟩; exact hij q1)).symm)
            go_wp2_with fail
            go_quiet (first | (go_at_call 90; refine Calls.quiet_of_same (lessU_any _ _ _)))
            go_wp2
            go_meet
            exact ⟨by rw [HE.out], by (repeat' (first | (with_reducible assumption) | (with_reducible exact Wb.Ext.refl _) | (with_reducible refine Wb.Ext.drew ?_) | (with_reducible refine Wb.Ext.drewN ?_ _) | (with_reducible refine Wb.Ext.alloc ?_ _) | (with_reducible refine Wb.Ext.trans ?_ (by assumption))))⟩
           have dd : decide ((I2 : Int) ≤ (i : Int)) = true := by simp; omega
           have hiI : (i : Int) < n := by omega
           have hiN : i < n := by omega
           have haI : (a : Int) < n := by omega
           have haN : a < n := by omega
           cases hl : ltInt (G i) (G a)
           ·have hp9 : ltInt ((dk)[i]!) ((dk)[a]!) = false := by rw [← HG.out, ← HG.out]; exact hl
            have HS2 := Lib.hid (show scanDown (fun x => !ltInt x (dk)[a]!) (dk) I2 (i - 1) = J2 by rw [← HS.out, scanDown_go (by omega) hij (by simp [hp9])])
            clear hp9
            have hi1 : IntKind.i64.wrap ((i : Int) - 1) = ((i - 1 : Nat) : Int) := by rw [IntWalk.i64_in _ (by omega)]; omega
            go_wp2_with fail
            go_quiet (first | (go_at_call 90; refine Calls.quiet_of_same (lessU_any _ _ _)))
            go_wp2
            go_roundw
            case rel => exact ⟨i - 1, by first | rfl | go_num, by omega, by omega, HS2, by (repeat' (first | (with_reducible assumption) | (with_reducible exact Wb.Ext.refl _) | (with_reducible refine Wb.Ext.drew ?_) | (with_reducible refine Wb.Ext.drewN ?_ _) | (with_reducible refine Wb.Ext.alloc ?_ _) | (with_reducible refine Wb.Ext.trans ?_ (by assumption))))⟩
            case measure => first | (simp [intOf]; done) | (simp [intOf]; omega)
           ·have hp9 : ltInt ((dk)[i]!) ((dk)[a]!) = true := by rw [← HG.out, ← HG.out]; exact hl
            have HE := Lib.hid (show i = J2 by rw [← HS.out]; exact (scanDown_stop _ _ _ _ (by rintro ⟨q1, q2⟩; simp [hp9] at q2)).symm)
            clear hp9
            go_wp2_with fail
            go_quiet (first | (go_at_call 90; refine Calls.quiet_of_same (lessU_any _ _ _)))
            go_wp2
            go_meet
            exact ⟨by rw [HE.out], by (repeat' (first | (with_reducible assumption) | (with_reducible exact Wb.Ext.refl _) | (with_reducible refine Wb.Ext.drew ?_) | (with_reducible refine Wb.Ext.drewN ?_ _) | (with_reducible refine Wb.Ext.alloc ?_ _) | (with_reducible refine Wb.Ext.trans ?_ (by assumption))))⟩
         case rest =>
          obtain ⟨rfl, hxe⟩ := hcut
          obtain ⟨wI2, hwz⟩ : ∃ z, z = wc := ⟨_, rfl⟩
          subst hwz
          have HR6 := Lib.hid (HR5.out.ext hxe)
          by_cases hIJ2 : I2 > J2
          ·have HF := Lib.hid (show partLoop ltInt a i j dk = (J2, dk) from loop_stop HI2.out HJ2.out hIJ2)
           have d5 : decide ((J2 : Int) < (I2 : Int)) = true := by simp; omega
           go_wp2_with fail
           go_meet
           exact ⟨J2, dk, rfl, by omega, by omega, by rw [← HP.out, HF.out], HR5.out.ext (by (repeat' (first | (with_reducible assumption) | (with_reducible exact Wb.Ext.refl _) | (with_reducible refine Wb.Ext.drew ?_) | (with_reducible refine Wb.Ext.drewN ?_ _) | (with_reducible refine Wb.Ext.alloc ?_ _) | (with_reducible refine Wb.Ext.trans ?_ (by assumption)))))⟩
          ·have hnij : I2 < J2 := scan_ne (fun _ => rfl) HI2.out HJ2.out hIJ2 (by omega)
           have HF := Lib.hid (show partLoop ltInt a (I2 + 1) (J2 - 1) (Sort.swp dk I2 J2) = partLoop ltInt a (I + 1) (J - 1) (Sort.swp D I J) by rw [← HP.out, loop_go HI2.out HJ2.out hIJ2])
           have d5 : decide ((J2 : Int) < (I2 : Int)) = false := by simp; omega
           have hJn : J2 < n := by omega
           have hIn : I2 < n := by omega
           have hj1 : IntKind.i64.wrap ((J2 : Int) - 1) = ((J2 - 1 : Nat) : Int) := by rw [IntWalk.i64_in _ (by omega)]; omega
           go_upto_region 18 with (fail)
           go_cut [9] (fun s wx => s = .bool false ∧ RowU w0 wx g n cap (Sort.swp (dk) I2 J2))
           case first =>
            obtain ⟨G, hG⟩ : ∃ G : Nat → Int, ∀ t, G t = (dk)[t]! := ⟨fun t => (dk)[t]!, fun _ => rfl⟩
            have HG : Hid (∀ t, G t = (dk)[t]!) := hG
            clear hG
            have hcw : ∀ t, t < n → wI2.cell? ⟨g, t, none⟩ = some (.int .u32 (G t)) := fun t ht => by rw [HG.out]; exact (HR6.out).cell ht
            have hfw : ∀ t, t < n → wI2.frozen? ⟨g, t, none⟩ = false := fun t ht => (HR6.out).free t
            have hxi : (I2 : Int) < n := by omega
            have hyi : (J2 : Int) < n := by omega
            have HSW := Lib.hid (show ∀ w9, Wb.Ext wI2 w9 → RowU w0 ((w9.setCell ⟨g, I2, none⟩ (.int .u32 (G J2))).setCell ⟨g, J2, none⟩ (.int .u32 (G I2))) g n cap (Sort.swp (dk) I2 J2) from fun w9 k9 => by rw [HG.out, HG.out]; exact (HR6.out.ext k9).swp I2 J2)
            rcases Nat.lt_trichotomy I2 J2 with hxy | hxy | hxy
            ·have hxz : ¬ I2 = J2 := by omega
             have hxz2 : ¬ J2 = I2 := by omega
             go_wp2_with fail
             go_region
             all_goals go_wp2_with fail
             all_goals go_meet
             all_goals exact ⟨rfl, HSW.out _ (.drewN (.refl _) _)⟩
            ·subst hxy
             go_wp2_with fail
             go_region
             all_goals go_wp2_with fail
             all_goals go_meet
             all_goals exact ⟨rfl, HSW.out _ (.drewN (.refl _) _)⟩
            ·have hxz : ¬ I2 = J2 := by omega
             have hxz2 : ¬ J2 = I2 := by omega
             go_wp2_with fail
             go_region
             all_goals go_wp2_with fail
             all_goals go_meet
             all_goals exact ⟨rfl, HSW.out _ (.drewN (.refl _) _)⟩
           case rest =>
            obtain ⟨rfl, hrw⟩ := hcut
            obtain ⟨wE, hwz⟩ : ∃ z, z = wc := ⟨_, rfl⟩
            subst hwz
            have HRE := Lib.hid hrw
            clear hrw
            go_wp2
            go_roundw
            case rel => exact ⟨I2 + 1, J2 - 1, Sort.swp dk I2 J2, by first | rfl | go_num, by first | rfl | go_num, by omega, by omega, by omega, HF, HRE⟩
            case measure => first | (simp [intOf]; done) | (simp [intOf]; omega)
      case rest =>
       obtain ⟨m, df, rfl, ham, hmz, hpl, hrf⟩ := hcut
       obtain ⟨wB5, hwz⟩ : ∃ z, z = wc := ⟨_, rfl⟩
       subst hwz
       have HRF := Lib.hid hrf
       have HPL := Lib.hid hpl
       clear hrf hpl
       have hmn : m < n := by omega
       go_upto_region 21 with (fail)
       go_cut [9] (fun s wx => s = .bool false ∧ RowU w0 wx g n cap (Sort.swp (df) m a))
       case first =>
        obtain ⟨G, hG⟩ : ∃ G : Nat → Int, ∀ t, G t = (df)[t]! := ⟨fun t => (df)[t]!, fun _ => rfl⟩
        have HG : Hid (∀ t, G t = (df)[t]!) := hG
        clear hG
        have hcw : ∀ t, t < n → wB5.cell? ⟨g, t, none⟩ = some (.int .u32 (G t)) := fun t ht => by rw [HG.out]; exact (HRF.out).cell ht
        have hfw : ∀ t, t < n → wB5.frozen? ⟨g, t, none⟩ = false := fun t ht => (HRF.out).free t
        have hxi : (m : Int) < n := by omega
        have hyi : (a : Int) < n := by omega
        have HSW := Lib.hid (show ∀ w9, Wb.Ext wB5 w9 → RowU w0 ((w9.setCell ⟨g, m, none⟩ (.int .u32 (G a))).setCell ⟨g, a, none⟩ (.int .u32 (G m))) g n cap (Sort.swp (df) m a) from fun w9 k9 => by rw [HG.out, HG.out]; exact (HRF.out.ext k9).swp m a)
        rcases Nat.lt_trichotomy m a with hxy | hxy | hxy
        ·have hxz : ¬ m = a := by omega
         have hxz2 : ¬ a = m := by omega
         go_wp2_with fail
         go_region
         all_goals go_wp2_with fail
         all_goals go_meet
         all_goals exact ⟨rfl, HSW.out _ (.drewN (.refl _) _)⟩
        ·subst hxy
         go_wp2_with fail
         go_region
         all_goals go_wp2_with fail
         all_goals go_meet
         all_goals exact ⟨rfl, HSW.out _ (.drewN (.refl _) _)⟩
        ·have hxz : ¬ m = a := by omega
         have hxz2 : ¬ a = m := by omega
         go_wp2_with fail
         go_region
         all_goals go_wp2_with fail
         all_goals go_meet
         all_goals exact ⟨rfl, HSW.out _ (.drewN (.refl _) _)⟩
       case rest =>
        obtain ⟨rfl, hrw⟩ := hcut
        obtain ⟨wE, hwz⟩ : ∃ z, z = wc := ⟨_, rfl⟩
        subst hwz
        have HE := Lib.hid (part_late HD.out (by rw [HZ.out]; exact HI.out) (by rw [HZ.out]; exact HJ.out) hIJ)
        have HRE := Lib.hid hrw
        clear hrw
        go_wp2
        refine bodyPost_ret (v := .tuple #[.int .i64 (m : Int), .bool false]) (by simp [results, Tryz.results92, go_sem]) rfl ⟨by rw [HE.out, ← HPL.out], by rw [HE.out, ← HPL.out]; exact HRE.out⟩
end Go.Proofs.YtnefdpnolojojaaGreatDoor
