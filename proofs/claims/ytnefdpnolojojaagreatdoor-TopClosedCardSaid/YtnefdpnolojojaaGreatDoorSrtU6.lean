/- SrtU6 -/
import Derived.Test.YtnefdpnolojojaaGreatDoorSrtU4
import Derived.Sort.LotC
import Derived.Deep.CutBlock
namespace Go.Proofs.YtnefdpnolojojaaGreatDoor
open Go.RowKit Go.Sort
set_option maxRecDepth 8000
set_option maxHeartbeats 20000000
attribute [local go_sem ↓] Go.wp_at_zero Go.wp_at_succ
theorem srt_go {d : Array Int} {b i : Nat} (h : i < b) (k : ltInt d[i]! d[i - 1]! = false) : scanSorted ltInt d b i = scanSorted ltInt d b (i + 1) := by
 conv => lhs; rw [scanSorted]
 rw [if_pos (by simp [h, k])]
theorem srt_stop {d : Array Int} {b i : Nat} (h : ¬ (i < b ∧ ltInt d[i]! d[i - 1]! = false)) : scanSorted ltInt d b i = i := by
 rw [scanSorted, if_neg (by simpa using h)]
theorem srt_bd {d : Array Int} {b i : Nat} (h : i ≤ b) : i ≤ scanSorted ltInt d b i ∧ scanSorted ltInt d b i ≤ b := by
 fun_induction scanSorted ltInt d b i
 case case1 i hc ih =>
  simp only [Bool.and_eq_true, decide_eq_true_eq] at hc
  have := ih (by omega)
  omega
 case case2 i hc => omega
theorem dn_zero {d : Array Int} : shiftDown ltInt 0 d = d := rfl
theorem dn_stop {d : Array Int} {j m : Nat} (h : m + 1 = j) (k : ltInt d[j]! d[m]! = false) : shiftDown ltInt j d = d := by
 subst h; rw [shiftDown, k]; rfl
theorem dn_go {d : Array Int} {j m : Nat} (h : m + 1 = j) (k : ltInt d[j]! d[m]! = true) : shiftDown ltInt j d = shiftDown ltInt m (Sort.swp d j m) := by
 subst h; rw [shiftDown, k]; rfl
theorem up_end {d : Array Int} {b j : Nat} (h : ¬ j < b) : shiftUp ltInt b j d = d := by rw [shiftUp, if_neg h]
theorem up_stop {d : Array Int} {b j m : Nat} (h : m + 1 = j) (hb : j < b) (k : ltInt d[j]! d[m]! = false) : shiftUp ltInt b j d = d := by
 subst h; rw [shiftUp, if_pos hb, Nat.add_sub_cancel, k]; rfl
theorem up_go {d : Array Int} {b j m : Nat} (h : m + 1 = j) (hb : j < b) (k : ltInt d[j]! d[m]! = true) : shiftUp ltInt b j d = shiftUp ltInt b (j + 1) (Sort.swp d j m) := by
 subst h
 conv => lhs; rw [shiftUp]
 rw [if_pos hb, Nat.add_sub_cancel, k]; rfl
theorem pinU_any (g n cap a b : Nat) (d : Array Int) (w0 w : World) (h : RowU w0 w g n cap d) (hab : a < b) (hb : b ≤ n) (hn : n ≤ 1000000000000) :
  Calls Tryz.prog 89 #[.slice (some ⟨g, 0, none⟩) n cap, .int .i64 a, .int .i64 b] w fun e w' => e = .returned (.bool (partialInsertionSort ltInt d a b).2) ∧ RowU w0 w' g n cap (partialInsertionSort ltInt d a b).1 := by
 have HW0 := Lib.hid h
 clear h
 go_enter Tryz.func89, Tryz.ntmps89
 go_wp2_with fail
 go_loopw [7, 8] (fun vi vs wr => ∃ (i s : Nat) (dk : Array Int), vi = .int .i64 i ∧ vs = .int .i64 s ∧ a < i ∧ i ≤ b ∧ s ≤ 5 ∧ Hid (partialIns ltInt a b (5 - s) i dk = partialInsertionSort ltInt d a b) ∧ Hid (RowU w0 wr g n cap dk)) (fun _ vs _ => 5 - (intOf vs).toNat)
 case atStart => exact ⟨a + 1, 0, d, by first | rfl | go_num, rfl, by omega, by omega, by omega, Lib.hid rfl, HW0⟩
 case round =>
  obtain ⟨i, s, dk, rfl, rfl, hai, hib, hs5, HP, HR⟩ := hrel
  obtain ⟨wO, hwz⟩ : ∃ z, z = wr := ⟨_, rfl⟩
  subst hwz
  by_cases hs : s < 5
  case neg =>
   have ds : decide ((s : Int) < 5) = false := by simp; omega
   have HF := Lib.hid (show partialInsertionSort ltInt d a b = (dk, false) by rw [← HP.out, show 5 - s = 0 by omega]; rfl)
   go_wp2
   refine bodyPost_ret (v := .bool false) (by simp [results, Tryz.results89, go_sem]) rfl ⟨by rw [HF.out], by rw [HF.out]; exact HR.out⟩
  have ds : decide ((s : Int) < 5) = true := by simp; omega
  obtain ⟨t, ht⟩ : ∃ t, 5 - s = t + 1 := ⟨4 - s, by omega⟩
  obtain ⟨I, hI⟩ : ∃ I, scanSorted ltInt dk b i = I := ⟨_, rfl⟩
  have HI := Lib.hid hI
  obtain ⟨hb1, hb2⟩ := srt_bd (d := dk) hib
  rw [hI] at hb1 hb2
  clear hI
  have HPS := Lib.hid (show (if I = b then (dk, true) else if b - a < 50 then (dk, false) else partialIns ltInt a b t I (fixUp ltInt b I (fixDown ltInt a I (Sort.swp dk I (I - 1))))) = partialInsertionSort ltInt d a b by rw [← HP.out, ht, partialIns_succ, HI.out])
  have HT := Lib.hid (show t = 5 - (s + 1) by omega)
  clear ht
  go_upto_block 2 with (fail)
  go_cut [7] (fun v wx => v = .int .i64 (I : Int) ∧ Wb.Ext wO wx)
  case first =>
   obtain ⟨G, hG⟩ : ∃ G : Nat → Int, ∀ t, G t = (dk)[t]! := ⟨fun t => (dk)[t]!, fun _ => rfl⟩
   have HG : Hid (∀ t, G t = (dk)[t]!) := hG
   clear hG
   go_wp2_with fail
   go_loopw [7] (fun vi wr => ∃ j : Nat, vi = .int .i64 j ∧ a < j ∧ j ≤ b ∧ Hid (scanSorted ltInt dk b j = I) ∧ Wb.Ext wO wr) (fun vi _ => b - (intOf vi).toNat)
   case atStart => exact ⟨i, rfl, hai, hib, HI, .refl _⟩
   case round =>
    obtain ⟨j, rfl, hq1, hq2, HS, hxr⟩ := hrel
    have hcw : ∀ t, t < n → wr.cell? ⟨g, t, none⟩ = some (.int .u32 (G t)) := fun t ht => by rw [HG.out]; exact (HR.out.ext hxr).cell ht
    have hfw : ∀ t, t < n → wr.frozen? ⟨g, t, none⟩ = false := fun t ht => (HR.out.ext hxr).free t
    by_cases hij : j < b
    case neg =>
     have dd : decide ((j : Int) < (b : Int)) = false := by simp; omega
     have HE := Lib.hid (show j = I by rw [← HS.out]; exact (srt_stop (by rintro ⟨q1, q2⟩; exact hij q1)).symm)
     go_wp2_with fail
     go_quiet (first | (go_at_call 90; refine Calls.quiet_of_same (lessU_any _ _ _)))
     go_wp2
     go_meet
     exact ⟨by rw [HE.out], by (repeat' (first | (with_reducible assumption) | (with_reducible exact Wb.Ext.refl _) | (with_reducible refine Wb.Ext.drew ?_) | (with_reducible refine Wb.Ext.drewN ?_ _) | (with_reducible refine Wb.Ext.alloc ?_ _) | (with_reducible refine Wb.Ext.trans ?_ (by assumption))))⟩
    have dd : decide ((j : Int) < (b : Int)) = true := by simp; omega
    obtain ⟨m, hm⟩ : ∃ m, j - 1 = m := ⟨_, rfl⟩
    have hj1 : IntKind.i64.wrap ((j : Int) - 1) = (m : Int) := by rw [IntWalk.i64_in _ (by omega)]; omega
    have hjI : (j : Int) < n := by omega
    have hjN : j < n := by omega
    have hmI : (m : Int) < n := by omega
    have hmN : m < n := by omega
    have HM := Lib.hid hm
    clear hm
    cases hl : ltInt (G j) (G m)
    ·have HS2 := Lib.hid (show scanSorted ltInt dk b (j + 1) = I by rw [← HS.out]; exact (srt_go hij (by rw [HM.out, ← HG.out, ← HG.out]; exact hl)).symm)
     go_wp2_with fail
     go_quiet (first | (go_at_call 90; refine Calls.quiet_of_same (lessU_any _ _ _)))
     go_wp2
     go_roundw
     case rel => exact ⟨j + 1, by first | rfl | go_num, by omega, by omega, HS2, by (repeat' (first | (with_reducible assumption) | (with_reducible exact Wb.Ext.refl _) | (with_reducible refine Wb.Ext.drew ?_) | (with_reducible refine Wb.Ext.drewN ?_ _) | (with_reducible refine Wb.Ext.alloc ?_ _) | (with_reducible refine Wb.Ext.trans ?_ (by assumption))))⟩
     case measure => first | (simp [intOf]; done) | (simp [intOf]; omega)
    ·have HE := Lib.hid (show j = I by rw [← HS.out]; exact (srt_stop (by rintro ⟨_, q2⟩; rw [HM.out, ← HG.out, ← HG.out, hl] at q2; cases q2)).symm)
     go_wp2_with fail
     go_quiet (first | (go_at_call 90; refine Calls.quiet_of_same (lessU_any _ _ _)))
     go_wp2
     go_meet
     exact ⟨by rw [HE.out], by (repeat' (first | (with_reducible assumption) | (with_reducible exact Wb.Ext.refl _) | (with_reducible refine Wb.Ext.drew ?_) | (with_reducible refine Wb.Ext.drewN ?_ _) | (with_reducible refine Wb.Ext.alloc ?_ _) | (with_reducible refine Wb.Ext.trans ?_ (by assumption))))⟩
  case rest =>
   obtain ⟨rfl, hxe⟩ := hcut
   obtain ⟨wI, hwz⟩ : ∃ z, z = wc := ⟨_, rfl⟩
   subst hwz
   have HR2 := Lib.hid (HR.out.ext hxe)
   clear hxe
   by_cases hIb : I = b
   ·have dI : ((I : Int) == (b : Int)) = true := by simp [hIb]
    have HF := Lib.hid (show partialInsertionSort ltInt d a b = (dk, true) by rw [← HPS.out, if_pos hIb])
    clear hIb
    go_wp2
    refine bodyPost_ret (v := .bool true) (by simp [results, Tryz.results89, go_sem]) rfl ⟨by rw [HF.out], by rw [HF.out]; exact HR2.out⟩
   have dI : ((I : Int) == (b : Int)) = false := by simp; omega
   obtain ⟨len, hlen⟩ : ∃ len, b - a = len := ⟨_, rfl⟩
   have hlw : IntKind.i64.wrap ((b : Int) - a) = (len : Int) := by rw [IntWalk.i64_in _ (by omega)]; omega
   by_cases h50 : len < 50
   ·have d5 : decide ((len : Int) < 50) = true := by simp; omega
    have HF := Lib.hid (show partialInsertionSort ltInt d a b = (dk, false) by rw [← HPS.out, if_neg hIb, if_pos (by omega)])
    go_wp2
    refine bodyPost_ret (v := .bool false) (by simp [results, Tryz.results89, go_sem]) rfl ⟨by rw [HF.out], by rw [HF.out]; exact HR2.out⟩
   have d5 : decide ((len : Int) < 50) = false := by simp; omega
   obtain ⟨I1, hI1⟩ : ∃ I1, I - 1 = I1 := ⟨_, rfl⟩
   have hI1e : I1 + 1 = I := by omega
   have hIw : IntKind.i64.wrap ((I : Int) - 1) = (I1 : Int) := by rw [IntWalk.i64_in _ (by omega)]; omega
   obtain ⟨D2, hD2⟩ : ∃ D2, Sort.swp dk I I1 = D2 := ⟨_, rfl⟩
   have HD2 := Lib.hid hD2
   obtain ⟨D3, hD3⟩ : ∃ D3, fixDown ltInt a I D2 = D3 := ⟨_, rfl⟩
   have HD3 := Lib.hid hD3
   have HPT := Lib.hid (show partialIns ltInt a b (5 - (s + 1)) I (fixUp ltInt b I D3) = partialInsertionSort ltInt d a b by rw [← HPS.out, if_neg hIb, if_neg (by omega), HT.out, hI1, hD2, hD3])
   have hIlen : I - a ≤ len := by omega
   clear hlen hI1 hD2 hD3 HPS
   have hIn : I < n := by omega
   have hI1n : I1 < n := by omega
   obtain ⟨f1, hf1⟩ : ∃ f1, I - a = f1 := ⟨_, rfl⟩
   have hfw1 : IntKind.i64.wrap ((I : Int) - a) = (f1 : Int) := by rw [IntWalk.i64_in _ (by omega)]; omega
   obtain ⟨f2, hf2⟩ : ∃ f2, b - I = f2 := ⟨_, rfl⟩
   have hfw2 : IntKind.i64.wrap ((b : Int) - I) = (f2 : Int) := by rw [IntWalk.i64_in _ (by omega)]; omega
   have HF1 := Lib.hid hf1
   have HF2 := Lib.hid hf2
   clear hf1 hf2
   go_upto_region 11 with (fail)
   go_cut [0] (fun s wx => s = (.slice (some ⟨g, 0, none⟩) n cap) ∧ RowU w0 wx g n cap (Sort.swp (dk) I I1))
   case first =>
    obtain ⟨G, hG⟩ : ∃ G : Nat → Int, ∀ t, G t = (dk)[t]! := ⟨fun t => (dk)[t]!, fun _ => rfl⟩
    have HG : Hid (∀ t, G t = (dk)[t]!) := hG
    clear hG
    have hcw : ∀ t, t < n → wI.cell? ⟨g, t, none⟩ = some (.int .u32 (G t)) := fun t ht => by rw [HG.out]; exact (HR2.out).cell ht
    have hfw : ∀ t, t < n → wI.frozen? ⟨g, t, none⟩ = false := fun t ht => (HR2.out).free t
    have hxi : (I : Int) < n := by omega
    have hyi : (I1 : Int) < n := by omega
    have hxz : ¬ I = I1 := by omega
    have hxz2 : ¬ I1 = I := by omega
    have HSW := Lib.hid (show ∀ w9, Wb.Ext wI w9 → RowU w0 ((w9.setCell ⟨g, I, none⟩ (.int .u32 (G I1))).setCell ⟨g, I1, none⟩ (.int .u32 (G I))) g n cap (Sort.swp (dk) I I1) from fun w9 k9 => by rw [HG.out, HG.out]; exact (HR2.out.ext k9).swp I I1)
    go_wp2_with fail
    go_region
    all_goals go_wp2_with fail
    all_goals go_meet
    all_goals exact ⟨rfl, HSW.out _ (.drewN (.refl _) _)⟩
   case rest =>
    obtain ⟨rfl, hrw⟩ := hcut
    obtain ⟨wX, hwz⟩ : ∃ z, z = wc := ⟨_, rfl⟩
    subst hwz
    rw [HD2.out] at hrw
    have HRX := Lib.hid hrw
    clear hrw
    by_cases h2 : 2 ≤ f1
    case neg =>
     have d6 : decide ((2 : Int) ≤ (f1 : Int)) = false := by simp; omega
     have HRD := Lib.hid (show RowU w0 wX g n cap D3 by rw [← HD3.out, fixDown, if_neg (by rw [HF1.out]; exact h2)]; exact HRX.out)
     by_cases h3 : 2 ≤ f2
     case neg =>
      have d7 : decide ((2 : Int) ≤ (f2 : Int)) = false := by simp; omega
      have HRF := Lib.hid (show RowU w0 wX g n cap (fixUp ltInt b I D3) by rw [fixUp, if_neg (by rw [HF2.out]; exact h3)]; exact HRD.out)
      go_wp2
      go_roundw
      case rel => exact ⟨I, s + 1, _, by first | rfl | go_num, by first | rfl | go_num, by omega, by omega, by omega, HPT, HRF⟩
      case measure => first | (simp [intOf]; done) | (simp [intOf]; omega)
     have d7 : decide ((2 : Int) ≤ (f2 : Int)) = true := by simp; omega
     obtain ⟨U, hU⟩ : ∃ U, shiftUp ltInt b (I + 1) D3 = U := ⟨_, rfl⟩
     have HU := Lib.hid hU
     clear hU
     have HFU := Lib.hid (show fixUp ltInt b I D3 = U by rw [fixUp, if_pos (by rw [HF2.out]; exact h3), HU.out])
     have hI2b : I + 1 ≤ b := by have := HF2.out; omega
     go_wp2_with fail
     go_loopw [10] (fun vj wr => ∃ (j : Nat) (dj : Array Int), vj = .int .i64 j ∧ I < j ∧ j ≤ b ∧ Hid (shiftUp ltInt b j dj = U) ∧ Hid (RowU w0 wr g n cap dj)) (fun vj _ => b - (intOf vj).toNat)
     case atStart => exact ⟨I + 1, D3, by first | rfl | go_num, by omega, hI2b, HU, HRD⟩
     case round =>
      obtain ⟨j, dj, rfl, hj0, hjb, HS, HRJ⟩ := hrel
      obtain ⟨wJ, hwz⟩ : ∃ z, z = wr := ⟨_, rfl⟩
      subst hwz
      by_cases hjl : j < b
      case neg =>
       have d8 : decide ((j : Int) < (b : Int)) = false := by simp; omega
       have HE := Lib.hid (show dj = U by rw [← HS.out, up_end hjl])
       have HRF := Lib.hid (show RowU w0 wJ g n cap (fixUp ltInt b I D3) by rw [HFU.out, ← HE.out]; exact HRJ.out)
       go_wp2
       go_roundw
       case rel => exact ⟨I, s + 1, _, by first | rfl | go_num, by first | rfl | go_num, by omega, by omega, by omega, HPT, HRF⟩
       case measure => first | (simp [intOf]; done) | (simp [intOf]; omega)
      have d8 : decide ((j : Int) < (b : Int)) = true := by simp; omega
      obtain ⟨m, hm⟩ : ∃ m, j - 1 = m := ⟨_, rfl⟩
      have hm1 : m + 1 = j := by omega
      have hj1 : IntKind.i64.wrap ((j : Int) - 1) = (m : Int) := by rw [IntWalk.i64_in _ (by omega)]; omega
      have hjI : (j : Int) < n := by omega
      have hjN : j < n := by omega
      have hmI : (m : Int) < n := by omega
      have hmN : m < n := by omega
      have HM1 := Lib.hid hm1
      clear hm
      obtain ⟨G, hG⟩ : ∃ G : Nat → Int, ∀ t, G t = (dj)[t]! := ⟨fun t => (dj)[t]!, fun _ => rfl⟩
      have HG : Hid (∀ t, G t = (dj)[t]!) := hG
      clear hG
      have hcw : ∀ t, t < n → wJ.cell? ⟨g, t, none⟩ = some (.int .u32 (G t)) := fun t ht => by rw [HG.out]; exact (HRJ.out).cell ht
      have hfw : ∀ t, t < n → wJ.frozen? ⟨g, t, none⟩ = false := fun t ht => (HRJ.out).free t
      cases hl : ltInt (G j) (G m)
      ·have HE := Lib.hid (show dj = U by rw [← HS.out, up_stop HM1.out hjl (by rw [← HG.out, ← HG.out]; exact hl)])
       have HRF := Lib.hid (show ∀ w9, Wb.Ext wJ w9 → RowU w0 w9 g n cap (fixUp ltInt b I D3) by intro w9 k9; rw [HFU.out, ← HE.out]; exact HRJ.out.ext k9)
       go_wp2_with fail
       go_quiet (first | (go_at_call 90; refine Calls.quiet_of_same (lessU_any _ _ _)))
       go_wp2
       go_roundw
       case rel => exact ⟨I, s + 1, _, by first | rfl | go_num, by first | rfl | go_num, by omega, by omega, by omega, HPT, Lib.hid (HRF.out _ (by (repeat' (first | (with_reducible assumption) | (with_reducible exact Wb.Ext.refl _) | (with_reducible refine Wb.Ext.drew ?_) | (with_reducible refine Wb.Ext.drewN ?_ _) | (with_reducible refine Wb.Ext.alloc ?_ _) | (with_reducible refine Wb.Ext.trans ?_ (by assumption))))))⟩
       case measure => first | (simp [intOf]; done) | (simp [intOf]; omega)
      ·have HS2 := Lib.hid (show shiftUp ltInt b (j + 1) (Sort.swp dj j m) = U by rw [← HS.out, up_go HM1.out hjl (by rw [← HG.out, ← HG.out]; exact hl)])
       go_wp2_with fail
       go_quiet (first | (go_at_call 90; refine Calls.quiet_of_same (lessU_any _ _ _)))
       clear hcw hfw
       go_upto_region 23 with (fail)
       refine Wb.wp_at fun w5 hw5 => ?_
       have hx5 : Wb.Ext wJ w5 := by rw [hw5]; first | exact Wb.Ext.refl _ | (repeat' (first | (with_reducible assumption) | (with_reducible exact Wb.Ext.refl _) | (with_reducible refine Wb.Ext.drew ?_) | (with_reducible refine Wb.Ext.drewN ?_ _) | (with_reducible refine Wb.Ext.alloc ?_ _) | (with_reducible refine Wb.Ext.trans ?_ (by assumption))))
       have HR5 := Lib.hid (HRJ.out.ext hx5)
       clear hw5 hx5
       have hcw : ∀ t, t < n → w5.cell? ⟨g, t, none⟩ = some (.int .u32 (G t)) := fun t ht => by rw [HG.out]; exact (HR5.out).cell ht
       have hfw : ∀ t, t < n → w5.frozen? ⟨g, t, none⟩ = false := fun t ht => (HR5.out).free t
       have hxz : ¬ j = m := by omega
       have hxz2 : ¬ m = j := by omega
       have HSW := Lib.hid (show ∀ w9, Wb.Ext w5 w9 → RowU w0 ((w9.setCell ⟨g, j, none⟩ (.int .u32 (G m))).setCell ⟨g, m, none⟩ (.int .u32 (G j))) g n cap (Sort.swp dj j m) from fun w9 k9 => by rw [HG.out, HG.out]; exact (HR5.out.ext k9).swp j m)
       go_wp2_with fail
       go_region
       all_goals go_wp2
       go_roundw
       case rel => exact ⟨j + 1, Sort.swp dj j m, by first | rfl | go_num, by omega, by omega, HS2, Lib.hid (HSW.out _ (.drewN (.refl _) _))⟩
       case measure => first | (simp [intOf]; done) | (simp [intOf]; omega)
    have d6 : decide ((2 : Int) ≤ (f1 : Int)) = true := by simp; omega
    obtain ⟨U, hU⟩ : ∃ U, shiftDown ltInt I1 D2 = U := ⟨_, rfl⟩
    have HU := Lib.hid hU
    clear hU
    have HFD := Lib.hid (show D3 = U by rw [← HD3.out, fixDown, if_pos (by rw [HF1.out]; exact h2), show I - 1 = I1 by omega, HU.out])
    go_wp2_with fail
    go_loopw [9] (fun vj wr => ∃ (j : Nat) (dj : Array Int), vj = .int .i64 j ∧ 0 ≤ j ∧ j ≤ I1 ∧ Hid (shiftDown ltInt j dj = U) ∧ Hid (RowU w0 wr g n cap dj)) (fun vj _ => (intOf vj).toNat)
    case atStart => exact ⟨I1, D2, by first | rfl | go_num, by omega, by omega, HU, HRX⟩
    case round =>
     obtain ⟨j, dj, rfl, hj0, hjb, HS, HRJ⟩ := hrel
     obtain ⟨wJ, hwz⟩ : ∃ z, z = wr := ⟨_, rfl⟩
     subst hwz
     by_cases hjl : 1 ≤ j
     case neg =>
      have d8 : decide ((1 : Int) ≤ (j : Int)) = false := by simp; omega
      have HE := Lib.hid (show dj = U by rw [← HS.out, show j = 0 by omega, dn_zero])
      have HRD := Lib.hid (show RowU w0 wJ g n cap D3 by rw [HFD.out, ← HE.out]; exact HRJ.out)
      clear HU HFD HS
      by_cases h3 : 2 ≤ f2
      case neg =>
       have d7 : decide ((2 : Int) ≤ (f2 : Int)) = false := by simp; omega
       have HRF := Lib.hid (show RowU w0 wJ g n cap (fixUp ltInt b I D3) by rw [fixUp, if_neg (by rw [HF2.out]; exact h3)]; exact HRD.out)
       go_wp2
       go_roundw
       case rel => exact ⟨I, s + 1, _, by first | rfl | go_num, by first | rfl | go_num, by omega, by omega, by omega, HPT, HRF⟩
       case measure => first | (simp [intOf]; done) | (simp [intOf]; omega)
      have d7 : decide ((2 : Int) ≤ (f2 : Int)) = true := by simp; omega
      obtain ⟨U, hU⟩ : ∃ U, shiftUp ltInt b (I + 1) D3 = U := ⟨_, rfl⟩
      have HU := Lib.hid hU
      clear hU
      have HFU := Lib.hid (show fixUp ltInt b I D3 = U by rw [fixUp, if_pos (by rw [HF2.out]; exact h3), HU.out])
      have hI2b : I + 1 ≤ b := by have := HF2.out; omega
      go_wp2_with fail
      go_loopw [10] (fun vj wr => ∃ (j : Nat) (dj : Array Int), vj = .int .i64 j ∧ I < j ∧ j ≤ b ∧ Hid (shiftUp ltInt b j dj = U) ∧ Hid (RowU w0 wr g n cap dj)) (fun vj _ => b - (intOf vj).toNat)
      case atStart => exact ⟨I + 1, D3, by first | rfl | go_num, by omega, hI2b, HU, HRD⟩
      case round =>
       obtain ⟨j, dj, rfl, hj0, hjb, HS, HRJ⟩ := hrel
       obtain ⟨wJ, hwz⟩ : ∃ z, z = wr := ⟨_, rfl⟩
       subst hwz
       by_cases hjl : j < b
       case neg =>
        have d8 : decide ((j : Int) < (b : Int)) = false := by simp; omega
        have HE := Lib.hid (show dj = U by rw [← HS.out, up_end hjl])
        have HRF := Lib.hid (show RowU w0 wJ g n cap (fixUp ltInt b I D3) by rw [HFU.out, ← HE.out]; exact HRJ.out)
        go_wp2
        go_roundw
        case rel => exact ⟨I, s + 1, _, by first | rfl | go_num, by first | rfl | go_num, by omega, by omega, by omega, HPT, HRF⟩
        case measure => first | (simp [intOf]; done) | (simp [intOf]; omega)
       have d8 : decide ((j : Int) < (b : Int)) = true := by simp; omega
       obtain ⟨m, hm⟩ : ∃ m, j - 1 = m := ⟨_, rfl⟩
       have hm1 : m + 1 = j := by omega
       have hj1 : IntKind.i64.wrap ((j : Int) - 1) = (m : Int) := by rw [IntWalk.i64_in _ (by omega)]; omega
       have hjI : (j : Int) < n := by omega
       have hjN : j < n := by omega
       have hmI : (m : Int) < n := by omega
       have hmN : m < n := by omega
       have HM1 := Lib.hid hm1
       clear hm
       obtain ⟨G, hG⟩ : ∃ G : Nat → Int, ∀ t, G t = (dj)[t]! := ⟨fun t => (dj)[t]!, fun _ => rfl⟩
       have HG : Hid (∀ t, G t = (dj)[t]!) := hG
       clear hG
       have hcw : ∀ t, t < n → wJ.cell? ⟨g, t, none⟩ = some (.int .u32 (G t)) := fun t ht => by rw [HG.out]; exact (HRJ.out).cell ht
       have hfw : ∀ t, t < n → wJ.frozen? ⟨g, t, none⟩ = false := fun t ht => (HRJ.out).free t
       cases hl : ltInt (G j) (G m)
       ·have HE := Lib.hid (show dj = U by rw [← HS.out, up_stop HM1.out hjl (by rw [← HG.out, ← HG.out]; exact hl)])
        have HRF := Lib.hid (show ∀ w9, Wb.Ext wJ w9 → RowU w0 w9 g n cap (fixUp ltInt b I D3) by intro w9 k9; rw [HFU.out, ← HE.out]; exact HRJ.out.ext k9)
        go_wp2_with fail
        go_quiet (first | (go_at_call 90; refine Calls.quiet_of_same (lessU_any _ _ _)))
        go_wp2
        go_roundw
        case rel => exact ⟨I, s + 1, _, by first | rfl | go_num, by first | rfl | go_num, by omega, by omega, by omega, HPT, Lib.hid (HRF.out _ (by (repeat' (first | (with_reducible assumption) | (with_reducible exact Wb.Ext.refl _) | (with_reducible refine Wb.Ext.drew ?_) | (with_reducible refine Wb.Ext.drewN ?_ _) | (with_reducible refine Wb.Ext.alloc ?_ _) | (with_reducible refine Wb.Ext.trans ?_ (by assumption))))))⟩
        case measure => first | (simp [intOf]; done) | (simp [intOf]; omega)
       ·have HS2 := Lib.hid (show shiftUp ltInt b (j + 1) (Sort.swp dj j m) = U by rw [← HS.out, up_go HM1.out hjl (by rw [← HG.out, ← HG.out]; exact hl)])
        go_wp2_with fail
        go_quiet (first | (go_at_call 90; refine Calls.quiet_of_same (lessU_any _ _ _)))
        clear hcw hfw
        go_upto_region 23 with (fail)
        refine Wb.wp_at fun w5 hw5 => ?_
        have hx5 : Wb.Ext wJ w5 := by rw [hw5]; first | exact Wb.Ext.refl _ | (repeat' (first | (with_reducible assumption) | (with_reducible exact Wb.Ext.refl _) | (with_reducible refine Wb.Ext.drew ?_) | (with_reducible refine Wb.Ext.drewN ?_ _) | (with_reducible refine Wb.Ext.alloc ?_ _) | (with_reducible refine Wb.Ext.trans ?_ (by assumption))))
        have HR5 := Lib.hid (HRJ.out.ext hx5)
        clear hw5 hx5
        have hcw : ∀ t, t < n → w5.cell? ⟨g, t, none⟩ = some (.int .u32 (G t)) := fun t ht => by rw [HG.out]; exact (HR5.out).cell ht
        have hfw : ∀ t, t < n → w5.frozen? ⟨g, t, none⟩ = false := fun t ht => (HR5.out).free t
        have hxz : ¬ j = m := by omega
        have hxz2 : ¬ m = j := by omega
        have HSW := Lib.hid (show ∀ w9, Wb.Ext w5 w9 → RowU w0 ((w9.setCell ⟨g, j, none⟩ (.int .u32 (G m))).setCell ⟨g, m, none⟩ (.int .u32 (G j))) g n cap (Sort.swp dj j m) from fun w9 k9 => by rw [HG.out, HG.out]; exact (HR5.out.ext k9).swp j m)
        go_wp2_with fail
        go_region
        all_goals go_wp2
        go_roundw
        case rel => exact ⟨j + 1, Sort.swp dj j m, by first | rfl | go_num, by omega, by omega, HS2, Lib.hid (HSW.out _ (.drewN (.refl _) _))⟩
        case measure => first | (simp [intOf]; done) | (simp [intOf]; omega)
     have d8 : decide ((1 : Int) ≤ (j : Int)) = true := by simp; omega
     obtain ⟨m, hm⟩ : ∃ m, j - 1 = m := ⟨_, rfl⟩
     have hm1 : m + 1 = j := by omega
     have hj1 : IntKind.i64.wrap ((j : Int) - 1) = (m : Int) := by rw [IntWalk.i64_in _ (by omega)]; omega
     have hjI : (j : Int) < n := by omega
     have hjN : j < n := by omega
     have hmI : (m : Int) < n := by omega
     have hmN : m < n := by omega
     have HM1 := Lib.hid hm1
     clear hm
     obtain ⟨G, hG⟩ : ∃ G : Nat → Int, ∀ t, G t = (dj)[t]! := ⟨fun t => (dj)[t]!, fun _ => rfl⟩
     have HG : Hid (∀ t, G t = (dj)[t]!) := hG
     clear hG
     have hcw : ∀ t, t < n → wJ.cell? ⟨g, t, none⟩ = some (.int .u32 (G t)) := fun t ht => by rw [HG.out]; exact (HRJ.out).cell ht
     have hfw : ∀ t, t < n → wJ.frozen? ⟨g, t, none⟩ = false := fun t ht => (HRJ.out).free t
     cases hl : ltInt (G j) (G m)
     ·have HE := Lib.hid (show dj = U by rw [← HS.out, dn_stop HM1.out (by rw [← HG.out, ← HG.out]; exact hl)])
      go_wp2_with fail
      go_quiet (first | (go_at_call 90; refine Calls.quiet_of_same (lessU_any _ _ _)))
      clear hcw hfw
      go_upto_region 18 with (fail)
      refine Wb.wp_at fun w5 hw5 => ?_
      have hx5 : Wb.Ext wJ w5 := by rw [hw5]; first | exact Wb.Ext.refl _ | (repeat' (first | (with_reducible assumption) | (with_reducible exact Wb.Ext.refl _) | (with_reducible refine Wb.Ext.drew ?_) | (with_reducible refine Wb.Ext.drewN ?_ _) | (with_reducible refine Wb.Ext.alloc ?_ _) | (with_reducible refine Wb.Ext.trans ?_ (by assumption))))
      have HRD := Lib.hid (show RowU w0 w5 g n cap D3 by rw [HFD.out, ← HE.out]; exact HRJ.out.ext hx5)
      clear hw5 hx5 HE HFD HU HS
      by_cases h3 : 2 ≤ f2
      case neg =>
       have d7 : decide ((2 : Int) ≤ (f2 : Int)) = false := by simp; omega
       have HRF := Lib.hid (show RowU w0 w5 g n cap (fixUp ltInt b I D3) by rw [fixUp, if_neg (by rw [HF2.out]; exact h3)]; exact HRD.out)
       go_wp2
       go_roundw
       case rel => exact ⟨I, s + 1, _, by first | rfl | go_num, by first | rfl | go_num, by omega, by omega, by omega, HPT, HRF⟩
       case measure => first | (simp [intOf]; done) | (simp [intOf]; omega)
      have d7 : decide ((2 : Int) ≤ (f2 : Int)) = true := by simp; omega
      obtain ⟨U, hU⟩ : ∃ U, shiftUp ltInt b (I + 1) D3 = U := ⟨_, rfl⟩
      have HU := Lib.hid hU
      clear hU
      have HFU := Lib.hid (show fixUp ltInt b I D3 = U by rw [fixUp, if_pos (by rw [HF2.out]; exact h3), HU.out])
      have hI2b : I + 1 ≤ b := by have := HF2.out; omega
      go_wp2_with fail
      go_loopw [10] (fun vj wr => ∃ (j : Nat) (dj : Array Int), vj = .int .i64 j ∧ I < j ∧ j ≤ b ∧ Hid (shiftUp ltInt b j dj = U) ∧ Hid (RowU w0 wr g n cap dj)) (fun vj _ => b - (intOf vj).toNat)
      case atStart => exact ⟨I + 1, D3, by first | rfl | go_num, by omega, hI2b, HU, HRD⟩
      case round =>
       obtain ⟨j, dj, rfl, hj0, hjb, HS, HRJ⟩ := hrel
       obtain ⟨wJ, hwz⟩ : ∃ z, z = wr := ⟨_, rfl⟩
       subst hwz
       by_cases hjl : j < b
       case neg =>
        have d8 : decide ((j : Int) < (b : Int)) = false := by simp; omega
        have HE := Lib.hid (show dj = U by rw [← HS.out, up_end hjl])
        have HRF := Lib.hid (show RowU w0 wJ g n cap (fixUp ltInt b I D3) by rw [HFU.out, ← HE.out]; exact HRJ.out)
        go_wp2
        go_roundw
        case rel => exact ⟨I, s + 1, _, by first | rfl | go_num, by first | rfl | go_num, by omega, by omega, by omega, HPT, HRF⟩
        case measure => first | (simp [intOf]; done) | (simp [intOf]; omega)
       have d8 : decide ((j : Int) < (b : Int)) = true := by simp; omega
       obtain ⟨m, hm⟩ : ∃ m, j - 1 = m := ⟨_, rfl⟩
       have hm1 : m + 1 = j := by omega
       have hj1 : IntKind.i64.wrap ((j : Int) - 1) = (m : Int) := by rw [IntWalk.i64_in _ (by omega)]; omega
       have hjI : (j : Int) < n := by omega
       have hjN : j < n := by omega
       have hmI : (m : Int) < n := by omega
       have hmN : m < n := by omega
       have HM1 := Lib.hid hm1
       clear hm
       obtain ⟨G, hG⟩ : ∃ G : Nat → Int, ∀ t, G t = (dj)[t]! := ⟨fun t => (dj)[t]!, fun _ => rfl⟩
       have HG : Hid (∀ t, G t = (dj)[t]!) := hG
       clear hG
       have hcw : ∀ t, t < n → wJ.cell? ⟨g, t, none⟩ = some (.int .u32 (G t)) := fun t ht => by rw [HG.out]; exact (HRJ.out).cell ht
       have hfw : ∀ t, t < n → wJ.frozen? ⟨g, t, none⟩ = false := fun t ht => (HRJ.out).free t
       cases hl : ltInt (G j) (G m)
       ·have HE := Lib.hid (show dj = U by rw [← HS.out, up_stop HM1.out hjl (by rw [← HG.out, ← HG.out]; exact hl)])
        have HRF := Lib.hid (show ∀ w9, Wb.Ext wJ w9 → RowU w0 w9 g n cap (fixUp ltInt b I D3) by intro w9 k9; rw [HFU.out, ← HE.out]; exact HRJ.out.ext k9)
        go_wp2_with fail
        go_quiet (first | (go_at_call 90; refine Calls.quiet_of_same (lessU_any _ _ _)))
        go_wp2
        go_roundw
        case rel => exact ⟨I, s + 1, _, by first | rfl | go_num, by first | rfl | go_num, by omega, by omega, by omega, HPT, Lib.hid (HRF.out _ (by (repeat' (first | (with_reducible assumption) | (with_reducible exact Wb.Ext.refl _) | (with_reducible refine Wb.Ext.drew ?_) | (with_reducible refine Wb.Ext.drewN ?_ _) | (with_reducible refine Wb.Ext.alloc ?_ _) | (with_reducible refine Wb.Ext.trans ?_ (by assumption))))))⟩
        case measure => first | (simp [intOf]; done) | (simp [intOf]; omega)
       ·have HS2 := Lib.hid (show shiftUp ltInt b (j + 1) (Sort.swp dj j m) = U by rw [← HS.out, up_go HM1.out hjl (by rw [← HG.out, ← HG.out]; exact hl)])
        go_wp2_with fail
        go_quiet (first | (go_at_call 90; refine Calls.quiet_of_same (lessU_any _ _ _)))
        clear hcw hfw
        go_upto_region 23 with (fail)
        refine Wb.wp_at fun w5 hw5 => ?_
        have hx5 : Wb.Ext wJ w5 := by rw [hw5]; first | exact Wb.Ext.refl _ | (repeat' (first | (with_reducible assumption) | (with_reducible exact Wb.Ext.refl _) | (with_reducible refine Wb.Ext.drew ?_) | (with_reducible refine Wb.Ext.drewN ?_ _) | (with_reducible refine Wb.Ext.alloc ?_ _) | (with_reducible refine Wb.Ext.trans ?_ (by assumption))))
        have HR5 := Lib.hid (HRJ.out.ext hx5)
        clear hw5 hx5
        have hcw : ∀ t, t < n → w5.cell? ⟨g, t, none⟩ = some (.int .u32 (G t)) := fun t ht => by rw [HG.out]; exact (HR5.out).cell ht
        have hfw : ∀ t, t < n → w5.frozen? ⟨g, t, none⟩ = false := fun t ht => (HR5.out).free t
        have hxz : ¬ j = m := by omega
        have hxz2 : ¬ m = j := by omega
        have HSW := Lib.hid (show ∀ w9, Wb.Ext w5 w9 → RowU w0 ((w9.setCell ⟨g, j, none⟩ (.int .u32 (G m))).setCell ⟨g, m, none⟩ (.int .u32 (G j))) g n cap (Sort.swp dj j m) from fun w9 k9 => by rw [HG.out, HG.out]; exact (HR5.out.ext k9).swp j m)
        go_wp2_with fail
        go_region
        all_goals go_wp2
        go_roundw
        case rel => exact ⟨j + 1, Sort.swp dj j m, by first | rfl | go_num, by omega, by omega, HS2, Lib.hid (HSW.out _ (.drewN (.refl _) _))⟩
        case measure => first | (simp [intOf]; done) | (simp [intOf]; omega)
     ·have HS2 := Lib.hid (show shiftDown ltInt m (Sort.swp dj j m) = U by rw [← HS.out, dn_go HM1.out (by rw [← HG.out, ← HG.out]; exact hl)])
      go_wp2_with fail
      go_quiet (first | (go_at_call 90; refine Calls.quiet_of_same (lessU_any _ _ _)))
      clear hcw hfw
      go_upto_region 17 with (fail)
      refine Wb.wp_at fun w5 hw5 => ?_
      have hx5 : Wb.Ext wJ w5 := by rw [hw5]; first | exact Wb.Ext.refl _ | (repeat' (first | (with_reducible assumption) | (with_reducible exact Wb.Ext.refl _) | (with_reducible refine Wb.Ext.drew ?_) | (with_reducible refine Wb.Ext.drewN ?_ _) | (with_reducible refine Wb.Ext.alloc ?_ _) | (with_reducible refine Wb.Ext.trans ?_ (by assumption))))
      have HR5 := Lib.hid (HRJ.out.ext hx5)
      clear hw5 hx5
      have hcw : ∀ t, t < n → w5.cell? ⟨g, t, none⟩ = some (.int .u32 (G t)) := fun t ht => by rw [HG.out]; exact (HR5.out).cell ht
      have hfw : ∀ t, t < n → w5.frozen? ⟨g, t, none⟩ = false := fun t ht => (HR5.out).free t
      have hxz : ¬ j = m := by omega
      have hxz2 : ¬ m = j := by omega
      have HSW := Lib.hid (show ∀ w9, Wb.Ext w5 w9 → RowU w0 ((w9.setCell ⟨g, j, none⟩ (.int .u32 (G m))).setCell ⟨g, m, none⟩ (.int .u32 (G j))) g n cap (Sort.swp dj j m) from fun w9 k9 => by rw [HG.out, HG.out]; exact (HR5.out.ext k9).swp j m)
      go_wp2_with fail
      go_region
      all_goals go_wp2
      go_roundw
      case rel => exact ⟨m, Sort.swp dj j m, by first | rfl | go_num, by omega, by omega, HS2, Lib.hid (HSW.out _ (.drewN (.refl _) _))⟩
      case measure => first | (simp [intOf]; done) | (simp [intOf]; omega)
end Go.Proofs.YtnefdpnolojojaaGreatDoor
