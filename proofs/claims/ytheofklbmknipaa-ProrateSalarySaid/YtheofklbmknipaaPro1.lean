/- The walks of package prorate: Hourly, Loss, Period. -/
import Derived.Test.YtheofklbmknipaaRte
import Derived.Test.YtheofklbmknipaaPro0
namespace Go.Proofs.Ytheofklbmknipaa
open Go.RowKit Go.Lib
set_option maxRecDepth 8000
attribute [local go_sem ↓] Go.wp_at_zero Go.wp_at_succ

theorem hourly_any (y k : Int) (w : World) :
    Calls Try.prog 19 #[.int .i64 y, .int .i64 k] w fun e w' => e = Two (hourlyR y k) ∧ Wb.Ext w w' := by
  obtain ⟨f, hf⟩ : ∃ f, Wb.fits y = f := ⟨_, rfl⟩
  have HF := Lib.hid hf
  have HP := Lib.hid (show hourlyR y k = if f = false then (0, 2) else if k = 0 then (0, 22) else if k < 0 ∨ 10080 < k then (0, 2) else Wb.partR y 60 (52 * k) by rw [← hf]; rfl)
  clear hf
  have ret : ∀ v : Int, hourlyR y k = (0, v) → Hid (hourlyR y k = (0, v)) := fun v h => Lib.hid h
  cases f
  · have H := ret 2 (by rw [HP.out, if_pos rfl])
    clear ret
    go_enter Try.func19, Try.ntmps19
    go_wp2_with fail
    go_fit (fits_any y _); rintro e w' ⟨rfl, rfl⟩
    rw [HF.out]
    go_wp2
    refine bodyPost_ret (v := .tuple #[.int .i64 0, .int .i64 2]) (by simp [results, Try.results19, go_sem]) rfl ⟨by rw [H.out], .refl _⟩
  by_cases h0 : k = 0
  · have H := ret 22 (by rw [HP.out, if_neg (by decide), if_pos h0])
    clear ret
    subst h0
    go_enter Try.func19, Try.ntmps19
    go_wp2_with fail
    go_fit (fits_any y _); rintro e w' ⟨rfl, rfl⟩
    rw [HF.out]
    go_wp2
    refine bodyPost_ret (v := .tuple #[.int .i64 0, .int .i64 22]) (by simp [results, Try.results19, go_sem]) rfl ⟨by rw [H.out], .refl _⟩
  have d0 : (k == 0) = false := by simpa using h0
  by_cases h1 : k < 0
  · have H := ret 2 (by rw [HP.out, if_neg (by decide), if_neg h0, if_pos (.inl h1)])
    have d1 : decide (k < 0) = true := by simpa using h1
    clear ret h0
    go_enter Try.func19, Try.ntmps19
    go_wp2_with fail
    go_fit (fits_any y _); rintro e w' ⟨rfl, rfl⟩
    rw [HF.out]
    go_wp2
    refine bodyPost_ret (v := .tuple #[.int .i64 0, .int .i64 2]) (by simp [results, Try.results19, go_sem]) rfl ⟨by rw [H.out], .refl _⟩
  have d1 : decide (k < 0) = false := by simpa using h1
  by_cases h2 : 10080 < k
  · have H := ret 2 (by rw [HP.out, if_neg (by decide), if_neg h0, if_pos (.inr h2)])
    have d2 : decide (10080 < k) = true := by simpa using h2
    clear ret h0
    go_enter Try.func19, Try.ntmps19
    go_wp2_with fail
    go_fit (fits_any y _); rintro e w' ⟨rfl, rfl⟩
    rw [HF.out]
    go_wp2
    refine bodyPost_ret (v := .tuple #[.int .i64 0, .int .i64 2]) (by simp [results, Try.results19, go_sem]) rfl ⟨by rw [H.out], .refl _⟩
  have d2 : decide (10080 < k) = false := by simpa using h2
  have H := Lib.hid (show hourlyR y k = Wb.partR y 60 (52 * k) by rw [HP.out, if_neg (by decide), if_neg h0, if_neg (by omega)])
  obtain ⟨⟨p1, p2⟩, hp⟩ : ∃ p, Wb.partR y 60 (52 * k) = p := ⟨_, rfl⟩
  have HPP := Lib.hid hp
  clear hp ret h0
  go_enter Try.func19, Try.ntmps19
  go_wp2_with fail
  go_fit (fits_any y _); rintro e w' ⟨rfl, rfl⟩
  rw [HF.out]
  go_wp2_with fail
  go_fit (ratepart_any y 60 (52 * k) (by omega) (by omega) _); rintro e w1 ⟨rfl, hb1⟩
  rw [HPP.out]
  go_wp2
  refine bodyPost_ret (v := .tuple #[.int .i64 p1, .int .i64 p2]) (by simp [results, Try.results19, go_sem]) rfl ⟨by rw [H.out, HPP.out], hb1⟩

theorem period_any (y ix o : Int) (s : Wb.Sp) (pay c : Int) (hi : -9223372036854775808 ≤ ix ∧ ix ≤ 9223372036854775807) (w : World) :
    Calls Try.prog 12 #[PeV y ix o s pay, .int .i64 c] w fun e w' => e = Two (perR ix o c) ∧ Wb.Ext w w' := by
  obtain ⟨f, t⟩ := s
  obtain ⟨⟨p1, p2⟩, hp⟩ : ∃ p, Wb.betw c (less1 ix) ix o = p := ⟨_, rfl⟩
  have HPP := Lib.hid hp
  have H := Lib.hid (show perR ix o c = (p1, p2) from hp)
  obtain ⟨i1, i2⟩ := hi
  obtain ⟨m, hm⟩ : ∃ m, less1 ix = m := ⟨_, rfl⟩
  have e1 : IntKind.i64.wrap (ix - 1) = m := by
    rw [← hm, less1]
    split
    · rename_i h; subst h; rfl
    · exact IntWalk.i64_in _ (by omega)
  rw [hm] at HPP
  clear hp hm
  by_cases hx : ix = -9223372036854775808
  · subst hx
    have hm : m = 9223372036854775807 := by rw [← e1]; rfl
    subst hm
    clear e1
    go_enter Try.func12, Try.ntmps12
    go_wp2_with fail
    rw [show wrap64 (-9223372036854775809) = 9223372036854775807 by first | rfl | decide | (simp [wrap64]; done) | (unfold wrap64; decide) | kernel_rfl]
    go_fit (between_any c 9223372036854775807 (-9223372036854775808) o _); rintro e w1 ⟨rfl, hb1⟩
    rw [HPP.out]
    go_wp2
    refine bodyPost_ret (v := .tuple #[.int .i64 p1, .int .i64 p2]) (by simp [results, Try.results12, go_sem]) rfl ⟨by rw [H.out], Wb.Ext.trans (by (repeat' (first | (with_reducible assumption) | (with_reducible exact Wb.Ext.refl _) | (with_reducible refine Wb.Ext.drew ?_) | (with_reducible refine Wb.Ext.drewN ?_ _) | (with_reducible refine Wb.Ext.alloc ?_ _) | (with_reducible refine Wb.Ext.trans ?_ (by assumption))))) hb1⟩
  · have hm : m = ix - 1 := by rw [← e1]; exact IntWalk.i64_in _ (by omega)
    subst hm
    have i3 : -9223372036854775808 < ix := by omega
    clear e1 hx
    go_enter Try.func12, Try.ntmps12
    go_wp2_with fail
    go_fit (between_any c (ix - 1) ix o _); rintro e w1 ⟨rfl, hb1⟩
    rw [HPP.out]
    go_wp2
    refine bodyPost_ret (v := .tuple #[.int .i64 p1, .int .i64 p2]) (by simp [results, Try.results12, go_sem]) rfl ⟨by rw [H.out], Wb.Ext.trans (by (repeat' (first | (with_reducible assumption) | (with_reducible exact Wb.Ext.refl _) | (with_reducible refine Wb.Ext.drew ?_) | (with_reducible refine Wb.Ext.drewN ?_ _) | (with_reducible refine Wb.Ext.alloc ?_ _) | (with_reducible refine Wb.Ext.trans ?_ (by assumption))))) hb1⟩

set_option maxHeartbeats 2000000 in
theorem loss_any (y ix o : Int) (s : Wb.Sp) (pay sal m lost paid : Int) (hs : Bd s) (hm : -9223372036854775808 ≤ m ∧ m ≤ 9223372036854775807) (w : World) :
    Calls Try.prog 17 #[PeV y ix o s pay, .int .i64 sal, .int .i64 m, .int .i64 lost, .int .i64 paid] w fun e w' => e = Two (lossR s sal m lost paid) ∧ Wb.Ext w w' := by
  obtain ⟨f, hf⟩ : ∃ f, Wb.fits sal = f := ⟨_, rfl⟩
  have HF := Lib.hid hf
  obtain ⟨L, hL⟩ : ∃ L, lenS s = L := ⟨_, rfl⟩
  have hLb := lenS_ok s
  rw [hL] at hLb
  obtain ⟨M, hM⟩ : ∃ M, min L 366 = M := ⟨_, rfl⟩
  have hMb : 0 ≤ M ∧ M ≤ 366 := by omega
  have hmn : (if 366 < L then 366 else L) = M := by rw [← hM]; split <;> omega
  have HLL := Lib.hid hL
  have HP := Lib.hid (show lossR s sal m lost paid = if f = false then (0, 2) else if m < 0 ∨ 1440 * M < m then (0, 2) else if lost < 0 ∨ m < lost then (0, 2)
    else if paid < 0 ∨ 1000000 < paid then (0, 2) else if m = 0 then (0, 0) else Wb.partR sal (lost * (1000000 - paid)) (m * 1000000) by rw [← hf, ← hM, ← hL]; rfl)
  have HBD := Lib.hid hs
  obtain ⟨f1, f2⟩ := s
  clear hf hL hM hs
  obtain ⟨hM0, hM1⟩ := hMb
  obtain ⟨hm0, hm1⟩ := hm
  have ret : ∀ v : Int, lossR (f1, f2) sal m lost paid = (0, v) → Hid (lossR (f1, f2) sal m lost paid = (0, v)) := fun v h => Lib.hid h
  cases f
  · have H := ret 2 (by rw [HP.out, if_pos rfl])
    clear ret
    go_enter Try.func17, Try.ntmps17
    go_wp2_with fail
    go_fit (fits_any sal _); rintro e w' ⟨rfl, hw⟩
    subst hw
    rw [HF.out]
    go_wp2
    refine bodyPost_ret (v := .tuple #[.int .i64 0, .int .i64 2]) (by simp [results, Try.results17, go_sem]) rfl ⟨by rw [H.out], by (repeat' (first | (with_reducible assumption) | (with_reducible exact Wb.Ext.refl _) | (with_reducible refine Wb.Ext.drew ?_) | (with_reducible refine Wb.Ext.drewN ?_ _) | (with_reducible refine Wb.Ext.alloc ?_ _) | (with_reducible refine Wb.Ext.trans ?_ (by assumption))))⟩
  by_cases h1 : m < 0
  · have H := ret 2 (by rw [HP.out, if_neg (by decide), if_pos (.inl h1)])
    have d1 : decide (m < 0) = true := by simpa using h1
    clear ret
    go_enter Try.func17, Try.ntmps17
    go_wp2_with fail
    go_fit (fits_any sal _); rintro e w' ⟨rfl, hw⟩
    subst hw
    rw [HF.out]
    go_wp2
    refine bodyPost_ret (v := .tuple #[.int .i64 0, .int .i64 2]) (by simp [results, Try.results17, go_sem]) rfl ⟨by rw [H.out], by (repeat' (first | (with_reducible assumption) | (with_reducible exact Wb.Ext.refl _) | (with_reducible refine Wb.Ext.drew ?_) | (with_reducible refine Wb.Ext.drewN ?_ _) | (with_reducible refine Wb.Ext.alloc ?_ _) | (with_reducible refine Wb.Ext.trans ?_ (by assumption))))⟩
  have d1 : decide (m < 0) = false := by simpa using h1
  by_cases h2 : 1440 * M < m
  · have H := ret 2 (by rw [HP.out, if_neg (by decide), if_pos (.inr h2)])
    have d2 : decide (1440 * M < m) = true := by simpa using h2
    clear ret
    go_enter Try.func17, Try.ntmps17
    go_wp2_with fail
    go_fit (fits_any sal _); rintro e w' ⟨rfl, hw⟩
    subst hw
    rw [HF.out]
    go_wp2_with fail
    go_fit (length_any (f1, f2) HBD.out _); rintro e w1 ⟨rfl, hb1⟩
    rw [HLL.out]
    go_wp2
    refine bodyPost_ret (v := .tuple #[.int .i64 0, .int .i64 2]) (by simp [results, Try.results17, go_sem]) rfl ⟨by rw [H.out], Wb.Ext.trans (by (repeat' (first | (with_reducible assumption) | (with_reducible exact Wb.Ext.refl _) | (with_reducible refine Wb.Ext.drew ?_) | (with_reducible refine Wb.Ext.drewN ?_ _) | (with_reducible refine Wb.Ext.alloc ?_ _) | (with_reducible refine Wb.Ext.trans ?_ (by assumption))))) hb1⟩
  have d2 : decide (1440 * M < m) = false := by simpa using h2
  have mb : m ≤ 527040 := by omega
  by_cases h3 : lost < 0
  · have H := ret 2 (by rw [HP.out, if_neg (by decide), if_neg (by omega), if_pos (.inl h3)])
    have d3 : decide (lost < 0) = true := by simpa using h3
    clear ret
    go_enter Try.func17, Try.ntmps17
    go_wp2_with fail
    go_fit (fits_any sal _); rintro e w' ⟨rfl, hw⟩
    subst hw
    rw [HF.out]
    go_wp2_with fail
    go_fit (length_any (f1, f2) HBD.out _); rintro e w1 ⟨rfl, hb1⟩
    rw [HLL.out]
    go_wp2
    refine bodyPost_ret (v := .tuple #[.int .i64 0, .int .i64 2]) (by simp [results, Try.results17, go_sem]) rfl ⟨by rw [H.out], Wb.Ext.trans (by (repeat' (first | (with_reducible assumption) | (with_reducible exact Wb.Ext.refl _) | (with_reducible refine Wb.Ext.drew ?_) | (with_reducible refine Wb.Ext.drewN ?_ _) | (with_reducible refine Wb.Ext.alloc ?_ _) | (with_reducible refine Wb.Ext.trans ?_ (by assumption))))) hb1⟩
  have d3 : decide (lost < 0) = false := by simpa using h3
  by_cases h4 : m < lost
  · have H := ret 2 (by rw [HP.out, if_neg (by decide), if_neg (by omega), if_pos (.inr h4)])
    have d4 : decide (m < lost) = true := by simpa using h4
    clear ret
    go_enter Try.func17, Try.ntmps17
    go_wp2_with fail
    go_fit (fits_any sal _); rintro e w' ⟨rfl, hw⟩
    subst hw
    rw [HF.out]
    go_wp2_with fail
    go_fit (length_any (f1, f2) HBD.out _); rintro e w1 ⟨rfl, hb1⟩
    rw [HLL.out]
    go_wp2
    refine bodyPost_ret (v := .tuple #[.int .i64 0, .int .i64 2]) (by simp [results, Try.results17, go_sem]) rfl ⟨by rw [H.out], Wb.Ext.trans (by (repeat' (first | (with_reducible assumption) | (with_reducible exact Wb.Ext.refl _) | (with_reducible refine Wb.Ext.drew ?_) | (with_reducible refine Wb.Ext.drewN ?_ _) | (with_reducible refine Wb.Ext.alloc ?_ _) | (with_reducible refine Wb.Ext.trans ?_ (by assumption))))) hb1⟩
  have d4 : decide (m < lost) = false := by simpa using h4
  by_cases h5 : paid < 0
  · have H := ret 2 (by rw [HP.out, if_neg (by decide), if_neg (by omega), if_neg (by omega), if_pos (.inl h5)])
    have d5 : decide (paid < 0) = true := by simpa using h5
    clear ret
    go_enter Try.func17, Try.ntmps17
    go_wp2_with fail
    go_fit (fits_any sal _); rintro e w' ⟨rfl, hw⟩
    subst hw
    rw [HF.out]
    go_wp2_with fail
    go_fit (length_any (f1, f2) HBD.out _); rintro e w1 ⟨rfl, hb1⟩
    rw [HLL.out]
    go_wp2
    refine bodyPost_ret (v := .tuple #[.int .i64 0, .int .i64 2]) (by simp [results, Try.results17, go_sem]) rfl ⟨by rw [H.out], Wb.Ext.trans (by (repeat' (first | (with_reducible assumption) | (with_reducible exact Wb.Ext.refl _) | (with_reducible refine Wb.Ext.drew ?_) | (with_reducible refine Wb.Ext.drewN ?_ _) | (with_reducible refine Wb.Ext.alloc ?_ _) | (with_reducible refine Wb.Ext.trans ?_ (by assumption))))) hb1⟩
  have d5 : decide (paid < 0) = false := by simpa using h5
  by_cases h6 : 1000000 < paid
  · have H := ret 2 (by rw [HP.out, if_neg (by decide), if_neg (by omega), if_neg (by omega), if_pos (.inr h6)])
    have d6 : decide (1000000 < paid) = true := by simpa using h6
    clear ret
    go_enter Try.func17, Try.ntmps17
    go_wp2_with fail
    go_fit (fits_any sal _); rintro e w' ⟨rfl, hw⟩
    subst hw
    rw [HF.out]
    go_wp2_with fail
    go_fit (length_any (f1, f2) HBD.out _); rintro e w1 ⟨rfl, hb1⟩
    rw [HLL.out]
    go_wp2
    refine bodyPost_ret (v := .tuple #[.int .i64 0, .int .i64 2]) (by simp [results, Try.results17, go_sem]) rfl ⟨by rw [H.out], Wb.Ext.trans (by (repeat' (first | (with_reducible assumption) | (with_reducible exact Wb.Ext.refl _) | (with_reducible refine Wb.Ext.drew ?_) | (with_reducible refine Wb.Ext.drewN ?_ _) | (with_reducible refine Wb.Ext.alloc ?_ _) | (with_reducible refine Wb.Ext.trans ?_ (by assumption))))) hb1⟩
  have d6 : decide (1000000 < paid) = false := by simpa using h6
  by_cases h7 : m = 0
  · have H := ret 0 (by rw [HP.out, if_neg (by decide), if_neg (by omega), if_neg (by omega), if_neg (by omega), if_pos h7])
    clear ret
    subst h7
    go_enter Try.func17, Try.ntmps17
    go_wp2_with fail
    go_fit (fits_any sal _); rintro e w' ⟨rfl, hw⟩
    subst hw
    rw [HF.out]
    go_wp2_with fail
    go_fit (length_any (f1, f2) HBD.out _); rintro e w1 ⟨rfl, hb1⟩
    rw [HLL.out]
    go_wp2
    refine bodyPost_ret (v := .tuple #[.int .i64 0, .int .i64 0]) (by simp [results, Try.results17, go_sem]) rfl ⟨by rw [H.out], Wb.Ext.trans (by (repeat' (first | (with_reducible assumption) | (with_reducible exact Wb.Ext.refl _) | (with_reducible refine Wb.Ext.drew ?_) | (with_reducible refine Wb.Ext.drewN ?_ _) | (with_reducible refine Wb.Ext.alloc ?_ _) | (with_reducible refine Wb.Ext.trans ?_ (by assumption))))) hb1⟩
  have d7 : (m == 0) = false := by simpa using h7
  obtain ⟨n, hn⟩ : ∃ n, lost * (1000000 - paid) = n := ⟨_, rfl⟩
  have hnb : 0 ≤ n ∧ n ≤ 527040 * 1000000 := by
    rw [← hn]
    exact ⟨Int.mul_nonneg (by omega) (by omega), Int.mul_le_mul (by omega) (by omega) (by omega) (by omega)⟩
  have en : IntKind.i64.wrap (lost * (1000000 - paid)) = n := by rw [hn]; exact IntWalk.i64_in _ (by omega)
  have H := Lib.hid (show lossR (f1, f2) sal m lost paid = Wb.partR sal n (m * 1000000) by rw [HP.out, if_neg (by decide), if_neg (by omega), if_neg (by omega), if_neg (by omega), if_neg h7, hn])
  obtain ⟨⟨p1, p2⟩, hp⟩ : ∃ p, Wb.partR sal n (m * 1000000) = p := ⟨_, rfl⟩
  have HPP := Lib.hid hp
  obtain ⟨hn0, hn1⟩ := hnb
  have hm2 : 0 ≤ m := by omega
  clear hp ret h7 hn
  go_enter Try.func17, Try.ntmps17
  go_wp2_with fail
  go_fit (fits_any sal _); rintro e w' ⟨rfl, hw⟩
  subst hw
  rw [HF.out]
  go_wp2_with fail
  go_fit (length_any (f1, f2) HBD.out _); rintro e w1 ⟨rfl, hb1⟩
  rw [HLL.out]
  go_wp2_with fail
  go_fit (ratepart_any sal n (m * 1000000) (by omega) (by omega) _); rintro e w2 ⟨rfl, hb2⟩
  rw [HPP.out]
  go_wp2
  refine bodyPost_ret (v := .tuple #[.int .i64 p1, .int .i64 p2]) (by simp [results, Try.results17, go_sem]) rfl ⟨by rw [H.out, HPP.out], Wb.Ext.trans (Wb.Ext.trans (by (repeat' (first | (with_reducible assumption) | (with_reducible exact Wb.Ext.refl _) | (with_reducible refine Wb.Ext.drew ?_) | (with_reducible refine Wb.Ext.drewN ?_ _) | (with_reducible refine Wb.Ext.alloc ?_ _) | (with_reducible refine Wb.Ext.trans ?_ (by assumption))))) hb1) hb2⟩

end Go.Proofs.Ytheofklbmknipaa
