/- The reference of chapter 20: Hourly, Loss. -/
import Derived.Test.YtheofklbmknipaaRef2d
import Derived.Test.YtheofklbmknipaaRef20
namespace Go.Proofs.Ytheofklbmknipaa
open Go.RowKit Go.Lib
set_option maxRecDepth 8000

theorem rhourly_any (y k : Int) (w : World) :
    Calls Try.prog 20 #[.int .i64 y, .int .i64 k] w fun e w' => e = Two (hourlyR y k) ∧ Wb.Ext w w' := by
  obtain ⟨f, hf⟩ : ∃ f, Wb.fits y = f := ⟨_, rfl⟩
  have HF := Lib.hid hf
  have HP := Lib.hid (show hourlyR y k = if f = false then (0, 2) else if k = 0 then (0, 22) else if k < 0 ∨ 10080 < k then (0, 2) else Wb.partR y 60 (52 * k) by rw [← hf]; rfl)
  clear hf
  have ret : ∀ v : Int, hourlyR y k = (0, v) → Hid (hourlyR y k = (0, v)) := fun v h => Lib.hid h
  cases f
  · have H := ret 2 (by rw [HP.out, if_pos rfl])
    clear ret
    go_enter Try.func20, Try.ntmps20
    go_wp2_with fail
    go_fit (rfits2_any y _); rintro e w' ⟨rfl, rfl⟩
    rw [HF.out]
    go_wp2
    refine bodyPost_ret (v := .tuple #[.int .i64 0, .int .i64 2]) (by simp [results, Try.results20, go_sem]) rfl ⟨by rw [H.out], .refl _⟩
  by_cases h0 : k = 0
  · have H := ret 22 (by rw [HP.out, if_neg (by decide), if_pos h0])
    clear ret
    subst h0
    go_enter Try.func20, Try.ntmps20
    go_wp2_with fail
    go_fit (rfits2_any y _); rintro e w' ⟨rfl, rfl⟩
    rw [HF.out]
    go_wp2
    refine bodyPost_ret (v := .tuple #[.int .i64 0, .int .i64 22]) (by simp [results, Try.results20, go_sem]) rfl ⟨by rw [H.out], .refl _⟩
  have d0 : (k == 0) = false := by simpa using h0
  by_cases h1 : k < 0
  · have H := ret 2 (by rw [HP.out, if_neg (by decide), if_neg h0, if_pos (.inl h1)])
    have d1 : decide (k < 0) = true := by simpa using h1
    clear ret h0
    go_enter Try.func20, Try.ntmps20
    go_wp2_with fail
    go_fit (rfits2_any y _); rintro e w' ⟨rfl, rfl⟩
    rw [HF.out]
    go_wp2
    refine bodyPost_ret (v := .tuple #[.int .i64 0, .int .i64 2]) (by simp [results, Try.results20, go_sem]) rfl ⟨by rw [H.out], .refl _⟩
  have d1 : decide (k < 0) = false := by simpa using h1
  by_cases h2 : 10080 < k
  · have H := ret 2 (by rw [HP.out, if_neg (by decide), if_neg h0, if_pos (.inr h2)])
    have d2 : decide (10080 < k) = true := by simpa using h2
    clear ret h0
    go_enter Try.func20, Try.ntmps20
    go_wp2_with fail
    go_fit (rfits2_any y _); rintro e w' ⟨rfl, rfl⟩
    rw [HF.out]
    go_wp2
    refine bodyPost_ret (v := .tuple #[.int .i64 0, .int .i64 2]) (by simp [results, Try.results20, go_sem]) rfl ⟨by rw [H.out], .refl _⟩
  have d2 : decide (10080 < k) = false := by simpa using h2
  have H := Lib.hid (show hourlyR y k = Wb.partR y 60 (52 * k) by rw [HP.out, if_neg (by decide), if_neg h0, if_neg (by omega)])
  obtain ⟨⟨p1, p2⟩, hp⟩ : ∃ p, Wb.partR y 60 (52 * k) = p := ⟨_, rfl⟩
  have HPP := Lib.hid hp
  clear hp ret h0
  go_enter Try.func20, Try.ntmps20
  go_wp2_with fail
  go_fit (rfits2_any y _); rintro e w' ⟨rfl, rfl⟩
  rw [HF.out]
  go_wp2_with fail
  go_fit (rpart2_any y 60 (52 * k) (by omega) (by omega) _); rintro e w1 ⟨rfl, hb1⟩
  rw [HPP.out]
  go_wp2
  refine bodyPost_ret (v := .tuple #[.int .i64 p1, .int .i64 p2]) (by simp [results, Try.results20, go_sem]) rfl ⟨by rw [H.out, HPP.out], hb1⟩

set_option maxHeartbeats 2000000 in
theorem rloss_any (s : Wb.Sp) (sal m lost paid : Int) (hs : Bd s) (hm : -9223372036854775808 ≤ m ∧ m ≤ 9223372036854775807) (w : World) :
    Calls Try.prog 18 #[SpV s, .int .i64 sal, .int .i64 m, .int .i64 lost, .int .i64 paid] w fun e w' => e = Two (lossR s sal m lost paid) ∧ Wb.Ext w w' := by
  obtain ⟨f, hf⟩ : ∃ f, Wb.fits sal = f := ⟨_, rfl⟩
  have HF := Lib.hid hf
  obtain ⟨L, hL⟩ : ∃ L, daysN s = L := ⟨_, rfl⟩
  obtain ⟨M, hM⟩ : ∃ M, min (lenS s) 366 = M := ⟨_, rfl⟩
  have hLb : 0 ≤ L ∧ L ≤ 367 ∧ M = min L 366 := by
    rw [← hL, ← hM]
    obtain ⟨⟨b1, b2⟩, b3, b4⟩ := hs
    unfold daysN lenS
    split
    · simp
    · omega
  obtain ⟨hL0, hL1, hML⟩ := hLb
  have hMb : 0 ≤ M ∧ M ≤ 366 := by omega
  have HLL := Lib.hid hL
  have HP := Lib.hid (show lossR s sal m lost paid = if f = false then (0, 2) else if m < 0 ∨ 1440 * M < m then (0, 2) else if lost < 0 ∨ m < lost then (0, 2)
    else if paid < 0 ∨ 1000000 < paid then (0, 2) else if m = 0 then (0, 0) else Wb.partR sal (lost * (1000000 - paid)) (m * 1000000) by rw [← hf, ← hM]; rfl)
  have HBD := Lib.hid hs
  obtain ⟨f1, f2⟩ := s
  clear hf hL hM hs
  obtain ⟨hM0, hM1⟩ := hMb
  obtain ⟨hm0, hm1⟩ := hm
  have ret : ∀ v : Int, lossR (f1, f2) sal m lost paid = (0, v) → Hid (lossR (f1, f2) sal m lost paid = (0, v)) := fun v h => Lib.hid h
  have hLM : (366 < L ∧ M = 366) ∨ (L ≤ 366 ∧ L = M) := by omega
  clear hML
  rcases hLM with ⟨hLt, hMe⟩ | ⟨hLt, hMe⟩
  · have dL : decide (366 < L) = true := by simpa using hLt
    subst hMe
    cases f
    · have H := ret 2 (by rw [HP.out, if_pos rfl])
      clear ret
      go_enter Try.func18, Try.ntmps18
      go_wp2_with fail
      go_fit (days20_any (f1, f2) HBD.out _); rintro e w1 ⟨rfl, hb1⟩
      rw [HLL.out]
      have hext : Wb.Ext w w1 := Wb.Ext.trans (by (repeat' (first | (with_reducible assumption) | (with_reducible exact Wb.Ext.refl _) | (with_reducible refine Wb.Ext.drew ?_) | (with_reducible refine Wb.Ext.drewN ?_ _) | (with_reducible refine Wb.Ext.alloc ?_ _) | (with_reducible refine Wb.Ext.trans ?_ (by assumption))))) hb1
      clear hb1
      go_wp2_with fail
      go_fit (rfits2_any sal _); rintro e w' ⟨rfl, hw⟩
      subst hw
      rw [HF.out]
      go_wp2
      refine bodyPost_ret (v := .tuple #[.int .i64 0, .int .i64 2]) (by simp [results, Try.results18, go_sem]) rfl ⟨by rw [H.out], by (repeat' (first | (with_reducible assumption) | (with_reducible exact Wb.Ext.refl _) | (with_reducible refine Wb.Ext.drew ?_) | (with_reducible refine Wb.Ext.drewN ?_ _) | (with_reducible refine Wb.Ext.alloc ?_ _) | (with_reducible refine Wb.Ext.trans ?_ (by assumption))))⟩
    by_cases h1 : m < 0
    · have H := ret 2 (by rw [HP.out, if_neg (by decide), if_pos (.inl h1)])
      have d1 : decide (m < 0) = true := by simpa using h1
      clear ret
      go_enter Try.func18, Try.ntmps18
      go_wp2_with fail
      go_fit (days20_any (f1, f2) HBD.out _); rintro e w1 ⟨rfl, hb1⟩
      rw [HLL.out]
      have hext : Wb.Ext w w1 := Wb.Ext.trans (by (repeat' (first | (with_reducible assumption) | (with_reducible exact Wb.Ext.refl _) | (with_reducible refine Wb.Ext.drew ?_) | (with_reducible refine Wb.Ext.drewN ?_ _) | (with_reducible refine Wb.Ext.alloc ?_ _) | (with_reducible refine Wb.Ext.trans ?_ (by assumption))))) hb1
      clear hb1
      go_wp2_with fail
      go_fit (rfits2_any sal _); rintro e w' ⟨rfl, hw⟩
      subst hw
      rw [HF.out]
      go_wp2
      refine bodyPost_ret (v := .tuple #[.int .i64 0, .int .i64 2]) (by simp [results, Try.results18, go_sem]) rfl ⟨by rw [H.out], by (repeat' (first | (with_reducible assumption) | (with_reducible exact Wb.Ext.refl _) | (with_reducible refine Wb.Ext.drew ?_) | (with_reducible refine Wb.Ext.drewN ?_ _) | (with_reducible refine Wb.Ext.alloc ?_ _) | (with_reducible refine Wb.Ext.trans ?_ (by assumption))))⟩
    have d1 : decide (m < 0) = false := by simpa using h1
    by_cases h2 : 527040 < m
    · have H := ret 2 (by rw [HP.out, if_neg (by decide), if_pos (.inr (by omega))])
      have d2 : decide (527040 < m) = true := by simpa using h2
      clear ret
      go_enter Try.func18, Try.ntmps18
      go_wp2_with fail
      go_fit (days20_any (f1, f2) HBD.out _); rintro e w1 ⟨rfl, hb1⟩
      rw [HLL.out]
      have hext : Wb.Ext w w1 := Wb.Ext.trans (by (repeat' (first | (with_reducible assumption) | (with_reducible exact Wb.Ext.refl _) | (with_reducible refine Wb.Ext.drew ?_) | (with_reducible refine Wb.Ext.drewN ?_ _) | (with_reducible refine Wb.Ext.alloc ?_ _) | (with_reducible refine Wb.Ext.trans ?_ (by assumption))))) hb1
      clear hb1
      go_wp2_with fail
      go_fit (rfits2_any sal _); rintro e w' ⟨rfl, hw⟩
      subst hw
      rw [HF.out]
      go_wp2
      refine bodyPost_ret (v := .tuple #[.int .i64 0, .int .i64 2]) (by simp [results, Try.results18, go_sem]) rfl ⟨by rw [H.out], by (repeat' (first | (with_reducible assumption) | (with_reducible exact Wb.Ext.refl _) | (with_reducible refine Wb.Ext.drew ?_) | (with_reducible refine Wb.Ext.drewN ?_ _) | (with_reducible refine Wb.Ext.alloc ?_ _) | (with_reducible refine Wb.Ext.trans ?_ (by assumption))))⟩
    have d2 : decide (527040 < m) = false := by simpa using h2
    have mb : m ≤ 527040 := by omega
    by_cases h3 : lost < 0
    · have H := ret 2 (by rw [HP.out, if_neg (by decide), if_neg (by omega), if_pos (.inl h3)])
      have d3 : decide (lost < 0) = true := by simpa using h3
      clear ret
      go_enter Try.func18, Try.ntmps18
      go_wp2_with fail
      go_fit (days20_any (f1, f2) HBD.out _); rintro e w1 ⟨rfl, hb1⟩
      rw [HLL.out]
      have hext : Wb.Ext w w1 := Wb.Ext.trans (by (repeat' (first | (with_reducible assumption) | (with_reducible exact Wb.Ext.refl _) | (with_reducible refine Wb.Ext.drew ?_) | (with_reducible refine Wb.Ext.drewN ?_ _) | (with_reducible refine Wb.Ext.alloc ?_ _) | (with_reducible refine Wb.Ext.trans ?_ (by assumption))))) hb1
      clear hb1
      go_wp2_with fail
      go_fit (rfits2_any sal _); rintro e w' ⟨rfl, hw⟩
      subst hw
      rw [HF.out]
      go_wp2
      refine bodyPost_ret (v := .tuple #[.int .i64 0, .int .i64 2]) (by simp [results, Try.results18, go_sem]) rfl ⟨by rw [H.out], by (repeat' (first | (with_reducible assumption) | (with_reducible exact Wb.Ext.refl _) | (with_reducible refine Wb.Ext.drew ?_) | (with_reducible refine Wb.Ext.drewN ?_ _) | (with_reducible refine Wb.Ext.alloc ?_ _) | (with_reducible refine Wb.Ext.trans ?_ (by assumption))))⟩
    have d3 : decide (lost < 0) = false := by simpa using h3
    by_cases h4 : m < lost
    · have H := ret 2 (by rw [HP.out, if_neg (by decide), if_neg (by omega), if_pos (.inr h4)])
      have d4 : decide (m < lost) = true := by simpa using h4
      clear ret
      go_enter Try.func18, Try.ntmps18
      go_wp2_with fail
      go_fit (days20_any (f1, f2) HBD.out _); rintro e w1 ⟨rfl, hb1⟩
      rw [HLL.out]
      have hext : Wb.Ext w w1 := Wb.Ext.trans (by (repeat' (first | (with_reducible assumption) | (with_reducible exact Wb.Ext.refl _) | (with_reducible refine Wb.Ext.drew ?_) | (with_reducible refine Wb.Ext.drewN ?_ _) | (with_reducible refine Wb.Ext.alloc ?_ _) | (with_reducible refine Wb.Ext.trans ?_ (by assumption))))) hb1
      clear hb1
      go_wp2_with fail
      go_fit (rfits2_any sal _); rintro e w' ⟨rfl, hw⟩
      subst hw
      rw [HF.out]
      go_wp2
      refine bodyPost_ret (v := .tuple #[.int .i64 0, .int .i64 2]) (by simp [results, Try.results18, go_sem]) rfl ⟨by rw [H.out], by (repeat' (first | (with_reducible assumption) | (with_reducible exact Wb.Ext.refl _) | (with_reducible refine Wb.Ext.drew ?_) | (with_reducible refine Wb.Ext.drewN ?_ _) | (with_reducible refine Wb.Ext.alloc ?_ _) | (with_reducible refine Wb.Ext.trans ?_ (by assumption))))⟩
    have d4 : decide (m < lost) = false := by simpa using h4
    by_cases h5 : paid < 0
    · have H := ret 2 (by rw [HP.out, if_neg (by decide), if_neg (by omega), if_neg (by omega), if_pos (.inl h5)])
      have d5 : decide (paid < 0) = true := by simpa using h5
      clear ret
      go_enter Try.func18, Try.ntmps18
      go_wp2_with fail
      go_fit (days20_any (f1, f2) HBD.out _); rintro e w1 ⟨rfl, hb1⟩
      rw [HLL.out]
      have hext : Wb.Ext w w1 := Wb.Ext.trans (by (repeat' (first | (with_reducible assumption) | (with_reducible exact Wb.Ext.refl _) | (with_reducible refine Wb.Ext.drew ?_) | (with_reducible refine Wb.Ext.drewN ?_ _) | (with_reducible refine Wb.Ext.alloc ?_ _) | (with_reducible refine Wb.Ext.trans ?_ (by assumption))))) hb1
      clear hb1
      go_wp2_with fail
      go_fit (rfits2_any sal _); rintro e w' ⟨rfl, hw⟩
      subst hw
      rw [HF.out]
      go_wp2
      refine bodyPost_ret (v := .tuple #[.int .i64 0, .int .i64 2]) (by simp [results, Try.results18, go_sem]) rfl ⟨by rw [H.out], by (repeat' (first | (with_reducible assumption) | (with_reducible exact Wb.Ext.refl _) | (with_reducible refine Wb.Ext.drew ?_) | (with_reducible refine Wb.Ext.drewN ?_ _) | (with_reducible refine Wb.Ext.alloc ?_ _) | (with_reducible refine Wb.Ext.trans ?_ (by assumption))))⟩
    have d5 : decide (paid < 0) = false := by simpa using h5
    by_cases h6 : 1000000 < paid
    · have H := ret 2 (by rw [HP.out, if_neg (by decide), if_neg (by omega), if_neg (by omega), if_pos (.inr h6)])
      have d6 : decide (1000000 < paid) = true := by simpa using h6
      clear ret
      go_enter Try.func18, Try.ntmps18
      go_wp2_with fail
      go_fit (days20_any (f1, f2) HBD.out _); rintro e w1 ⟨rfl, hb1⟩
      rw [HLL.out]
      have hext : Wb.Ext w w1 := Wb.Ext.trans (by (repeat' (first | (with_reducible assumption) | (with_reducible exact Wb.Ext.refl _) | (with_reducible refine Wb.Ext.drew ?_) | (with_reducible refine Wb.Ext.drewN ?_ _) | (with_reducible refine Wb.Ext.alloc ?_ _) | (with_reducible refine Wb.Ext.trans ?_ (by assumption))))) hb1
      clear hb1
      go_wp2_with fail
      go_fit (rfits2_any sal _); rintro e w' ⟨rfl, hw⟩
      subst hw
      rw [HF.out]
      go_wp2
      refine bodyPost_ret (v := .tuple #[.int .i64 0, .int .i64 2]) (by simp [results, Try.results18, go_sem]) rfl ⟨by rw [H.out], by (repeat' (first | (with_reducible assumption) | (with_reducible exact Wb.Ext.refl _) | (with_reducible refine Wb.Ext.drew ?_) | (with_reducible refine Wb.Ext.drewN ?_ _) | (with_reducible refine Wb.Ext.alloc ?_ _) | (with_reducible refine Wb.Ext.trans ?_ (by assumption))))⟩
    have d6 : decide (1000000 < paid) = false := by simpa using h6
    by_cases h7 : m = 0
    · have H := ret 0 (by rw [HP.out, if_neg (by decide), if_neg (by omega), if_neg (by omega), if_neg (by omega), if_pos h7])
      clear ret
      subst h7
      go_enter Try.func18, Try.ntmps18
      go_wp2_with fail
      go_fit (days20_any (f1, f2) HBD.out _); rintro e w1 ⟨rfl, hb1⟩
      rw [HLL.out]
      have hext : Wb.Ext w w1 := Wb.Ext.trans (by (repeat' (first | (with_reducible assumption) | (with_reducible exact Wb.Ext.refl _) | (with_reducible refine Wb.Ext.drew ?_) | (with_reducible refine Wb.Ext.drewN ?_ _) | (with_reducible refine Wb.Ext.alloc ?_ _) | (with_reducible refine Wb.Ext.trans ?_ (by assumption))))) hb1
      clear hb1
      go_wp2_with fail
      go_fit (rfits2_any sal _); rintro e w' ⟨rfl, hw⟩
      subst hw
      rw [HF.out]
      go_wp2
      refine bodyPost_ret (v := .tuple #[.int .i64 0, .int .i64 0]) (by simp [results, Try.results18, go_sem]) rfl ⟨by rw [H.out], by (repeat' (first | (with_reducible assumption) | (with_reducible exact Wb.Ext.refl _) | (with_reducible refine Wb.Ext.drew ?_) | (with_reducible refine Wb.Ext.drewN ?_ _) | (with_reducible refine Wb.Ext.alloc ?_ _) | (with_reducible refine Wb.Ext.trans ?_ (by assumption))))⟩
    have d7 : (m == 0) = false := by simpa using h7
    obtain ⟨n, hn⟩ : ∃ n, lost * (1000000 - paid) = n := ⟨_, rfl⟩
    have hnb : 0 ≤ n ∧ n ≤ 527040 * 1000000 := by
      rw [← hn]
      exact ⟨Int.mul_nonneg (by omega) (by omega), Int.mul_le_mul (by omega) (by omega) (by omega) (by omega)⟩
    have en : IntKind.i64.wrap (lost * (1000000 - paid)) = n := by rw [hn]; exact IntWalk.i64_in _ (by omega)
    have H := Lib.hid (show lossR (f1, f2) sal m lost paid = Wb.partR sal n (m * 1000000) by rw [HP.out, if_neg (by decide), if_neg (by omega), if_neg (by omega), if_neg (by omega), if_neg h7, hn])
    obtain ⟨⟨p1, p2⟩, hp⟩ : ∃ p, Wb.partR sal n (m * 1000000) = p := ⟨_, rfl⟩
    have HPP := Lib.hid hp
    obtain ⟨hn0, hn1⟩ := hnb
    have hm2 : 0 ≤ m := by omega
    clear hp ret h7 hn
    go_enter Try.func18, Try.ntmps18
    go_wp2_with fail
    go_fit (days20_any (f1, f2) HBD.out _); rintro e w1 ⟨rfl, hb1⟩
    rw [HLL.out]
    have hext : Wb.Ext w w1 := Wb.Ext.trans (by (repeat' (first | (with_reducible assumption) | (with_reducible exact Wb.Ext.refl _) | (with_reducible refine Wb.Ext.drew ?_) | (with_reducible refine Wb.Ext.drewN ?_ _) | (with_reducible refine Wb.Ext.alloc ?_ _) | (with_reducible refine Wb.Ext.trans ?_ (by assumption))))) hb1
    clear hb1
    go_wp2_with fail
    go_fit (rfits2_any sal _); rintro e w' ⟨rfl, hw⟩
    subst hw
    rw [HF.out]
    go_wp2_with fail
    go_fit (rpart2_any sal n (m * 1000000) (by omega) (by omega) _); rintro e w2 ⟨rfl, hb2⟩
    rw [HPP.out]
    go_wp2
    refine bodyPost_ret (v := .tuple #[.int .i64 p1, .int .i64 p2]) (by simp [results, Try.results18, go_sem]) rfl ⟨by rw [H.out, HPP.out], Wb.Ext.trans (by (repeat' (first | (with_reducible assumption) | (with_reducible exact Wb.Ext.refl _) | (with_reducible refine Wb.Ext.drew ?_) | (with_reducible refine Wb.Ext.drewN ?_ _) | (with_reducible refine Wb.Ext.alloc ?_ _) | (with_reducible refine Wb.Ext.trans ?_ (by assumption))))) hb2⟩
  · have dL : decide (366 < L) = false := by simpa using hLt
    subst hMe
    cases f
    · have H := ret 2 (by rw [HP.out, if_pos rfl])
      clear ret
      go_enter Try.func18, Try.ntmps18
      go_wp2_with fail
      go_fit (days20_any (f1, f2) HBD.out _); rintro e w1 ⟨rfl, hb1⟩
      rw [HLL.out]
      have hext : Wb.Ext w w1 := Wb.Ext.trans (by (repeat' (first | (with_reducible assumption) | (with_reducible exact Wb.Ext.refl _) | (with_reducible refine Wb.Ext.drew ?_) | (with_reducible refine Wb.Ext.drewN ?_ _) | (with_reducible refine Wb.Ext.alloc ?_ _) | (with_reducible refine Wb.Ext.trans ?_ (by assumption))))) hb1
      clear hb1
      go_wp2_with fail
      go_fit (rfits2_any sal _); rintro e w' ⟨rfl, hw⟩
      subst hw
      rw [HF.out]
      go_wp2
      refine bodyPost_ret (v := .tuple #[.int .i64 0, .int .i64 2]) (by simp [results, Try.results18, go_sem]) rfl ⟨by rw [H.out], by (repeat' (first | (with_reducible assumption) | (with_reducible exact Wb.Ext.refl _) | (with_reducible refine Wb.Ext.drew ?_) | (with_reducible refine Wb.Ext.drewN ?_ _) | (with_reducible refine Wb.Ext.alloc ?_ _) | (with_reducible refine Wb.Ext.trans ?_ (by assumption))))⟩
    by_cases h1 : m < 0
    · have H := ret 2 (by rw [HP.out, if_neg (by decide), if_pos (.inl h1)])
      have d1 : decide (m < 0) = true := by simpa using h1
      clear ret
      go_enter Try.func18, Try.ntmps18
      go_wp2_with fail
      go_fit (days20_any (f1, f2) HBD.out _); rintro e w1 ⟨rfl, hb1⟩
      rw [HLL.out]
      have hext : Wb.Ext w w1 := Wb.Ext.trans (by (repeat' (first | (with_reducible assumption) | (with_reducible exact Wb.Ext.refl _) | (with_reducible refine Wb.Ext.drew ?_) | (with_reducible refine Wb.Ext.drewN ?_ _) | (with_reducible refine Wb.Ext.alloc ?_ _) | (with_reducible refine Wb.Ext.trans ?_ (by assumption))))) hb1
      clear hb1
      go_wp2_with fail
      go_fit (rfits2_any sal _); rintro e w' ⟨rfl, hw⟩
      subst hw
      rw [HF.out]
      go_wp2
      refine bodyPost_ret (v := .tuple #[.int .i64 0, .int .i64 2]) (by simp [results, Try.results18, go_sem]) rfl ⟨by rw [H.out], by (repeat' (first | (with_reducible assumption) | (with_reducible exact Wb.Ext.refl _) | (with_reducible refine Wb.Ext.drew ?_) | (with_reducible refine Wb.Ext.drewN ?_ _) | (with_reducible refine Wb.Ext.alloc ?_ _) | (with_reducible refine Wb.Ext.trans ?_ (by assumption))))⟩
    have d1 : decide (m < 0) = false := by simpa using h1
    by_cases h2 : 1440 * L < m
    · have H := ret 2 (by rw [HP.out, if_neg (by decide), if_pos (.inr (by omega))])
      have d2 : decide (1440 * L < m) = true := by simpa using h2
      clear ret
      go_enter Try.func18, Try.ntmps18
      go_wp2_with fail
      go_fit (days20_any (f1, f2) HBD.out _); rintro e w1 ⟨rfl, hb1⟩
      rw [HLL.out]
      have hext : Wb.Ext w w1 := Wb.Ext.trans (by (repeat' (first | (with_reducible assumption) | (with_reducible exact Wb.Ext.refl _) | (with_reducible refine Wb.Ext.drew ?_) | (with_reducible refine Wb.Ext.drewN ?_ _) | (with_reducible refine Wb.Ext.alloc ?_ _) | (with_reducible refine Wb.Ext.trans ?_ (by assumption))))) hb1
      clear hb1
      go_wp2_with fail
      go_fit (rfits2_any sal _); rintro e w' ⟨rfl, hw⟩
      subst hw
      rw [HF.out]
      go_wp2
      refine bodyPost_ret (v := .tuple #[.int .i64 0, .int .i64 2]) (by simp [results, Try.results18, go_sem]) rfl ⟨by rw [H.out], by (repeat' (first | (with_reducible assumption) | (with_reducible exact Wb.Ext.refl _) | (with_reducible refine Wb.Ext.drew ?_) | (with_reducible refine Wb.Ext.drewN ?_ _) | (with_reducible refine Wb.Ext.alloc ?_ _) | (with_reducible refine Wb.Ext.trans ?_ (by assumption))))⟩
    have d2 : decide (1440 * L < m) = false := by simpa using h2
    have mb : m ≤ 527040 := by omega
    by_cases h3 : lost < 0
    · have H := ret 2 (by rw [HP.out, if_neg (by decide), if_neg (by omega), if_pos (.inl h3)])
      have d3 : decide (lost < 0) = true := by simpa using h3
      clear ret
      go_enter Try.func18, Try.ntmps18
      go_wp2_with fail
      go_fit (days20_any (f1, f2) HBD.out _); rintro e w1 ⟨rfl, hb1⟩
      rw [HLL.out]
      have hext : Wb.Ext w w1 := Wb.Ext.trans (by (repeat' (first | (with_reducible assumption) | (with_reducible exact Wb.Ext.refl _) | (with_reducible refine Wb.Ext.drew ?_) | (with_reducible refine Wb.Ext.drewN ?_ _) | (with_reducible refine Wb.Ext.alloc ?_ _) | (with_reducible refine Wb.Ext.trans ?_ (by assumption))))) hb1
      clear hb1
      go_wp2_with fail
      go_fit (rfits2_any sal _); rintro e w' ⟨rfl, hw⟩
      subst hw
      rw [HF.out]
      go_wp2
      refine bodyPost_ret (v := .tuple #[.int .i64 0, .int .i64 2]) (by simp [results, Try.results18, go_sem]) rfl ⟨by rw [H.out], by (repeat' (first | (with_reducible assumption) | (with_reducible exact Wb.Ext.refl _) | (with_reducible refine Wb.Ext.drew ?_) | (with_reducible refine Wb.Ext.drewN ?_ _) | (with_reducible refine Wb.Ext.alloc ?_ _) | (with_reducible refine Wb.Ext.trans ?_ (by assumption))))⟩
    have d3 : decide (lost < 0) = false := by simpa using h3
    by_cases h4 : m < lost
    · have H := ret 2 (by rw [HP.out, if_neg (by decide), if_neg (by omega), if_pos (.inr h4)])
      have d4 : decide (m < lost) = true := by simpa using h4
      clear ret
      go_enter Try.func18, Try.ntmps18
      go_wp2_with fail
      go_fit (days20_any (f1, f2) HBD.out _); rintro e w1 ⟨rfl, hb1⟩
      rw [HLL.out]
      have hext : Wb.Ext w w1 := Wb.Ext.trans (by (repeat' (first | (with_reducible assumption) | (with_reducible exact Wb.Ext.refl _) | (with_reducible refine Wb.Ext.drew ?_) | (with_reducible refine Wb.Ext.drewN ?_ _) | (with_reducible refine Wb.Ext.alloc ?_ _) | (with_reducible refine Wb.Ext.trans ?_ (by assumption))))) hb1
      clear hb1
      go_wp2_with fail
      go_fit (rfits2_any sal _); rintro e w' ⟨rfl, hw⟩
      subst hw
      rw [HF.out]
      go_wp2
      refine bodyPost_ret (v := .tuple #[.int .i64 0, .int .i64 2]) (by simp [results, Try.results18, go_sem]) rfl ⟨by rw [H.out], by (repeat' (first | (with_reducible assumption) | (with_reducible exact Wb.Ext.refl _) | (with_reducible refine Wb.Ext.drew ?_) | (with_reducible refine Wb.Ext.drewN ?_ _) | (with_reducible refine Wb.Ext.alloc ?_ _) | (with_reducible refine Wb.Ext.trans ?_ (by assumption))))⟩
    have d4 : decide (m < lost) = false := by simpa using h4
    by_cases h5 : paid < 0
    · have H := ret 2 (by rw [HP.out, if_neg (by decide), if_neg (by omega), if_neg (by omega), if_pos (.inl h5)])
      have d5 : decide (paid < 0) = true := by simpa using h5
      clear ret
      go_enter Try.func18, Try.ntmps18
      go_wp2_with fail
      go_fit (days20_any (f1, f2) HBD.out _); rintro e w1 ⟨rfl, hb1⟩
      rw [HLL.out]
      have hext : Wb.Ext w w1 := Wb.Ext.trans (by (repeat' (first | (with_reducible assumption) | (with_reducible exact Wb.Ext.refl _) | (with_reducible refine Wb.Ext.drew ?_) | (with_reducible refine Wb.Ext.drewN ?_ _) | (with_reducible refine Wb.Ext.alloc ?_ _) | (with_reducible refine Wb.Ext.trans ?_ (by assumption))))) hb1
      clear hb1
      go_wp2_with fail
      go_fit (rfits2_any sal _); rintro e w' ⟨rfl, hw⟩
      subst hw
      rw [HF.out]
      go_wp2
      refine bodyPost_ret (v := .tuple #[.int .i64 0, .int .i64 2]) (by simp [results, Try.results18, go_sem]) rfl ⟨by rw [H.out], by (repeat' (first | (with_reducible assumption) | (with_reducible exact Wb.Ext.refl _) | (with_reducible refine Wb.Ext.drew ?_) | (with_reducible refine Wb.Ext.drewN ?_ _) | (with_reducible refine Wb.Ext.alloc ?_ _) | (with_reducible refine Wb.Ext.trans ?_ (by assumption))))⟩
    have d5 : decide (paid < 0) = false := by simpa using h5
    by_cases h6 : 1000000 < paid
    · have H := ret 2 (by rw [HP.out, if_neg (by decide), if_neg (by omega), if_neg (by omega), if_pos (.inr h6)])
      have d6 : decide (1000000 < paid) = true := by simpa using h6
      clear ret
      go_enter Try.func18, Try.ntmps18
      go_wp2_with fail
      go_fit (days20_any (f1, f2) HBD.out _); rintro e w1 ⟨rfl, hb1⟩
      rw [HLL.out]
      have hext : Wb.Ext w w1 := Wb.Ext.trans (by (repeat' (first | (with_reducible assumption) | (with_reducible exact Wb.Ext.refl _) | (with_reducible refine Wb.Ext.drew ?_) | (with_reducible refine Wb.Ext.drewN ?_ _) | (with_reducible refine Wb.Ext.alloc ?_ _) | (with_reducible refine Wb.Ext.trans ?_ (by assumption))))) hb1
      clear hb1
      go_wp2_with fail
      go_fit (rfits2_any sal _); rintro e w' ⟨rfl, hw⟩
      subst hw
      rw [HF.out]
      go_wp2
      refine bodyPost_ret (v := .tuple #[.int .i64 0, .int .i64 2]) (by simp [results, Try.results18, go_sem]) rfl ⟨by rw [H.out], by (repeat' (first | (with_reducible assumption) | (with_reducible exact Wb.Ext.refl _) | (with_reducible refine Wb.Ext.drew ?_) | (with_reducible refine Wb.Ext.drewN ?_ _) | (with_reducible refine Wb.Ext.alloc ?_ _) | (with_reducible refine Wb.Ext.trans ?_ (by assumption))))⟩
    have d6 : decide (1000000 < paid) = false := by simpa using h6
    by_cases h7 : m = 0
    · have H := ret 0 (by rw [HP.out, if_neg (by decide), if_neg (by omega), if_neg (by omega), if_neg (by omega), if_pos h7])
      clear ret
      subst h7
      go_enter Try.func18, Try.ntmps18
      go_wp2_with fail
      go_fit (days20_any (f1, f2) HBD.out _); rintro e w1 ⟨rfl, hb1⟩
      rw [HLL.out]
      have hext : Wb.Ext w w1 := Wb.Ext.trans (by (repeat' (first | (with_reducible assumption) | (with_reducible exact Wb.Ext.refl _) | (with_reducible refine Wb.Ext.drew ?_) | (with_reducible refine Wb.Ext.drewN ?_ _) | (with_reducible refine Wb.Ext.alloc ?_ _) | (with_reducible refine Wb.Ext.trans ?_ (by assumption))))) hb1
      clear hb1
      go_wp2_with fail
      go_fit (rfits2_any sal _); rintro e w' ⟨rfl, hw⟩
      subst hw
      rw [HF.out]
      go_wp2
      refine bodyPost_ret (v := .tuple #[.int .i64 0, .int .i64 0]) (by simp [results, Try.results18, go_sem]) rfl ⟨by rw [H.out], by (repeat' (first | (with_reducible assumption) | (with_reducible exact Wb.Ext.refl _) | (with_reducible refine Wb.Ext.drew ?_) | (with_reducible refine Wb.Ext.drewN ?_ _) | (with_reducible refine Wb.Ext.alloc ?_ _) | (with_reducible refine Wb.Ext.trans ?_ (by assumption))))⟩
    have d7 : (m == 0) = false := by simpa using h7
    obtain ⟨n, hn⟩ : ∃ n, lost * (1000000 - paid) = n := ⟨_, rfl⟩
    have hnb : 0 ≤ n ∧ n ≤ 527040 * 1000000 := by
      rw [← hn]
      exact ⟨Int.mul_nonneg (by omega) (by omega), Int.mul_le_mul (by omega) (by omega) (by omega) (by omega)⟩
    have en : IntKind.i64.wrap (lost * (1000000 - paid)) = n := by rw [hn]; exact IntWalk.i64_in _ (by omega)
    have H := Lib.hid (show lossR (f1, f2) sal m lost paid = Wb.partR sal n (m * 1000000) by rw [HP.out, if_neg (by decide), if_neg (by omega), if_neg (by omega), if_neg (by omega), if_neg h7, hn])
    obtain ⟨⟨p1, p2⟩, hp⟩ : ∃ p, Wb.partR sal n (m * 1000000) = p := ⟨_, rfl⟩
    have HPP := Lib.hid hp
    obtain ⟨hn0, hn1⟩ := hnb
    have hm2 : 0 ≤ m := by omega
    clear hp ret h7 hn
    go_enter Try.func18, Try.ntmps18
    go_wp2_with fail
    go_fit (days20_any (f1, f2) HBD.out _); rintro e w1 ⟨rfl, hb1⟩
    rw [HLL.out]
    have hext : Wb.Ext w w1 := Wb.Ext.trans (by (repeat' (first | (with_reducible assumption) | (with_reducible exact Wb.Ext.refl _) | (with_reducible refine Wb.Ext.drew ?_) | (with_reducible refine Wb.Ext.drewN ?_ _) | (with_reducible refine Wb.Ext.alloc ?_ _) | (with_reducible refine Wb.Ext.trans ?_ (by assumption))))) hb1
    clear hb1
    go_wp2_with fail
    go_fit (rfits2_any sal _); rintro e w' ⟨rfl, hw⟩
    subst hw
    rw [HF.out]
    go_wp2_with fail
    go_fit (rpart2_any sal n (m * 1000000) (by omega) (by omega) _); rintro e w2 ⟨rfl, hb2⟩
    rw [HPP.out]
    go_wp2
    refine bodyPost_ret (v := .tuple #[.int .i64 p1, .int .i64 p2]) (by simp [results, Try.results18, go_sem]) rfl ⟨by rw [H.out, HPP.out], Wb.Ext.trans (by (repeat' (first | (with_reducible assumption) | (with_reducible exact Wb.Ext.refl _) | (with_reducible refine Wb.Ext.drew ?_) | (with_reducible refine Wb.Ext.drewN ?_ _) | (with_reducible refine Wb.Ext.alloc ?_ _) | (with_reducible refine Wb.Ext.trans ?_ (by assumption))))) hb2⟩

end Go.Proofs.Ytheofklbmknipaa
