/- Chapter 20: ProrateHours. -/
import Derived.Test.YtheofklbmknipaaQLaw0
namespace Go.Proofs.Ytheofklbmknipaa
open Go.RowKit Go.Lib
set_option maxRecDepth 8000
attribute [local go_sem ↓] Go.wp_at_zero Go.wp_at_succ

theorem hourly_ok {Y k : Int} (h0 : 0 ≤ Y) (h1 : Y ≤ 1099511627776) (h2 : 0 < k) (h3 : k ≤ 10080) : hourlyR Y k = (((Wb.huN (Y.toNat * 60) (52 * k).toNat : Nat) : Int), 0) ∧ hourlyR (-Y) k = (-((Wb.huN (Y.toNat * 60) (52 * k).toNat : Nat) : Int), 0) ∧ Wb.huN (Y.toNat * 60) (52 * k).toNat ≤ 70368744177664 := by
  have e1 : Y.natAbs = Y.toNat := by omega
  have e2 : (-Y).natAbs = Y.toNat := by omega
  have hd : 0 < (52 * k).toNat := by omega
  have hq : Wb.huN (Y.toNat * 60) (52 * k).toNat ≤ 70368744177664 := by
    refine Wb.hu_le hd ?_
    have : 70368744177664 * 1 ≤ 70368744177664 * (52 * k).toNat := Nat.mul_le_mul_left _ (by omega)
    omega
  refine ⟨?_, ?_, hq⟩
  · rw [hourlyR, if_neg (by rw [(Wb.fits_iff _).2 (by omega)]; decide), if_neg (by omega), if_neg (by omega), Wb.partR, if_neg (by rw [(Wb.fits_iff _).2 (by omega)]; decide), if_neg (by omega), if_neg (by omega), e1, show (60 : Int).natAbs = 60 from rfl, if_neg (by omega)]
    have : decide (Y < 0) = false := by simpa using h0
    rw [this]; rfl
  · rw [hourlyR, if_neg (by rw [(Wb.fits_iff _).2 (by omega)]; decide), if_neg (by omega), if_neg (by omega), Wb.partR, if_neg (by rw [(Wb.fits_iff _).2 (by omega)]; decide), if_neg (by omega), if_neg (by omega), e2, show (60 : Int).natAbs = 60 from rfl, if_neg (by omega)]
    by_cases hz : Y = 0
    · subst hz
      rw [show (0 : Int).toNat * 60 = 0 from rfl, Wb.hu_zero hd]; rfl
    · have : decide (-Y < 0) = true := by simp; omega
      rw [this]; rfl
structure Hours (Y k m a b : Int) : Prop where
  ha : hourlyR Y k = (a, 0)
  hb : hourlyR Y m = (b, 0)
  hc : hourlyR (-Y) k = (-a, 0)
  a0 : 0 ≤ a
  a1 : a ≤ 70368744177664
  b0 : 0 ≤ b
  ba : b ≤ a
  p0 : 0 ≤ a * 52 * k
  p1 : a * 52 * k ≤ 70368744177664
  o1 : 2 * (a * 52 * k - 60 * Y) ≤ 52 * k
  o2 : -52 * k ≤ 2 * (a * 52 * k - 60 * Y)
theorem hours_are {Y k m : Int} (h0 : 0 ≤ Y) (h1 : Y ≤ 1099511627776) (h2 : 0 < k) (h3 : k ≤ 10080) (h4 : k ≤ m) (h5 : m ≤ 10080) : ∃ a b, Hours Y k m a b := by
  obtain ⟨k1, k2, k3⟩ := hourly_ok h0 h1 h2 h3
  obtain ⟨m1, _, _⟩ := hourly_ok h0 h1 (k := m) (by omega) h5
  have hba := Wb.hu_anti (n := Y.toNat * 60) (d := (52 * k).toNat) (e := (52 * m).toNat) (by omega) (by omega)
  obtain ⟨f1, f2⟩ := Wb.hu_off (Y.toNat * 60) (52 * k).toNat (by omega)
  have e : (((52 * k).toNat * Wb.huN (Y.toNat * 60) (52 * k).toNat : Nat) : Int) = (Wb.huN (Y.toNat * 60) (52 * k).toNat : Nat) * 52 * k := by
    rw [Int.natCast_mul, show (((52 * k).toNat : Nat) : Int) = 52 * k by omega, Int.mul_comm, ← Int.mul_assoc]
  generalize Wb.huN (Y.toNat * 60) (52 * m).toNat = q2 at *
  generalize Wb.huN (Y.toNat * 60) (52 * k).toNat = q at *
  generalize (52 * k).toNat * q = D at *
  refine ⟨q, q2, k1, m1, k2, by omega, by omega, by omega, by omega, ?_, ?_, ?_, ?_⟩ <;> rw [← e] <;> omega
set_option maxHeartbeats 2000000 in
theorem hours_walk (Y k m : Int) (w : World) (hk : -9223372036854775808 ≤ k ∧ k ≤ 9223372036854775807) :
    Calls Try.prog 10 #[.int .i64 Y, .int .i64 k, .int .i64 m] w fun e w' => e = .returned (.bool true) ∧ Wb.Ext w w' := by
  have start : ∀ b1 b2 b3 b4 b5 b6 : Bool, decide (Y < 0) = b1 → decide (1099511627776 < Y) = b2 → decide (k ≤ 0) = b3 → decide (10080 < k) = b4 → decide (m < k) = b5 → decide (10080 < m) = b6 →
      (b1 || b2 || b3 || b4 || b5 || b6) = true →
      Calls Try.prog 10 #[.int .i64 Y, .int .i64 k, .int .i64 m] w fun e w' => e = .returned (.bool true) ∧ Wb.Ext w w' := by
    intro b1 b2 b3 b4 b5 b6 h1 h2 h3 h4 h5 h6 hb
    go_enter Try.func10, Try.ntmps10
    go_wp2_with fail
    go_fit (awake20_any _); rintro e w1 ⟨rfl, hb1⟩
    cases b1 <;> cases b2 <;> cases b3 <;> cases b4 <;> cases b5 <;> cases b6 <;> first | (cases hb; done) | (go_wp2; go_ret; exact ⟨rfl, hb1⟩)
  by_cases h : (decide (Y < 0) || decide (1099511627776 < Y) || decide (k ≤ 0) || decide (10080 < k) || decide (m < k) || decide (10080 < m)) = true
  · exact start _ _ _ _ _ _ rfl rfl rfl rfl rfl rfl h
  clear start
  have h' : (decide (Y < 0) || decide (1099511627776 < Y) || decide (k ≤ 0) || decide (10080 < k) || decide (m < k) || decide (10080 < m)) = false := by simpa using h
  simp only [Bool.or_eq_false_iff] at h'
  obtain ⟨⟨⟨⟨⟨d1, d2⟩, d3⟩, d4⟩, d5⟩, d6⟩ := h'
  simp only [decide_eq_false_iff_not] at d1 d2 d3 d4 d5 d6
  obtain ⟨a, b, H⟩ := hours_are (Y := Y) (k := k) (m := m) (by omega) (by omega) (by omega) (by omega) (by omega) (by omega)
  obtain ⟨ha, hb, hc, a0, a1, b0, ba, p0, p1, o1, o2⟩ := H
  have HA := Lib.hid ha
  have HB := Lib.hid hb
  have HC := Lib.hid hc
  have e1 : decide (Y < 0) = false := by simpa using d1
  have e2 : decide (1099511627776 < Y) = false := by simpa using d2
  have e3 : decide (k ≤ 0) = false := by simpa using d3
  have e4 : decide (10080 < k) = false := by simpa using d4
  have e5 : decide (m < k) = false := by simpa using d5
  have e6 : decide (10080 < m) = false := by simpa using d6
  have e7 : decide (a < b) = false := by simp; omega
  have e8 : decide (2 * (a * 52 * k - 60 * Y) ≤ 52 * k) = true := by simp; omega
  have e9 : decide (-52 * k ≤ 2 * (a * 52 * k - 60 * Y)) = true := by simp; omega
  clear ha hb hc h
  go_enter Try.func10, Try.ntmps10
  go_wp2_with fail
  go_fit (awake20_any _); rintro e w1 ⟨rfl, hb1⟩
  go_wp2_with fail
  go_fit (hourly_any Y k _); rintro e w2 ⟨rfl, hb2⟩
  rw [HA.out]
  have hx2 := hb1.trans hb2
  clear hb1 hb2
  go_wp2_with fail
  go_fit (hourly_any Y m _); rintro e w3 ⟨rfl, hb3⟩
  rw [HB.out]
  have hx3 := hx2.trans hb3
  clear hb3
  go_wp2_with fail
  go_fit (hourly_any (-Y) k _); rintro e w4 ⟨rfl, hb4⟩
  rw [HC.out]
  have hx4 := hx3.trans hb4
  clear hb4
  go_wp2
  go_ret
  exact ⟨rfl, by (repeat' (first | (with_reducible assumption) | (with_reducible exact Wb.Ext.refl _) | (with_reducible refine Wb.Ext.drew ?_) | (with_reducible refine Wb.Ext.drewN ?_ _) | (with_reducible refine Wb.Ext.alloc ?_ _) | (with_reducible refine Wb.Ext.trans ?_ (by assumption))))⟩

end Go.Proofs.Ytheofklbmknipaa
