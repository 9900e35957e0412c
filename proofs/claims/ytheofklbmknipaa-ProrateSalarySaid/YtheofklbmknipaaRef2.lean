/- The reference of chapter 02: Fits, Right, Abs, bit, Rounded. -/
import Derived.Test.YtheofklbmknipaaRef3b
import Derived.Deep.DeepCutAuto
namespace Go.Proofs.Ytheofklbmknipaa
open Go.RowKit Go.Lib
set_option maxRecDepth 8000

theorem rfits2_any (c : Int) (w : World) :
    Calls Try.prog 36 #[.int .i64 c] w fun e w' => e = .returned (.bool (Wb.fits c)) ∧ w = w' := by
  by_cases h : c < -1125899906842624
  · have d : decide (-1125899906842624 ≤ c) = false := by simp; omega
    have H := Lib.hid (show Wb.fits c = false by rw [Bool.eq_false_iff]; intro h; have := (Wb.fits_iff _).1 h; omega)
    clear h
    go_enter Try.func36, Try.ntmps36
    go_wp2
    go_ret
    exact ⟨Wb.ret_bool H.out.symm, by first | rfl | trivial⟩
  have d : decide (-1125899906842624 ≤ c) = true := by simp; omega
  by_cases h2 : c ≤ 1125899906842624
  · have d2 : decide (c ≤ 1125899906842624) = true := by simpa using h2
    have H := Lib.hid ((Wb.fits_iff c).2 (by omega))
    clear h h2
    go_enter Try.func36, Try.ntmps36
    go_wp2
    go_ret
    exact ⟨Wb.ret_bool H.out.symm, by first | rfl | trivial⟩
  · have d2 : decide (c ≤ 1125899906842624) = false := by simpa using h2
    have H := Lib.hid (show Wb.fits c = false by rw [Bool.eq_false_iff]; intro h; have := (Wb.fits_iff _).1 h; omega)
    clear h h2
    go_enter Try.func36, Try.ntmps36
    go_wp2
    go_ret
    exact ⟨Wb.ret_bool H.out.symm, by first | rfl | trivial⟩
theorem rright2_any (c : Int) (w : World) :
    Calls Try.prog 52 #[.int .i64 c] w fun e w' => e = .returned (.bool (Wb.rightR c)) ∧ w = w' := by
  have H := Lib.hid (show Wb.rightR c = (decide (-1000000000 ≤ c) && decide (c ≤ 1000000000)) from rfl)
  obtain ⟨b1, h1⟩ : ∃ b, decide (-1000000000 ≤ c) = b := ⟨_, rfl⟩
  obtain ⟨b2, h2⟩ : ∃ b, decide (c ≤ 1000000000) = b := ⟨_, rfl⟩
  have H2 := Lib.hid (show Wb.rightR c = (b1 && b2) by rw [H.out, h1, h2])
  go_enter Try.func52, Try.ntmps52
  cases b1 <;> cases b2 <;> (go_wp2; go_ret; exact ⟨Wb.ret_bool H2.out.symm, by first | rfl | trivial⟩)
theorem rabs2_any (n : Int) (hn : -9223372036854775808 ≤ n ∧ n ≤ 9223372036854775807) (w : World) :
    Calls Try.prog 57 #[.int .i64 n] w fun e w' => e = .returned (.int .u64 (n.natAbs : Nat)) ∧ w = w' := by
  obtain ⟨h0, h1⟩ := hn
  by_cases h : n < 0
  · have d : decide (n < 0) = true := by simpa using h
    have H := Lib.hid (show IntKind.u64.wrap (-(IntKind.u64.wrap n)) = (n.natAbs : Nat) by rw [IntKind.wrap_u64, IntKind.wrap_u64]; omega)
    have H2 := Lib.hid (show (-(n % 18446744073709551616)) % 18446744073709551616 = (n.natAbs : Nat) by omega)
    go_enter Try.func57, Try.ntmps57
    go_wp2
    go_ret
    exact ⟨by first | rfl | (simp; exact H.out), by first | rfl | trivial⟩
  · have d : decide (n < 0) = false := by simpa using h
    have H := Lib.hid (show n = (n.natAbs : Nat) by omega)
    go_enter Try.func57, Try.ntmps57
    go_wp2
    go_ret
    exact ⟨by first | rfl | exact Wb.ret_int H.out | (simp; omega), by first | rfl | trivial⟩
/-- half a one up -/
theorem rrounded1_any (q r d : Nat) (b : Bool) (hr : r < d) (hd : d < 9223372036854775808) (hq : q < 9223372036854775808) (w : World) :
    Calls Try.prog 58 #[.int .u64 q, .int .u64 r, .int .u64 d, .bool b, .int .i64 1] w fun e w' => e = .returned (.int .u64 ((if d ≤ 2 * r then q + 1 else q : Nat) : Int)) ∧ w = w' := by
  by_cases h : d ≤ 2 * r
  · have H := Lib.hid (show (if d ≤ 2 * r then q + 1 else q : Nat) = q + 1 from if_pos h)
    have dd : decide ((d : Int) - (r : Int) ≤ (r : Int)) = true := by simp; omega
    have hsub : ((d - r : Nat) : Int) = (d : Int) - r := by omega
    go_enter Try.func58, Try.ntmps58
    go_wp2
    go_ret
    exact ⟨by first | rfl | (rw [H.out]; first | rfl | simp), by first | rfl | trivial⟩
  · have H := Lib.hid (show (if d ≤ 2 * r then q + 1 else q : Nat) = q from if_neg h)
    have dd : decide ((d : Int) - (r : Int) ≤ (r : Int)) = false := by simp; omega
    go_enter Try.func58, Try.ntmps58
    go_wp2
    go_ret
    exact ⟨by first | rfl | rw [H.out], by first | rfl | trivial⟩
theorem rbit_any (n at_ : Nat) (hn : n < 18446744073709551616) (ha : at_ ≤ 64) (w : World) :
    Calls Try.prog 90 #[.int .u64 n, .int .i64 at_] w fun e w' => e = .returned (.int .u64 ((n / 2 ^ at_ % 2 : Nat) : Int)) ∧ w = w' := by
  go_enter Try.func90, Try.ntmps90
  go_wp2_with fail
  go_loopw [0, 5] (fun nv iv wr => ∃ (k m : Nat), k ≤ at_ ∧ iv = .int .i64 k ∧ nv = .int .u64 m ∧ m ≤ n ∧ Hid (m = n / 2 ^ k) ∧ w = wr) (fun _ iv _ => at_ - (intOf iv).toNat)
  case atStart => exact ⟨0, n, Nat.zero_le _, rfl, rfl, Nat.le_refl _, Lib.hid (by simp), by first | rfl | trivial⟩
  case round =>
    obtain ⟨k, m, hk, rfl, rfl, hm, HM, rfl⟩ := hrel
    by_cases hlt : k < at_
    · have hki : (k : Int) < at_ := by omega
      go_wp2
      go_roundw
      case rel => exact ⟨k + 1, m / 2, by omega, by go_num, by go_num, by omega, Lib.hid (by rw [HM.out, Nat.div_div_eq_div_mul, Nat.pow_succ]), by first | rfl | trivial⟩
      case measure => simp [intOf]; omega
    · obtain rfl : k = at_ := by omega
      have H := Lib.hid (show (n / 2 ^ k % 2 : Nat) = m % 2 by rw [HM.out])
      go_wp2
      go_ret
      exact ⟨by first | rfl | (rw [H.out]; first | rfl | simp), by first | rfl | trivial⟩

end Go.Proofs.Ytheofklbmknipaa
