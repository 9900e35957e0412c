/- The reference of chapter 03 (share): over. -/
import Derived.Test.YtheofklbmknipaaCents
import Derived.Test.YtheofklbmknipaaPlain20
import Derived.Test.YtheofklbmknipaaTbl
import Derived.Laws.Bits64b
import Derived.Laws.BitsLemmas
import Derived.Deep.DeepCutAuto
namespace Go.Proofs.Ytheofklbmknipaa
open Go.RowKit Go.Lib
set_option maxRecDepth 8000

theorem and_one (x : Nat) (h : x < 4611686018427387904) : bits .and .i64 (x : Int) 1 = ((x % 2 : Nat) : Int) := by
  have h1 := bits_mask .i64 63 (by decide) (fun n h0 h1 => IntWalk.i64_in n (by omega)) 1 (by decide) (x : Int) (by omega) (by omega)
  have e : ((2 : Int) ^ 1 - 1) = 1 := by decide
  have e2 : ((2 : Int) ^ 1) = 2 := by decide
  rw [e, e2] at h1
  rw [h1]
  omega
/-- where the digits stand: j of them are left -/
def Ov (A B C j Q R : Nat) : Prop := Q * C + R = A / 2 ^ j * B ∧ R < C
theorem ov_q {A B C j Q R : Nat} (h : Q * C + R = A / 2 ^ j * B) (hB : B ≤ C) (hC : 0 < C) : Q ≤ A := by
  have h1 : Q * C ≤ A / 2 ^ j * C := Nat.le_trans (by omega) (Nat.mul_le_mul_left (A / 2 ^ j) hB)
  exact Nat.le_trans (Nat.le_of_mul_le_mul_right h1 hC) (Nat.div_le_self _ _)
theorem ov_step {A B C i Q R : Nat} (h : Ov A B C (i + 1) Q R) : 2 * Q * C + (2 * R + (A / 2 ^ i % 2) * B) = A / 2 ^ i * B := by
  have e : A / 2 ^ i = 2 * (A / 2 ^ (i + 1)) + A / 2 ^ i % 2 := by
    rw [Nat.pow_succ, ← Nat.div_div_eq_div_mul]
    omega
  have h1 := h.1
  have : A / 2 ^ i * B = 2 * (A / 2 ^ (i + 1) * B) + A / 2 ^ i % 2 * B := by
    conv => lhs; rw [e]
    rw [Nat.add_mul, Nat.mul_assoc]
  rw [this, ← h1, Nat.mul_assoc]
  omega
theorem ov_end {A B C Q R : Nat} (h : Ov A B C 0 Q R) : A * B / C = Q ∧ A * B % C = R := by
  obtain ⟨h1, h2⟩ := h
  rw [Nat.pow_zero, Nat.div_one] at h1
  rw [← h1]
  have hC : 0 < C := by omega
  exact ⟨by rw [Nat.mul_comm, Nat.mul_add_div hC, Nat.div_eq_of_lt h2, Nat.add_zero], by rw [Nat.mul_comm, Nat.mul_add_mod, Nat.mod_eq_of_lt h2]⟩
set_option maxHeartbeats 4000000 in
theorem over_any (A B C : Nat) (w : World) (hA : A ≤ 1125899906842624) (hB : B ≤ C) (hC : 0 < C) (hC2 : C ≤ 1125899906842624) :
    Calls Try.prog 63 #[.int .i64 A, .int .i64 B, .int .i64 C] w fun e w' => e = .returned (.tuple #[.int .i64 ((A * B / C : Nat) : Int), .int .i64 ((A * B % C : Nat) : Int)]) ∧ w = w' := by
  go_enter Try.func63, Try.ntmps63
  go_wp2_with fail
  go_loopw [8, 9, 10] (fun qv rv iv wr => ∃ (j Q R : Nat) (z : Int), j ≤ 58 ∧ iv = .int .i64 z ∧ Hid (z = (j : Int) - 1) ∧ qv = .int .i64 Q ∧ rv = .int .i64 R ∧ Hid (Ov A B C j Q R) ∧ w = wr) (fun _ _ iv _ => ((intOf iv) + 1).toNat)
  case atStart => exact ⟨58, 0, 0, 57, by omega, rfl, Lib.hid (by omega), rfl, rfl, Lib.hid ⟨by rw [Nat.div_eq_of_lt (by omega)]; simp, hC⟩, by first | rfl | trivial⟩
  case round =>
    obtain ⟨j, Q, R, z, hj, rfl, HZ, rfl, rfl, HO, rfl⟩ := hrel
    have hQ : Q ≤ A := ov_q HO.out.1 hB hC
    have hR : R < C := HO.out.2
    by_cases hj0 : j = 0
    case pos =>
      subst hj0
      obtain rfl : z = -1 := by have := HZ.out; omega
      obtain ⟨e1, e2⟩ := ov_end HO.out
      have E1 := Lib.hid e1
      have E2 := Lib.hid e2
      clear e1 e2
      go_wp2
      refine bodyPost_ret (v := .tuple #[.int .i64 Q, .int .i64 R]) (by simp [results, Try.results63, go_sem]) rfl ⟨by rw [E1.out, E2.out], by first | rfl | trivial⟩
    obtain ⟨i, rfl⟩ : ∃ i, j = i + 1 := ⟨j - 1, by omega⟩
    obtain rfl : z = (i : Int) := by have := HZ.out; omega
    have hi : decide ((0 : Int) ≤ i) = true := by simp
    have hi2 : (i : Int) ≤ 57 := by omega
    have HST := Lib.hid (ov_step HO.out)
    have hb : bits .and .i64 ((A : Int) / 2 ^ i) 1 = ((A / 2 ^ i % 2 : Nat) : Int) := by
      have := Nat.div_le_self A (2 ^ i)
      have e := and_one (A / 2 ^ i) (by omega)
      rw [← e]
      congr 1
    obtain ⟨β, hβ, hβ2⟩ : ∃ β, A / 2 ^ i % 2 = β ∧ β < 2 := ⟨_, rfl, by omega⟩
    rw [hβ] at hb
    have HST2 := Lib.hid (show 2 * Q * C + (2 * R + β * B) = A / 2 ^ i * B by rw [← hβ]; exact HST.out)
    clear HST hβ
    have hcase : β = 0 ∨ β = 1 := by omega
    clear hβ2
    rcases hcase with rfl | rfl
    · have HS3 := Lib.hid (show 2 * Q * C + 2 * R = A / 2 ^ i * B by have := HST2.out; rw [Nat.zero_mul, Nat.add_zero] at this; exact this)
      clear HST2
      go_wp2_with fail
      go_loopw [8, 9] (fun qv rv wr => ∃ Q2 R2 : Nat, qv = .int .i64 Q2 ∧ rv = .int .i64 R2 ∧ R2 < 4 * C ∧ Hid (Q2 * C + R2 = A / 2 ^ i * B) ∧ w = wr) (fun _ rv _ => (intOf rv).toNat)
      case atStart => exact ⟨2 * Q, 2 * R, by go_num, by go_num, by omega, HS3, by first | rfl | trivial⟩
      case round =>
        obtain ⟨Q2, R2, rfl, rfl, hR2, HQ, rfl⟩ := hrel
        have hQ2 : Q2 ≤ A := ov_q HQ.out hB hC
        by_cases hlt : C ≤ R2
        · have d : decide ((C : Int) ≤ R2) = true := by simp; omega
          go_wp2
          go_roundw
          case rel => exact ⟨Q2 + 1, R2 - C, by go_num, by go_num, by omega, Lib.hid (by have := HQ.out; rw [Nat.add_mul, Nat.one_mul]; omega), by first | rfl | trivial⟩
          case measure => first | (simp [intOf]; done) | (simp [intOf]; omega)
        · have d : decide ((C : Int) ≤ R2) = false := by simp; omega
          go_wp2
          go_roundw
          case rel => exact ⟨i, Q2, R2, (i : Int) - 1, by omega, by go_num, Lib.hid rfl, rfl, rfl, Lib.hid ⟨HQ.out, by omega⟩, by first | rfl | trivial⟩
          case measure => first | (simp [intOf]; done) | (simp [intOf]; omega)
    · have HS3 := Lib.hid (show 2 * Q * C + (2 * R + B) = A / 2 ^ i * B by have := HST2.out; rw [Nat.one_mul] at this; exact this)
      clear HST2
      go_wp2_with fail
      go_loopw [8, 9] (fun qv rv wr => ∃ Q2 R2 : Nat, qv = .int .i64 Q2 ∧ rv = .int .i64 R2 ∧ R2 < 4 * C ∧ Hid (Q2 * C + R2 = A / 2 ^ i * B) ∧ w = wr) (fun _ rv _ => (intOf rv).toNat)
      case atStart => exact ⟨2 * Q, 2 * R + B, by go_num, by go_num, by omega, HS3, by first | rfl | trivial⟩
      case round =>
        obtain ⟨Q2, R2, rfl, rfl, hR2, HQ, rfl⟩ := hrel
        have hQ2 : Q2 ≤ A := ov_q HQ.out hB hC
        by_cases hlt : C ≤ R2
        · have d : decide ((C : Int) ≤ R2) = true := by simp; omega
          go_wp2
          go_roundw
          case rel => exact ⟨Q2 + 1, R2 - C, by go_num, by go_num, by omega, Lib.hid (by have := HQ.out; rw [Nat.add_mul, Nat.one_mul]; omega), by first | rfl | trivial⟩
          case measure => first | (simp [intOf]; done) | (simp [intOf]; omega)
        · have d : decide ((C : Int) ≤ R2) = false := by simp; omega
          go_wp2
          go_roundw
          case rel => exact ⟨i, Q2, R2, (i : Int) - 1, by omega, by go_num, Lib.hid rfl, rfl, rfl, Lib.hid ⟨HQ.out, by omega⟩, by first | rfl | trivial⟩
          case measure => first | (simp [intOf]; done) | (simp [intOf]; omega)

end Go.Proofs.Ytheofklbmknipaa
