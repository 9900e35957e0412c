/- The long division of 128 bits by 64 (Go's math/bits.Div64), in plain numbers. -/
import Derived.Test.YtheofklbmknipaaPlain0
namespace Go.Proofs.Ytheofklbmknipaa
namespace Wb

/-- one digit: what its loop holds -/
structure Dig (u d y1 y0 q r : Nat) : Prop where
  eq : q * y1 + r = u
  ge : (u * 4294967296 + d) / (y1 * 4294967296 + y0) ≤ q
  le : q ≤ 4294967297
/-- a divisor's halves, and what is ahead of the digit -/
structure DigOk (u d y1 y0 : Nat) : Prop where
  h1 : 2147483648 ≤ y1 ∧ y1 < 4294967296
  h0 : y0 < 4294967296
  hd : d < 4294967296
  hu : u < y1 * 4294967296 + y0
theorem mul_split (q y1 y0 : Nat) : q * (y1 * 4294967296 + y0) = q * y1 * 4294967296 + q * y0 := by rw [Nat.mul_add, Nat.mul_assoc]
theorem dig_start {u d y1 y0 : Nat} (h : DigOk u d y1 y0) : Dig u d y1 y0 (u / y1) (u % y1) := by
  obtain ⟨⟨h1, h2⟩, h3, h4, h5⟩ := h
  refine ⟨by rw [Nat.mul_comm]; exact Nat.div_add_mod u y1, ?_, ?_⟩
  · rw [Nat.le_div_iff_mul_le (by omega)]
    have h6 := Nat.div_mul_le_self (u * 4294967296 + d) (y1 * 4294967296 + y0)
    rw [mul_split] at h6
    generalize (u * 4294967296 + d) / (y1 * 4294967296 + y0) = t at h6 ⊢
    generalize t * y1 = a at h6 ⊢
    generalize t * y0 = b at h6
    omega
  · have : u / y1 < 4294967298 := by rw [Nat.div_lt_iff_lt_mul (by omega)]; omega
    omega
theorem dig_gt {u d y1 y0 q r : Nat} (h : DigOk u d y1 y0) (k : Dig u d y1 y0 q r) (hc : 4294967296 ≤ q ∨ r * 4294967296 + d < q * y0) : (u * 4294967296 + d) / (y1 * 4294967296 + y0) < q := by
  obtain ⟨⟨h1, h2⟩, h3, h4, h5⟩ := h
  obtain ⟨k1, _, k3⟩ := k
  rw [Nat.div_lt_iff_lt_mul (by omega), mul_split]
  rcases hc with hc | hc
  · have : 4294967296 * y1 ≤ q * y1 := Nat.mul_le_mul_right _ hc
    have : 4294967296 * y0 ≤ q * y0 := Nat.mul_le_mul_right _ hc
    generalize q * y1 = a at *
    generalize q * y0 = b at *
    omega
  · have e : (q * y1 + r) * 4294967296 = q * y1 * 4294967296 + r * 4294967296 := Nat.add_mul ..
    rw [k1] at e
    rw [e, Nat.add_assoc]
    exact Nat.add_lt_add_left hc _
theorem dig_more {u d y1 y0 q r : Nat} (h : DigOk u d y1 y0) (k : Dig u d y1 y0 q r) (hc : 4294967296 ≤ q ∨ r * 4294967296 + d < q * y0) : Dig u d y1 y0 (q - 1) (r + y1) ∧ 0 < q ∧ q - 1 ≤ 4294967296 := by
  have hg := dig_gt h k hc
  obtain ⟨k1, k2, k3⟩ := k
  have hg0 : 0 < q := Nat.lt_of_le_of_lt (Nat.zero_le _) hg
  obtain ⟨p, rfl⟩ : ∃ p, q = p + 1 := ⟨q - 1, by omega⟩
  refine ⟨⟨?_, by omega, by omega⟩, by omega, by omega⟩
  rw [Nat.add_sub_cancel]
  rw [Nat.add_mul, Nat.one_mul] at k1
  omega
theorem dig_end {u d y1 y0 q r : Nat} (h : DigOk u d y1 y0) (k : Dig u d y1 y0 q r) (h2 : q * y0 ≤ r * 4294967296 + d) : q = (u * 4294967296 + d) / (y1 * 4294967296 + y0) := by
  obtain ⟨⟨h1, _⟩, h3, h4, h5⟩ := h
  obtain ⟨k1, k2, k3⟩ := k
  refine Nat.le_antisymm ?_ k2
  rw [Nat.le_div_iff_mul_le (by omega), mul_split]
  generalize q * y1 = a at *
  generalize q * y0 = b at *
  omega
theorem dig_break {u d y1 y0 q r : Nat} (h : DigOk u d y1 y0) (k : Dig u d y1 y0 q r) (hq : q ≤ 4294967296) (hr : 4294967296 ≤ r) : q = (u * 4294967296 + d) / (y1 * 4294967296 + y0) := by
  refine dig_end h k ?_
  have : q * y0 ≤ 4294967296 * y0 := Nat.mul_le_mul_right _ hq
  have := h.h0
  omega
theorem dig_lt {u d y1 y0 : Nat} (h : DigOk u d y1 y0) : (u * 4294967296 + d) / (y1 * 4294967296 + y0) < 4294967296 := by
  obtain ⟨⟨h1, _⟩, h3, h4, h5⟩ := h
  rw [Nat.div_lt_iff_lt_mul (by omega)]
  omega
/-- what is left of a digit -/
theorem dig_rest {u d y1 y0 q : Nat} (h : DigOk u d y1 y0) (hq : q = (u * 4294967296 + d) / (y1 * 4294967296 + y0)) : q * (y1 * 4294967296 + y0) + (u * 4294967296 + d) % (y1 * 4294967296 + y0) = u * 4294967296 + d ∧ (u * 4294967296 + d) % (y1 * 4294967296 + y0) < y1 * 4294967296 + y0 := by
  refine ⟨?_, Nat.mod_lt _ (by have := h.h1; omega)⟩
  subst hq
  rw [Nat.mul_comm]; exact Nat.div_add_mod _ _
/-- two digits -/
theorem dig_two {u d1 d0 Y q1 r1 q0 r0 : Nat} (hY : 0 < Y) (h1 : q1 * Y + r1 = u * 4294967296 + d1) (h0 : q0 * Y + r0 = r1 * 4294967296 + d0) (hr : r0 < Y) :
    ((u * 4294967296 + d1) * 4294967296 + d0) / Y = q1 * 4294967296 + q0 ∧ ((u * 4294967296 + d1) * 4294967296 + d0) % Y = r0 := by
  have e : (u * 4294967296 + d1) * 4294967296 + d0 = r0 + (q1 * 4294967296 + q0) * Y := by
    have e2 : (q1 * 4294967296 + q0) * Y = q1 * Y * 4294967296 + q0 * Y := by rw [Nat.add_mul, Nat.mul_right_comm]
    rw [e2]
    generalize q1 * Y = a at *
    generalize q0 * Y = b at *
    omega
  rw [e]
  exact ⟨by rw [Nat.add_mul_div_right _ _ hY, Nat.div_eq_of_lt hr, Nat.zero_add], by rw [Nat.add_mul_mod_self_right, Nat.mod_eq_of_lt hr]⟩
/-- 128 bits, taken up by s -/
theorem up_s {hi lo S T : Nat} (hST : S * T = 18446744073709551616) (hlo : lo < 18446744073709551616) :
    (hi * S + lo / T) * 18446744073709551616 + lo * S % 18446744073709551616 = (hi * 18446744073709551616 + lo) * S := by
  have hT : 0 < T := Nat.pos_of_ne_zero (fun e => by rw [e, Nat.mul_zero] at hST; cases hST)
  have hS : 0 < S := Nat.pos_of_ne_zero (fun e => by rw [e, Nat.zero_mul] at hST; cases hST)
  have e1 : lo * S = lo / T * 18446744073709551616 + lo % T * S := by
    rw [← hST]
    have := Nat.div_add_mod lo T
    conv => lhs; rw [← this, Nat.add_mul]
    rw [Nat.mul_comm T, Nat.mul_assoc, Nat.mul_comm T S]
  have e2 : lo % T * S < 18446744073709551616 := by
    rw [← hST, Nat.mul_comm S T]
    exact Nat.mul_lt_mul_of_pos_right (Nat.mod_lt _ hT) hS
  have e3 : lo * S % 18446744073709551616 = lo % T * S := by
    rw [e1, Nat.mul_comm (lo / T), Nat.mul_add_mod, Nat.mod_eq_of_lt e2]
  rw [e3, Nat.add_mul, Nat.add_mul, e1, Nat.mul_right_comm hi S]
  omega
theorem up_lt {hi lo S T y : Nat} (hST : S * T = 18446744073709551616) (hlo : lo < 18446744073709551616) (hy : hi < y) : hi * S + lo / T < y * S := by
  have hT : 0 < T := Nat.pos_of_ne_zero (fun e => by rw [e, Nat.mul_zero] at hST; cases hST)
  have h1 : lo / T < S := by rw [Nat.div_lt_iff_lt_mul hT, hST]; exact hlo
  have h2 : (hi + 1) * S ≤ y * S := Nat.mul_le_mul_right _ hy
  rw [Nat.add_mul, Nat.one_mul] at h2
  omega
theorem down_s {N y S : Nat} (hS : 0 < S) : N * S / (y * S) = N / y ∧ N * S % (y * S) / S = N % y := by
  refine ⟨Nat.mul_div_mul_right _ _ hS, ?_⟩
  rw [Nat.mul_mod_mul_right, Nat.mul_div_cancel _ hS]

end Wb
end Go.Proofs.Ytheofklbmknipaa
