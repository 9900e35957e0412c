/- Plain facts for chapter 20: rounding to the nearest; a part of an amount. No program in sight. -/
import Derived.Test.YtheofklbmknipaaPlain0
import Derived.Test.YtheofklbmknipaaPlain01
namespace Go.Proofs.Ytheofklbmknipaa
namespace Wb

/-- to the nearest, half a one up -/
def huN (n d : Nat) : Nat := (2 * n + d) / (2 * d)
theorem nat_div_iff {a b q : Nat} (hb : 0 < b) : a / b = q ↔ b * q ≤ a ∧ a < b * q + b := by
  have h1 := Nat.div_add_mod a b
  have h2 := Nat.mod_lt a hb
  constructor
  · rintro rfl
    generalize b * (a / b) = x at *
    omega
  · intro ⟨l, r⟩
    have e1 : b * q < b * (a / b + 1) := by
      rw [Nat.mul_add, Nat.mul_one]
      generalize b * (a / b) = x at *
      omega
    have e2 : b * (a / b) < b * (q + 1) := by
      rw [Nat.mul_add, Nat.mul_one]
      generalize b * (a / b) = x at *
      omega
    have := Nat.lt_of_mul_lt_mul_left e1
    have := Nat.lt_of_mul_lt_mul_left e2
    omega
theorem hu_iff {n d q : Nat} (hd : 0 < d) : huN n d = q ↔ 2 * (d * q) ≤ 2 * n + d ∧ 2 * n + d < 2 * (d * q) + 2 * d := by
  rw [huN, nat_div_iff (by omega), Nat.mul_assoc]
theorem hu_qr {n d q r : Nat} (h : q * d + r = n) (hr : r < d) : huN n d = if d ≤ 2 * r then q + 1 else q := by
  rw [hu_iff (by omega)]
  subst h
  rw [Nat.mul_comm q d]
  split
  · rw [Nat.mul_add, Nat.mul_one]; omega
  · omega
theorem hu_add (k n d : Nat) (hd : 0 < d) : huN (k * d + n) d = k + huN n d := by
  obtain ⟨h1, h2⟩ := (hu_iff (n := n) (q := huN n d) hd).1 rfl
  rw [hu_iff hd, Nat.mul_add, Nat.mul_comm k d]
  generalize d * k = a at *
  generalize d * huN n d = b at *
  omega
theorem hu_zero {d : Nat} (hd : 0 < d) : huN 0 d = 0 := by rw [hu_iff hd]; omega
theorem hu_mul (k d : Nat) (hd : 0 < d) : huN (k * d) d = k := by
  have := hu_add k 0 d hd
  rw [hu_zero hd] at this
  simpa using this
theorem hu_mono {n m d : Nat} (h : n ≤ m) : huN n d ≤ huN m d := Nat.div_le_div_right (by omega)
theorem hu_le {n k d : Nat} (hd : 0 < d) (h : n ≤ k * d) : huN n d ≤ k := by
  have := hu_mono (d := d) h
  rwa [hu_mul k d hd] at this
theorem hu_step {n b d : Nat} (hd : 0 < d) (h : b ≤ d) : huN (n + b) d ≤ huN n d + 1 := by
  have h1 : huN (n + b) d ≤ huN (1 * d + n) d := hu_mono (by omega)
  rw [hu_add 1 n d hd] at h1
  omega
theorem hu_anti {n d e : Nat} (hd : 0 < d) (h : d ≤ e) : huN n e ≤ huN n d := by
  obtain ⟨h1, _⟩ := (hu_iff (n := n) (q := huN n e) (Nat.lt_of_lt_of_le hd h)).1 rfl
  obtain ⟨_, h2⟩ := (hu_iff (n := n) (q := huN n d) hd).1 rfl
  generalize huN n e = q at *
  generalize huN n d = p at *
  rcases Nat.lt_or_ge p q with hq | hq
  · exfalso
    obtain ⟨t, rfl⟩ : ∃ t, q = p + 1 + t := ⟨q - (p + 1), by omega⟩
    have e1 : d * (p + 1 + t) ≤ e * (p + 1 + t) := Nat.mul_le_mul_right _ h
    have e2 : d * (p + t) ≤ e * (p + t) := Nat.mul_le_mul_right _ h
    simp only [Nat.mul_add, Nat.mul_one] at h1 h2 e1 e2
    generalize d * p = a at *
    generalize d * t = b at *
    generalize e * p = a' at *
    generalize e * t = b' at *
    omega
  · exact hq
/-- what the nearest is off by -/
theorem hu_off (n d : Nat) (hd : 0 < d) : 2 * (d * huN n d) ≤ 2 * n + d ∧ 2 * n ≤ 2 * (d * huN n d) + d := by
  obtain ⟨h1, h2⟩ := (hu_iff (n := n) (q := huN n d) hd).1 rfl
  omega
/-- of an amount with a sign -/
def sgn (neg : Bool) (q : Nat) : Int := if neg = true then -(q : Int) else q
/-- the part of an amount up to there -/
def upT (c : Int) (a d : Nat) : Int := sgn (decide (c < 0)) (huN (c.natAbs * a) d)
theorem upT_zero {c : Int} {d : Nat} (hd : 0 < d) : upT c 0 d = 0 := by rw [upT, Nat.mul_zero, hu_zero hd]; unfold sgn; split <;> rfl
theorem upT_all {c : Int} {d : Nat} (hd : 0 < d) : upT c d d = c := by
  rw [upT, hu_mul _ _ hd]; unfold sgn; split
  · rename_i h; have := of_decide_eq_true h; omega
  · rename_i h; have : ¬ c < 0 := by simpa using h
    omega
theorem upT_abs {c : Int} {a d : Nat} (hd : 0 < d) (h : a ≤ d) : (upT c a d).natAbs ≤ c.natAbs := by
  have h1 : huN (c.natAbs * a) d ≤ c.natAbs := hu_le hd (Nat.mul_le_mul_left _ h)
  unfold upT sgn
  split <;> omega
theorem upT_pos {c : Int} (h : 0 ≤ c) (a d : Nat) : upT c a d = huN (c.natAbs * a) d := by
  rw [upT, sgn, if_neg (by simpa using h)]
theorem upT_neg {c : Int} (h : c < 0) (a d : Nat) : upT c a d = -(huN (c.natAbs * a) d : Int) := by
  rw [upT, sgn, if_pos (by simpa using h)]
theorem upT_mono {c : Int} (h : 0 ≤ c) {a b d : Nat} (hab : a ≤ b) : upT c a d ≤ upT c b d := by
  rw [upT_pos h, upT_pos h]
  have := hu_mono (d := d) (Nat.mul_le_mul_left c.natAbs hab)
  omega
theorem upT_turn {c : Int} (h : c < 0) {a b d : Nat} (hab : a ≤ b) : upT c b d ≤ upT c a d := by
  rw [upT_neg h, upT_neg h]
  have := hu_mono (d := d) (Nat.mul_le_mul_left c.natAbs hab)
  omega
/-- one period's part: one of two, a cent apart -/
theorem hu_one {c i d : Nat} (hd : 0 < d) : c / d ≤ huN (c * (i + 1)) d - huN (c * i) d ∧ huN (c * (i + 1)) d - huN (c * i) d ≤ c / d + 1 ∧ huN (c * i) d ≤ huN (c * (i + 1)) d := by
  have h0 := Nat.div_add_mod c d
  have hm := Nat.mod_lt c hd
  have e : ∀ j, c * j = (c / d * j) * d + (c % d) * j := fun j => by
    conv => lhs; rw [← h0, Nat.add_mul]
    rw [Nat.mul_comm d (c / d), Nat.mul_right_comm]
  have h1 : huN (c * i) d = c / d * i + huN (c % d * i) d := by rw [e i, hu_add _ _ _ hd]
  have h2 : huN (c * (i + 1)) d = c / d * (i + 1) + huN (c % d * (i + 1)) d := by rw [e (i + 1), hu_add _ _ _ hd]
  have h3 := hu_mono (d := d) (show c % d * i ≤ c % d * (i + 1) from Nat.mul_le_mul_left _ (by omega))
  have h4 : huN (c % d * (i + 1)) d ≤ huN (c % d * i) d + 1 := by rw [Nat.mul_add, Nat.mul_one]; exact hu_step hd (by omega)
  have h5 : c / d * (i + 1) = c / d * i + c / d := by rw [Nat.mul_add, Nat.mul_one]
  rw [h1, h2, h5]
  generalize c / d * i = a
  generalize c / d = b
  omega
theorem upT_one {c : Int} {i d : Nat} (hd : 0 < d) : ∃ m : Int, upT c (i + 1) d - upT c i d = m ∧ (if c < 0 then -((c.natAbs / d : Nat) : Int) - 1 else ((c.natAbs / d : Nat) : Int)) ≤ m ∧ m ≤ (if c < 0 then -((c.natAbs / d : Nat) : Int) else ((c.natAbs / d : Nat) : Int) + 1) := by
  refine ⟨_, rfl, ?_⟩
  obtain ⟨h1, h2, h3⟩ := hu_one (c := c.natAbs) (i := i) hd
  by_cases h : c < 0
  · rw [upT_neg h, upT_neg h, if_pos h, if_pos h]; omega
  · rw [upT_pos (by omega), upT_pos (by omega), if_neg h, if_neg h]; omega

/-- Between: what is told, the error -/
def betw (c f t o : Int) : Int × Int :=
  if fits c = false then (0, 9) else if o = 0 then (0, 22) else if o < 0 ∨ 1125899906842624 < o then (0, 2)
  else if f < 0 ∨ o < f ∨ t < 0 ∨ o < t then (0, 2) else if t < f then (0, 8) else (upT c t.toNat o.toNat - upT c f.toNat o.toNat, 0)
theorem betw_ok {c f t o : Int} (h1 : fits c = true) (h2 : 0 < o) (h3 : o ≤ 1125899906842624) (h4 : 0 ≤ f) (h5 : f ≤ t) (h6 : t ≤ o) : betw c f t o = (upT c t.toNat o.toNat - upT c f.toNat o.toNat, 0) := by
  unfold betw
  rw [if_neg (by simp [h1]), if_neg (by omega), if_neg (by omega), if_neg (by omega), if_neg (by omega)]
theorem betw_is (c f t o : Int) : ((betw c f t o).2 = 0 ∧ fits c = true ∧ 0 < o ∧ o ≤ 1125899906842624 ∧ 0 ≤ f ∧ f ≤ t ∧ t ≤ o ∧ (betw c f t o).1 = upT c t.toNat o.toNat - upT c f.toNat o.toNat) ∨ ((betw c f t o).2 ≠ 0 ∧ (betw c f t o).1 = 0) := by
  unfold betw
  split
  · exact .inr ⟨by decide, rfl⟩
  · rename_i h1
    split
    · exact .inr ⟨by decide, rfl⟩
    · split
      · exact .inr ⟨by decide, rfl⟩
      · split
        · exact .inr ⟨by decide, rfl⟩
        · split
          · exact .inr ⟨by decide, rfl⟩
          · exact .inl ⟨rfl, by simpa using h1, by omega, by omega, by omega, by omega, by omega, rfl⟩
/-- a rate's part, to the nearest -/
def partR (c n d : Int) : Int × Int :=
  if fits c = false then (0, 2) else if d = 0 then (0, 22) else if d < 0 then (0, 2)
  else if 1125899906842624 < huN (c.natAbs * n.natAbs) d.toNat then (0, 9) else (sgn (decide (c < 0) != decide (n < 0)) (huN (c.natAbs * n.natAbs) d.toNat), 0)
def rightR (r : Int) : Bool := decide (-1000000000 ≤ r) && decide (r ≤ 1000000000)
theorem rightR_iff {r : Int} : rightR r = true ↔ -1000000000 ≤ r ∧ r ≤ 1000000000 := by simp [rightR]
def ofR (c r : Int) : Int × Int := if fits c = false ∨ rightR r = false then (0, 2) else partR c r 1000000

end Wb
end Go.Proofs.Ytheofklbmknipaa
