/- Plain: a product bit by bit (the reference of chapter 02). No program in sight. -/
import Derived.Test.YtheofklbmknipaaPlainDvd
namespace Go.Proofs.Ytheofklbmknipaa
namespace Wb

theorem valB_noughts : ∀ n : Nat, valB (List.replicate n 0) = 0
  | 0 => rfl
  | n + 1 => by rw [List.replicate_succ, valB, valB_noughts n]
theorem valB_at {l : List Nat} {p x : Nat} (h : l[p]? = some x) : x * 2 ^ p ≤ valB l := by
  have := valB_set 0 h
  omega
theorem valB_high {l : List Nat} {p q x : Nat} (h : l[p]? = some x) (hq : q ≤ p) (hv : valB l < 2 ^ q) : x = 0 := by
  have h1 := valB_at h
  have h2 : (2 : Nat) ^ q ≤ 2 ^ p := Nat.pow_le_pow_right (by decide) hq
  rcases Nat.eq_zero_or_pos x with h0 | h0
  · exact h0
  · have : 1 * 2 ^ p ≤ x * 2 ^ p := Nat.mul_le_mul_right _ h0
    omega
theorem valB_last : ∀ l : List Nat, valB (l ++ [0]) = valB l
  | [] => rfl
  | b :: r => by rw [List.cons_append, valB, valB, valB_last r]
theorem valB_take {l : List Nat} (hl : l.length = 129) (hv : valB l < 2 ^ 128) : valB (l.take 128) = valB l := by
  obtain ⟨x, hx⟩ : ∃ x, l[128]? = some x := ⟨l[128], List.getElem?_eq_getElem (by omega)⟩
  have h0 := valB_high hx (Nat.le_refl _) hv
  subst h0
  have e : l = l.take 128 ++ [0] := by
    conv => lhs; rw [← List.take_append_drop 128 l]
    congr 1
    obtain ⟨h1, h2⟩ := List.getElem?_eq_some_iff.1 hx
    rw [List.drop_eq_getElem_cons h1, h2, List.drop_eq_nil_of_le (by omega)]
  conv => rhs; rw [e, valB_last]
theorem two_pos (n : Nat) : 0 < 2 ^ n := Nat.pow_pos (by decide)
theorem mod_mul_lt {a b i n : Nat} (hb : b < 2 ^ n) : a % 2 ^ i * b < 2 ^ (i + n) := by
  have h1 : a % 2 ^ i < 2 ^ i := Nat.mod_lt _ (two_pos i)
  rw [Nat.pow_add]
  rcases Nat.eq_zero_or_pos b with h0 | h0
  · rw [h0, Nat.mul_zero]
    exact Nat.mul_pos (two_pos i) (two_pos n)
  · exact Nat.lt_of_lt_of_le (Nat.mul_lt_mul_of_pos_right h1 h0) (Nat.mul_le_mul_left _ (Nat.le_of_lt hb))
/-- the bits of a sum so far: of length 129, each a bit -/
def BitsL (l : List Nat) : Prop := l.length = 129 ∧ ∀ x ∈ l, x ≤ 1
theorem BitsL.at {l : List Nat} (h : BitsL l) {k : Nat} (hk : k < 129) : ∃ x, l[k]? = some x ∧ x ≤ 1 := by
  refine ⟨l[k]'(by rw [h.1]; exact hk), List.getElem?_eq_getElem _, h.2 _ (List.getElem_mem _)⟩
theorem BitsL.put {l : List Nat} (h : BitsL l) (k : Nat) {x : Nat} (hx : x ≤ 1) : BitsL (l.set k x) := by
  refine ⟨by rw [List.length_set]; exact h.1, fun y hy => ?_⟩
  rcases List.mem_or_eq_of_mem_set hy with hy | rfl
  · exact h.2 y hy
  · exact hx
theorem bits_start : BitsL (List.replicate 129 0) := ⟨by simp, fun x hx => by rw [(List.mem_replicate.1 hx).2]; decide⟩
/-- the sum after some bits of a -/
def PrI (a b i : Nat) (l : List Nat) : Prop := BitsL l ∧ valB l = a % 2 ^ i * b
theorem prI_start (a b : Nat) : PrI a b 0 (List.replicate 129 0) := ⟨bits_start, by rw [valB_noughts, Nat.pow_zero, Nat.mod_one, Nat.zero_mul]⟩
theorem prI_skip {a b i : Nat} {l : List Nat} (h : PrI a b i l) (h0 : a / 2 ^ i % 2 = 0) : PrI a b (i + 1) l := by
  refine ⟨h.1, ?_⟩
  rw [h.2, Nat.mod_pow_succ, h0, Nat.mul_zero, Nat.add_zero]
theorem PrI.small {a b i : Nat} {l : List Nat} (h : PrI a b i l) (hb : b < 2 ^ 64) : valB l < 2 ^ (i + 64) := by
  rw [h.2]
  exact mod_mul_lt hb
/-- within a round: so many digits of b are in, with a carry -/
def InI (a b i k c : Nat) (l : List Nat) : Prop := BitsL l ∧ c ≤ 1 ∧ valB l + 2 ^ (i + k) * (c + b / 2 ^ k) = a % 2 ^ (i + 1) * b
theorem inI_start {a b i : Nat} {l : List Nat} (h : PrI a b i l) (h1 : a / 2 ^ i % 2 = 1) : InI a b i 0 0 l := by
  refine ⟨h.1, by omega, ?_⟩
  rw [h.2, Nat.mod_pow_succ, h1, Nat.mul_one, Nat.add_zero, Nat.pow_zero, Nat.div_one, Nat.zero_add, Nat.add_mul]
theorem inI_step {a b i k c x : Nat} {l : List Nat} (h : InI a b i k c l) (hx : l[i + k]? = some x) (hx1 : x ≤ 1) :
    InI a b i (k + 1) ((x + b / 2 ^ k % 2 + c) / 2) (l.set (i + k) ((x + b / 2 ^ k % 2 + c) % 2)) := by
  obtain ⟨h1, h2, h3⟩ := h
  refine ⟨h1.put _ (by omega), by omega, ?_⟩
  have := sum_step (b := b) (k := k) (c := c) hx
  rw [show i + (k + 1) = i + k + 1 by omega, this, h3]
/-- behind a round: the carry is put where there is nothing -/
theorem inI_last {a b i c x : Nat} {l : List Nat} (h : InI a b i 64 c l) (hb : b < 2 ^ 64) (hx : l[i + 64]? = some x) :
    (c = 0 ∨ x = 0) ∧ (c = 0 → PrI a b (i + 1) l) ∧ (x = 0 → PrI a b (i + 1) (l.set (i + 64) c)) := by
  obtain ⟨h1, h2, h3⟩ := h
  rw [Nat.div_eq_of_lt hb] at h3
  simp only [Nat.add_zero] at h3
  have hs : a % 2 ^ (i + 1) * b < 2 ^ (i + 1 + 64) := mod_mul_lt hb
  have hp : (2 : Nat) ^ (i + 1 + 64) = 2 ^ (i + 64) * 2 := by rw [show i + 1 + 64 = (i + 64) + 1 by omega, Nat.pow_succ]
  have hat := valB_at hx
  refine ⟨?_, ?_, ?_⟩
  · rcases Nat.eq_zero_or_pos c with h0 | h0
    · exact .inl h0
    · refine .inr ?_
      rcases Nat.eq_zero_or_pos x with h4 | h4
      · exact h4
      · rw [hp, ← h3] at hs
        have e1 : 1 * 2 ^ (i + 64) ≤ x * 2 ^ (i + 64) := Nat.mul_le_mul_right _ h4
        have e2 : 2 ^ (i + 64) * 1 ≤ 2 ^ (i + 64) * c := Nat.mul_le_mul_left _ h0
        generalize 2 ^ (i + 64) = T at *
        generalize x * T = U at *
        generalize T * c = V at *
        omega
  · rintro rfl
    exact ⟨h1, by rw [← h3]; simp⟩
  · rintro rfl
    refine ⟨h1.put _ h2, ?_⟩
    have := valB_set c hx
    rw [Nat.zero_mul, Nat.add_zero] at this
    rw [this, ← h3, Nat.mul_comm c]
theorem prI_end {a b : Nat} {l : List Nat} (h : PrI a b 64 l) (ha : a < 2 ^ 64) (hb : b < 2 ^ 64) : (l.take 128).length = 128 ∧ (∀ x ∈ l.take 128, x ≤ 1) ∧ valB (l.take 128) = a * b := by
  have hs := h.small hb
  refine ⟨by rw [List.length_take, h.1.1]; rfl, fun x hx => h.1.2 x (List.mem_of_mem_take hx), ?_⟩
  rw [valB_take h.1.1 hs, h.2, Nat.mod_eq_of_lt ha]

end Wb
end Go.Proofs.Ytheofklbmknipaa
