/- Plain: division bit by bit (the reference of chapter 02). No program in sight. -/
import Derived.Test.YtheofklbmknipaaPlain20
namespace Go.Proofs.Ytheofklbmknipaa
namespace Wb

/-- the number of some bits, the lowest first -/
def valB : List Nat → Nat
  | [] => 0
  | b :: r => b + 2 * valB r
theorem valB_drop {l : List Nat} {i : Nat} {b : Nat} (h : l[i]? = some b) : valB (l.drop i) = 2 * valB (l.drop (i + 1)) + b := by
  obtain ⟨hi, rfl⟩ := List.getElem?_eq_some_iff.1 h
  rw [List.drop_eq_getElem_cons hi, valB]
  omega
theorem dv_step {P b d : Nat} (hd : 0 < d) (hb : b ≤ 1) :
    (2 * P + b) / d = 2 * (P / d) + (if d ≤ 2 * (P % d) + b then 1 else 0) ∧ (2 * P + b) % d = if d ≤ 2 * (P % d) + b then 2 * (P % d) + b - d else 2 * (P % d) + b := by
  have h0 := Nat.div_add_mod P d
  have h1 := Nat.mod_lt P hd
  have hq : (2 * P + b) / d = 2 * (P / d) + (if d ≤ 2 * (P % d) + b then 1 else 0) := by
    rw [nat_div_iff hd]
    split
    · rw [Nat.mul_add, Nat.mul_left_comm, Nat.mul_one]
      generalize d * (P / d) = x at *
      omega
    · rw [Nat.add_zero, Nat.mul_left_comm]
      generalize d * (P / d) = x at *
      omega
  refine ⟨hq, ?_⟩
  have h2 := Nat.div_add_mod (2 * P + b) d
  rw [hq] at h2
  split
  · rename_i h
    rw [if_pos h, Nat.mul_add, Nat.mul_left_comm, Nat.mul_one] at h2
    generalize d * (P / d) = x at *
    omega
  · rename_i h
    rw [if_neg h, Nat.add_zero, Nat.mul_left_comm] at h2
    generalize d * (P / d) = x at *
    omega
/-- what the loop holds: the whole, as long as it is small; what is left -/
def DvI (d P : Nat) (w : Nat) (few : Bool) : Prop := (few = true ∧ w = P / d ∧ w < 4611686018427387904) ∨ (few = false ∧ 2305843009213693952 ≤ P / d)
theorem dvI_step {d P w b : Nat} {few : Bool} (hd : 0 < d) (hb : b ≤ 1) (h : DvI d P w few) (w' : Nat) (hw : few = true → w < 2305843009213693952 → w' = 2 * w + (if d ≤ 2 * (P % d) + b then 1 else 0)) :
    DvI d (2 * P + b) w' (few && decide (w < 2305843009213693952)) := by
  have hq := (dv_step (P := P) hd hb).1
  rcases h with ⟨rfl, h1, h2⟩ | ⟨rfl, h1⟩
  · by_cases h3 : w < 2305843009213693952
    · left
      refine ⟨by simpa using h3, ?_, ?_⟩
      · rw [hw rfl h3, hq, h1]
      · rw [hw rfl h3]; split <;> omega
    · right
      refine ⟨by simpa using h3, ?_⟩
      rw [hq, ← h1]; omega
  · right
    refine ⟨rfl, ?_⟩
    rw [hq]; omega
theorem dvI_start (d : Nat) : DvI d 0 0 true := .inl ⟨rfl, by simp, by decide⟩

theorem valB_set : ∀ {l : List Nat} {j x : Nat} (y : Nat), l[j]? = some x → valB (l.set j y) + x * 2 ^ j = valB l + y * 2 ^ j
  | [], j, x, y, h => by simp at h
  | b :: r, 0, x, y, h => by
    simp at h; subst h
    simp [valB]; omega
  | b :: r, j + 1, x, y, h => by
    simp at h
    have := valB_set (l := r) (j := j) y h
    rw [List.set_cons_succ, valB, valB, Nat.pow_succ, ← Nat.mul_assoc, ← Nat.mul_assoc]
    omega
/-- one digit more of a sum with a carry -/
theorem sum_step {l : List Nat} {p x b k c : Nat} (h : l[p]? = some x) :
    valB (l.set p ((x + b / 2 ^ k % 2 + c) % 2)) + 2 ^ (p + 1) * ((x + b / 2 ^ k % 2 + c) / 2 + b / 2 ^ (k + 1)) = valB l + 2 ^ p * (c + b / 2 ^ k) := by
  have h1 := valB_set ((x + b / 2 ^ k % 2 + c) % 2) h
  have e : b / 2 ^ (k + 1) = b / 2 ^ k / 2 := by rw [Nat.pow_succ, ← Nat.div_div_eq_div_mul]
  rw [e]
  generalize b / 2 ^ k = B at *
  generalize hn : x + B % 2 + c = n at *
  generalize valB (l.set p (n % 2)) = V at *
  generalize valB l = U at *
  have e1 : 2 ^ (p + 1) * (n / 2 + B / 2) = 2 ^ p * (2 * (n / 2) + 2 * (B / 2)) := by rw [Nat.pow_succ, Nat.mul_assoc]; congr 1; omega
  have e2 : 2 ^ p * (2 * (n / 2) + 2 * (B / 2)) + (n % 2) * 2 ^ p = 2 ^ p * (n + 2 * (B / 2)) := by rw [Nat.mul_comm (n % 2), ← Nat.mul_add]; congr 1; omega
  have e3 : 2 ^ p * (n + 2 * (B / 2)) = 2 ^ p * (c + B) + x * 2 ^ p := by rw [Nat.mul_comm x, ← Nat.mul_add]; congr 1; omega
  rw [e1]
  omega

end Wb
end Go.Proofs.Ytheofklbmknipaa
