/- The calendar, and periods: plain. No program in sight. -/
namespace Go.Proofs.YtalpdodajcdibaaDoor
namespace Wb

/-! ### years and months -/
def lpB (y : Int) : Bool := decide (y % 4 = 0) && (decide (y % 100 ≠ 0) || decide (y % 400 = 0))
def lp (y : Int) : Int := if lpB y = true then 1 else 0
/-- how many days lie ahead of a year in the calendar -/
def yb (y : Int) : Int := 365 * (y - 1900) + (y - 1) / 4 - (y - 1) / 100 + (y - 1) / 400 - 460
theorem lp_01 (y : Int) : 0 ≤ lp y ∧ lp y ≤ 1 := by unfold lp; split <;> omega
theorem lpB_iff (y : Int) : lpB y = true ↔ y % 4 = 0 ∧ (y % 100 ≠ 0 ∨ y % 400 = 0) := by simp [lpB]
theorem lp_of (y : Int) : (lp y = 1 ∧ y % 4 = 0 ∧ (y % 100 ≠ 0 ∨ y % 400 = 0)) ∨ (lp y = 0 ∧ ¬ (y % 4 = 0 ∧ (y % 100 ≠ 0 ∨ y % 400 = 0))) := by
  unfold lp
  by_cases h : lpB y = true
  · rw [if_pos h]; exact .inl ⟨rfl, (lpB_iff y).1 h⟩
  · rw [if_neg h]; exact .inr ⟨rfl, fun k => h ((lpB_iff y).2 k)⟩
theorem yb_succ (y : Int) : yb (y + 1) = yb y + 365 + lp y := by
  unfold yb
  rcases lp_of y with ⟨h, h1, h2⟩ | ⟨h, h1⟩
  · rw [h]; omega
  · rw [h]; omega
theorem yb_mono {a b : Int} (h : a ≤ b) : yb a ≤ yb b := by unfold yb; omega
theorem yb_1900 : yb 1900 = 0 := rfl
theorem yb_2200 : yb 2200 = 109573 := rfl
theorem yb_guess {n : Int} (h : 0 ≤ n) : yb (1900 + n / 366) ≤ n := by unfold yb; omega
/-- how many days a month has -/
def md (y m : Int) : Int := if m = 2 then 28 + lp y else if m = 4 ∨ m = 6 ∨ m = 9 ∨ m = 11 then 30 else 31
/-- how many days of a year lie ahead of a month -/
def cum (y m : Int) : Int := if m ≤ 1 then 0 else if m = 2 then 31 else if m = 3 then 59 + lp y else if m = 4 then 90 + lp y else if m = 5 then 120 + lp y else if m = 6 then 151 + lp y else if m = 7 then 181 + lp y else if m = 8 then 212 + lp y else if m = 9 then 243 + lp y else if m = 10 then 273 + lp y else if m = 11 then 304 + lp y else if m = 12 then 334 + lp y else 365 + lp y
theorem md_low (y m : Int) : 28 ≤ md y m ∧ md y m ≤ 31 := by have := lp_01 y; unfold md; split <;> (try split) <;> omega
theorem twelve {m : Int} (h1 : 1 ≤ m) (h2 : m ≤ 12) : m = 1 ∨ m = 2 ∨ m = 3 ∨ m = 4 ∨ m = 5 ∨ m = 6 ∨ m = 7 ∨ m = 8 ∨ m = 9 ∨ m = 10 ∨ m = 11 ∨ m = 12 := by omega
theorem cum_succ (y : Int) {m : Int} (h1 : 1 ≤ m) (h2 : m ≤ 12) : cum y (m + 1) = cum y m + md y m := by
  rcases twelve h1 h2 with h | h | h | h | h | h | h | h | h | h | h | h <;> subst h <;> simp [cum, md] <;> omega
theorem cum_one (y : Int) : cum y 1 = 0 := by simp [cum]
theorem cum_end (y : Int) : cum y 13 = 365 + lp y := by simp [cum]
theorem cum_low (y : Int) {m : Int} (h1 : 1 ≤ m) (h2 : m ≤ 13) : 0 ≤ cum y m ∧ cum y m ≤ 366 := by
  have := lp_01 y
  by_cases h : m = 13
  · subst h; rw [cum_end]; omega
  · rcases twelve h1 (by omega) with h | h | h | h | h | h | h | h | h | h | h | h <;> subst h <;> simp [cum] <;> omega
theorem cum_mono (y : Int) {a b : Int} (h1 : 1 ≤ a) (h : a ≤ b) (h2 : b ≤ 13) : cum y a ≤ cum y b := by
  obtain ⟨n, rfl⟩ : ∃ n : Nat, b = a + n := ⟨(b - a).toNat, by omega⟩
  induction n with
  | zero => simp
  | succ n ih =>
    have := ih (by omega) (by omega)
    have hs := cum_succ y (m := a + n) (by omega) (by omega)
    have hm := md_low y (a + n)
    rw [show a + ((n + 1 : Nat) : Int) = a + n + 1 by omega]
    omega

/-- the first day of a month -/
def beg (y m : Int) : Int := -25567 + yb y + cum y m
theorem beg_year (y : Int) : beg y 13 = beg (y + 1) 1 := by unfold beg; rw [cum_end, cum_one, yb_succ]; omega
theorem beg_succ (y : Int) {m : Int} (h1 : 1 ≤ m) (h2 : m ≤ 12) : beg y (m + 1) = beg y m + md y m := by unfold beg; rw [cum_succ y h1 h2]; omega
/-- the date of a day -/
def IsDate (d y m k : Int) : Prop := 1900 ≤ y ∧ y ≤ 2199 ∧ 1 ≤ m ∧ m ≤ 12 ∧ 1 ≤ k ∧ k ≤ md y m ∧ d = beg y m + k - 1
theorem IsDate.year {d y m k : Int} (h : IsDate d y m k) : beg y 1 ≤ d ∧ d < beg (y + 1) 1 := by
  obtain ⟨_, _, h3, h4, h5, h6, rfl⟩ := h
  have c1 := cum_mono y (a := 1) (b := m) (by omega) h3 (by omega)
  have c2 := cum_mono y (a := m + 1) (b := 13) (by omega) (by omega) (by omega)
  have c3 := cum_succ y h3 h4
  rw [← beg_year]
  unfold beg
  omega
theorem beg_mono {a b : Int} (h : a ≤ b) : beg a 1 ≤ beg b 1 := by have := yb_mono h; unfold beg; rw [cum_one, cum_one]; omega
theorem year_uniq {d y y' : Int} (h1 : beg y 1 ≤ d) (h2 : d < beg (y + 1) 1) (h3 : beg y' 1 ≤ d) (h4 : d < beg (y' + 1) 1) : y = y' := by
  rcases Int.lt_trichotomy y y' with h | h | h
  · have := beg_mono (show y + 1 ≤ y' by omega); omega
  · exact h
  · have := beg_mono (show y' + 1 ≤ y by omega); omega
theorem IsDate.uniq {d y m k y' m' k' : Int} (h : IsDate d y m k) (h' : IsDate d y' m' k') : y = y' ∧ m = m' ∧ k = k' := by
  have hy := year_uniq h.year.1 h.year.2 h'.year.1 h'.year.2
  subst hy
  obtain ⟨_, _, a3, a4, a5, a6, e⟩ := h
  obtain ⟨_, _, b3, b4, b5, b6, e'⟩ := h'
  have hm : m = m' := by
    rcases Int.lt_trichotomy m m' with h | h | h
    · have := cum_mono y (a := m + 1) (b := m') (by omega) (by omega) (by omega)
      have := cum_succ y a3 a4
      unfold beg at e e'; omega
    · exact h
    · have := cum_mono y (a := m' + 1) (b := m) (by omega) (by omega) (by omega)
      have := cum_succ y b3 b4
      unfold beg at e e'; omega
  subst hm
  exact ⟨rfl, rfl, by omega⟩

/-! ### the spans of a year -/
/-- rising, all days from lo on, up to hi, that are aligned to a first one -/
def aligned (n f : Int) (lo : Int) : Nat → List Int
  | 0 => []
  | k + 1 => aligned n f lo k ++ (if -25567 ≤ lo + k ∧ (lo + k - f) % n = 0 then [lo + k] else [])
theorem aligned_skip {n f lo : Int} {k : Nat} (j : Nat) (h : ∀ i : Nat, k ≤ i → i < k + j → ¬ (-25567 ≤ lo + i ∧ (lo + i - f) % n = 0)) : aligned n f lo (k + j) = aligned n f lo k := by
  induction j with
  | zero => rfl
  | succ j ih =>
    rw [← Nat.add_assoc, aligned, ih fun i h1 h2 => h i h1 (by omega), if_neg (h (k + j) (by omega) (by omega)), List.append_nil]

end Wb
end Go.Proofs.YtalpdodajcdibaaDoor
