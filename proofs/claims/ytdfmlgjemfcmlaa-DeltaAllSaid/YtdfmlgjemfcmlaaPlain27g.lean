/- Plain facts for chapter 27: sums of what is merged, what is merged the other way round, what lacks. -/
import Derived.Test.YtdfmlgjemfcmlaaPlain27f
namespace Go.Proofs.Ytdfmlgjemfcmlaa
namespace Wb

theorem sums_cases (y i : Int) (l : List Ln) : (∃ e, e ≠ 0 ∧ sums y i l = (0, 0, 0, 0, e)) ∨ (check y i l = 0 ∧ fits (sumOf 0 0 l) = true ∧ fits (sumOf 1 5 l) = true ∧ fits (sumOf 0 0 l - sumOf 1 5 l) = true ∧ fits (sumOf 6 6 l) = true ∧ sums y i l = (sumOf 0 0 l, sumOf 1 5 l, sumOf 0 0 l - sumOf 1 5 l, sumOf 6 6 l, 0)) := by
  unfold sums
  by_cases h : check y i l ≠ 0
  · rw [if_pos h]; exact .inl ⟨_, h, rfl⟩
  · rw [if_neg h]
    split
    · rename_i h2
      exact .inr ⟨by omega, h2.1, h2.2.1, h2.2.2.1, h2.2.2.2, rfl⟩
    · exact .inl ⟨9, by decide, rfl⟩
theorem sums_law {y i : Int} {l : List Ln} {g h n f e : Int} (hs : sums y i l = (g, h, n, f, e)) :
    g = h + n ∧ (-1125899906842624 ≤ g ∧ g ≤ 1125899906842624) ∧ (-1125899906842624 ≤ h ∧ h ≤ 1125899906842624) ∧ (-1125899906842624 ≤ n ∧ n ≤ 1125899906842624) ∧ (-1125899906842624 ≤ f ∧ f ≤ 1125899906842624) := by
  rcases sums_cases y i l with ⟨e', _, h'⟩ | ⟨_, h1, h2, h3, h4, h'⟩
  · rw [h'] at hs; cases hs; omega
  · rw [h'] at hs; cases hs
    have := (fits_iff _).1 h1; have := (fits_iff _).1 h2; have := (fits_iff _).1 h3; have := (fits_iff _).1 h4
    omega
theorem sums_add {y i y' i' y'' i'' : Int} {a b l : List Ln} {g1 h1 n1 f1 e1 g2 h2 n2 f2 e2 g h n f e : Int} (s1 : sums y i a = (g1, h1, n1, f1, e1)) (s2 : sums y' i' b = (g2, h2, n2, f2, e2)) (s : sums y'' i'' l = (g, h, n, f, e)) (hm : mergeL a b = some l)
    (z1 : e1 = 0) (z2 : e2 = 0) (z : e = 0) : g = g1 + g2 ∧ h = h1 + h2 ∧ n = n1 + n2 ∧ f = f1 + f2 := by
  rcases sums_cases y i a with ⟨e', he, h'⟩ | ⟨_, _, _, _, _, h'⟩
  · rw [h'] at s1; cases s1; exact absurd z1 he
  rw [h'] at s1; cases s1
  rcases sums_cases y' i' b with ⟨e', he, h'⟩ | ⟨_, _, _, _, _, h'⟩
  · rw [h'] at s2; cases s2; exact absurd z2 he
  rw [h'] at s2; cases s2
  rcases sums_cases y'' i'' l with ⟨e', he, h'⟩ | ⟨_, _, _, _, _, h'⟩
  · rw [h'] at s; cases s; exact absurd z he
  rw [h'] at s; cases s
  have m1 := sumOf_merge (f := 0) (t := 0) hm
  have m2 := sumOf_merge (f := 1) (t := 5) hm
  have m3 := sumOf_merge (f := 6) (t := 6) hm
  omega

end Wb
end Go.Proofs.Ytdfmlgjemfcmlaa
