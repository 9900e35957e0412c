/- Plain facts for chapter 27: the steps of a merge. -/
import Derived.Test.YtdfmlgjemfcmlaaPlain27d
namespace Go.Proofs.Ytdfmlgjemfcmlaa
namespace Wb

theorem mergeL_nil_right (a : List Ln) : mergeL a [] = some a := by cases a <;> rw [mergeL]; simp
theorem step_x {x : Ln} {a b : List Ln} (h : b = [] ∨ ∃ y b', b = y :: b' ∧ lnLt x y = true) : mergeL (x :: a) b = (mergeL a b).map (x :: ·) := by
  rcases h with rfl | ⟨y, b', rfl, h⟩
  · rw [mergeL_nil_right, mergeL_nil_right]; rfl
  · rw [mergeL, if_pos h]
theorem step_y {y : Ln} {a b : List Ln} (h : a = [] ∨ ∃ x a', a = x :: a' ∧ lnLt x y = false ∧ lnLt y x = true) : mergeL a (y :: b) = (mergeL a b).map (y :: ·) := by
  rcases h with rfl | ⟨x, a', rfl, h1, h2⟩
  · rw [mergeL, mergeL]; rfl
  · rw [mergeL, if_neg (by rw [h1]; simp), if_pos h2]
theorem step_over {x y : Ln} {a b : List Ln} (h1 : lnLt x y = false) (h2 : lnLt y x = false) (h3 : fits (x.cents + y.cents) = false) : mergeL (x :: a) (y :: b) = none := by
  rw [mergeL, if_neg (by rw [h1]; simp), if_neg (by rw [h2]; simp), if_pos h3]
theorem step_none {x y : Ln} {a b : List Ln} (h1 : lnLt x y = false) (h2 : lnLt y x = false) (h3 : fits (x.cents + y.cents) = true) (h4 : x.cents + y.cents = 0) : mergeL (x :: a) (y :: b) = mergeL a b := by
  rw [mergeL, if_neg (by rw [h1]; simp), if_neg (by rw [h2]; simp), if_neg (by rw [h3]; simp), if_pos h4]
theorem step_both {x y : Ln} {a b : List Ln} (h1 : lnLt x y = false) (h2 : lnLt y x = false) (h3 : fits (x.cents + y.cents) = true) (h4 : ¬ x.cents + y.cents = 0) : mergeL (x :: a) (y :: b) = (mergeL a b).map (⟨x.part, x.code, x.cents + y.cents⟩ :: ·) := by
  rw [mergeL, if_neg (by rw [h1]; simp), if_neg (by rw [h2]; simp), if_neg (by rw [h3]; simp), if_neg h4]
theorem map_done {o : Option (List Ln)} {d : List Ln} {x : Ln} : (o.map (x :: ·)).map (d ++ ·) = o.map ((d ++ [x]) ++ ·) := by
  cases o <;> simp

/-- sums of a merged list -/
theorem sumOf_merge {f t : Int} : ∀ {a b l : List Ln}, mergeL a b = some l → sumOf f t l = sumOf f t a + sumOf f t b := by
  intro a b
  induction a, b using mergeL.induct with
  | case1 b => intro l h; rw [mergeL] at h; cases h; simp [sumOf]
  | case2 a ha => intro l h; rw [mergeL] at h <;> first | (cases h; simp [sumOf]) | exact ha
  | case3 x a y b hxy ih =>
    intro l h
    rw [mergeL, if_pos hxy] at h
    obtain ⟨m, hm, rfl⟩ := Option.map_eq_some_iff.1 h
    have := ih hm; simp only [sumOf] at this ⊢; omega
  | case4 x a y b hxy hyx ih =>
    intro l h
    rw [mergeL, if_neg hxy, if_pos hyx] at h
    obtain ⟨m, hm, rfl⟩ := Option.map_eq_some_iff.1 h
    have := ih hm; simp only [sumOf] at this ⊢; omega
  | case5 x a y b hxy hyx hf =>
    intro l h; rw [mergeL, if_neg hxy, if_neg hyx, if_pos hf] at h; cases h
  | case6 x a y b hxy hyx hf hz ih =>
    intro l h
    rw [mergeL, if_neg hxy, if_neg hyx, if_neg hf, if_pos hz] at h
    obtain ⟨hp, hc⟩ := lnLt_total (by simpa using hxy) (by simpa using hyx)
    have := ih h
    simp only [sumOf, hp]; split <;> omega
  | case7 x a y b hxy hyx hf hz ih =>
    intro l h
    rw [mergeL, if_neg hxy, if_neg hyx, if_neg hf, if_neg hz] at h
    obtain ⟨m, hm, rfl⟩ := Option.map_eq_some_iff.1 h
    obtain ⟨hp, hc⟩ := lnLt_total (by simpa using hxy) (by simpa using hyx)
    have := ih hm
    simp only [sumOf, hp]; split <;> omega

end Wb
end Go.Proofs.Ytdfmlgjemfcmlaa
