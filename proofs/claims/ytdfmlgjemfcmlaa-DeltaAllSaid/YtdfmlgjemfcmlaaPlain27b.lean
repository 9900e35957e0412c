/- More plain facts for chapter 27. -/
import Derived.Test.YtdfmlgjemfcmlaaPlain27
namespace Go.Proofs.Ytdfmlgjemfcmlaa
namespace Wb

/-! ### the law's own: few lines, the items of a part -/
def sizeOf (l : List Ln) : Int := l.foldr (fun x n => 1 + (x.code.length : Int) + n) 0
def small (l : List Ln) : Bool := decide (sizeOf l ≤ 20000)
theorem sizeOf_nil : sizeOf [] = 0 := rfl
theorem sizeOf_cons (x : Ln) (r : List Ln) : sizeOf (x :: r) = 1 + (x.code.length : Int) + sizeOf r := rfl
theorem sizeOf_app (a b : List Ln) : sizeOf (a ++ b) = sizeOf a + sizeOf b := by
  induction a with
  | nil => simp [sizeOf_nil]
  | cons x r ih => simp only [List.cons_append, sizeOf_cons, ih]; omega
theorem sizeOf_snoc {l : List Ln} {k : Nat} {x : Ln} (h : l[k]? = some x) : sizeOf (l.take (k + 1)) = sizeOf (l.take k) + (1 + (x.code.length : Int)) := by
  obtain ⟨h1, h2⟩ := List.getElem?_eq_some_iff.1 h
  rw [List.take_succ_eq_append_getElem h1, sizeOf_app, h2, sizeOf_cons, sizeOf_nil]; omega
theorem sizeOf_bound {l : List Ln} (h : ∀ x ∈ l, x.code.length ≤ 1048576) : 0 ≤ sizeOf l ∧ sizeOf l ≤ 1048577 * l.length := by
  induction l with
  | nil => simp [sizeOf_nil]
  | cons x r ih =>
    have h1 := ih fun y hy => h y (by simp [hy])
    have h2 := h x (by simp)
    simp only [sizeOf_cons, List.length_cons]
    omega
def partOf (p : Int) (l : List Ln) : List Ln := l.filter fun x => x.part == p
theorem partOf_snoc {p : Int} {l : List Ln} {k : Nat} {x : Ln} (h : l[k]? = some x) : partOf p (l.take (k + 1)) = if x.part = p then partOf p (l.take k) ++ [x] else partOf p (l.take k) := by
  obtain ⟨h1, h2⟩ := List.getElem?_eq_some_iff.1 h
  rw [List.take_succ_eq_append_getElem h1, partOf, List.filter_append, h2]
  by_cases hp : x.part = p
  · simp [hp, partOf]
  · simp [hp, partOf]

end Wb
end Go.Proofs.Ytdfmlgjemfcmlaa
