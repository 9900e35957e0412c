/- Chapter 27: a part's lines. -/
import Derived.Test.YtdfmlgjemfcmlaaSlip7
namespace Go.Proofs.Ytdfmlgjemfcmlaa
open Go.RowKit
set_option maxRecDepth 4000

def itv (x : Wb.Ln) : List Value := [.string (Wb.S x.code), .int .i64 x.cents]
def itvs (l : List Wb.Ln) : List Value := l.flatMap itv

theorem itvs_app (a b : List Wb.Ln) : itvs (a ++ b) = itvs a ++ itvs b := by simp [itvs]
theorem itvs_length (l : List Wb.Ln) : (itvs l).length = l.length * 2 := by
  induction l with
  | nil => rfl
  | cons x r ih => simp only [itvs, List.flatMap_cons, List.length_append] at ih ⊢; rw [ih]; simp [itv]; omega
theorem itvs_get {l : List Wb.Ln} : ∀ {j : Nat} {x : Wb.Ln}, l[j]? = some x → (itvs l)[j * 2]? = some (.string (Wb.S x.code)) ∧ (itvs l)[j * 2 + 1]? = some (.int .i64 x.cents) := by
  induction l with
  | nil => intro j x h; simp at h
  | cons y r ih =>
    intro j x h
    cases j with
    | zero => simp at h; subst h; simp [itvs, itv]
    | succ j =>
      have := ih (j := j) (x := x) (by simpa using h)
      have e1 : (j + 1) * 2 = j * 2 + 1 + 1 := by omega
      rw [e1]
      simpa [itvs, itv] using this

theorem src_two (w : World) (n : Nat) (hn : n = w.heap.size) (x y : Value) (T : TypeId) (c : Nat) : Wb.SrcRow (w.alloc (.cells #[x, y] T)) 2 (.slice (some ⟨n, 0, none⟩) 1 c) 1 [x, y] := by
  subst hn
  refine ⟨rfl, .inr ⟨_, _, rfl, fun j u hj => ?_⟩⟩
  match j, hj with
  | 0, hj => simp at hj; subst hj; simp [go_sem, Addr.add]
  | 1, hj => simp at hj; subst hj; simp [go_sem, Addr.add]
  | j + 2, hj => simp at hj

end Go.Proofs.Ytdfmlgjemfcmlaa
