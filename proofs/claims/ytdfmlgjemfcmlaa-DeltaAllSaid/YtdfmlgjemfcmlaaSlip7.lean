/- Chapter 27: the law's own helpers. -/
import Derived.Test.YtdfmlgjemfcmlaaSlip
import Derived.Test.YtdfmlgjemfcmlaaRows0
import Derived.Test.YtdfmlgjemfcmlaaPlain27b
namespace Go.Proofs.Ytdfmlgjemfcmlaa
open Go.RowKit
set_option maxRecDepth 4000

/-- items in memory: the codes and the amounts of these lines -/
def Its (w : World) (v : Value) (l : List Wb.Ln) : Prop :=
  (l = [] ∧ ∃ a cap, v = .slice a 0 cap) ∨ ∃ b off cap, v = .slice (some ⟨b, off, none⟩) l.length cap ∧ ∀ j x, l[j]? = some x →
    w.cell? ⟨b, off + j * 2, none⟩ = some (.string (Wb.S x.code)) ∧ w.cell? ⟨b, off + j * 2 + 1, none⟩ = some (.int .i64 x.cents)
theorem Its.ext {w w' : World} {v : Value} {l : List Wb.Ln} (h : Its w v l) (k : Wb.Ext w w') : Its w' v l := by
  rcases h with h | ⟨b, off, cap, h1, h2⟩
  · exact .inl h
  · exact .inr ⟨b, off, cap, h1, fun j x hj => ⟨k.keep (h2 j x hj).1, k.keep (h2 j x hj).2⟩⟩
theorem Its.shape {w : World} {v : Value} {l : List Wb.Ln} (h : Its w v l) : ∃ a cap, v = .slice a l.length cap := by
  rcases h with ⟨rfl, a, cap, rfl⟩ | ⟨b, off, cap, rfl, _⟩
  · exact ⟨_, _, rfl⟩
  · exact ⟨_, _, rfl⟩
theorem Its.opened {w : World} {a : Option Addr} {n cap : Nat} {l : List Wb.Ln} (h : Its w (.slice a n cap) l) (hne : l ≠ []) : ∃ b off, a = some ⟨b, off, none⟩ ∧ ∀ j x, l[j]? = some x →
    w.cell? ⟨b, off + j * 2, none⟩ = some (.string (Wb.S x.code)) ∧ w.cell? ⟨b, off + j * 2 + 1, none⟩ = some (.int .i64 x.cents) := by
  rcases h with ⟨h, _⟩ | ⟨b, off, cap, hv, hc⟩
  · exact absurd h hne
  · cases hv; exact ⟨b, off, rfl, hc⟩

end Go.Proofs.Ytdfmlgjemfcmlaa
