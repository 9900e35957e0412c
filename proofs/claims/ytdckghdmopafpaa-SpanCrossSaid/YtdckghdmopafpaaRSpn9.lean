/- Plain facts on pieces. -/
import Derived.Test.YtdckghdmopafpaaSLaw0
namespace Go.Proofs.Ytdckghdmopafpaa

structure PieceF (s : Wb.Sp) (c D : List Int) (k : Nat) (y : Wb.Sp) : Prop where
  at1 : (D ++ [s.2])[k]? = some y.1
  at2 : (D ++ [s.2])[k + 1]? = some y.2
  lt : y.1 < y.2
  lo : s.1 ≤ y.1
  hi : y.2 ≤ s.2
  cut : k = 0 ∨ y.1 ∈ c
  gap : ∀ d ∈ c, y.1 < d → ¬ d < y.2
theorem cut_up {s : Wb.Sp} {c D : List Int} (hs : s.1 < s.2) (hu : Wb.Up D) (hm : ∀ x, x ∈ D ↔ x = s.1 ∨ (x ∈ c ∧ s.1 < x ∧ x < s.2)) : Wb.Up (D ++ [s.2]) ∧ D[0]? = some s.1 := by
  refine ⟨List.pairwise_append.2 ⟨hu, List.pairwise_singleton _ _, fun x hx y hy => ?_⟩, ?_⟩
  · simp at hy; subst hy
    rcases (hm x).1 hx with h | h
    · omega
    · exact h.2.2
  · have h0 : s.1 ∈ D := (hm _).2 (.inl rfl)
    cases D with
    | nil => cases h0
    | cons x r =>
      have hx := (hm x).1 (by simp)
      have h1 := (List.pairwise_cons.1 hu).1
      rcases List.mem_cons.1 h0 with q | q
      · simp [q]
      · have := h1 _ q
        rcases hx with h | h <;> omega
theorem piece_facts {s : Wb.Sp} {c D : List Int} (hs : s.1 < s.2) (hu : Wb.Up D) (hm : ∀ x, x ∈ D ↔ x = s.1 ∨ (x ∈ c ∧ s.1 < x ∧ x < s.2)) {k : Nat} {y : Wb.Sp} (hy : (pcs D s.2)[k]? = some y) : PieceF s c D k y := by
  obtain ⟨uE, d0⟩ := cut_up hs hu hm
  obtain ⟨a1, a2⟩ := Wb.pairs_at (E := D ++ [s.2]) hy
  obtain ⟨g1, g2⟩ := Wb.pairsL_gap uE (List.mem_of_getElem? hy)
  have hk : k < D.length := by
    have := (List.getElem?_eq_some_iff.1 hy).1
    rw [pcs_len] at this; exact this
  have b1 : D[k]? = some y.1 := by rw [List.getElem?_append_left hk] at a1; exact a1
  have m1 := (hm y.1).1 (List.mem_of_getElem? b1)
  have m2 : y.2 ≤ s.2 := by
    rcases List.mem_append.1 (List.mem_of_getElem? a2) with q | q
    · rcases (hm _).1 q with h | h <;> omega
    · simp at q; omega
  refine ⟨a1, a2, g1, by rcases m1 with h | h <;> omega, m2, ?_, fun d hd h1 h2 => ?_⟩
  · rcases Nat.eq_zero_or_pos k with h | h
    · exact .inl h
    · rcases m1 with q | q
      · obtain ⟨p1, p2⟩ := List.getElem?_eq_some_iff.1 b1
        obtain ⟨p3, p4⟩ := List.getElem?_eq_some_iff.1 d0
        have := List.pairwise_iff_getElem.1 hu 0 k p3 p1 h
        omega
      · exact .inr q.1
  · have hlo : s.1 ≤ y.1 := by rcases m1 with h | h <;> omega
    have := g2 d (List.mem_append_left _ ((hm d).2 (.inr ⟨hd, by omega, by omega⟩)))
    omega
/-- was a day met among the first of some? -/
def metL (b : Bool) (l : List Int) (x : Int) : Bool := b || l.any (· == x)
theorem met_take {b : Bool} {l : List Int} {k : Nat} {d x : Int} (h : l[k]? = some d) : metL b (l.take (k + 1)) x = (metL b (l.take k) x || (d == x)) := by
  rw [day_take h, metL, metL, List.any_append, Bool.or_assoc]
  simp

end Go.Proofs.Ytdckghdmopafpaa
