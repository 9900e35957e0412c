/- Periods: the program's way through a year, span by span. No program in sight. -/
import Derived.Test.YtalpdodajcdibaaDoorPlain06d
namespace Go.Proofs.YtalpdodajcdibaaDoor
namespace Wb

/-- where the program stands in its loop over a year -/
def Stand (c : Cal) (y d : Int) (l : List (Int × Int)) : Prop :=
  beg y 1 ≤ d ∧ ((c.kind = 0 ∧ ∃ m : Int, 1 ≤ m ∧ m ≤ 13 ∧ d = beg y m ∧ l = (spansOf c y).take (m - 1).toNat) ∨
  (0 < c.kind ∧ ∃ a : Int, (a - c.first) % (14 * c.kind) = 0 ∧ a ≤ d ∧ d < a + 14 * c.kind ∧ beg y 1 - 14 * c.kind < a ∧
    l = (upTo (14 * c.kind) c.first (beg y 1 - 14 * c.kind + 1) (yl y) a).map fun d => (d, d + 14 * c.kind)))

theorem stand_start {c : Cal} (hc : calErr c = 0) (y : Int) : Stand c y (beg y 1) [] := by
  obtain ⟨hk, _⟩ := calErr_ok hc
  refine ⟨by omega, ?_⟩
  by_cases h : c.kind = 0
  · exact .inl ⟨h, 1, by omega, by omega, rfl, by simp⟩
  · obtain ⟨a1, a2, a3⟩ := floorA_ok (n := 14 * c.kind) (f := c.first) (d := beg y 1) (by omega)
    exact .inr ⟨by omega, _, a1, a2, a3, by omega, by rw [upTo_start (by omega)]; rfl⟩

theorem stand_step {c : Cal} {y d m k : Int} {l : List (Int × Int)} (hc : calErr c = 0) (hy : 1900 ≤ y ∧ y ≤ 2199) (hd : IsDate d y m k) (h : Stand c y d l) :
    d < (spanAt c d y m).2 ∧ Stand c y (spanAt c d y m).2 (l ++ if -25567 ≤ (spanAt c d y m).1 ∧ (spanAt c d y m).2 ≤ 84006 ∧ (spanAt c d y m).2 ≤ beg (y + 1) 1 then [spanAt c d y m] else []) := by
  obtain ⟨hk, _⟩ := calErr_ok hc
  have hyear := hd.year
  have b1 := beg_mono hy.1
  have b2 := beg_mono (show y + 1 ≤ 2200 by omega)
  have e1 : beg 1900 1 = -25567 := rfl
  have e2 : beg 2200 1 = 84006 := rfl
  obtain ⟨h0, ⟨hk0, j, j1, j2, rfl, rfl⟩ | ⟨hk0, a, a1, a2, a3, a4, rfl⟩⟩ := h
  · obtain ⟨d1, d2, h3, h4, h5, h6, e⟩ := hd
    have hj : j ≤ 12 := by
      rcases Int.lt_or_le j 13 with q | q
      · omega
      · obtain rfl : j = 13 := by omega
        have := beg_year y; omega
    have mj := md_low y j
    have dj : IsDate (beg y j) y j 1 := ⟨d1, d2, j1, hj, by omega, by omega, by omega⟩
    obtain ⟨_, rfl, rfl⟩ := dj.uniq ⟨d1, d2, h3, h4, h5, h6, e⟩
    have hs : spanAt c (beg y j) y j = (beg y j, beg y (j + 1)) := by unfold spanAt; rw [if_pos hk0]
    rw [hs]
    simp only
    have bs := beg_succ y j1 hj
    have b13 : beg y (j + 1) ≤ beg y 13 := by
      have := cum_mono y (a := j + 1) (b := 13) (by omega) (by omega) (by omega)
      unfold beg; omega
    have by3 := beg_year y
    have b0 := cum_low y j1 (by omega)
    have hb1 : beg y 1 ≤ beg y j := hyear.1
    rw [if_pos ⟨by omega, by omega, by omega⟩]
    refine ⟨by omega, by omega, .inl ⟨hk0, j + 1, by omega, by omega, rfl, ?_⟩⟩
    have hg := (spans_month hk0 y (j - 1).toNat (beg y j, beg y (j + 1))).2 ⟨by omega, by rw [show (((j - 1).toNat : Nat) : Int) = j - 1 by omega, show j - 1 + 1 = j by omega, show j - 1 + 2 = j + 1 by omega]⟩
    rw [show (j + 1 - 1).toNat = (j - 1).toNat + 1 by omega, List.take_add_one, hg]
    rfl
  · have hs : spanAt c d y m = (a, a + 14 * c.kind) := by
      unfold spanAt
      rw [if_neg (by omega), floorA_uniq (by omega) a1 a2 a3]
    rw [hs]
    simp only
    refine ⟨a3, by omega, .inr ⟨hk0, a + 14 * c.kind, aligned_step a1, by omega, by omega, by omega, ?_⟩⟩
    have ey := yl_eq y
    by_cases hin : a + 14 * c.kind ≤ beg (y + 1) 1
    · rw [upTo_step (by omega) a1 (by omega) (by omega), List.map_append]
      congr 1
      by_cases hq : -25567 ≤ a
      · rw [if_pos hq, if_pos ⟨hq, by omega, hin⟩]; rfl
      · rw [if_neg hq, if_neg (by omega)]; rfl
    · rw [if_neg (by omega), List.append_nil, upTo_end (by omega), upTo_end (by omega)]

theorem stand_end {c : Cal} {y d : Int} {l : List (Int × Int)} (hy : 1900 ≤ y ∧ y ≤ 2199) (h : Stand c y d l) (hd : beg (y + 1) 1 ≤ d) : l = spansOf c y := by
  obtain ⟨h0, ⟨hk0, j, j1, j2, rfl, rfl⟩ | ⟨hk0, a, a1, a2, a3, a4, rfl⟩⟩ := h
  · have hj : j = 13 := by
      rcases Int.lt_or_le j 13 with q | q
      · have mj := md_low y j
        have dj : IsDate (beg y j) y j 1 := ⟨hy.1, hy.2, j1, by omega, by omega, by omega, by omega⟩
        have := dj.year; omega
      · omega
    subst hj
    rw [List.take_of_length_le]
    rw [spansOf, if_pos hk0]; simp
  · have ey := yl_eq y
    rw [upTo_end (by omega), spansOf, if_neg (by omega)]

/-- on the way there are no more spans than the year's -/
theorem stand_len {c : Cal} {y d : Int} {l : List (Int × Int)} (h : Stand c y d l) : l.length ≤ 366 := by
  obtain ⟨h0, ⟨hk0, j, j1, j2, rfl, rfl⟩ | ⟨hk0, a, a1, a2, a3, a4, rfl⟩⟩ := h
  · rw [List.length_take]; have := spans_len c y; omega
  · rw [List.length_map, upTo]
    have : ∀ n f lo k, (aligned n f lo k).length ≤ k := by
      intro n f lo k
      induction k with
      | zero => simp [aligned]
      | succ k ih => rw [aligned, List.length_append]; split <;> simp <;> omega
    have := this (14 * c.kind) c.first (beg y 1 - 14 * c.kind + 1) (min (a - (beg y 1 - 14 * c.kind + 1)).toNat (yl y))
    have := yl_le y
    omega

end Wb
end Go.Proofs.YtalpdodajcdibaaDoor
