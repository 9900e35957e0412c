/- Plain facts for chapter 05: the pieces that the program cuts are the pairs of the days at which it cuts. -/
import Derived.Test.YtdckghdmopafpaaPlain05c
import Derived.Test.YtdckghdmopafpaaSpn11
namespace Go.Proofs.Ytdckghdmopafpaa

theorem cut_ok (s : Wb.Sp) (l : List Int) (hs : l.Pairwise (· ≤ ·)) : ∃ G x, s.1 :: G = x ∧ (∃ q, x = q ++ [(cutL s l).2]) ∧ (cutL s l).1 = Wb.pairsL x ∧ Wb.Up x ∧ ∀ d, d ∈ G ↔ d ∈ l ∧ s.1 < d ∧ d < s.2 := by
  induction l using Wb.snocI with
  | h0 => exact ⟨[], [s.1], rfl, ⟨[], rfl⟩, rfl, List.pairwise_singleton _ _, fun d => by simp⟩
  | h1 l d ih =>
    obtain ⟨p1, _, p3⟩ := List.pairwise_append.1 hs
    obtain ⟨G, x, hx, ⟨q, hq⟩, h1, h2, h3⟩ := ih p1
    have e : cutL s (l ++ [d]) = cutS s.2 (cutL s l) d := by rw [cutL, List.foldl_append]; rfl
    rw [e]
    obtain ⟨⟨A, y⟩, hR⟩ : ∃ R, cutL s l = R := ⟨_, rfl⟩
    rw [hR] at hq h1 ⊢
    simp only at hq h1
    have hy0 : s.1 ≤ y := by
      have hm : y ∈ s.1 :: G := by rw [hx, hq]; simp
      rw [← hx] at h2
      rcases List.mem_cons.1 hm with k | k
      · omega
      · exact Int.le_of_lt ((List.pairwise_cons.1 h2).1 _ k)
    have hyd : y = s.1 ∨ y ∈ l := by
      have hm : y ∈ s.1 :: G := by rw [hx, hq]; simp
      rcases List.mem_cons.1 hm with k | k
      · exact .inl k
      · exact .inr ((h3 y).1 k).1
    by_cases hc : y < d ∧ d < s.2
    · rw [cutS, if_pos hc]
      refine ⟨G ++ [d], x ++ [d], by rw [← hx]; rfl, ⟨x, rfl⟩, ?_, ?_, fun z => ?_⟩
      · rw [hq, Wb.pairs_snoc, ← hq, h1]
      · refine List.pairwise_append.2 ⟨h2, List.pairwise_singleton _ _, fun z hz u hu => ?_⟩
        simp at hu; subst hu
        rw [hq] at hz
        rcases List.mem_append.1 hz with k | k
        · rw [hq] at h2
          have := (List.pairwise_append.1 h2).2.2 z k y (by simp)
          omega
        · simp at k; omega
      · rw [List.mem_append, List.mem_singleton, h3, List.mem_append, List.mem_singleton]
        constructor
        · rintro (h | h)
          · exact ⟨.inl h.1, h.2⟩
          · subst h; exact ⟨.inr rfl, by omega, hc.2⟩
        · rintro ⟨h | h, h'⟩
          · exact .inl ⟨h, h'⟩
          · exact .inr h
    · rw [cutS, if_neg hc]
      refine ⟨G, x, hx, ⟨q, hq⟩, h1, h2, fun z => ?_⟩
      rw [h3, List.mem_append, List.mem_singleton]
      constructor
      · rintro ⟨h, h'⟩; exact ⟨.inl h, h'⟩
      · rintro ⟨h | h, h'⟩
        · exact ⟨h, h'⟩
        · subst h
          refine ⟨?_, h'⟩
          have hzy : z ≤ y := by omega
          rcases hyd with k | k
          · omega
          · have := p3 y k z (by simp)
            rw [show z = y by omega]; exact k
theorem pieces_ok (s : Wb.Sp) (l : List Int) (hs : l.Pairwise (· ≤ ·)) (h : s.1 < s.2) : ∃ G, piecesL s l = Wb.pairsL (s.1 :: G ++ [s.2]) ∧ Wb.Up (s.1 :: G ++ [s.2]) ∧ ∀ d, d ∈ G ↔ d ∈ l ∧ s.1 < d ∧ d < s.2 := by
  obtain ⟨G, x, hx, ⟨q, hq⟩, h1, h2, h3⟩ := cut_ok s l hs
  refine ⟨G, ?_, ?_, h3⟩
  · rw [piecesL, hx, h1]
    have := Wb.pairs_snoc q (cutL s l).2 s.2
    rw [← hq] at this
    exact this.symm
  · rw [hx]
    refine List.pairwise_append.2 ⟨h2, List.pairwise_singleton _ _, fun z hz u hu => ?_⟩
    simp at hu; subst hu
    rw [← hx] at hz
    rcases List.mem_cons.1 hz with k | k
    · omega
    · exact ((h3 z).1 k).2.2

end Go.Proofs.Ytdckghdmopafpaa
