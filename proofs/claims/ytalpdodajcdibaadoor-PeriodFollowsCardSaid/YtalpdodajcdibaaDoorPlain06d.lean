/- Periods: the period that has a day. No program in sight. -/
import Derived.Test.YtalpdodajcdibaaDoorPlain06c
namespace Go.Proofs.YtalpdodajcdibaaDoor
namespace Wb

theorem aligned_rises {n f lo : Int} : ∀ k : Nat, (aligned n f lo k).Pairwise (· < ·)
  | 0 => List.Pairwise.nil
  | k + 1 => by
    rw [aligned, List.pairwise_append]
    refine ⟨aligned_rises k, ?_, ?_⟩
    · split <;> simp
    · intro a ha b hb
      have h1 := (mem_aligned.1 ha).2.1
      split at hb
      · simp at hb; omega
      · cases hb
theorem spans_len (c : Cal) (y : Int) : (spansOf c y).length ≤ 366 := by
  unfold spansOf
  split
  · simp
  · rw [List.length_map]
    have h : ∀ k : Nat, (aligned (14 * c.kind) c.first (beg y 1 - 14 * c.kind + 1) k).length ≤ k := by
      intro k
      induction k with
      | zero => simp [aligned]
      | succ k ih => rw [aligned, List.length_append]; split <;> simp <;> omega
    exact Nat.le_trans (h _) (yl_le y).2
/-- of a monthly calendar -/
theorem spans_month {c : Cal} (h : c.kind = 0) (y : Int) (j : Nat) (s : Int × Int) : (spansOf c y)[j]? = some s ↔ j < 12 ∧ s = (beg y ((j : Int) + 1), beg y ((j : Int) + 2)) := by
  rw [spansOf, if_pos h, List.getElem?_map]
  by_cases hj : j < 12
  · rw [List.getElem?_range hj]; simp [hj, eq_comm]
  · rw [List.getElem?_eq_none (by simpa using hj)]; simp [hj]
/-- a span that is one of a year's -/
def OneOf (c : Cal) (y : Int) (i : Nat) (s : Int × Int) : Prop := 1900 ≤ y ∧ y ≤ 2199 ∧ (spansOf c y)[i]? = some s
theorem OneOf.kind {c : Cal} {y : Int} {i : Nat} {s : Int × Int} (hc : calErr c = 0) (h : OneOf c y i s) :
    (c.kind = 0 ∧ i < 12 ∧ s = (beg y ((i : Int) + 1), beg y ((i : Int) + 2))) ∨
    (0 < c.kind ∧ s.2 = s.1 + 14 * c.kind ∧ beg y 1 < s.2 ∧ s.2 ≤ beg (y + 1) 1 ∧ -25567 ≤ s.1 ∧ (s.1 - c.first) % (14 * c.kind) = 0) := by
  obtain ⟨hk, _⟩ := calErr_ok hc
  by_cases h0 : c.kind = 0
  · exact .inl ⟨h0, (spans_month h0 y i s).1 h.2.2⟩
  · exact .inr ⟨by omega, (mem_spans (by omega)).1 (List.mem_of_getElem? h.2.2)⟩
/-- its last day is of the year; it is whole -/
theorem OneOf.last {c : Cal} {y : Int} {i : Nat} {s : Int × Int} (hc : calErr c = 0) (h : OneOf c y i s) : s.1 < s.2 ∧ beg y 1 ≤ s.2 - 1 ∧ s.2 - 1 < beg (y + 1) 1 ∧ -25567 ≤ s.1 ∧ s.2 ≤ 84006 := by
  have hb1 : beg 2200 1 = 84006 := by unfold beg; rw [cum_one, yb_2200]; rfl
  have hb0 : beg 1900 1 = -25567 := by unfold beg; rw [cum_one, yb_1900]; rfl
  have m1 := beg_mono (show y + 1 ≤ 2200 by have := h.2.1; omega)
  have m0 := beg_mono (show (1900 : Int) ≤ y from h.1)
  rcases h.kind hc with ⟨_, hi, rfl⟩ | ⟨hk, h1, h2, h3, h4, _⟩
  · have c1 := beg_succ y (m := (i : Int) + 1) (by omega) (by omega)
    have c2 := md_low y ((i : Int) + 1)
    have c3 := cum_mono y (a := 1) (b := (i : Int) + 1) (by omega) (by omega) (by omega)
    have c4 := cum_mono y (a := (i : Int) + 2) (b := 13) (by omega) (by omega) (by omega)
    have e : (i : Int) + 1 + 1 = (i : Int) + 2 := by omega
    rw [e] at c1
    have hy := beg_year y
    have b1 : beg y ((i : Int) + 1) = -25567 + yb y + cum y ((i : Int) + 1) := rfl
    have b2 : beg y ((i : Int) + 2) = -25567 + yb y + cum y ((i : Int) + 2) := rfl
    have b3 : beg y 1 = -25567 + yb y + cum y 1 := rfl
    have b4 : beg y 13 = -25567 + yb y + cum y 13 := rfl
    simp only
    omega
  · omega
/-- a day is in one alone -/
theorem OneOf.uniq {c : Cal} {d y y' : Int} {i i' : Nat} {s s' : Int × Int} (hc : calErr c = 0) (h : OneOf c y i s) (h' : OneOf c y' i' s') (h1 : s.1 ≤ d) (h2 : d < s.2) (h1' : s'.1 ≤ d) (h2' : d < s'.2) : y = y' ∧ i = i' ∧ s = s' := by
  have hs : s = s' := by
    rcases h.kind hc with ⟨hk, hi, rfl⟩ | ⟨hk, e, _, _, _, ha⟩
    · rcases h'.kind hc with ⟨_, hi', rfl⟩ | ⟨hk', _⟩
      · simp only at h1 h2 h1' h2'
        have a1 := beg_succ y (m := (i : Int) + 1) (by omega) (by omega)
        have a2 := beg_succ y' (m := (i' : Int) + 1) (by omega) (by omega)
        rw [show (i : Int) + 1 + 1 = (i : Int) + 2 by omega] at a1
        rw [show (i' : Int) + 1 + 1 = (i' : Int) + 2 by omega] at a2
        have d1 : IsDate d y ((i : Int) + 1) (d - beg y ((i : Int) + 1) + 1) := ⟨h.1, h.2.1, by omega, by omega, by omega, by omega, by omega⟩
        have d2 : IsDate d y' ((i' : Int) + 1) (d - beg y' ((i' : Int) + 1) + 1) := ⟨h'.1, h'.2.1, by omega, by omega, by omega, by omega, by omega⟩
        obtain ⟨e1, e2, _⟩ := d1.uniq d2
        have e3 : i = i' := by omega
        subst e1 e3; rfl
      · omega
    · rcases h'.kind hc with ⟨hk', _⟩ | ⟨_, e', _, _, _, ha'⟩
      · omega
      · have f1 := floorA_uniq (n := 14 * c.kind) (f := c.first) (d := d) (a := s.1) (by omega) ha h1 (by omega)
        have f2 := floorA_uniq (n := 14 * c.kind) (f := c.first) (d := d) (a := s'.1) (by omega) ha' h1' (by omega)
        exact Prod.ext (by omega) (by omega)
  subst hs
  obtain ⟨_, l2, l3, _⟩ := h.last hc
  obtain ⟨_, l2', l3', _⟩ := h'.last hc
  have hy := year_uniq l2 l3 l2' l3'
  subst hy
  refine ⟨rfl, ?_, rfl⟩
  have hi := (List.getElem?_eq_some_iff.1 h.2.2).1
  have hi' := (List.getElem?_eq_some_iff.1 h'.2.2).1
  obtain ⟨hk, _⟩ := calErr_ok hc
  by_cases h0 : c.kind = 0
  · obtain ⟨q1, q2⟩ := (spans_month h0 y i s).1 h.2.2
    obtain ⟨q1', q2'⟩ := (spans_month h0 y i' s).1 h'.2.2
    have hb : beg y ((i : Int) + 1) = beg y ((i' : Int) + 1) := congrArg Prod.fst (q2.symm.trans q2')
    rcases Nat.lt_trichotomy i i' with h | h | h
    · have a1 := beg_succ y (m := (i : Int) + 1) (by omega) (by omega)
      have a2 := md_low y ((i : Int) + 1)
      have a3 := cum_mono y (a := (i : Int) + 1 + 1) (b := (i' : Int) + 1) (by omega) (by omega) (by omega)
      unfold beg at hb a1; omega
    · exact h
    · have a1 := beg_succ y (m := (i' : Int) + 1) (by omega) (by omega)
      have a2 := md_low y ((i' : Int) + 1)
      have a3 := cum_mono y (a := (i' : Int) + 1 + 1) (b := (i : Int) + 1) (by omega) (by omega) (by omega)
      unfold beg at hb a1; omega
  · have g1 := h.2.2
    have g2 := h'.2.2
    rw [spansOf, if_neg h0, List.getElem?_map, Option.map_eq_some_iff] at g1 g2
    obtain ⟨d1, e1, f1⟩ := g1
    obtain ⟨d2, e2, f2⟩ := g2
    have hd : d1 = d2 := by have := congrArg Prod.fst (f1.trans f2.symm); exact this
    subst hd
    have hp := aligned_rises (n := 14 * c.kind) (f := c.first) (lo := beg y 1 - 14 * c.kind + 1) (yl y)
    obtain ⟨b1, c1⟩ := List.getElem?_eq_some_iff.1 e1
    obtain ⟨b2, c2⟩ := List.getElem?_eq_some_iff.1 e2
    rw [List.pairwise_iff_getElem] at hp
    rcases Nat.lt_trichotomy i i' with h | h | h
    · have := hp i i' b1 b2 h; omega
    · exact h
    · have := hp i' i b2 b1 h; omega

/-- the period that has a day -/
def FindIs (c : Cal) (d : Int) (p : Per) : Prop := ∃ y i s, OneOf c y i s ∧ s.1 ≤ d ∧ d < s.2 ∧ p = perOf c y (spansOf c y).length i s
theorem FindIs.uniq {c : Cal} {d : Int} {p p' : Per} (hc : calErr c = 0) (h : FindIs c d p) (h' : FindIs c d p') : p = p' := by
  obtain ⟨y, i, s, h0, h1, h2, rfl⟩ := h
  obtain ⟨y', i', s', h0', h1', h2', rfl⟩ := h'
  obtain ⟨rfl, rfl, rfl⟩ := h0.uniq hc h0' h1 h2 h1' h2'
  rfl
open Classical in
noncomputable def findOf (c : Cal) (d : Int) : Option Per := if h : ∃ p, FindIs c d p then some h.choose else none
theorem findOf_some {c : Cal} {d : Int} {p : Per} (hc : calErr c = 0) (h : FindIs c d p) : findOf c d = some p := by
  have hx : ∃ p, FindIs c d p := ⟨p, h⟩
  rw [findOf, dif_pos hx]
  exact congrArg some (hx.choose_spec.uniq hc h)
theorem findOf_none {c : Cal} {d : Int} (h : ∀ p, ¬ FindIs c d p) : findOf c d = none := by
  rw [findOf, dif_neg (fun ⟨p, hp⟩ => h p hp)]
theorem findOf_is {c : Cal} {d : Int} {p : Per} (h : findOf c d = some p) : FindIs c d p := by
  unfold findOf at h
  split at h
  · rename_i hx; exact Option.some.inj h ▸ hx.choose_spec
  · cases h

/-- as the program goes about it: the span of a day, if it is whole, is one of the year of its last day -/
theorem spanAt_has {c : Cal} {d y m k : Int} (hc : calErr c = 0) (hd : IsDate d y m k) : (spanAt c d y m).1 ≤ d ∧ d < (spanAt c d y m).2 := by
  obtain ⟨hk, _⟩ := calErr_ok hc
  unfold spanAt
  by_cases h0 : c.kind = 0
  · rw [if_pos h0]
    obtain ⟨_, _, h3, h4, h5, h6, rfl⟩ := hd
    have := beg_succ y h3 h4
    simp only; omega
  · rw [if_neg h0]
    obtain ⟨_, a2, a3⟩ := floorA_ok (n := 14 * c.kind) (f := c.first) (d := d) (by omega)
    exact ⟨a2, a3⟩
theorem spanAt_one {c : Cal} {d y m k y' : Int} (hc : calErr c = 0) (hd : IsDate d y m k) (h1 : -25567 ≤ (spanAt c d y m).1) (h2 : (spanAt c d y m).2 ≤ 84006) (hy1 : beg y' 1 ≤ (spanAt c d y m).2 - 1) (hy2 : (spanAt c d y m).2 - 1 < beg (y' + 1) 1) (hy : 1900 ≤ y' ∧ y' ≤ 2199) :
    ∃ i, OneOf c y' i (spanAt c d y m) := by
  obtain ⟨hk, _⟩ := calErr_ok hc
  by_cases h0 : c.kind = 0
  · obtain ⟨d1, d2, h3, h4, h5, h6, e⟩ := hd
    have hb := beg_succ y h3 h4
    have hm := md_low y m
    have hsp : spanAt c d y m = (beg y m, beg y (m + 1)) := by unfold spanAt; rw [if_pos h0]
    rw [hsp] at hy1 hy2 ⊢
    simp only at hy1 hy2
    have hl : IsDate (beg y (m + 1) - 1) y m (md y m) := ⟨d1, d2, h3, h4, by omega, by omega, by omega⟩
    have hyy : y' = y := year_uniq hy1 hy2 hl.year.1 hl.year.2
    subst hyy
    refine ⟨(m - 1).toNat, d1, d2, (spans_month h0 _ _ _).2 ⟨by omega, ?_⟩⟩
    rw [show (((m - 1).toNat : Nat) : Int) = m - 1 by omega, show m - 1 + 1 = m by omega, show m - 1 + 2 = m + 1 by omega]
  · have hsp : spanAt c d y m = (floorA (14 * c.kind) c.first d, floorA (14 * c.kind) c.first d + 14 * c.kind) := by unfold spanAt; rw [if_neg h0]
    obtain ⟨a1, _, _⟩ := floorA_ok (n := 14 * c.kind) (f := c.first) (d := d) (by omega)
    rw [hsp] at h1 h2 hy1 hy2 ⊢
    simp only at h1 h2 hy1 hy2
    have hm : (floorA (14 * c.kind) c.first d, floorA (14 * c.kind) c.first d + 14 * c.kind) ∈ spansOf c y' := (mem_spans (by omega)).2 ⟨rfl, by simp only; omega, by simp only; omega, h1, a1⟩
    obtain ⟨i, hi⟩ := List.getElem?_of_mem hm
    exact ⟨i, hy.1, hy.2, hi⟩
theorem spanAt_none {c : Cal} {d y m k : Int} (hc : calErr c = 0) (hd : IsDate d y m k) (h : ¬ (-25567 ≤ (spanAt c d y m).1 ∧ (spanAt c d y m).2 ≤ 84006)) : findOf c d = none := by
  refine findOf_none fun p ⟨y', i, s, h0, h1, h2, _⟩ => h ?_
  obtain ⟨hk, _⟩ := calErr_ok hc
  have hl := h0.last hc
  have hs : s = spanAt c d y m := by
    unfold spanAt
    rcases h0.kind hc with ⟨hk0, hi, rfl⟩ | ⟨hk0, e, _, _, _, ha⟩
    · rw [if_pos hk0]
      simp only at h1 h2
      have a1 := beg_succ y' (m := (i : Int) + 1) (by omega) (by omega)
      rw [show (i : Int) + 1 + 1 = (i : Int) + 2 by omega] at a1
      have d1 : IsDate d y' ((i : Int) + 1) (d - beg y' ((i : Int) + 1) + 1) := ⟨h0.1, h0.2.1, by omega, by omega, by omega, by omega, by omega⟩
      obtain ⟨rfl, rfl, _⟩ := d1.uniq hd
      rw [show (i : Int) + 1 + 1 = (i : Int) + 2 by omega]
    · rw [if_neg (by omega)]
      have f1 := floorA_uniq (n := 14 * c.kind) (f := c.first) (d := d) (a := s.1) (by omega) ha h1 (by omega)
      exact Prod.ext (by simp only; omega) (by simp only; omega)
  rw [← hs]
  exact ⟨hl.2.2.2.1, hl.2.2.2.2⟩
/-- each day has a date -/
theorem date_ex {d : Int} (h1 : -25567 ≤ d) (h2 : d < 84006) : ∃ y m k, IsDate d y m k := by
  have year : ∀ n : Nat, d < beg (1900 + n) 1 → ∃ y : Int, 1900 ≤ y ∧ y < 1900 + n ∧ beg y 1 ≤ d ∧ d < beg (y + 1) 1 := by
    intro n
    induction n with
    | zero => intro h; have : beg (1900 + (0 : Nat)) 1 = -25567 := rfl; omega
    | succ n ih =>
      intro h
      by_cases hn : d < beg (1900 + n) 1
      · obtain ⟨y, a, b, c, e⟩ := ih hn
        exact ⟨y, a, by omega, c, e⟩
      · exact ⟨1900 + n, by omega, by omega, by omega, by rw [show (1900 : Int) + n + 1 = 1900 + ((n + 1 : Nat) : Int) by omega]; exact h⟩
  obtain ⟨y, a1, a2, a3, a4⟩ := year 300 (by have : beg (1900 + ((300 : Nat) : Int)) 1 = 84006 := rfl; omega)
  have month : ∀ n : Nat, n ≤ 12 → d < beg y (1 + n) → ∃ m : Int, 1 ≤ m ∧ m ≤ n ∧ beg y m ≤ d ∧ d < beg y (m + 1) := by
    intro n
    induction n with
    | zero => intro _ h; simp at h; omega
    | succ n ih =>
      intro hn h
      by_cases hm : d < beg y (1 + n)
      · obtain ⟨m, b1, b2, b3, b4⟩ := ih (by omega) hm
        exact ⟨m, b1, by omega, b3, b4⟩
      · exact ⟨1 + n, by omega, by omega, by omega, by rw [show (1 : Int) + n + 1 = 1 + ((n + 1 : Nat) : Int) by omega]; exact h⟩
  obtain ⟨m, b1, b2, b3, b4⟩ := month 12 (by omega) (by rw [show (1 : Int) + ((12 : Nat) : Int) = 13 by omega, beg_year]; exact a4)
  have := beg_succ y b1 (by omega)
  exact ⟨y, m, d - beg y m + 1, by omega, by omega, b1, by omega, by omega, by omega, by omega⟩

end Wb
end Go.Proofs.YtalpdodajcdibaaDoor
