/- Chapter 6: what counts of periods are: plain, over what the program's functions return. -/
import Derived.Test.YtalpdodajcdibaaDoorPer7
namespace Go.Proofs.YtalpdodajcdibaaDoor

/-- a period of a calendar -/
def IsPer (c : Wb.Cal) (p : Wb.Per) : Prop := ∃ i s, Wb.OneOf c p.year i s ∧ p = Wb.perOf c p.year (Wb.spansOf c p.year).length i s
theorem IsPer.of {c : Wb.Cal} {d : Int} {p : Wb.Per} (h : Wb.FindIs c d p) : IsPer c p := by
  obtain ⟨y, i, s, h0, _, _, rfl⟩ := h
  exact ⟨i, s, h0, rfl⟩
theorem IsPer.find {c : Wb.Cal} {p : Wb.Per} (hc : Wb.calErr c = 0) (h : IsPer c p) : ∀ d, p.from_ ≤ d → d < p.to_ → Wb.FindIs c d p := by
  obtain ⟨i, s, h0, e⟩ := h
  intro d h1 h2
  have e1 : p.from_ = s.1 := by rw [e]; rfl
  have e2 : p.to_ = s.2 := by rw [e]; rfl
  exact ⟨p.year, i, s, h0, by omega, by omega, e⟩
theorem IsPer.pos {c : Wb.Cal} {p : Wb.Per} (hc : Wb.calErr c = 0) (h : IsPer c p) : p.from_ < p.to_ ∧ Wb.beg p.year 1 ≤ p.to_ - 1 ∧ p.to_ - 1 < Wb.beg (p.year + 1) 1 ∧ -25567 ≤ p.from_ ∧ p.to_ ≤ 84006 := by
  obtain ⟨i, s, h0, e⟩ := h
  have e1 : p.from_ = s.1 := by rw [e]; rfl
  have e2 : p.to_ = s.2 := by rw [e]; rfl
  have := h0.last hc
  rw [e1, e2]; exact this
theorem IsPer.self {c : Wb.Cal} {p : Wb.Per} (hc : Wb.calErr c = 0) (h : IsPer c p) : Wb.FindIs c p.from_ p := h.find hc _ (Int.le_refl _) (h.pos hc).1
theorem IsPer.has {c : Wb.Cal} {p : Wb.Per} (hc : Wb.calErr c = 0) (h : IsPer c p) : hasB c p = true := is_hasB hc (h.self hc)
/-- two that meet are one -/
theorem IsPer.meet {c : Wb.Cal} {p q : Wb.Per} (hc : Wb.calErr c = 0) (hp : IsPer c p) (hq : IsPer c q) (h1 : p.from_ < q.to_) (h2 : q.from_ < p.to_) : p = q := by
  have p1 := (hp.pos hc).1
  have q1 := (hq.pos hc).1
  rcases Int.le_total p.from_ q.from_ with h | h
  · exact (hp.find hc q.from_ h h2).uniq hc (hq.find hc _ (Int.le_refl _) q1)
  · exact (hp.find hc _ (Int.le_refl _) p1).uniq hc (hq.find hc p.from_ h h1)
theorem spans_rise {c : Wb.Cal} {y : Int} (hc : Wb.calErr c = 0) {i i' : Nat} {s s' : Int × Int} (h : (Wb.spansOf c y)[i]? = some s) (h' : (Wb.spansOf c y)[i']? = some s') (hi : i < i') : s.1 < s'.1 := by
  obtain ⟨hk, _⟩ := Wb.calErr_ok hc
  by_cases h0 : c.kind = 0
  · obtain ⟨q1, rfl⟩ := (Wb.spans_month h0 y i s).1 h
    obtain ⟨q1', rfl⟩ := (Wb.spans_month h0 y i' s').1 h'
    have a1 := Wb.beg_succ y (m := (i : Int) + 1) (by omega) (by omega)
    have a2 := Wb.md_low y ((i : Int) + 1)
    have a3 := Wb.cum_mono y (a := (i : Int) + 1 + 1) (b := (i' : Int) + 1) (by omega) (by omega) (by omega)
    simp only
    have b1 : Wb.beg y ((i : Int) + 1 + 1) = -25567 + Wb.yb y + Wb.cum y ((i : Int) + 1 + 1) := rfl
    have b2 : Wb.beg y ((i' : Int) + 1) = -25567 + Wb.yb y + Wb.cum y ((i' : Int) + 1) := rfl
    omega
  · rw [Wb.spansOf, if_neg h0, List.getElem?_map, Option.map_eq_some_iff] at h h'
    obtain ⟨d1, e1, rfl⟩ := h
    obtain ⟨d2, e2, rfl⟩ := h'
    have hp := Wb.aligned_rises (n := 14 * c.kind) (f := c.first) (lo := Wb.beg y 1 - 14 * c.kind + 1) (Wb.yl y)
    obtain ⟨b1, c1⟩ := List.getElem?_eq_some_iff.1 e1
    obtain ⟨b2, c2⟩ := List.getElem?_eq_some_iff.1 e2
    rw [List.pairwise_iff_getElem] at hp
    have := hp i i' b1 b2 hi
    simp only; omega
/-- its place in its year -/
theorem IsPer.place {c : Wb.Cal} {p : Wb.Per} (h : IsPer c p) : ∃ i : Nat, p.index = i + 1 ∧ (Wb.spansOf c p.year)[i]? = some (p.from_, p.to_) ∧ Wb.OneOf c p.year i (p.from_, p.to_) := by
  obtain ⟨i, s, h0, e⟩ := h
  have e1 : p.from_ = s.1 := by rw [e]; rfl
  have e2 : p.to_ = s.2 := by rw [e]; rfl
  have e3 : p.index = i + 1 := by rw [e]; rfl
  have : s = (p.from_, p.to_) := Prod.ext e1.symm e2.symm
  subst this
  exact ⟨i, e3, h0.2.2, h0⟩
theorem IsPer.same {c : Wb.Cal} {p q : Wb.Per} (hc : Wb.calErr c = 0) (hp : IsPer c p) (hq : IsPer c q) (h1 : p.year = q.year) (h2 : p.index = q.index) : p = q := by
  obtain ⟨i, a1, a2, _⟩ := hp.place
  obtain ⟨j, b1, b2, _⟩ := hq.place
  have hij : i = j := by omega
  subst hij
  rw [h1, b2] at a2
  have := Option.some.inj a2
  have e1 : q.from_ = p.from_ := congrArg Prod.fst this
  have e2 : q.to_ = p.to_ := congrArg Prod.snd this
  have := (hp.pos hc).1
  exact hp.meet hc hq (by omega) (by omega)
theorem IsPer.less {c : Wb.Cal} {p q : Wb.Per} (hc : Wb.calErr c = 0) (hp : IsPer c p) (hq : IsPer c q) (h : p.year < q.year ∨ p.year = q.year ∧ p.index < q.index) : p.from_ < q.from_ := by
  rcases h with h | ⟨h1, h2⟩
  · obtain ⟨p1, p2, p3, p4, p5⟩ := hp.pos hc
    obtain ⟨q1, q2, q3, q4, q5⟩ := hq.pos hc
    have := Wb.beg_mono (show p.year + 1 ≤ q.year by omega)
    rcases Int.lt_or_le q.from_ p.to_ with g | g
    · have := hp.meet hc hq (by omega) g
      subst this; omega
    · omega
  · obtain ⟨i, a1, a2, _⟩ := hp.place
    obtain ⟨j, b1, b2, _⟩ := hq.place
    rw [h1] at a2
    exact spans_rise hc a2 b2 (by omega)
theorem IsPer.lessB {c : Wb.Cal} {p q : Wb.Per} (hc : Wb.calErr c = 0) (hp : IsPer c p) (hq : IsPer c q) : lessB p q = decide (p.from_ < q.from_) := by
  have key : (p.year < q.year ∨ p.year = q.year ∧ p.index < q.index) ↔ p.from_ < q.from_ := by
    constructor
    · exact hp.less hc hq
    · intro h
      rcases Int.lt_trichotomy p.year q.year with a | a | a
      · exact .inl a
      · rcases Int.lt_trichotomy p.index q.index with b | b | b
        · exact .inr ⟨a, b⟩
        · have := hp.same hc hq a b; subst this; omega
        · have := hq.less hc hp (.inr ⟨a.symm, b⟩); omega
      · have := hq.less hc hp (.inl a); omega
  rw [Bool.eq_iff_iff, decide_eq_true_iff, ← key]
  simp [_root_.Go.Proofs.YtalpdodajcdibaaDoor.lessB]
theorem IsPer.month {c : Wb.Cal} {p : Wb.Per} (h0 : c.kind = 0) (hp : IsPer c p) : 1 ≤ p.index ∧ p.index ≤ 12 := by
  obtain ⟨i, a1, a2, _⟩ := hp.place
  have := ((Wb.spans_month h0 _ _ _).1 a2).1
  omega
theorem count_val {c : Wb.Cal} {p q : Wb.Per} (hc : Wb.calErr c = 0) (hp : IsPer c p) (hq : IsPer c q) :
    (c.kind = 0 → countOf c p q = 12 * (q.year - p.year) + q.index - p.index) ∧ (0 < c.kind → countOf c p q * (14 * c.kind) = q.from_ - p.from_) := by
  have h : hasB c p = true ∧ hasB c q = true := ⟨hp.has hc, hq.has hc⟩
  constructor
  · intro h0; rw [countOf, if_pos h, if_pos h0]
  · intro h0
    rw [countOf, if_pos h, if_neg (by omega)]
    exact diff_exact (is_aligned hc h0 (hp.self hc)).2 (is_aligned hc h0 (hq.self hc)).2
/-- counts, as the law asks of them -/
theorem count_facts {c : Wb.Cal} {p q : Wb.Per} (hc : Wb.calErr c = 0) (hp : IsPer c p) (hq : IsPer c q) :
    (0 < countOf c p q ↔ p.from_ < q.from_) ∧ (countOf c p q = 0 ↔ p = q) ∧ countOf c q p = -countOf c p q ∧ -200000 ≤ countOf c p q ∧ countOf c p q ≤ 200000 := by
  obtain ⟨hk, hk2, _⟩ := Wb.calErr_ok hc
  have r1 := is_range hc (hp.self hc)
  have r2 := is_range hc (hq.self hc)
  by_cases h0 : c.kind = 0
  · have e1 := (count_val hc hp hq).1 h0
    have e2 := (count_val hc hq hp).1 h0
    have m1 := hp.month h0
    have m2 := hq.month h0
    have key := hp.lessB hc hq
    have hl : (p.year < q.year ∨ p.year = q.year ∧ p.index < q.index) ↔ p.from_ < q.from_ := by
      have : lessB p q = true ↔ decide (p.from_ < q.from_) = true := by rw [key]
      simpa [lessB] using this
    refine ⟨?_, ?_, by omega, by omega, by omega⟩
    · rw [← hl]; omega
    · constructor
      · intro h; exact hp.same hc hq (by omega) (by omega)
      · rintro rfl; omega
  · have e1 := (count_val hc hp hq).2 (by omega)
    have e2 := (count_val hc hq hp).2 (by omega)
    have hk1 : c.kind = 1 ∨ c.kind = 2 := by omega
    have hk3 : 14 * c.kind = 14 ∨ 14 * c.kind = 28 := by omega
    have conv : (∀ n : Int, 14 * c.kind = n → n = 14 ∨ n = 28 → (0 < countOf c p q ↔ p.from_ < q.from_) ∧ (countOf c p q = 0 ↔ p.from_ = q.from_) ∧ countOf c q p = -countOf c p q ∧ -200000 ≤ countOf c p q ∧ countOf c p q ≤ 200000) := by
      intro n hn hn2
      rw [hn] at e1 e2
      rcases hn2 with rfl | rfl <;> omega
    obtain ⟨c1, c2, c3, c4, c5⟩ := conv _ rfl hk3
    refine ⟨c1, ?_, c3, c4, c5⟩
    rw [c2]
    constructor
    · intro h
      have := (hp.pos hc).1
      have := (hq.pos hc).1
      exact hp.meet hc hq (by omega) (by omega)
    · rintro rfl; rfl
theorem count_add {c : Wb.Cal} {p q r : Wb.Per} (hc : Wb.calErr c = 0) (hp : IsPer c p) (hq : IsPer c q) (hr : IsPer c r) : countOf c p q + countOf c q r = countOf c p r := by
  obtain ⟨hk, hk2, _⟩ := Wb.calErr_ok hc
  by_cases h0 : c.kind = 0
  · have e1 := (count_val hc hp hq).1 h0
    have e2 := (count_val hc hq hr).1 h0
    have e3 := (count_val hc hp hr).1 h0
    omega
  · have e1 := (count_val hc hp hq).2 (by omega)
    have e2 := (count_val hc hq hr).2 (by omega)
    have e3 := (count_val hc hp hr).2 (by omega)
    have hk3 : 14 * c.kind = 14 ∨ 14 * c.kind = 28 := by omega
    rcases hk3 with h | h <;> rw [h] at e1 e2 e3 <;> omega
theorem findErr_ok {c : Wb.Cal} {d : Int} (h : findErr c d = 0) : Wb.calErr c = 0 ∧ IsPer c (findPer c d) := by
  by_cases hc : Wb.calErr c = 0
  · rw [findErr, if_pos hc] at h
    split at h
    · omega
    · cases hf : Wb.findOf c d with
      | none => rw [hf] at h; simp at h
      | some p => exact ⟨hc, by rw [findPer, if_pos hc, hf]; exact IsPer.of (Wb.findOf_is hf)⟩
  · rw [findErr, if_neg hc] at h; exact absurd h hc
theorem findErr_no {c : Wb.Cal} {d : Int} (h : findErr c d ≠ 0) : findPer c d = zeroPer := by
  by_cases hc : Wb.calErr c = 0
  · rw [findErr, if_pos hc] at h
    rw [findPer, if_pos hc]
    cases hf : Wb.findOf c d with
    | none => rfl
    | some p =>
      obtain ⟨y, i, s, h0, a1, a2, _⟩ := Wb.findOf_is hf
      have := h0.last hc
      rw [hf, if_neg (by omega)] at h
      exact absurd rfl h
  · rw [findPer, if_neg hc]

end Go.Proofs.YtalpdodajcdibaaDoor
