/- Chapter 6: a year's periods follow each other: plain. -/
import Derived.Test.YtalpdodajcdibaaDoorPCnt
import Derived.Test.YtalpdodajcdibaaDoorRPer4
namespace Go.Proofs.YtalpdodajcdibaaDoor

theorem beg_2200 : Wb.beg 2200 1 = 84006 := rfl
theorem beg_1900 : Wb.beg 1900 1 = -25567 := rfl
theorem beg_next (y : Int) : Wb.beg (y + 1) 1 = Wb.beg y 1 + 365 + Wb.lp y := by unfold Wb.beg; rw [Wb.cum_one, Wb.cum_one, Wb.yb_succ]; omega
/-- how long a period is -/
theorem IsPer.long {c : Wb.Cal} {p : Wb.Per} (hc : Wb.calErr c = 0) (hp : IsPer c p) : p.from_ + 14 ≤ p.to_ ∧ p.to_ ≤ p.from_ + 31 ∧ (0 < c.kind → p.to_ = p.from_ + 14 * c.kind ∧ (p.from_ - c.first) % (14 * c.kind) = 0) := by
  obtain ⟨hk, hk2, _⟩ := Wb.calErr_ok hc
  obtain ⟨i, a1, a2, a3⟩ := hp.place
  rcases a3.kind hc with ⟨h0, hi, e⟩ | ⟨h0, e, _, _, _, ha⟩
  · have e1 : p.from_ = Wb.beg p.year ((i : Int) + 1) := congrArg Prod.fst e
    have e2 : p.to_ = Wb.beg p.year ((i : Int) + 2) := congrArg Prod.snd e
    have b1 := Wb.beg_succ p.year (m := (i : Int) + 1) (by omega) (by omega)
    have b2 := Wb.md_low p.year ((i : Int) + 1)
    rw [show (i : Int) + 1 + 1 = (i : Int) + 2 by omega] at b1
    exact ⟨by omega, by omega, fun h => by omega⟩
  · simp only at e ha
    exact ⟨by omega, by omega, fun _ => ⟨e, ha⟩⟩
/-- the one behind, if it is whole -/
theorem IsPer.behind {c : Wb.Cal} {p : Wb.Per} (hc : Wb.calErr c = 0) (hp : IsPer c p) (h1 : p.to_ < 84006) (h2 : 0 < c.kind → p.to_ + 14 * c.kind ≤ 84006) : ∃ q, IsPer c q ∧ q.from_ = p.to_ := by
  obtain ⟨hk, hk2, _⟩ := Wb.calErr_ok hc
  obtain ⟨p1, p2, p3, p4, p5⟩ := hp.pos hc
  obtain ⟨l1, l2, l3⟩ := hp.long hc
  obtain ⟨y, m, k, hd⟩ := Wb.date_ex (d := p.to_) (by omega) h1
  have hsp : (Wb.spanAt c p.to_ y m).1 = p.to_ ∧ -25567 ≤ (Wb.spanAt c p.to_ y m).1 ∧ (Wb.spanAt c p.to_ y m).2 ≤ 84006 := by
    by_cases h0 : c.kind = 0
    · obtain ⟨i, a1, a2, a3⟩ := hp.place
      obtain ⟨hi, e⟩ := (Wb.spans_month h0 _ _ _).1 a2
      have e2 : p.to_ = Wb.beg p.year ((i : Int) + 2) := congrArg Prod.snd e
      have hs : Wb.spanAt c p.to_ y m = (Wb.beg y m, Wb.beg y (m + 1)) := by unfold Wb.spanAt; rw [if_pos h0]
      -- the first day of a month
      have hfirst : ∃ yy mm : Int, Wb.IsDate p.to_ yy mm 1 := by
        by_cases hl : (i : Int) + 2 ≤ 12
        · have := Wb.md_low p.year ((i : Int) + 2)
          exact ⟨p.year, (i : Int) + 2, a3.1, a3.2.1, by omega, hl, by omega, by omega, by omega⟩
        · have hi11 : (i : Int) + 2 = 13 := by omega
          rw [hi11, Wb.beg_year] at e2
          have := Wb.md_low (p.year + 1) 1
          have hy : p.year + 1 ≤ 2199 := by
            rcases Int.lt_or_le 2199 (p.year + 1) with g | g
            · have hy2 := a3.2.1
              have : p.year + 1 = 2200 := by omega
              rw [this, beg_2200] at e2; omega
            · exact g
          exact ⟨p.year + 1, 1, by have := a3.1; omega, hy, by omega, by omega, by omega, by omega, by omega⟩
      obtain ⟨yy, mm, hf⟩ := hfirst
      obtain ⟨rfl, rfl, rfl⟩ := hf.uniq hd
      obtain ⟨d1, d2, d3, d4, d5, d6, d7⟩ := hf
      rw [hs]
      have b1 := Wb.beg_succ yy (m := mm) d3 d4
      have b2 := Wb.cum_mono yy (a := mm + 1) (b := 13) (by omega) (by omega) (by omega)
      have b3 := Wb.beg_year yy
      have b4 := Wb.beg_mono (show yy + 1 ≤ 2200 by omega)
      rw [beg_2200] at b4
      have b5 : Wb.beg yy (mm + 1) = -25567 + Wb.yb yy + Wb.cum yy (mm + 1) := rfl
      have b6 : Wb.beg yy 13 = -25567 + Wb.yb yy + Wb.cum yy 13 := rfl
      simp only
      omega
    · have hs : Wb.spanAt c p.to_ y m = (Wb.floorA (14 * c.kind) c.first p.to_, Wb.floorA (14 * c.kind) c.first p.to_ + 14 * c.kind) := by unfold Wb.spanAt; rw [if_neg h0]
      obtain ⟨e1, e2⟩ := l3 (by omega)
      have hfl : Wb.floorA (14 * c.kind) c.first p.to_ = p.to_ := Wb.floorA_self (by rw [e1]; exact Wb.aligned_step e2)
      rw [hs, hfl]
      have h3 := h2 (by omega)
      exact ⟨rfl, by show -25567 ≤ p.to_; omega, h3⟩
  obtain ⟨s1, s2, s3⟩ := hsp
  have hin := Wb.spanAt_has hc hd
  obtain ⟨y', m', k', hd'⟩ := Wb.date_ex (d := (Wb.spanAt c p.to_ y m).2 - 1) (by omega) (by omega)
  obtain ⟨i, hone⟩ := Wb.spanAt_one (y' := y') hc hd s2 s3 hd'.year.1 hd'.year.2 ⟨hd'.1, hd'.2.1⟩
  exact ⟨Wb.perOf c y' (Wb.spansOf c y').length i (Wb.spanAt c p.to_ y m), ⟨i, _, hone, rfl⟩, s1⟩
theorem pers_is {c : Wb.Cal} {y : Int} (h1 : 1900 ≤ y) (h2 : y ≤ 2199) {k : Nat} {p : Wb.Per} (h : (Wb.yearPers c y)[k]? = some p) : IsPer c p ∧ p.year = y ∧ p.index = k + 1 ∧ p.of = (Wb.yearPers c y).length := by
  obtain ⟨s, hs, rfl⟩ := pers_get h
  exact ⟨⟨k, s, ⟨h1, h2, hs⟩, rfl⟩, rfl, rfl, by rw [Wb.yearPers, Wb.persFrom_len]; rfl⟩
theorem is_pers {c : Wb.Cal} {p : Wb.Per} (hp : IsPer c p) : ∃ k : Nat, p.index = k + 1 ∧ (Wb.yearPers c p.year)[k]? = some p := by
  obtain ⟨i, s, h0, e⟩ := hp
  have hg := Wb.persFrom_get (c := c) (y := p.year) (n := (Wb.spansOf c p.year).length) (i := 0) h0.2.2
  rw [← Wb.yearPers, Nat.zero_add, ← e] at hg
  exact ⟨i, by rw [e]; rfl, hg⟩
/-- two of a year, one behind the other, touch -/
theorem IsPer.touch {c : Wb.Cal} {p r : Wb.Per} (hc : Wb.calErr c = 0) (hp : IsPer c p) (hr : IsPer c r) (h1 : p.year = r.year) (h2 : r.index = p.index + 1) : p.to_ = r.from_ := by
  have hlt := hp.less hc hr (.inr ⟨h1, by omega⟩)
  have hle : p.to_ ≤ r.from_ := by
    rcases Int.lt_or_le r.from_ p.to_ with g | g
    · have := hp.meet hc hr (by have := (hr.pos hc).1; omega) g
      subst this; omega
    · exact g
  rcases Int.lt_or_le p.to_ r.from_ with g | g
  · obtain ⟨p1, p2, p3, p4, p5⟩ := hp.pos hc
    obtain ⟨r1, r2, r3, r4, r5⟩ := hr.pos hc
    obtain ⟨l1, l2, l3⟩ := hr.long hc
    obtain ⟨q, hq, hqf⟩ := hp.behind hc (by omega) (fun h => by have := (l3 h).1; omega)
    obtain ⟨q1, q2, q3, q4, q5⟩ := hq.pos hc
    have hqr : q.to_ ≤ r.from_ := by
      rcases Int.lt_or_le r.from_ q.to_ with g2 | g2
      · have := hq.meet hc hr (by omega) g2
        subst this; omega
      · exact g2
    have hy : q.year = r.year := Wb.year_uniq (d := q.to_ - 1) q2 q3 (by rw [← h1]; omega) (by omega)
    have k1 := hp.lessB hc hq
    have k2 := hq.lessB hc hr
    have d1 : decide (p.from_ < q.from_) = true := by simp; omega
    have d2 : decide (q.from_ < r.from_) = true := by simp; omega
    rw [d1] at k1
    rw [d2] at k2
    simp [_root_.Go.Proofs.YtalpdodajcdibaaDoor.lessB] at k1 k2
    omega
  · omega
theorem IsPer.step {c : Wb.Cal} {p q : Wb.Per} (hc : Wb.calErr c = 0) (hp : IsPer c p) (hq : IsPer c q) (h : p.to_ = q.from_) : nextErr c p = 0 ∧ nextPer c p = q := by
  have hf : Wb.FindIs c p.to_ q := hq.find hc _ (by omega) (by have := (hq.pos hc).1; omega)
  obtain ⟨e1, e2⟩ := findErr_is hc hf
  have hh := hp.has hc
  exact ⟨by rw [nextErr, if_pos hc, if_pos ⟨hh, e1⟩], by rw [nextPer, if_pos ⟨hc, hh, e1⟩, e2]⟩
/-- the last of a year, and the first of the next one -/
theorem IsPer.turn {c : Wb.Cal} {p : Wb.Per} (hc : Wb.calErr c = 0) (hp : IsPer c p) (hl : p.index = (Wb.yearPers c p.year).length) (hy : p.year < 2199) :
    ∃ q, IsPer c q ∧ p.to_ = q.from_ ∧ q.year = p.year + 1 ∧ q.index = 1 := by
  obtain ⟨hk, hk2, _⟩ := Wb.calErr_ok hc
  obtain ⟨p1, p2, p3, p4, p5⟩ := hp.pos hc
  have b1 := Wb.beg_mono (show p.year + 1 + 1 ≤ 2200 by omega)
  rw [beg_2200] at b1
  have b2 := beg_next (p.year + 1)
  have b3 := Wb.lp_01 (p.year + 1)
  obtain ⟨q, hq, hqf⟩ := hp.behind hc (by omega) (fun _ => by omega)
  obtain ⟨q1, q2, q3, q4, q5⟩ := hq.pos hc
  obtain ⟨l1, l2, _⟩ := hq.long hc
  have kl := hp.lessB hc hq
  rw [show decide (p.from_ < q.from_) = true by simp; omega] at kl
  simp [_root_.Go.Proofs.YtalpdodajcdibaaDoor.lessB] at kl
  obtain ⟨kq, kq1, kq2⟩ := is_pers hq
  have hy1 : p.year < q.year := by
    rcases kl with g | ⟨g1, g2⟩
    · exact g
    · have := (List.getElem?_eq_some_iff.1 kq2).1
      rw [← g1] at this
      omega
  have hy2 : q.year = p.year + 1 := by
    rcases Int.lt_or_le (p.year + 1) q.year with g | g
    · have := Wb.beg_mono (show p.year + 1 + 1 ≤ q.year by omega); omega
    · omega
  refine ⟨q, hq, hqf.symm, hy2, ?_⟩
  cases kq with
  | zero => simpa using kq1
  | succ j =>
    exfalso
    obtain ⟨i, s, h0, e⟩ := id hq
    obtain ⟨r, hr⟩ := Wb.get_ex (l := Wb.yearPers c q.year) (k := j) (by have := (List.getElem?_eq_some_iff.1 kq2).1; omega)
    obtain ⟨r1, r2, r3, _⟩ := pers_is (c := c) h0.1 h0.2.1 hr
    have ht := r1.touch hc hq r2 (by omega)
    have rp := (r1.pos hc).1
    have := hp.meet hc r1 (by omega) (by omega)
    subst this; omega
theorem count_one {c : Wb.Cal} {p q : Wb.Per} (hc : Wb.calErr c = 0) (hp : IsPer c p) (hq : IsPer c q) (h : p.to_ = q.from_) (hm : c.kind = 0 → 12 * (q.year - p.year) + q.index - p.index = 1) : countOf c p q = 1 := by
  obtain ⟨hk, hk2, _⟩ := Wb.calErr_ok hc
  by_cases h0 : c.kind = 0
  · rw [(count_val hc hp hq).1 h0]; exact hm h0
  · have e := (count_val hc hp hq).2 (by omega)
    have l := ((hp.long hc).2.2 (by omega)).1
    have hk3 : 14 * c.kind = 14 ∨ 14 * c.kind = 28 := by omega
    rcases hk3 with g | g <;> rw [g] at e l <;> omega
/-- a year has one at least -/
theorem year_some {c : Wb.Cal} {y : Int} (hc : Wb.calErr c = 0) (h1 : 1900 ≤ y) (h2 : y ≤ 2199) : 0 < (Wb.yearPers c y).length := by
  obtain ⟨hk, hk2, _⟩ := Wb.calErr_ok hc
  have b0 := Wb.beg_mono h1
  have b1 := Wb.beg_mono (show y + 1 ≤ 2200 by omega)
  rw [beg_1900] at b0
  rw [beg_2200] at b1
  have b2 := beg_next y
  have b3 := Wb.lp_01 y
  obtain ⟨yy, m, k, hd⟩ := Wb.date_ex (d := Wb.beg y 1 + 100) (by omega) (by omega)
  obtain rfl : yy = y := Wb.year_uniq hd.year.1 hd.year.2 (by omega) (by omega)
  have hin := Wb.spanAt_has hc hd
  have hw : Wb.beg yy 1 ≤ (Wb.spanAt c (Wb.beg yy 1 + 100) yy m).1 ∧ (Wb.spanAt c (Wb.beg yy 1 + 100) yy m).2 ≤ Wb.beg (yy + 1) 1 := by
    unfold Wb.spanAt
    by_cases h0 : c.kind = 0
    · rw [if_pos h0]
      obtain ⟨d1, d2, d3, d4, d5, d6, d7⟩ := hd
      have c1 := Wb.cum_mono yy (a := 1) (b := m) (by omega) d3 (by omega)
      have c2 := Wb.cum_mono yy (a := m + 1) (b := 13) (by omega) (by omega) (by omega)
      have c3 := Wb.beg_year yy
      have e1 : Wb.beg yy m = -25567 + Wb.yb yy + Wb.cum yy m := rfl
      have e2 : Wb.beg yy (m + 1) = -25567 + Wb.yb yy + Wb.cum yy (m + 1) := rfl
      have e3 : Wb.beg yy 13 = -25567 + Wb.yb yy + Wb.cum yy 13 := rfl
      have e4 : Wb.beg yy 1 = -25567 + Wb.yb yy + Wb.cum yy 1 := rfl
      simp only; omega
    · rw [if_neg h0]
      obtain ⟨f1, f2, f3⟩ := Wb.floorA_ok (n := 14 * c.kind) (f := c.first) (d := Wb.beg yy 1 + 100) (by omega)
      simp only; omega
  obtain ⟨i, hone⟩ := Wb.spanAt_one (y' := yy) hc hd (by omega) (by omega) (by omega) (by omega) ⟨h1, h2⟩
  have := (List.getElem?_eq_some_iff.1 hone.2.2).1
  rw [Wb.yearPers, Wb.persFrom_len]; omega
/-- within a year: counts from the first one on -/
theorem count_year {c : Wb.Cal} {y : Int} (hc : Wb.calErr c = 0) (h1 : 1900 ≤ y) (h2 : y ≤ 2199) {p0 : Wb.Per} (h0 : (Wb.yearPers c y)[0]? = some p0) : ∀ (k : Nat) (p : Wb.Per), (Wb.yearPers c y)[k]? = some p → countOf c p0 p = k
  | 0, p, h => by
    rw [h0] at h
    obtain rfl := Option.some.inj h
    have i0 := (pers_is h1 h2 h0).1
    exact (count_facts hc i0 i0).2.1.2 rfl
  | k + 1, p, h => by
    obtain ⟨q, hq⟩ := Wb.get_ex (l := Wb.yearPers c y) (k := k) (by have := (List.getElem?_eq_some_iff.1 h).1; omega)
    have ih := count_year hc h1 h2 h0 k q hq
    obtain ⟨a1, a2, a3, _⟩ := pers_is h1 h2 h0
    obtain ⟨b1, b2, b3, _⟩ := pers_is h1 h2 hq
    obtain ⟨d1, d2, d3, _⟩ := pers_is h1 h2 h
    have ht := b1.touch hc d1 (by omega) (by omega)
    have := count_one hc b1 d1 ht (fun _ => by omega)
    have := count_add hc a1 b1 d1
    omega
theorem month_len {c : Wb.Cal} {y : Int} (h0 : c.kind = 0) : (Wb.yearPers c y).length = 12 := by
  rw [Wb.yearPers, Wb.persFrom_len, Wb.spansOf, if_pos h0]; simp
/-- how many there are in a year -/
theorem year_many {c : Wb.Cal} {y : Int} (hc : Wb.calErr c = 0) (h1 : 1900 ≤ y) (h2 : y ≤ 2199) : 12 ≤ (Wb.yearPers c y).length ∧ (Wb.yearPers c y).length ≤ 27 := by
  obtain ⟨hk, hk2, _⟩ := Wb.calErr_ok hc
  by_cases h0 : c.kind = 0
  · rw [month_len h0]; omega
  · have hpos := year_some hc h1 h2
    obtain ⟨n, hn⟩ : ∃ n, (Wb.yearPers c y).length = n := ⟨_, rfl⟩
    rw [hn] at hpos ⊢
    obtain ⟨p, hp⟩ := Wb.get_ex (l := Wb.yearPers c y) (k := 0) (by omega)
    obtain ⟨q, hq⟩ := Wb.get_ex (l := Wb.yearPers c y) (k := n - 1) (by omega)
    obtain ⟨a1, a2, a3, _⟩ := pers_is h1 h2 hp
    obtain ⟨b1, b2, b3, _⟩ := pers_is h1 h2 hq
    have hcnt := count_year hc h1 h2 hp _ q hq
    have hval := (count_val hc a1 b1).2 (by omega)
    rw [hcnt] at hval
    obtain ⟨p1, p2, p3, p4, p5⟩ := a1.pos hc
    obtain ⟨q1, q2, q3, q4, q5⟩ := b1.pos hc
    have lp := ((a1.long hc).2.2 (by omega))
    have lq := ((b1.long hc).2.2 (by omega))
    have c0 := Wb.beg_mono h1
    have c1 := Wb.beg_mono (show y + 1 ≤ 2200 by omega)
    rw [beg_1900] at c0
    rw [beg_2200] at c1
    have c2 := beg_next y
    have c3 := Wb.lp_01 y
    rw [a2] at p2 p3
    rw [b2] at q2 q3
    -- the first one begins no later than one length behind the year's first day
    have hfirst : p.from_ ≤ Wb.beg y 1 + 14 * c.kind - 1 := by
      rcases Int.lt_or_le (Wb.beg y 1 + 14 * c.kind - 1) p.from_ with g | g
      · exfalso
        have hm : (p.from_ - 14 * c.kind, p.from_) ∈ Wb.spansOf c y := (Wb.mem_spans (by omega)).2 ⟨by simp only; omega, by simp only; omega, by simp only; omega, by simp only; omega, by
          simp only
          have := Wb.aligned_step (n := -(14 * c.kind)) (f := c.first) (a := p.from_) (by rw [Int.emod_neg]; exact lp.2)
          rw [Int.emod_neg] at this
          rw [show p.from_ - 14 * c.kind - c.first = p.from_ + -(14 * c.kind) - c.first by omega]; exact this⟩
        obtain ⟨j, hj⟩ := List.getElem?_of_mem hm
        obtain ⟨i, e1, e2, _⟩ := a1.place
        have i0 : i = 0 := by omega
        subst i0
        rw [a2] at e2
        by_cases hj0 : j = 0
        · subst hj0; rw [e2] at hj; have := congrArg Prod.snd (Option.some.inj hj); simp only at this; omega
        · have := spans_rise hc e2 hj (by omega); simp only at this; omega
      · exact g
    -- the last one ends less than one length ahead of the year's end
    have hlast : Wb.beg (y + 1) 1 < q.to_ + 14 * c.kind := by
      rcases Int.lt_or_le (Wb.beg (y + 1) 1) (q.to_ + 14 * c.kind) with g | g
      · exact g
      · exfalso
        obtain ⟨r, hr, hrf⟩ := b1.behind hc (by omega) (fun _ => by omega)
        obtain ⟨r1, r2, r3, r4, r5⟩ := hr.pos hc
        have lr := ((hr.long hc).2.2 (by omega)).1
        have hy : r.year = y := Wb.year_uniq (d := r.to_ - 1) r2 r3 (by omega) (by omega)
        obtain ⟨k, k1, k2⟩ := is_pers hr
        rw [hy] at k2
        have := (List.getElem?_eq_some_iff.1 k2).1
        have kl := b1.lessB hc hr
        rw [show decide (q.from_ < r.from_) = true by simp; omega] at kl
        simp [_root_.Go.Proofs.YtalpdodajcdibaaDoor.lessB] at kl
        omega
    have hk3 : 14 * c.kind = 14 ∨ 14 * c.kind = 28 := by omega
    have l1 := lp.1
    have l2 := lq.1
    rcases hk3 with g | g <;> rw [g] at hval hfirst hlast l1 l2 <;> omega
theorem pay_of {c : Wb.Cal} {p : Wb.Per} (hc : Wb.calErr c = 0) (hp : IsPer c p) (h : c.lag = 0) : p.pay = p.to_ - 1 := by
  have h5 := (hp.pos hc).2.2.2.2
  obtain ⟨i, s, h0, e⟩ := hp
  have e1 : p.to_ = s.2 := by rw [e]; rfl
  have e2 : p.pay = min (s.2 - 1 + c.lag) 84005 := by rw [e]; rfl
  omega

end Go.Proofs.YtalpdodajcdibaaDoor
