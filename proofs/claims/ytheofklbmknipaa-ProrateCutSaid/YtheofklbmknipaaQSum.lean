/- Chapter 20, plain: sums of pieces, turned round, cut. -/
import Derived.Test.YtheofklbmknipaaQPc
namespace Go.Proofs.Ytheofklbmknipaa
open Go.RowKit Go.Lib
set_option maxRecDepth 8000

theorem upT_dabs {c : Int} {i j n : Nat} (hn : 0 < n) (hi : i ≤ j) (hj : j ≤ n) : (Wb.upT c j n - Wb.upT c i n).natAbs ≤ c.natAbs := by
  have := Wb.upT_abs (c := c) hn hj
  have := Wb.upT_abs (c := c) hn (Nat.le_trans hi hj)
  by_cases hc : c < 0
  · have := Wb.upT_turn hc (d := n) hi
    have := Wb.upT_neg hc i n
    have := Wb.upT_neg hc j n
    omega
  · have := Wb.upT_mono (c := c) (by omega) (d := n) hi
    have := Wb.upT_pos (c := c) (by omega) i n
    have := Wb.upT_pos (c := c) (by omega) j n
    omega
theorem betw_abs (c f t o : Int) : (Wb.betw c f t o).1.natAbs ≤ c.natAbs := by
  rcases Wb.betw_is c f t o with ⟨_, _, h1, _, h2, h3, h4, h5⟩ | ⟨_, h⟩
  · rw [h5]; exact upT_dabs (by omega) (by omega) (by omega)
  · rw [h]; simp
theorem ofR_abs {c r : Int} (h0 : 0 ≤ r) (h1 : r ≤ 1000000) : (Wb.ofR c r).1.natAbs ≤ c.natAbs := by
  have hq : Wb.huN (c.natAbs * r.natAbs) 1000000 ≤ c.natAbs := Wb.hu_le (by decide) (Nat.mul_le_mul_left _ (by omega))
  unfold Wb.ofR Wb.partR
  split
  · simp
  split
  · simp
  split
  · simp
  split
  · simp
  split
  · simp
  simp only [show (1000000 : Int).toNat = 1000000 from rfl]
  unfold Wb.sgn
  split <;> omega
theorem ofR_nought (c : Int) : (Wb.ofR c 0).1 = 0 := by
  unfold Wb.ofR Wb.partR
  split
  · rfl
  split
  · rfl
  split
  · rfl
  split
  · rfl
  split
  · rfl
  simp only [show (1000000 : Int).toNat = 1000000 from rfl, show (0 : Int).natAbs = 0 from rfl, Nat.mul_zero, Wb.hu_zero (show 0 < 1000000 by decide)]
  unfold Wb.sgn
  split <;> rfl
theorem pc_abs (ix o : Int) (s : Wb.Sp) (x : Pc) : (pcR ix o s x).1.natAbs ≤ (Wb.ofR x.y x.part).1.natAbs := by
  unfold pcR
  split
  · simp
  split
  · simp
  exact Nat.le_trans (betw_abs _ _ _ _) (betw_abs _ _ _ _)

/-! ### what a sum told without an error says -/
def tot (ix o : Int) (s : Wb.Sp) : List Pc → Int
  | [] => 0
  | x :: r => (pcR ix o s x).1 + tot ix o s r
theorem tot_app (ix o : Int) (s : Wb.Sp) : ∀ a b : List Pc, tot ix o s (a ++ b) = tot ix o s a + tot ix o s b
  | [], b => by simp [tot]
  | x :: a, b => by rw [List.cons_append, tot, tot, tot_app ix o s a b]; omega
theorem tot_rev (ix o : Int) (s : Wb.Sp) : ∀ l : List Pc, tot ix o s l.reverse = tot ix o s l
  | [] => rfl
  | x :: l => by rw [List.reverse_cons, tot_app, tot_rev ix o s l, tot, tot, tot]; omega
def Fine (ix o : Int) (s : Wb.Sp) (ah l : List Pc) : Prop :=
  (∀ x ∈ l, inP s x.d = true ∧ (pcR ix o s x).2 = 0) ∧ (∀ x ∈ l, ∀ z ∈ ah, meetB x.d z.d = false) ∧ l.Pairwise (fun x z => meetB z.d x.d = false)
theorem sal_fine {ix o : Int} {s : Wb.Sp} : ∀ {l ah : List Pc} {sum r : Int}, salR ix o s ah sum l = (r, 0) → Fine ix o s ah l ∧ r = sum + tot ix o s l
  | [], ah, sum, r, h => by
    rw [salR] at h
    obtain ⟨rfl, _⟩ := Prod.mk.inj h
    exact ⟨⟨(fun x hx => by cases hx), (fun x hx => by cases hx), List.Pairwise.nil⟩, by simp [tot]⟩
  | x :: l, ah, sum, r, h => by
    rw [salR] at h
    split at h
    · exact absurd (Prod.mk.inj h).2 (by decide)
    rename_i h1
    split at h
    · exact absurd (Prod.mk.inj h).2 (by decide)
    rename_i h2
    split at h
    · rename_i h3; exact absurd (Prod.mk.inj h).2 h3
    rename_i h3
    split at h
    · rename_i h4; exact absurd (Prod.mk.inj h).2 h4
    rename_i h4
    have h3' : (pcR ix o s x).2 = 0 := by omega
    have h4' : (Wb.told sum (pcR ix o s x).1 (sum + (pcR ix o s x).1)).2 = 0 := by omega
    rw [(Wb.told_back h4').1] at h
    obtain ⟨⟨f1, f2, f3⟩, hr⟩ := sal_fine h
    have h1' : inP s x.d = true := by simpa using h1
    have h2' : ∀ z ∈ ah, meetB x.d z.d = false := fun z hz => by
      cases hq : meetB x.d z.d
      · rfl
      · exact absurd (List.any_eq_true.2 ⟨z, hz, hq⟩) h2
    refine ⟨⟨fun z hz => ?_, fun z hz u hu => ?_, ?_⟩, ?_⟩
    · rcases List.mem_cons.1 hz with rfl | hz
      · exact ⟨h1', h3'⟩
      · exact f1 z hz
    · rcases List.mem_cons.1 hz with rfl | hz
      · exact h2' u hu
      · exact f2 z hz u (List.mem_append_left _ hu)
    · exact List.pairwise_cons.2 ⟨fun z hz => f2 z hz x (by simp), f3⟩
    · rw [hr, tot]; omega
theorem fine_sal {ix o : Int} {s : Wb.Sp} (B : Int) : ∀ {l ah : List Pc} {sum : Int}, Fine ix o s ah l → (∀ x ∈ l, (pcR ix o s x).1.natAbs ≤ B.natAbs) → (sum.natAbs + l.length * B.natAbs : Nat) ≤ 1125899906842624 → salR ix o s ah sum l = (sum + tot ix o s l, 0)
  | [], ah, sum, _, _, _ => by rw [salR, tot, Int.add_zero]
  | x :: l, ah, sum, ⟨f1, f2, f3⟩, hb, hs => by
    obtain ⟨g1, g2⟩ := f1 x (by simp)
    obtain ⟨p1, p2⟩ := List.pairwise_cons.1 f3
    have hx := hb x (by simp)
    rw [List.length_cons, Nat.add_mul, Nat.one_mul] at hs
    have e : Wb.told sum (pcR ix o s x).1 (sum + (pcR ix o s x).1) = (sum + (pcR ix o s x).1, 0) := told_fit ((Wb.fits_iff _).2 (by omega)) ((Wb.fits_iff _).2 (by omega)) ((Wb.fits_iff _).2 (by omega))
    rw [salR, if_neg (by rw [g1]; decide), if_neg ?_, if_neg (by rw [g2]; decide), e]
    · simp only
      rw [if_neg (by decide), fine_sal B (l := l) ⟨fun z hz => f1 z (by simp [hz]), ?_, p2⟩ (fun z hz => hb z (by simp [hz])) (by omega), tot]
      · rw [Int.add_assoc]
      · intro z hz u hu
        rcases List.mem_append.1 hu with hu | hu
        · exact f2 z (by simp [hz]) u hu
        · simp at hu; subst hu; exact p1 z hz
    · intro ha
      obtain ⟨z, hz, hm⟩ := List.any_eq_true.1 ha
      rw [f2 x (by simp) z hz] at hm; cases hm
theorem sal_ill {ix o : Int} {s : Wb.Sp} : ∀ {l ah : List Pc} {sum r E : Int}, salR ix o s ah sum l = (r, E) → E ≠ 0 → r = 0
  | [], ah, sum, r, E, h, hE => by rw [salR] at h; exact absurd (Prod.mk.inj h).2.symm hE
  | x :: l, ah, sum, r, E, h, hE => by
    rw [salR] at h
    split at h
    · exact (Prod.mk.inj h).1.symm
    split at h
    · exact (Prod.mk.inj h).1.symm
    split at h
    · exact (Prod.mk.inj h).1.symm
    split at h
    · exact (Prod.mk.inj h).1.symm
    exact sal_ill h hE
theorem salary_bad {ix o : Int} {s : Wb.Sp} {l : List Pc} {r E : Int} (h : salaryR ix o s l = (r, E)) (hE : E ≠ 0) : r = 0 := by
  unfold salaryR at h
  split at h
  · exact (Prod.mk.inj h).1.symm
  · exact sal_ill h hE
theorem sal_pre {ix o : Int} {s : Wb.Sp} : ∀ {l m ah : List Pc} {sum r : Int}, salR ix o s ah sum (l ++ m) = (r, 0) → (salR ix o s ah sum l).2 = 0
  | [], m, ah, sum, r, _ => rfl
  | x :: l, m, ah, sum, r, h => by
    rw [List.cons_append, salR] at h
    rw [salR]
    split at h
    · exact absurd (Prod.mk.inj h).2 (by decide)
    rename_i h1
    split at h
    · exact absurd (Prod.mk.inj h).2 (by decide)
    rename_i h2
    split at h
    · rename_i h3; exact absurd (Prod.mk.inj h).2 h3
    rename_i h3
    split at h
    · rename_i h4; exact absurd (Prod.mk.inj h).2 h4
    rename_i h4
    rw [if_neg h1, if_neg h2, if_neg h3, if_neg h4]
    exact sal_pre h

/-! ### turned round -/
def Small (x : Pc) : Prop := -1099511627776 ≤ x.y ∧ x.y ≤ 1099511627776 ∧ 0 ≤ x.part ∧ x.part ≤ 1000000
theorem small_abs {ix o : Int} {s : Wb.Sp} {x : Pc} (h : Small x) : (pcR ix o s x).1.natAbs ≤ (1099511627776 : Int).natAbs := by
  have h1 := pc_abs ix o s x
  have h2 := ofR_abs (c := x.y) h.2.2.1 h.2.2.2
  have := h.1
  have := h.2.1
  omega
theorem meet_comm (a b : Wb.Sp) : meetB a b = meetB b a := by unfold meetB; exact Bool.and_comm _ _
theorem fine_rev {ix o : Int} {s : Wb.Sp} {l : List Pc} (h : Fine ix o s [] l) : Fine ix o s [] l.reverse :=
  ⟨fun x hx => h.1 x (by simpa using hx), ⟨fun x _ z hz => (by cases hz), List.pairwise_reverse.2 (h.2.2.imp fun h => by rw [meet_comm]; exact h)⟩⟩
theorem turn_ok {ix o : Int} {s : Wb.Sp} {l : List Pc} (hl : l.length ≤ 20) (hs : ∀ x ∈ l, Small x) {a : Int} (h : salaryR ix o s l = (a, 0)) : salaryR ix o s l.reverse = (a, 0) := by
  unfold salaryR at h ⊢
  rw [if_neg (by omega)] at h
  rw [if_neg (by rw [List.length_reverse]; omega)]
  obtain ⟨hf, hr⟩ := sal_fine h
  rw [fine_sal 1099511627776 (fine_rev hf) (fun x hx => small_abs (hs x (by simpa using hx))) (by rw [List.length_reverse]; simp only [Int.natAbs_zero, show (1099511627776 : Int).natAbs = 1099511627776 from rfl]; omega), tot_rev, hr]
theorem turned {ix o : Int} {s : Wb.Sp} {l : List Pc} (hl : l.length ≤ 20) (hs : ∀ x ∈ l, Small x) {a e b f : Int} (h : salaryR ix o s l = (a, e)) (k : salaryR ix o s l.reverse = (b, f)) : ((e = 0 ∧ f = 0) ∨ (e ≠ 0 ∧ f ≠ 0)) ∧ a = b := by
  by_cases he : e = 0
  · subst he
    have := turn_ok hl hs h
    rw [k] at this
    obtain ⟨h1, h2⟩ := Prod.mk.inj this
    exact ⟨.inl ⟨rfl, h2⟩, h1.symm⟩
  · by_cases hf : f = 0
    · subst hf
      have := turn_ok (l := l.reverse) (by rw [List.length_reverse]; exact hl) (fun x hx => hs x (by simpa using hx)) k
      rw [List.reverse_reverse, h] at this
      exact absurd (Prod.mk.inj this).2 he
    · exact ⟨.inr ⟨he, hf⟩, by rw [salary_bad h he, salary_bad k hf]⟩
theorem turn_last {ix o : Int} {s : Wb.Sp} {l : List Pc} {x : Pc} (hl : l.length ≤ 20) (hx : x.part = 0) {a e c : Int} (h : salaryR ix o s l = (a, e)) (k : salaryR ix o s (l ++ [x]) = (c, 0)) : c = a := by
  unfold salaryR at h k
  rw [if_neg (by omega)] at h
  rw [if_neg (by simp; omega)] at k
  have he := sal_pre k
  rw [h] at he
  simp only at he
  subst he
  have h1 := (sal_fine h).2
  have h2 := (sal_fine k).2
  rw [tot_app, tot, tot] at h2
  have h3 := pc_abs ix o s x
  rw [hx, ofR_nought] at h3
  simp at h3
  omega

/-! ### cut -/
theorem sal_ah {ix o : Int} {s : Wb.Sp} : ∀ {l ah ah' : List Pc} {sum : Int}, (∀ z : Pc, inP s z.d = true → ah.any (fun u => meetB z.d u.d) = ah'.any (fun u => meetB z.d u.d)) → salR ix o s ah sum l = salR ix o s ah' sum l
  | [], _, _, _, _ => by rw [salR, salR]
  | x :: l, ah, ah', sum, h => by
    rw [salR, salR]
    by_cases hx : inP s x.d = false
    · rw [if_pos hx, if_pos hx]
    · have hx' : inP s x.d = true := by simpa using hx
      rw [if_neg hx, if_neg hx, h x hx', sal_ah (ah := ah ++ [x]) (ah' := ah' ++ [x]) fun z hz => by rw [List.any_append, List.any_append, h z hz]]
theorem sal_cut {ix o f t : Int} {x : Pc} {m : Int} (h1 : x.d.1 < m) (h2 : m < x.d.2) {q : List Pc} {r : Int} : ∀ {p ah : List Pc} {sum : Int}, Wb.fits sum = true → salR ix o (f, t) ah sum (p ++ x :: q) = (r, 0) →
    salR ix o (f, t) ah sum (p ++ ⟨(x.d.1, m), x.y, x.part⟩ :: ⟨(m, x.d.2), x.y, x.part⟩ :: q) = (r, 0) ∨ (salR ix o (f, t) ah sum (p ++ ⟨(x.d.1, m), x.y, x.part⟩ :: ⟨(m, x.d.2), x.y, x.part⟩ :: q)).2 = 9
  | z :: p, ah, sum, hs, h => by
    rw [List.cons_append, salR] at h
    rw [List.cons_append, salR]
    split at h
    · exact absurd (Prod.mk.inj h).2 (by decide)
    rename_i g1
    split at h
    · exact absurd (Prod.mk.inj h).2 (by decide)
    rename_i g2
    split at h
    · rename_i h3; exact absurd (Prod.mk.inj h).2 h3
    rename_i g3
    split at h
    · rename_i h4; exact absurd (Prod.mk.inj h).2 h4
    rename_i g4
    rw [if_neg g1, if_neg g2, if_neg g3, if_neg g4]
    have g4' : (Wb.told sum (pcR ix o (f, t) z).1 (sum + (pcR ix o (f, t) z).1)).2 = 0 := by omega
    obtain ⟨k1, _, _, k4⟩ := Wb.told_back g4'
    exact sal_cut h1 h2 (by rw [k1]; exact k4) h
  | [], ah, sum, hs, h => by
    rw [List.nil_append, salR] at h
    split at h
    · exact absurd (Prod.mk.inj h).2 (by decide)
    rename_i g1
    split at h
    · exact absurd (Prod.mk.inj h).2 (by decide)
    rename_i g2
    split at h
    · rename_i h3; exact absurd (Prod.mk.inj h).2 h3
    rename_i g3
    split at h
    · rename_i h4; exact absurd (Prod.mk.inj h).2 h4
    rename_i g4
    have g3' : (pcR ix o (f, t) x).2 = 0 := by omega
    have g4' : (Wb.told sum (pcR ix o (f, t) x).1 (sum + (pcR ix o (f, t) x).1)).2 = 0 := by omega
    obtain ⟨k1, _, _, k4⟩ := Wb.told_back g4'
    rw [k1] at h
    obtain ⟨i1, i2, i3, i4⟩ := inP_iff.1 (show inP (f, t) x.d = true by simpa using g1)
    simp only at i2 i3 i4
    -- the amounts
    obtain ⟨va, vb, ea, eb, ev, fa, fb⟩ : ∃ va vb, pcR ix o (f, t) ⟨(x.d.1, m), x.y, x.part⟩ = (va, 0) ∧ pcR ix o (f, t) ⟨(m, x.d.2), x.y, x.part⟩ = (vb, 0) ∧ va + vb = (pcR ix o (f, t) x).1 ∧ Wb.fits va = true ∧ Wb.fits vb = true := by
      have g3 := g3'
      unfold pcR at g3 ⊢
      split at g3
      · rename_i q; exact absurd g3 q
      rename_i q1
      split at g3
      · rename_i q; exact absurd g3 q
      rename_i q2
      simp only
      rw [if_neg q1, if_neg q1, if_neg q1, if_neg q2, if_neg q2, if_neg q2]
      rcases Wb.betw_is (perR ix o (Wb.ofR x.y x.part).1).1 (x.d.1 - f) (x.d.2 - f) (lenS (f, t)) with ⟨_, b1, b2, b3, b4, b5, b6, b7⟩ | ⟨b, _⟩
      · rw [Wb.betw_ok b1 b2 b3 b4 (show x.d.1 - f ≤ m - f by omega) (by omega), Wb.betw_ok b1 b2 b3 (show 0 ≤ m - f by omega) (show m - f ≤ x.d.2 - f by omega) b6]
        refine ⟨_, _, rfl, rfl, by rw [b7]; omega, upT_dfits b1 (by omega) (by omega) (by omega), upT_dfits b1 (by omega) (by omega) (by omega)⟩
      · exact absurd g3 b
    have any_a : ¬ ah.any (fun z => meetB (x.d.1, m) z.d) = true := fun hq => g2 (by
      obtain ⟨z, hz, hm⟩ := List.any_eq_true.1 hq
      have := meetB_iff.1 hm
      exact List.any_eq_true.2 ⟨z, hz, meetB_iff.2 ⟨this.1, by have := this.2; simp only at this; omega⟩⟩)
    have any_b : ¬ (ah ++ [(⟨(x.d.1, m), x.y, x.part⟩ : Pc)]).any (fun z => meetB (m, x.d.2) z.d) = true := fun hq => by
      obtain ⟨z, hz, hm⟩ := List.any_eq_true.1 hq
      have hm := meetB_iff.1 hm
      simp only at hm
      rcases List.mem_append.1 hz with hz | hz
      · exact g2 (List.any_eq_true.2 ⟨z, hz, meetB_iff.2 ⟨by omega, hm.2⟩⟩)
      · simp at hz; subst hz; (try simp only at hm); omega
    rw [List.nil_append, salR, if_neg (by rw [inP_iff.2 (by simp only; omega)]; decide), if_neg any_a, ea]
    simp only
    rw [if_neg (by simp)]
    by_cases hfit : Wb.fits (sum + va) = true
    · rw [told_fit hs fa hfit]
      simp only
      rw [if_neg (by decide), salR, if_neg (by rw [inP_iff.2 (by simp only; omega)]; decide), if_neg any_b, eb]
      simp only
      rw [if_neg (by decide), told_fit hfit fb (by rw [Int.add_assoc, ev]; exact k4)]
      simp only
      rw [if_neg (by decide), Int.add_assoc, ev]
      left
      rw [← h]
      refine sal_ah fun z hz => ?_
      obtain ⟨z1, _, _, _⟩ := inP_iff.1 hz
      simp only [List.any_append, List.any_cons, List.any_nil, Bool.or_false, Bool.or_assoc]
      congr 1
      rw [Bool.eq_iff_iff, Bool.or_eq_true, meetB_iff, meetB_iff, meetB_iff]
      simp only
      omega
    · right
      rw [show Wb.told sum va (sum + va) = (0, 9) by rw [Wb.told, if_pos ⟨hs, fa⟩, if_neg hfit]]
      simp only
      rw [if_pos (by decide)]
theorem salary_cut {ix o f t : Int} {x : Pc} {m : Int} (h1 : x.d.1 < m) (h2 : m < x.d.2) {p q : List Pc} {r y h : Int} (hl : (p ++ x :: q).length ≤ 20) (hr : salaryR ix o (f, t) (p ++ x :: q) = (r, 0))
    (hy : salaryR ix o (f, t) (p ++ ⟨(x.d.1, m), x.y, x.part⟩ :: ⟨(m, x.d.2), x.y, x.part⟩ :: q) = (y, h)) : (h = 0 ∧ y = r) ∨ h = 9 := by
  simp only [List.length_append, List.length_cons] at hl
  unfold salaryR at hr hy
  rw [if_neg (by simp; omega)] at hr
  rw [if_neg (by simp; omega)] at hy
  rcases sal_cut h1 h2 (by decide) hr with k | k
  · rw [hy] at k
    obtain ⟨k1, k2⟩ := Prod.mk.inj k
    exact .inl ⟨k2, k1⟩
  · rw [hy] at k; exact .inr k
/-- one piece of all of the period's days is the period's amount -/
theorem whole_period {ix o f t Y C : Int} (h : salaryR ix o (f, t) [⟨(f, t), Y, 1000000⟩] = (C, 0)) : perR ix o Y = (C, 0) := by
  have hin : inP (f, t) (f, t) = true := by
    rw [sal_one] at h
    split at h
    · exact absurd (Prod.mk.inj h).2 (by decide)
    · rename_i q; simpa using q
  obtain ⟨i1, i2, i3, i4⟩ := inP_iff.1 hin
  simp only at i1 i4
  obtain ⟨n, rfl⟩ : ∃ n : Nat, t = f + n := ⟨(t - f).toNat, by omega⟩
  have hb := sal_whole (by omega) (by omega) h
  have e : (Wb.ofR Y 1000000).1 = Y := by
    have hr := hb.r
    unfold Wb.ofR Wb.partR at hr ⊢
    split at hr
    · cases hr
    split at hr
    · cases hr
    split at hr
    · cases hr
    split at hr
    · cases hr
    split at hr
    · cases hr
    rename_i q1 q2 q3 q4 q5
    rw [if_neg q1, if_neg q2, if_neg q3, if_neg q4, if_neg q5]
    simp only [show (1000000 : Int).toNat = 1000000 from rfl, show (1000000 : Int).natAbs = 1000000 from rfl, Wb.hu_mul _ _ (show 0 < 1000000 by decide)]
    have e2 : decide ((1000000 : Int) < 0) = false := by decide
    rw [e2]
    unfold Wb.sgn
    by_cases hY : Y < 0
    · simp only [hY, decide_true]; simp; omega
    · simp only [hY, decide_false]; simp; omega
  have := hb.p
  rw [e] at this
  exact this

end Go.Proofs.Ytheofklbmknipaa
