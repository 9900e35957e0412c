/- Plain facts for TopRuns: of small slips nothing is refused. -/
import Derived.Test.YtnefdpnolojojaaGreatMRd
namespace Go.Proofs.YtnefdpnolojojaaGreat
namespace Wb

/-- what a line of the law's slips is at most: 60 amounts of 32 bits -/
def KT : Int := 128849018880
structure SmL (M : Int) (n : Nat) (l : List Ln) : Prop where
  rise : Rise l
  len : l.length ≤ n
  ok : ∀ x ∈ l, lineErr x = 0
  lo : ∀ x ∈ l, -M ≤ x.cents ∧ x.cents ≤ M
theorem smL_nil {M : Int} {n : Nat} : SmL M n [] := ⟨List.Pairwise.nil, Nat.zero_le _, (fun x hx => by cases hx), (fun x hx => by cases hx)⟩
theorem SmL.check {M : Int} {n : Nat} {l : List Ln} {y i : Int} (h : SmL M n l) (hn : n ≤ 448) (hy : 1900 ≤ y ∧ y ≤ 2199 ∧ 1 ≤ i ∧ i ≤ 400) : check y i l = 0 := check_of hy h.rise h.ok (Nat.le_trans h.len hn)
theorem sumOf_small {M : Int} (f t : Int) (hM : 0 ≤ M) : ∀ {l : List Ln}, (∀ x ∈ l, -M ≤ x.cents ∧ x.cents ≤ M) → -(M * l.length) ≤ sumOf f t l ∧ sumOf f t l ≤ M * l.length
  | [], _ => by simp [sumOf]
  | x :: r, h => by
    have h1 := sumOf_small f t hM (l := r) fun y hy => h y (by simp [hy])
    have h2 := h x (by simp)
    have e : M * ((x :: r).length : Int) = M * r.length + M := by rw [List.length_cons]; push_cast; rw [Int.mul_add, Int.mul_one]
    rw [e]
    simp only [sumOf]
    split <;> omega
theorem nl_small {M : Int} (hM : 0 ≤ M) : ∀ {l : List Ln}, (∀ x ∈ l, -M ≤ x.cents ∧ x.cents ≤ M) → -(M * l.length) ≤ nl l ∧ nl l ≤ M * l.length
  | [], _ => by simp [nl, sumOf]
  | x :: r, h => by
    have h1 := nl_small hM (l := r) fun y hy => h y (by simp [hy])
    have h2 := h x (by simp)
    have e : M * ((x :: r).length : Int) = M * r.length + M := by rw [List.length_cons]; push_cast; rw [Int.mul_add, Int.mul_one]
    rw [e]
    unfold nl at h1 ⊢
    simp only [sumOf]
    split <;> split <;> omega
theorem mul_len {M : Int} {n : Nat} {l : List Ln} (hM : 0 ≤ M) (h : l.length ≤ n) : M * l.length ≤ M * n := Int.mul_le_mul_of_nonneg_left (by omega) hM
theorem SmL.sums {M : Int} {n : Nat} {l : List Ln} {y i : Int} (h : SmL M n l) (hM : 0 ≤ M) (hn : n ≤ 448) (hb : M * n ≤ 562949953421312) (hy : 1900 ≤ y ∧ y ≤ 2199 ∧ 1 ≤ i ∧ i ≤ 400) : (sums y i l).2.2.2.2 = 0 ∧ (sums y i l).2.2.1 = nl l ∧ -(M * n) ≤ nl l ∧ nl l ≤ M * n := by
  have hl := mul_len hM h.len
  have h0 := sumOf_small 0 0 hM h.lo
  have h1 := sumOf_small 1 5 hM h.lo
  have h6 := sumOf_small 6 6 hM h.lo
  have hk := nl_small hM h.lo
  have e : (Wb.sums y i l).2.2.2.2 = 0 := by
    unfold Wb.sums
    rw [if_neg (by rw [h.check hn hy]; simp), if_pos]
    refine ⟨?_, ?_, ?_, ?_⟩ <;> rw [fits_iff] <;> omega
  exact ⟨e, sums_net e, by omega, by omega⟩
theorem lval_small {M : Int} {n : Nat} {l : List Ln} (h : SmL M n l) (hM : 0 ≤ M) (p : Int) (c : List UInt8) : -M ≤ lval p c l ∧ lval p c l ≤ M := by
  by_cases hm : ∃ x ∈ l, x.part = p ∧ x.code = c
  · obtain ⟨x, hx, rfl, rfl⟩ := hm
    rw [lval_mem h.rise hx]; exact h.lo x hx
  · rw [lval_none fun x hx e => hm ⟨x, hx, e⟩]; omega
theorem mergeL_len : ∀ {a b l : List Ln}, mergeL a b = some l → l.length ≤ a.length + b.length := by
  intro a b
  induction a, b using mergeL.induct with
  | case1 b => intro l h; rw [mergeL] at h; cases h; simp
  | case2 a ha => intro l h; rw [mergeL_nil_right] at h; cases h; simp
  | case3 x a y b hxy ih =>
    intro l h
    rw [mergeL, if_pos hxy] at h
    rcases hm : mergeL a (y :: b) with _ | m
    · rw [hm] at h; cases h
    · rw [hm] at h; cases h
      have := ih hm
      simp at this ⊢; omega
  | case4 x a y b hxy hyx ih =>
    intro l h
    rw [mergeL, if_neg hxy, if_pos hyx] at h
    rcases hm : mergeL (x :: a) b with _ | m
    · rw [hm] at h; cases h
    · rw [hm] at h; cases h
      have := ih hm
      simp at this ⊢; omega
  | case5 x a y b hxy hyx hf =>
    intro l h
    rw [mergeL, if_neg hxy, if_neg hyx, if_pos hf] at h; cases h
  | case6 x a y b hxy hyx hf hz ih =>
    intro l h
    rw [mergeL, if_neg hxy, if_neg hyx, if_neg hf, if_pos hz] at h
    have := ih h
    simp; omega
  | case7 x a y b hxy hyx hf hz ih =>
    intro l h
    rw [mergeL, if_neg hxy, if_neg hyx, if_neg hf, if_neg hz] at h
    rcases hm : mergeL a b with _ | m
    · rw [hm] at h; cases h
    · rw [hm] at h; cases h
      have := ih hm
      simp at this ⊢; omega
/-- the difference of two small ones -/
theorem delta_small {a b r : List Ln} {n : Nat} (ha : SmL KT n a) (hb : SmL KT n b) (h : IsDelta a b r) (hn : n ≤ 28) : SmL (2 * KT) (2 * n) r ∧ (∀ x ∈ r, fits x.cents = true) ∧ r.length ≤ 448 := by
  have hK : (0 : Int) ≤ KT := by decide
  have hc : ∀ x ∈ r, -(2 * KT) ≤ x.cents ∧ x.cents ≤ 2 * KT := fun x hx => by
    have h1 := lval_mem h.rise hx
    rw [h.val] at h1
    have h2 := lval_small ha hK x.part x.code
    have h3 := lval_small hb hK x.part x.code
    omega
  have hf : ∀ x ∈ r, fits x.cents = true := fun x hx => by
    have := hc x hx
    have e : KT = 128849018880 := rfl
    rw [fits_iff]; omega
  have nz : ∀ {l : List Ln} {m : Nat}, SmL KT m l → NonZ l := fun h x hx => (lineErr_iff.1 (h.ok x hx)).2.2.2.1
  have hlen : r.length ≤ 2 * n := by
    have hneg : Rise (neg a) := rise_neg ha.rise
    have hnz : NonZ (neg a) := fun x hx => by
      obtain ⟨z, hz, rfl⟩ := List.mem_map.1 hx
      have := nz ha z hz
      simp only; omega
    obtain ⟨l, hl⟩ := mergeL_some hb.rise hneg (fun p c => by
      rw [lval_neg]
      have h2 := lval_small ha hK p c
      have h3 := lval_small hb hK p c
      have e : KT = 128849018880 := rfl
      rw [fits_iff]; omega)
    obtain ⟨l1, l2⟩ := mergeL_rise hl hb.rise hneg (nz hb) hnz
    have : l = r := val_inj l1 h.rise l2 h.nonz fun p c => by rw [mergeL_val hl, h.val, lval_neg]; omega
    subst this
    have h1 := mergeL_len hl
    have h2 := ha.len
    have h3 := hb.len
    have h4 : (neg a).length = a.length := by simp [neg]
    omega
  exact ⟨⟨h.rise, hlen, delta_right h ha.ok hb.ok hf, hc⟩, hf, by omega⟩
/-- a list of small slips of a year, rising, up to a period -/
structure SmC (M : Int) (n : Nat) (r : Int) (C : List Ct) : Prop where
  each : ∀ c ∈ C, c.1 = 2026 ∧ 1 ≤ c.2.1 ∧ c.2.1 ≤ r ∧ SmL M n c.2.2
  rise : RiseP (lst C)
theorem smC_nil {M : Int} {n : Nat} {r : Int} : SmC M n r [] := ⟨(fun c hc => by cases hc), List.Pairwise.nil⟩
theorem SmC.mem {M : Int} {n : Nat} {r : Int} {C : List Ct} (h : SmC M n r C) {s : Sl} (hs : s ∈ lst C) : s.y = 2026 ∧ 1 ≤ s.i ∧ s.i ≤ r ∧ SmL M n s.l := by
  obtain ⟨c, hc, rfl⟩ := List.mem_map.1 hs
  exact h.each c hc
theorem SmC.full {M : Int} {n : Nat} {r : Int} {C : List Ct} (h : SmC M n r C) : SmC M n r (fullC C) := ⟨fun c hc => h.each c (List.mem_filter.1 hc).1, by rw [full_lst]; exact List.Pairwise.filter _ h.rise⟩
theorem SmC.check {r : Int} {C : List Ct} (h : SmC KT 28 r C) (hr : r ≤ 6) {s : Sl} (hs : s ∈ lst C) : check s.y s.i s.l = 0 := by
  obtain ⟨h1, h2, h3, h4⟩ := h.mem hs
  exact h4.check (by omega) (by omega)
/-- what is handed in is right -/
theorem hand_small {r : Int} (hr : r ≤ 6) : ∀ {L : List Sl} {p : Option (Int × Int)}, (∀ s ∈ L, s.y = 2026 ∧ 1 ≤ s.i ∧ s.i ≤ r ∧ SmL KT 28 s.l) → RiseP L → (∀ a, p = some a → ∀ s ∈ L, prLt a (perS s) = true) → handE (2026, r) p L = 0
  | [], _, _, _, _ => by rw [handE]
  | s :: t, p, h1, h2, h3 => by
    obtain ⟨k1, k2, k3, k4⟩ := h1 s (by simp)
    obtain ⟨r1, r2⟩ := List.pairwise_cons.1 h2
    rw [handE, if_neg (by rw [k4.check (by omega) (by omega)]; simp), if_neg]
    · exact hand_small hr (fun z hz => h1 z (by simp [hz])) r2 (fun a ha z hz => by cases ha; exact r1 z hz)
    · rintro (⟨a, ha, hb⟩ | hb)
      · rw [h3 a ha s (by simp)] at hb; cases hb
      · rcases (prLt_iff _ _).1 hb with q | q
        · simp only [perS] at q; omega
        · simp only [perS] at q; omega
/-- a difference of two small ones -/
theorem of_small {A B : List Ct} {r : Int} (hr : r ≤ 6) (hA : SmC KT 28 r A) (hB : SmC KT 28 r B) {p : Int × Int} (hp : hasP (lst A) p ∨ hasP (lst B) p) :
    (ofC (conO (findS (lst A) p)) (nowO p (findS (lst B) p))).1 = 0 ∧ check p.1 p.2 (ofC (conO (findS (lst A) p)) (nowO p (findS (lst B) p))).2.2.2 = 0 ∧ (ofC (conO (findS (lst A) p)) (nowO p (findS (lst B) p))).2.1 = p.1 ∧ (ofC (conO (findS (lst A) p)) (nowO p (findS (lst B) p))).2.2.1 = p.2 ∧
    SmL (2 * KT) 56 (ofC (conO (findS (lst A) p)) (nowO p (findS (lst B) p))).2.2.2 := by
  have hper : p.1 = 2026 ∧ 1 ≤ p.2 ∧ p.2 ≤ r := by
    rcases hp with ⟨s, hs, rfl⟩ | ⟨s, hs, rfl⟩
    · have := hA.mem hs; exact ⟨this.1, this.2.1, this.2.2.1⟩
    · have := hB.mem hs; exact ⟨this.1, this.2.1, this.2.2.1⟩
  have hy : 1900 ≤ p.1 ∧ p.1 ≤ 2199 ∧ 1 ≤ p.2 ∧ p.2 ≤ 400 := by omega
  have ha : SmL KT 28 (linesO (findS (lst A) p)) := by
    rcases hf : findS (lst A) p with _ | s
    · exact smL_nil
    · exact (hA.mem (find_mem hf).1).2.2.2
  have hb : SmL KT 28 (linesO (findS (lst B) p)) := by
    rcases hf : findS (lst B) p with _ | s
    · exact smL_nil
    · exact (hB.mem (find_mem hf).1).2.2.2
  have hd := delta_small ha hb (delta_is _ _) (Nat.le_refl _)
  have hnow : (nowO p (findS (lst B) p)).1 = p.1 ∧ (nowO p (findS (lst B) p)).2.1 = p.2 := by
    rcases hf : findS (lst B) p with _ | s
    · exact ⟨rfl, rfl⟩
    · obtain ⟨-, h2⟩ := find_mem hf
      rw [← h2]; exact ⟨rfl, rfl⟩
  have hcon : (noneB (conO (findS (lst A) p)).1 (conO (findS (lst A) p)).2.1 (linesO (findS (lst A) p)) = true) ∨ ((conO (findS (lst A) p)).1 = p.1 ∧ (conO (findS (lst A) p)).2.1 = p.2) := by
    rcases hf : findS (lst A) p with _ | s
    · exact .inl rfl
    · obtain ⟨-, h2⟩ := find_mem hf
      right; rw [← h2]; exact ⟨rfl, rfl⟩
  have hck := hb.check (by omega) hy
  have hwb : wrongE p.1 p.2 (linesO (findS (lst B) p)) = 0 := by
    unfold wrongE; split
    · rfl
    · exact hck
  have hnb : noneB p.1 p.2 (linesO (findS (lst B) p)) = false := check_noneB hck
  have hwa : wrongE (conO (findS (lst A) p)).1 (conO (findS (lst A) p)).2.1 (linesO (findS (lst A) p)) = 0 := by
    unfold wrongE
    rcases hcon with h | ⟨h1, h2⟩
    · rw [if_pos h]
    · split
      · rfl
      · rw [h1, h2]; exact ha.check (by omega) hy
  have e : ofC (conO (findS (lst A) p)) (nowO p (findS (lst B) p)) = (0, p.1, p.2, deltaL (linesO (findS (lst A) p)) (linesO (findS (lst B) p))) := by
    unfold ofC
    rw [conO_lines, nowO_lines, hnow.1, hnow.2]
    unfold ofF
    rw [if_neg (by rw [hwa]; simp), if_neg (by rw [hwb]; simp), if_neg, if_neg, if_neg (by have := hd.2.2; omega), hnb]
    · simp
    · rw [Bool.not_eq_true, List.any_eq_false]
      intro x hx
      rw [hd.2.1 x hx]; simp
    · rintro ⟨h1, -, h3⟩
      rcases hcon with h | ⟨k1, k2⟩
      · rw [h] at h1; cases h1
      · omega
  rw [e]
  exact ⟨rfl, hd.1.check (by omega) hy, rfl, rfl, hd.1⟩
/-- the differences of all periods but the run's own -/
theorem back_small {A B : List Ct} {r : Int} (hr : r ≤ 6) (hA : SmC KT 28 r A) (hB : SmC KT 28 r B) (q : Int × Int) : ∀ {ps : List (Int × Int)} {acc : List Ct}, (∀ p ∈ ps, hasP (lst A) p ∨ hasP (lst B) p) →
    ∃ R, backG (lst A) (lst B) q acc ps = (0, acc ++ R) ∧ R.length ≤ ps.length ∧ ∀ c ∈ R, check c.1 c.2.1 c.2.2 = 0 ∧ SmL (2 * KT) 56 c.2.2 ∧ 1900 ≤ c.1 ∧ c.1 ≤ 2199 ∧ 1 ≤ c.2.1 ∧ c.2.1 ≤ 400
  | [], acc, _ => ⟨[], by simp [backG], Nat.le_refl _, (fun c hc => by cases hc)⟩
  | p :: t, acc, h => by
    have ht : ∀ p ∈ t, hasP (lst A) p ∨ hasP (lst B) p := fun z hz => h z (by simp [hz])
    by_cases hp : p = q
    · subst hp
      obtain ⟨R, h1, h2, h3⟩ := back_small hr hA hB p (acc := acc) ht
      exact ⟨R, by rw [back_own, h1], by simp; omega, h3⟩
    · obtain ⟨k1, k2, k3, k4, k5⟩ := of_small hr hA hB (h p (by simp))
      have hper : p.1 = 2026 ∧ 1 ≤ p.2 ∧ p.2 ≤ r := by
        rcases h p (by simp) with ⟨s, hs, rfl⟩ | ⟨s, hs, rfl⟩
        · have := hA.mem hs; exact ⟨this.1, this.2.1, this.2.2.1⟩
        · have := hB.mem hs; exact ⟨this.1, this.2.1, this.2.2.1⟩
      obtain ⟨⟨E, c⟩, hc⟩ : ∃ x, ofC (conO (findS (lst A) p)) (nowO p (findS (lst B) p)) = x := ⟨_, rfl⟩
      rw [hc] at k1 k2 k3 k4 k5
      simp only at k1 k2 k3 k4 k5
      subst k1
      by_cases hz : c.2.2 = []
      · obtain ⟨R, h1, h2, h3⟩ := back_small hr hA hB q (acc := acc) ht
        exact ⟨R, by rw [back_zero hp hc hz, h1], by simp; omega, h3⟩
      · obtain ⟨R, h1, h2, h3⟩ := back_small hr hA hB q (acc := acc ++ [c]) ht
        refine ⟨c :: R, by rw [back_more hp hc hz, h1]; simp, by simp; omega, fun z hz => ?_⟩
        rcases List.mem_cons.1 hz with rfl | hz
        · rw [k3, k4]; exact ⟨k2, k5, by omega, by omega, by omega, by omega⟩
        · exact h3 z hz
theorem net_small (b : Int) (hb : b = 14431090114560) : ∀ {R : List Ct} {acc : Int}, (∀ c ∈ R, check c.1 c.2.1 c.2.2 = 0 ∧ SmL (2 * KT) 56 c.2.2 ∧ 1900 ≤ c.1 ∧ c.1 ≤ 2199 ∧ 1 ≤ c.2.1 ∧ c.2.1 ≤ 400) → (R.length : Int) * b - 562949953421312 ≤ acc → acc ≤ 562949953421312 - (R.length : Int) * b →
    (netF acc (lst R)).2 = 0 ∧ acc - (R.length : Int) * b ≤ (netF acc (lst R)).1 ∧ (netF acc (lst R)).1 ≤ acc + (R.length : Int) * b := by
  intro R
  induction R with
  | nil => intro acc _ _ _; simp [lst, netF]
  | cons c t ih =>
    intro acc h h1 h2
    obtain ⟨k1, k2, k3⟩ := h c (by simp)
    have hs := k2.sums (y := c.1) (i := c.2.1) (by decide) (by omega) (by decide) k3
    have e : (2 * KT * (56 : Nat) : Int) = b := by rw [hb]; rfl
    rw [e] at hs
    have hl : ((c :: t).length : Int) * b = t.length * b + b := by rw [List.length_cons]; push_cast; rw [Int.add_mul, Int.one_mul]
    rw [hl] at h1 h2 ⊢
    have hp : 0 ≤ (t.length : Int) * b := Int.mul_nonneg (by omega) (by omega)
    have hf : fits (acc + (sums c.1 c.2.1 c.2.2).2.2.1) = true := by rw [hs.2.1, fits_iff]; omega
    have ih := ih (acc := acc + (sums c.1 c.2.1 c.2.2).2.2.1) (fun z hz => h z (by simp [hz])) (by rw [hs.2.1]; omega) (by rw [hs.2.1]; omega)
    have e2 : netF acc (lst (c :: t)) = netF (acc + (sums c.1 c.2.1 c.2.2).2.2.1) (lst t) := by
      show netF acc (slO c :: lst t) = _
      rw [netF]
      have hn : noneB (slO c).y (slO c).i (slO c).l = false := check_noneB k1
      rw [if_neg (by rw [hn]; simp), if_neg (by show ¬ (sums c.1 c.2.1 c.2.2).2.2.2.2 ≠ 0; rw [hs.1]; simp), if_neg (by show ¬ fits (acc + (sums c.1 c.2.1 c.2.2).2.2.1) = false; rw [hf]; simp)]
      rfl
    rw [e2]
    refine ⟨ih.1, ?_, ?_⟩
    · have := ih.2.1; rw [hs.2.1] at this ⊢; omega
    · have := ih.2.2; rw [hs.2.1] at this ⊢; omega
theorem settle_small {owed due : Int} (h0 : 0 ≤ owed) (h1 : owed ≤ 884000000000000) (h2 : -176800000000000 ≤ due) (h3 : due ≤ 176800000000000) : (settleG owed due).2.2 = 0 ∧ (settleG owed due).1 ≤ owed + 176800000000000 := by
  unfold settleG rightC
  rw [if_neg (by simp; omega), if_neg (by omega)]
  split
  · exact ⟨rfl, by simp; omega⟩
  · rw [if_neg (by simp; omega)]
    exact ⟨rfl, by simp; omega⟩
/-- a row of small slips is made -/
theorem row_small {A B : List Ct} {p owed r : Int} (hr : 1 ≤ r ∧ r ≤ 6) (hA : SmC KT 28 r A) (hB : SmC KT 28 r B) (la : A.length ≤ 6) (lb : B.length ≤ 6) (h0 : 0 ≤ owed) (h1 : owed ≤ 884000000000000) :
    (rowG p (2026, r) (lst A) (lst B) owed).2 = 0 ∧ (rowG p (2026, r) (lst A) (lst B) owed).1.owed ≤ owed + 176800000000000 := by
  obtain ⟨R, k1, k2, k3⟩ := back_small hr.2 hA hB (2026, r) (ps := persP (lst A) (lst B)) (acc := []) (fun p hp => ((persP_of _ _).2 p).1 hp)
  rw [List.nil_append] at k1
  have hlen : R.length ≤ 12 := by
    have := heads_len (lst A ++ lst B)
    have e : (lst A ++ lst B).length = A.length + B.length := by simp [lst]
    have e2 : (persP (lst A) (lst B)).length ≤ A.length + B.length := by rw [← e]; exact this
    omega
  have hnow : SmL KT 28 (nowG (lst B) (2026, r)).2.2 ∧ (nowG (lst B) (2026, r)).1 = 2026 ∧ (nowG (lst B) (2026, r)).2.1 = r := by
    unfold nowG
    rcases hf : findS (lst B) (2026, r) with _ | s
    · exact ⟨smL_nil, rfl, rfl⟩
    · obtain ⟨m1, m2⟩ := find_mem hf
      have e : s.y = 2026 ∧ s.i = r := ⟨congrArg Prod.fst m2, congrArg Prod.snd m2⟩
      exact ⟨(hB.mem m1).2.2.2, e.1, e.2⟩
  have hs := hnow.1.sums (y := 2026) (i := r) (by decide) (by omega) (by decide) (by omega)
  have e : (KT * (28 : Nat) : Int) = 3607772528640 := rfl
  rw [e] at hs
  have hn := net_small _ rfl (R := R) (acc := 0) k3 (by omega) (by omega)
  have hd : (dueG (nowG (lst B) (2026, r)) R).2 = 0 ∧ -176800000000000 ≤ (dueG (nowG (lst B) (2026, r)) R).1 ∧ (dueG (nowG (lst B) (2026, r)) R).1 ≤ 176800000000000 := by
    unfold dueG
    rw [hnow.2.1, hnow.2.2, if_neg (by rw [hs.1]; simp), if_neg (by rw [hn.1]; simp), if_neg, hs.2.1]
    · exact ⟨rfl, by simp only; omega, by simp only; omega⟩
    · rw [hs.2.1, Bool.not_eq_false, fits_iff]; omega
  have hst := settle_small h0 h1 hd.2.1 hd.2.2
  unfold rowG
  rw [k1, if_neg (by simp), if_neg (by rw [hd.1]; simp)]
  exact hst
/-- a run of small slips is made -/
theorem do_small {B : Bk} {r : Int} {S : Int → List Ct} {hs ps : List Int} (hr : 1 ≤ r ∧ r ≤ 6) (hl : ∀ x, B.runs.getLast? = some x → x.y = 2026 ∧ x.i < r ∧ x.k < r) (hA : ∀ p, SmC KT 28 r (B.paid p)) (hS : ∀ p, SmC KT 28 r (S p)) (la : ∀ p, (B.paid p).length ≤ 6) (lb : ∀ p, (S p).length ≤ 6)
    (ho : ∀ p, 0 ≤ B.owed p ∧ B.owed p ≤ 884000000000000) :
    ∃ B' R, doG B 2026 r r S hs ps = (B', R, 0) ∧ ∀ x ∈ R.rows, x.owed ≤ B.owed x.p + 176800000000000 := by
  have hrow : ∀ p, (rowB (2026, r) B S p).2 = 0 ∧ (rowB (2026, r) B S p).1.owed ≤ B.owed p + 176800000000000 := fun p => row_small hr (hA p) (hS p) (la p) (lb p) (ho p).1 (ho p).2
  have hp : ∀ p, (rowB (2026, r) B S p).1.p = p := fun p => by
    have h := (hrow p).1
    have : ∀ x : Rw × Int, rowG p (2026, r) (lst (B.paid p)) (lst (S p)) (B.owed p) = x → x.2 = 0 → x.1.p = p := fun x hx h0 => by
      unfold rowG at hx
      split at hx
      · rename_i he; rw [← hx] at h0; exact absurd h0 he
      · split at hx
        · rename_i he; rw [← hx] at h0; exact absurd h0 he
        · rw [← hx]
    exact this _ rfl h
  have h0 : headE B.runs 2026 r r = 0 := by
    unfold headE
    rw [if_neg (by omega)]
    rcases hl9 : B.runs.getLast? with _ | x
    · rfl
    · obtain ⟨h1, h2, h3⟩ := hl x hl9
      simp only
      rw [if_neg]
      unfold perN
      rw [h1]; omega
  have h1 : handsE (2026, r) S hs = 0 := hands_make fun p _ => hand_small hr.2 (fun s hs => (hS p).mem hs) (hS p).rise (fun a h => by cases h)
  have h2 := rows_make (q := (2026, r)) (B := B) (S := S) (ps := ps) (acc := []) (fun p _ _ => (hrow p).1)
  unfold doG
  rw [h0, if_neg (by simp), h1, if_neg (by simp), h2, if_neg (by simp)]
  refine ⟨_, _, rfl, fun x hx => ?_⟩
  simp only [List.nil_append] at hx
  obtain ⟨p, -, rfl⟩ := List.mem_map.1 hx
  rw [hp]
  exact (hrow p).2
end Wb
end Go.Proofs.YtnefdpnolojojaaGreat
