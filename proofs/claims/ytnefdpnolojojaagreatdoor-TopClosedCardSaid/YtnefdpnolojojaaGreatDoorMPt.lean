/- MPt -/
import Derived.Test.YtnefdpnolojojaaGreatDoorMRd
import Derived.Test.YtnefdpnolojojaaGreatDoorDel11
namespace Go.Proofs.YtnefdpnolojojaaGreatDoor
namespace Wb
def KT : Int := 128849018880
structure SmL (M : Int) (n : Nat) (l : List Ln) : Prop where
 rise : Rise l
 len : l.length ≤ n
 ok : ∀ x ∈ l, lineErr x = 0
 lo : ∀ x ∈ l, -M ≤ x.cents ∧ x.cents ≤ M
theorem smL_nil {M : Int} {n : Nat} : SmL M n [] := ⟨List.Pairwise.nil, Nat.zero_le _, (fun x hx => by cases hx), (fun x hx => by cases hx)⟩
theorem SmL.check {M : Int} {n : Nat} {l : List Ln} {y i : Int} (h : SmL M n l) (hn : n ≤ 448) (hy : 1900 ≤ y ∧ y ≤ 2199 ∧ 1 ≤ i ∧ i ≤ 400) : check y i l = 0 := check_of hy h.rise h.ok (Nat.le_trans h.len hn)
theorem sumOf_small {M : Int} (f t : Int) (hM : 0 ≤ M) : ∀ {l : List Ln}, (∀ x ∈ l, -M ≤ x.cents ∧ x.cents ≤ M) → -(M * l.length) ≤ sumOf f t l ∧ sumOf f t l ≤ M * l.length
 | [], _ => by simp [sumOf]
 | x :: r, h => by
  have h1 := sumOf_small f t hM (l := r) fun y hy => h y (by simp [hy])
  have h2 := h x (by simp)
  have e : M * ((x :: r).length : Int) = M * r.length + M := by rw [List.length_cons]; push_cast; rw [Int.mul_add, Int.mul_one]
  rw [e]
  simp only [sumOf]
  split <;> omega
theorem nl_small {M : Int} (hM : 0 ≤ M) : ∀ {l : List Ln}, (∀ x ∈ l, -M ≤ x.cents ∧ x.cents ≤ M) → -(M * l.length) ≤ nl l ∧ nl l ≤ M * l.length
 | [], _ => by simp [nl, sumOf]
 | x :: r, h => by
  have h1 := nl_small hM (l := r) fun y hy => h y (by simp [hy])
  have h2 := h x (by simp)
  have e : M * ((x :: r).length : Int) = M * r.length + M := by rw [List.length_cons]; push_cast; rw [Int.mul_add, Int.mul_one]
  rw [e]
  unfold nl at h1 ⊢
  simp only [sumOf]
  split <;> split <;> omega
theorem mul_len {M : Int} {n : Nat} {l : List Ln} (hM : 0 ≤ M) (h : l.length ≤ n) : M * l.length ≤ M * n := Int.mul_le_mul_of_nonneg_left (by omega) hM
theorem SmL.sums {M : Int} {n : Nat} {l : List Ln} {y i : Int} (h : SmL M n l) (hM : 0 ≤ M) (hn : n ≤ 448) (hb : M * n ≤ 562949953421312) (hy : 1900 ≤ y ∧ y ≤ 2199 ∧ 1 ≤ i ∧ i ≤ 400) : (sums y i l).2.2.2.2 = 0 ∧ (sums y i l).2.2.1 = nl l ∧ -(M * n) ≤ nl l ∧ nl l ≤ M * n := by
 have hl := mul_len hM h.len
 have h0 := sumOf_small 0 0 hM h.lo
 have h1 := sumOf_small 1 5 hM h.lo
 have h6 := sumOf_small 6 6 hM h.lo
 have hk := nl_small hM h.lo
 have e : (Wb.sums y i l).2.2.2.2 = 0 := by
  unfold Wb.sums
  rw [if_neg (by rw [h.check hn hy]; simp), if_pos]
  refine ⟨?_, ?_, ?_, ?_⟩ <;> rw [fits_iff] <;> omega
 exact ⟨e, sums_net e, by omega, by omega⟩
theorem lval_small {M : Int} {n : Nat} {l : List Ln} (h : SmL M n l) (hM : 0 ≤ M) (p : Int) (c : List UInt8) : -M ≤ lval p c l ∧ lval p c l ≤ M := by
 by_cases hm : ∃ x ∈ l, x.part = p ∧ x.code = c
 ·obtain ⟨x, hx, rfl, rfl⟩ := hm
  rw [lval_mem h.rise hx]; exact h.lo x hx
 ·rw [lval_none fun x hx e => hm ⟨x, hx, e⟩]; omega
theorem mergeL_len : ∀ {a b l : List Ln}, mergeL a b = some l → l.length ≤ a.length + b.length := by
 intro a b
 induction a, b using mergeL.induct with
 | case1 b => intro l h; rw [mergeL] at h; cases h; simp
 | case2 a ha => intro l h; rw [mergeL_nil_right] at h; cases h; simp
 | case3 x a y b hxy ih =>
  intro l h
  rw [mergeL, if_pos hxy] at h
  rcases hm : mergeL a (y :: b) with _ | m
  ·rw [hm] at h; cases h
  ·rw [hm] at h; cases h
   have := ih hm
   simp at this ⊢; omega
 | case4 x a y b hxy hyx ih =>
  intro l h
  rw [mergeL, if_neg hxy, if_pos hyx] at h
  rcases hm : mergeL (x :: a) b with _ | m
  ·rw [hm] at h; cases h
  ·rw [hm] at h; cases h
   have := ih hm
   simp at this ⊢; omega
 | case5 x a y b hxy hyx hf =>
  intro l h
  rw [mergeL, if_neg hxy, if_neg hyx, if_pos hf] at h; cases h
 | case6 x a y b hxy hyx hf hz ih =>
  intro l h
  rw [mergeL, if_neg hxy, if_neg hyx, if_neg hf, if_pos hz] at h
  have := ih h
  simp; omega
 | case7 x a y b hxy hyx hf hz ih =>
  intro l h
  rw [mergeL, if_neg hxy, if_neg hyx, if_neg hf, if_neg hz] at h
  rcases hm : mergeL a b with _ | m
  ·rw [hm] at h; cases h
  ·rw [hm] at h; cases h
   have := ih hm
   simp at this ⊢; omega
theorem delta_small {a b r : List Ln} {n : Nat} (ha : SmL KT n a) (hb : SmL KT n b) (h : IsDelta a b r) (hn : n ≤ 28) : SmL (2 * KT) (2 * n) r ∧ (∀ x ∈ r, fits x.cents = true) ∧ r.length ≤ 448 := by
 have hK : (0 : Int) ≤ KT := by decide
 have hc : ∀ x ∈ r, -(2 * KT) ≤ x.cents ∧ x.cents ≤ 2 * KT := fun x hx => by
  have h1 := lval_mem h.rise hx
  rw [h.val] at h1
  have h2 := lval_small ha hK x.part x.code
  have h3 := lval_small hb hK x.part x.code
  omega
 have hf : ∀ x ∈ r, fits x.cents = true := fun x hx => by
  have := hc x hx
  have e : KT = 128849018880 := rfl
  rw [fits_iff]; omega
 have nz : ∀ {l : List Ln} {m : Nat}, SmL KT m l → NonZ l := fun h x hx => (lineErr_iff.1 (h.ok x hx)).2.2.2.1
 have hlen : r.length ≤ 2 * n := by
  have hneg : Rise (neg a) := rise_neg ha.rise
  have hnz : NonZ (neg a) := fun x hx => by
   obtain ⟨z, hz, rfl⟩ := List.mem_map.1 hx
   have := nz ha z hz
   simp only; omega
  obtain ⟨l, hl⟩ := mergeL_some hb.rise hneg (fun p c => by
   rw [lval_neg]
   have h2 := lval_small ha hK p c
   have h3 := lval_small hb hK p c
   have e : KT = 128849018880 := rfl
   rw [fits_iff]; omega)
  obtain ⟨l1, l2⟩ := mergeL_rise hl hb.rise hneg (nz hb) hnz
  have : l = r := val_inj l1 h.rise l2 h.nonz fun p c => by rw [mergeL_val hl, h.val, lval_neg]; omega
  subst this
  have h1 := mergeL_len hl
  have h2 := ha.len
  have h3 := hb.len
  have h4 : (neg a).length = a.length := by simp [neg]
  omega
 exact ⟨⟨h.rise, hlen, delta_right h ha.ok hb.ok hf, hc⟩, hf, by omega⟩
structure SmC (M : Int) (n : Nat) (r : Int) (C : List Ct) : Prop where
 each : ∀ c ∈ C, c.1 = 2026 ∧ 1 ≤ c.2.1 ∧ c.2.1 ≤ r ∧ SmL M n c.2.2
 rise : RiseP (lst C)
theorem smC_nil {M : Int} {n : Nat} {r : Int} : SmC M n r [] := ⟨(fun c hc => by cases hc), List.Pairwise.nil⟩
theorem SmC.mem {M : Int} {n : Nat} {r : Int} {C : List Ct} (h : SmC M n r C) {s : Sl} (hs : s ∈ lst C) : s.y = 2026 ∧ 1 ≤ s.i ∧ s.i ≤ r ∧ SmL M n s.l := by
 obtain ⟨c, hc, rfl⟩ := List.mem_map.1 hs
 exact h.each c hc
theorem SmC.full {M : Int} {n : Nat} {r : Int} {C : List Ct} (h : SmC M n r C) : SmC M n r (fullC C) := ⟨fun c hc => h.each c (List.mem_filter.1 hc).1, by rw [full_lst]; exact List.Pairwise.filter _ h.rise⟩
theorem SmC.check {r : Int} {C : List Ct} (h : SmC KT 28 r C) (hr : r ≤ 6) {s : Sl} (hs : s ∈ lst C) : check s.y s.i s.l = 0 := by
 obtain ⟨h1, h2, h3, h4⟩ := h.mem hs
 exact h4.check (by omega) (by omega)
theorem hand_small {r : Int} (hr : r ≤ 6) : ∀ {L : List Sl} {p : Option (Int × Int)}, (∀ s ∈ L, s.y = 2026 ∧ 1 ≤ s.i ∧ s.i ≤ r ∧ SmL KT 28 s.l) → RiseP L → (∀ a, p = some a → ∀ s ∈ L, prLt a (perS s) = true) → handE (2026, r) p L = 0
 | [], _, _, _, _ => by rw [handE]
 | s :: t, p, h1, h2, h3 => by
  obtain ⟨k1, k2, k3, k4⟩ := h1 s (by simp)
  obtain ⟨r1, r2⟩ := List.pairwise_cons.1 h2
  rw [handE, if_neg (by rw [k4.check (by omega) (by omega)]; simp), if_neg]
  ·exact hand_small hr (fun z hz => h1 z (by simp [hz])) r2 (fun a ha z hz => by cases ha; exact r1 z hz)
  ·rintro (⟨a, ha, hb⟩ | hb)
   ·rw [h3 a ha s (by simp)] at hb; cases hb
   ·rcases (prLt_iff _ _).1 hb with q | q
    ·simp only [perS] at q; omega
    ·simp only [perS] at q; omega
theorem of_small {A B : List Ct} {r : Int} (hr : r ≤ 6) (hA : SmC KT 28 r A) (hB : SmC KT 28 r B) {p : Int × Int} (hp : hasP (lst A) p ∨ hasP (lst B) p) :
  (ofC (conO (findS (lst A) p)) (nowO p (findS (lst B) p))).1 = 0 ∧ check p.1 p.2 (ofC (conO (findS (lst A) p)) (nowO p (findS (lst B) p))).2.2.2 = 0 ∧ (ofC (conO (findS (lst A) p)) (nowO p (findS (lst B) p))).2.1 = p.1 ∧ (ofC (conO (findS (lst A) p)) (nowO p (findS (lst B) p))).2.2.1 = p.2 ∧
  SmL (2 * KT) 56 (ofC (conO (findS (lst A) p)) (nowO p (findS (lst B) p))).2.2.2 := by
 have hper : p.1 = 2026 ∧ 1 ≤ p.2 ∧ p.2 ≤ r := by
  rcases hp with ⟨s, hs, rfl⟩ | ⟨s, hs, rfl⟩
  ·have := hA.mem hs; exact ⟨this.1, this.2.1, this.2.2.1⟩
  ·have := hB.mem hs; exact ⟨this.1, this.2.1, this.2.2.1⟩
 have hy : 1900 ≤ p.1 ∧ p.1 ≤ 2199 ∧ 1 ≤ p.2 ∧ p.2 ≤ 400 := by omega
 have ha : SmL KT 28 (linesO (findS (lst A) p)) := by
  rcases hf : findS (lst A) p with _ | s
  ·exact smL_nil
  ·exact (hA.mem (find_mem hf).1).2.2.2
 have hb : SmL KT 28 (linesO (findS (lst B) p)) := by
  rcases hf : findS (lst B) p with _ | s
  ·exact smL_nil
  ·exact (hB.mem (find_mem hf).1).2.2.2
 have hd := delta_small ha hb (delta_is _ _) (Nat.le_refl _)
 have hnow : (nowO p (findS (lst B) p)).1 = p.1 ∧ (nowO p (findS (lst B) p)).2.1 = p.2 := by
  rcases hf : findS (lst B) p with _ | s
  ·exact ⟨rfl, rfl⟩
  ·obtain ⟨-, h2⟩ := find_mem hf
   rw [← h2]; exact ⟨rfl, rfl⟩
 have hcon : (noneB (conO (findS (lst A) p)).1 (conO (findS (lst A) p)).2.1 (linesO (findS (lst A) p)) = true) ∨ ((conO (findS (lst A) p)).1 = p.1 ∧ (conO (findS (lst A) p)).2.1 = p.2) := by
  rcases hf : findS (lst A) p with _ | s
  ·exact .inl rfl
  ·obtain ⟨-, h2⟩ := find_mem hf
   right; rw [← h2]; exact ⟨rfl, rfl⟩
 have hck := hb.check (by omega) hy
 have hwb : wrongE p.1 p.2 (linesO (findS (lst B) p)) = 0 := by
  unfold wrongE; split
  ·rfl
  ·exact hck
 have hnb : noneB p.1 p.2 (linesO (findS (lst B) p)) = false := check_noneB hck
 have hwa : wrongE (conO (findS (lst A) p)).1 (conO (findS (lst A) p)).2.1 (linesO (findS (lst A) p)) = 0 := by
  unfold wrongE
  rcases hcon with h | ⟨h1, h2⟩
  ·rw [if_pos h]
  ·split
   ·rfl
   ·rw [h1, h2]; exact ha.check (by omega) hy
 have e : ofC (conO (findS (lst A) p)) (nowO p (findS (lst B) p)) = (0, p.1, p.2, deltaL (linesO (findS (lst A) p)) (linesO (findS (lst B) p))) := by
  unfold ofC
  rw [conO_lines, nowO_lines, hnow.1, hnow.2]
  unfold ofF
  rw [if_neg (by rw [hwa]; simp), if_neg (by rw [hwb]; simp), if_neg, if_neg, if_neg (by have := hd.2.2; omega), hnb]
  ·simp
  ·rw [Bool.not_eq_true, List.any_eq_false]
   intro x hx
   rw [hd.2.1 x hx]; simp
  ·rintro ⟨h1, -, h3⟩
   rcases hcon with h | ⟨k1, k2⟩
   ·rw [h] at h1; cases h1
   ·omega
 rw [e]
 exact ⟨rfl, hd.1.check (by omega) hy, rfl, rfl, hd.1⟩
theorem back_small {A B : List Ct} {r : Int} (hr : r ≤ 6) (hA : SmC KT 28 r A) (hB : SmC KT 28 r B) (q : Int × Int) : ∀ {ps : List (Int × Int)} {acc : List Ct}, (∀ p ∈ ps, hasP (lst A) p ∨ hasP (lst B) p) →
  ∃ R, backG (lst A) (lst B) q acc ps = (0, acc ++ R) ∧ R.length ≤ ps.length ∧ ∀ c ∈ R, check c.1 c.2.1 c.2.2 = 0 ∧ SmL (2 * KT) 56 c.2.2 ∧ 1900 ≤ c.1 ∧ c.1 ≤ 2199 ∧ 1 ≤ c.2.1 ∧ c.2.1 ≤ 400
 | [], acc, _ => ⟨[], by simp [backG], Nat.le_refl _, (fun c hc => by cases hc)⟩
 | p :: t, acc, h => by
  have ht : ∀ p ∈ t, hasP (lst A) p ∨ hasP (lst B) p := fun z hz => h z (by simp [hz])
  by_cases hp : p = q
  ·subst hp
   obtain ⟨R, h1, h2, h3⟩ := back_small hr hA hB p (acc := acc) ht
   exact ⟨R, by rw [back_own, h1], by simp; omega, h3⟩
  ·obtain ⟨k1, k2, k3, k4, k5⟩ := of_small hr hA hB (h p (by simp))
   have hper : p.1 = 2026 ∧ 1 ≤ p.2 ∧ p.2 ≤ r := by
    rcases h p (by simp) with ⟨s, hs, rfl⟩ | ⟨s, hs, rfl⟩
    ·have := hA.mem hs; exact ⟨this.1, this.2.1, this.2.2.1⟩
    ·have := hB.mem hs; exact ⟨this.1, this.2.1, this.2.2.1⟩
   obtain ⟨⟨E, c⟩, hc⟩ : ∃ x, ofC (conO (findS (lst A) p)) (nowO p (findS (lst B) p)) = x := ⟨_, rfl⟩
   rw [hc] at k1 k2 k3 k4 k5
   simp only at k1 k2 k3 k4 k5
   subst k1
   by_cases hz : c.2.2 = []
   ·obtain ⟨R, h1, h2, h3⟩ := back_small hr hA hB q (acc := acc) ht
    exact ⟨R, by rw [back_zero hp hc hz, h1], by simp; omega, h3⟩
   ·obtain ⟨R, h1, h2, h3⟩ := back_small hr hA hB q (acc := acc ++ [c]) ht
    refine ⟨c :: R, by rw [back_more hp hc hz, h1]; simp, by simp; omega, fun z hz => ?_⟩
    rcases List.mem_cons.1 hz with rfl | hz
    ·rw [k3, k4]; exact ⟨k2, k5, by omega, by omega, by omega, by omega⟩
    ·exact h3 z hz
theorem net_small (b : Int) (hb : b = 14431090114560) : ∀ {R : List Ct} {acc : Int}, (∀ c ∈ R, check c.1 c.2.1 c.2.2 = 0 ∧ SmL (2 * KT) 56 c.2.2 ∧ 1900 ≤ c.1 ∧ c.1 ≤ 2199 ∧ 1 ≤ c.2.1 ∧ c.2.1 ≤ 400) → (R.length : Int) * b - 562949953421312 ≤ acc → acc ≤ 562949953421312 - (R.length : Int) * b →
  (netF acc (lst R)).2 = 0 ∧ acc - (R.length : Int) * b ≤ (netF acc (lst R)).1 ∧ (netF acc (lst R)).1 ≤ acc + (R.length : Int) * b := by
 intro R
 induction R with
 | nil => intro acc _ _ _; simp [lst, netF]
 | cons c t ih =>
  intro acc h h1 h2
  obtain ⟨k1, k2, k3⟩ := h c (by simp)
  have hs := k2.sums (y := c.1) (i := c.2.1) (by decide) (by omega) (by decide) k3
  have e : (2 * KT * (56 : Nat) : Int) = b := by rw [hb]; rfl
  rw [e] at hs
  have hl : ((c :: t).length : Int) * b = t.length * b + b := by rw [List.length_cons]; push_cast; rw [Int.add_mul, Int.one_mul]
  rw [hl] at h1 h2 ⊢
  have hp : 0 ≤ (t.length : Int) * b := Int.mul_nonneg (by omega) (by omega)
  have hf : fits (acc + (sums c.1 c.2.1 c.2.2).2.2.1) = true := by rw [hs.2.1, fits_iff]; omega
  have ih := ih (acc := acc + (sums c.1 c.2.1 c.2.2).2.2.1) (fun z hz => h z (by simp [hz])) (by rw [hs.2.1]; omega) (by rw [hs.2.1]; omega)
  have e2 : netF acc (lst (c :: t)) = netF (acc + (sums c.1 c.2.1 c.2.2).2.2.1) (lst t) := by
   show netF acc (slO c :: lst t) = _
   rw [netF]
   have hn : noneB (slO c).y (slO c).i (slO c).l = false := check_noneB k1
   rw [if_neg (by rw [hn]; simp), if_neg (by show ¬ (sums c.1 c.2.1 c.2.2).2.2.2.2 ≠ 0; rw [hs.1]; simp), if_neg (by show ¬ fits (acc + (sums c.1 c.2.1 c.2.2).2.2.1) = false; rw [hf]; simp)]
   rfl
  rw [e2]
  refine ⟨ih.1, ?_, ?_⟩
  ·have := ih.2.1; rw [hs.2.1] at this ⊢; omega
  ·have := ih.2.2; rw [hs.2.1] at this ⊢; omega
theorem settle_small {owed due : Int} (h0 : 0 ≤ owed) (h1 : owed ≤ 884000000000000) (h2 : -176800000000000 ≤ due) (h3 : due ≤ 176800000000000) : (settleG owed due).2.2 = 0 ∧ (settleG owed due).1 ≤ owed + 176800000000000 := by
 unfold settleG rightC
 rw [if_neg (by simp; omega), if_neg (by omega)]
 split
 ·exact ⟨rfl, by simp; omega⟩
 ·rw [if_neg (by simp; omega)]
  exact ⟨rfl, by simp; omega⟩
theorem row_small {A B : List Ct} {p owed r : Int} (hr : 1 ≤ r ∧ r ≤ 6) (hA : SmC KT 28 r A) (hB : SmC KT 28 r B) (la : A.length ≤ 6) (lb : B.length ≤ 6) (h0 : 0 ≤ owed) (h1 : owed ≤ 884000000000000) :
  (rowG p (2026, r) (lst A) (lst B) owed).2 = 0 ∧ (rowG p (2026, r) (lst A) (lst B) owed).1.owed ≤ owed + 176800000000000 := by
 obtain ⟨R, k1, k2, k3⟩ := back_small hr.2 hA hB (2026, r) (ps := persP (lst A) (lst B)) (acc := []) (fun p hp => ((persP_of _ _).2 p).1 hp)
 rw [List.nil_append] at k1
 have hlen : R.length ≤ 12 := by
  have := heads_len (lst A ++ lst B)
  have e : (lst A ++ lst B).length = A.length + B.length := by simp [lst]
  have e2 : (persP (lst A) (lst B)).length ≤ A.length + B.length := by rw [← e]; exact this
  omega
 have hnow : SmL KT 28 (nowG (lst B) (2026, r)).2.2 ∧ (nowG (lst B) (2026, r)).1 = 2026 ∧ (nowG (lst B) (2026, r)).2.1 = r := by
  unfold nowG
  rcases hf : findS (lst B) (2026, r) with _ | s
  ·exact ⟨smL_nil, rfl, rfl⟩
  ·obtain ⟨m1, m2⟩ := find_mem hf
   have e : s.y = 2026 ∧ s.i = r := ⟨congrArg Prod.fst m2, congrArg Prod.snd m2⟩
   exact ⟨(hB.mem m1).2.2.2, e.1, e.2⟩
 have hs := hnow.1.sums (y := 2026) (i := r) (by decide) (by omega) (by decide) (by omega)
 have e : (KT * (28 : Nat) : Int) = 3607772528640 := rfl
 rw [e] at hs
 have hn := net_small _ rfl (R := R) (acc := 0) k3 (by omega) (by omega)
 have hd : (dueG (nowG (lst B) (2026, r)) R).2 = 0 ∧ -176800000000000 ≤ (dueG (nowG (lst B) (2026, r)) R).1 ∧ (dueG (nowG (lst B) (2026, r)) R).1 ≤ 176800000000000 := by
  unfold dueG
  rw [hnow.2.1, hnow.2.2, if_neg (by rw [hs.1]; simp), if_neg (by rw [hn.1]; simp), if_neg, hs.2.1]
  ·exact ⟨rfl, by simp only; omega, by simp only; omega⟩
  ·rw [hs.2.1, Bool.not_eq_false, fits_iff]; omega
 have hst := settle_small h0 h1 hd.2.1 hd.2.2
 unfold rowG
 rw [k1, if_neg (by simp), if_neg (by rw [hd.1]; simp)]
 exact hst
theorem do_small {B : Bk} {r : Int} {S : Int → List Ct} {hs ps : List Int} (hr : 1 ≤ r ∧ r ≤ 6) (hl : ∀ x, B.runs.getLast? = some x → x.y = 2026 ∧ x.i < r ∧ x.k < r) (hA : ∀ p, SmC KT 28 r (B.paid p)) (hS : ∀ p, SmC KT 28 r (S p)) (la : ∀ p, (B.paid p).length ≤ 6) (lb : ∀ p, (S p).length ≤ 6)
  (ho : ∀ p, 0 ≤ B.owed p ∧ B.owed p ≤ 884000000000000) :
  ∃ B' R, doG B 2026 r r S hs ps = (B', R, 0) ∧ ∀ x ∈ R.rows, x.owed ≤ B.owed x.p + 176800000000000 := by
 have hrow : ∀ p, (rowB (2026, r) B S p).2 = 0 ∧ (rowB (2026, r) B S p).1.owed ≤ B.owed p + 176800000000000 := fun p => row_small hr (hA p) (hS p) (la p) (lb p) (ho p).1 (ho p).2
 have hp : ∀ p, (rowB (2026, r) B S p).1.p = p := fun p => by
  have h := (hrow p).1
  have : ∀ x : Rw × Int, rowG p (2026, r) (lst (B.paid p)) (lst (S p)) (B.owed p) = x → x.2 = 0 → x.1.p = p := fun x hx h0 => by
   unfold rowG at hx
   split at hx
   ·rename_i he; rw [← hx] at h0; exact absurd h0 he
   ·split at hx
    ·rename_i he; rw [← hx] at h0; exact absurd h0 he
    ·rw [← hx]
  exact this _ rfl h
 have h0 : headE B.runs 2026 r r = 0 := by
  unfold headE
  rw [if_neg (by omega)]
  rcases hl9 : B.runs.getLast? with _ | x
  ·rfl
  ·obtain ⟨h1, h2, h3⟩ := hl x hl9
   simp only
   rw [if_neg]
   unfold perN
   rw [h1]; omega
 have h1 : handsE (2026, r) S hs = 0 := hands_make fun p _ => hand_small hr.2 (fun s hs => (hS p).mem hs) (hS p).rise (fun a h => by cases h)
 have h2 := rows_make (q := (2026, r)) (B := B) (S := S) (ps := ps) (acc := []) (fun p _ _ => (hrow p).1)
 unfold doG
 rw [h0, if_neg (by simp), h1, if_neg (by simp), h2, if_neg (by simp)]
 refine ⟨_, _, rfl, fun x hx => ?_⟩
 simp only [List.nil_append] at hx
 obtain ⟨p, -, rfl⟩ := List.mem_map.1 hx
 rw [hp]
 exact (hrow p).2
end Wb
end Go.Proofs.YtnefdpnolojojaaGreatDoor
namespace Go.Proofs.YtnefdpnolojojaaGreatDoor
namespace Wb
structure Cl where
 per : Nat
 run : Nat
 prd : Nat
 part : Nat
 code : Nat
 cents : Int
def inBox (p c : Nat) (x : Cl) : Bool := decide (x.part % 7 = p ∧ x.code % 4 = c)
def sumC (p c : Nat) : List Cl → Int
 | [] => 0
 | x :: r => (if inBox p c x = true then x.cents else 0) + sumC p c r
theorem sumC_snoc (p c : Nat) (l : List Cl) (x : Cl) : sumC p c (l ++ [x]) = sumC p c l + (if inBox p c x = true then x.cents else 0) := by
 induction l with
 | nil => simp [sumC]
 | cons y r ih => rw [List.cons_append, sumC, ih, sumC]; omega
def SmX (l : List Cl) : Prop := ∀ x ∈ l, -2147483648 ≤ x.cents ∧ x.cents ≤ 2147483647
theorem sumC_small (p c : Nat) : ∀ {l : List Cl}, SmX l → -(2147483648 * l.length : Int) ≤ sumC p c l ∧ sumC p c l ≤ 2147483648 * l.length
 | [], _ => by simp [sumC]
 | x :: r, h => by
  have h1 := sumC_small p c (l := r) fun y hy => h y (by simp [hy])
  have h2 := h x (by simp)
  rw [sumC, List.length_cons]
  split <;> push_cast <;> omega
def lineAt (v : Nat → Nat → Int) (k : Nat) : List Ln := if v (k / 4) (k % 4) = 0 then [] else [⟨(k / 4 : Nat), [UInt8.ofNat (97 + k % 4)], v (k / 4) (k % 4)⟩]
def linesTo (v : Nat → Nat → Int) (n : Nat) : List Ln := (List.range n).flatMap (lineAt v)
theorem linesTo_succ (v : Nat → Nat → Int) (n : Nat) : linesTo v (n + 1) = linesTo v n ++ lineAt v n := by
 unfold linesTo
 rw [List.range_succ, List.flatMap_append]
 simp
theorem linesTo_len (v : Nat → Nat → Int) : ∀ n, (linesTo v n).length ≤ n
 | 0 => Nat.le_refl _
 | n + 1 => by
  have := linesTo_len v n
  rw [linesTo_succ, List.length_append]
  have h1 : (lineAt v n).length ≤ 1 := by unfold lineAt; split <;> simp
  omega
theorem linesTo_mem {v : Nat → Nat → Int} {n : Nat} {x : Ln} (h : x ∈ linesTo v n) : ∃ k, k < n ∧ x = ⟨(k / 4 : Nat), [UInt8.ofNat (97 + k % 4)], v (k / 4) (k % 4)⟩ ∧ v (k / 4) (k % 4) ≠ 0 := by
 obtain ⟨k, hk, hx⟩ := List.mem_flatMap.1 h
 unfold lineAt at hx
 split at hx
 ·cases hx
 ·rename_i hz
  exact ⟨k, List.mem_range.1 hk, List.mem_singleton.1 hx, hz⟩
theorem keys_rise : ∀ k < 28, ∀ j < k, (decide ((j / 4 : Nat) < k / 4) || ((j / 4 == k / 4) && Op.bytesLess [UInt8.ofNat (97 + j % 4)] [UInt8.ofNat (97 + k % 4)])) = true := by decide
theorem key_lt {j k : Nat} (hk : k < 28) (hj : j < k) (a b : Int) : lnLt ⟨(j / 4 : Nat), [UInt8.ofNat (97 + j % 4)], a⟩ ⟨(k / 4 : Nat), [UInt8.ofNat (97 + k % 4)], b⟩ = true := by
 have := keys_rise k hk j hj
 unfold lnLt
 simp only [Bool.or_eq_true, decide_eq_true_eq, Bool.and_eq_true, beq_iff_eq] at this ⊢
 rcases this with h | ⟨h1, h2⟩
 ·left; omega
 ·right; exact ⟨by omega, h2⟩
theorem linesTo_rise (v : Nat → Nat → Int) : ∀ n, n ≤ 28 → Rise (linesTo v n)
 | 0, _ => List.Pairwise.nil
 | n + 1, hn => by
  rw [linesTo_succ]
  refine List.pairwise_append.2 ⟨linesTo_rise v n (by omega), ?_, fun x hx y hy => ?_⟩
  ·unfold lineAt; split
   ·exact List.Pairwise.nil
   ·exact List.pairwise_singleton _ _
  ·obtain ⟨k, hk, rfl, -⟩ := linesTo_mem hx
   unfold lineAt at hy
   split at hy
   ·cases hy
   ·obtain rfl := List.mem_singleton.1 hy
    exact key_lt (by omega) hk _ _
theorem code_ok : ∀ c < 4, codeOk [UInt8.ofNat (97 + c)] = true := by decide
theorem linesTo_small {v : Nat → Nat → Int} {n : Nat} (hn : n ≤ 28) (h : ∀ p c, -KT ≤ v p c ∧ v p c ≤ KT) : SmL KT 28 (linesTo v n) := by
 refine ⟨linesTo_rise v n hn, Nat.le_trans (linesTo_len v n) hn, fun x hx => ?_, fun x hx => ?_⟩
 ·obtain ⟨k, hk, rfl, hz⟩ := linesTo_mem hx
  have := h (k / 4) (k % 4)
  have e : KT = 128849018880 := rfl
  exact lineErr_iff.2 ⟨by simp only; omega, by simp only; omega, code_ok _ (Nat.mod_lt _ (by decide)), hz, by rw [fits_iff]; simp only; omega⟩
 ·obtain ⟨k, hk, rfl, hz⟩ := linesTo_mem hx
  exact h _ _
def slipL (l : List Cl) : List Ln := linesTo (fun p c => sumC p c l) 28
theorem slip_small {l : List Cl} (hx : SmX l) (hl : l.length ≤ 60) : SmL KT 28 (slipL l) := linesTo_small (Nat.le_refl _) fun p c => by
 have := sumC_small p c hx
 have e : KT = 128849018880 := rfl
 omega
def mine (p r i : Nat) (x : Cl) : Bool := decide (x.per % 3 = p ∧ x.prd % 6 + 1 = i ∧ x.run % 6 + 1 ≤ r)
def rowsX (l : List Cl) (p r i : Nat) : List Cl := l.filter (mine p r i)
theorem rowsX_small {l : List Cl} (h : SmX l) (p r i : Nat) : SmX (rowsX l p r i) := fun x hx => h x (List.mem_filter.1 hx).1
theorem rowsX_len (l : List Cl) (p r i : Nat) : (rowsX l p r i).length ≤ l.length := List.length_filter_le _ _
def slipX (l : List Cl) (p r i : Nat) : Ct := (2026, (i : Int), slipL (rowsX l p r i))
def slipsX (l : List Cl) (p r n : Nat) : List Ct := (List.range n).map fun i => slipX l p r (i + 1)
theorem slipsX_succ (l : List Cl) (p r n : Nat) : slipsX l p r (n + 1) = slipsX l p r n ++ [slipX l p r (n + 1)] := by
 unfold slipsX
 rw [List.range_succ, List.map_append]; rfl
theorem slipsX_len (l : List Cl) (p r n : Nat) : (slipsX l p r n).length = n := by simp [slipsX]
theorem slipsX_mem {l : List Cl} {p r n : Nat} {c : Ct} (h : c ∈ slipsX l p r n) : ∃ i, 1 ≤ i ∧ i ≤ n ∧ c = slipX l p r i := by
 obtain ⟨i, hi, rfl⟩ := List.mem_map.1 h
 have := List.mem_range.1 hi
 exact ⟨i + 1, by omega, by omega, rfl⟩
theorem slipsX_rise (l : List Cl) (p r : Nat) : ∀ n, RiseP (lst (slipsX l p r n))
 | 0 => List.Pairwise.nil
 | n + 1 => by
  rw [slipsX_succ]
  unfold lst
  rw [List.map_append]
  refine List.pairwise_append.2 ⟨slipsX_rise l p r n, List.pairwise_singleton _ _, fun x hx y hy => ?_⟩
  obtain ⟨c, hc, rfl⟩ := List.mem_map.1 hx
  obtain ⟨i, h1, h2, rfl⟩ := slipsX_mem hc
  obtain rfl : y = slO (slipX l p r (n + 1)) := by simpa using hy
  refine (prLt_iff _ _).2 (.inr ⟨rfl, ?_⟩)
  show (i : Int) < ((n + 1 : Nat) : Int)
  omega
theorem slipsX_small {l : List Cl} (h : SmX l) (hl : l.length ≤ 60) (p r n : Nat) : SmC KT 28 n (slipsX l p r n) :=
 ⟨fun c hc => by
  obtain ⟨i, h1, h2, rfl⟩ := slipsX_mem hc
  exact ⟨rfl, by show (1 : Int) ≤ (i : Int); omega, by show (i : Int) ≤ n; omega, slip_small (rowsX_small h p r i) (Nat.le_trans (rowsX_len l p r i) hl)⟩, slipsX_rise l p r n⟩
def someX (l : List Cl) (p r n : Nat) : Bool := (List.range n).any fun i => decide (0 < (rowsX l p r (i + 1)).length)
theorem someX_succ (l : List Cl) (p r n : Nat) : someX l p r (n + 1) = (someX l p r n || decide (0 < (rowsX l p r (n + 1)).length)) := by
 unfold someX
 rw [List.range_succ, List.any_append]; simp
def handX (l : List Cl) (r : Nat) (q : Int) : List Ct := if 1 ≤ q ∧ q ≤ 3 ∧ someX l (q - 1).toNat r r = true then slipsX l (q - 1).toNat r r else []
theorem handX_small {l : List Cl} (h : SmX l) (hl : l.length ≤ 60) (r : Nat) (q : Int) : SmC KT 28 r (handX l r q) ∧ (handX l r q).length ≤ r := by
 unfold handX
 split
 ·exact ⟨slipsX_small h hl _ _ _, by rw [slipsX_len]; exact Nat.le_refl _⟩
 ·exact ⟨smC_nil, Nat.zero_le _⟩
theorem SmC.wide {M : Int} {n : Nat} {r t : Int} {C : List Ct} (h : SmC M n r C) (k : r ≤ t) : SmC M n t C := ⟨fun c hc => by
 obtain ⟨a, b, c, d⟩ := h.each c hc
 exact ⟨a, b, by omega, d⟩, h.rise⟩
structure TopI (l : List Cl) (j : Nat) (B : Bk) (sm : Int → Int) : Prop where
 ok : BkOk B
 runs : B.runs.length = j
 last : ∀ x, B.runs.getLast? = some x → x.y = 2026 ∧ x.i = j ∧ x.k = j
 paid : ∀ p, B.paid p = if j = 0 then [] else fullC (handX l j p)
 owed : ∀ p, 0 ≤ B.owed p ∧ B.owed p ≤ 176800000000000 * j
 sum : ∀ p, sm p - B.owed p = nlC (B.paid p)
 pos : ∀ p, 0 ≤ sm p
 top : ∀ p, sm p ≤ 1125899906842624 * j
theorem topI_none (l : List Cl) : TopI l 0 noBk (fun _ => 0) := ⟨bkOk_none, rfl, (fun x hx => by cases hx), (fun p => rfl), (fun p => ⟨Int.le_refl _, Int.le_refl _⟩), (fun p => rfl), (fun p => Int.le_refl _), (fun p => Int.le_refl _)⟩
theorem top_run {l : List Cl} (h : SmX l) (hl : l.length ≤ 60) {j : Nat} (hj : j < 6) {B B' : Bk} {sum : Int → Int} (hI : TopI l j B sum) {hs ps : List Int} {R : Rn} {E : Int} (hw : Who B (handX l (j + 1)) hs ps) (hd : doG B 2026 ((j + 1 : Nat) : Int) ((j + 1 : Nat) : Int) (handX l (j + 1)) hs ps = (B', R, E)) :
  E = 0 ∧ R.n = j + 1 ∧ R.i = j + 1 ∧ TopI l (j + 1) B' (addR sum R.rows) ∧ Behind B 2026 ((j + 1 : Nat) : Int) (handX l (j + 1)) B' R := by
 have hA : ∀ p, SmC KT 28 ((j + 1 : Nat) : Int) (B.paid p) ∧ (B.paid p).length ≤ 6 := fun p => by
  rw [hI.paid]
  split
  ·exact ⟨smC_nil, Nat.zero_le _⟩
  ·have := handX_small h hl j p
   exact ⟨(this.1.full).wide (by omega), Nat.le_trans (List.length_filter_le _ _) (by omega)⟩
 have hS : ∀ p, SmC KT 28 ((j + 1 : Nat) : Int) (handX l (j + 1) p) ∧ (handX l (j + 1) p).length ≤ 6 := fun p => by
  have := handX_small h hl (j + 1) p
  exact ⟨this.1, by omega⟩
 obtain ⟨B2, R2, h1, h2⟩ := do_small (B := B) (r := ((j + 1 : Nat) : Int)) (S := handX l (j + 1)) (hs := hs) (ps := ps) (by omega) (fun x hx => by
  obtain ⟨a, b, c⟩ := hI.last x hx
  exact ⟨a, by omega, by omega⟩) (fun p => (hA p).1) (fun p => (hS p).1) (fun p => (hA p).2) (fun p => (hS p).2) (fun p => by have := hI.owed p; omega)
 rw [hd] at h1
 simp only [Prod.mk.injEq] at h1
 obtain ⟨rfl, rfl, rfl⟩ := h1
 have ho := do_ok hd
 have hb := behind_of hI.ok hw ho
 have hn : R.n = j + 1 := by rw [ho.run.1, hI.runs]
 refine ⟨rfl, hn, by rw [ho.run.2.2.1]; push_cast; rfl, ⟨hb.ok, by rw [ho.runs, List.length_append, hI.runs]; rfl, fun x hx => ?_, fun p => ?_, fun p => ?_, fun p => sum_addR hb hI.sum p, fun p => ?_, fun p => ?_⟩, hb⟩
 ·rw [ho.runs, getLast_snoc] at hx
  cases hx
  exact ⟨ho.run.2.1, ho.run.2.2.1, ho.run.2.2.2⟩
 ·rw [hb.paid, if_neg (by omega)]
 ·by_cases hp : handX l (j + 1) p = [] ∧ B.paid p = []
  ·rw [hb.other p hp]
   have := hI.owed p
   omega
  ·obtain ⟨x, hx, rfl⟩ := (hb.who p).2 hp
   have h3 := h2 x hx
   have h4 := (hb.rows x hx)
   have h5 := hI.owed x.p
   rw [h4.2]
   have := h4.1.owed
   omega
 ·have := addR_bound (b := 1125899906842624) (c := 1125899906842624 * j) (s := sum) (p := p) hb.one (fun r hr => (hb.rows r hr).1.paid) (by omega) (hI.pos p) (hI.top p)
  exact this.1
 ·have := addR_bound (b := 1125899906842624) (c := 1125899906842624 * j) (s := sum) (p := p) hb.one (fun r hr => (hb.rows r hr).1.paid) (by omega) (hI.pos p) (hI.top p)
  have := this.2
  push_cast
  omega
end Wb
end Go.Proofs.YtnefdpnolojojaaGreatDoor
namespace Go.Proofs.YtnefdpnolojojaaGreatDoor
namespace Wb
end Wb
end Go.Proofs.YtnefdpnolojojaaGreatDoor
