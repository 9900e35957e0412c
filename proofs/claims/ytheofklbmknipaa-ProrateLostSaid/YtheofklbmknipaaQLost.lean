/- Chapter 20: ProrateLost. -/
import Derived.Test.YtheofklbmknipaaQLaw0
namespace Go.Proofs.Ytheofklbmknipaa
open Go.RowKit Go.Lib
set_option maxRecDepth 8000
attribute [local go_sem ↓] Go.wp_at_zero Go.wp_at_succ

/-- what is lost, in one -/
def lossN (S M l pd : Int) : Nat := Wb.huN (S.natAbs * (l * (1000000 - pd)).toNat) (M * 1000000).toNat
theorem loss_le {M l pd : Int} (h0 : 0 ≤ l) (h1 : l ≤ M) (h2 : 0 ≤ pd) (h3 : pd ≤ 1000000) : 0 ≤ l * (1000000 - pd) ∧ l * (1000000 - pd) ≤ M * 1000000 :=
  ⟨Int.mul_nonneg h0 (by omega), Int.mul_le_mul h1 (by omega) (by omega) (by omega)⟩
theorem loss_is {s : Wb.Sp} {S M l pd r E : Int} (h : lossR s S M l pd = (r, E)) :
    (E ≠ 0 ∧ r = 0) ∨ (E = 0 ∧ Wb.fits S = true ∧ 0 ≤ l ∧ l ≤ M ∧ 0 ≤ M ∧ M ≤ 1440 * min (lenS s) 366 ∧ 0 ≤ pd ∧ pd ≤ 1000000 ∧ ((M = 0 ∧ r = 0) ∨ (0 < M ∧ lossN S M l pd ≤ S.natAbs ∧ r = Wb.sgn (decide (S < 0)) (lossN S M l pd)))) := by
  unfold lossR at h
  split at h
  · obtain ⟨rfl, rfl⟩ := Prod.mk.inj h; exact .inl ⟨by decide, rfl⟩
  rename_i hf
  split at h
  · obtain ⟨rfl, rfl⟩ := Prod.mk.inj h; exact .inl ⟨by decide, rfl⟩
  split at h
  · obtain ⟨rfl, rfl⟩ := Prod.mk.inj h; exact .inl ⟨by decide, rfl⟩
  split at h
  · obtain ⟨rfl, rfl⟩ := Prod.mk.inj h; exact .inl ⟨by decide, rfl⟩
  have hf' : Wb.fits S = true := by simpa using hf
  split at h
  · obtain ⟨rfl, rfl⟩ := Prod.mk.inj h; exact .inr ⟨rfl, hf', by omega, by omega, by omega, by omega, by omega, by omega, .inl ⟨by assumption, rfl⟩⟩
  · have hM : 0 < M := by omega
    obtain ⟨n0, n1⟩ := loss_le (M := M) (l := l) (pd := pd) (by omega) (by omega) (by omega) (by omega)
    have hle : lossN S M l pd ≤ S.natAbs := Wb.hu_le (by omega) (Nat.mul_le_mul_left _ (by omega))
    have hfs := (Wb.fits_iff _).1 hf'
    have e1 : (l * (1000000 - pd)).natAbs = (l * (1000000 - pd)).toNat := by omega
    have e2 : decide (l * (1000000 - pd) < 0) = false := by simpa using n0
    unfold Wb.partR at h
    rw [if_neg (by rw [hf']; decide), if_neg (by omega), if_neg (by omega), e1, e2, if_neg (by unfold lossN at hle; omega)] at h
    obtain ⟨rfl, rfl⟩ := Prod.mk.inj h
    refine .inr ⟨rfl, hf', by omega, by omega, by omega, by omega, by omega, by omega, .inr ⟨hM, hle, ?_⟩⟩
    cases decide (S < 0) <;> rfl
theorem loss_zero {s : Wb.Sp} {S M l pd r E : Int} (h : lossR s S M l pd = (r, E)) (hE : E ≠ 0) : r = 0 := by
  rcases loss_is h with ⟨_, h⟩ | ⟨h, _⟩
  · exact h
  · exact absurd h hE
theorem loss_ok {s : Wb.Sp} {S M l pd : Int} (hf : Wb.fits S = true) (h0 : 0 ≤ l) (h1 : l ≤ M) (h2 : 0 ≤ M) (h3 : M ≤ 1440 * min (lenS s) 366) (h4 : 0 ≤ pd) (h5 : pd ≤ 1000000) :
    (lossR s S M l pd).2 = 0 := by
  obtain ⟨⟨r, E⟩, h⟩ : ∃ q, lossR s S M l pd = q := ⟨_, rfl⟩
  have hk := h
  unfold lossR at h
  rw [if_neg (by rw [hf]; decide), if_neg (by omega), if_neg (by omega), if_neg (by omega)] at h
  rcases loss_is hk with ⟨hE, _⟩ | ⟨hE, _⟩
  · exfalso
    split at h
    · obtain ⟨rfl, rfl⟩ := Prod.mk.inj h; exact hE rfl
    · obtain ⟨n0, n1⟩ := loss_le (M := M) (l := l) (pd := pd) h0 h1 h4 h5
      have hle : lossN S M l pd ≤ S.natAbs := Wb.hu_le (by omega) (Nat.mul_le_mul_left _ (by omega))
      have hfs := (Wb.fits_iff _).1 hf
      have e1 : (l * (1000000 - pd)).natAbs = (l * (1000000 - pd)).toNat := by omega
      unfold Wb.partR at h
      rw [if_neg (by rw [hf]; decide), if_neg (by omega), if_neg (by omega), e1, if_neg (by unfold lossN at hle; omega)] at h
      obtain ⟨rfl, rfl⟩ := Prod.mk.inj h; exact hE rfl
  · rw [hk]; exact hE
theorem lost_base {s : Wb.Sp} {S M a n en u eu : Int} (h : lossR s S M M 0 = (a, 0)) (hn : lossR s S M 0 0 = (n, en)) (hu : lossR s S M M 1000000 = (u, eu)) : n = 0 ∧ en = 0 ∧ u = 0 ∧ eu = 0 ∧ (0 < M → a = S) := by
  rcases loss_is h with ⟨h0, _⟩ | ⟨_, hf, h1, h2, h3, h4, _, _, h5⟩
  · exact absurd rfl h0
  have e1 : en = 0 := by have := loss_ok (s := s) (l := 0) (pd := 0) hf (by omega) h3 h3 h4 (by omega) (by omega); rw [hn] at this; exact this
  have e2 : eu = 0 := by have := loss_ok (s := s) (l := M) (pd := 1000000) hf h3 (by omega) h3 h4 (by omega) (by omega); rw [hu] at this; exact this
  have z : ∀ b, Wb.sgn b 0 = 0 := fun b => by cases b <;> rfl
  refine ⟨?_, e1, ?_, e2, fun hM => ?_⟩
  · rcases loss_is hn with ⟨h0, _⟩ | ⟨_, _, _, _, _, _, _, _, h6⟩
    · exact absurd e1 h0
    · rcases h6 with ⟨_, h6⟩ | ⟨hM, _, h6⟩
      · exact h6
      · rw [h6, lossN, show ((0 : Int) * (1000000 - 0)).toNat = 0 from rfl, Nat.mul_zero, Wb.hu_zero (by omega), z]
  · rcases loss_is hu with ⟨h0, _⟩ | ⟨_, _, _, _, _, _, _, _, h6⟩
    · exact absurd e2 h0
    · rcases h6 with ⟨_, h6⟩ | ⟨hM, _, h6⟩
      · exact h6
      · rw [h6, lossN, show (M * (1000000 - 1000000)).toNat = 0 by simp, Nat.mul_zero, Wb.hu_zero (by omega), z]
  · rcases h5 with ⟨h6, _⟩ | ⟨_, _, h6⟩
    · omega
    · rw [h6, lossN, show M * (1000000 - 0) = M * 1000000 by omega, Wb.hu_mul _ _ (by omega)]
      unfold Wb.sgn
      split
      · rename_i q; have := of_decide_eq_true q; omega
      · rename_i q; have : ¬ S < 0 := by simpa using q
        omega
theorem lossN_mono {S M l pd l' pd' : Int} (h : (l * (1000000 - pd)).toNat ≤ (l' * (1000000 - pd')).toNat) : lossN S M l pd ≤ lossN S M l' pd' := Wb.hu_mono (Nat.mul_le_mul_left _ h)
theorem lost_all {s : Wb.Sp} {S M l O pd hg x y ey z ez : Int} (hS : ¬ S < 0) (hx : lossR s S M l pd = (x, 0)) (hy : lossR s S M O pd = (y, ey)) (hz : lossR s S M l hg = (z, ez)) :
    0 ≤ x ∧ x ≤ S ∧ (((ey == 0) = false ∧ (ey != 0) = true) ∨ (ey = 0 ∧ (decide (O < l) = true ∨ (decide (O < l) = false ∧ decide (x ≤ y) = true)))) ∧
      (((ez == 0) = false ∧ (ez != 0) = true) ∨ (ez = 0 ∧ (decide (hg < pd) = true ∨ (decide (hg < pd) = false ∧ decide (z ≤ x) = true)))) := by
  have sg : ∀ n : Nat, Wb.sgn (decide (S < 0)) n = n := fun n => by rw [show decide (S < 0) = false by simpa using hS]; rfl
  rcases loss_is hx with ⟨h0, _⟩ | ⟨_, hf, h1, h2, h3, h4, h5, h6, h7⟩
  · exact absurd rfl h0
  refine ⟨?_, ?_, ?_, ?_⟩
  · rcases h7 with ⟨_, h7⟩ | ⟨_, _, h7⟩
    · omega
    · rw [h7, sg]; omega
  · rcases h7 with ⟨_, h7⟩ | ⟨_, hl, h7⟩
    · omega
    · rw [h7, sg]; omega
  · rcases loss_is hy with ⟨h0, _⟩ | ⟨k0, _, k1, k2, _, _, _, _, k7⟩
    · exact .inl ⟨by simpa using h0, by simpa using h0⟩
    · refine .inr ⟨k0, ?_⟩
      by_cases hO : O < l
      · exact .inl (by simpa using hO)
      · refine .inr ⟨by simpa using hO, ?_⟩
        simp only [decide_eq_true_eq]
        rcases h7 with ⟨hM, h7⟩ | ⟨hM, _, h7⟩
        · rcases k7 with ⟨_, k7⟩ | ⟨_, _, k7⟩
          · omega
          · omega
        · rcases k7 with ⟨_, k7⟩ | ⟨_, _, k7⟩
          · omega
          · have hm : l * (1000000 - pd) ≤ O * (1000000 - pd) := Int.mul_le_mul_of_nonneg_right (by omega) (by omega)
            have := lossN_mono (S := S) (M := M) (l := l) (l' := O) (pd := pd) (pd' := pd) (by omega)
            rw [h7, k7, sg, sg]; omega
  · rcases loss_is hz with ⟨h0, _⟩ | ⟨k0, _, k1, k2, _, _, _, _, k7⟩
    · exact .inl ⟨by simpa using h0, by simpa using h0⟩
    · refine .inr ⟨k0, ?_⟩
      by_cases hO : hg < pd
      · exact .inl (by simpa using hO)
      · refine .inr ⟨by simpa using hO, ?_⟩
        simp only [decide_eq_true_eq]
        rcases h7 with ⟨hM, h7⟩ | ⟨hM, _, h7⟩
        · rcases k7 with ⟨_, k7⟩ | ⟨_, _, k7⟩
          · omega
          · omega
        · rcases k7 with ⟨_, k7⟩ | ⟨_, _, k7⟩
          · omega
          · have hm : l * (1000000 - hg) ≤ l * (1000000 - pd) := Int.mul_le_mul_of_nonneg_left (by omega) (by omega)
            have := lossN_mono (S := S) (M := M) (l := l) (l' := l) (pd := hg) (pd' := pd) (by omega)
            rw [h7, k7, sg, sg]; omega
set_option maxHeartbeats 4000000 in
theorem lost_walk (yr ix o f t pay : Int) (S M l O pd hg : Int) (w : World) (hi : -9223372036854775808 ≤ ix ∧ ix ≤ 9223372036854775807) (hs : Bd (f, t)) (hM : -9223372036854775808 ≤ M ∧ M ≤ 9223372036854775807) :
    Calls Try.prog 5 #[PeV yr ix o (f, t) pay, .int .i64 S, .int .i64 M, .int .i64 l, .int .i64 O, .int .i64 pd, .int .i64 hg] w fun e w' => e = .returned (.bool true) ∧ Wb.Ext w w' := by
  go_enter Try.func5, Try.ntmps5
  go_wp2_with fail
  go_fit (awake20_any _); rintro e w1 ⟨rfl, hb1⟩
  have hn1 : Wb.Ext w w1 := Wb.Ext.trans (by (repeat' (first | (with_reducible assumption) | (with_reducible exact Wb.Ext.refl _) | (with_reducible refine Wb.Ext.drew ?_) | (with_reducible refine Wb.Ext.drewN ?_ _) | (with_reducible refine Wb.Ext.alloc ?_ _) | (with_reducible refine Wb.Ext.trans ?_ (by assumption))))) hb1
  have hx1 : Wb.Ext w w1 := hn1
  have xp0 : w1.cell? ⟨w.heap.size, 0, none⟩ = some (.int .i64 yr) := hb1.keep (by simp [go_sem])
  have xp1 : w1.cell? ⟨w.heap.size, 1, none⟩ = some (.int .i64 ix) := hb1.keep (by simp [go_sem])
  have xp2 : w1.cell? ⟨w.heap.size, 2, none⟩ = some (.int .i64 o) := hb1.keep (by simp [go_sem])
  have xp3 : w1.cell? ⟨w.heap.size, 3, none⟩ = some (.int .i64 f) := hb1.keep (by simp [go_sem])
  have xp4 : w1.cell? ⟨w.heap.size, 4, none⟩ = some (.int .i64 t) := hb1.keep (by simp [go_sem])
  have xp5 : w1.cell? ⟨w.heap.size, 5, none⟩ = some (.int .i64 pay) := hb1.keep (by simp [go_sem])
  have zxp := Wb.cell_size xp0
  clear hb1 hn1
  go_wp2_with fail
  go_fit (loss_any yr ix o (f, t) pay S M M 0 hs hM _); rintro e w2 ⟨rfl, hb2⟩
  have hn2 : Wb.Ext w1 w2 := Wb.Ext.trans (by (repeat' (first | (with_reducible assumption) | (with_reducible exact Wb.Ext.refl _) | (with_reducible refine Wb.Ext.drew ?_) | (with_reducible refine Wb.Ext.drewN ?_ _) | (with_reducible refine Wb.Ext.alloc ?_ _) | (with_reducible refine Wb.Ext.trans ?_ (by assumption))))) hb2
  have hx2 : Wb.Ext w w2 := hx1.trans hn2
  have xp0 := hn2.keep xp0
  have xp1 := hn2.keep xp1
  have xp2 := hn2.keep xp2
  have xp3 := hn2.keep xp3
  have xp4 := hn2.keep xp4
  have xp5 := hn2.keep xp5
  have zxp := Wb.cell_size xp0
  clear hb2 hn2
  obtain ⟨⟨al, eal⟩, hal⟩ : ∃ q, lossR (f, t) S M M 0 = q := ⟨_, rfl⟩
  have Hal := Lib.hid hal
  rw [hal]
  clear hal
  by_cases hE : eal = 0
  case neg =>
    have d1 : (eal == 0) = false := by simpa using hE
    have d2 : (eal != 0) = true := by simpa using hE
    have d3 : (al == 0) = true := by simpa using loss_zero Hal.out hE
    clear hE
    go_wp2
    go_ret
    exact ⟨by first | rfl | exact Wb.ret_bool d3, by (repeat' (first | (with_reducible assumption) | (with_reducible exact Wb.Ext.refl _) | (with_reducible refine Wb.Ext.drew ?_) | (with_reducible refine Wb.Ext.drewN ?_ _) | (with_reducible refine Wb.Ext.alloc ?_ _) | (with_reducible refine Wb.Ext.trans ?_ (by assumption))))⟩
  subst hE
  go_wp2_with fail
  go_fit (loss_any yr ix o (f, t) pay S M 0 0 hs hM _); rintro e w3 ⟨rfl, hb3⟩
  have hn3 : Wb.Ext w2 w3 := Wb.Ext.trans (by (repeat' (first | (with_reducible assumption) | (with_reducible exact Wb.Ext.refl _) | (with_reducible refine Wb.Ext.drew ?_) | (with_reducible refine Wb.Ext.drewN ?_ _) | (with_reducible refine Wb.Ext.alloc ?_ _) | (with_reducible refine Wb.Ext.trans ?_ (by assumption))))) hb3
  have hx3 : Wb.Ext w w3 := hx2.trans hn3
  have xp0 := hn3.keep xp0
  have xp1 := hn3.keep xp1
  have xp2 := hn3.keep xp2
  have xp3 := hn3.keep xp3
  have xp4 := hn3.keep xp4
  have xp5 := hn3.keep xp5
  have zxp := Wb.cell_size xp0
  clear hb3 hn3
  obtain ⟨⟨no, eno⟩, hno⟩ : ∃ q, lossR (f, t) S M 0 0 = q := ⟨_, rfl⟩
  have Hno := Lib.hid hno
  rw [hno]
  clear hno
  go_wp2_with fail
  go_fit (loss_any yr ix o (f, t) pay S M M 1000000 hs hM _); rintro e w4 ⟨rfl, hb4⟩
  have hn4 : Wb.Ext w3 w4 := Wb.Ext.trans (by (repeat' (first | (with_reducible assumption) | (with_reducible exact Wb.Ext.refl _) | (with_reducible refine Wb.Ext.drew ?_) | (with_reducible refine Wb.Ext.drewN ?_ _) | (with_reducible refine Wb.Ext.alloc ?_ _) | (with_reducible refine Wb.Ext.trans ?_ (by assumption))))) hb4
  have hx4 : Wb.Ext w w4 := hx3.trans hn4
  have xp0 := hn4.keep xp0
  have xp1 := hn4.keep xp1
  have xp2 := hn4.keep xp2
  have xp3 := hn4.keep xp3
  have xp4 := hn4.keep xp4
  have xp5 := hn4.keep xp5
  have zxp := Wb.cell_size xp0
  clear hb4 hn4
  obtain ⟨⟨fu, efu⟩, hfu⟩ : ∃ q, lossR (f, t) S M M 1000000 = q := ⟨_, rfl⟩
  have Hfu := Lib.hid hfu
  rw [hfu]
  clear hfu
  obtain ⟨k1, k2, k3, k4, k5⟩ := lost_base Hal.out Hno.out Hfu.out
  subst k1
  subst k2
  subst k3
  subst k4
  have HK : Hid (0 < M → al = S) := Lib.hid k5
  clear k5
  by_cases hpos : 0 < M
  · have e1 : decide (0 < M) = true := by simpa using hpos
    have e2 : S = al := (HK.out hpos).symm
    subst e2
    clear HK hpos
    go_wp2_with fail
    go_fit (loss_any yr ix o (f, t) pay S M l pd hs hM _); rintro e w5 ⟨rfl, hb5⟩
    have hn5 : Wb.Ext w4 w5 := Wb.Ext.trans (by (repeat' (first | (with_reducible assumption) | (with_reducible exact Wb.Ext.refl _) | (with_reducible refine Wb.Ext.drew ?_) | (with_reducible refine Wb.Ext.drewN ?_ _) | (with_reducible refine Wb.Ext.alloc ?_ _) | (with_reducible refine Wb.Ext.trans ?_ (by assumption))))) hb5
    have hx5 : Wb.Ext w w5 := hx4.trans hn5
    have xp0 := hn5.keep xp0
    have xp1 := hn5.keep xp1
    have xp2 := hn5.keep xp2
    have xp3 := hn5.keep xp3
    have xp4 := hn5.keep xp4
    have xp5 := hn5.keep xp5
    have zxp := Wb.cell_size xp0
    clear hb5 hn5
    obtain ⟨⟨x, ex⟩, hx⟩ : ∃ q, lossR (f, t) S M l pd = q := ⟨_, rfl⟩
    have Hx := Lib.hid hx
    rw [hx]
    clear hx
    go_wp2_with fail
    go_fit (loss_any yr ix o (f, t) pay S M O pd hs hM _); rintro e w6 ⟨rfl, hb6⟩
    have hn6 : Wb.Ext w5 w6 := Wb.Ext.trans (by (repeat' (first | (with_reducible assumption) | (with_reducible exact Wb.Ext.refl _) | (with_reducible refine Wb.Ext.drew ?_) | (with_reducible refine Wb.Ext.drewN ?_ _) | (with_reducible refine Wb.Ext.alloc ?_ _) | (with_reducible refine Wb.Ext.trans ?_ (by assumption))))) hb6
    have hx6 : Wb.Ext w w6 := hx5.trans hn6
    have xp0 := hn6.keep xp0
    have xp1 := hn6.keep xp1
    have xp2 := hn6.keep xp2
    have xp3 := hn6.keep xp3
    have xp4 := hn6.keep xp4
    have xp5 := hn6.keep xp5
    have zxp := Wb.cell_size xp0
    clear hb6 hn6
    obtain ⟨⟨y, ey⟩, hy⟩ : ∃ q, lossR (f, t) S M O pd = q := ⟨_, rfl⟩
    have Hy := Lib.hid hy
    rw [hy]
    clear hy
    go_wp2_with fail
    go_fit (loss_any yr ix o (f, t) pay S M l hg hs hM _); rintro e w7 ⟨rfl, hb7⟩
    have hn7 : Wb.Ext w6 w7 := Wb.Ext.trans (by (repeat' (first | (with_reducible assumption) | (with_reducible exact Wb.Ext.refl _) | (with_reducible refine Wb.Ext.drew ?_) | (with_reducible refine Wb.Ext.drewN ?_ _) | (with_reducible refine Wb.Ext.alloc ?_ _) | (with_reducible refine Wb.Ext.trans ?_ (by assumption))))) hb7
    have hx7 : Wb.Ext w w7 := hx6.trans hn7
    have xp0 := hn7.keep xp0
    have xp1 := hn7.keep xp1
    have xp2 := hn7.keep xp2
    have xp3 := hn7.keep xp3
    have xp4 := hn7.keep xp4
    have xp5 := hn7.keep xp5
    have zxp := Wb.cell_size xp0
    clear hb7 hn7
    obtain ⟨⟨z, ez⟩, hz⟩ : ∃ q, lossR (f, t) S M l hg = q := ⟨_, rfl⟩
    have Hz := Lib.hid hz
    rw [hz]
    clear hz
    by_cases hh : ex = 0
    case neg =>
      have d1 : (ex == 0) = false := by simpa using hh
      have d2 : (ex != 0) = true := by simpa using hh
      clear hh
      go_wp2
      go_ret
      exact ⟨rfl, by (repeat' (first | (with_reducible assumption) | (with_reducible exact Wb.Ext.refl _) | (with_reducible refine Wb.Ext.drew ?_) | (with_reducible refine Wb.Ext.drewN ?_ _) | (with_reducible refine Wb.Ext.alloc ?_ _) | (with_reducible refine Wb.Ext.trans ?_ (by assumption))))⟩
    subst hh
    by_cases hS : S < 0
    case pos =>
      have d1 : decide (S < 0) = true := by simpa using hS
      clear hS
      go_wp2
      go_ret
      exact ⟨rfl, by (repeat' (first | (with_reducible assumption) | (with_reducible exact Wb.Ext.refl _) | (with_reducible refine Wb.Ext.drew ?_) | (with_reducible refine Wb.Ext.drewN ?_ _) | (with_reducible refine Wb.Ext.alloc ?_ _) | (with_reducible refine Wb.Ext.trans ?_ (by assumption))))⟩
    obtain ⟨g1, g2, g3, g4⟩ := lost_all hS Hx.out Hy.out Hz.out
    have d0 : decide (S < 0) = false := by simpa using hS
    have q1 : decide (0 ≤ x) = true := by simpa using g1
    have q2 : decide (x ≤ S) = true := by simpa using g2
    clear hS g1 g2
    rcases g3 with ⟨i1, i2⟩ | ⟨rfl, i1 | ⟨i1, i2⟩⟩ <;> rcases g4 with ⟨j1, j2⟩ | ⟨rfl, j1 | ⟨j1, j2⟩⟩ <;> (go_wp2; go_ret; exact ⟨rfl, by (repeat' (first | (with_reducible assumption) | (with_reducible exact Wb.Ext.refl _) | (with_reducible refine Wb.Ext.drew ?_) | (with_reducible refine Wb.Ext.drewN ?_ _) | (with_reducible refine Wb.Ext.alloc ?_ _) | (with_reducible refine Wb.Ext.trans ?_ (by assumption))))⟩)
  · have e1 : decide (0 < M) = false := by simpa using hpos
    clear HK hpos
    go_wp2_with fail
    go_fit (loss_any yr ix o (f, t) pay S M l pd hs hM _); rintro e w5 ⟨rfl, hb5⟩
    have hn5 : Wb.Ext w4 w5 := Wb.Ext.trans (by (repeat' (first | (with_reducible assumption) | (with_reducible exact Wb.Ext.refl _) | (with_reducible refine Wb.Ext.drew ?_) | (with_reducible refine Wb.Ext.drewN ?_ _) | (with_reducible refine Wb.Ext.alloc ?_ _) | (with_reducible refine Wb.Ext.trans ?_ (by assumption))))) hb5
    have hx5 : Wb.Ext w w5 := hx4.trans hn5
    have xp0 := hn5.keep xp0
    have xp1 := hn5.keep xp1
    have xp2 := hn5.keep xp2
    have xp3 := hn5.keep xp3
    have xp4 := hn5.keep xp4
    have xp5 := hn5.keep xp5
    have zxp := Wb.cell_size xp0
    clear hb5 hn5
    obtain ⟨⟨x, ex⟩, hx⟩ : ∃ q, lossR (f, t) S M l pd = q := ⟨_, rfl⟩
    have Hx := Lib.hid hx
    rw [hx]
    clear hx
    go_wp2_with fail
    go_fit (loss_any yr ix o (f, t) pay S M O pd hs hM _); rintro e w6 ⟨rfl, hb6⟩
    have hn6 : Wb.Ext w5 w6 := Wb.Ext.trans (by (repeat' (first | (with_reducible assumption) | (with_reducible exact Wb.Ext.refl _) | (with_reducible refine Wb.Ext.drew ?_) | (with_reducible refine Wb.Ext.drewN ?_ _) | (with_reducible refine Wb.Ext.alloc ?_ _) | (with_reducible refine Wb.Ext.trans ?_ (by assumption))))) hb6
    have hx6 : Wb.Ext w w6 := hx5.trans hn6
    have xp0 := hn6.keep xp0
    have xp1 := hn6.keep xp1
    have xp2 := hn6.keep xp2
    have xp3 := hn6.keep xp3
    have xp4 := hn6.keep xp4
    have xp5 := hn6.keep xp5
    have zxp := Wb.cell_size xp0
    clear hb6 hn6
    obtain ⟨⟨y, ey⟩, hy⟩ : ∃ q, lossR (f, t) S M O pd = q := ⟨_, rfl⟩
    have Hy := Lib.hid hy
    rw [hy]
    clear hy
    go_wp2_with fail
    go_fit (loss_any yr ix o (f, t) pay S M l hg hs hM _); rintro e w7 ⟨rfl, hb7⟩
    have hn7 : Wb.Ext w6 w7 := Wb.Ext.trans (by (repeat' (first | (with_reducible assumption) | (with_reducible exact Wb.Ext.refl _) | (with_reducible refine Wb.Ext.drew ?_) | (with_reducible refine Wb.Ext.drewN ?_ _) | (with_reducible refine Wb.Ext.alloc ?_ _) | (with_reducible refine Wb.Ext.trans ?_ (by assumption))))) hb7
    have hx7 : Wb.Ext w w7 := hx6.trans hn7
    have xp0 := hn7.keep xp0
    have xp1 := hn7.keep xp1
    have xp2 := hn7.keep xp2
    have xp3 := hn7.keep xp3
    have xp4 := hn7.keep xp4
    have xp5 := hn7.keep xp5
    have zxp := Wb.cell_size xp0
    clear hb7 hn7
    obtain ⟨⟨z, ez⟩, hz⟩ : ∃ q, lossR (f, t) S M l hg = q := ⟨_, rfl⟩
    have Hz := Lib.hid hz
    rw [hz]
    clear hz
    by_cases hh : ex = 0
    case neg =>
      have d1 : (ex == 0) = false := by simpa using hh
      have d2 : (ex != 0) = true := by simpa using hh
      clear hh
      go_wp2
      go_ret
      exact ⟨rfl, by (repeat' (first | (with_reducible assumption) | (with_reducible exact Wb.Ext.refl _) | (with_reducible refine Wb.Ext.drew ?_) | (with_reducible refine Wb.Ext.drewN ?_ _) | (with_reducible refine Wb.Ext.alloc ?_ _) | (with_reducible refine Wb.Ext.trans ?_ (by assumption))))⟩
    subst hh
    by_cases hS : S < 0
    case pos =>
      have d1 : decide (S < 0) = true := by simpa using hS
      clear hS
      go_wp2
      go_ret
      exact ⟨rfl, by (repeat' (first | (with_reducible assumption) | (with_reducible exact Wb.Ext.refl _) | (with_reducible refine Wb.Ext.drew ?_) | (with_reducible refine Wb.Ext.drewN ?_ _) | (with_reducible refine Wb.Ext.alloc ?_ _) | (with_reducible refine Wb.Ext.trans ?_ (by assumption))))⟩
    obtain ⟨g1, g2, g3, g4⟩ := lost_all hS Hx.out Hy.out Hz.out
    have d0 : decide (S < 0) = false := by simpa using hS
    have q1 : decide (0 ≤ x) = true := by simpa using g1
    have q2 : decide (x ≤ S) = true := by simpa using g2
    clear hS g1 g2
    rcases g3 with ⟨i1, i2⟩ | ⟨rfl, i1 | ⟨i1, i2⟩⟩ <;> rcases g4 with ⟨j1, j2⟩ | ⟨rfl, j1 | ⟨j1, j2⟩⟩ <;> (go_wp2; go_ret; exact ⟨rfl, by (repeat' (first | (with_reducible assumption) | (with_reducible exact Wb.Ext.refl _) | (with_reducible refine Wb.Ext.drew ?_) | (with_reducible refine Wb.Ext.drewN ?_ _) | (with_reducible refine Wb.Ext.alloc ?_ _) | (with_reducible refine Wb.Ext.trans ?_ (by assumption))))⟩)

end Go.Proofs.Ytheofklbmknipaa
