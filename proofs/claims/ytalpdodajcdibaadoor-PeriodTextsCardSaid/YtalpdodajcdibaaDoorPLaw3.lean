/- Chapter 6: PeriodTexts: the walk. -/
import Derived.Test.YtalpdodajcdibaaDoorPLaw0
namespace Go.Proofs.YtalpdodajcdibaaDoor
open Go.RowKit
set_option maxRecDepth 4000

def OkN (z : Int) : Prop := -1125899906842624 ≤ z ∧ z ≤ 1125899906842624
def fourL (p q : Wb.Per) : List Int := [p.year, p.index, q.year, q.index]

set_option maxHeartbeats 4000000 in
theorem texts_walk (p q : Wb.Per) (w : World) (hw : LenC w) (hp : LenP w) (ht : Tab10 w) :
    Calls Tryd.prog 4 #[PerV p, PerV q] w fun e w' => e = .returned (.bool true) ∧ Wb.Ext w w' := by
  have HW := Lib.hid hw
  have HP := Lib.hid hp
  have HT := Lib.hid ht
  clear hw hp ht
  go_enter Tryd.func4, Tryd.ntmps4
  go_wp2_with fail
  refine Wb.wp_at fun w1 hw1 => ?_
  have hb1 : Wb.Ext (((w.alloc (.cells #[.int .i64 p.year, .int .i64 p.index, .int .i64 p.of, .int .i64 p.from_, .int .i64 p.to_, .int .i64 p.pay] 28)).alloc (.cells #[.int .i64 q.year, .int .i64 q.index, .int .i64 q.of, .int .i64 q.from_, .int .i64 q.to_, .int .i64 q.pay] 28)).alloc (.cells #[.int .i64 p.year, .int .i64 p.index, .int .i64 q.year, .int .i64 q.index] 3)) w1 := by rw [hw1]; exact Wb.Ext.refl _
  clear hw1
  obtain ⟨a0, a1, a2, a3, a4, a5⟩ := PerB.new (p := p) (T := 28) (w1 := w1) (W := w) (Wb.Ext.trans (by (repeat' (first | (with_reducible assumption) | (with_reducible exact Wb.Ext.refl _) | (with_reducible refine Wb.Ext.drew ?_) | (with_reducible refine Wb.Ext.drewN ?_ _) | (with_reducible refine Wb.Ext.alloc ?_ _) | (with_reducible refine Wb.Ext.trans ?_ (by assumption))))) hb1) rfl
  obtain ⟨b0, b1, b2, b3, b4, b5⟩ := PerB.new (p := q) (T := 28) (w1 := w1) (W := w.alloc (.cells #[.int .i64 p.year, .int .i64 p.index, .int .i64 p.of, .int .i64 p.from_, .int .i64 p.to_, .int .i64 p.pay] 28)) (n := w.heap.size + 1) (Wb.Ext.trans (by (repeat' (first | (with_reducible assumption) | (with_reducible exact Wb.Ext.refl _) | (with_reducible refine Wb.Ext.drew ?_) | (with_reducible refine Wb.Ext.drewN ?_ _) | (with_reducible refine Wb.Ext.alloc ?_ _) | (with_reducible refine Wb.Ext.trans ?_ (by assumption))))) hb1) (by simp)
  have he1 : Wb.Ext w w1 := by (repeat' (first | (with_reducible assumption) | (with_reducible exact Wb.Ext.refl _) | (with_reducible refine Wb.Ext.drew ?_) | (with_reducible refine Wb.Ext.drewN ?_ _) | (with_reducible refine Wb.Ext.alloc ?_ _) | (with_reducible refine Wb.Ext.trans ?_ (by assumption))))
  have HL : Hid (∀ j v, (fourL p q)[j]? = some v → w1.cell? ⟨w.heap.size + 1 + 1, j, none⟩ = some (.int .i64 v)) := by
    intro j v hj
    match j, hj with
    | 0, hj => simp [fourL] at hj; subst hj; exact hb1.keep (by simp [go_sem])
    | 1, hj => simp [fourL] at hj; subst hj; exact hb1.keep (by simp [go_sem])
    | 2, hj => simp [fourL] at hj; subst hj; exact hb1.keep (by simp [go_sem])
    | 3, hj => simp [fourL] at hj; subst hj; exact hb1.keep (by simp [go_sem])
    | j + 4, hj => simp [fourL] at hj
  clear hb1
  go_loop [18] (fun iv => ∃ k : Nat, k ≤ 4 ∧ iv = .int .i64 k ∧ (∀ j v, j < k → (fourL p q)[j]? = some v → OkN v)) (fun iv => (10 - intOf iv).toNat)
  case atStart => exact ⟨0, by omega, rfl, fun j v hj => absurd hj (Nat.not_lt_zero _)⟩
  case round =>
    obtain ⟨k, hk, rfl, hok⟩ := hrel
    have HOK := Lib.hid hok; clear hok
    by_cases hlt : k < 4
    · obtain ⟨z, hz⟩ := Wb.get_ex (l := fourL p q) (k := k) (by simpa [fourL] using hlt)
      have hcz := HL.out k z hz
      have HZ := Lib.hid hz
      have hki : (k : Int) < 4 := by omega
      clear hz
      by_cases h0 : z < -1125899906842624
      · go_wp2_with fail
        refine (awake06_any _ (HW.out.ext (by (repeat' (first | (with_reducible assumption) | (with_reducible exact Wb.Ext.refl _) | (with_reducible refine Wb.Ext.drew ?_) | (with_reducible refine Wb.Ext.drewN ?_ _) | (with_reducible refine Wb.Ext.alloc ?_ _) | (with_reducible refine Wb.Ext.trans ?_ (by assumption)))))) (HP.out.ext (by (repeat' (first | (with_reducible assumption) | (with_reducible exact Wb.Ext.refl _) | (with_reducible refine Wb.Ext.drew ?_) | (with_reducible refine Wb.Ext.drewN ?_ _) | (with_reducible refine Wb.Ext.alloc ?_ _) | (with_reducible refine Wb.Ext.trans ?_ (by assumption)))))) (HT.out.ext (by (repeat' (first | (with_reducible assumption) | (with_reducible exact Wb.Ext.refl _) | (with_reducible refine Wb.Ext.drew ?_) | (with_reducible refine Wb.Ext.drewN ?_ _) | (with_reducible refine Wb.Ext.alloc ?_ _) | (with_reducible refine Wb.Ext.trans ?_ (by assumption))))))).mono ?_; rintro e w2 ⟨rfl, hb2⟩
        go_wp2
        go_ret
        exact ⟨rfl, by (repeat' (first | (with_reducible assumption) | (with_reducible exact Wb.Ext.refl _) | (with_reducible refine Wb.Ext.drew ?_) | (with_reducible refine Wb.Ext.drewN ?_ _) | (with_reducible refine Wb.Ext.alloc ?_ _) | (with_reducible refine Wb.Ext.trans ?_ (by assumption))))⟩
      · have d0 : decide (z < -1125899906842624) = false := by simpa using h0
        by_cases h1 : 1125899906842624 < z
        · go_wp2_with fail
          refine (awake06_any _ (HW.out.ext (by (repeat' (first | (with_reducible assumption) | (with_reducible exact Wb.Ext.refl _) | (with_reducible refine Wb.Ext.drew ?_) | (with_reducible refine Wb.Ext.drewN ?_ _) | (with_reducible refine Wb.Ext.alloc ?_ _) | (with_reducible refine Wb.Ext.trans ?_ (by assumption)))))) (HP.out.ext (by (repeat' (first | (with_reducible assumption) | (with_reducible exact Wb.Ext.refl _) | (with_reducible refine Wb.Ext.drew ?_) | (with_reducible refine Wb.Ext.drewN ?_ _) | (with_reducible refine Wb.Ext.alloc ?_ _) | (with_reducible refine Wb.Ext.trans ?_ (by assumption)))))) (HT.out.ext (by (repeat' (first | (with_reducible assumption) | (with_reducible exact Wb.Ext.refl _) | (with_reducible refine Wb.Ext.drew ?_) | (with_reducible refine Wb.Ext.drewN ?_ _) | (with_reducible refine Wb.Ext.alloc ?_ _) | (with_reducible refine Wb.Ext.trans ?_ (by assumption))))))).mono ?_; rintro e w2 ⟨rfl, hb2⟩
          go_wp2
          go_ret
          exact ⟨rfl, by (repeat' (first | (with_reducible assumption) | (with_reducible exact Wb.Ext.refl _) | (with_reducible refine Wb.Ext.drew ?_) | (with_reducible refine Wb.Ext.drewN ?_ _) | (with_reducible refine Wb.Ext.alloc ?_ _) | (with_reducible refine Wb.Ext.trans ?_ (by assumption))))⟩
        · have d1 : decide (1125899906842624 < z) = false := by simpa using h1
          have HN := Lib.hid (show ∀ j v, j < k + 1 → (fourL p q)[j]? = some v → OkN v from fun j v hj hv => by
            rcases Nat.lt_succ_iff_lt_or_eq.1 hj with a | rfl
            · exact HOK.out j v a hv
            · rw [HZ.out] at hv; cases hv; exact ⟨by omega, by omega⟩)
          go_wp2
          go_round
          case rel => exact ⟨k + 1, by omega, by go_num, HN.out⟩
          case measure => simp [intOf]; omega
    · have h1 : -1125899906842624 ≤ p.year ∧ p.year ≤ 1125899906842624 := HOK.out 0 _ (by omega) rfl
      have h2 : -1125899906842624 ≤ p.index ∧ p.index ≤ 1125899906842624 := HOK.out 1 _ (by omega) rfl
      obtain ⟨pt, hpt⟩ : ∃ t, ptext p.year p.index = t := ⟨_, rfl⟩
      have HPT := Lib.hid hpt
      clear hpt HL
      by_cases c1 : p.year < q.year
      · have H := Lib.hid (show lessB p q = true by simp [lessB, c1])
        go_wp2_with fail
        go_region_held3 (fun w' => w'.cell? ⟨w.heap.size, 0, none⟩ = some (.int .i64 p.year) ∧ w'.cell? ⟨w.heap.size, 1, none⟩ = some (.int .i64 p.index) ∧ w'.cell? ⟨w.heap.size, 2, none⟩ = some (.int .i64 p.of) ∧ w'.cell? ⟨w.heap.size, 3, none⟩ = some (.int .i64 p.from_) ∧ w'.cell? ⟨w.heap.size, 4, none⟩ = some (.int .i64 p.to_) ∧ w'.cell? ⟨w.heap.size, 5, none⟩ = some (.int .i64 p.pay) ∧ w'.cell? ⟨w.heap.size + 1, 0, none⟩ = some (.int .i64 q.year) ∧ w'.cell? ⟨w.heap.size + 1, 1, none⟩ = some (.int .i64 q.index) ∧ w'.cell? ⟨w.heap.size + 1, 2, none⟩ = some (.int .i64 q.of) ∧ w'.cell? ⟨w.heap.size + 1, 3, none⟩ = some (.int .i64 q.from_) ∧ w'.cell? ⟨w.heap.size + 1, 4, none⟩ = some (.int .i64 q.to_) ∧ w'.cell? ⟨w.heap.size + 1, 5, none⟩ = some (.int .i64 q.pay)) (first | with_reducible assumption | (obtain ⟨j0, j1, j2, j3, j4, j5, j6, j7, j8, j9, j10, j11⟩ := ‹_ ∧ _ ∧ _ ∧ _ ∧ _ ∧ _ ∧ _ ∧ _ ∧ _ ∧ _ ∧ _ ∧ _›; exact ⟨hb.keep j0, hb.keep j1, hb.keep j2, hb.keep j3, hb.keep j4, hb.keep j5, hb.keep j6, hb.keep j7, hb.keep j8, hb.keep j9, hb.keep j10, hb.keep j11⟩) | exact ⟨a0, a1, a2, a3, a4, a5, b0, b1, b2, b3, b4, b5⟩ | go_keep) (first | (go_at_call 12; go_fit (awake06_any _ (HW.out.ext (by (repeat' (first | (with_reducible assumption) | (with_reducible exact Wb.Ext.refl _) | (with_reducible refine Wb.Ext.drew ?_) | (with_reducible refine Wb.Ext.drewN ?_ _) | (with_reducible refine Wb.Ext.alloc ?_ _) | (with_reducible refine Wb.Ext.trans ?_ (by assumption)))))) (HP.out.ext (by (repeat' (first | (with_reducible assumption) | (with_reducible exact Wb.Ext.refl _) | (with_reducible refine Wb.Ext.drew ?_) | (with_reducible refine Wb.Ext.drewN ?_ _) | (with_reducible refine Wb.Ext.alloc ?_ _) | (with_reducible refine Wb.Ext.trans ?_ (by assumption)))))) (HT.out.ext (by (repeat' (first | (with_reducible assumption) | (with_reducible exact Wb.Ext.refl _) | (with_reducible refine Wb.Ext.drew ?_) | (with_reducible refine Wb.Ext.drewN ?_ _) | (with_reducible refine Wb.Ext.alloc ?_ _) | (with_reducible refine Wb.Ext.trans ?_ (by assumption))))))); rintro e w' ⟨rfl, hb⟩) | (go_at_call 13; go_fit (ptext_any p.year p.index p.of p.from_ p.to_ p.pay h1 h2 _ (HT.out.ext (by (repeat' (first | (with_reducible assumption) | (with_reducible exact Wb.Ext.refl _) | (with_reducible refine Wb.Ext.drew ?_) | (with_reducible refine Wb.Ext.drewN ?_ _) | (with_reducible refine Wb.Ext.alloc ?_ _) | (with_reducible refine Wb.Ext.trans ?_ (by assumption))))))); rintro e w' ⟨rfl, hb⟩; rw [HPT.out]) | (go_at_call 14; go_fit (rptext_any p.year p.index p.of p.from_ p.to_ p.pay h1 h2 _); rintro e w' ⟨rfl, hb⟩; rw [HPT.out]) | (go_at_call 15; go_fit (less_any p q _); rintro e w' ⟨rfl, hb⟩; rw [H.out]))
        all_goals
          go_wp2
          go_ret
          exact ⟨rfl, by (repeat' (first | (with_reducible assumption) | (with_reducible exact Wb.Ext.refl _) | (with_reducible refine Wb.Ext.drew ?_) | (with_reducible refine Wb.Ext.drewN ?_ _) | (with_reducible refine Wb.Ext.alloc ?_ _) | (with_reducible refine Wb.Ext.trans ?_ (by assumption))))⟩
      have d1 : decide (p.year < q.year) = false := by simpa using c1
      cases c2 : (p.year == q.year)
      · have H := Lib.hid (show lessB p q = false by simp only [lessB, c2, d1]; rfl)
        go_wp2_with fail
        go_region_held3 (fun w' => w'.cell? ⟨w.heap.size, 0, none⟩ = some (.int .i64 p.year) ∧ w'.cell? ⟨w.heap.size, 1, none⟩ = some (.int .i64 p.index) ∧ w'.cell? ⟨w.heap.size, 2, none⟩ = some (.int .i64 p.of) ∧ w'.cell? ⟨w.heap.size, 3, none⟩ = some (.int .i64 p.from_) ∧ w'.cell? ⟨w.heap.size, 4, none⟩ = some (.int .i64 p.to_) ∧ w'.cell? ⟨w.heap.size, 5, none⟩ = some (.int .i64 p.pay) ∧ w'.cell? ⟨w.heap.size + 1, 0, none⟩ = some (.int .i64 q.year) ∧ w'.cell? ⟨w.heap.size + 1, 1, none⟩ = some (.int .i64 q.index) ∧ w'.cell? ⟨w.heap.size + 1, 2, none⟩ = some (.int .i64 q.of) ∧ w'.cell? ⟨w.heap.size + 1, 3, none⟩ = some (.int .i64 q.from_) ∧ w'.cell? ⟨w.heap.size + 1, 4, none⟩ = some (.int .i64 q.to_) ∧ w'.cell? ⟨w.heap.size + 1, 5, none⟩ = some (.int .i64 q.pay)) (first | with_reducible assumption | (obtain ⟨j0, j1, j2, j3, j4, j5, j6, j7, j8, j9, j10, j11⟩ := ‹_ ∧ _ ∧ _ ∧ _ ∧ _ ∧ _ ∧ _ ∧ _ ∧ _ ∧ _ ∧ _ ∧ _›; exact ⟨hb.keep j0, hb.keep j1, hb.keep j2, hb.keep j3, hb.keep j4, hb.keep j5, hb.keep j6, hb.keep j7, hb.keep j8, hb.keep j9, hb.keep j10, hb.keep j11⟩) | exact ⟨a0, a1, a2, a3, a4, a5, b0, b1, b2, b3, b4, b5⟩ | go_keep) (first | (go_at_call 12; go_fit (awake06_any _ (HW.out.ext (by (repeat' (first | (with_reducible assumption) | (with_reducible exact Wb.Ext.refl _) | (with_reducible refine Wb.Ext.drew ?_) | (with_reducible refine Wb.Ext.drewN ?_ _) | (with_reducible refine Wb.Ext.alloc ?_ _) | (with_reducible refine Wb.Ext.trans ?_ (by assumption)))))) (HP.out.ext (by (repeat' (first | (with_reducible assumption) | (with_reducible exact Wb.Ext.refl _) | (with_reducible refine Wb.Ext.drew ?_) | (with_reducible refine Wb.Ext.drewN ?_ _) | (with_reducible refine Wb.Ext.alloc ?_ _) | (with_reducible refine Wb.Ext.trans ?_ (by assumption)))))) (HT.out.ext (by (repeat' (first | (with_reducible assumption) | (with_reducible exact Wb.Ext.refl _) | (with_reducible refine Wb.Ext.drew ?_) | (with_reducible refine Wb.Ext.drewN ?_ _) | (with_reducible refine Wb.Ext.alloc ?_ _) | (with_reducible refine Wb.Ext.trans ?_ (by assumption))))))); rintro e w' ⟨rfl, hb⟩) | (go_at_call 13; go_fit (ptext_any p.year p.index p.of p.from_ p.to_ p.pay h1 h2 _ (HT.out.ext (by (repeat' (first | (with_reducible assumption) | (with_reducible exact Wb.Ext.refl _) | (with_reducible refine Wb.Ext.drew ?_) | (with_reducible refine Wb.Ext.drewN ?_ _) | (with_reducible refine Wb.Ext.alloc ?_ _) | (with_reducible refine Wb.Ext.trans ?_ (by assumption))))))); rintro e w' ⟨rfl, hb⟩; rw [HPT.out]) | (go_at_call 14; go_fit (rptext_any p.year p.index p.of p.from_ p.to_ p.pay h1 h2 _); rintro e w' ⟨rfl, hb⟩; rw [HPT.out]) | (go_at_call 15; go_fit (less_any p q _); rintro e w' ⟨rfl, hb⟩; rw [H.out]))
        all_goals
          go_wp2
          go_ret
          exact ⟨rfl, by (repeat' (first | (with_reducible assumption) | (with_reducible exact Wb.Ext.refl _) | (with_reducible refine Wb.Ext.drew ?_) | (with_reducible refine Wb.Ext.drewN ?_ _) | (with_reducible refine Wb.Ext.alloc ?_ _) | (with_reducible refine Wb.Ext.trans ?_ (by assumption))))⟩
      by_cases c3 : p.index < q.index
      · have H := Lib.hid (show lessB p q = true by simp [lessB, c2, c3])
        go_wp2_with fail
        go_region_held3 (fun w' => w'.cell? ⟨w.heap.size, 0, none⟩ = some (.int .i64 p.year) ∧ w'.cell? ⟨w.heap.size, 1, none⟩ = some (.int .i64 p.index) ∧ w'.cell? ⟨w.heap.size, 2, none⟩ = some (.int .i64 p.of) ∧ w'.cell? ⟨w.heap.size, 3, none⟩ = some (.int .i64 p.from_) ∧ w'.cell? ⟨w.heap.size, 4, none⟩ = some (.int .i64 p.to_) ∧ w'.cell? ⟨w.heap.size, 5, none⟩ = some (.int .i64 p.pay) ∧ w'.cell? ⟨w.heap.size + 1, 0, none⟩ = some (.int .i64 q.year) ∧ w'.cell? ⟨w.heap.size + 1, 1, none⟩ = some (.int .i64 q.index) ∧ w'.cell? ⟨w.heap.size + 1, 2, none⟩ = some (.int .i64 q.of) ∧ w'.cell? ⟨w.heap.size + 1, 3, none⟩ = some (.int .i64 q.from_) ∧ w'.cell? ⟨w.heap.size + 1, 4, none⟩ = some (.int .i64 q.to_) ∧ w'.cell? ⟨w.heap.size + 1, 5, none⟩ = some (.int .i64 q.pay)) (first | with_reducible assumption | (obtain ⟨j0, j1, j2, j3, j4, j5, j6, j7, j8, j9, j10, j11⟩ := ‹_ ∧ _ ∧ _ ∧ _ ∧ _ ∧ _ ∧ _ ∧ _ ∧ _ ∧ _ ∧ _ ∧ _›; exact ⟨hb.keep j0, hb.keep j1, hb.keep j2, hb.keep j3, hb.keep j4, hb.keep j5, hb.keep j6, hb.keep j7, hb.keep j8, hb.keep j9, hb.keep j10, hb.keep j11⟩) | exact ⟨a0, a1, a2, a3, a4, a5, b0, b1, b2, b3, b4, b5⟩ | go_keep) (first | (go_at_call 12; go_fit (awake06_any _ (HW.out.ext (by (repeat' (first | (with_reducible assumption) | (with_reducible exact Wb.Ext.refl _) | (with_reducible refine Wb.Ext.drew ?_) | (with_reducible refine Wb.Ext.drewN ?_ _) | (with_reducible refine Wb.Ext.alloc ?_ _) | (with_reducible refine Wb.Ext.trans ?_ (by assumption)))))) (HP.out.ext (by (repeat' (first | (with_reducible assumption) | (with_reducible exact Wb.Ext.refl _) | (with_reducible refine Wb.Ext.drew ?_) | (with_reducible refine Wb.Ext.drewN ?_ _) | (with_reducible refine Wb.Ext.alloc ?_ _) | (with_reducible refine Wb.Ext.trans ?_ (by assumption)))))) (HT.out.ext (by (repeat' (first | (with_reducible assumption) | (with_reducible exact Wb.Ext.refl _) | (with_reducible refine Wb.Ext.drew ?_) | (with_reducible refine Wb.Ext.drewN ?_ _) | (with_reducible refine Wb.Ext.alloc ?_ _) | (with_reducible refine Wb.Ext.trans ?_ (by assumption))))))); rintro e w' ⟨rfl, hb⟩) | (go_at_call 13; go_fit (ptext_any p.year p.index p.of p.from_ p.to_ p.pay h1 h2 _ (HT.out.ext (by (repeat' (first | (with_reducible assumption) | (with_reducible exact Wb.Ext.refl _) | (with_reducible refine Wb.Ext.drew ?_) | (with_reducible refine Wb.Ext.drewN ?_ _) | (with_reducible refine Wb.Ext.alloc ?_ _) | (with_reducible refine Wb.Ext.trans ?_ (by assumption))))))); rintro e w' ⟨rfl, hb⟩; rw [HPT.out]) | (go_at_call 14; go_fit (rptext_any p.year p.index p.of p.from_ p.to_ p.pay h1 h2 _); rintro e w' ⟨rfl, hb⟩; rw [HPT.out]) | (go_at_call 15; go_fit (less_any p q _); rintro e w' ⟨rfl, hb⟩; rw [H.out]))
        all_goals
          go_wp2
          go_ret
          exact ⟨rfl, by (repeat' (first | (with_reducible assumption) | (with_reducible exact Wb.Ext.refl _) | (with_reducible refine Wb.Ext.drew ?_) | (with_reducible refine Wb.Ext.drewN ?_ _) | (with_reducible refine Wb.Ext.alloc ?_ _) | (with_reducible refine Wb.Ext.trans ?_ (by assumption))))⟩
      · have d3 : decide (p.index < q.index) = false := by simpa using c3
        have H := Lib.hid (show lessB p q = false by simp only [lessB, d1, d3]; simp)
        go_wp2_with fail
        go_region_held3 (fun w' => w'.cell? ⟨w.heap.size, 0, none⟩ = some (.int .i64 p.year) ∧ w'.cell? ⟨w.heap.size, 1, none⟩ = some (.int .i64 p.index) ∧ w'.cell? ⟨w.heap.size, 2, none⟩ = some (.int .i64 p.of) ∧ w'.cell? ⟨w.heap.size, 3, none⟩ = some (.int .i64 p.from_) ∧ w'.cell? ⟨w.heap.size, 4, none⟩ = some (.int .i64 p.to_) ∧ w'.cell? ⟨w.heap.size, 5, none⟩ = some (.int .i64 p.pay) ∧ w'.cell? ⟨w.heap.size + 1, 0, none⟩ = some (.int .i64 q.year) ∧ w'.cell? ⟨w.heap.size + 1, 1, none⟩ = some (.int .i64 q.index) ∧ w'.cell? ⟨w.heap.size + 1, 2, none⟩ = some (.int .i64 q.of) ∧ w'.cell? ⟨w.heap.size + 1, 3, none⟩ = some (.int .i64 q.from_) ∧ w'.cell? ⟨w.heap.size + 1, 4, none⟩ = some (.int .i64 q.to_) ∧ w'.cell? ⟨w.heap.size + 1, 5, none⟩ = some (.int .i64 q.pay)) (first | with_reducible assumption | (obtain ⟨j0, j1, j2, j3, j4, j5, j6, j7, j8, j9, j10, j11⟩ := ‹_ ∧ _ ∧ _ ∧ _ ∧ _ ∧ _ ∧ _ ∧ _ ∧ _ ∧ _ ∧ _ ∧ _›; exact ⟨hb.keep j0, hb.keep j1, hb.keep j2, hb.keep j3, hb.keep j4, hb.keep j5, hb.keep j6, hb.keep j7, hb.keep j8, hb.keep j9, hb.keep j10, hb.keep j11⟩) | exact ⟨a0, a1, a2, a3, a4, a5, b0, b1, b2, b3, b4, b5⟩ | go_keep) (first | (go_at_call 12; go_fit (awake06_any _ (HW.out.ext (by (repeat' (first | (with_reducible assumption) | (with_reducible exact Wb.Ext.refl _) | (with_reducible refine Wb.Ext.drew ?_) | (with_reducible refine Wb.Ext.drewN ?_ _) | (with_reducible refine Wb.Ext.alloc ?_ _) | (with_reducible refine Wb.Ext.trans ?_ (by assumption)))))) (HP.out.ext (by (repeat' (first | (with_reducible assumption) | (with_reducible exact Wb.Ext.refl _) | (with_reducible refine Wb.Ext.drew ?_) | (with_reducible refine Wb.Ext.drewN ?_ _) | (with_reducible refine Wb.Ext.alloc ?_ _) | (with_reducible refine Wb.Ext.trans ?_ (by assumption)))))) (HT.out.ext (by (repeat' (first | (with_reducible assumption) | (with_reducible exact Wb.Ext.refl _) | (with_reducible refine Wb.Ext.drew ?_) | (with_reducible refine Wb.Ext.drewN ?_ _) | (with_reducible refine Wb.Ext.alloc ?_ _) | (with_reducible refine Wb.Ext.trans ?_ (by assumption))))))); rintro e w' ⟨rfl, hb⟩) | (go_at_call 13; go_fit (ptext_any p.year p.index p.of p.from_ p.to_ p.pay h1 h2 _ (HT.out.ext (by (repeat' (first | (with_reducible assumption) | (with_reducible exact Wb.Ext.refl _) | (with_reducible refine Wb.Ext.drew ?_) | (with_reducible refine Wb.Ext.drewN ?_ _) | (with_reducible refine Wb.Ext.alloc ?_ _) | (with_reducible refine Wb.Ext.trans ?_ (by assumption))))))); rintro e w' ⟨rfl, hb⟩; rw [HPT.out]) | (go_at_call 14; go_fit (rptext_any p.year p.index p.of p.from_ p.to_ p.pay h1 h2 _); rintro e w' ⟨rfl, hb⟩; rw [HPT.out]) | (go_at_call 15; go_fit (less_any p q _); rintro e w' ⟨rfl, hb⟩; rw [H.out]))
        all_goals
          go_wp2
          go_ret
          exact ⟨rfl, by (repeat' (first | (with_reducible assumption) | (with_reducible exact Wb.Ext.refl _) | (with_reducible refine Wb.Ext.drew ?_) | (with_reducible refine Wb.Ext.drewN ?_ _) | (with_reducible refine Wb.Ext.alloc ?_ _) | (with_reducible refine Wb.Ext.trans ?_ (by assumption))))⟩
end Go.Proofs.YtalpdodajcdibaaDoor
