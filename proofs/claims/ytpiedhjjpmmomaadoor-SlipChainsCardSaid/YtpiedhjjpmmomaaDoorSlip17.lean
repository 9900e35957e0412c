/- Chapter 27: SlipMerges, SlipChains. -/
import Derived.Test.YtpiedhjjpmmomaaDoorSlip16
import Derived.Test.YtpiedhjjpmmomaaDoorSlip11
import Derived.Test.YtpiedhjjpmmomaaDoorPlain27f
namespace Go.Proofs.YtpiedhjjpmmomaaDoor
open Go.RowKit
set_option maxRecDepth 4000

theorem merge_cases (y i y' i' : Int) (a b : List Wb.Ln) : (∃ e, e ≠ 0 ∧ Wb.merge y i a y' i' b = (e, 0, 0, [])) ∨ ∃ l, Wb.check y i a = 0 ∧ Wb.check y i b = 0 ∧ y' = y ∧ i' = i ∧ Wb.mergeL a b = some l ∧ l.length ≤ 448 ∧ Wb.merge y i a y' i' b = (0, y, i, l) := by
  unfold Wb.merge
  by_cases h1 : Wb.check y i a ≠ 0
  · rw [if_pos h1]; exact .inl ⟨_, h1, rfl⟩
  · rw [if_neg h1]
    by_cases h2 : Wb.check y' i' b ≠ 0
    · rw [if_pos h2]; exact .inl ⟨_, h2, rfl⟩
    · rw [if_neg h2]
      by_cases h3 : y ≠ y' ∨ i ≠ i'
      · rw [if_pos h3]; exact .inl ⟨_, by decide, rfl⟩
      · rw [if_neg h3]
        have hy : y' = y := by omega
        have hi : i' = i := by omega
        subst hy hi
        cases hm : Wb.mergeL a b with
        | none => exact .inl ⟨9, by decide, rfl⟩
        | some l =>
          by_cases h4 : 448 < l.length
          · exact .inl ⟨5, by decide, by simp only [if_pos h4]⟩
          · exact .inr ⟨l, by omega, by omega, rfl, rfl, rfl, by omega, by simp only [if_neg h4]⟩
theorem merge_sized {y i y' i' : Int} {a b : List Wb.Ln} (ha : Sized a) (hb : Sized b) : Sized (Wb.merge y i a y' i' b).2.2.2 := by
  rcases merge_cases y i y' i' a b with ⟨e, _, h⟩ | ⟨l, _, _, _, _, hm, hl, h⟩
  · rw [h]; simp [Sized]
  · rw [h]
    refine ⟨by simp only; omega, fun x hx => ?_⟩
    obtain ⟨z, hz, _, hc⟩ := Wb.mergeL_keys hm x hx
    rw [hc]
    exact hz.elim (ha.2 z) (hb.2 z)

set_option maxHeartbeats 2000000 in
theorem merges_walk (y i : Int) (u : Value) (l : List Wb.Ln) (y' i' : Int) (u' : Value) (l' : List Wb.Ln) (w : World) (hl : LnsC w u l) (hs : Sized l) (hl' : LnsC w u' l') (hs' : Sized l') (ht : Tab10 w) (hw : Words w) :
    Calls Tryd.prog 6 #[.agg #[.int .i64 y, .int .i64 i, u], .agg #[.int .i64 y', .int .i64 i', u']] w fun e w' => e = .returned (.bool true) ∧ Wb.Ext w w' := by
  have HL := Lib.hid hl.1
  have HC := Lib.hid hl.2
  have HL' := Lib.hid hl'.1
  have HC' := Lib.hid hl'.2
  have HMS := Lib.hid (merge_sized (y := y) (i := i) (y' := y') (i' := i') hs hs')
  have HS := Lib.hid hs
  have HS' := Lib.hid hs'
  have HW := Lib.hid hw
  have HTB := Lib.hid ht
  clear hl hs hl' hs' hw ht
  obtain ⟨M, hM⟩ : ∃ M, Wb.merge y i l y' i' l' = M := ⟨_, rfl⟩
  obtain ⟨mc, my, mi, ml⟩ := M
  have HM := Lib.hid hM; clear hM
  have HMS2 := Lib.hid (show Sized ml by have := HMS.out; rw [HM.out] at this; exact this)
  clear HMS
  go_enter Tryd.func6, Tryd.ntmps6
  go_wp2_with fail
  refine (small_any y i u l _ (HL.out.ext (by (repeat' (first | (with_reducible assumption) | (with_reducible exact Wb.Ext.refl _) | (with_reducible refine Wb.Ext.drew ?_) | (with_reducible refine Wb.Ext.drewN ?_ _) | (with_reducible refine Wb.Ext.alloc ?_ _) | (with_reducible refine Wb.Ext.trans ?_ (by assumption)))))) HS.out).mono ?_; rintro e w1 ⟨sm, rfl, hb1⟩
  have he1 : Wb.Ext w w1 := by (repeat' (first | (with_reducible assumption) | (with_reducible exact Wb.Ext.refl _) | (with_reducible refine Wb.Ext.drew ?_) | (with_reducible refine Wb.Ext.drewN ?_ _) | (with_reducible refine Wb.Ext.alloc ?_ _) | (with_reducible refine Wb.Ext.trans ?_ (by assumption))))
  have a0 : w1.cell? ⟨w.heap.size, 0, none⟩ = some (.int .i64 y) := hb1.keep (by simp [go_sem])
  have a1 : w1.cell? ⟨w.heap.size, 1, none⟩ = some (.int .i64 i) := hb1.keep (by simp [go_sem])
  have a2 : w1.cell? ⟨w.heap.size, 2, none⟩ = some u := hb1.keep (by simp [go_sem])
  have b0 : w1.cell? ⟨w.heap.size + 1, 0, none⟩ = some (.int .i64 y') := hb1.keep (by simp [go_sem])
  have b1 : w1.cell? ⟨w.heap.size + 1, 1, none⟩ = some (.int .i64 i') := hb1.keep (by simp [go_sem])
  have b2 : w1.cell? ⟨w.heap.size + 1, 2, none⟩ = some u' := hb1.keep (by simp [go_sem])
  clear hb1
  cases sm
  · go_wp2_with fail
    refine (awake27_any _ (HTB.out.ext he1) (HW.out.ext he1)).mono ?_; rintro e w2 ⟨rfl, hb2⟩
    go_wp2
    go_ret
    exact ⟨rfl, by (repeat' (first | (with_reducible assumption) | (with_reducible exact Wb.Ext.refl _) | (with_reducible refine Wb.Ext.drew ?_) | (with_reducible refine Wb.Ext.drewN ?_ _) | (with_reducible refine Wb.Ext.alloc ?_ _) | (with_reducible refine Wb.Ext.trans ?_ (by assumption))))⟩
  · go_wp2_with fail
    refine (small_any y' i' u' l' _ (HL'.out.ext (by (repeat' (first | (with_reducible assumption) | (with_reducible exact Wb.Ext.refl _) | (with_reducible refine Wb.Ext.drew ?_) | (with_reducible refine Wb.Ext.drewN ?_ _) | (with_reducible refine Wb.Ext.alloc ?_ _) | (with_reducible refine Wb.Ext.trans ?_ (by assumption)))))) HS'.out).mono ?_; rintro e w2 ⟨sm, rfl, hb2⟩
    have he2 : Wb.Ext w w2 := by (repeat' (first | (with_reducible assumption) | (with_reducible exact Wb.Ext.refl _) | (with_reducible refine Wb.Ext.drew ?_) | (with_reducible refine Wb.Ext.drewN ?_ _) | (with_reducible refine Wb.Ext.alloc ?_ _) | (with_reducible refine Wb.Ext.trans ?_ (by assumption))))
    have a0 := hb2.keep a0
    have a1 := hb2.keep a1
    have a2 := hb2.keep a2
    have b0 := hb2.keep b0
    have b1 := hb2.keep b1
    have b2 := hb2.keep b2
    clear hb2 he1
    cases sm
    · go_wp2_with fail
      refine (awake27_any _ (HTB.out.ext he2) (HW.out.ext he2)).mono ?_; rintro e w3 ⟨rfl, hb3⟩
      go_wp2
      go_ret
      exact ⟨rfl, by (repeat' (first | (with_reducible assumption) | (with_reducible exact Wb.Ext.refl _) | (with_reducible refine Wb.Ext.drew ?_) | (with_reducible refine Wb.Ext.drewN ?_ _) | (with_reducible refine Wb.Ext.alloc ?_ _) | (with_reducible refine Wb.Ext.trans ?_ (by assumption))))⟩
    · go_wp2_with fail
      refine (merge_any y i y' i' u u' l l' _ (HL.out.ext (by (repeat' (first | (with_reducible assumption) | (with_reducible exact Wb.Ext.refl _) | (with_reducible refine Wb.Ext.drew ?_) | (with_reducible refine Wb.Ext.drewN ?_ _) | (with_reducible refine Wb.Ext.alloc ?_ _) | (with_reducible refine Wb.Ext.trans ?_ (by assumption)))))) (HL'.out.ext (by (repeat' (first | (with_reducible assumption) | (with_reducible exact Wb.Ext.refl _) | (with_reducible refine Wb.Ext.drew ?_) | (with_reducible refine Wb.Ext.drewN ?_ _) | (with_reducible refine Wb.Ext.alloc ?_ _) | (with_reducible refine Wb.Ext.trans ?_ (by assumption)))))) HS.out HS'.out HC.out HC'.out).mono ?_; rintro e w3 ⟨m, rfl, hm, hb3⟩
      rw [HM.out] at hm ⊢
      simp only at hm
      obtain ⟨ma, mk, rfl⟩ := hm.1.shape
      have he3 : Wb.Ext w w3 := by (repeat' (first | (with_reducible assumption) | (with_reducible exact Wb.Ext.refl _) | (with_reducible refine Wb.Ext.drew ?_) | (with_reducible refine Wb.Ext.drewN ?_ _) | (with_reducible refine Wb.Ext.alloc ?_ _) | (with_reducible refine Wb.Ext.trans ?_ (by assumption))))
      have a0 := hb3.keep a0
      have a1 := hb3.keep a1
      have a2 := hb3.keep a2
      have b0 := hb3.keep b0
      have b1 := hb3.keep b1
      have b2 := hb3.keep b2
      have hz3 := Wb.cell_size b0
      have hz3' : w.heap.size < w3.heap.size := by omega
      clear hb3 he2
      have HM1 := Lib.hid hm; clear hm
      go_wp2_with fail
      refine (rmerge_any y i y' i' u u' l l' _ (HL.out.ext (by (repeat' (first | (with_reducible assumption) | (with_reducible exact Wb.Ext.refl _) | (with_reducible refine Wb.Ext.drew ?_) | (with_reducible refine Wb.Ext.drewN ?_ _) | (with_reducible refine Wb.Ext.alloc ?_ _) | (with_reducible refine Wb.Ext.trans ?_ (by assumption)))))) (HL'.out.ext (by (repeat' (first | (with_reducible assumption) | (with_reducible exact Wb.Ext.refl _) | (with_reducible refine Wb.Ext.drew ?_) | (with_reducible refine Wb.Ext.drewN ?_ _) | (with_reducible refine Wb.Ext.alloc ?_ _) | (with_reducible refine Wb.Ext.trans ?_ (by assumption)))))) HS.out HS'.out).mono ?_; rintro e w4 ⟨m2, rfl, hm2, hb4⟩
      rw [HM.out] at hm2 ⊢
      simp only at hm2
      obtain ⟨na, nk, rfl⟩ := hm2.shape
      have he4 : Wb.Ext w w4 := by (repeat' (first | (with_reducible assumption) | (with_reducible exact Wb.Ext.refl _) | (with_reducible refine Wb.Ext.drew ?_) | (with_reducible refine Wb.Ext.drewN ?_ _) | (with_reducible refine Wb.Ext.alloc ?_ _) | (with_reducible refine Wb.Ext.trans ?_ (by assumption))))
      have c0 : w4.cell? ⟨w3.heap.size, 0, none⟩ = some (.int .i64 my) := hb4.keep (by simp [go_sem])
      have c1 : w4.cell? ⟨w3.heap.size, 1, none⟩ = some (.int .i64 mi) := hb4.keep (by simp [go_sem])
      have c2 : w4.cell? ⟨w3.heap.size, 2, none⟩ = some (.slice ma ml.length mk) := hb4.keep (by simp [go_sem])
      have hz4 := Wb.cell_size c0
      have HM2 := Lib.hid (hm2.ext ((Wb.Ext.refl _).alloc (.cells #[.int .i64 my, .int .i64 mi, .slice na ml.length nk] 24)))
      have HM3 := Lib.hid (HM1.out.1.ext ((((Wb.Ext.refl w3).alloc _).trans hb4).alloc _) : Lns (w4.alloc (.cells #[.int .i64 my, .int .i64 mi, .slice na ml.length nk] 24)) (.slice ma ml.length mk) ml)
      clear hb4 hm2 a0 a1 a2 b0 b1 b2 he3 HM1
      go_wp2_with fail
      refine (awake27_any _ (HTB.out.ext (by (repeat' (first | (with_reducible assumption) | (with_reducible exact Wb.Ext.refl _) | (with_reducible refine Wb.Ext.drew ?_) | (with_reducible refine Wb.Ext.drewN ?_ _) | (with_reducible refine Wb.Ext.alloc ?_ _) | (with_reducible refine Wb.Ext.trans ?_ (by assumption)))))) (HW.out.ext (by (repeat' (first | (with_reducible assumption) | (with_reducible exact Wb.Ext.refl _) | (with_reducible refine Wb.Ext.drew ?_) | (with_reducible refine Wb.Ext.drewN ?_ _) | (with_reducible refine Wb.Ext.alloc ?_ _) | (with_reducible refine Wb.Ext.trans ?_ (by assumption))))))).mono ?_; rintro e w5 ⟨rfl, hb5⟩
      have he5 : Wb.Ext w w5 := by (repeat' (first | (with_reducible assumption) | (with_reducible exact Wb.Ext.refl _) | (with_reducible refine Wb.Ext.drew ?_) | (with_reducible refine Wb.Ext.drewN ?_ _) | (with_reducible refine Wb.Ext.alloc ?_ _) | (with_reducible refine Wb.Ext.trans ?_ (by assumption))))
      have d0 : w5.cell? ⟨w4.heap.size, 0, none⟩ = some (.int .i64 my) := hb5.keep (by simp [go_sem])
      have d1 : w5.cell? ⟨w4.heap.size, 1, none⟩ = some (.int .i64 mi) := hb5.keep (by simp [go_sem])
      have d2 : w5.cell? ⟨w4.heap.size, 2, none⟩ = some (.slice na ml.length nk) := hb5.keep (by simp [go_sem])
      have c0 := hb5.keep (((Wb.Ext.refl _).alloc _).keep c0)
      have c1 := hb5.keep (((Wb.Ext.refl _).alloc _).keep c1)
      have c2 := hb5.keep (((Wb.Ext.refl _).alloc _).keep c2)
      have HM4 := Lib.hid (HM3.out.ext hb5)
      have HM5 := Lib.hid (HM2.out.ext hb5)
      clear hb5 he4 HM3 HM2
      go_wp2_with fail
      refine (same_eq my mi _ _ ml _ HM4.out HM5.out HMS2.out).mono ?_; rintro e w6 ⟨rfl, hb6⟩
      go_wp2
      go_ret
      exact ⟨rfl, by (repeat' (first | (with_reducible assumption) | (with_reducible exact Wb.Ext.refl _) | (with_reducible refine Wb.Ext.drew ?_) | (with_reducible refine Wb.Ext.drewN ?_ _) | (with_reducible refine Wb.Ext.alloc ?_ _) | (with_reducible refine Wb.Ext.trans ?_ (by assumption))))⟩

end Go.Proofs.YtpiedhjjpmmomaaDoor
