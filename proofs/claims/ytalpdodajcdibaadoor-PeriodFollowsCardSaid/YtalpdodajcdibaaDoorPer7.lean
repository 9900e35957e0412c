/- The walks of package period: Count, Less. -/
import Derived.Test.YtalpdodajcdibaaDoorPer6
namespace Go.Proofs.YtalpdodajcdibaaDoor
open Go.RowKit
set_option maxRecDepth 4000

theorem hasB_is {c : Wb.Cal} {p : Wb.Per} (h : hasB c p = true) : Wb.calErr c = 0 ∧ Wb.FindIs c p.from_ p := by
  simp only [hasB, Bool.and_eq_true, decide_eq_true_eq] at h
  obtain ⟨h1, h2⟩ := h
  by_cases hc : Wb.calErr c = 0
  · refine ⟨hc, ?_⟩
    rw [findErr, if_pos hc] at h1
    rw [findPer, if_pos hc] at h2
    split at h1
    · omega
    · cases hf : Wb.findOf c p.from_ with
      | none => rw [hf] at h1; simp at h1
      | some q => rw [hf] at h2; simp at h2; subst h2; exact Wb.findOf_is hf
  · rw [findErr, if_neg hc] at h1; exact absurd h1 hc
theorem is_range {c : Wb.Cal} {d : Int} {p : Wb.Per} (hc : Wb.calErr c = 0) (h : Wb.FindIs c d p) : -25567 ≤ d ∧ d < 84006 ∧ p.from_ ≤ d ∧ d < p.to_ ∧ p.to_ ≤ 84006 ∧ -25567 ≤ p.from_ ∧ 1900 ≤ p.year ∧ p.year ≤ 2199 ∧ 1 ≤ p.index ∧ p.index ≤ 366 := by
  obtain ⟨y, i, s, h0, h1, h2, rfl⟩ := h
  have hl := h0.last hc
  have hi := (List.getElem?_eq_some_iff.1 h0.2.2).1
  have hn := Wb.spans_len c y
  have hy1 := h0.1
  have hy2 := h0.2.1
  simp only [Wb.perOf]
  omega
theorem findErr_is {c : Wb.Cal} {d : Int} {p : Wb.Per} (hc : Wb.calErr c = 0) (h : Wb.FindIs c d p) : findErr c d = 0 ∧ findPer c d = p := by
  have hr := is_range hc h
  have hf := Wb.findOf_some hc h
  exact ⟨by rw [findErr, if_pos hc, if_neg (by omega), hf], by rw [findPer, if_pos hc, hf]; rfl⟩
theorem is_hasB {c : Wb.Cal} {p : Wb.Per} (hc : Wb.calErr c = 0) (h : Wb.FindIs c p.from_ p) : hasB c p = true := by
  obtain ⟨h1, h2⟩ := findErr_is hc h
  simp [hasB, h1, h2]
theorem is_aligned {c : Wb.Cal} {d : Int} {p : Wb.Per} (hc : Wb.calErr c = 0) (hk : 0 < c.kind) (h : Wb.FindIs c d p) : p.to_ = p.from_ + 14 * c.kind ∧ (p.from_ - c.first) % (14 * c.kind) = 0 := by
  obtain ⟨y, i, s, h0, h1, h2, rfl⟩ := h
  rcases h0.kind hc with ⟨h, _⟩ | ⟨_, e, _, _, _, ha⟩
  · omega
  · exact ⟨e, ha⟩
theorem diff_exact {n a b f : Int} (ha : (a - f) % n = 0) (hb : (b - f) % n = 0) : (b - a) / n * n = b - a := by
  have : (b - a) % n = 0 := by
    rw [show b - a = (b - f) - (a - f) by omega, Int.sub_emod, ha, hb]; simp
  have := Int.mul_ediv_add_emod (b - a) n
  rw [Int.mul_comm] at this; omega
/-- what Count returns -/
noncomputable def countOf (c : Wb.Cal) (f t : Wb.Per) : Int :=
  if hasB c f = true ∧ hasB c t = true then if c.kind = 0 then 12 * (t.year - f.year) + t.index - f.index else (t.from_ - f.from_) / (14 * c.kind) else 0

set_option maxHeartbeats 1000000 in
theorem count_any (c : Wb.Cal) (f t : Wb.Per) (w : World) (hw : LenC w) (hp : LenP w) :
    Calls Tryd.prog 21 #[CalV c, PerV f, PerV t] w fun e w' => e = .returned (.int .i64 (countOf c f t)) ∧ Wb.Ext w w' := by
  have HW := Lib.hid hw
  have HP := Lib.hid hp
  clear hw hp
  cases hf : hasB c f
  · have H := Lib.hid (show countOf c f t = 0 by rw [countOf, if_neg (by simp [hf])])
    have HF := Lib.hid hf
    clear hf
    go_enter Tryd.func21, Tryd.ntmps21
    go_wp2_with fail
    refine (has_any c f _ (HW.out.ext (by (repeat' (first | (with_reducible assumption) | (with_reducible exact Wb.Ext.refl _) | (with_reducible refine Wb.Ext.drew ?_) | (with_reducible refine Wb.Ext.drewN ?_ _) | (with_reducible refine Wb.Ext.alloc ?_ _) | (with_reducible refine Wb.Ext.trans ?_ (by assumption)))))) (HP.out.ext (by (repeat' (first | (with_reducible assumption) | (with_reducible exact Wb.Ext.refl _) | (with_reducible refine Wb.Ext.drew ?_) | (with_reducible refine Wb.Ext.drewN ?_ _) | (with_reducible refine Wb.Ext.alloc ?_ _) | (with_reducible refine Wb.Ext.trans ?_ (by assumption))))))).mono ?_; rintro e w1 ⟨rfl, hb1⟩
    rw [HF.out]
    go_wp2
    go_ret
    exact ⟨Wb.ret_int H.out.symm, by (repeat' (first | (with_reducible assumption) | (with_reducible exact Wb.Ext.refl _) | (with_reducible refine Wb.Ext.drew ?_) | (with_reducible refine Wb.Ext.drewN ?_ _) | (with_reducible refine Wb.Ext.alloc ?_ _) | (with_reducible refine Wb.Ext.trans ?_ (by assumption))))⟩
  cases ht : hasB c t
  · have H := Lib.hid (show countOf c f t = 0 by rw [countOf, if_neg (by simp [ht])])
    have HF := Lib.hid hf
    have HT := Lib.hid ht
    clear hf ht
    go_enter Tryd.func21, Tryd.ntmps21
    go_wp2_with fail
    refine (has_any c f _ (HW.out.ext (by (repeat' (first | (with_reducible assumption) | (with_reducible exact Wb.Ext.refl _) | (with_reducible refine Wb.Ext.drew ?_) | (with_reducible refine Wb.Ext.drewN ?_ _) | (with_reducible refine Wb.Ext.alloc ?_ _) | (with_reducible refine Wb.Ext.trans ?_ (by assumption)))))) (HP.out.ext (by (repeat' (first | (with_reducible assumption) | (with_reducible exact Wb.Ext.refl _) | (with_reducible refine Wb.Ext.drew ?_) | (with_reducible refine Wb.Ext.drewN ?_ _) | (with_reducible refine Wb.Ext.alloc ?_ _) | (with_reducible refine Wb.Ext.trans ?_ (by assumption))))))).mono ?_; rintro e w1 ⟨rfl, hb1⟩
    rw [HF.out]
    have HC := Lib.hid (CalB.new (c := c) (T := 24) (w1 := w1) (W := w) (Wb.Ext.trans (by (repeat' (first | (with_reducible assumption) | (with_reducible exact Wb.Ext.refl _) | (with_reducible refine Wb.Ext.drew ?_) | (with_reducible refine Wb.Ext.drewN ?_ _) | (with_reducible refine Wb.Ext.alloc ?_ _) | (with_reducible refine Wb.Ext.trans ?_ (by assumption))))) hb1) rfl)
    have HPT := Lib.hid (PerB.new (p := t) (T := 28) (w1 := w1) (n := w.heap.size + 1 + 1) hb1 (by simp))
    have he1 : Wb.Ext w w1 := by (repeat' (first | (with_reducible assumption) | (with_reducible exact Wb.Ext.refl _) | (with_reducible refine Wb.Ext.drew ?_) | (with_reducible refine Wb.Ext.drewN ?_ _) | (with_reducible refine Wb.Ext.alloc ?_ _) | (with_reducible refine Wb.Ext.trans ?_ (by assumption))))
    clear hb1
    obtain ⟨k0, k1, k2⟩ := HC.out
    obtain ⟨g0, g1, g2, g3, g4, g5⟩ := HPT.out
    go_wp2_with fail
    refine (has_any c t _ (HW.out.ext (by (repeat' (first | (with_reducible assumption) | (with_reducible exact Wb.Ext.refl _) | (with_reducible refine Wb.Ext.drew ?_) | (with_reducible refine Wb.Ext.drewN ?_ _) | (with_reducible refine Wb.Ext.alloc ?_ _) | (with_reducible refine Wb.Ext.trans ?_ (by assumption)))))) (HP.out.ext (by (repeat' (first | (with_reducible assumption) | (with_reducible exact Wb.Ext.refl _) | (with_reducible refine Wb.Ext.drew ?_) | (with_reducible refine Wb.Ext.drewN ?_ _) | (with_reducible refine Wb.Ext.alloc ?_ _) | (with_reducible refine Wb.Ext.trans ?_ (by assumption))))))).mono ?_; rintro e w2 ⟨rfl, hb2⟩
    rw [HT.out]
    go_wp2
    go_ret
    exact ⟨Wb.ret_int H.out.symm, by (repeat' (first | (with_reducible assumption) | (with_reducible exact Wb.Ext.refl _) | (with_reducible refine Wb.Ext.drew ?_) | (with_reducible refine Wb.Ext.drewN ?_ _) | (with_reducible refine Wb.Ext.alloc ?_ _) | (with_reducible refine Wb.Ext.trans ?_ (by assumption))))⟩
  obtain ⟨hc, hfi⟩ := hasB_is hf
  obtain ⟨_, hti⟩ := hasB_is ht
  obtain ⟨fr1, fr2, fr3, fr4, fr5, fr6, fr7, fr8, fr9, fr10⟩ := is_range hc hfi
  obtain ⟨tr1, tr2, tr3, tr4, tr5, tr6, tr7, tr8, tr9, tr10⟩ := is_range hc hti
  obtain ⟨c1, c2, c3, c4, c5, c6⟩ := Wb.calErr_ok hc
  have HF := Lib.hid hf
  have HT := Lib.hid ht
  have HCE := Lib.hid hc
  have HFI := Lib.hid hfi
  have HTI := Lib.hid hti
  clear hf ht hc hfi hti
  obtain ⟨kd, fd, lg⟩ := c
  simp only at c1 c2 c3 c4 c5 c6
  have hk : kd = 0 ∨ kd = 1 ∨ kd = 2 := by omega
  clear c3 c4 c5 c6
  go_enter Tryd.func21, Tryd.ntmps21
  go_wp2_with fail
  refine (has_any ⟨kd, fd, lg⟩ f _ (HW.out.ext (by (repeat' (first | (with_reducible assumption) | (with_reducible exact Wb.Ext.refl _) | (with_reducible refine Wb.Ext.drew ?_) | (with_reducible refine Wb.Ext.drewN ?_ _) | (with_reducible refine Wb.Ext.alloc ?_ _) | (with_reducible refine Wb.Ext.trans ?_ (by assumption)))))) (HP.out.ext (by (repeat' (first | (with_reducible assumption) | (with_reducible exact Wb.Ext.refl _) | (with_reducible refine Wb.Ext.drew ?_) | (with_reducible refine Wb.Ext.drewN ?_ _) | (with_reducible refine Wb.Ext.alloc ?_ _) | (with_reducible refine Wb.Ext.trans ?_ (by assumption))))))).mono ?_; rintro e w1 ⟨rfl, hb1⟩
  rw [HF.out]
  have HC := Lib.hid (CalB.new (c := ⟨kd, fd, lg⟩) (T := 24) (w1 := w1) (W := w) (Wb.Ext.trans (by (repeat' (first | (with_reducible assumption) | (with_reducible exact Wb.Ext.refl _) | (with_reducible refine Wb.Ext.drew ?_) | (with_reducible refine Wb.Ext.drewN ?_ _) | (with_reducible refine Wb.Ext.alloc ?_ _) | (with_reducible refine Wb.Ext.trans ?_ (by assumption))))) hb1) rfl)
  have HPF := Lib.hid (PerB.new (p := f) (T := 28) (w1 := w1) (W := w.alloc (.cells #[.int .i64 kd, .int .i64 fd, .int .i64 lg] 24)) (n := w.heap.size + 1) (Wb.Ext.trans (by (repeat' (first | (with_reducible assumption) | (with_reducible exact Wb.Ext.refl _) | (with_reducible refine Wb.Ext.drew ?_) | (with_reducible refine Wb.Ext.drewN ?_ _) | (with_reducible refine Wb.Ext.alloc ?_ _) | (with_reducible refine Wb.Ext.trans ?_ (by assumption))))) hb1) (by simp))
  have HPT := Lib.hid (PerB.new (p := t) (T := 28) (w1 := w1) (n := w.heap.size + 1 + 1) hb1 (by simp))
  have he1 : Wb.Ext w w1 := by (repeat' (first | (with_reducible assumption) | (with_reducible exact Wb.Ext.refl _) | (with_reducible refine Wb.Ext.drew ?_) | (with_reducible refine Wb.Ext.drewN ?_ _) | (with_reducible refine Wb.Ext.alloc ?_ _) | (with_reducible refine Wb.Ext.trans ?_ (by assumption))))
  clear hb1
  obtain ⟨k0, k1, k2⟩ := HC.out
  obtain ⟨g0, g1, g2, g3, g4, g5⟩ := HPT.out
  simp only at k0 k1 k2
  go_wp2_with fail
  refine (has_any ⟨kd, fd, lg⟩ t _ (HW.out.ext (by (repeat' (first | (with_reducible assumption) | (with_reducible exact Wb.Ext.refl _) | (with_reducible refine Wb.Ext.drew ?_) | (with_reducible refine Wb.Ext.drewN ?_ _) | (with_reducible refine Wb.Ext.alloc ?_ _) | (with_reducible refine Wb.Ext.trans ?_ (by assumption)))))) (HP.out.ext (by (repeat' (first | (with_reducible assumption) | (with_reducible exact Wb.Ext.refl _) | (with_reducible refine Wb.Ext.drew ?_) | (with_reducible refine Wb.Ext.drewN ?_ _) | (with_reducible refine Wb.Ext.alloc ?_ _) | (with_reducible refine Wb.Ext.trans ?_ (by assumption))))))).mono ?_; rintro e w2 ⟨rfl, hb2⟩
  rw [HT.out]
  have HC2 := Lib.hid (HC.out.ext hb2)
  have HPF2 := Lib.hid (HPF.out.ext hb2)
  have HPT2 := Lib.hid (HPT.out.ext hb2)
  have he2 : Wb.Ext w w2 := by (repeat' (first | (with_reducible assumption) | (with_reducible exact Wb.Ext.refl _) | (with_reducible refine Wb.Ext.drew ?_) | (with_reducible refine Wb.Ext.drewN ?_ _) | (with_reducible refine Wb.Ext.alloc ?_ _) | (with_reducible refine Wb.Ext.trans ?_ (by assumption))))
  clear hb2 k0 k1 k2 g0 g1 g2 g3 g4 g5
  obtain ⟨k0, k1, k2⟩ := HC2.out
  obtain ⟨g0, g1, g2, g3, g4, g5⟩ := HPT2.out
  obtain ⟨f0, f1, f2, f3, f4, f5⟩ := HPF2.out
  simp only at k0 k1 k2
  have HLP := Lib.hid (HP.out.ext he2)
  rcases hk with rfl | rfl | rfl
  · go_wp2
    go_ret
    exact ⟨Wb.ret_int (by rw [countOf, if_pos ⟨HF.out, HT.out⟩, if_pos rfl]), he2⟩
  · have hl := HLP.out.1
    have ha := diff_exact (is_aligned HCE.out (show (0 : Int) < 1 by decide) HFI.out).2 (is_aligned HCE.out (show (0 : Int) < 1 by decide) HTI.out).2
    simp only at ha
    obtain ⟨m, hm⟩ : ∃ m, (t.from_ - f.from_) / (14 * 1) = m := ⟨_, rfl⟩
    rw [hm] at ha
    have HM := Lib.hid hm
    have m1 : -200000 ≤ m := by omega
    have m2 : m ≤ 200000 := by omega
    have e1 : IntKind.i64.wrap (t.from_ - f.from_) = m * 14 := by rw [IntWalk.i64_in _ (by omega)]; omega
    have e2 : IntKind.i64.wrap ((m * 14).tdiv 14) = m := by rw [Int.mul_tdiv_cancel _ (by decide), IntWalk.i64_in _ (by omega)]
    have e3 : (m * 14).tdiv 14 = m := Int.mul_tdiv_cancel _ (by decide)
    clear hm ha
    go_wp2_with fail
    go_quiet (fail)
    go_wp2
    go_ret
    exact ⟨Wb.ret_int (by rw [countOf, if_pos ⟨HF.out, HT.out⟩, if_neg (by simp)]; exact HM.out.symm), by (repeat' (first | (with_reducible assumption) | (with_reducible exact Wb.Ext.refl _) | (with_reducible refine Wb.Ext.drew ?_) | (with_reducible refine Wb.Ext.drewN ?_ _) | (with_reducible refine Wb.Ext.alloc ?_ _) | (with_reducible refine Wb.Ext.trans ?_ (by assumption))))⟩
  · have hl := HLP.out.2
    have ha := diff_exact (is_aligned HCE.out (show (0 : Int) < 2 by decide) HFI.out).2 (is_aligned HCE.out (show (0 : Int) < 2 by decide) HTI.out).2
    simp only at ha
    obtain ⟨m, hm⟩ : ∃ m, (t.from_ - f.from_) / (14 * 2) = m := ⟨_, rfl⟩
    rw [hm] at ha
    have HM := Lib.hid hm
    have m1 : -200000 ≤ m := by omega
    have m2 : m ≤ 200000 := by omega
    have e1 : IntKind.i64.wrap (t.from_ - f.from_) = m * 28 := by rw [IntWalk.i64_in _ (by omega)]; omega
    have e2 : IntKind.i64.wrap ((m * 28).tdiv 28) = m := by rw [Int.mul_tdiv_cancel _ (by decide), IntWalk.i64_in _ (by omega)]
    have e3 : (m * 28).tdiv 28 = m := Int.mul_tdiv_cancel _ (by decide)
    clear hm ha
    go_wp2_with fail
    go_quiet (fail)
    go_wp2
    go_ret
    exact ⟨Wb.ret_int (by rw [countOf, if_pos ⟨HF.out, HT.out⟩, if_neg (by simp)]; exact HM.out.symm), by (repeat' (first | (with_reducible assumption) | (with_reducible exact Wb.Ext.refl _) | (with_reducible refine Wb.Ext.drew ?_) | (with_reducible refine Wb.Ext.drewN ?_ _) | (with_reducible refine Wb.Ext.alloc ?_ _) | (with_reducible refine Wb.Ext.trans ?_ (by assumption))))⟩

/-- which of two periods is ahead -/
def lessB (a b : Wb.Per) : Bool := decide (a.year < b.year) || (a.year == b.year) && decide (a.index < b.index)
theorem less_any (a b : Wb.Per) (w : World) :
    Calls Tryd.prog 15 #[PerV a, PerV b] w fun e w' => e = .returned (.bool (lessB a b)) ∧ Wb.Ext w w' := by
  by_cases h1 : a.year < b.year
  · have H := Lib.hid (show lessB a b = true by simp [lessB, h1])
    go_enter Tryd.func15, Tryd.ntmps15
    go_wp2
    go_ret
    exact ⟨Wb.ret_bool H.out.symm, by (repeat' (first | (with_reducible assumption) | (with_reducible exact Wb.Ext.refl _) | (with_reducible refine Wb.Ext.drew ?_) | (with_reducible refine Wb.Ext.drewN ?_ _) | (with_reducible refine Wb.Ext.alloc ?_ _) | (with_reducible refine Wb.Ext.trans ?_ (by assumption))))⟩
  · have d1 : decide (a.year < b.year) = false := by simpa using h1
    cases h2 : (a.year == b.year)
    · have H := Lib.hid (show lessB a b = false by simp only [lessB, h2, d1]; rfl)
      go_enter Tryd.func15, Tryd.ntmps15
      go_wp2
      go_ret
      exact ⟨Wb.ret_bool H.out.symm, by (repeat' (first | (with_reducible assumption) | (with_reducible exact Wb.Ext.refl _) | (with_reducible refine Wb.Ext.drew ?_) | (with_reducible refine Wb.Ext.drewN ?_ _) | (with_reducible refine Wb.Ext.alloc ?_ _) | (with_reducible refine Wb.Ext.trans ?_ (by assumption))))⟩
    · have H := Lib.hid (show lessB a b = decide (a.index < b.index) by simp only [lessB, h2, d1]; rfl)
      go_enter Tryd.func15, Tryd.ntmps15
      go_wp2
      go_ret
      exact ⟨Wb.ret_bool H.out.symm, by (repeat' (first | (with_reducible assumption) | (with_reducible exact Wb.Ext.refl _) | (with_reducible refine Wb.Ext.drew ?_) | (with_reducible refine Wb.Ext.drewN ?_ _) | (with_reducible refine Wb.Ext.alloc ?_ _) | (with_reducible refine Wb.Ext.trans ?_ (by assumption))))⟩

end Go.Proofs.YtalpdodajcdibaaDoor
