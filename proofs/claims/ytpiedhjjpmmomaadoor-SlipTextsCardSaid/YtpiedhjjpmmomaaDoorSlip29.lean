/- Chapter 27: SlipTexts. -/
import Derived.Test.YtpiedhjjpmmomaaDoorSlip26
import Derived.Test.YtpiedhjjpmmomaaDoorSlip27
import Derived.Test.YtpiedhjjpmmomaaDoorSlip22
import Derived.Test.YtpiedhjjpmmomaaDoorSlip11
import Derived.Test.YtpiedhjjpmmomaaDoorSlip14
namespace Go.Proofs.YtpiedhjjpmmomaaDoor
open Go.RowKit
set_option maxRecDepth 4000

theorem linesText_len : ∀ {l : List Wb.Ln}, (∀ x ∈ l, Wb.lineErr x = 0) → (linesText l).length ≤ 96 * l.length
  | [], _ => by simp [linesText]
  | x :: r, h => by
    have h1 := lineText_len (h x (by simp))
    have h2 := linesText_len (l := r) fun z hz => h z (by simp [hz])
    simp only [linesText, List.flatMap_cons, List.length_append, List.length_cons] at h2 ⊢
    omega
theorem slText_len (y i : Int) (l : List Wb.Ln) : (slText y i l).length ≤ 100000 := by
  unfold slText
  split
  · simp
  · rename_i h
    have h0 : Wb.check y i l = 0 := by simpa using h
    obtain ⟨h1, h2, h3, h4, hn, _, hl⟩ := Wb.check_ok h0
    have a1 := ptext_len y i (by omega) (by omega)
    have a2 := linesText_len hl
    simp; omega

set_option maxHeartbeats 2000000 in
theorem texts_walk27 (y i : Int) (u : Value) (l : List Wb.Ln) (p : Int) (w : World) (hl : Lns w u l) (hs : Sized l) (ht : Tab10 w) (hw : Words w) (hm : MaxL w) :
    Calls Tryd.prog 9 #[.agg #[.int .i64 y, .int .i64 i, u], .int .i64 p] w fun e w' => e = .returned (.bool true) ∧ Wb.Ext w w' := by
  have HL := Lib.hid hl
  have HS := Lib.hid hs
  have HW := Lib.hid hw
  have HTB := Lib.hid ht
  have HMX := Lib.hid hm
  clear hl hs hw ht hm
  obtain ⟨ua, uc, rfl⟩ := HL.out.shape
  obtain ⟨T, hT⟩ : ∃ T, slText y i l = T := ⟨_, rfl⟩
  have HTL := Lib.hid (show T.length ≤ 100000 by rw [← hT]; exact slText_len y i l)
  have HT := Lib.hid hT
  obtain ⟨V, hV⟩ : ∃ V, whyText y i l p = V := ⟨_, rfl⟩
  have HV := Lib.hid hV
  clear hT hV
  go_enter Tryd.func9, Tryd.ntmps9
  go_wp2_with fail
  refine (small_any y i _ l _ (HL.out.ext (by (repeat' (first | (with_reducible assumption) | (with_reducible exact Wb.Ext.refl _) | (with_reducible refine Wb.Ext.drew ?_) | (with_reducible refine Wb.Ext.drewN ?_ _) | (with_reducible refine Wb.Ext.alloc ?_ _) | (with_reducible refine Wb.Ext.trans ?_ (by assumption)))))) HS.out).mono ?_; rintro e w1 ⟨sm, rfl, hb1⟩
  have he1 : Wb.Ext w w1 := by (repeat' (first | (with_reducible assumption) | (with_reducible exact Wb.Ext.refl _) | (with_reducible refine Wb.Ext.drew ?_) | (with_reducible refine Wb.Ext.drewN ?_ _) | (with_reducible refine Wb.Ext.alloc ?_ _) | (with_reducible refine Wb.Ext.trans ?_ (by assumption))))
  obtain ⟨a0, a1, a2⟩ := box3 _ _ _ _ _ hb1
  clear hb1
  cases sm
  · go_wp2_with fail
    refine (awake27_any _ (HTB.out.ext he1) (HW.out.ext he1)).mono ?_; rintro e w2 ⟨rfl, hb2⟩
    go_wp2
    go_ret
    exact ⟨rfl, by (repeat' (first | (with_reducible assumption) | (with_reducible exact Wb.Ext.refl _) | (with_reducible refine Wb.Ext.drew ?_) | (with_reducible refine Wb.Ext.drewN ?_ _) | (with_reducible refine Wb.Ext.alloc ?_ _) | (with_reducible refine Wb.Ext.trans ?_ (by assumption))))⟩
  go_wp2_with fail
  refine (stext_any y i _ l _ (HL.out.ext he1) HS.out (HTB.out.ext he1) (HW.out.ext he1)).mono ?_; rintro e w2 ⟨rfl, hb2⟩
  rw [HT.out]
  have he2 : Wb.Ext w w2 := he1.trans hb2
  have a0 := hb2.keep a0
  have a1 := hb2.keep a1
  have a2 := hb2.keep a2
  clear hb2 he1
  have htt : (T == T) = true := by simp
  have hvv : (V == V) = true := by simp
  go_wp2_with fail
  go_region_held3 (fun w' => w'.cell? ⟨w.heap.size, 0, none⟩ = some (.int .i64 y) ∧ w'.cell? ⟨w.heap.size, 1, none⟩ = some (.int .i64 i) ∧ w'.cell? ⟨w.heap.size, 2, none⟩ = some (.slice ua l.length uc)) (first | exact ⟨a0, a1, a2⟩ | assumption | (obtain ⟨k0, k1, k2⟩ := ‹_ ∧ _ ∧ _›; exact ⟨hb.keep k0, hb.keep k1, hb.keep k2⟩)) (first | (go_at_call 26; go_fit (rtext27_any y i _ l _ (HL.out.ext (by (repeat' (first | (with_reducible assumption) | (with_reducible exact Wb.Ext.refl _) | (with_reducible refine Wb.Ext.drew ?_) | (with_reducible refine Wb.Ext.drewN ?_ _) | (with_reducible refine Wb.Ext.alloc ?_ _) | (with_reducible refine Wb.Ext.trans ?_ (by assumption)))))) HS.out); rintro e w' ⟨rfl, hb⟩; rw [HT.out]) | (go_at_call 19; go_fit (why_any y i _ l p _ (HL.out.ext (by (repeat' (first | (with_reducible assumption) | (with_reducible exact Wb.Ext.refl _) | (with_reducible refine Wb.Ext.drew ?_) | (with_reducible refine Wb.Ext.drewN ?_ _) | (with_reducible refine Wb.Ext.alloc ?_ _) | (with_reducible refine Wb.Ext.trans ?_ (by assumption)))))) HS.out); rintro e w' ⟨rfl, hb⟩; rw [HV.out]) | (go_at_call 27; go_fit (rwhy_any y i _ l p _ (HL.out.ext (by (repeat' (first | (with_reducible assumption) | (with_reducible exact Wb.Ext.refl _) | (with_reducible refine Wb.Ext.drew ?_) | (with_reducible refine Wb.Ext.drewN ?_ _) | (with_reducible refine Wb.Ext.alloc ?_ _) | (with_reducible refine Wb.Ext.trans ?_ (by assumption)))))) HS.out); rintro e w' ⟨rfl, hb⟩; rw [HV.out]))
  all_goals
    have he3 : Wb.Ext w w' := by (repeat' (first | (with_reducible assumption) | (with_reducible exact Wb.Ext.refl _) | (with_reducible refine Wb.Ext.drew ?_) | (with_reducible refine Wb.Ext.drewN ?_ _) | (with_reducible refine Wb.Ext.alloc ?_ _) | (with_reducible refine Wb.Ext.trans ?_ (by assumption))))
    have hk : w'.cell? ⟨w.heap.size, 0, none⟩ = some (.int .i64 y) ∧ w'.cell? ⟨w.heap.size, 1, none⟩ = some (.int .i64 i) ∧ w'.cell? ⟨w.heap.size, 2, none⟩ = some (.slice ua l.length uc) := by assumption
    obtain ⟨a0, a1, a2⟩ := hk
    have hz3 := Wb.cell_size a0
    obtain ⟨P, hP⟩ : ∃ P, Wb.parseS T = P := ⟨_, rfl⟩
    obtain ⟨c, py, pi, pl⟩ := P
    have HP := Lib.hid hP
    clear hP
    go_wp2_with fail
    refine (parse27_any T (by have := HTL.out; omega) _ (HMX.out.ext (by (repeat' (first | (with_reducible assumption) | (with_reducible exact Wb.Ext.refl _) | (with_reducible refine Wb.Ext.drew ?_) | (with_reducible refine Wb.Ext.drewN ?_ _) | (with_reducible refine Wb.Ext.alloc ?_ _) | (with_reducible refine Wb.Ext.trans ?_ (by assumption)))))) (HW.out.ext (by (repeat' (first | (with_reducible assumption) | (with_reducible exact Wb.Ext.refl _) | (with_reducible refine Wb.Ext.drew ?_) | (with_reducible refine Wb.Ext.drewN ?_ _) | (with_reducible refine Wb.Ext.alloc ?_ _) | (with_reducible refine Wb.Ext.trans ?_ (by assumption))))))).mono ?_; rintro e w4 ⟨m, rfl, hm, hb4⟩
    rw [HP.out] at hm ⊢
    simp only at hm
    obtain ⟨ma, mk, rfl⟩ := hm.1.shape
    have HM := Lib.hid hm.1
    have he4 : Wb.Ext w w4 := he3.trans (by (repeat' (first | (with_reducible assumption) | (with_reducible exact Wb.Ext.refl _) | (with_reducible refine Wb.Ext.drew ?_) | (with_reducible refine Wb.Ext.drewN ?_ _) | (with_reducible refine Wb.Ext.alloc ?_ _) | (with_reducible refine Wb.Ext.trans ?_ (by assumption)))))
    have hb34 : Wb.Ext w' w4 := by (repeat' (first | (with_reducible assumption) | (with_reducible exact Wb.Ext.refl _) | (with_reducible refine Wb.Ext.drew ?_) | (with_reducible refine Wb.Ext.drewN ?_ _) | (with_reducible refine Wb.Ext.alloc ?_ _) | (with_reducible refine Wb.Ext.trans ?_ (by assumption))))
    have a0 := hb34.keep a0
    have a1 := hb34.keep a1
    have a2 := hb34.keep a2
    have hz4 := Wb.cell_size a0
    clear hb4 hb34 hm hz3
    cases hck : (Wb.check y i l != 0)
    · have HK := Lib.hid (show Wb.check y i l = 0 by simpa using hck)
      have hpe : (c, py, pi, pl) = (0, y, i, l) := by rw [← HP.out, ← HT.out]; exact Wb.parse_slText HK.out
      simp only [Prod.mk.injEq] at hpe
      obtain ⟨rfl, rfl, rfl, rfl⟩ := hpe
      clear hck
      go_wp2_with fail
      refine (rcheck_any py pi _ pl _ (HL.out.ext (by (repeat' (first | (with_reducible assumption) | (with_reducible exact Wb.Ext.refl _) | (with_reducible refine Wb.Ext.drew ?_) | (with_reducible refine Wb.Ext.drewN ?_ _) | (with_reducible refine Wb.Ext.alloc ?_ _) | (with_reducible refine Wb.Ext.trans ?_ (by assumption)))))) HS.out).mono ?_; rintro e w5 ⟨rfl, hb5⟩
      rw [HK.out]
      have he5 : Wb.Ext w w5 := by (repeat' (first | (with_reducible assumption) | (with_reducible exact Wb.Ext.refl _) | (with_reducible refine Wb.Ext.drew ?_) | (with_reducible refine Wb.Ext.drewN ?_ _) | (with_reducible refine Wb.Ext.alloc ?_ _) | (with_reducible refine Wb.Ext.trans ?_ (by assumption))))
      have hb45 : Wb.Ext w4 w5 := ((Wb.Ext.refl _).alloc _).trans hb5
      have a0 := hb45.keep a0
      have a1 := hb45.keep a1
      have a2 := hb45.keep a2
      have k0 : w5.cell? ⟨w4.heap.size, 0, none⟩ = some (.int .i64 py) := hb5.keep (by simp [go_sem])
      have k1 : w5.cell? ⟨w4.heap.size, 1, none⟩ = some (.int .i64 pi) := hb5.keep (by simp [go_sem])
      have k2 : w5.cell? ⟨w4.heap.size, 2, none⟩ = some (.slice ma pl.length mk) := hb5.keep (by simp [go_sem])
      have HM := Lib.hid (HM.out.ext hb45)
      clear hb5 hb45 he4
      go_wp2_with fail
      refine (awake27_any _ (HTB.out.ext he5) (HW.out.ext he5)).mono ?_; rintro e w6 ⟨rfl, hb6⟩
      have he6 : Wb.Ext w w6 := he5.trans hb6
      have a0 := hb6.keep a0
      have a1 := hb6.keep a1
      have a2 := hb6.keep a2
      have k0 := hb6.keep k0
      have k1 := hb6.keep k1
      have k2 := hb6.keep k2
      have HM := Lib.hid (HM.out.ext hb6)
      clear hb6 he5
      go_wp2_with fail
      refine (same_eq py pi _ _ pl _ HM.out (HL.out.ext he6) HS.out).mono ?_; rintro e w7 ⟨rfl, hb7⟩
      go_wp2
      go_ret
      exact ⟨rfl, he6.trans hb7⟩
    · have HK := Lib.hid (show Wb.check y i l ≠ 0 by simpa using hck)
      have hT0 : T = [] := by rw [← HT.out, slText, if_pos HK.out]
      have hpe : (c, py, pi, pl) = (10, 0, 0, []) := by rw [← HP.out, hT0, Wb.parseS, if_pos rfl]
      simp only [Prod.mk.injEq] at hpe
      obtain ⟨rfl, rfl, rfl, rfl⟩ := hpe
      obtain ⟨ck, hce⟩ : ∃ k, Wb.check y i l = k := ⟨_, rfl⟩
      rw [hce] at hck
      have HCE := Lib.hid hce
      clear hT0 hce
      rw [List.length_nil]
      go_wp2_with fail
      refine (rcheck_any y i _ l _ (HL.out.ext (by (repeat' (first | (with_reducible assumption) | (with_reducible exact Wb.Ext.refl _) | (with_reducible refine Wb.Ext.drew ?_) | (with_reducible refine Wb.Ext.drewN ?_ _) | (with_reducible refine Wb.Ext.alloc ?_ _) | (with_reducible refine Wb.Ext.trans ?_ (by assumption)))))) HS.out).mono ?_; rintro e w5 ⟨rfl, hb5⟩
      rw [HCE.out]
      have he5 : Wb.Ext w w5 := by (repeat' (first | (with_reducible assumption) | (with_reducible exact Wb.Ext.refl _) | (with_reducible refine Wb.Ext.drew ?_) | (with_reducible refine Wb.Ext.drewN ?_ _) | (with_reducible refine Wb.Ext.alloc ?_ _) | (with_reducible refine Wb.Ext.trans ?_ (by assumption))))
      have hb45 : Wb.Ext w4 w5 := ((Wb.Ext.refl _).alloc _).trans hb5
      have k0 : w5.cell? ⟨w4.heap.size, 0, none⟩ = some (.int .i64 0) := hb5.keep (by simp [go_sem])
      have k1 : w5.cell? ⟨w4.heap.size, 1, none⟩ = some (.int .i64 0) := hb5.keep (by simp [go_sem])
      have k2 : w5.cell? ⟨w4.heap.size, 2, none⟩ = some (.slice ma 0 mk) := hb5.keep (by simp [go_sem])
      have HM := Lib.hid (HM.out.ext hb45)
      clear hb5 hb45 he4
      go_wp2_with fail
      refine (awake27_any _ (HTB.out.ext he5) (HW.out.ext he5)).mono ?_; rintro e w6 ⟨rfl, hb6⟩
      have he6 : Wb.Ext w w6 := he5.trans hb6
      have k0 := hb6.keep k0
      have k1 := hb6.keep k1
      have k2 := hb6.keep k2
      have HM := Lib.hid (HM.out.ext hb6)
      clear hb6 he5
      go_wp2_with fail
      refine (same_eq 0 0 _ _ [] _ HM.out (.inl ⟨rfl, _, _, rfl⟩) (by simp [Sized])).mono ?_; rintro e w7 ⟨rfl, hb7⟩
      go_wp2
      go_ret
      exact ⟨rfl, he6.trans hb7⟩

end Go.Proofs.YtpiedhjjpmmomaaDoor
