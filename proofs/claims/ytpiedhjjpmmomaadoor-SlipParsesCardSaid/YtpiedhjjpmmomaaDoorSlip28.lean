/- Chapter 27: SlipParses. -/
import Derived.Test.YtpiedhjjpmmomaaDoorSlip25
import Derived.Test.YtpiedhjjpmmomaaDoorSlip11
import Derived.Test.YtpiedhjjpmmomaaDoorSlip14
namespace Go.Proofs.YtpiedhjjpmmomaaDoor
open Go.RowKit
set_option maxRecDepth 4000

theorem parse_sized (t : List UInt8) : Sized (Wb.parseS t).2.2.2 := by
  obtain ⟨P, hP⟩ : ∃ P, Wb.parseS t = P := ⟨_, rfl⟩
  rw [hP]
  obtain ⟨c, y, i, l⟩ := P
  by_cases hc : c = 0
  · subst hc
    have hk := (Wb.slText_parse hP).2
    obtain ⟨_, _, _, _, hn, _, hl⟩ := Wb.check_ok hk
    refine ⟨by simp only; omega, fun x hx => ?_⟩
    have h3 := (Wb.lineErr_ok (hl x hx)).2.2.1
    have : x.code.length ≤ 32 := by simp [Wb.codeOk] at h3; exact h3.1.2
    omega
  · have : l = [] := by
      unfold Wb.parseS at hP
      split at hP
      · cases hP; rfl
      · split at hP
        · cases hP; rfl
        · split at hP
          · cases hP; rfl
          · split at hP
            · cases hP; rfl
            · split at hP
              · cases hP; rfl
              · cases hP; exact absurd rfl hc
    subst this
    simp [Sized]

set_option maxHeartbeats 2000000 in
theorem parses_walk27 (t : List UInt8) (w : World) (ht : Tab10 w) (hw : Words w) (hm : MaxL w) :
    Calls Tryd.prog 8 #[.string (Wb.S t)] w fun e w' => e = .returned (.bool true) ∧ Wb.Ext w w' := by
  have HW := Lib.hid hw
  have HTB := Lib.hid ht
  have HMX := Lib.hid hm
  clear hw ht hm
  by_cases h4 : 4000 < t.length
  case pos =>
    have h4i : (4000 : Int) < t.length := by omega
    go_enter Tryd.func8, Tryd.ntmps8
    go_wp2_with fail
    refine (awake27_any _ HTB.out HW.out).mono ?_; rintro e w1 ⟨rfl, hb1⟩
    go_wp2
    go_ret
    exact ⟨rfl, hb1⟩
  have d4 : decide ((4000 : Int) < t.length) = false := by simp; omega
  obtain ⟨P, hP⟩ : ∃ P, Wb.parseS t = P := ⟨_, rfl⟩
  obtain ⟨c, y, i, l⟩ := P
  have HSZ := Lib.hid (show Sized l by have := parse_sized t; rw [hP] at this; exact this)
  have HBK := Lib.hid (show c = 0 → slText y i l = t from fun h => by subst h; exact (Wb.slText_parse hP).1)
  have HP := Lib.hid hP
  clear hP
  go_enter Tryd.func8, Tryd.ntmps8
  go_wp2_with fail
  refine (parse27_any t (by omega) _ HMX.out HW.out).mono ?_; rintro e w1 ⟨m, rfl, hl, hb1⟩
  rw [HP.out] at hl ⊢
  simp only at hl
  obtain ⟨ma, mk, rfl⟩ := hl.1.shape
  have HL := Lib.hid hl.1
  clear hl
  go_wp2_with fail
  refine (rparse27_any t (by omega) _).mono ?_; rintro e w2 ⟨m2, rfl, hl, hb2⟩
  rw [HP.out] at hl ⊢
  simp only at hl
  obtain ⟨na, nk, rfl⟩ := hl.shape
  have he2 : Wb.Ext w w2 := by (repeat' (first | (with_reducible assumption) | (with_reducible exact Wb.Ext.refl _) | (with_reducible refine Wb.Ext.drew ?_) | (with_reducible refine Wb.Ext.drewN ?_ _) | (with_reducible refine Wb.Ext.alloc ?_ _) | (with_reducible refine Wb.Ext.trans ?_ (by assumption))))
  have hb12 : Wb.Ext w1 w2 := ((Wb.Ext.refl _).alloc _).trans hb2
  have c0 : w2.cell? ⟨w1.heap.size, 0, none⟩ = some (.int .i64 y) := hb2.keep (by simp [go_sem])
  have c1 : w2.cell? ⟨w1.heap.size, 1, none⟩ = some (.int .i64 i) := hb2.keep (by simp [go_sem])
  have c2 : w2.cell? ⟨w1.heap.size, 2, none⟩ = some (.slice ma l.length mk) := hb2.keep (by simp [go_sem])
  have HL := Lib.hid (HL.out.ext hb12)
  have HL2 := Lib.hid hl
  clear hl hb1 hb2 hb12
  go_wp2_with fail
  refine (awake27_any _ (HTB.out.ext (by (repeat' (first | (with_reducible assumption) | (with_reducible exact Wb.Ext.refl _) | (with_reducible refine Wb.Ext.drew ?_) | (with_reducible refine Wb.Ext.drewN ?_ _) | (with_reducible refine Wb.Ext.alloc ?_ _) | (with_reducible refine Wb.Ext.trans ?_ (by assumption)))))) (HW.out.ext (by (repeat' (first | (with_reducible assumption) | (with_reducible exact Wb.Ext.refl _) | (with_reducible refine Wb.Ext.drew ?_) | (with_reducible refine Wb.Ext.drewN ?_ _) | (with_reducible refine Wb.Ext.alloc ?_ _) | (with_reducible refine Wb.Ext.trans ?_ (by assumption))))))).mono ?_; rintro e w3 ⟨rfl, hb3⟩
  have he3 : Wb.Ext w w3 := by (repeat' (first | (with_reducible assumption) | (with_reducible exact Wb.Ext.refl _) | (with_reducible refine Wb.Ext.drew ?_) | (with_reducible refine Wb.Ext.drewN ?_ _) | (with_reducible refine Wb.Ext.alloc ?_ _) | (with_reducible refine Wb.Ext.trans ?_ (by assumption))))
  have hb23 : Wb.Ext w2 w3 := ((Wb.Ext.refl _).alloc _).trans hb3
  have c0 := hb23.keep c0
  have c1 := hb23.keep c1
  have c2 := hb23.keep c2
  have d0 : w3.cell? ⟨w2.heap.size, 0, none⟩ = some (.int .i64 y) := hb3.keep (by simp [go_sem])
  have d1 : w3.cell? ⟨w2.heap.size, 1, none⟩ = some (.int .i64 i) := hb3.keep (by simp [go_sem])
  have d2 : w3.cell? ⟨w2.heap.size, 2, none⟩ = some (.slice na l.length nk) := hb3.keep (by simp [go_sem])
  have HL := Lib.hid (HL.out.ext hb23)
  have HL2 := Lib.hid (HL2.out.ext hb23)
  clear hb3 hb23 he2
  go_wp2_with fail
  refine (same_eq y i _ _ l _ HL.out HL2.out HSZ.out).mono ?_; rintro e w4 ⟨rfl, hb4⟩
  have he4 : Wb.Ext w w4 := he3.trans hb4
  have c0 := hb4.keep c0
  have c1 := hb4.keep c1
  have c2 := hb4.keep c2
  have HL := Lib.hid (HL.out.ext hb4)
  clear hb4 he3 d0 d1 d2
  cases hc : (c != 0)
  case true =>
    go_wp2
    go_ret
    exact ⟨rfl, he4⟩
  have HT := Lib.hid (HBK.out (by simpa using hc))
  have htt : (t == t) = true := by simp
  go_wp2_with fail
  refine (stext_any y i _ l _ HL.out HSZ.out (HTB.out.ext he4) (HW.out.ext he4)).mono ?_; rintro e w5 ⟨rfl, hb5⟩
  rw [HT.out]
  have he5 : Wb.Ext w w5 := he4.trans hb5
  clear hb5
  go_wp2
  go_ret
  exact ⟨rfl, he5⟩

end Go.Proofs.YtpiedhjjpmmomaaDoor
