/- Chapter 27: SlipChecks. -/
import Derived.Test.YtpiedhjjpmmomaaDoorSlip11
namespace Go.Proofs.YtpiedhjjpmmomaaDoor
open Go.RowKit
set_option maxRecDepth 4000

set_option maxHeartbeats 1000000 in
theorem checks_walk (y i : Int) (v : Value) (l : List Wb.Ln) (p : Int) (w : World) (hl : Lns w v l) (hs : Sized l) (ht : Tab10 w) (hw : Words w) :
    Calls Tryd.prog 3 #[.agg #[.int .i64 y, .int .i64 i, v], .int .i64 p] w fun e w' => e = .returned (.bool true) ∧ Wb.Ext w w' := by
  have HL := Lib.hid hl
  have HS := Lib.hid hs
  have HW := Lib.hid hw
  have HTB := Lib.hid ht
  clear hl hs hw ht
  go_enter Tryd.func3, Tryd.ntmps3
  go_wp2_with fail
  refine (small_any y i v l _ (HL.out.ext (by (repeat' (first | (with_reducible assumption) | (with_reducible exact Wb.Ext.refl _) | (with_reducible refine Wb.Ext.drew ?_) | (with_reducible refine Wb.Ext.drewN ?_ _) | (with_reducible refine Wb.Ext.alloc ?_ _) | (with_reducible refine Wb.Ext.trans ?_ (by assumption)))))) HS.out).mono ?_; rintro e w1 ⟨sm, rfl, hb1⟩
  have he1 : Wb.Ext w w1 := by (repeat' (first | (with_reducible assumption) | (with_reducible exact Wb.Ext.refl _) | (with_reducible refine Wb.Ext.drew ?_) | (with_reducible refine Wb.Ext.drewN ?_ _) | (with_reducible refine Wb.Ext.alloc ?_ _) | (with_reducible refine Wb.Ext.trans ?_ (by assumption))))
  obtain ⟨hk0, hk1, hk2⟩ := box3 _ _ _ _ _ hb1
  clear hb1
  cases sm
  · go_wp2_with fail
    refine (awake27_any _ (HTB.out.ext he1) (HW.out.ext he1)).mono ?_; rintro e w2 ⟨rfl, hb2⟩
    go_wp2
    go_ret
    exact ⟨rfl, by (repeat' (first | (with_reducible assumption) | (with_reducible exact Wb.Ext.refl _) | (with_reducible refine Wb.Ext.drew ?_) | (with_reducible refine Wb.Ext.drewN ?_ _) | (with_reducible refine Wb.Ext.alloc ?_ _) | (with_reducible refine Wb.Ext.trans ?_ (by assumption))))⟩
  · obtain ⟨sq, hsq⟩ : ∃ q, Wb.sums y i l = q := ⟨_, rfl⟩
    have HSQ := Lib.hid hsq; clear hsq
    obtain ⟨s1, s2, s3, s4, s5⟩ := sq
    go_wp2_with fail
    refine (sums_any y i v l _ (HL.out.ext (by (repeat' (first | (with_reducible assumption) | (with_reducible exact Wb.Ext.refl _) | (with_reducible refine Wb.Ext.drew ?_) | (with_reducible refine Wb.Ext.drewN ?_ _) | (with_reducible refine Wb.Ext.alloc ?_ _) | (with_reducible refine Wb.Ext.trans ?_ (by assumption)))))) HS.out).mono ?_; rintro e w2 ⟨rfl, hb2⟩
    rw [HSQ.out]
    have he2 : Wb.Ext w w2 := by (repeat' (first | (with_reducible assumption) | (with_reducible exact Wb.Ext.refl _) | (with_reducible refine Wb.Ext.drew ?_) | (with_reducible refine Wb.Ext.drewN ?_ _) | (with_reducible refine Wb.Ext.alloc ?_ _) | (with_reducible refine Wb.Ext.trans ?_ (by assumption))))
    have hm0 := hb2.keep hk0
    have hm1 := hb2.keep hk1
    have hm2 := hb2.keep hk2
    clear hb2 hk0 hk1 hk2
    go_wp2_with fail
    refine (rsums_any y i v l _ (HL.out.ext (by (repeat' (first | (with_reducible assumption) | (with_reducible exact Wb.Ext.refl _) | (with_reducible refine Wb.Ext.drew ?_) | (with_reducible refine Wb.Ext.drewN ?_ _) | (with_reducible refine Wb.Ext.alloc ?_ _) | (with_reducible refine Wb.Ext.trans ?_ (by assumption)))))) HS.out).mono ?_; rintro e w3 ⟨rfl, hb3⟩
    rw [HSQ.out]
    have he3 : Wb.Ext w w3 := by (repeat' (first | (with_reducible assumption) | (with_reducible exact Wb.Ext.refl _) | (with_reducible refine Wb.Ext.drew ?_) | (with_reducible refine Wb.Ext.drewN ?_ _) | (with_reducible refine Wb.Ext.alloc ?_ _) | (with_reducible refine Wb.Ext.trans ?_ (by assumption))))
    have hn0 := hb3.keep hm0
    have hn1 := hb3.keep hm1
    have hn2 := hb3.keep hm2
    clear hb3 hm0 hm1 hm2
    have HPL := Lib.hid (show (Wb.partOf p l).length ≤ 4398046511104 from Nat.le_trans (List.length_filter_le _ _) HS.out.1)
    obtain ⟨ck, hck⟩ : ∃ q, Wb.check y i l = q := ⟨_, rfl⟩
    have HCK := Lib.hid hck; clear hck
    go_wp2_with fail
    go_region_held3 (fun w' => w'.cell? ⟨w.heap.size, 0, none⟩ = some (.int .i64 y) ∧ w'.cell? ⟨w.heap.size, 1, none⟩ = some (.int .i64 i) ∧ w'.cell? ⟨w.heap.size, 2, none⟩ = some v) (first | exact ⟨hn0, hn1, hn2⟩ | assumption | (obtain ⟨k0, k1, k2⟩ := ‹_ ∧ _ ∧ _›; exact ⟨hb.keep k0, hb.keep k1, hb.keep k2⟩)) (first | (go_at_call 11; go_fit (awake27_any _ (HTB.out.ext (by (repeat' (first | (with_reducible assumption) | (with_reducible exact Wb.Ext.refl _) | (with_reducible refine Wb.Ext.drew ?_) | (with_reducible refine Wb.Ext.drewN ?_ _) | (with_reducible refine Wb.Ext.alloc ?_ _) | (with_reducible refine Wb.Ext.trans ?_ (by assumption)))))) (HW.out.ext (by (repeat' (first | (with_reducible assumption) | (with_reducible exact Wb.Ext.refl _) | (with_reducible refine Wb.Ext.drew ?_) | (with_reducible refine Wb.Ext.drewN ?_ _) | (with_reducible refine Wb.Ext.alloc ?_ _) | (with_reducible refine Wb.Ext.trans ?_ (by assumption))))))); rintro e w' ⟨rfl, hb⟩) | (go_at_call 14; go_fit (check_any y i v l _ (HL.out.ext (by (repeat' (first | (with_reducible assumption) | (with_reducible exact Wb.Ext.refl _) | (with_reducible refine Wb.Ext.drew ?_) | (with_reducible refine Wb.Ext.drewN ?_ _) | (with_reducible refine Wb.Ext.alloc ?_ _) | (with_reducible refine Wb.Ext.trans ?_ (by assumption)))))) HS.out); rintro e w' ⟨rfl, hb⟩; rw [HCK.out]) | (go_at_call 15; go_fit (rcheck_any y i v l _ (HL.out.ext (by (repeat' (first | (with_reducible assumption) | (with_reducible exact Wb.Ext.refl _) | (with_reducible refine Wb.Ext.drew ?_) | (with_reducible refine Wb.Ext.drewN ?_ _) | (with_reducible refine Wb.Ext.alloc ?_ _) | (with_reducible refine Wb.Ext.trans ?_ (by assumption)))))) HS.out); rintro e w' ⟨rfl, hb⟩; rw [HCK.out]) | (go_at_call 17; go_fit (part_any y i v l p _ (HL.out.ext (by (repeat' (first | (with_reducible assumption) | (with_reducible exact Wb.Ext.refl _) | (with_reducible refine Wb.Ext.drew ?_) | (with_reducible refine Wb.Ext.drewN ?_ _) | (with_reducible refine Wb.Ext.alloc ?_ _) | (with_reducible refine Wb.Ext.trans ?_ (by assumption)))))) HS.out); rintro e w' ⟨u1, rfl, hu1, hb⟩) | (go_at_call 18; go_fit (rpart_any y i v l p _ (HL.out.ext (by (repeat' (first | (with_reducible assumption) | (with_reducible exact Wb.Ext.refl _) | (with_reducible refine Wb.Ext.drew ?_) | (with_reducible refine Wb.Ext.drewN ?_ _) | (with_reducible refine Wb.Ext.alloc ?_ _) | (with_reducible refine Wb.Ext.trans ?_ (by assumption)))))) HS.out); rintro e w' ⟨u2, rfl, hu2, hb⟩) | (go_at_call 16; go_fit (items_any _ _ (Wb.partOf p l) _ (hu1.ext (by (repeat' (first | (with_reducible assumption) | (with_reducible exact Wb.Ext.refl _) | (with_reducible refine Wb.Ext.drew ?_) | (with_reducible refine Wb.Ext.drewN ?_ _) | (with_reducible refine Wb.Ext.alloc ?_ _) | (with_reducible refine Wb.Ext.trans ?_ (by assumption)))))) (hu2.ext (by (repeat' (first | (with_reducible assumption) | (with_reducible exact Wb.Ext.refl _) | (with_reducible refine Wb.Ext.drew ?_) | (with_reducible refine Wb.Ext.drewN ?_ _) | (with_reducible refine Wb.Ext.alloc ?_ _) | (with_reducible refine Wb.Ext.trans ?_ (by assumption)))))) HPL.out); rintro e w' ⟨rfl, hb⟩))
    have he4 : Wb.Ext w w' := by (repeat' (first | (with_reducible assumption) | (with_reducible exact Wb.Ext.refl _) | (with_reducible refine Wb.Ext.drew ?_) | (with_reducible refine Wb.Ext.drewN ?_ _) | (with_reducible refine Wb.Ext.alloc ?_ _) | (with_reducible refine Wb.Ext.trans ?_ (by assumption))))
    go_wp2
    go_ret
    exact ⟨rfl, he4⟩

end Go.Proofs.YtpiedhjjpmmomaaDoor
