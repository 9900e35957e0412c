/- Chapter 27: SlipAdds. -/
import Derived.Test.YtpiedhjjpmmomaaDoorSlip18
import Derived.Test.YtpiedhjjpmmomaaDoorPlain27g
namespace Go.Proofs.YtpiedhjjpmmomaaDoor
open Go.RowKit
set_option maxRecDepth 4000

theorem adds_plain {y i y' i' : Int} {a b ml1 ml2 : List Wb.Ln} {mc1 my1 mi1 mc2 my2 mi2 : Int}
    (h1 : Wb.merge y i a y' i' b = (mc1, my1, mi1, ml1)) (h2 : Wb.merge y' i' b y i a = (mc2, my2, mi2, ml2)) :
    (mc1 ≠ 0 ∧ mc2 ≠ 0 ∧ my1 = 0 ∧ mi1 = 0 ∧ ml1 = [] ∧ my2 = 0 ∧ mi2 = 0 ∧ ml2 = []) ∨
    (mc1 = 0 ∧ mc2 = 0 ∧ my1 = y ∧ mi1 = i ∧ my2 = y ∧ mi2 = i ∧ ml2 = ml1 ∧ Wb.mergeL a b = some ml1 ∧ Wb.check y i a = 0 ∧ Wb.check y i ml1 = 0) := by
  rcases merge_cases y i y' i' a b with ⟨e, he, h⟩ | ⟨l1, ca, cb, ey, ei, m1, n1, h⟩
  · rw [h] at h1; cases h1
    rcases merge_cases y' i' y i b a with ⟨e', he', h'⟩ | ⟨l2, cb, ca, ey, ei, m2, n2, h'⟩
    · rw [h'] at h2; cases h2
      exact .inl ⟨he, he', rfl, rfl, rfl, rfl, rfl, rfl⟩
    · exfalso
      subst ey ei
      rw [Wb.merge, if_neg (by rw [ca]; simp), if_neg (by rw [cb]; simp), if_neg (by simp), Wb.mergeL_comm, m2] at h
      simp only [if_neg (show ¬ 448 < l2.length by omega)] at h
      cases h; exact he rfl
  · rw [h] at h1; cases h1
    subst ey ei
    rw [Wb.merge, if_neg (by rw [cb]; simp), if_neg (by rw [ca]; simp), if_neg (by simp), Wb.mergeL_comm, m1] at h2
    simp only [if_neg (show ¬ 448 < ml1.length by omega)] at h2
    cases h2
    exact .inr ⟨rfl, rfl, rfl, rfl, rfl, rfl, rfl, m1, ca, Wb.merge_right ca cb m1 n1⟩
theorem neg_plain {y i : Int} {l : List Wb.Ln} (h : Wb.check y i l = 0) : Wb.merge y i l y i (Wb.neg l) = (0, y, i, []) := by
  rw [Wb.merge, if_neg (by rw [h]; simp), if_neg (by rw [Wb.check_neg h]; simp), if_neg (by simp), Wb.mergeL_neg]; rfl
theorem neg_snoc {l : List Wb.Ln} {k : Nat} {x : Wb.Ln} (h : l[k]? = some x) : Wb.neg (l.take (k + 1)) = Wb.neg (l.take k) ++ [⟨x.part, x.code, -x.cents⟩] := by
  obtain ⟨h1, h2⟩ := List.getElem?_eq_some_iff.1 h
  rw [List.take_succ_eq_append_getElem h1, h2]; simp [Wb.neg]
theorem neg_len (l : List Wb.Ln) : (Wb.neg l).length = l.length := by simp [Wb.neg]
theorem neg_sized {l : List Wb.Ln} (h : Sized l) : Sized (Wb.neg l) := by
  refine ⟨by rw [neg_len]; exact h.1, fun x hx => ?_⟩
  simp only [Wb.neg, List.mem_map] at hx
  obtain ⟨z, hz, rfl⟩ := hx
  exact h.2 z hz

set_option maxHeartbeats 4000000 in
theorem adds_walk27 (y i : Int) (u : Value) (l : List Wb.Ln) (y' i' : Int) (u' : Value) (l' : List Wb.Ln) (w : World) (hl : LnsC w u l) (hs : Sized l) (hl' : LnsC w u' l') (hs' : Sized l') (ht : Tab10 w) (hw : Words w) :
    Calls Tryd.prog 7 #[.agg #[.int .i64 y, .int .i64 i, u], .agg #[.int .i64 y', .int .i64 i', u']] w fun e w' => e = .returned (.bool true) ∧ Wb.Ext w w' := by
  obtain ⟨i0, hi, hz0, hz1, hz2⟩ := info_parts infoLine
  have HIN := Lib.hid (show Tryd.prog.info? 39 = some i0 ∧ i0.zero = some (.agg #[.int .i64 0, .string "".toUTF8, .int .i64 0]) ∧ i0.size = 3 ∧ i0.bytes = 32 from ⟨hi, hz0, hz1, hz2⟩)
  clear hi hz0 hz1 hz2
  obtain ⟨ua, uc, rfl⟩ := hl.1.shape
  obtain ⟨va, vc, rfl⟩ := hl'.1.shape
  have HL := Lib.hid hl.1
  have HC := Lib.hid hl.2
  have HL' := Lib.hid hl'.1
  have HC' := Lib.hid hl'.2
  have hsm1 := merge_sized (y := y) (i := i) (y' := y') (i' := i') hs hs'
  have HS := Lib.hid hs
  have HS' := Lib.hid hs'
  have HW := Lib.hid hw
  have HTB := Lib.hid ht
  clear hl hs hl' hs' hw ht
  obtain ⟨M, hM⟩ : ∃ M, Wb.merge y i l y' i' l' = M := ⟨_, rfl⟩
  obtain ⟨mc1, my1, mi1, ml1⟩ := M
  rw [hM] at hsm1
  simp only at hsm1
  obtain ⟨M, hM2⟩ : ∃ M, Wb.merge y' i' l' y i l = M := ⟨_, rfl⟩
  obtain ⟨mc2, my2, mi2, ml2⟩ := M
  have HP := Lib.hid (adds_plain hM hM2)
  have HM1 := Lib.hid hM
  have HM2 := Lib.hid hM2
  have HSM1 := Lib.hid hsm1
  clear hM hM2 hsm1
  go_enter Tryd.func7, Tryd.ntmps7
  go_wp2_with fail
  refine (small_any y i _ l _ (HL.out.ext (by (repeat' (first | (with_reducible assumption) | (with_reducible exact Wb.Ext.refl _) | (with_reducible refine Wb.Ext.drew ?_) | (with_reducible refine Wb.Ext.drewN ?_ _) | (with_reducible refine Wb.Ext.alloc ?_ _) | (with_reducible refine Wb.Ext.trans ?_ (by assumption)))))) HS.out).mono ?_; rintro e w1 ⟨sm, rfl, hb1⟩
  have he1 : Wb.Ext w w1 := by (repeat' (first | (with_reducible assumption) | (with_reducible exact Wb.Ext.refl _) | (with_reducible refine Wb.Ext.drew ?_) | (with_reducible refine Wb.Ext.drewN ?_ _) | (with_reducible refine Wb.Ext.alloc ?_ _) | (with_reducible refine Wb.Ext.trans ?_ (by assumption))))
  have a0 : w1.cell? ⟨w.heap.size, 0, none⟩ = some (.int .i64 y) := hb1.keep (by simp [go_sem])
  have a1 : w1.cell? ⟨w.heap.size, 1, none⟩ = some (.int .i64 i) := hb1.keep (by simp [go_sem])
  have a2 : w1.cell? ⟨w.heap.size, 2, none⟩ = some (.slice ua l.length uc) := hb1.keep (by simp [go_sem])
  have b0 : w1.cell? ⟨w.heap.size + 1, 0, none⟩ = some (.int .i64 y') := hb1.keep (by simp [go_sem])
  have b1 : w1.cell? ⟨w.heap.size + 1, 1, none⟩ = some (.int .i64 i') := hb1.keep (by simp [go_sem])
  have b2 : w1.cell? ⟨w.heap.size + 1, 2, none⟩ = some (.slice va l'.length vc) := hb1.keep (by simp [go_sem])
  clear hb1
  cases sm
  · go_wp2_with fail
    refine (awake27_any _ (HTB.out.ext (by (repeat' (first | (with_reducible assumption) | (with_reducible exact Wb.Ext.refl _) | (with_reducible refine Wb.Ext.drew ?_) | (with_reducible refine Wb.Ext.drewN ?_ _) | (with_reducible refine Wb.Ext.alloc ?_ _) | (with_reducible refine Wb.Ext.trans ?_ (by assumption)))))) (HW.out.ext (by (repeat' (first | (with_reducible assumption) | (with_reducible exact Wb.Ext.refl _) | (with_reducible refine Wb.Ext.drew ?_) | (with_reducible refine Wb.Ext.drewN ?_ _) | (with_reducible refine Wb.Ext.alloc ?_ _) | (with_reducible refine Wb.Ext.trans ?_ (by assumption))))))).mono ?_; rintro e wz ⟨rfl, hbz⟩
    go_wp2
    go_ret
    exact ⟨rfl, by (repeat' (first | (with_reducible assumption) | (with_reducible exact Wb.Ext.refl _) | (with_reducible refine Wb.Ext.drew ?_) | (with_reducible refine Wb.Ext.drewN ?_ _) | (with_reducible refine Wb.Ext.alloc ?_ _) | (with_reducible refine Wb.Ext.trans ?_ (by assumption))))⟩
  go_wp2_with fail
  refine (small_any y' i' _ l' _ (HL'.out.ext (by (repeat' (first | (with_reducible assumption) | (with_reducible exact Wb.Ext.refl _) | (with_reducible refine Wb.Ext.drew ?_) | (with_reducible refine Wb.Ext.drewN ?_ _) | (with_reducible refine Wb.Ext.alloc ?_ _) | (with_reducible refine Wb.Ext.trans ?_ (by assumption)))))) HS'.out).mono ?_; rintro e w2 ⟨sm, rfl, hb2⟩
  have he2 : Wb.Ext w w2 := by (repeat' (first | (with_reducible assumption) | (with_reducible exact Wb.Ext.refl _) | (with_reducible refine Wb.Ext.drew ?_) | (with_reducible refine Wb.Ext.drewN ?_ _) | (with_reducible refine Wb.Ext.alloc ?_ _) | (with_reducible refine Wb.Ext.trans ?_ (by assumption))))
  have a0 := hb2.keep a0
  have a1 := hb2.keep a1
  have a2 := hb2.keep a2
  have b0 := hb2.keep b0
  have b1 := hb2.keep b1
  have b2 := hb2.keep b2
  clear hb2 he1
  cases sm
  · go_wp2_with fail
    refine (awake27_any _ (HTB.out.ext (by (repeat' (first | (with_reducible assumption) | (with_reducible exact Wb.Ext.refl _) | (with_reducible refine Wb.Ext.drew ?_) | (with_reducible refine Wb.Ext.drewN ?_ _) | (with_reducible refine Wb.Ext.alloc ?_ _) | (with_reducible refine Wb.Ext.trans ?_ (by assumption)))))) (HW.out.ext (by (repeat' (first | (with_reducible assumption) | (with_reducible exact Wb.Ext.refl _) | (with_reducible refine Wb.Ext.drew ?_) | (with_reducible refine Wb.Ext.drewN ?_ _) | (with_reducible refine Wb.Ext.alloc ?_ _) | (with_reducible refine Wb.Ext.trans ?_ (by assumption))))))).mono ?_; rintro e wz ⟨rfl, hbz⟩
    go_wp2
    go_ret
    exact ⟨rfl, by (repeat' (first | (with_reducible assumption) | (with_reducible exact Wb.Ext.refl _) | (with_reducible refine Wb.Ext.drew ?_) | (with_reducible refine Wb.Ext.drewN ?_ _) | (with_reducible refine Wb.Ext.alloc ?_ _) | (with_reducible refine Wb.Ext.trans ?_ (by assumption))))⟩
  go_wp2_with fail
  refine (merge_any y i y' i' _ _ l l' _ (HL.out.ext (by (repeat' (first | (with_reducible assumption) | (with_reducible exact Wb.Ext.refl _) | (with_reducible refine Wb.Ext.drew ?_) | (with_reducible refine Wb.Ext.drewN ?_ _) | (with_reducible refine Wb.Ext.alloc ?_ _) | (with_reducible refine Wb.Ext.trans ?_ (by assumption)))))) (HL'.out.ext (by (repeat' (first | (with_reducible assumption) | (with_reducible exact Wb.Ext.refl _) | (with_reducible refine Wb.Ext.drew ?_) | (with_reducible refine Wb.Ext.drewN ?_ _) | (with_reducible refine Wb.Ext.alloc ?_ _) | (with_reducible refine Wb.Ext.trans ?_ (by assumption)))))) HS.out HS'.out HC.out HC'.out).mono ?_; rintro e w4 ⟨m, rfl, hm, hb4⟩
  rw [HM1.out] at hm ⊢
  simp only at hm
  obtain ⟨ma4, mk4, rfl⟩ := hm.1.shape
  have he4 : Wb.Ext w w4 := by (repeat' (first | (with_reducible assumption) | (with_reducible exact Wb.Ext.refl _) | (with_reducible refine Wb.Ext.drew ?_) | (with_reducible refine Wb.Ext.drewN ?_ _) | (with_reducible refine Wb.Ext.alloc ?_ _) | (with_reducible refine Wb.Ext.trans ?_ (by assumption))))
  have a0 := hb4.keep a0
  have a1 := hb4.keep a1
  have a2 := hb4.keep a2
  have b0 := hb4.keep b0
  have b1 := hb4.keep b1
  have b2 := hb4.keep b2
  have hz4 := Wb.cell_size b0
  have hz4' : w.heap.size < w4.heap.size := by omega
  have HR1 := Lib.hid hm
  clear hb4 hm he2
  go_wp2_with fail
  refine (merge_any y' i' y i _ _ l' l _ (HL'.out.ext (by (repeat' (first | (with_reducible assumption) | (with_reducible exact Wb.Ext.refl _) | (with_reducible refine Wb.Ext.drew ?_) | (with_reducible refine Wb.Ext.drewN ?_ _) | (with_reducible refine Wb.Ext.alloc ?_ _) | (with_reducible refine Wb.Ext.trans ?_ (by assumption)))))) (HL.out.ext (by (repeat' (first | (with_reducible assumption) | (with_reducible exact Wb.Ext.refl _) | (with_reducible refine Wb.Ext.drew ?_) | (with_reducible refine Wb.Ext.drewN ?_ _) | (with_reducible refine Wb.Ext.alloc ?_ _) | (with_reducible refine Wb.Ext.trans ?_ (by assumption)))))) HS'.out HS.out HC'.out HC.out).mono ?_; rintro e w5 ⟨m, rfl, hm, hb5⟩
  rw [HM2.out] at hm ⊢
  simp only at hm
  obtain ⟨ma5, mk5, rfl⟩ := hm.1.shape
  have he5 : Wb.Ext w w5 := by (repeat' (first | (with_reducible assumption) | (with_reducible exact Wb.Ext.refl _) | (with_reducible refine Wb.Ext.drew ?_) | (with_reducible refine Wb.Ext.drewN ?_ _) | (with_reducible refine Wb.Ext.alloc ?_ _) | (with_reducible refine Wb.Ext.trans ?_ (by assumption))))
  have hb45 : Wb.Ext w4 w5 := ((Wb.Ext.refl _).alloc _).trans hb5
  have a0 := hb45.keep a0
  have a1 := hb45.keep a1
  have a2 := hb45.keep a2
  have b0 := hb45.keep b0
  have b1 := hb45.keep b1
  have b2 := hb45.keep b2
  have d0 : w5.cell? ⟨w4.heap.size, 0, none⟩ = some (.int .i64 my1) := hb5.keep (by simp [go_sem])
  have d1 : w5.cell? ⟨w4.heap.size, 1, none⟩ = some (.int .i64 mi1) := hb5.keep (by simp [go_sem])
  have d2 : w5.cell? ⟨w4.heap.size, 2, none⟩ = some (.slice ma4 ml1.length mk4) := hb5.keep (by simp [go_sem])
  have hz5 := Wb.cell_size d0
  have hz5' : w.heap.size + 1 < w5.heap.size := by omega
  have hz5z : w.heap.size < w5.heap.size := by omega
  have HR1 := Lib.hid (HR1.out.1.ext hb45)
  have HR2 := Lib.hid hm.1
  clear hb5 hm he4 hb45 hz4 hz4'
  rcases HP.out with ⟨n1, n2, rfl, rfl, rfl, rfl, rfl, rfl⟩ | ⟨z1, z2, rfl, rfl, rfl, rfl, rfl, hml, hca, hcm⟩
  · have h1 : (mc1 == 0) = false := by simpa using n1
    have h1' : (mc1 != 0) = true := by simpa using n1
    have h2 : (mc2 == 0) = false := by simpa using n2
    have HR2 := Lib.hid (HR2.out.ext ((Wb.Ext.refl w5).alloc (.cells #[.int .i64 0, .int .i64 0, .slice ma5 0 mk5] 24)))
    have HR1 := Lib.hid (HR1.out.ext ((Wb.Ext.refl w5).alloc (.cells #[.int .i64 0, .int .i64 0, .slice ma5 0 mk5] 24)))
    clear n1 n2 HP HM1 HM2
    go_wp2_with fail
    refine (awake27_any _ (HTB.out.ext (by (repeat' (first | (with_reducible assumption) | (with_reducible exact Wb.Ext.refl _) | (with_reducible refine Wb.Ext.drew ?_) | (with_reducible refine Wb.Ext.drewN ?_ _) | (with_reducible refine Wb.Ext.alloc ?_ _) | (with_reducible refine Wb.Ext.trans ?_ (by assumption)))))) (HW.out.ext (by (repeat' (first | (with_reducible assumption) | (with_reducible exact Wb.Ext.refl _) | (with_reducible refine Wb.Ext.drew ?_) | (with_reducible refine Wb.Ext.drewN ?_ _) | (with_reducible refine Wb.Ext.alloc ?_ _) | (with_reducible refine Wb.Ext.trans ?_ (by assumption))))))).mono ?_; rintro e w6 ⟨rfl, hb6⟩
    have he6 : Wb.Ext w w6 := by (repeat' (first | (with_reducible assumption) | (with_reducible exact Wb.Ext.refl _) | (with_reducible refine Wb.Ext.drew ?_) | (with_reducible refine Wb.Ext.drewN ?_ _) | (with_reducible refine Wb.Ext.alloc ?_ _) | (with_reducible refine Wb.Ext.trans ?_ (by assumption))))
    have hb56 : Wb.Ext w5 w6 := ((Wb.Ext.refl _).alloc _).trans hb6
    have d0 := hb56.keep d0
    have d1 := hb56.keep d1
    have d2 := hb56.keep d2
    have g0 : w6.cell? ⟨w5.heap.size, 0, none⟩ = some (.int .i64 0) := hb6.keep (by simp [go_sem])
    have g1 : w6.cell? ⟨w5.heap.size, 1, none⟩ = some (.int .i64 0) := hb6.keep (by simp [go_sem])
    have g2 : w6.cell? ⟨w5.heap.size, 2, none⟩ = some (.slice ma5 0 mk5) := hb6.keep (by simp [go_sem])
    have HR1 := Lib.hid (HR1.out.ext hb6)
    have HR2 := Lib.hid (HR2.out.ext hb6)
    clear hb6 hb56 he5 a0 a1 a2 b0 b1 b2
    have HNL : Hid (∀ W : World, Lns W (.slice none 0 0) []) := Lib.hid fun W => .inl ⟨rfl, _, _, rfl⟩
    go_wp2_with fail
    refine (same_eq 0 0 _ _ [] _ HR1.out (HNL.out _) (by simp [Sized])).mono ?_; rintro e w7 ⟨rfl, hb7⟩
    have he7 : Wb.Ext w w7 := by (repeat' (first | (with_reducible assumption) | (with_reducible exact Wb.Ext.refl _) | (with_reducible refine Wb.Ext.drew ?_) | (with_reducible refine Wb.Ext.drewN ?_ _) | (with_reducible refine Wb.Ext.alloc ?_ _) | (with_reducible refine Wb.Ext.trans ?_ (by assumption))))
    have g0 := hb7.keep g0
    have g1 := hb7.keep g1
    have g2 := hb7.keep g2
    have HR2 := Lib.hid (HR2.out.ext hb7)
    go_wp2_with fail
    refine (same_eq 0 0 _ _ [] _ HR2.out (HNL.out _) (by simp [Sized])).mono ?_; rintro e w8 ⟨rfl, hb8⟩
    clear hb7
    go_wp2
    go_ret
    exact ⟨rfl, by (repeat' (first | (with_reducible assumption) | (with_reducible exact Wb.Ext.refl _) | (with_reducible refine Wb.Ext.drew ?_) | (with_reducible refine Wb.Ext.drewN ?_ _) | (with_reducible refine Wb.Ext.alloc ?_ _) | (with_reducible refine Wb.Ext.trans ?_ (by assumption))))⟩
  have HML := Lib.hid hml
  have HCA := Lib.hid hca
  have HCM := Lib.hid hcm
  have HLL := Lib.hid (Wb.check_ok hca).2.2.2.2.2.2
  have hll := (Wb.check_ok hca).2.2.2.2.1
  subst z1 z2
  clear hml hca hcm HP
  have HX1 := Lib.hid (HR1.out.ext ((Wb.Ext.refl w5).alloc (.cells #[.int .i64 my2, .int .i64 mi2, .slice ma5 ml2.length mk5] 24)))
  have HX2 := Lib.hid (HR2.out.ext ((Wb.Ext.refl w5).alloc (.cells #[.int .i64 my2, .int .i64 mi2, .slice ma5 ml2.length mk5] 24)))
  go_wp2_with fail
  refine (same_eq my2 mi2 _ _ ml2 _ HX1.out HX2.out HSM1.out).mono ?_; rintro e w6 ⟨rfl, hb6⟩
  have he6 : Wb.Ext w w6 := by (repeat' (first | (with_reducible assumption) | (with_reducible exact Wb.Ext.refl _) | (with_reducible refine Wb.Ext.drew ?_) | (with_reducible refine Wb.Ext.drewN ?_ _) | (with_reducible refine Wb.Ext.alloc ?_ _) | (with_reducible refine Wb.Ext.trans ?_ (by assumption))))
  have hb56 : Wb.Ext w5 w6 := ((Wb.Ext.refl _).alloc _).trans hb6
  have a0 := hb56.keep a0
  have a1 := hb56.keep a1
  have a2 := hb56.keep a2
  have b0 := hb56.keep b0
  have b1 := hb56.keep b1
  have b2 := hb56.keep b2
  have d0 := hb56.keep d0
  have d1 := hb56.keep d1
  have d2 := hb56.keep d2
  have HR1 := Lib.hid (HR1.out.ext hb56)
  clear hb6 hb56 he5 HX1 HX2 HR2
  obtain ⟨q, hq⟩ : ∃ q, Wb.sums my2 mi2 l = q := ⟨_, rfl⟩
  obtain ⟨q1, q2, q3, q4, q5⟩ := q
  obtain ⟨r, hr⟩ : ∃ r, Wb.sums y' i' l' = r := ⟨_, rfl⟩
  obtain ⟨r1, r2, r3, r4, r5⟩ := r
  obtain ⟨t, ht⟩ : ∃ t, Wb.sums my2 mi2 ml2 = t := ⟨_, rfl⟩
  obtain ⟨t1, t2, t3, t4, t5⟩ := t
  obtain ⟨lq, bq1, bq2, bq3, bq4⟩ := Wb.sums_law hq
  obtain ⟨lr, br1, br2, br3, br4⟩ := Wb.sums_law hr
  obtain ⟨lt, bt1, bt2, bt3, bt4⟩ := Wb.sums_law ht
  have HADD := Lib.hid (Wb.sums_add hq hr ht HML.out)
  have dq : (q1 != q2 + q3) = false := by simp [lq]
  have dt : (t1 != t2 + t3) = false := by simp [lt]
  have HQ := Lib.hid hq
  have HR := Lib.hid hr
  have HT := Lib.hid ht
  clear hq hr ht lq lr lt
  go_wp2_with fail
  refine (sums_any my2 mi2 _ l _ (HL.out.ext (by (repeat' (first | (with_reducible assumption) | (with_reducible exact Wb.Ext.refl _) | (with_reducible refine Wb.Ext.drew ?_) | (with_reducible refine Wb.Ext.drewN ?_ _) | (with_reducible refine Wb.Ext.alloc ?_ _) | (with_reducible refine Wb.Ext.trans ?_ (by assumption)))))) HS.out).mono ?_; rintro e w7 ⟨rfl, hb7⟩
  rw [HQ.out]
  have he7 : Wb.Ext w w7 := by (repeat' (first | (with_reducible assumption) | (with_reducible exact Wb.Ext.refl _) | (with_reducible refine Wb.Ext.drew ?_) | (with_reducible refine Wb.Ext.drewN ?_ _) | (with_reducible refine Wb.Ext.alloc ?_ _) | (with_reducible refine Wb.Ext.trans ?_ (by assumption))))
  have a0 := hb7.keep a0
  have a1 := hb7.keep a1
  have a2 := hb7.keep a2
  have b0 := hb7.keep b0
  have b1 := hb7.keep b1
  have b2 := hb7.keep b2
  have d0 := hb7.keep d0
  have d1 := hb7.keep d1
  have d2 := hb7.keep d2
  have HR1 := Lib.hid (HR1.out.ext hb7)
  clear hb7 he6
  go_wp2_with fail
  refine (sums_any y' i' _ l' _ (HL'.out.ext (by (repeat' (first | (with_reducible assumption) | (with_reducible exact Wb.Ext.refl _) | (with_reducible refine Wb.Ext.drew ?_) | (with_reducible refine Wb.Ext.drewN ?_ _) | (with_reducible refine Wb.Ext.alloc ?_ _) | (with_reducible refine Wb.Ext.trans ?_ (by assumption)))))) HS'.out).mono ?_; rintro e w8 ⟨rfl, hb8⟩
  rw [HR.out]
  have he8 : Wb.Ext w w8 := by (repeat' (first | (with_reducible assumption) | (with_reducible exact Wb.Ext.refl _) | (with_reducible refine Wb.Ext.drew ?_) | (with_reducible refine Wb.Ext.drewN ?_ _) | (with_reducible refine Wb.Ext.alloc ?_ _) | (with_reducible refine Wb.Ext.trans ?_ (by assumption))))
  have a0 := hb8.keep a0
  have a1 := hb8.keep a1
  have a2 := hb8.keep a2
  have b0 := hb8.keep b0
  have b1 := hb8.keep b1
  have b2 := hb8.keep b2
  have d0 := hb8.keep d0
  have d1 := hb8.keep d1
  have d2 := hb8.keep d2
  have HR1 := Lib.hid (HR1.out.ext hb8)
  clear hb8 he7
  go_wp2_with fail
  refine (sums_any my2 mi2 _ ml2 _ HR1.out HSM1.out).mono ?_; rintro e w9 ⟨rfl, hb9⟩
  rw [HT.out]
  have he9 : Wb.Ext w w9 := by (repeat' (first | (with_reducible assumption) | (with_reducible exact Wb.Ext.refl _) | (with_reducible refine Wb.Ext.drew ?_) | (with_reducible refine Wb.Ext.drewN ?_ _) | (with_reducible refine Wb.Ext.alloc ?_ _) | (with_reducible refine Wb.Ext.trans ?_ (by assumption))))
  have a0 := hb9.keep a0
  have a1 := hb9.keep a1
  have a2 := hb9.keep a2
  have b0 := hb9.keep b0
  have b1 := hb9.keep b1
  have b2 := hb9.keep b2
  have d0 := hb9.keep d0
  have d1 := hb9.keep d1
  have d2 := hb9.keep d2
  have HR1 := Lib.hid (HR1.out.ext hb9)
  clear hb9 he8
  go_wp2_with fail
  refine (check_any my2 mi2 _ ml2 _ HR1.out HSM1.out).mono ?_; rintro e wa ⟨rfl, hba⟩
  rw [HCM.out]
  have hea : Wb.Ext w wa := by (repeat' (first | (with_reducible assumption) | (with_reducible exact Wb.Ext.refl _) | (with_reducible refine Wb.Ext.drew ?_) | (with_reducible refine Wb.Ext.drewN ?_ _) | (with_reducible refine Wb.Ext.alloc ?_ _) | (with_reducible refine Wb.Ext.trans ?_ (by assumption))))
  have a0 := hba.keep a0
  have a1 := hba.keep a1
  have a2 := hba.keep a2
  have b0 := hba.keep b0
  have b1 := hba.keep b1
  have b2 := hba.keep b2
  have hza := Wb.cell_size b0
  have hza' : w.heap.size < wa.heap.size := by omega
  clear hba he9 d0 d1 d2 HR1 hz5 hz5' hz5z
  have HLOOP : True := trivial
  cases e1 : (q5 == 0)
  case false =>
    go_wp2_with fail
    obtain ⟨W, hW⟩ : ∃ W, W = wa := ⟨_, rfl⟩
    go_loopw [164] (fun iv wr => ∃ (k : Nat) (ov : Value), iv = .int .i64 k ∧ k ≤ l.length ∧ wr.ownsRow (wa.heap.size + 1) 39 3 ov k (lnvs (Wb.neg (l.take k))) ∧ wr.cell? ⟨wa.heap.size, 0, none⟩ = some (.int .i64 my2) ∧ wr.cell? ⟨wa.heap.size, 1, none⟩ = some (.int .i64 mi2) ∧ wr.cell? ⟨wa.heap.size, 2, none⟩ = some ov ∧ (∀ j, wr.frozen? ⟨wa.heap.size, j, none⟩ = false) ∧ Wb.Ext wa wr) (fun iv _ => l.length - (intOf iv).toNat)
    case atStart => exact ⟨0, .slice none 0 0, rfl, by omega, World.ownsRow_nil _ _ _ _, by simp [go_sem], by simp [go_sem], by simp [go_sem], by intro j; simp [go_sem], by (repeat' (first | (with_reducible assumption) | (with_reducible exact Wb.Ext.refl _) | (with_reducible refine Wb.Ext.drew ?_) | (with_reducible refine Wb.Ext.drewN ?_ _) | (with_reducible refine Wb.Ext.alloc ?_ _) | (with_reducible refine Wb.Ext.trans ?_ (by assumption))))⟩
    case round =>
      obtain ⟨k, ov, rfl, hk, hown, hc0, hc1, hc2, hcf, hext⟩ := hrel
      obtain ⟨oa, oc, rfl⟩ := row_shape3 hown
      have HO := Lib.hid hown; clear hown
      have hew : Wb.Ext w wr := hea.trans hext
      have hzr := Wb.cell_size hc0
      have hne : some wa.heap.size ≠ (Value.slice oa k oc).ownBlock := fun h => by have := HO.out.lt _ h.symm; omega
      have a0 := hext.keep a0
      have a1 := hext.keep a1
      have a2 := hext.keep a2
      by_cases hlt : k < l.length
      · obtain ⟨x, hx⟩ := Wb.get_ex hlt
        obtain ⟨bx, ox, rfl, hcx⟩ := HL.out.opened (ne_of_lt hlt)
        obtain ⟨x0', x1', x2'⟩ := hcx k x hx
        have x0 := hew.keep x0'
        have x1 := hew.keep x1'
        have x2 := hew.keep x2'
        have hxb := Wb.cell_size x0'
        have hxb1 : ¬ wr.heap.size = bx := by omega
        have hxb2 : ¬ bx = wr.heap.size := by omega
        have hd1 : ¬ wr.heap.size = wa.heap.size := by omega
        have hd2 : ¬ wa.heap.size = wr.heap.size := by omega
        have HXN := Lib.hid (neg_snoc hx)
        have hxf := (Wb.fits_iff _).1 (Wb.lineErr_ok (HLL.out x (List.mem_of_getElem? hx))).2.2.2.2
        clear hcx hx x0' x1' x2'
        obtain ⟨xp, xs, xn⟩ := x
        simp only at x0 x1 x2 hxf
        obtain ⟨hi1, hi2, hi3, hi4⟩ := HIN.out
        go_wp2_with (at_builtin; (refine Wb.wpList_append_row rfl (.tmp 173) (.tmp 175) 22 rfl (wa.heap.size + 1) 39 i0 (.agg #[.int .i64 0, .string "".toUTF8, .int .i64 0]) 3 32 Tryd.underlying22 hi1 hi2 hi3 hi4 rfl (by decide) _ _ _ rfl ((HO.out.alloc _).alloc _) (.slice (some ⟨wr.heap.size + 1, 0, none⟩) 1 1) rfl 1 (lnv ⟨xp, xs, -xn⟩) (src_three _ _ (by simp) ⟨xp, xs, -xn⟩ _ _) (by intro r hr; simp [lnv] at hr; rcases hr with rfl | rfl | rfl <;> rfl) (by unfold maxLen; omega) (by omega) (by simp; omega) ?_); intro ov2 w4 hown4 hg4 _; obtain ⟨na, nc, rfl⟩ := row_shape3 hown4; have g2 : w4.cell? ⟨wa.heap.size, 2, none⟩ = some (.slice oa k oc) := (hg4.cell_far _ (by simp; omega) hne).trans (Wb.Ext.keep (show Wb.Ext wr _ from (((Wb.Ext.refl wr).alloc _).alloc _)) hc2); have gf : ∀ j, w4.frozen? ⟨wa.heap.size, j, none⟩ = false := fun j => (hg4.frozen_far _ (by simp; omega) hne).trans ((Below.frozen (show Wb.Ext wr _ from (((Wb.Ext.refl wr).alloc _).alloc _)) (by simp; omega)).trans (hcf j)); have g0 : w4.cell? ⟨wa.heap.size, 0, none⟩ = some (.int .i64 my2) := (hg4.cell_far _ (by simp; omega) hne).trans (Wb.Ext.keep (show Wb.Ext wr _ from (((Wb.Ext.refl wr).alloc _).alloc _)) hc0); have g1 : w4.cell? ⟨wa.heap.size, 1, none⟩ = some (.int .i64 mi2) := (hg4.cell_far _ (by simp; omega) hne).trans (Wb.Ext.keep (show Wb.Ext wr _ from (((Wb.Ext.refl wr).alloc _).alloc _)) hc1))
        have hE4 : Wb.Ext wa w4 := Wb.Ext.grown (show Wb.Ext wa _ from ((hext.alloc _).alloc _)) hg4 (fun r hr => by have := HO.out.lt r hr; omega)
        have hE5 := ext_set hE4 (p := ⟨wa.heap.size, 2, none⟩) (by simp) (.slice na (k + 1) nc)
        have HO4 := Lib.hid (row_set hown4 (p := ⟨wa.heap.size, 2, none⟩) (by simp) (.slice na (k + 1) nc))
        clear hown4 hg4 hE4
        go_wp2
        go_roundw
        case rel =>
          refine ⟨k + 1, .slice na (k + 1) nc, by go_num, by omega, ?_, by simp [go_sem, g0], by simp [go_sem, g1], by simp [go_sem, g2], by intro j; simp [go_sem, gf], hE5⟩
          rw [HXN.out, lnvs_app]
          simpa [lnvs] using HO4.out
        case measure => simp [intOf] <;> omega
      · have hke : k = l.length := by omega
        subst hke
        have hrow := HO.out
        rw [List.take_length] at hrow
        have hlc := lnsC_of_row (n := l.length) hrow
        have HN := Lib.hid hlc
        have HNS := Lib.hid (neg_sized HS.out)
        have HNP := Lib.hid (neg_plain HCA.out)
        have hz9 : w.heap.size < wr.heap.size := by omega
        clear hrow hlc
        go_wp2_with fail
        refine (merge_any my2 mi2 my2 mi2 _ _ l (Wb.neg l) _ (HL.out.ext (by (repeat' (first | (with_reducible assumption) | (with_reducible exact Wb.Ext.refl _) | (with_reducible refine Wb.Ext.drew ?_) | (with_reducible refine Wb.Ext.drewN ?_ _) | (with_reducible refine Wb.Ext.alloc ?_ _) | (with_reducible refine Wb.Ext.trans ?_ (by assumption)))))) HN.out.1 HS.out HNS.out HC.out HN.out.2).mono ?_; rintro e wb ⟨m, rfl, hm, hbb⟩
        rw [HNP.out] at hm ⊢
        simp only at hm
        obtain ⟨mab, mkb, rfl⟩ := hm.1.shape
        rw [List.length_nil]
        have heb : Wb.Ext w wb := hew.trans hbb
        have a0 := hbb.keep a0
        have a1 := hbb.keep a1
        have a2 := hbb.keep a2
        clear hbb hm
        have hzb := Wb.cell_size a0
        go_wp2_with fail
        refine (awake27_any _ (HTB.out.ext (by (repeat' (first | (with_reducible assumption) | (with_reducible exact Wb.Ext.refl _) | (with_reducible refine Wb.Ext.drew ?_) | (with_reducible refine Wb.Ext.drewN ?_ _) | (with_reducible refine Wb.Ext.alloc ?_ _) | (with_reducible refine Wb.Ext.trans ?_ (by assumption)))))) (HW.out.ext (by (repeat' (first | (with_reducible assumption) | (with_reducible exact Wb.Ext.refl _) | (with_reducible refine Wb.Ext.drew ?_) | (with_reducible refine Wb.Ext.drewN ?_ _) | (with_reducible refine Wb.Ext.alloc ?_ _) | (with_reducible refine Wb.Ext.trans ?_ (by assumption))))))).mono ?_; rintro e wc ⟨rfl, hbc⟩
        have hec : Wb.Ext w wc := by (repeat' (first | (with_reducible assumption) | (with_reducible exact Wb.Ext.refl _) | (with_reducible refine Wb.Ext.drew ?_) | (with_reducible refine Wb.Ext.drewN ?_ _) | (with_reducible refine Wb.Ext.alloc ?_ _) | (with_reducible refine Wb.Ext.trans ?_ (by assumption))))
        have k0 : wc.cell? ⟨wb.heap.size, 0, none⟩ = some (.int .i64 my2) := hbc.keep (by simp [go_sem])
        have k1 : wc.cell? ⟨wb.heap.size, 1, none⟩ = some (.int .i64 mi2) := hbc.keep (by simp [go_sem])
        have k2 : wc.cell? ⟨wb.heap.size, 2, none⟩ = some (.slice mab 0 mkb) := hbc.keep (by simp [go_sem])
        have hbc' : Wb.Ext wb wc := ((Wb.Ext.refl _).alloc _).trans hbc
        have a0 := hbc'.keep a0
        have a1 := hbc'.keep a1
        have a2 := hbc'.keep a2
        clear hbc hbc'
        go_wp2
        go_ret
        exact ⟨rfl, hec⟩
  cases e2 : (r5 == 0)
  case false =>
    go_wp2_with fail
    obtain ⟨W, hW⟩ : ∃ W, W = wa := ⟨_, rfl⟩
    go_loopw [164] (fun iv wr => ∃ (k : Nat) (ov : Value), iv = .int .i64 k ∧ k ≤ l.length ∧ wr.ownsRow (wa.heap.size + 1) 39 3 ov k (lnvs (Wb.neg (l.take k))) ∧ wr.cell? ⟨wa.heap.size, 0, none⟩ = some (.int .i64 my2) ∧ wr.cell? ⟨wa.heap.size, 1, none⟩ = some (.int .i64 mi2) ∧ wr.cell? ⟨wa.heap.size, 2, none⟩ = some ov ∧ (∀ j, wr.frozen? ⟨wa.heap.size, j, none⟩ = false) ∧ Wb.Ext wa wr) (fun iv _ => l.length - (intOf iv).toNat)
    case atStart => exact ⟨0, .slice none 0 0, rfl, by omega, World.ownsRow_nil _ _ _ _, by simp [go_sem], by simp [go_sem], by simp [go_sem], by intro j; simp [go_sem], by (repeat' (first | (with_reducible assumption) | (with_reducible exact Wb.Ext.refl _) | (with_reducible refine Wb.Ext.drew ?_) | (with_reducible refine Wb.Ext.drewN ?_ _) | (with_reducible refine Wb.Ext.alloc ?_ _) | (with_reducible refine Wb.Ext.trans ?_ (by assumption))))⟩
    case round =>
      obtain ⟨k, ov, rfl, hk, hown, hc0, hc1, hc2, hcf, hext⟩ := hrel
      obtain ⟨oa, oc, rfl⟩ := row_shape3 hown
      have HO := Lib.hid hown; clear hown
      have hew : Wb.Ext w wr := hea.trans hext
      have hzr := Wb.cell_size hc0
      have hne : some wa.heap.size ≠ (Value.slice oa k oc).ownBlock := fun h => by have := HO.out.lt _ h.symm; omega
      have a0 := hext.keep a0
      have a1 := hext.keep a1
      have a2 := hext.keep a2
      by_cases hlt : k < l.length
      · obtain ⟨x, hx⟩ := Wb.get_ex hlt
        obtain ⟨bx, ox, rfl, hcx⟩ := HL.out.opened (ne_of_lt hlt)
        obtain ⟨x0', x1', x2'⟩ := hcx k x hx
        have x0 := hew.keep x0'
        have x1 := hew.keep x1'
        have x2 := hew.keep x2'
        have hxb := Wb.cell_size x0'
        have hxb1 : ¬ wr.heap.size = bx := by omega
        have hxb2 : ¬ bx = wr.heap.size := by omega
        have hd1 : ¬ wr.heap.size = wa.heap.size := by omega
        have hd2 : ¬ wa.heap.size = wr.heap.size := by omega
        have HXN := Lib.hid (neg_snoc hx)
        have hxf := (Wb.fits_iff _).1 (Wb.lineErr_ok (HLL.out x (List.mem_of_getElem? hx))).2.2.2.2
        clear hcx hx x0' x1' x2'
        obtain ⟨xp, xs, xn⟩ := x
        simp only at x0 x1 x2 hxf
        obtain ⟨hi1, hi2, hi3, hi4⟩ := HIN.out
        go_wp2_with (at_builtin; (refine Wb.wpList_append_row rfl (.tmp 173) (.tmp 175) 22 rfl (wa.heap.size + 1) 39 i0 (.agg #[.int .i64 0, .string "".toUTF8, .int .i64 0]) 3 32 Tryd.underlying22 hi1 hi2 hi3 hi4 rfl (by decide) _ _ _ rfl ((HO.out.alloc _).alloc _) (.slice (some ⟨wr.heap.size + 1, 0, none⟩) 1 1) rfl 1 (lnv ⟨xp, xs, -xn⟩) (src_three _ _ (by simp) ⟨xp, xs, -xn⟩ _ _) (by intro r hr; simp [lnv] at hr; rcases hr with rfl | rfl | rfl <;> rfl) (by unfold maxLen; omega) (by omega) (by simp; omega) ?_); intro ov2 w4 hown4 hg4 _; obtain ⟨na, nc, rfl⟩ := row_shape3 hown4; have g2 : w4.cell? ⟨wa.heap.size, 2, none⟩ = some (.slice oa k oc) := (hg4.cell_far _ (by simp; omega) hne).trans (Wb.Ext.keep (show Wb.Ext wr _ from (((Wb.Ext.refl wr).alloc _).alloc _)) hc2); have gf : ∀ j, w4.frozen? ⟨wa.heap.size, j, none⟩ = false := fun j => (hg4.frozen_far _ (by simp; omega) hne).trans ((Below.frozen (show Wb.Ext wr _ from (((Wb.Ext.refl wr).alloc _).alloc _)) (by simp; omega)).trans (hcf j)); have g0 : w4.cell? ⟨wa.heap.size, 0, none⟩ = some (.int .i64 my2) := (hg4.cell_far _ (by simp; omega) hne).trans (Wb.Ext.keep (show Wb.Ext wr _ from (((Wb.Ext.refl wr).alloc _).alloc _)) hc0); have g1 : w4.cell? ⟨wa.heap.size, 1, none⟩ = some (.int .i64 mi2) := (hg4.cell_far _ (by simp; omega) hne).trans (Wb.Ext.keep (show Wb.Ext wr _ from (((Wb.Ext.refl wr).alloc _).alloc _)) hc1))
        have hE4 : Wb.Ext wa w4 := Wb.Ext.grown (show Wb.Ext wa _ from ((hext.alloc _).alloc _)) hg4 (fun r hr => by have := HO.out.lt r hr; omega)
        have hE5 := ext_set hE4 (p := ⟨wa.heap.size, 2, none⟩) (by simp) (.slice na (k + 1) nc)
        have HO4 := Lib.hid (row_set hown4 (p := ⟨wa.heap.size, 2, none⟩) (by simp) (.slice na (k + 1) nc))
        clear hown4 hg4 hE4
        go_wp2
        go_roundw
        case rel =>
          refine ⟨k + 1, .slice na (k + 1) nc, by go_num, by omega, ?_, by simp [go_sem, g0], by simp [go_sem, g1], by simp [go_sem, g2], by intro j; simp [go_sem, gf], hE5⟩
          rw [HXN.out, lnvs_app]
          simpa [lnvs] using HO4.out
        case measure => simp [intOf] <;> omega
      · have hke : k = l.length := by omega
        subst hke
        have hrow := HO.out
        rw [List.take_length] at hrow
        have hlc := lnsC_of_row (n := l.length) hrow
        have HN := Lib.hid hlc
        have HNS := Lib.hid (neg_sized HS.out)
        have HNP := Lib.hid (neg_plain HCA.out)
        have hz9 : w.heap.size < wr.heap.size := by omega
        clear hrow hlc
        go_wp2_with fail
        refine (merge_any my2 mi2 my2 mi2 _ _ l (Wb.neg l) _ (HL.out.ext (by (repeat' (first | (with_reducible assumption) | (with_reducible exact Wb.Ext.refl _) | (with_reducible refine Wb.Ext.drew ?_) | (with_reducible refine Wb.Ext.drewN ?_ _) | (with_reducible refine Wb.Ext.alloc ?_ _) | (with_reducible refine Wb.Ext.trans ?_ (by assumption)))))) HN.out.1 HS.out HNS.out HC.out HN.out.2).mono ?_; rintro e wb ⟨m, rfl, hm, hbb⟩
        rw [HNP.out] at hm ⊢
        simp only at hm
        obtain ⟨mab, mkb, rfl⟩ := hm.1.shape
        rw [List.length_nil]
        have heb : Wb.Ext w wb := hew.trans hbb
        have a0 := hbb.keep a0
        have a1 := hbb.keep a1
        have a2 := hbb.keep a2
        clear hbb hm
        have hzb := Wb.cell_size a0
        go_wp2_with fail
        refine (awake27_any _ (HTB.out.ext (by (repeat' (first | (with_reducible assumption) | (with_reducible exact Wb.Ext.refl _) | (with_reducible refine Wb.Ext.drew ?_) | (with_reducible refine Wb.Ext.drewN ?_ _) | (with_reducible refine Wb.Ext.alloc ?_ _) | (with_reducible refine Wb.Ext.trans ?_ (by assumption)))))) (HW.out.ext (by (repeat' (first | (with_reducible assumption) | (with_reducible exact Wb.Ext.refl _) | (with_reducible refine Wb.Ext.drew ?_) | (with_reducible refine Wb.Ext.drewN ?_ _) | (with_reducible refine Wb.Ext.alloc ?_ _) | (with_reducible refine Wb.Ext.trans ?_ (by assumption))))))).mono ?_; rintro e wc ⟨rfl, hbc⟩
        have hec : Wb.Ext w wc := by (repeat' (first | (with_reducible assumption) | (with_reducible exact Wb.Ext.refl _) | (with_reducible refine Wb.Ext.drew ?_) | (with_reducible refine Wb.Ext.drewN ?_ _) | (with_reducible refine Wb.Ext.alloc ?_ _) | (with_reducible refine Wb.Ext.trans ?_ (by assumption))))
        have k0 : wc.cell? ⟨wb.heap.size, 0, none⟩ = some (.int .i64 my2) := hbc.keep (by simp [go_sem])
        have k1 : wc.cell? ⟨wb.heap.size, 1, none⟩ = some (.int .i64 mi2) := hbc.keep (by simp [go_sem])
        have k2 : wc.cell? ⟨wb.heap.size, 2, none⟩ = some (.slice mab 0 mkb) := hbc.keep (by simp [go_sem])
        have hbc' : Wb.Ext wb wc := ((Wb.Ext.refl _).alloc _).trans hbc
        have a0 := hbc'.keep a0
        have a1 := hbc'.keep a1
        have a2 := hbc'.keep a2
        clear hbc hbc'
        go_wp2
        go_ret
        exact ⟨rfl, hec⟩
  cases e3 : (t5 == 0)
  case false =>
    go_wp2_with fail
    obtain ⟨W, hW⟩ : ∃ W, W = wa := ⟨_, rfl⟩
    go_loopw [164] (fun iv wr => ∃ (k : Nat) (ov : Value), iv = .int .i64 k ∧ k ≤ l.length ∧ wr.ownsRow (wa.heap.size + 1) 39 3 ov k (lnvs (Wb.neg (l.take k))) ∧ wr.cell? ⟨wa.heap.size, 0, none⟩ = some (.int .i64 my2) ∧ wr.cell? ⟨wa.heap.size, 1, none⟩ = some (.int .i64 mi2) ∧ wr.cell? ⟨wa.heap.size, 2, none⟩ = some ov ∧ (∀ j, wr.frozen? ⟨wa.heap.size, j, none⟩ = false) ∧ Wb.Ext wa wr) (fun iv _ => l.length - (intOf iv).toNat)
    case atStart => exact ⟨0, .slice none 0 0, rfl, by omega, World.ownsRow_nil _ _ _ _, by simp [go_sem], by simp [go_sem], by simp [go_sem], by intro j; simp [go_sem], by (repeat' (first | (with_reducible assumption) | (with_reducible exact Wb.Ext.refl _) | (with_reducible refine Wb.Ext.drew ?_) | (with_reducible refine Wb.Ext.drewN ?_ _) | (with_reducible refine Wb.Ext.alloc ?_ _) | (with_reducible refine Wb.Ext.trans ?_ (by assumption))))⟩
    case round =>
      obtain ⟨k, ov, rfl, hk, hown, hc0, hc1, hc2, hcf, hext⟩ := hrel
      obtain ⟨oa, oc, rfl⟩ := row_shape3 hown
      have HO := Lib.hid hown; clear hown
      have hew : Wb.Ext w wr := hea.trans hext
      have hzr := Wb.cell_size hc0
      have hne : some wa.heap.size ≠ (Value.slice oa k oc).ownBlock := fun h => by have := HO.out.lt _ h.symm; omega
      have a0 := hext.keep a0
      have a1 := hext.keep a1
      have a2 := hext.keep a2
      by_cases hlt : k < l.length
      · obtain ⟨x, hx⟩ := Wb.get_ex hlt
        obtain ⟨bx, ox, rfl, hcx⟩ := HL.out.opened (ne_of_lt hlt)
        obtain ⟨x0', x1', x2'⟩ := hcx k x hx
        have x0 := hew.keep x0'
        have x1 := hew.keep x1'
        have x2 := hew.keep x2'
        have hxb := Wb.cell_size x0'
        have hxb1 : ¬ wr.heap.size = bx := by omega
        have hxb2 : ¬ bx = wr.heap.size := by omega
        have hd1 : ¬ wr.heap.size = wa.heap.size := by omega
        have hd2 : ¬ wa.heap.size = wr.heap.size := by omega
        have HXN := Lib.hid (neg_snoc hx)
        have hxf := (Wb.fits_iff _).1 (Wb.lineErr_ok (HLL.out x (List.mem_of_getElem? hx))).2.2.2.2
        clear hcx hx x0' x1' x2'
        obtain ⟨xp, xs, xn⟩ := x
        simp only at x0 x1 x2 hxf
        obtain ⟨hi1, hi2, hi3, hi4⟩ := HIN.out
        go_wp2_with (at_builtin; (refine Wb.wpList_append_row rfl (.tmp 173) (.tmp 175) 22 rfl (wa.heap.size + 1) 39 i0 (.agg #[.int .i64 0, .string "".toUTF8, .int .i64 0]) 3 32 Tryd.underlying22 hi1 hi2 hi3 hi4 rfl (by decide) _ _ _ rfl ((HO.out.alloc _).alloc _) (.slice (some ⟨wr.heap.size + 1, 0, none⟩) 1 1) rfl 1 (lnv ⟨xp, xs, -xn⟩) (src_three _ _ (by simp) ⟨xp, xs, -xn⟩ _ _) (by intro r hr; simp [lnv] at hr; rcases hr with rfl | rfl | rfl <;> rfl) (by unfold maxLen; omega) (by omega) (by simp; omega) ?_); intro ov2 w4 hown4 hg4 _; obtain ⟨na, nc, rfl⟩ := row_shape3 hown4; have g2 : w4.cell? ⟨wa.heap.size, 2, none⟩ = some (.slice oa k oc) := (hg4.cell_far _ (by simp; omega) hne).trans (Wb.Ext.keep (show Wb.Ext wr _ from (((Wb.Ext.refl wr).alloc _).alloc _)) hc2); have gf : ∀ j, w4.frozen? ⟨wa.heap.size, j, none⟩ = false := fun j => (hg4.frozen_far _ (by simp; omega) hne).trans ((Below.frozen (show Wb.Ext wr _ from (((Wb.Ext.refl wr).alloc _).alloc _)) (by simp; omega)).trans (hcf j)); have g0 : w4.cell? ⟨wa.heap.size, 0, none⟩ = some (.int .i64 my2) := (hg4.cell_far _ (by simp; omega) hne).trans (Wb.Ext.keep (show Wb.Ext wr _ from (((Wb.Ext.refl wr).alloc _).alloc _)) hc0); have g1 : w4.cell? ⟨wa.heap.size, 1, none⟩ = some (.int .i64 mi2) := (hg4.cell_far _ (by simp; omega) hne).trans (Wb.Ext.keep (show Wb.Ext wr _ from (((Wb.Ext.refl wr).alloc _).alloc _)) hc1))
        have hE4 : Wb.Ext wa w4 := Wb.Ext.grown (show Wb.Ext wa _ from ((hext.alloc _).alloc _)) hg4 (fun r hr => by have := HO.out.lt r hr; omega)
        have hE5 := ext_set hE4 (p := ⟨wa.heap.size, 2, none⟩) (by simp) (.slice na (k + 1) nc)
        have HO4 := Lib.hid (row_set hown4 (p := ⟨wa.heap.size, 2, none⟩) (by simp) (.slice na (k + 1) nc))
        clear hown4 hg4 hE4
        go_wp2
        go_roundw
        case rel =>
          refine ⟨k + 1, .slice na (k + 1) nc, by go_num, by omega, ?_, by simp [go_sem, g0], by simp [go_sem, g1], by simp [go_sem, g2], by intro j; simp [go_sem, gf], hE5⟩
          rw [HXN.out, lnvs_app]
          simpa [lnvs] using HO4.out
        case measure => simp [intOf] <;> omega
      · have hke : k = l.length := by omega
        subst hke
        have hrow := HO.out
        rw [List.take_length] at hrow
        have hlc := lnsC_of_row (n := l.length) hrow
        have HN := Lib.hid hlc
        have HNS := Lib.hid (neg_sized HS.out)
        have HNP := Lib.hid (neg_plain HCA.out)
        have hz9 : w.heap.size < wr.heap.size := by omega
        clear hrow hlc
        go_wp2_with fail
        refine (merge_any my2 mi2 my2 mi2 _ _ l (Wb.neg l) _ (HL.out.ext (by (repeat' (first | (with_reducible assumption) | (with_reducible exact Wb.Ext.refl _) | (with_reducible refine Wb.Ext.drew ?_) | (with_reducible refine Wb.Ext.drewN ?_ _) | (with_reducible refine Wb.Ext.alloc ?_ _) | (with_reducible refine Wb.Ext.trans ?_ (by assumption)))))) HN.out.1 HS.out HNS.out HC.out HN.out.2).mono ?_; rintro e wb ⟨m, rfl, hm, hbb⟩
        rw [HNP.out] at hm ⊢
        simp only at hm
        obtain ⟨mab, mkb, rfl⟩ := hm.1.shape
        rw [List.length_nil]
        have heb : Wb.Ext w wb := hew.trans hbb
        have a0 := hbb.keep a0
        have a1 := hbb.keep a1
        have a2 := hbb.keep a2
        clear hbb hm
        have hzb := Wb.cell_size a0
        go_wp2_with fail
        refine (awake27_any _ (HTB.out.ext (by (repeat' (first | (with_reducible assumption) | (with_reducible exact Wb.Ext.refl _) | (with_reducible refine Wb.Ext.drew ?_) | (with_reducible refine Wb.Ext.drewN ?_ _) | (with_reducible refine Wb.Ext.alloc ?_ _) | (with_reducible refine Wb.Ext.trans ?_ (by assumption)))))) (HW.out.ext (by (repeat' (first | (with_reducible assumption) | (with_reducible exact Wb.Ext.refl _) | (with_reducible refine Wb.Ext.drew ?_) | (with_reducible refine Wb.Ext.drewN ?_ _) | (with_reducible refine Wb.Ext.alloc ?_ _) | (with_reducible refine Wb.Ext.trans ?_ (by assumption))))))).mono ?_; rintro e wc ⟨rfl, hbc⟩
        have hec : Wb.Ext w wc := by (repeat' (first | (with_reducible assumption) | (with_reducible exact Wb.Ext.refl _) | (with_reducible refine Wb.Ext.drew ?_) | (with_reducible refine Wb.Ext.drewN ?_ _) | (with_reducible refine Wb.Ext.alloc ?_ _) | (with_reducible refine Wb.Ext.trans ?_ (by assumption))))
        have k0 : wc.cell? ⟨wb.heap.size, 0, none⟩ = some (.int .i64 my2) := hbc.keep (by simp [go_sem])
        have k1 : wc.cell? ⟨wb.heap.size, 1, none⟩ = some (.int .i64 mi2) := hbc.keep (by simp [go_sem])
        have k2 : wc.cell? ⟨wb.heap.size, 2, none⟩ = some (.slice mab 0 mkb) := hbc.keep (by simp [go_sem])
        have hbc' : Wb.Ext wb wc := ((Wb.Ext.refl _).alloc _).trans hbc
        have a0 := hbc'.keep a0
        have a1 := hbc'.keep a1
        have a2 := hbc'.keep a2
        clear hbc hbc'
        go_wp2
        go_ret
        exact ⟨rfl, hec⟩
  obtain ⟨k1, k2, k3, k4⟩ := HADD.out (by simpa using e1) (by simpa using e2) (by simpa using e3)
  have x1 : (t1 != q1 + r1) = false := by simp [k1]
  have x2 : (t2 != q2 + r2) = false := by simp [k2]
  have x3 : (t3 != q3 + r3) = false := by simp [k3]
  have x4 : (t4 != q4 + r4) = false := by simp [k4]
  clear k1 k2 k3 k4
  go_wp2_with fail
  obtain ⟨W, hW⟩ : ∃ W, W = wa := ⟨_, rfl⟩
  go_loopw [164] (fun iv wr => ∃ (k : Nat) (ov : Value), iv = .int .i64 k ∧ k ≤ l.length ∧ wr.ownsRow (wa.heap.size + 1) 39 3 ov k (lnvs (Wb.neg (l.take k))) ∧ wr.cell? ⟨wa.heap.size, 0, none⟩ = some (.int .i64 my2) ∧ wr.cell? ⟨wa.heap.size, 1, none⟩ = some (.int .i64 mi2) ∧ wr.cell? ⟨wa.heap.size, 2, none⟩ = some ov ∧ (∀ j, wr.frozen? ⟨wa.heap.size, j, none⟩ = false) ∧ Wb.Ext wa wr) (fun iv _ => l.length - (intOf iv).toNat)
  case atStart => exact ⟨0, .slice none 0 0, rfl, by omega, World.ownsRow_nil _ _ _ _, by simp [go_sem], by simp [go_sem], by simp [go_sem], by intro j; simp [go_sem], by (repeat' (first | (with_reducible assumption) | (with_reducible exact Wb.Ext.refl _) | (with_reducible refine Wb.Ext.drew ?_) | (with_reducible refine Wb.Ext.drewN ?_ _) | (with_reducible refine Wb.Ext.alloc ?_ _) | (with_reducible refine Wb.Ext.trans ?_ (by assumption))))⟩
  case round =>
    obtain ⟨k, ov, rfl, hk, hown, hc0, hc1, hc2, hcf, hext⟩ := hrel
    obtain ⟨oa, oc, rfl⟩ := row_shape3 hown
    have HO := Lib.hid hown; clear hown
    have hew : Wb.Ext w wr := hea.trans hext
    have hzr := Wb.cell_size hc0
    have hne : some wa.heap.size ≠ (Value.slice oa k oc).ownBlock := fun h => by have := HO.out.lt _ h.symm; omega
    have a0 := hext.keep a0
    have a1 := hext.keep a1
    have a2 := hext.keep a2
    by_cases hlt : k < l.length
    · obtain ⟨x, hx⟩ := Wb.get_ex hlt
      obtain ⟨bx, ox, rfl, hcx⟩ := HL.out.opened (ne_of_lt hlt)
      obtain ⟨x0', x1', x2'⟩ := hcx k x hx
      have x0 := hew.keep x0'
      have x1 := hew.keep x1'
      have x2 := hew.keep x2'
      have hxb := Wb.cell_size x0'
      have hxb1 : ¬ wr.heap.size = bx := by omega
      have hxb2 : ¬ bx = wr.heap.size := by omega
      have hd1 : ¬ wr.heap.size = wa.heap.size := by omega
      have hd2 : ¬ wa.heap.size = wr.heap.size := by omega
      have HXN := Lib.hid (neg_snoc hx)
      have hxf := (Wb.fits_iff _).1 (Wb.lineErr_ok (HLL.out x (List.mem_of_getElem? hx))).2.2.2.2
      clear hcx hx x0' x1' x2'
      obtain ⟨xp, xs, xn⟩ := x
      simp only at x0 x1 x2 hxf
      obtain ⟨hi1, hi2, hi3, hi4⟩ := HIN.out
      go_wp2_with (at_builtin; (refine Wb.wpList_append_row rfl (.tmp 173) (.tmp 175) 22 rfl (wa.heap.size + 1) 39 i0 (.agg #[.int .i64 0, .string "".toUTF8, .int .i64 0]) 3 32 Tryd.underlying22 hi1 hi2 hi3 hi4 rfl (by decide) _ _ _ rfl ((HO.out.alloc _).alloc _) (.slice (some ⟨wr.heap.size + 1, 0, none⟩) 1 1) rfl 1 (lnv ⟨xp, xs, -xn⟩) (src_three _ _ (by simp) ⟨xp, xs, -xn⟩ _ _) (by intro r hr; simp [lnv] at hr; rcases hr with rfl | rfl | rfl <;> rfl) (by unfold maxLen; omega) (by omega) (by simp; omega) ?_); intro ov2 w4 hown4 hg4 _; obtain ⟨na, nc, rfl⟩ := row_shape3 hown4; have g2 : w4.cell? ⟨wa.heap.size, 2, none⟩ = some (.slice oa k oc) := (hg4.cell_far _ (by simp; omega) hne).trans (Wb.Ext.keep (show Wb.Ext wr _ from (((Wb.Ext.refl wr).alloc _).alloc _)) hc2); have gf : ∀ j, w4.frozen? ⟨wa.heap.size, j, none⟩ = false := fun j => (hg4.frozen_far _ (by simp; omega) hne).trans ((Below.frozen (show Wb.Ext wr _ from (((Wb.Ext.refl wr).alloc _).alloc _)) (by simp; omega)).trans (hcf j)); have g0 : w4.cell? ⟨wa.heap.size, 0, none⟩ = some (.int .i64 my2) := (hg4.cell_far _ (by simp; omega) hne).trans (Wb.Ext.keep (show Wb.Ext wr _ from (((Wb.Ext.refl wr).alloc _).alloc _)) hc0); have g1 : w4.cell? ⟨wa.heap.size, 1, none⟩ = some (.int .i64 mi2) := (hg4.cell_far _ (by simp; omega) hne).trans (Wb.Ext.keep (show Wb.Ext wr _ from (((Wb.Ext.refl wr).alloc _).alloc _)) hc1))
      have hE4 : Wb.Ext wa w4 := Wb.Ext.grown (show Wb.Ext wa _ from ((hext.alloc _).alloc _)) hg4 (fun r hr => by have := HO.out.lt r hr; omega)
      have hE5 := ext_set hE4 (p := ⟨wa.heap.size, 2, none⟩) (by simp) (.slice na (k + 1) nc)
      have HO4 := Lib.hid (row_set hown4 (p := ⟨wa.heap.size, 2, none⟩) (by simp) (.slice na (k + 1) nc))
      clear hown4 hg4 hE4
      go_wp2
      go_roundw
      case rel =>
        refine ⟨k + 1, .slice na (k + 1) nc, by go_num, by omega, ?_, by simp [go_sem, g0], by simp [go_sem, g1], by simp [go_sem, g2], by intro j; simp [go_sem, gf], hE5⟩
        rw [HXN.out, lnvs_app]
        simpa [lnvs] using HO4.out
      case measure => simp [intOf] <;> omega
    · have hke : k = l.length := by omega
      subst hke
      have hrow := HO.out
      rw [List.take_length] at hrow
      have hlc := lnsC_of_row (n := l.length) hrow
      have HN := Lib.hid hlc
      have HNS := Lib.hid (neg_sized HS.out)
      have HNP := Lib.hid (neg_plain HCA.out)
      have hz9 : w.heap.size < wr.heap.size := by omega
      clear hrow hlc
      go_wp2_with fail
      refine (merge_any my2 mi2 my2 mi2 _ _ l (Wb.neg l) _ (HL.out.ext (by (repeat' (first | (with_reducible assumption) | (with_reducible exact Wb.Ext.refl _) | (with_reducible refine Wb.Ext.drew ?_) | (with_reducible refine Wb.Ext.drewN ?_ _) | (with_reducible refine Wb.Ext.alloc ?_ _) | (with_reducible refine Wb.Ext.trans ?_ (by assumption)))))) HN.out.1 HS.out HNS.out HC.out HN.out.2).mono ?_; rintro e wb ⟨m, rfl, hm, hbb⟩
      rw [HNP.out] at hm ⊢
      simp only at hm
      obtain ⟨mab, mkb, rfl⟩ := hm.1.shape
      rw [List.length_nil]
      have heb : Wb.Ext w wb := hew.trans hbb
      have a0 := hbb.keep a0
      have a1 := hbb.keep a1
      have a2 := hbb.keep a2
      clear hbb hm
      have hzb := Wb.cell_size a0
      go_wp2_with fail
      refine (awake27_any _ (HTB.out.ext (by (repeat' (first | (with_reducible assumption) | (with_reducible exact Wb.Ext.refl _) | (with_reducible refine Wb.Ext.drew ?_) | (with_reducible refine Wb.Ext.drewN ?_ _) | (with_reducible refine Wb.Ext.alloc ?_ _) | (with_reducible refine Wb.Ext.trans ?_ (by assumption)))))) (HW.out.ext (by (repeat' (first | (with_reducible assumption) | (with_reducible exact Wb.Ext.refl _) | (with_reducible refine Wb.Ext.drew ?_) | (with_reducible refine Wb.Ext.drewN ?_ _) | (with_reducible refine Wb.Ext.alloc ?_ _) | (with_reducible refine Wb.Ext.trans ?_ (by assumption))))))).mono ?_; rintro e wc ⟨rfl, hbc⟩
      have hec : Wb.Ext w wc := by (repeat' (first | (with_reducible assumption) | (with_reducible exact Wb.Ext.refl _) | (with_reducible refine Wb.Ext.drew ?_) | (with_reducible refine Wb.Ext.drewN ?_ _) | (with_reducible refine Wb.Ext.alloc ?_ _) | (with_reducible refine Wb.Ext.trans ?_ (by assumption))))
      have k0 : wc.cell? ⟨wb.heap.size, 0, none⟩ = some (.int .i64 my2) := hbc.keep (by simp [go_sem])
      have k1 : wc.cell? ⟨wb.heap.size, 1, none⟩ = some (.int .i64 mi2) := hbc.keep (by simp [go_sem])
      have k2 : wc.cell? ⟨wb.heap.size, 2, none⟩ = some (.slice mab 0 mkb) := hbc.keep (by simp [go_sem])
      have hbc' : Wb.Ext wb wc := ((Wb.Ext.refl _).alloc _).trans hbc
      have a0 := hbc'.keep a0
      have a1 := hbc'.keep a1
      have a2 := hbc'.keep a2
      clear hbc hbc'
      go_wp2
      go_ret
      exact ⟨rfl, hec⟩

end Go.Proofs.YtpiedhjjpmmomaaDoor
