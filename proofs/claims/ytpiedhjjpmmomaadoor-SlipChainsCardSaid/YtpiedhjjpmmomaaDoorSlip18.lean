/- Chapter 27: SlipChains. -/
import Derived.Test.YtpiedhjjpmmomaaDoorSlip17
namespace Go.Proofs.YtpiedhjjpmmomaaDoor
open Go.RowKit
set_option maxRecDepth 4000

theorem chains_plain {y i y' i' y'' i'' : Int} {a b c ml1 ml2 ml3 ml4 : List Wb.Ln} {mc1 my1 mi1 mc2 my2 mi2 mc3 my3 mi3 mc4 my4 mi4 : Int}
    (h1 : Wb.merge y i a y' i' b = (mc1, my1, mi1, ml1)) (h2 : Wb.merge y' i' b y'' i'' c = (mc2, my2, mi2, ml2)) (h3 : Wb.merge my1 mi1 ml1 y'' i'' c = (mc3, my3, mi3, ml3)) (h4 : Wb.merge y i a my2 mi2 ml2 = (mc4, my4, mi4, ml4))
    (e1 : mc1 = 0) (e2 : mc2 = 0) (e3 : mc3 = 0) (e4 : mc4 = 0) : my3 = my4 ∧ mi3 = mi4 ∧ ml3 = ml4 := by
  rcases merge_cases y i y' i' a b with ⟨e, he, h⟩ | ⟨l1, ca, cb, ey, ei, m1, n1, h⟩
  · rw [h] at h1; cases h1; exact absurd e1 he
  rw [h] at h1; cases h1
  rcases merge_cases y' i' y'' i'' b c with ⟨e, he, h⟩ | ⟨l2, cb', cc, ey', ei', m2, n2, h⟩
  · rw [h] at h2; cases h2; exact absurd e2 he
  rw [h] at h2; cases h2
  subst ey ei
  rcases merge_cases y' i' y'' i'' ml1 c with ⟨e, he, h⟩ | ⟨l3, c3, _, _, _, m3, n3, h⟩
  · rw [h] at h3; cases h3; exact absurd e3 he
  rw [h] at h3; cases h3
  rcases merge_cases y' i' y' i' a ml2 with ⟨e, he, h⟩ | ⟨l4, _, c4, _, _, m4, n4, h⟩
  · rw [h] at h4; cases h4; exact absurd e4 he
  rw [h] at h4; cases h4
  have ra := Wb.rise_of ca
  have rb := Wb.rise_of cb
  have rc := Wb.rise_of cc
  exact ⟨rfl, rfl, Wb.mergeL_assoc ⟨ra.1, ra.2.1⟩ ⟨rb.1, rb.2.1⟩ ⟨rc.1, rc.2.1⟩ m1 m2 m3 m4⟩

set_option maxHeartbeats 4000000 in
theorem chains_walk27 (y i : Int) (u : Value) (l : List Wb.Ln) (y' i' : Int) (u' : Value) (l' : List Wb.Ln) (y'' i'' : Int) (u'' : Value) (l'' : List Wb.Ln) (w : World) (hl : LnsC w u l) (hs : Sized l) (hl' : LnsC w u' l') (hs' : Sized l') (hl'' : LnsC w u'' l'') (hs'' : Sized l'') (ht : Tab10 w) (hw : Words w) :
    Calls Tryd.prog 5 #[.agg #[.int .i64 y, .int .i64 i, u], .agg #[.int .i64 y', .int .i64 i', u'], .agg #[.int .i64 y'', .int .i64 i'', u'']] w fun e w' => e = .returned (.bool true) ∧ Wb.Ext w w' := by
  have HL := Lib.hid hl.1
  have HC := Lib.hid hl.2
  have HL' := Lib.hid hl'.1
  have HC' := Lib.hid hl'.2
  have HL'' := Lib.hid hl''.1
  have HC'' := Lib.hid hl''.2
  have hsm1 := merge_sized (y := y) (i := i) (y' := y') (i' := i') hs hs'
  have hsm2 := merge_sized (y := y') (i := i') (y' := y'') (i' := i'') hs' hs''
  have HS := Lib.hid hs
  have HS' := Lib.hid hs'
  have HS'' := Lib.hid hs''
  have HW := Lib.hid hw
  have HTB := Lib.hid ht
  clear hl hs hl' hs' hl'' hs'' hw ht
  obtain ⟨M, hM⟩ : ∃ M, Wb.merge y i l y' i' l' = M := ⟨_, rfl⟩
  obtain ⟨mc1, my1, mi1, ml1⟩ := M
  rw [hM] at hsm1
  simp only at hsm1
  obtain ⟨M, hM2⟩ : ∃ M, Wb.merge y' i' l' y'' i'' l'' = M := ⟨_, rfl⟩
  obtain ⟨mc2, my2, mi2, ml2⟩ := M
  rw [hM2] at hsm2
  simp only at hsm2
  obtain ⟨M, hM3⟩ : ∃ M, Wb.merge my1 mi1 ml1 y'' i'' l'' = M := ⟨_, rfl⟩
  obtain ⟨mc3, my3, mi3, ml3⟩ := M
  obtain ⟨M, hM4⟩ : ∃ M, Wb.merge y i l my2 mi2 ml2 = M := ⟨_, rfl⟩
  obtain ⟨mc4, my4, mi4, ml4⟩ := M
  have hsm3 : Sized ml3 := by have := merge_sized (y := my1) (i := mi1) (y' := y'') (i' := i'') hsm1 HS''.out; rw [hM3] at this; exact this
  have HEQ := Lib.hid (chains_plain hM hM2 hM3 hM4)
  have HM1 := Lib.hid hM
  have HM2 := Lib.hid hM2
  have HM3 := Lib.hid hM3
  have HM4 := Lib.hid hM4
  have HSM1 := Lib.hid hsm1
  have HSM2 := Lib.hid hsm2
  have HSM3 := Lib.hid hsm3
  clear hM hM2 hM3 hM4 hsm1 hsm2 hsm3
  go_enter Tryd.func5, Tryd.ntmps5
  go_wp2_with fail
  refine (small_any y i u l _ (HL.out.ext (by (repeat' (first | (with_reducible assumption) | (with_reducible exact Wb.Ext.refl _) | (with_reducible refine Wb.Ext.drew ?_) | (with_reducible refine Wb.Ext.drewN ?_ _) | (with_reducible refine Wb.Ext.alloc ?_ _) | (with_reducible refine Wb.Ext.trans ?_ (by assumption)))))) HS.out).mono ?_; rintro e w1 ⟨sm, rfl, hb1⟩
  have he1 : Wb.Ext w w1 := by (repeat' (first | (with_reducible assumption) | (with_reducible exact Wb.Ext.refl _) | (with_reducible refine Wb.Ext.drew ?_) | (with_reducible refine Wb.Ext.drewN ?_ _) | (with_reducible refine Wb.Ext.alloc ?_ _) | (with_reducible refine Wb.Ext.trans ?_ (by assumption))))
  have a0 : w1.cell? ⟨w.heap.size, 0, none⟩ = some (.int .i64 y) := hb1.keep (by simp [go_sem])
  have a1 : w1.cell? ⟨w.heap.size, 1, none⟩ = some (.int .i64 i) := hb1.keep (by simp [go_sem])
  have a2 : w1.cell? ⟨w.heap.size, 2, none⟩ = some (u) := hb1.keep (by simp [go_sem])
  have b0 : w1.cell? ⟨w.heap.size + 1, 0, none⟩ = some (.int .i64 y') := hb1.keep (by simp [go_sem])
  have b1 : w1.cell? ⟨w.heap.size + 1, 1, none⟩ = some (.int .i64 i') := hb1.keep (by simp [go_sem])
  have b2 : w1.cell? ⟨w.heap.size + 1, 2, none⟩ = some (u') := hb1.keep (by simp [go_sem])
  have c0 : w1.cell? ⟨w.heap.size + 1 + 1, 0, none⟩ = some (.int .i64 y'') := hb1.keep (by simp [go_sem])
  have c1 : w1.cell? ⟨w.heap.size + 1 + 1, 1, none⟩ = some (.int .i64 i'') := hb1.keep (by simp [go_sem])
  have c2 : w1.cell? ⟨w.heap.size + 1 + 1, 2, none⟩ = some (u'') := hb1.keep (by simp [go_sem])
  clear hb1
  cases sm
  · go_wp2_with fail
    refine (awake27_any _ (HTB.out.ext (by (repeat' (first | (with_reducible assumption) | (with_reducible exact Wb.Ext.refl _) | (with_reducible refine Wb.Ext.drew ?_) | (with_reducible refine Wb.Ext.drewN ?_ _) | (with_reducible refine Wb.Ext.alloc ?_ _) | (with_reducible refine Wb.Ext.trans ?_ (by assumption)))))) (HW.out.ext (by (repeat' (first | (with_reducible assumption) | (with_reducible exact Wb.Ext.refl _) | (with_reducible refine Wb.Ext.drew ?_) | (with_reducible refine Wb.Ext.drewN ?_ _) | (with_reducible refine Wb.Ext.alloc ?_ _) | (with_reducible refine Wb.Ext.trans ?_ (by assumption))))))).mono ?_; rintro e wz ⟨rfl, hbz⟩
    go_wp2
    go_ret
    exact ⟨rfl, by (repeat' (first | (with_reducible assumption) | (with_reducible exact Wb.Ext.refl _) | (with_reducible refine Wb.Ext.drew ?_) | (with_reducible refine Wb.Ext.drewN ?_ _) | (with_reducible refine Wb.Ext.alloc ?_ _) | (with_reducible refine Wb.Ext.trans ?_ (by assumption))))⟩
  go_wp2_with fail
  refine (small_any y' i' u' l' _ (HL'.out.ext (by (repeat' (first | (with_reducible assumption) | (with_reducible exact Wb.Ext.refl _) | (with_reducible refine Wb.Ext.drew ?_) | (with_reducible refine Wb.Ext.drewN ?_ _) | (with_reducible refine Wb.Ext.alloc ?_ _) | (with_reducible refine Wb.Ext.trans ?_ (by assumption)))))) HS'.out).mono ?_; rintro e w2 ⟨sm, rfl, hb2⟩
  have he2 : Wb.Ext w w2 := by (repeat' (first | (with_reducible assumption) | (with_reducible exact Wb.Ext.refl _) | (with_reducible refine Wb.Ext.drew ?_) | (with_reducible refine Wb.Ext.drewN ?_ _) | (with_reducible refine Wb.Ext.alloc ?_ _) | (with_reducible refine Wb.Ext.trans ?_ (by assumption))))
  have a0 := hb2.keep a0
  have a1 := hb2.keep a1
  have a2 := hb2.keep a2
  have b0 := hb2.keep b0
  have b1 := hb2.keep b1
  have b2 := hb2.keep b2
  have c0 := hb2.keep c0
  have c1 := hb2.keep c1
  have c2 := hb2.keep c2
  clear hb2 he1
  cases sm
  · go_wp2_with fail
    refine (awake27_any _ (HTB.out.ext (by (repeat' (first | (with_reducible assumption) | (with_reducible exact Wb.Ext.refl _) | (with_reducible refine Wb.Ext.drew ?_) | (with_reducible refine Wb.Ext.drewN ?_ _) | (with_reducible refine Wb.Ext.alloc ?_ _) | (with_reducible refine Wb.Ext.trans ?_ (by assumption)))))) (HW.out.ext (by (repeat' (first | (with_reducible assumption) | (with_reducible exact Wb.Ext.refl _) | (with_reducible refine Wb.Ext.drew ?_) | (with_reducible refine Wb.Ext.drewN ?_ _) | (with_reducible refine Wb.Ext.alloc ?_ _) | (with_reducible refine Wb.Ext.trans ?_ (by assumption))))))).mono ?_; rintro e wz ⟨rfl, hbz⟩
    go_wp2
    go_ret
    exact ⟨rfl, by (repeat' (first | (with_reducible assumption) | (with_reducible exact Wb.Ext.refl _) | (with_reducible refine Wb.Ext.drew ?_) | (with_reducible refine Wb.Ext.drewN ?_ _) | (with_reducible refine Wb.Ext.alloc ?_ _) | (with_reducible refine Wb.Ext.trans ?_ (by assumption))))⟩
  go_wp2_with fail
  refine (small_any y'' i'' u'' l'' _ (HL''.out.ext (by (repeat' (first | (with_reducible assumption) | (with_reducible exact Wb.Ext.refl _) | (with_reducible refine Wb.Ext.drew ?_) | (with_reducible refine Wb.Ext.drewN ?_ _) | (with_reducible refine Wb.Ext.alloc ?_ _) | (with_reducible refine Wb.Ext.trans ?_ (by assumption)))))) HS''.out).mono ?_; rintro e w3 ⟨sm, rfl, hb3⟩
  have he3 : Wb.Ext w w3 := by (repeat' (first | (with_reducible assumption) | (with_reducible exact Wb.Ext.refl _) | (with_reducible refine Wb.Ext.drew ?_) | (with_reducible refine Wb.Ext.drewN ?_ _) | (with_reducible refine Wb.Ext.alloc ?_ _) | (with_reducible refine Wb.Ext.trans ?_ (by assumption))))
  have a0 := hb3.keep a0
  have a1 := hb3.keep a1
  have a2 := hb3.keep a2
  have b0 := hb3.keep b0
  have b1 := hb3.keep b1
  have b2 := hb3.keep b2
  have c0 := hb3.keep c0
  have c1 := hb3.keep c1
  have c2 := hb3.keep c2
  clear hb3 he2
  cases sm
  · go_wp2_with fail
    refine (awake27_any _ (HTB.out.ext (by (repeat' (first | (with_reducible assumption) | (with_reducible exact Wb.Ext.refl _) | (with_reducible refine Wb.Ext.drew ?_) | (with_reducible refine Wb.Ext.drewN ?_ _) | (with_reducible refine Wb.Ext.alloc ?_ _) | (with_reducible refine Wb.Ext.trans ?_ (by assumption)))))) (HW.out.ext (by (repeat' (first | (with_reducible assumption) | (with_reducible exact Wb.Ext.refl _) | (with_reducible refine Wb.Ext.drew ?_) | (with_reducible refine Wb.Ext.drewN ?_ _) | (with_reducible refine Wb.Ext.alloc ?_ _) | (with_reducible refine Wb.Ext.trans ?_ (by assumption))))))).mono ?_; rintro e wz ⟨rfl, hbz⟩
    go_wp2
    go_ret
    exact ⟨rfl, by (repeat' (first | (with_reducible assumption) | (with_reducible exact Wb.Ext.refl _) | (with_reducible refine Wb.Ext.drew ?_) | (with_reducible refine Wb.Ext.drewN ?_ _) | (with_reducible refine Wb.Ext.alloc ?_ _) | (with_reducible refine Wb.Ext.trans ?_ (by assumption))))⟩
  go_wp2_with fail
  refine (merge_any y i y' i' u u' l l' _ (HL.out.ext (by (repeat' (first | (with_reducible assumption) | (with_reducible exact Wb.Ext.refl _) | (with_reducible refine Wb.Ext.drew ?_) | (with_reducible refine Wb.Ext.drewN ?_ _) | (with_reducible refine Wb.Ext.alloc ?_ _) | (with_reducible refine Wb.Ext.trans ?_ (by assumption)))))) (HL'.out.ext (by (repeat' (first | (with_reducible assumption) | (with_reducible exact Wb.Ext.refl _) | (with_reducible refine Wb.Ext.drew ?_) | (with_reducible refine Wb.Ext.drewN ?_ _) | (with_reducible refine Wb.Ext.alloc ?_ _) | (with_reducible refine Wb.Ext.trans ?_ (by assumption)))))) HS.out HS'.out HC.out HC'.out).mono ?_; rintro e w4 ⟨m, rfl, hm, hb4⟩
  rw [HM1.out] at hm ⊢
  simp only at hm
  obtain ⟨ma4, mk4, rfl⟩ := hm.1.shape
  have he4 : Wb.Ext w w4 := by (repeat' (first | (with_reducible assumption) | (with_reducible exact Wb.Ext.refl _) | (with_reducible refine Wb.Ext.drew ?_) | (with_reducible refine Wb.Ext.drewN ?_ _) | (with_reducible refine Wb.Ext.alloc ?_ _) | (with_reducible refine Wb.Ext.trans ?_ (by assumption))))
  have a0 := hb4.keep a0
  have a1 := hb4.keep a1
  have a2 := hb4.keep a2
  have b0 := hb4.keep b0
  have b1 := hb4.keep b1
  have b2 := hb4.keep b2
  have c0 := hb4.keep c0
  have c1 := hb4.keep c1
  have c2 := hb4.keep c2
  have hz4 := Wb.cell_size c0
  have hz4' : w.heap.size + 1 < w4.heap.size := by omega
  have hz4'' : w.heap.size < w4.heap.size := by omega
  have HR1 := Lib.hid hm
  clear hb4 hm he3
  go_wp2_with fail
  refine (merge_any y' i' y'' i'' u' u'' l' l'' _ (HL'.out.ext (by (repeat' (first | (with_reducible assumption) | (with_reducible exact Wb.Ext.refl _) | (with_reducible refine Wb.Ext.drew ?_) | (with_reducible refine Wb.Ext.drewN ?_ _) | (with_reducible refine Wb.Ext.alloc ?_ _) | (with_reducible refine Wb.Ext.trans ?_ (by assumption)))))) (HL''.out.ext (by (repeat' (first | (with_reducible assumption) | (with_reducible exact Wb.Ext.refl _) | (with_reducible refine Wb.Ext.drew ?_) | (with_reducible refine Wb.Ext.drewN ?_ _) | (with_reducible refine Wb.Ext.alloc ?_ _) | (with_reducible refine Wb.Ext.trans ?_ (by assumption)))))) HS'.out HS''.out HC'.out HC''.out).mono ?_; rintro e w5 ⟨m, rfl, hm, hb5⟩
  rw [HM2.out] at hm ⊢
  simp only at hm
  obtain ⟨ma5, mk5, rfl⟩ := hm.1.shape
  have he5 : Wb.Ext w w5 := by (repeat' (first | (with_reducible assumption) | (with_reducible exact Wb.Ext.refl _) | (with_reducible refine Wb.Ext.drew ?_) | (with_reducible refine Wb.Ext.drewN ?_ _) | (with_reducible refine Wb.Ext.alloc ?_ _) | (with_reducible refine Wb.Ext.trans ?_ (by assumption))))
  have hb45 : Wb.Ext w4 w5 := ((Wb.Ext.refl _).alloc _).trans hb5
  have a0 := hb45.keep a0
  have a1 := hb45.keep a1
  have a2 := hb45.keep a2
  have b0 := hb45.keep b0
  have b1 := hb45.keep b1
  have b2 := hb45.keep b2
  have c0 := hb45.keep c0
  have c1 := hb45.keep c1
  have c2 := hb45.keep c2
  have d0 : w5.cell? ⟨w4.heap.size, 0, none⟩ = some (.int .i64 my1) := hb5.keep (by simp [go_sem])
  have d1 : w5.cell? ⟨w4.heap.size, 1, none⟩ = some (.int .i64 mi1) := hb5.keep (by simp [go_sem])
  have d2 : w5.cell? ⟨w4.heap.size, 2, none⟩ = some (.slice ma4 ml1.length mk4) := hb5.keep (by simp [go_sem])
  have hz5 := Wb.cell_size d0
  have hz5' : w.heap.size + 1 + 1 < w5.heap.size := by omega
  have hz5'' : w.heap.size + 1 < w5.heap.size := by omega
  have hz5z : w.heap.size < w5.heap.size := by omega
  have HR1 := Lib.hid (HR1.out.ext hb45)
  have HR2 := Lib.hid hm
  clear hb5 hm he4 hb45 hz4 hz4' hz4''
  cases h1 : (mc1 != 0)
  case true =>
    go_wp2_with fail
    refine (awake27_any _ (HTB.out.ext (by (repeat' (first | (with_reducible assumption) | (with_reducible exact Wb.Ext.refl _) | (with_reducible refine Wb.Ext.drew ?_) | (with_reducible refine Wb.Ext.drewN ?_ _) | (with_reducible refine Wb.Ext.alloc ?_ _) | (with_reducible refine Wb.Ext.trans ?_ (by assumption)))))) (HW.out.ext (by (repeat' (first | (with_reducible assumption) | (with_reducible exact Wb.Ext.refl _) | (with_reducible refine Wb.Ext.drew ?_) | (with_reducible refine Wb.Ext.drewN ?_ _) | (with_reducible refine Wb.Ext.alloc ?_ _) | (with_reducible refine Wb.Ext.trans ?_ (by assumption))))))).mono ?_; rintro e wz ⟨rfl, hbz⟩
    go_wp2
    go_ret
    exact ⟨rfl, by (repeat' (first | (with_reducible assumption) | (with_reducible exact Wb.Ext.refl _) | (with_reducible refine Wb.Ext.drew ?_) | (with_reducible refine Wb.Ext.drewN ?_ _) | (with_reducible refine Wb.Ext.alloc ?_ _) | (with_reducible refine Wb.Ext.trans ?_ (by assumption))))⟩
  cases h2 : (mc2 != 0)
  case true =>
    go_wp2_with fail
    refine (awake27_any _ (HTB.out.ext (by (repeat' (first | (with_reducible assumption) | (with_reducible exact Wb.Ext.refl _) | (with_reducible refine Wb.Ext.drew ?_) | (with_reducible refine Wb.Ext.drewN ?_ _) | (with_reducible refine Wb.Ext.alloc ?_ _) | (with_reducible refine Wb.Ext.trans ?_ (by assumption)))))) (HW.out.ext (by (repeat' (first | (with_reducible assumption) | (with_reducible exact Wb.Ext.refl _) | (with_reducible refine Wb.Ext.drew ?_) | (with_reducible refine Wb.Ext.drewN ?_ _) | (with_reducible refine Wb.Ext.alloc ?_ _) | (with_reducible refine Wb.Ext.trans ?_ (by assumption))))))).mono ?_; rintro e wz ⟨rfl, hbz⟩
    go_wp2
    go_ret
    exact ⟨rfl, by (repeat' (first | (with_reducible assumption) | (with_reducible exact Wb.Ext.refl _) | (with_reducible refine Wb.Ext.drew ?_) | (with_reducible refine Wb.Ext.drewN ?_ _) | (with_reducible refine Wb.Ext.alloc ?_ _) | (with_reducible refine Wb.Ext.trans ?_ (by assumption))))⟩
  go_wp2_with fail
  refine (merge_any my1 mi1 y'' i'' _ u'' ml1 l'' _ (HR1.out.1.ext ((Wb.Ext.refl _).alloc _)) (HL''.out.ext (by (repeat' (first | (with_reducible assumption) | (with_reducible exact Wb.Ext.refl _) | (with_reducible refine Wb.Ext.drew ?_) | (with_reducible refine Wb.Ext.drewN ?_ _) | (with_reducible refine Wb.Ext.alloc ?_ _) | (with_reducible refine Wb.Ext.trans ?_ (by assumption)))))) HSM1.out HS''.out HR1.out.2 HC''.out).mono ?_; rintro e w6 ⟨m, rfl, hm, hb6⟩
  rw [HM3.out] at hm ⊢
  simp only at hm
  obtain ⟨ma6, mk6, rfl⟩ := hm.1.shape
  have he6 : Wb.Ext w w6 := by (repeat' (first | (with_reducible assumption) | (with_reducible exact Wb.Ext.refl _) | (with_reducible refine Wb.Ext.drew ?_) | (with_reducible refine Wb.Ext.drewN ?_ _) | (with_reducible refine Wb.Ext.alloc ?_ _) | (with_reducible refine Wb.Ext.trans ?_ (by assumption))))
  have hb56 : Wb.Ext w5 w6 := ((Wb.Ext.refl _).alloc _).trans hb6
  have a0 := hb56.keep a0
  have a1 := hb56.keep a1
  have a2 := hb56.keep a2
  have g0 : w6.cell? ⟨w5.heap.size, 0, none⟩ = some (.int .i64 my2) := hb6.keep (by simp [go_sem])
  have g1 : w6.cell? ⟨w5.heap.size, 1, none⟩ = some (.int .i64 mi2) := hb6.keep (by simp [go_sem])
  have g2 : w6.cell? ⟨w5.heap.size, 2, none⟩ = some (.slice ma5 ml2.length mk5) := hb6.keep (by simp [go_sem])
  have hz6 := Wb.cell_size g0
  have hz6' : w.heap.size < w6.heap.size := by omega
  have HR2 := Lib.hid (HR2.out.ext hb56)
  have HR3 := Lib.hid hm
  clear hb6 hm he5 hb56 b0 b1 b2 c0 c1 c2 d0 d1 d2 HR1
  go_wp2_with fail
  refine (merge_any y i my2 mi2 u _ l ml2 _ (HL.out.ext (by (repeat' (first | (with_reducible assumption) | (with_reducible exact Wb.Ext.refl _) | (with_reducible refine Wb.Ext.drew ?_) | (with_reducible refine Wb.Ext.drewN ?_ _) | (with_reducible refine Wb.Ext.alloc ?_ _) | (with_reducible refine Wb.Ext.trans ?_ (by assumption)))))) (HR2.out.1.ext ((Wb.Ext.refl _).alloc _)) HS.out HSM2.out HC.out HR2.out.2).mono ?_; rintro e w7 ⟨m, rfl, hm, hb7⟩
  rw [HM4.out] at hm ⊢
  simp only at hm
  obtain ⟨ma7, mk7, rfl⟩ := hm.1.shape
  have he7 : Wb.Ext w w7 := by (repeat' (first | (with_reducible assumption) | (with_reducible exact Wb.Ext.refl _) | (with_reducible refine Wb.Ext.drew ?_) | (with_reducible refine Wb.Ext.drewN ?_ _) | (with_reducible refine Wb.Ext.alloc ?_ _) | (with_reducible refine Wb.Ext.trans ?_ (by assumption))))
  have hb67 : Wb.Ext w6 w7 := ((Wb.Ext.refl _).alloc _).trans hb7
  have k0 : w7.cell? ⟨w6.heap.size, 0, none⟩ = some (.int .i64 my3) := hb7.keep (by simp [go_sem])
  have k1 : w7.cell? ⟨w6.heap.size, 1, none⟩ = some (.int .i64 mi3) := hb7.keep (by simp [go_sem])
  have k2 : w7.cell? ⟨w6.heap.size, 2, none⟩ = some (.slice ma6 ml3.length mk6) := hb7.keep (by simp [go_sem])
  have hz7 := Wb.cell_size k0
  have HR3 := Lib.hid (HR3.out.1.ext hb67)
  have HR4 := Lib.hid hm.1
  clear hb7 hm he6 hb67 a0 a1 a2 g0 g1 g2 HR2
  cases h3 : (mc3 != 0)
  case true =>
    go_wp2_with fail
    refine (awake27_any _ (HTB.out.ext (by (repeat' (first | (with_reducible assumption) | (with_reducible exact Wb.Ext.refl _) | (with_reducible refine Wb.Ext.drew ?_) | (with_reducible refine Wb.Ext.drewN ?_ _) | (with_reducible refine Wb.Ext.alloc ?_ _) | (with_reducible refine Wb.Ext.trans ?_ (by assumption)))))) (HW.out.ext (by (repeat' (first | (with_reducible assumption) | (with_reducible exact Wb.Ext.refl _) | (with_reducible refine Wb.Ext.drew ?_) | (with_reducible refine Wb.Ext.drewN ?_ _) | (with_reducible refine Wb.Ext.alloc ?_ _) | (with_reducible refine Wb.Ext.trans ?_ (by assumption))))))).mono ?_; rintro e wz ⟨rfl, hbz⟩
    go_wp2
    go_ret
    exact ⟨rfl, by (repeat' (first | (with_reducible assumption) | (with_reducible exact Wb.Ext.refl _) | (with_reducible refine Wb.Ext.drew ?_) | (with_reducible refine Wb.Ext.drewN ?_ _) | (with_reducible refine Wb.Ext.alloc ?_ _) | (with_reducible refine Wb.Ext.trans ?_ (by assumption))))⟩
  cases h4 : (mc4 != 0)
  case true =>
    go_wp2_with fail
    refine (awake27_any _ (HTB.out.ext (by (repeat' (first | (with_reducible assumption) | (with_reducible exact Wb.Ext.refl _) | (with_reducible refine Wb.Ext.drew ?_) | (with_reducible refine Wb.Ext.drewN ?_ _) | (with_reducible refine Wb.Ext.alloc ?_ _) | (with_reducible refine Wb.Ext.trans ?_ (by assumption)))))) (HW.out.ext (by (repeat' (first | (with_reducible assumption) | (with_reducible exact Wb.Ext.refl _) | (with_reducible refine Wb.Ext.drew ?_) | (with_reducible refine Wb.Ext.drewN ?_ _) | (with_reducible refine Wb.Ext.alloc ?_ _) | (with_reducible refine Wb.Ext.trans ?_ (by assumption))))))).mono ?_; rintro e wz ⟨rfl, hbz⟩
    go_wp2
    go_ret
    exact ⟨rfl, by (repeat' (first | (with_reducible assumption) | (with_reducible exact Wb.Ext.refl _) | (with_reducible refine Wb.Ext.drew ?_) | (with_reducible refine Wb.Ext.drewN ?_ _) | (with_reducible refine Wb.Ext.alloc ?_ _) | (with_reducible refine Wb.Ext.trans ?_ (by assumption))))⟩
  have heq := HEQ.out (by simpa using h1) (by simpa using h2) (by simpa using h3) (by simpa using h4)
  obtain ⟨hy, hi, hll⟩ := heq
  subst hy hi hll
  have HE8 := Lib.hid ((Wb.Ext.refl w7).alloc (.cells #[.int .i64 my3, .int .i64 mi3, .slice ma7 ml3.length mk7] 24))
  go_wp2_with fail
  refine (awake27_any _ (HTB.out.ext (by (repeat' (first | (with_reducible assumption) | (with_reducible exact Wb.Ext.refl _) | (with_reducible refine Wb.Ext.drew ?_) | (with_reducible refine Wb.Ext.drewN ?_ _) | (with_reducible refine Wb.Ext.alloc ?_ _) | (with_reducible refine Wb.Ext.trans ?_ (by assumption)))))) (HW.out.ext (by (repeat' (first | (with_reducible assumption) | (with_reducible exact Wb.Ext.refl _) | (with_reducible refine Wb.Ext.drew ?_) | (with_reducible refine Wb.Ext.drewN ?_ _) | (with_reducible refine Wb.Ext.alloc ?_ _) | (with_reducible refine Wb.Ext.trans ?_ (by assumption))))))).mono ?_; rintro e w8 ⟨rfl, hb8⟩
  have he8 : Wb.Ext w w8 := by (repeat' (first | (with_reducible assumption) | (with_reducible exact Wb.Ext.refl _) | (with_reducible refine Wb.Ext.drew ?_) | (with_reducible refine Wb.Ext.drewN ?_ _) | (with_reducible refine Wb.Ext.alloc ?_ _) | (with_reducible refine Wb.Ext.trans ?_ (by assumption))))
  have hb78 : Wb.Ext w7 w8 := ((Wb.Ext.refl _).alloc _).trans hb8
  have k0 := hb78.keep k0
  have k1 := hb78.keep k1
  have k2 := hb78.keep k2
  have q0 : w8.cell? ⟨w7.heap.size, 0, none⟩ = some (.int .i64 my3) := hb8.keep (by simp [go_sem])
  have q1 : w8.cell? ⟨w7.heap.size, 1, none⟩ = some (.int .i64 mi3) := hb8.keep (by simp [go_sem])
  have q2 : w8.cell? ⟨w7.heap.size, 2, none⟩ = some (.slice ma7 ml3.length mk7) := hb8.keep (by simp [go_sem])
  have HR5 := Lib.hid (HR3.out.ext hb78)
  have HR6 := Lib.hid (HR4.out.ext hb78)
  clear hb8 hb78 he7 HR3 HR4
  go_wp2_with fail
  refine (same_eq my3 mi3 _ _ ml3 _ HR5.out HR6.out HSM3.out).mono ?_; rintro e w9 ⟨rfl, hb9⟩
  go_wp2
  go_ret
  exact ⟨rfl, by (repeat' (first | (with_reducible assumption) | (with_reducible exact Wb.Ext.refl _) | (with_reducible refine Wb.Ext.drew ?_) | (with_reducible refine Wb.Ext.drewN ?_ _) | (with_reducible refine Wb.Ext.alloc ?_ _) | (with_reducible refine Wb.Ext.trans ?_ (by assumption))))⟩

end Go.Proofs.YtpiedhjjpmmomaaDoor
