/- Chapter 6: PeriodFollows: the walk. -/
import Derived.Test.YtalpdodajcdibaaDoorPLaw0
import Derived.Test.YtalpdodajcdibaaDoorPFol
import Derived.Test.YtalpdodajcdibaaDoorPReg21
import Derived.Deep.DeepCutAuto
import Derived.Deep.RegionLaw
import Derived.Deep.DrawnRows
namespace Go.Proofs.YtalpdodajcdibaaDoor
open Go.RowKit
set_option maxRecDepth 8000
attribute [local go_sem ↓] Go.wp_at_zero Go.wp_at_succ
theorem cd06 {w : World} {p : Addr} {v : Value} (h : w.cell? p = some v) : w.drew.cell? p = some v := h

def dayL3 (f t : Int) : List Int := [f, f + 1, t - 1]
theorem follows_no (c : Wb.Cal) (y e0 : Int) (h : ∀ w, Calls Tryd.prog 17 #[CalV c, .int .i64 y] w fun e w' => e = .returned (.tuple #[.slice none 0 0, .int .i64 e0]) ∧ Wb.Ext w w') (he : (e0 != 0) = true) (w : World) (hw : LenC w) (hp : LenP w) (ht : Tab10 w) :
    Calls Tryd.prog 8 #[CalV c, .int .i64 y] w fun e w' => e = .returned (.bool true) ∧ Wb.Ext w w' := by
  have HW := Lib.hid hw
  have HP := Lib.hid hp
  have HT := Lib.hid ht
  have H := Lib.hid h
  clear hw hp ht h
  go_enter Tryd.func8, Tryd.ntmps8
  go_wp2_with fail
  refine (H.out _).mono ?_; rintro e w1 ⟨rfl, hb1⟩
  go_wp2_with fail
  refine (awake06_any _ (HW.out.ext (by (repeat' (first | (with_reducible assumption) | (with_reducible exact Wb.Ext.refl _) | (with_reducible refine Wb.Ext.drew ?_) | (with_reducible refine Wb.Ext.drewN ?_ _) | (with_reducible refine Wb.Ext.alloc ?_ _) | (with_reducible refine Wb.Ext.trans ?_ (by assumption)))))) (HP.out.ext (by (repeat' (first | (with_reducible assumption) | (with_reducible exact Wb.Ext.refl _) | (with_reducible refine Wb.Ext.drew ?_) | (with_reducible refine Wb.Ext.drewN ?_ _) | (with_reducible refine Wb.Ext.alloc ?_ _) | (with_reducible refine Wb.Ext.trans ?_ (by assumption)))))) (HT.out.ext (by (repeat' (first | (with_reducible assumption) | (with_reducible exact Wb.Ext.refl _) | (with_reducible refine Wb.Ext.drew ?_) | (with_reducible refine Wb.Ext.drewN ?_ _) | (with_reducible refine Wb.Ext.alloc ?_ _) | (with_reducible refine Wb.Ext.trans ?_ (by assumption))))))).mono ?_; rintro e w2 ⟨rfl, hb2⟩
  go_wp2
  go_ret
  exact ⟨rfl, by (repeat' (first | (with_reducible assumption) | (with_reducible exact Wb.Ext.refl _) | (with_reducible refine Wb.Ext.drew ?_) | (with_reducible refine Wb.Ext.drewN ?_ _) | (with_reducible refine Wb.Ext.alloc ?_ _) | (with_reducible refine Wb.Ext.trans ?_ (by assumption))))⟩

set_option maxHeartbeats 16000000 in
theorem follows_ok (c : Wb.Cal) (y : Int) (hc : Wb.calErr c = 0) (hy1 : 1900 ≤ y) (hy2 : y ≤ 2199) (w : World) (hw : LenC w) (hp : LenP w) (ht : Tab10 w) :
    Calls Tryd.prog 8 #[CalV c, .int .i64 y] w fun e w' => e = .returned (.bool true) ∧ Wb.Ext w w' := by
  have HW := Lib.hid hw
  have HP := Lib.hid hp
  have HT := Lib.hid ht
  have HCE := Lib.hid hc
  obtain ⟨hm1, hm2⟩ := year_many hc hy1 hy2
  obtain ⟨L, hL⟩ : ∃ L, Wb.yearPers c y = L := ⟨_, rfl⟩
  have HL := Lib.hid hL
  rw [hL] at hm1 hm2
  clear hw hp ht hc hL
  go_enter Tryd.func8, Tryd.ntmps8
  go_wp2_with fail
  refine (year_ok c y HCE.out hy1 hy2 _ (HW.out.ext (by (repeat' (first | (with_reducible assumption) | (with_reducible exact Wb.Ext.refl _) | (with_reducible refine Wb.Ext.drew ?_) | (with_reducible refine Wb.Ext.drewN ?_ _) | (with_reducible refine Wb.Ext.alloc ?_ _) | (with_reducible refine Wb.Ext.trans ?_ (by assumption)))))) (HP.out.ext (by (repeat' (first | (with_reducible assumption) | (with_reducible exact Wb.Ext.refl _) | (with_reducible refine Wb.Ext.drew ?_) | (with_reducible refine Wb.Ext.drewN ?_ _) | (with_reducible refine Wb.Ext.alloc ?_ _) | (with_reducible refine Wb.Ext.trans ?_ (by assumption))))))).mono ?_; rintro e w2 ⟨v, rfl, hv, hb2⟩
  rw [HL.out] at hv
  have HC := Lib.hid (CalB.new (c := c) (T := 24) (w1 := w2) (W := w) hb2 rfl)
  have he2 : Wb.Ext w w2 := by (repeat' (first | (with_reducible assumption) | (with_reducible exact Wb.Ext.refl _) | (with_reducible refine Wb.Ext.drew ?_) | (with_reducible refine Wb.Ext.drewN ?_ _) | (with_reducible refine Wb.Ext.alloc ?_ _) | (with_reducible refine Wb.Ext.trans ?_ (by assumption))))
  obtain ⟨va, vc, rfl⟩ := hv.shape
  have HV := Lib.hid hv
  clear hv hb2
  go_wp2_with fail
  go_loopw [26] (fun iv wr => ∃ k : Nat, k ≤ L.length ∧ iv = .int .i64 k ∧ Wb.Ext w2 wr) (fun iv _ => L.length - (intOf iv).toNat)
  case atStart => exact ⟨0, by omega, rfl, by (repeat' (first | (with_reducible assumption) | (with_reducible exact Wb.Ext.refl _) | (with_reducible refine Wb.Ext.drew ?_) | (with_reducible refine Wb.Ext.drewN ?_ _) | (with_reducible refine Wb.Ext.alloc ?_ _) | (with_reducible refine Wb.Ext.trans ?_ (by assumption))))⟩
  case round =>
    obtain ⟨k, hk, rfl, hext⟩ := hrel
    obtain ⟨wo, hwo⟩ : ∃ wo : World, wo = wr := ⟨_, rfl⟩
    subst hwo
    have hewr : Wb.Ext w wo := he2.trans hext
    by_cases hlt : k < L.length
    · obtain ⟨p, hp⟩ := Wb.get_ex hlt
      obtain ⟨p0, hp0⟩ := Wb.get_ex (l := L) (k := 0) (by omega)
      obtain ⟨b, off, rfl, hcells⟩ := HV.out.opened (tne hlt)
      have HCELL := Lib.hid hcells
      clear hcells
      obtain ⟨pi1, pi2, pi3, pi4⟩ := pers_is (c := c) (k := k) hy1 hy2 (by rw [HL.out]; exact hp)
      rw [HL.out] at pi4
      obtain ⟨y', x', n', f, t, pay⟩ := p
      simp only at pi2 pi3 pi4
      obtain rfl := pi2.symm
      subst pi3 pi4
      have HIS := Lib.hid pi1
      have HGET := Lib.hid hp
      have HGET0 := Lib.hid hp0
      obtain ⟨l1, l2, l3⟩ := pi1.long HCE.out
      obtain ⟨r1, r2, r3, r4, r5⟩ := pi1.pos HCE.out
      simp only at l1 l2 r1 r4 r5
      have hft : decide (t ≤ f) = false := by simp; omega
      have hki : (k : Int) < L.length := by omega
      have hkw : IntKind.i64.wrap ((k : Int) + 1) = (k : Int) + 1 := IntWalk.i64_in _ (by omega)
      have HKW := Lib.hid hkw
      clear hkw pi1 l3 r2 r3 hp hp0
      have hc0 : wo.cell? ⟨b, off + k * 6, none⟩ = some (.int .i64 y) := hext.keep (by have := HCELL.out k _ HGET.out 0 _ rfl; simpa using this)
      have hc1 : wo.cell? ⟨b, off + k * 6 + 1, none⟩ = some (.int .i64 ((k : Int) + 1)) := hext.keep (HCELL.out k _ HGET.out 1 _ rfl)
      have hc2 : wo.cell? ⟨b, off + k * 6 + 2, none⟩ = some (.int .i64 (L.length : Int)) := hext.keep (HCELL.out k _ HGET.out 2 _ rfl)
      have hc3 : wo.cell? ⟨b, off + k * 6 + 3, none⟩ = some (.int .i64 f) := hext.keep (HCELL.out k _ HGET.out 3 _ rfl)
      have hc4 : wo.cell? ⟨b, off + k * 6 + 4, none⟩ = some (.int .i64 t) := hext.keep (HCELL.out k _ HGET.out 4 _ rfl)
      have hc5 : wo.cell? ⟨b, off + k * 6 + 5, none⟩ = some (.int .i64 pay) := hext.keep (HCELL.out k _ HGET.out 5 _ rfl)
      go_upto_region 7 with (fail)
      refine Wb.wp_at fun w3 hw3 => ?_
      have he3 : Wb.Ext (wo.alloc (.cells #[.int .i64 y, .int .i64 ((k : Int) + 1), .int .i64 (L.length : Int), .int .i64 f, .int .i64 t, .int .i64 pay] 28)) w3 := by rw [hw3]; exact Wb.Ext.refl _
      have he3r : Wb.Ext wo w3 := Wb.Ext.trans ((Wb.Ext.refl _).alloc _) he3
      have HPB := Lib.hid (PerB.new (p := ⟨y, (k : Int) + 1, (L.length : Int), f, t, pay⟩) he3 rfl)
      have hew3 : Wb.Ext w w3 := hewr.trans he3r
      have he23 : Wb.Ext w2 w3 := hext.trans he3r
      clear hw3 he3 hc0 hc1 hc2 hc3 hc4 hc5
      obtain ⟨a0, a1, a2, a3, a4, a5⟩ := HPB.out
      simp only at a0 a1 a2 a3 a4 a5
      have hza := Wb.cell_size a0
      go_cut [74] (fun s74 wx => s74 = .bool false ∧ Wb.Ext w3 wx)
      case first => as_aux_lemma =>
        have hkw := HKW.out
        by_cases hk0 : k = 0
        · subst hk0
          go_quiet (fail)
          go_wp2_with fail
          go_meet
          exact ⟨rfl, by (repeat' (first | (with_reducible assumption) | (with_reducible exact Wb.Ext.refl _) | (with_reducible refine Wb.Ext.drew ?_) | (with_reducible refine Wb.Ext.drewN ?_ _) | (with_reducible refine Wb.Ext.alloc ?_ _) | (with_reducible refine Wb.Ext.trans ?_ (by assumption))))⟩
        · obtain ⟨j, hj⟩ : ∃ j, k = j + 1 := ⟨k - 1, by omega⟩
          obtain ⟨q, hq⟩ := Wb.get_ex (l := L) (k := j) (by omega)
          have hqt : q.to_ = f := by
            obtain ⟨q1, q2, q3, _⟩ := pers_is (c := c) (k := j) hy1 hy2 (by rw [HL.out]; exact hq)
            exact q1.touch HCE.out HIS.out (by simp only; omega) (by simp only; omega)
          have hd4 : w3.cell? ⟨b, off + j * 6 + 4, none⟩ = some (.int .i64 f) := by rw [← hqt]; exact he23.keep (HCELL.out j q hq 4 _ rfl)
          have e1 : IntKind.i64.wrap ((k : Int) - 1) = j := by rw [IntWalk.i64_in _ (by omega)]; omega
          have e2 : decide ((0 : Int) < (k : Int)) = true := by simp; omega
          have e3 : decide (0 < k) = true := by simp; omega
          have e4 : (j : Int) < L.length := by omega
          clear hj hq hqt
          go_quiet (fail)
          go_wp2_with fail
          go_meet
          exact ⟨rfl, by (repeat' (first | (with_reducible assumption) | (with_reducible exact Wb.Ext.refl _) | (with_reducible refine Wb.Ext.drew ?_) | (with_reducible refine Wb.Ext.drewN ?_ _) | (with_reducible refine Wb.Ext.alloc ?_ _) | (with_reducible refine Wb.Ext.trans ?_ (by assumption))))⟩
      case rest =>
        obtain ⟨rfl, hcut⟩ := hcut
        have HPB4 := Lib.hid (HPB.out.ext hcut)
        have hew4 : Wb.Ext w wc := hew3.trans hcut
        have he24 : Wb.Ext w2 wc := he23.trans hcut
        obtain ⟨w4, hw4⟩ : ∃ w4 : World, w4 = wc := ⟨_, rfl⟩
        subst hw4
        clear a0 a1 a2 a3 a4 a5 hcut hza
        obtain ⟨a0, a1, a2, a3, a4, a5⟩ := HPB4.out
        simp only at a0 a1 a2 a3 a4 a5
        have hfb : -30000 ≤ f := by omega
        go_wp2_with fail
        refine Wb.wp_at fun w5 hw5 => ?_
        have he5 : Wb.Ext (w4.alloc (.cells #[.int .i64 f, .int .i64 (f + 1), .int .i64 (t - 1)] 22)) w5 := by rw [hw5]; exact Wb.Ext.refl _
        have HD : Hid (∀ j v, (dayL3 f t)[j]? = some v → w5.cell? ⟨w4.heap.size, j, none⟩ = some (.int .i64 v)) := by
          intro j v hj
          match j, hj with
          | 0, hj => simp [dayL3] at hj; subst hj; exact he5.keep (by simp [go_sem])
          | 1, hj => simp [dayL3] at hj; subst hj; exact he5.keep (by simp [go_sem])
          | 2, hj => simp [dayL3] at hj; subst hj; exact he5.keep (by simp [go_sem])
          | j + 3, hj => simp [dayL3] at hj
        have he45 : Wb.Ext w4 w5 := Wb.Ext.trans ((Wb.Ext.refl _).alloc _) he5
        have he25 : Wb.Ext w2 w5 := he24.trans he45
        have hew5 : Wb.Ext w w5 := hew4.trans he45
        have HPB5 := Lib.hid (HPB4.out.ext he45)
        clear hw5 he5 a0 a1 a2 a3 a4 a5
        go_loopw [88] (fun iv wq => ∃ j : Nat, j ≤ 3 ∧ iv = .int .i64 j ∧ Wb.Ext w5 wq) (fun iv _ => 10 - (intOf iv).toNat)
        case atStart => exact ⟨0, by omega, rfl, by (repeat' (first | (with_reducible assumption) | (with_reducible exact Wb.Ext.refl _) | (with_reducible refine Wb.Ext.drew ?_) | (with_reducible refine Wb.Ext.drewN ?_ _) | (with_reducible refine Wb.Ext.alloc ?_ _) | (with_reducible refine Wb.Ext.trans ?_ (by assumption))))⟩
        case round =>
          obtain ⟨j, hj, rfl, hext5⟩ := hrel
          have HPB6 := Lib.hid (HPB5.out.ext hext5)
          obtain ⟨a0, a1, a2, a3, a4, a5⟩ := HPB6.out
          simp only at a0 a1 a2 a3 a4 a5
          have hza := Wb.cell_size a0
          have HC6 := Lib.hid (HC.out.ext (he25.trans hext5))
          obtain ⟨k0, k1, k2⟩ := HC6.out
          have hewq : Wb.Ext w wr := hew5.trans hext5
          by_cases hj3 : j < 3
          · obtain ⟨d, hd⟩ := Wb.get_ex (l := dayL3 f t) (k := j) (by simpa [dayL3] using hj3)
            have hdc := hext5.keep (HD.out j d hd)
            have hji : (j : Int) < 3 := by omega
            have HFD : Hid (findErr c d = 0 ∧ findPer c d = ⟨y, (k : Int) + 1, (L.length : Int), f, t, pay⟩) := by
              have hin : f ≤ d ∧ d < t := by
                have hm := List.mem_of_getElem? hd
                simp [dayL3] at hm
                omega
              exact findErr_is HCE.out (HIS.out.find HCE.out d hin.1 hin.2)
            clear hd
            go_wp2_with fail
            refine (find_any c d _ (HW.out.ext (by (repeat' (first | (with_reducible assumption) | (with_reducible exact Wb.Ext.refl _) | (with_reducible refine Wb.Ext.drew ?_) | (with_reducible refine Wb.Ext.drewN ?_ _) | (with_reducible refine Wb.Ext.alloc ?_ _) | (with_reducible refine Wb.Ext.trans ?_ (by assumption)))))) (HP.out.ext (by (repeat' (first | (with_reducible assumption) | (with_reducible exact Wb.Ext.refl _) | (with_reducible refine Wb.Ext.drew ?_) | (with_reducible refine Wb.Ext.drewN ?_ _) | (with_reducible refine Wb.Ext.alloc ?_ _) | (with_reducible refine Wb.Ext.trans ?_ (by assumption))))))).mono ?_; rintro e w6 ⟨rfl, hb6⟩
            rw [HFD.out.1, HFD.out.2]
            have hew6 : Wb.Ext w5 w6 := hext5.trans hb6
            obtain ⟨g0, g1, g2, g3, g4, g5⟩ := HPB6.out.ext hb6
            simp only at g0 g1 g2 g3 g4 g5
            have hzg := Wb.cell_size g0
            clear hb6 a0 a1 a2 a3 a4 a5 hza k0 k1 k2 hdc
            go_wp2
            go_roundw
            case rel => exact ⟨j + 1, by omega, by go_num, by (repeat' (first | (with_reducible assumption) | (with_reducible exact Wb.Ext.refl _) | (with_reducible refine Wb.Ext.drew ?_) | (with_reducible refine Wb.Ext.drewN ?_ _) | (with_reducible refine Wb.Ext.alloc ?_ _) | (with_reducible refine Wb.Ext.trans ?_ (by assumption))))⟩
            case measure => simp [intOf]; omega
          · obtain ⟨n, hn⟩ : ∃ n, nextPer c ⟨y, (k : Int) + 1, (L.length : Int), f, t, pay⟩ = n := ⟨_, rfl⟩
            obtain ⟨r, hr⟩ : ∃ r, nextErr c ⟨y, (k : Int) + 1, (L.length : Int), f, t, pay⟩ = r := ⟨_, rfl⟩
            have HN := Lib.hid hn
            have HR := Lib.hid hr
            clear hn hr
            go_wp2_with fail
            refine (next_any c ⟨y, (k : Int) + 1, (L.length : Int), f, t, pay⟩ _ (HW.out.ext (by (repeat' (first | (with_reducible assumption) | (with_reducible exact Wb.Ext.refl _) | (with_reducible refine Wb.Ext.drew ?_) | (with_reducible refine Wb.Ext.drewN ?_ _) | (with_reducible refine Wb.Ext.alloc ?_ _) | (with_reducible refine Wb.Ext.trans ?_ (by assumption)))))) (HP.out.ext (by (repeat' (first | (with_reducible assumption) | (with_reducible exact Wb.Ext.refl _) | (with_reducible refine Wb.Ext.drew ?_) | (with_reducible refine Wb.Ext.drewN ?_ _) | (with_reducible refine Wb.Ext.alloc ?_ _) | (with_reducible refine Wb.Ext.trans ?_ (by assumption))))))).mono ?_; rintro e w6 ⟨rfl, hb6⟩
            rw [HN.out, HR.out]
            go_upto_region 17 with (fail)
            refine Wb.wp_at fun w7 hw7 => ?_
            have he7 : Wb.Ext (w6.alloc (.cells #[.int .i64 n.year, .int .i64 n.index, .int .i64 n.of, .int .i64 n.from_, .int .i64 n.to_, .int .i64 n.pay] 28)) w7 := by rw [hw7]; exact Wb.Ext.refl _
            have he57 : Wb.Ext w5 w7 := (hext5.trans hb6).trans (Wb.Ext.trans ((Wb.Ext.refl _).alloc _) he7)
            have HPN := Lib.hid (PerB.new he7 rfl)
            have he27 : Wb.Ext w2 w7 := he25.trans he57
            have hew7 : Wb.Ext w w7 := hew5.trans he57
            have HPB7 := Lib.hid (HPB5.out.ext he57)
            clear hw7 he7 hb6 a0 a1 a2 a3 a4 a5 hza k0 k1 k2 HC6 HPB6 hewq hext5
            have hkw := HKW.out
            go_cut [129] (fun s129 wx => s129 = .bool false ∧ Wb.Ext w7 wx)
            case first => as_aux_lemma =>
              by_cases hl : k + 1 < L.length
              · obtain ⟨q, hq⟩ := Wb.get_ex (l := L) (k := k + 1) hl
                obtain ⟨q1, q2, q3, _⟩ := pers_is (c := c) (k := k + 1) hy1 hy2 (by rw [HL.out]; exact hq)
                have hst := HIS.out.step HCE.out q1 (HIS.out.touch HCE.out q1 (by simp only; omega) (by simp only; omega))
                rw [HN.out, HR.out] at hst
                obtain ⟨rfl, rfl⟩ := hst
                have e1 : decide ((k : Int) + 1 < L.length) = true := by simp; omega
                have e2 : (k : Int) + 1 < L.length := by omega
                obtain ⟨b0, b1, b2, b3, b4, b5⟩ := HPN.out
                have d0 : w7.cell? ⟨b, off + (k + 1) * 6, none⟩ = some (.int .i64 n.year) := he27.keep (by have := HCELL.out (k + 1) n hq 0 _ rfl; simpa using this)
                have d1 : w7.cell? ⟨b, off + (k + 1) * 6 + 1, none⟩ = some (.int .i64 n.index) := he27.keep (HCELL.out (k + 1) n hq 1 _ rfl)
                have d2 : w7.cell? ⟨b, off + (k + 1) * 6 + 2, none⟩ = some (.int .i64 n.of) := he27.keep (HCELL.out (k + 1) n hq 2 _ rfl)
                have d3 : w7.cell? ⟨b, off + (k + 1) * 6 + 3, none⟩ = some (.int .i64 n.from_) := he27.keep (HCELL.out (k + 1) n hq 3 _ rfl)
                have d4 : w7.cell? ⟨b, off + (k + 1) * 6 + 4, none⟩ = some (.int .i64 n.to_) := he27.keep (HCELL.out (k + 1) n hq 4 _ rfl)
                have d5 : w7.cell? ⟨b, off + (k + 1) * 6 + 5, none⟩ = some (.int .i64 n.pay) := he27.keep (HCELL.out (k + 1) n hq 5 _ rfl)
                clear hq q1 q2 q3 hl
                go_quiet (fail)
                go_wp2_with fail
                go_meet
                exact ⟨rfl, by (repeat' (first | (with_reducible assumption) | (with_reducible exact Wb.Ext.refl _) | (with_reducible refine Wb.Ext.drew ?_) | (with_reducible refine Wb.Ext.drewN ?_ _) | (with_reducible refine Wb.Ext.alloc ?_ _) | (with_reducible refine Wb.Ext.trans ?_ (by assumption))))⟩
              · have e1 : decide ((k : Int) + 1 < L.length) = false := by simp; omega
                have e2 : decide (k + 1 < L.length) = false := by simp; omega
                go_quiet (fail)
                go_wp2_with fail
                go_meet
                exact ⟨rfl, by (repeat' (first | (with_reducible assumption) | (with_reducible exact Wb.Ext.refl _) | (with_reducible refine Wb.Ext.drew ?_) | (with_reducible refine Wb.Ext.drewN ?_ _) | (with_reducible refine Wb.Ext.alloc ?_ _) | (with_reducible refine Wb.Ext.trans ?_ (by assumption))))⟩
            case rest =>
              obtain ⟨rfl, hcut⟩ := hcut
              obtain ⟨w8, hw8⟩ : ∃ w8 : World, w8 = wc := ⟨_, rfl⟩
              subst hw8
              have he78 := hcut
              have HPB8 := Lib.hid (HPB7.out.ext hcut)
              have HPN8 := Lib.hid (HPN.out.ext hcut)
              have HC8 := Lib.hid (HC.out.ext (he27.trans hcut))
              have he28 : Wb.Ext w2 w8 := he27.trans hcut
              have hew8 : Wb.Ext w w8 := hew7.trans hcut
              have he58 : Wb.Ext w5 w8 := he57.trans hcut
              clear hcut he78 hkw
              go_upto_region 19 with (fail)
              go_cut [177] (fun s177 wx => s177 = .bool false ∧ Wb.Ext w8 wx)
              case first => as_aux_lemma =>
                by_cases hl : k + 1 < L.length
                · have e1 : ((k : Int) + 1 == L.length) = false := by simp; omega
                  have e2 : (k + 1 == L.length) = false := by simp; omega
                  go_wp2
                  go_meet
                  exact ⟨rfl, by (repeat' (first | (with_reducible assumption) | (with_reducible exact Wb.Ext.refl _) | (with_reducible refine Wb.Ext.drew ?_) | (with_reducible refine Wb.Ext.drewN ?_ _) | (with_reducible refine Wb.Ext.alloc ?_ _) | (with_reducible refine Wb.Ext.trans ?_ (by assumption))))⟩
                · have e1 : ((k : Int) + 1 == L.length) = true := by simp; omega
                  have e2 : (k + 1 == L.length) = true := by simp; omega
                  by_cases hy3 : y < 2199
                  · obtain ⟨q, q1, q2, q3, q4⟩ := HIS.out.turn HCE.out (by simp only; rw [HL.out]; omega) hy3
                    simp only at q2 q3
                    have hst := HIS.out.step HCE.out q1 q2
                    rw [HN.out, HR.out] at hst
                    obtain ⟨rfl, rfl⟩ := hst
                    have hc1 := count_one HCE.out HIS.out q1 q2 (fun h0 => by have := month_len (y := y) h0; rw [HL.out] at this; simp only; omega)
                    have hc2 := (count_facts HCE.out HIS.out q1).2.2.1
                    rw [hc1] at hc2
                    have HC1 := Lib.hid hc1
                    have HC2 := Lib.hid hc2
                    clear hc1 hc2 q1 hl
                    obtain ⟨ny, ni, no, nf, nt, np⟩ := n
                    simp only at q2 q3 q4
                    subst q2 q3 q4
                    obtain ⟨a0, a1, a2, a3, a4, a5⟩ := HPB8.out
                    obtain ⟨b0, b1, b2, b3, b4, b5⟩ := HPN8.out
                    obtain ⟨k0, k1, k2⟩ := HC8.out
                    simp only at a0 a1 a2 a3 a4 a5 b0 b1 b2 b3 b4 b5
                    go_wp2_with fail
                    refine (count_any c ⟨y, (k : Int) + 1, (L.length : Int), f, t, pay⟩ ⟨y + 1, 1, no, t, nt, np⟩ _ (HW.out.ext (by (repeat' (first | (with_reducible assumption) | (with_reducible exact Wb.Ext.refl _) | (with_reducible refine Wb.Ext.drew ?_) | (with_reducible refine Wb.Ext.drewN ?_ _) | (with_reducible refine Wb.Ext.alloc ?_ _) | (with_reducible refine Wb.Ext.trans ?_ (by assumption)))))) (HP.out.ext (by (repeat' (first | (with_reducible assumption) | (with_reducible exact Wb.Ext.refl _) | (with_reducible refine Wb.Ext.drew ?_) | (with_reducible refine Wb.Ext.drewN ?_ _) | (with_reducible refine Wb.Ext.alloc ?_ _) | (with_reducible refine Wb.Ext.trans ?_ (by assumption))))))).mono ?_; rintro e w9 ⟨rfl, hb9⟩
                    rw [HC1.out]
                    have he89 : Wb.Ext w8 w9 := by (repeat' (first | (with_reducible assumption) | (with_reducible exact Wb.Ext.refl _) | (with_reducible refine Wb.Ext.drew ?_) | (with_reducible refine Wb.Ext.drewN ?_ _) | (with_reducible refine Wb.Ext.alloc ?_ _) | (with_reducible refine Wb.Ext.trans ?_ (by assumption))))
                    have hew9 : Wb.Ext w w9 := hew8.trans he89
                    clear hb9 a0 a1 a2 a3 a4 a5 b0 b1 b2 b3 b4 b5 k0 k1 k2
                    obtain ⟨a0, a1, a2, a3, a4, a5⟩ := HPB8.out.ext he89
                    obtain ⟨b0, b1, b2, b3, b4, b5⟩ := HPN8.out.ext he89
                    obtain ⟨k0, k1, k2⟩ := HC8.out.ext he89
                    simp only at a0 a1 a2 a3 a4 a5 b0 b1 b2 b3 b4 b5
                    go_wp2_with fail
                    refine (count_any c ⟨y + 1, 1, no, t, nt, np⟩ ⟨y, (k : Int) + 1, (L.length : Int), f, t, pay⟩ _ (HW.out.ext (by (repeat' (first | (with_reducible assumption) | (with_reducible exact Wb.Ext.refl _) | (with_reducible refine Wb.Ext.drew ?_) | (with_reducible refine Wb.Ext.drewN ?_ _) | (with_reducible refine Wb.Ext.alloc ?_ _) | (with_reducible refine Wb.Ext.trans ?_ (by assumption)))))) (HP.out.ext (by (repeat' (first | (with_reducible assumption) | (with_reducible exact Wb.Ext.refl _) | (with_reducible refine Wb.Ext.drew ?_) | (with_reducible refine Wb.Ext.drewN ?_ _) | (with_reducible refine Wb.Ext.alloc ?_ _) | (with_reducible refine Wb.Ext.trans ?_ (by assumption))))))).mono ?_; rintro e w10 ⟨rfl, hb10⟩
                    rw [HC2.out]
                    go_wp2
                    go_meet
                    exact ⟨rfl, he89.trans hb10⟩
                  · have e3 : decide (y < 2199) = false := by simpa using hy3
                    go_wp2
                    go_meet
                    exact ⟨rfl, by (repeat' (first | (with_reducible assumption) | (with_reducible exact Wb.Ext.refl _) | (with_reducible refine Wb.Ext.drew ?_) | (with_reducible refine Wb.Ext.drewN ?_ _) | (with_reducible refine Wb.Ext.alloc ?_ _) | (with_reducible refine Wb.Ext.trans ?_ (by assumption))))⟩
              case rest =>
                obtain ⟨rfl, hcut⟩ := hcut
                obtain ⟨w9, hw9⟩ : ∃ w9 : World, w9 = wc := ⟨_, rfl⟩
                subst hw9
                have he29 : Wb.Ext w2 w9 := he28.trans hcut
                have hew9 : Wb.Ext w w9 := hew8.trans hcut
                have he59 : Wb.Ext w5 w9 := he58.trans hcut
                obtain ⟨a0, a1, a2, a3, a4, a5⟩ := HPB8.out.ext hcut
                obtain ⟨k0, k1, k2⟩ := HC8.out.ext hcut
                simp only at a0 a1 a2 a3 a4 a5
                clear hcut
                have d0 : w9.cell? ⟨b, off, none⟩ = some (.int .i64 p0.year) := he29.keep (by have := HCELL.out 0 p0 HGET0.out 0 _ rfl; simpa using this)
                have d1 : w9.cell? ⟨b, off + 1, none⟩ = some (.int .i64 p0.index) := he29.keep (by have := HCELL.out 0 p0 HGET0.out 1 _ rfl; simpa using this)
                have d2 : w9.cell? ⟨b, off + 2, none⟩ = some (.int .i64 p0.of) := he29.keep (by have := HCELL.out 0 p0 HGET0.out 2 _ rfl; simpa using this)
                have d3 : w9.cell? ⟨b, off + 3, none⟩ = some (.int .i64 p0.from_) := he29.keep (by have := HCELL.out 0 p0 HGET0.out 3 _ rfl; simpa using this)
                have d4 : w9.cell? ⟨b, off + 4, none⟩ = some (.int .i64 p0.to_) := he29.keep (by have := HCELL.out 0 p0 HGET0.out 4 _ rfl; simpa using this)
                have d5 : w9.cell? ⟨b, off + 5, none⟩ = some (.int .i64 p0.pay) := he29.keep (by have := HCELL.out 0 p0 HGET0.out 5 _ rfl; simpa using this)
                have HC0 := Lib.hid (count_year HCE.out hy1 hy2 (by rw [HL.out]; exact HGET0.out) k _ (by rw [HL.out]; exact HGET.out))
                have HCS := Lib.hid ((count_facts HCE.out HIS.out HIS.out).2.1.2 rfl)
                have HPAY := Lib.hid (fun h : c.lag = 0 => pay_of HCE.out HIS.out h)
                have htw : IntKind.i64.wrap (t - 1) = t - 1 := IntWalk.i64_in _ (by omega)
                have HTW := Lib.hid htw
                clear htw
                go_upto_region 21 with (fail)
                go_cut [206] (fun s206 wx => s206 = .bool false ∧ Wb.Ext w9 wx)
                case first => as_aux_lemma =>
                  have htw := HTW.out
                  have hpos : (0 : Int) < L.length := by omega
                  have hpos2 : 0 < L.length := by omega
                  cases hlg : (c.lag == 0)
                  · refine Code.wp_mono (OnEnd.imp ?_) (reg21_no _ _ _ _ _ _ _ _ _ _ _ _ _ _ _ _ _ _ _ _ _ _ _ _ _ _ _ _ _ _ _ _ _ _ _ _ _ _ _ _ _ _ _ _ _ _ _ _ _ _ _ _ _ _ _ _ _ _ _ _ _ _ _ _ _ _ _ _ _ _ _ _ _ _ _ _ _ _ _ _ _ _ _ _ _ _ _ _ _ _ _ _ _ _ _ _ _ _ _ _ _ _ _ _ _ _ _ _ _ _ _ _ _ _ _ _ _ _ _ _ _ _ _ _ _ _ _ _ _ _ _ _ _ _ _ _ _ _ _ _ _ _ _ _ _ _ _ _ _ _ _ _ _ _ _ _ _ _ _ _ _ _ _ _ _ _ _ _ _ _ _ _ _ _ _ _ _ _ _ _ _ _ _ _ _ _ _ _ _ _ _ _ _ _ _ _ _ _ _ _ _ _ _ _ _ _ _ _ _ _ _ _ _ _ _ _ _ _ _ _ _ _ _ c p0 ⟨y, (k : Int) + 1, (L.length : Int), f, t, pay⟩ w9 (HW.out.ext (by (repeat' (first | (with_reducible assumption) | (with_reducible exact Wb.Ext.refl _) | (with_reducible refine Wb.Ext.drew ?_) | (with_reducible refine Wb.Ext.drewN ?_ _) | (with_reducible refine Wb.Ext.alloc ?_ _) | (with_reducible refine Wb.Ext.trans ?_ (by assumption)))))) (HP.out.ext (by (repeat' (first | (with_reducible assumption) | (with_reducible exact Wb.Ext.refl _) | (with_reducible refine Wb.Ext.drew ?_) | (with_reducible refine Wb.Ext.drewN ?_ _) | (with_reducible refine Wb.Ext.alloc ?_ _) | (with_reducible refine Wb.Ext.trans ?_ (by assumption)))))) hpos hlg HC0.out HCS.out k0 k1 k2 d0 d1 d2 d3 d4 d5 a0 a1 a2 a3 a4 a5)
                    rintro a' w' ⟨u178, u179, u180, u181, u182, u183, u184, u185, u186, u187, u188, u189, u190, u191, u192, u193, u194, u195, u196, u197, u198, u199, u200, u201, u202, u203, u204, u205, rfl, he⟩
                    dsimp only
                    go_wp2_with fail
                    go_meet
                    exact ⟨rfl, by (repeat' (first | (with_reducible assumption) | (with_reducible exact Wb.Ext.refl _) | (with_reducible refine Wb.Ext.drew ?_) | (with_reducible refine Wb.Ext.drewN ?_ _) | (with_reducible refine Wb.Ext.alloc ?_ _) | (with_reducible refine Wb.Ext.trans ?_ (by assumption))))⟩
                  · have hpay : pay = t - 1 := HPAY.out (by simpa using hlg)
                    subst hpay
                    refine Code.wp_mono (OnEnd.imp ?_) (reg21_yes _ _ _ _ _ _ _ _ _ _ _ _ _ _ _ _ _ _ _ _ _ _ _ _ _ _ _ _ _ _ _ _ _ _ _ _ _ _ _ _ _ _ _ _ _ _ _ _ _ _ _ _ _ _ _ _ _ _ _ _ _ _ _ _ _ _ _ _ _ _ _ _ _ _ _ _ _ _ _ _ _ _ _ _ _ _ _ _ _ _ _ _ _ _ _ _ _ _ _ _ _ _ _ _ _ _ _ _ _ _ _ _ _ _ _ _ _ _ _ _ _ _ _ _ _ _ _ _ _ _ _ _ _ _ _ _ _ _ _ _ _ _ _ _ _ _ _ _ _ _ _ _ _ _ _ _ _ _ _ _ _ _ _ _ _ _ _ _ _ _ _ _ _ _ _ _ _ _ _ _ _ _ _ _ _ _ _ _ _ _ _ _ _ _ _ _ _ _ _ _ _ _ _ _ _ _ _ _ _ _ _ _ _ _ _ _ _ _ _ _ _ _ _ c p0 y ((k : Int) + 1) (L.length : Int) f t w9 (HW.out.ext (by (repeat' (first | (with_reducible assumption) | (with_reducible exact Wb.Ext.refl _) | (with_reducible refine Wb.Ext.drew ?_) | (with_reducible refine Wb.Ext.drewN ?_ _) | (with_reducible refine Wb.Ext.alloc ?_ _) | (with_reducible refine Wb.Ext.trans ?_ (by assumption)))))) (HP.out.ext (by (repeat' (first | (with_reducible assumption) | (with_reducible exact Wb.Ext.refl _) | (with_reducible refine Wb.Ext.drew ?_) | (with_reducible refine Wb.Ext.drewN ?_ _) | (with_reducible refine Wb.Ext.alloc ?_ _) | (with_reducible refine Wb.Ext.trans ?_ (by assumption)))))) hpos hlg (by omega) (by omega) HC0.out HCS.out k0 k1 k2 d0 d1 d2 d3 d4 d5 a0 a1 a2 a3 a4 a5)
                    rintro a' w' ⟨u178, u179, u180, u181, u182, u183, u184, u185, u186, u187, u188, u189, u190, u191, u192, u193, u194, u195, u196, u197, u198, u199, u200, u201, u202, u203, u204, u205, rfl, he⟩
                    dsimp only
                    go_wp2_with fail
                    go_meet
                    exact ⟨rfl, by (repeat' (first | (with_reducible assumption) | (with_reducible exact Wb.Ext.refl _) | (with_reducible refine Wb.Ext.drew ?_) | (with_reducible refine Wb.Ext.drewN ?_ _) | (with_reducible refine Wb.Ext.alloc ?_ _) | (with_reducible refine Wb.Ext.trans ?_ (by assumption))))⟩
                case rest =>
                  obtain ⟨rfl, hcut⟩ := hcut
                  have hend : Wb.Ext w2 wc := he29.trans hcut
                  clear a0 a1 a2 a3 a4 a5 k0 k1 k2 d0 d1 d2 d3 d4 d5 hcut
                  go_wp2
                  go_roundw
                  case rel => exact ⟨k + 1, by omega, by go_num, hend⟩
                  case measure => simp [intOf]; omega
    · have e27 : decide ((L.length : Int) ≤ 27) = true := by simp; omega
      go_wp2_with fail
      refine (awake06_any _ (HW.out.ext (by (repeat' (first | (with_reducible assumption) | (with_reducible exact Wb.Ext.refl _) | (with_reducible refine Wb.Ext.drew ?_) | (with_reducible refine Wb.Ext.drewN ?_ _) | (with_reducible refine Wb.Ext.alloc ?_ _) | (with_reducible refine Wb.Ext.trans ?_ (by assumption)))))) (HP.out.ext (by (repeat' (first | (with_reducible assumption) | (with_reducible exact Wb.Ext.refl _) | (with_reducible refine Wb.Ext.drew ?_) | (with_reducible refine Wb.Ext.drewN ?_ _) | (with_reducible refine Wb.Ext.alloc ?_ _) | (with_reducible refine Wb.Ext.trans ?_ (by assumption)))))) (HT.out.ext (by (repeat' (first | (with_reducible assumption) | (with_reducible exact Wb.Ext.refl _) | (with_reducible refine Wb.Ext.drew ?_) | (with_reducible refine Wb.Ext.drewN ?_ _) | (with_reducible refine Wb.Ext.alloc ?_ _) | (with_reducible refine Wb.Ext.trans ?_ (by assumption))))))).mono ?_; rintro e w3 ⟨rfl, hb3⟩
      go_wp2
      go_ret
      exact ⟨rfl, by (repeat' (first | (with_reducible assumption) | (with_reducible exact Wb.Ext.refl _) | (with_reducible refine Wb.Ext.drew ?_) | (with_reducible refine Wb.Ext.drewN ?_ _) | (with_reducible refine Wb.Ext.alloc ?_ _) | (with_reducible refine Wb.Ext.trans ?_ (by assumption))))⟩

end Go.Proofs.YtalpdodajcdibaaDoor
