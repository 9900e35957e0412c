/- The reference of chapter 20: Salary. -/
import Derived.Test.YtheofklbmknipaaRef20b
import Derived.Test.YtheofklbmknipaaPro0
import Derived.Deep.DeepCutAuto
import Derived.Deep.QuietTactic
import Derived.BigQuiet
namespace Go.Proofs.Ytheofklbmknipaa
open Go.RowKit Go.Lib
set_option maxRecDepth 8000
attribute [local go_sem ↓] Go.wp_at_zero Go.wp_at_succ

/-- what is Between's part of what fits: it fits -/
theorem betw_fits {c f t o p : Int} (h : Wb.betw c f t o = (p, 0)) : Wb.fits p = true ∧ Wb.fits c = true := by
  rcases Wb.betw_is c f t o with ⟨_, h1, h2, h3, h4, h5, h6, h7⟩ | ⟨h1, _⟩
  · refine ⟨?_, h1⟩
    rw [h] at h7
    simp only at h7
    have hc := (Wb.fits_iff _).1 h1
    rw [Wb.fits_iff, h7]
    by_cases hn : c < 0
    · have e1 := Wb.upT_turn hn (show f.toNat ≤ t.toNat by omega) (d := o.toNat)
      have e2 := Wb.upT_abs (c := c) (a := f.toNat) (d := o.toNat) (by omega) (by omega)
      have e3 := Wb.upT_abs (c := c) (a := t.toNat) (d := o.toNat) (by omega) (by omega)
      have e4 := Wb.upT_neg hn f.toNat o.toNat
      have e5 := Wb.upT_neg hn t.toNat o.toNat
      omega
    · have e1 := Wb.upT_mono (show 0 ≤ c by omega) (show f.toNat ≤ t.toNat by omega) (d := o.toNat)
      have e2 := Wb.upT_abs (c := c) (a := f.toNat) (d := o.toNat) (by omega) (by omega)
      have e3 := Wb.upT_abs (c := c) (a := t.toNat) (d := o.toNat) (by omega) (by omega)
      have e4 := Wb.upT_pos (show 0 ≤ c by omega) f.toNat o.toNat
      have e5 := Wb.upT_pos (show 0 ≤ c by omega) t.toNat o.toNat
      omega
  · rw [h] at h1; exact absurd rfl h1
/-- a piece's part, told in the reference's days -/
theorem pc_ref {ix o f t : Int} {x : Pc} {yr c : Int} (hin : inP (f, t) x.d = true) (h1 : Wb.ofR x.y x.part = (yr, 0)) (h2 : perR ix o yr = (c, 0)) :
    ∃ p, Wb.betw c (x.d.1 - f) (x.d.2 - f) (t - f) = (p, 0) ∧ pcR ix o (f, t) x = (p, 0) ∧ daysN (f, t) = t - f := by
  obtain ⟨i1, i2, i3, i4⟩ := inP_iff.1 hin
  simp only at i2 i3 i4
  have hL : lenS (f, t) = t - f := by unfold lenS; simp only; split <;> omega
  have hD : daysN (f, t) = t - f := by unfold daysN; simp only; split <;> omega
  obtain ⟨hc, _⟩ := betw_fits (show Wb.betw yr (less1 ix) ix o = (c, 0) from h2)
  have hb := Wb.betw_ok hc (show 0 < t - f by omega) (show t - f ≤ 1125899906842624 by omega) (show 0 ≤ x.d.1 - f by omega) (show x.d.1 - f ≤ x.d.2 - f by omega) (show x.d.2 - f ≤ t - f by omega)
  refine ⟨_, hb, ?_, hD⟩
  unfold pcR
  rw [h1]
  simp only
  rw [if_neg (by simp), h2]
  simp only
  rw [if_neg (by simp), hL, hb]
theorem pc_bad1 {ix o : Int} {s : Wb.Sp} {x : Pc} {yr e : Int} (h1 : Wb.ofR x.y x.part = (yr, e)) (he : e ≠ 0) : pcR ix o s x = (0, e) := by
  unfold pcR; rw [h1]; simp only; rw [if_pos he]
theorem pc_bad2 {ix o : Int} {s : Wb.Sp} {x : Pc} {yr c e : Int} (h1 : Wb.ofR x.y x.part = (yr, 0)) (h2 : perR ix o yr = (c, e)) (he : e ≠ 0) : pcR ix o s x = (0, e) := by
  unfold pcR; rw [h1]; simp only; rw [if_neg (by simp), h2]; simp only; rw [if_pos he]
/-- what stands in memory: the period's days, a piece -/
structure RSal (w wx : World) (f t : Int) (X : Nat) (x : Pc) : Prop where
  p0 : wx.cell? ⟨w.heap.size, 0, none⟩ = some (.int .i64 f)
  p1 : wx.cell? ⟨w.heap.size, 1, none⟩ = some (.int .i64 t)
  x0 : wx.cell? ⟨X, 0, none⟩ = some (.int .i64 x.d.1)
  x1 : wx.cell? ⟨X, 1, none⟩ = some (.int .i64 x.d.2)
  x2 : wx.cell? ⟨X, 2, none⟩ = some (.int .i64 x.y)
  x3 : wx.cell? ⟨X, 3, none⟩ = some (.int .i64 x.part)
  ext : Wb.Ext w wx
theorem RSal.keep {w wx wz : World} {f t : Int} {X : Nat} {x : Pc} (h : RSal w wx f t X x) (k : Wb.Ext wx wz) : RSal w wz f t X x :=
  ⟨k.keep h.p0, k.keep h.p1, k.keep h.x0, k.keep h.x1, k.keep h.x2, k.keep h.x3, h.ext.trans k⟩

set_option maxHeartbeats 8000000 in
theorem rsalary_any (ix o f t : Int) (v : Value) (l : List Pc) (w : World) (hi : -9223372036854775808 ≤ ix ∧ ix ≤ 9223372036854775807) (hs : Bd (f, t)) (hv : Tbl 4 pcc w v l) (hb : ∀ x ∈ l, Bd x.d) (hl : l.length ≤ 9223372036854775807) :
    Calls Try.prog 15 #[SpV (f, t), .int .i64 ix, .int .i64 o, v] w fun e w' => e = Two (salaryR ix o (f, t) l) ∧ Wb.Ext w w' := by
  obtain ⟨va, vc, rfl⟩ := hv.shape
  have HV := Lib.hid hv
  have HB := Lib.hid hb
  have HBS := Lib.hid hs
  have hII := Lib.hid hi
  clear hv hb hs hi
  by_cases h64 : 64 < l.length
  · have d : decide ((64 : Int) < (l.length : Int)) = true := by simp; omega
    have HSAL := Lib.hid (show salaryR ix o (f, t) l = (0, 5) by rw [salaryR, if_pos h64])
    go_enter Try.func15, Try.ntmps15
    go_wp2
    refine bodyPost_ret (v := .tuple #[.int .i64 0, .int .i64 5]) (by simp [results, Try.results15, go_sem]) rfl ⟨by rw [HSAL.out], by (repeat' (first | (with_reducible assumption) | (with_reducible exact Wb.Ext.refl _) | (with_reducible refine Wb.Ext.drew ?_) | (with_reducible refine Wb.Ext.drewN ?_ _) | (with_reducible refine Wb.Ext.alloc ?_ _) | (with_reducible refine Wb.Ext.trans ?_ (by assumption))))⟩
  have d64 : decide ((64 : Int) < (l.length : Int)) = false := by simp; omega
  have HSAL := Lib.hid (show salaryR ix o (f, t) l = salR ix o (f, t) [] 0 l by rw [salaryR, if_neg h64])
  have hl64 : l.length ≤ 64 := by omega
  clear h64
  go_enter Try.func15, Try.ntmps15
  go_wp2_with fail
  go_loopw [10, 11] (fun sv iv wr => ∃ (k : Nat) (sum : Int), k ≤ l.length ∧ iv = .int .i64 k ∧ sv = .int .i64 sum ∧ Hid (salR ix o (f, t) [] 0 l = salR ix o (f, t) (l.take k) sum (l.drop k)) ∧ wr.cell? ⟨w.heap.size, 0, none⟩ = some (.int .i64 f) ∧ wr.cell? ⟨w.heap.size, 1, none⟩ = some (.int .i64 t) ∧ w.heap.size < wr.heap.size ∧ Wb.Ext w wr) (fun _ iv _ => l.length - (intOf iv).toNat)
  case atStart => exact ⟨0, 0, Nat.zero_le _, rfl, rfl, Lib.hid rfl, by simp [go_sem], by simp [go_sem], by simp, by (repeat' (first | (with_reducible assumption) | (with_reducible exact Wb.Ext.refl _) | (with_reducible refine Wb.Ext.drew ?_) | (with_reducible refine Wb.Ext.drewN ?_ _) | (with_reducible refine Wb.Ext.alloc ?_ _) | (with_reducible refine Wb.Ext.trans ?_ (by assumption))))⟩
  case round =>
    obtain ⟨k, sum, hk, rfl, rfl, HTD, p0, p1, hTr, hxr⟩ := hrel
    by_cases hlt : k < l.length
    case neg =>
      obtain rfl : k = l.length := by omega
      have HR := Lib.hid (show salR ix o (f, t) [] 0 l = (sum, 0) by rw [HTD.out, List.drop_length, salR])
      go_wp2
      refine bodyPost_ret (v := .tuple #[.int .i64 sum, .int .i64 0]) (by simp [results, Try.results15, go_sem]) rfl ⟨by rw [HSAL.out, HR.out], by (repeat' (first | (with_reducible assumption) | (with_reducible exact Wb.Ext.refl _) | (with_reducible refine Wb.Ext.drew ?_) | (with_reducible refine Wb.Ext.drewN ?_ _) | (with_reducible refine Wb.Ext.alloc ?_ _) | (with_reducible refine Wb.Ext.trans ?_ (by assumption))))⟩
    obtain ⟨x, hx⟩ := Wb.get_ex hlt
    obtain ⟨b, off, rfl, hcells⟩ := (HV.out.ext hxr).opened (tne hlt)
    have c0 := hcells _ x hx 0 _ rfl
    have c1 := hcells _ x hx 1 _ rfl
    have c2 := hcells _ x hx 2 _ rfl
    have c3 := hcells _ x hx 3 _ rfl
    simp only [Nat.add_zero] at c0
    have hki : (k : Int) < l.length := by omega
    have HDR := Lib.hid (drop_at hx)
    have HTA := Lib.hid (take_at hx)
    have HBD := Lib.hid (HB.out x (List.mem_of_getElem? hx))
    clear hcells hx
    go_upto_region 8 with (fail)
    refine Wb.wp_at fun W0 hW0 => ?_
    obtain ⟨X, hX⟩ : ∃ X, wr.heap.size = X := ⟨_, rfl⟩
    have hb0 : Wb.Ext wr W0 := by rw [hW0]; (repeat' (first | (with_reducible assumption) | (with_reducible exact Wb.Ext.refl _) | (with_reducible refine Wb.Ext.drew ?_) | (with_reducible refine Wb.Ext.drewN ?_ _) | (with_reducible refine Wb.Ext.alloc ?_ _) | (with_reducible refine Wb.ext_set ?_ (by first | assumption | (simp; done) | (simp; omega) | omega) _) | (with_reducible refine Wb.Ext.trans ?_ (by assumption))))
    have x0 : W0.cell? ⟨X, 0, none⟩ = some (.int .i64 x.d.1) := by rw [hW0, ← hX]; simp [go_sem]
    have x1 : W0.cell? ⟨X, 1, none⟩ = some (.int .i64 x.d.2) := by rw [hW0, ← hX]; simp [go_sem]
    have x2 : W0.cell? ⟨X, 2, none⟩ = some (.int .i64 x.y) := by rw [hW0, ← hX]; simp [go_sem]
    have x3 : W0.cell? ⟨X, 3, none⟩ = some (.int .i64 x.part) := by rw [hW0, ← hX]; simp [go_sem]
    have p0 := hb0.keep p0
    have p1 := hb0.keep p1
    have hxw : Wb.Ext w W0 := hxr.trans hb0
    have hTr : w.heap.size < W0.heap.size := Nat.lt_of_lt_of_le hTr hb0.size
    rw [hX]
    clear hW0 hX c0 c1 c2 c3 hb0 hxr
    obtain ⟨D, hD⟩ : ∃ D, daysN (f, t) = D := ⟨_, rfl⟩
    have HDN := Lib.hid hD
    have hin' : inP (f, t) x.d = false ↔ ¬ (x.d.1 < x.d.2 ∧ f ≤ x.d.1 ∧ x.d.2 ≤ t ∧ t - f ≤ 366) := by rw [← inP_iff (s := (f, t)) (d := x.d)]; simp
    have hDD : t ≤ f ∨ (D = t - f ∧ t - f ≤ 367) ∨ (D = 367 ∧ 367 < t - f) := by rw [← hD]; unfold daysN; simp only; split <;> omega
    clear hD
    by_cases q1 : x.d.2 ≤ x.d.1
    · have d1 : decide (x.d.2 ≤ x.d.1) = true := by simpa using q1
      have HR := Lib.hid (show salR ix o (f, t) [] 0 l = (0, 24) by rw [HTD.out, HDR.out, sal_out (hin'.2 (by omega))])
      clear hin' hDD
      go_wp2
      refine bodyPost_ret (v := .tuple #[.int .i64 0, .int .i64 24]) (by simp [results, Try.results15, go_sem]) rfl ⟨by rw [HSAL.out, HR.out], by (repeat' (first | (with_reducible assumption) | (with_reducible exact Wb.Ext.refl _) | (with_reducible refine Wb.Ext.drew ?_) | (with_reducible refine Wb.Ext.drewN ?_ _) | (with_reducible refine Wb.Ext.alloc ?_ _) | (with_reducible refine Wb.Ext.trans ?_ (by assumption))))⟩
    have d1 : decide (x.d.2 ≤ x.d.1) = false := by simpa using q1
    by_cases q2 : x.d.1 < f
    · have d2 : decide (x.d.1 < f) = true := by simpa using q2
      have HR := Lib.hid (show salR ix o (f, t) [] 0 l = (0, 24) by rw [HTD.out, HDR.out, sal_out (hin'.2 (by omega))])
      clear hin' hDD
      go_wp2
      refine bodyPost_ret (v := .tuple #[.int .i64 0, .int .i64 24]) (by simp [results, Try.results15, go_sem]) rfl ⟨by rw [HSAL.out, HR.out], by (repeat' (first | (with_reducible assumption) | (with_reducible exact Wb.Ext.refl _) | (with_reducible refine Wb.Ext.drew ?_) | (with_reducible refine Wb.Ext.drewN ?_ _) | (with_reducible refine Wb.Ext.alloc ?_ _) | (with_reducible refine Wb.Ext.trans ?_ (by assumption))))⟩
    have d2 : decide (x.d.1 < f) = false := by simpa using q2
    by_cases q3 : t < x.d.2
    · have d3 : decide (t < x.d.2) = true := by simpa using q3
      have HR := Lib.hid (show salR ix o (f, t) [] 0 l = (0, 24) by rw [HTD.out, HDR.out, sal_out (hin'.2 (by omega))])
      clear hin' hDD
      go_wp2
      refine bodyPost_ret (v := .tuple #[.int .i64 0, .int .i64 24]) (by simp [results, Try.results15, go_sem]) rfl ⟨by rw [HSAL.out, HR.out], by (repeat' (first | (with_reducible assumption) | (with_reducible exact Wb.Ext.refl _) | (with_reducible refine Wb.Ext.drew ?_) | (with_reducible refine Wb.Ext.drewN ?_ _) | (with_reducible refine Wb.Ext.alloc ?_ _) | (with_reducible refine Wb.Ext.trans ?_ (by assumption))))⟩
    have d3 : decide (t < x.d.2) = false := by simpa using q3
    by_cases q4 : 366 < D
    · have d4 : decide (366 < D) = true := by simpa using q4
      have HR := Lib.hid (show salR ix o (f, t) [] 0 l = (0, 24) by rw [HTD.out, HDR.out, sal_out (hin'.2 (by omega))])
      clear hin' hDD
      go_wp2_with fail
      go_fit (days20_any (f, t) HBS.out _); rintro e w1 ⟨rfl, hb1⟩
      rw [HDN.out]
      go_wp2
      refine bodyPost_ret (v := .tuple #[.int .i64 0, .int .i64 24]) (by simp [results, Try.results15, go_sem]) rfl ⟨by rw [HSAL.out, HR.out], hxw.trans (Wb.Ext.trans (by (repeat' (first | (with_reducible assumption) | (with_reducible exact Wb.Ext.refl _) | (with_reducible refine Wb.Ext.drew ?_) | (with_reducible refine Wb.Ext.drewN ?_ _) | (with_reducible refine Wb.Ext.alloc ?_ _) | (with_reducible refine Wb.Ext.trans ?_ (by assumption))))) hb1)⟩
    have d4 : decide (366 < D) = false := by simpa using q4
    obtain ⟨hDe, hft⟩ : D = t - f ∧ t - f ≤ 366 := by omega
    have HIN : Hid (inP (f, t) x.d = true) := Lib.hid (by rw [inP_iff]; simp only; omega)
    clear hin' hDD
    go_wp2_with fail
    go_fit (days20_any (f, t) HBS.out _); rintro e w1 ⟨rfl, hb1⟩
    rw [HDN.out]
    have hb1 : Wb.Ext W0 w1 := Wb.Ext.trans (by (repeat' (first | (with_reducible assumption) | (with_reducible exact Wb.Ext.refl _) | (with_reducible refine Wb.Ext.drew ?_) | (with_reducible refine Wb.Ext.drewN ?_ _) | (with_reducible refine Wb.Ext.alloc ?_ _) | (with_reducible refine Wb.Ext.trans ?_ (by assumption))))) hb1
    have p0 := hb1.keep p0
    have p1 := hb1.keep p1
    have x0 := hb1.keep x0
    have x1 := hb1.keep x1
    have x2 := hb1.keep x2
    have x3 := hb1.keep x3
    have hxw : Wb.Ext w w1 := hxw.trans hb1
    have hTr : w.heap.size < w1.heap.size := Nat.lt_of_lt_of_le hTr hb1.size
    clear hb1
    subst hDe
    go_wp2_with fail
    go_loopw [13] (fun jv wr => ∃ (j : Nat), j ≤ k ∧ jv = .int .i64 j ∧ Hid (((l.take k).take j).any (fun z => meetB x.d z.d) = false) ∧ RSal w wr f t X x ∧ w.heap.size < wr.heap.size) (fun jv _ => k - (intOf jv).toNat)
    case atStart => exact ⟨0, by omega, rfl, Lib.hid (by simp), ⟨p0, p1, x0, x1, x2, x3, by (repeat' (first | (with_reducible assumption) | (with_reducible exact Wb.Ext.refl _) | (with_reducible refine Wb.Ext.drew ?_) | (with_reducible refine Wb.Ext.drewN ?_ _) | (with_reducible refine Wb.Ext.alloc ?_ _) | (with_reducible refine Wb.Ext.trans ?_ (by assumption))))⟩, by simpa using hTr⟩
    case round =>
      clear p0 p1 x0 x1 x2 x3 hxw hTr
      obtain ⟨j, hj, rfl, HJ, ⟨p0, p1, x0, x1, x2, x3, hxr⟩, hTr⟩ := hrel
      by_cases hjt : j < k
      · obtain ⟨z, hz⟩ := Wb.get_ex (show j < l.length by omega)
        have hzk : (l.take k)[j]? = some z := by rw [List.getElem?_take, if_pos hjt]; exact hz
        have HTJ := Lib.hid (take_at hzk)
        obtain ⟨zb, zo, hzz, hcells⟩ := (HV.out.ext hxr).opened (tne (show j < l.length by omega))
        cases hzz
        have c0 := hcells _ z hz 0 _ rfl
        have c1 := hcells _ z hz 1 _ rfl
        simp only [Nat.add_zero] at c0
        have hji : (j : Int) < l.length := by omega
        have hjk : (j : Int) < k := by omega
        have HMEM := Lib.hid (List.mem_of_getElem? hzk)
        clear hcells hz hzk
        by_cases m1 : x.d.1 < z.d.2
        case neg =>
          have d5 : decide (x.d.1 < z.d.2) = false := by simpa using m1
          have HN := Lib.hid (show ((l.take k).take (j + 1)).any (fun z => meetB x.d z.d) = false by rw [HTJ.out, List.any_append, HJ.out]; simp [meetB, d5])
          go_wp2_with fail
          go_quiet (fail)
          go_wp2
          go_roundw
          case rel => exact ⟨j + 1, by omega, by go_num, HN, RSal.keep ⟨p0, p1, x0, x1, x2, x3, hxr⟩ (by (repeat' (first | (with_reducible assumption) | (with_reducible exact Wb.Ext.refl _) | (with_reducible refine Wb.Ext.drew ?_) | (with_reducible refine Wb.Ext.drewN ?_ _) | (with_reducible refine Wb.Ext.alloc ?_ _) | (with_reducible refine Wb.Ext.trans ?_ (by assumption))))), by simpa using hTr⟩
          case measure => first | (simp [intOf]; done) | (simp [intOf]; omega)
        have d5 : decide (x.d.1 < z.d.2) = true := by simpa using m1
        by_cases m2 : z.d.1 < x.d.2
        case neg =>
          have d6 : decide (z.d.1 < x.d.2) = false := by simpa using m2
          have HN := Lib.hid (show ((l.take k).take (j + 1)).any (fun z => meetB x.d z.d) = false by rw [HTJ.out, List.any_append, HJ.out]; simp [meetB, d6])
          go_wp2_with fail
          go_quiet (fail)
          go_wp2
          go_roundw
          case rel => exact ⟨j + 1, by omega, by go_num, HN, RSal.keep ⟨p0, p1, x0, x1, x2, x3, hxr⟩ (by (repeat' (first | (with_reducible assumption) | (with_reducible exact Wb.Ext.refl _) | (with_reducible refine Wb.Ext.drew ?_) | (with_reducible refine Wb.Ext.drewN ?_ _) | (with_reducible refine Wb.Ext.alloc ?_ _) | (with_reducible refine Wb.Ext.trans ?_ (by assumption))))), by simpa using hTr⟩
          case measure => first | (simp [intOf]; done) | (simp [intOf]; omega)
        have d6 : decide (z.d.1 < x.d.2) = true := by simpa using m2
        have HR := Lib.hid (show salR ix o (f, t) [] 0 l = (0, 16) by rw [HTD.out, HDR.out, sal_cross HIN.out (List.any_eq_true.2 ⟨z, HMEM.out, meetB_iff.2 ⟨m1, m2⟩⟩)])
        go_wp2_with fail
        go_quiet (fail)
        go_wp2
        refine bodyPost_ret (v := .tuple #[.int .i64 0, .int .i64 16]) (by simp [results, Try.results15, go_sem]) rfl ⟨by rw [HSAL.out, HR.out], by (repeat' (first | (with_reducible assumption) | (with_reducible exact Wb.Ext.refl _) | (with_reducible refine Wb.Ext.drew ?_) | (with_reducible refine Wb.Ext.drewN ?_ _) | (with_reducible refine Wb.Ext.alloc ?_ _) | (with_reducible refine Wb.Ext.trans ?_ (by assumption))))⟩
      obtain rfl : j = k := by omega
      have HAN := Lib.hid (show (l.take j).any (fun z => meetB x.d z.d) = false by have := HJ.out; rwa [List.take_take, Nat.min_self] at this)
      obtain ⟨⟨yr, e1⟩, h1⟩ : ∃ p, Wb.ofR x.y x.part = p := ⟨_, rfl⟩
      have H1 := Lib.hid h1
      clear h1 HJ
      go_wp2_with fail
      go_fit (rof2_any x.y x.part _); rintro e w2 ⟨rfl, hb2⟩
      rw [H1.out]
      have p0 := hb2.keep p0
      have p1 := hb2.keep p1
      have x0 := hb2.keep x0
      have x1 := hb2.keep x1
      have x2 := hb2.keep x2
      have x3 := hb2.keep x3
      have hxr : Wb.Ext w w2 := hxr.trans hb2
      have hTr : w.heap.size < w2.heap.size := Nat.lt_of_lt_of_le hTr hb2.size
      clear hb2
      by_cases hz1 : e1 = 0
      case neg =>
        have d : (e1 != 0) = true := by simpa using hz1
        have dd : (e1 == 0) = false := by simpa using hz1
        have HR := Lib.hid (show salR ix o (f, t) [] 0 l = (0, e1) by rw [HTD.out, HDR.out, sal_bad HIN.out HAN.out (pc_bad1 H1.out hz1) hz1])
        go_wp2
        refine bodyPost_ret (v := .tuple #[.int .i64 0, .int .i64 e1]) (by simp [results, Try.results15, go_sem]) rfl ⟨by rw [HSAL.out, HR.out], by (repeat' (first | (with_reducible assumption) | (with_reducible exact Wb.Ext.refl _) | (with_reducible refine Wb.Ext.drew ?_) | (with_reducible refine Wb.Ext.drewN ?_ _) | (with_reducible refine Wb.Ext.alloc ?_ _) | (with_reducible refine Wb.Ext.trans ?_ (by assumption))))⟩
      subst hz1
      obtain ⟨⟨c, e2⟩, h2⟩ : ∃ p, perR ix o yr = p := ⟨_, rfl⟩
      have H2 := Lib.hid h2
      clear h2
      go_wp2_with fail
      go_fit (rper_any ix o yr hII.out _); rintro e w' ⟨rfl, hw⟩
      subst hw
      rw [H2.out]
      by_cases hz2 : e2 = 0
      case neg =>
        have d : (e2 != 0) = true := by simpa using hz2
        have dd : (e2 == 0) = false := by simpa using hz2
        have HR := Lib.hid (show salR ix o (f, t) [] 0 l = (0, e2) by rw [HTD.out, HDR.out, sal_bad HIN.out HAN.out (pc_bad2 H1.out H2.out hz2) hz2])
        go_wp2
        refine bodyPost_ret (v := .tuple #[.int .i64 0, .int .i64 e2]) (by simp [results, Try.results15, go_sem]) rfl ⟨by rw [HSAL.out, HR.out], by (repeat' (first | (with_reducible assumption) | (with_reducible exact Wb.Ext.refl _) | (with_reducible refine Wb.Ext.drew ?_) | (with_reducible refine Wb.Ext.drewN ?_ _) | (with_reducible refine Wb.Ext.alloc ?_ _) | (with_reducible refine Wb.Ext.trans ?_ (by assumption))))⟩
      subst hz2
      obtain ⟨pt, hbw, hpc, _⟩ := pc_ref HIN.out H1.out H2.out
      have HBW := Lib.hid hbw
      have HPC := Lib.hid hpc
      obtain ⟨⟨c2, e3⟩, hto⟩ : ∃ p, Wb.told sum pt (sum + pt) = p := ⟨_, rfl⟩
      have HTO := Lib.hid hto
      clear hbw hpc hto
      obtain ⟨⟨b1, b2⟩, b3, b4⟩ := HBS.out
      obtain ⟨⟨b5, b6⟩, b7, b8⟩ := HBD.out
      simp only at b1 b2 b3 b4
      obtain ⟨g1, g2, g3, g4⟩ := inP_iff.1 HIN.out
      simp only at g1 g2 g3 g4
      have ew1 : IntKind.i64.wrap (x.d.1 - f) = x.d.1 - f := IntWalk.i64_in _ (by omega)
      have ew2 : IntKind.i64.wrap (x.d.2 - f) = x.d.2 - f := IntWalk.i64_in _ (by omega)
      go_upto_region 21 with (fail)
      refine Wb.wp_at fun wr hwr => ?_
      have hrr : Wb.Ext w2 wr := by rw [hwr]; first | exact Wb.Ext.refl _ | (repeat' (first | (with_reducible assumption) | (with_reducible exact Wb.Ext.refl _) | (with_reducible refine Wb.Ext.drew ?_) | (with_reducible refine Wb.Ext.drewN ?_ _) | (with_reducible refine Wb.Ext.alloc ?_ _) | (with_reducible refine Wb.Ext.trans ?_ (by assumption))))
      have p0 := hrr.keep p0
      have p1 := hrr.keep p1
      have x0 := hrr.keep x0
      have x1 := hrr.keep x1
      have x2 := hrr.keep x2
      have x3 := hrr.keep x3
      have hxr : Wb.Ext w wr := hxr.trans hrr
      have hTr : w.heap.size < wr.heap.size := Nat.lt_of_lt_of_le hTr hrr.size
      clear hwr hrr
      refine region_start (S := (fun w' => w'.cell? ⟨w.heap.size, 0, none⟩ = some (.int .i64 f) ∧ w'.cell? ⟨w.heap.size, 1, none⟩ = some (.int .i64 t) ∧ w'.cell? ⟨X, 0, none⟩ = some (.int .i64 x.d.1) ∧ w'.cell? ⟨X, 1, none⟩ = some (.int .i64 x.d.2))) (n := 21) (l := #[false, false, false, false, false, false, false, false, false, false, false, false, false, false, false, false, false, false, false, false, false]) (by kernel_rfl) ⟨p0, p1, x0, x1⟩ (by kernel_rfl) (by kernel_rfl) (fun hHeld => ?_)
      refine take_d (i := 0) (d := 110) (v := ?_) rfl rfl (by kernel_rfl) (by kernel_rfl) (by kernel_rfl) (fun _ _ _ h => h) (Or.inl ⟨by rfl, ?_⟩) (by assumption) ?_
      rotate_left
      · (intro w hSw; (try dsimp only at hSw); go_simp; (try with_reducible rfl))
      (try simp only [Act.put, List.setIfInBounds_toArray, List.set_cons_zero, List.set_cons_succ])
      refine take_d (i := 1) (d := 111) (v := ?_) rfl rfl (by kernel_rfl) (by kernel_rfl) (by kernel_rfl) (fun _ _ _ h => h) (Or.inl ⟨by rfl, ?_⟩) (by assumption) ?_
      rotate_left
      · (intro w hSw; (try dsimp only at hSw); go_simp; (try with_reducible rfl))
      (try simp only [Act.put, List.setIfInBounds_toArray, List.set_cons_zero, List.set_cons_succ])
      refine take_d (i := 2) (d := 112) (v := ?_) rfl rfl (by kernel_rfl) (by kernel_rfl) (by kernel_rfl) (fun _ _ _ h => h) (Or.inl ⟨by rfl, ?_⟩) (by assumption) ?_
      rotate_left
      · (intro w hSw; (try dsimp only at hSw); go_simp; (try with_reducible rfl))
      (try simp only [Act.put, List.setIfInBounds_toArray, List.set_cons_zero, List.set_cons_succ])
      refine take_d (i := 3) (d := 113) (v := ?_) rfl rfl (by kernel_rfl) (by kernel_rfl) (by kernel_rfl) (fun _ _ _ h => h) (Or.inl ⟨by rfl, ?_⟩) (by assumption) ?_
      rotate_left
      · (intro w hSw; (try dsimp only at hSw); go_simp; (try with_reducible rfl))
      (try simp only [Act.put, List.setIfInBounds_toArray, List.set_cons_zero, List.set_cons_succ])
      refine take_d (i := 4) (d := 114) (v := ?_) rfl rfl (by kernel_rfl) (by kernel_rfl) (by kernel_rfl) (fun _ _ _ h => h) (Or.inl ⟨by rfl, ?_⟩) (by assumption) ?_
      rotate_left
      · (intro w hSw; (try dsimp only at hSw); go_simp; (try with_reducible rfl))
      (try simp only [Act.put, List.setIfInBounds_toArray, List.set_cons_zero, List.set_cons_succ])
      refine take_d (i := 5) (d := 115) (v := ?_) rfl rfl (by kernel_rfl) (by kernel_rfl) (by kernel_rfl) (fun _ _ _ h => h) (Or.inl ⟨by rfl, ?_⟩) (by assumption) ?_
      rotate_left
      · (intro w hSw; (try dsimp only at hSw); go_simp; (try with_reducible rfl))
      (try simp only [Act.put, List.setIfInBounds_toArray, List.set_cons_zero, List.set_cons_succ])
      refine take_d (i := 6) (d := 116) (v := ?_) rfl rfl (by kernel_rfl) (by kernel_rfl) (by kernel_rfl) (fun _ _ _ h => h) (Or.inl ⟨by rfl, ?_⟩) (by assumption) ?_
      rotate_left
      · (intro w hSw; (try dsimp only at hSw); go_simp; (try with_reducible rfl))
      (try simp only [Act.put, List.setIfInBounds_toArray, List.set_cons_zero, List.set_cons_succ])
      refine take_d (i := 7) (d := 117) (v := ?_) rfl rfl (by kernel_rfl) (by kernel_rfl) (by kernel_rfl) (fun _ _ _ h => h) (Or.inl ⟨by rfl, ?_⟩) (by assumption) ?_
      rotate_left
      · (intro w hSw; (try dsimp only at hSw); go_simp; (try with_reducible rfl))
      (try simp only [Act.put, List.setIfInBounds_toArray, List.set_cons_zero, List.set_cons_succ])
      refine take_d (i := 8) (d := 118) (v := ?_) rfl rfl (by kernel_rfl) (by kernel_rfl) (by kernel_rfl) (fun _ _ _ h => h) (Or.inl ⟨by rfl, ?_⟩) (by assumption) ?_
      rotate_left
      · (intro w hSw; (try dsimp only at hSw); go_simp; (try with_reducible rfl))
      (try simp only [Act.put, List.setIfInBounds_toArray, List.set_cons_zero, List.set_cons_succ])
      refine take_d (i := 9) (d := 119) (v := ?_) rfl rfl (by kernel_rfl) (by kernel_rfl) (by kernel_rfl) (fun _ _ _ h => h) (Or.inl ⟨by rfl, ?_⟩) (by assumption) ?_
      rotate_left
      · (intro w hSw; (try dsimp only at hSw); go_simp; (try with_reducible rfl))
      (try simp only [Act.put, List.setIfInBounds_toArray, List.set_cons_zero, List.set_cons_succ])
      refine take_d (i := 10) (d := 120) (v := ?_) rfl rfl (by kernel_rfl) (by kernel_rfl) (by kernel_rfl) (fun _ _ _ h => h) (Or.inl ⟨by rfl, ?_⟩) (by assumption) ?_
      rotate_left
      · (intro w hSw; (try dsimp only at hSw); go_simp; (try with_reducible rfl))
      (try simp only [Act.put, List.setIfInBounds_toArray, List.set_cons_zero, List.set_cons_succ])
      refine take_d (i := 11) (d := 121) (v := ?_) rfl rfl (by kernel_rfl) (by kernel_rfl) (by kernel_rfl) (fun _ _ _ h => h) (Or.inl ⟨by rfl, ?_⟩) (by assumption) ?_
      rotate_left
      · (intro w hSw; (try dsimp only at hSw); go_simp; (try with_reducible rfl))
      (try simp only [Act.put, List.setIfInBounds_toArray, List.set_cons_zero, List.set_cons_succ])
      refine take_d (i := 12) (d := 122) (v := ?_) rfl rfl (by kernel_rfl) (by kernel_rfl) (by kernel_rfl) (fun _ _ _ h => h) (Or.inl ⟨by rfl, ?_⟩) (by assumption) ?_
      rotate_left
      · (intro w hSw; (try dsimp only at hSw); go_simp; (try with_reducible rfl))
      (try simp only [Act.put, List.setIfInBounds_toArray, List.set_cons_zero, List.set_cons_succ])
      refine take_d (i := 13) (d := 123) (v := ?_) rfl rfl (by kernel_rfl) (by kernel_rfl) (by kernel_rfl) (fun _ _ _ h => h) (Or.inl ⟨by rfl, ?_⟩) (by assumption) ?_
      rotate_left
      · (intro w hSw; (try dsimp only at hSw); go_simp; (try with_reducible rfl))
      (try simp only [Act.put, List.setIfInBounds_toArray, List.set_cons_zero, List.set_cons_succ])
      refine wpAnyH_ready (rs := [14]) (by kernel_rfl) (by simp) ?_
      refine AllReadyH.cons (o := _) rfl (fun K hK => ?_) AllReadyH.nil
      go_simp
      go_at_call 31
      go_fit (days20_any (f, t) HBS.out _)
      rintro e w3 ⟨rfl, hb3⟩
      rw [HDN.out]
      have hx3 : Wb.Ext wr w3 := Wb.Ext.trans (.drew (.refl _)) hb3
      clear hb3
      refine hK.out _ _ ⟨hx3.keep p0, hx3.keep p1, hx3.keep x0, hx3.keep x1⟩ (fun hHeld => ?_)
      clear hK K
      (try simp only [List.setIfInBounds_toArray, List.set_cons_zero, List.set_cons_succ])
      refine wpAnyH_ready (rs := [15]) (by kernel_rfl) (by simp) ?_
      refine AllReadyH.cons (o := _) rfl (fun K hK => ?_) AllReadyH.nil
      go_simp
      (try rw [ew1])
      (try rw [ew2])
      go_at_call 22
      go_fit (rbetw_any c (x.d.1 - f) (x.d.2 - f) (t - f) _)
      rintro e w' ⟨rfl, hw⟩
      subst hw
      rw [HBW.out]
      refine hK.out _ _ ⟨hx3.keep p0, hx3.keep p1, hx3.keep x0, hx3.keep x1⟩ (fun hHeld => ?_)
      clear hK K
      (try simp only [List.setIfInBounds_toArray, List.set_cons_zero, List.set_cons_succ])
      refine take_d (i := 16) (d := 109) (v := ?_) rfl rfl (by kernel_rfl) (by kernel_rfl) (by kernel_rfl) (fun _ _ _ h => h) (Or.inl ⟨by rfl, ?_⟩) (by assumption) ?_
      rotate_left
      · (intro w hSw; (try dsimp only at hSw); go_simp; (try with_reducible rfl))
      (try simp only [Act.put, List.setIfInBounds_toArray, List.set_cons_zero, List.set_cons_succ])
      refine take_d (i := 17) (d := 126) (v := ?_) rfl rfl (by kernel_rfl) (by kernel_rfl) (by kernel_rfl) (fun _ _ _ h => h) (Or.inl ⟨by rfl, ?_⟩) (by assumption) ?_
      rotate_left
      · (intro w hSw; (try dsimp only at hSw); go_simp; (try with_reducible rfl))
      (try simp only [Act.put, List.setIfInBounds_toArray, List.set_cons_zero, List.set_cons_succ])
      refine take_d (i := 18) (d := 127) (v := ?_) rfl rfl (by kernel_rfl) (by kernel_rfl) (by kernel_rfl) (fun _ _ _ h => h) (Or.inl ⟨by rfl, ?_⟩) (by assumption) ?_
      rotate_left
      · (intro w hSw; (try dsimp only at hSw); go_simp; (try with_reducible rfl))
      (try simp only [Act.put, List.setIfInBounds_toArray, List.set_cons_zero, List.set_cons_succ])
      refine take_d (i := 19) (d := 18) (v := ?_) rfl rfl (by kernel_rfl) (by kernel_rfl) (by kernel_rfl) (fun _ _ _ h => h) (Or.inl ⟨by rfl, ?_⟩) (by assumption) ?_
      rotate_left
      · (intro w hSw; (try dsimp only at hSw); go_simp; (try with_reducible rfl))
      (try simp only [Act.put, List.setIfInBounds_toArray, List.set_cons_zero, List.set_cons_succ])
      refine take_d (i := 20) (d := 19) (v := ?_) rfl rfl (by kernel_rfl) (by kernel_rfl) (by kernel_rfl) (fun _ _ _ h => h) (Or.inl ⟨by rfl, ?_⟩) (by assumption) ?_
      rotate_left
      · (intro w hSw; (try dsimp only at hSw); go_simp; (try with_reducible rfl))
      (try simp only [Act.put, List.setIfInBounds_toArray, List.set_cons_zero, List.set_cons_succ])
      refine wpAnyH_done (by kernel_rfl) ?_ _
      have hxz : Wb.Ext w w3 := hxr.trans hx3
      have p0 := hx3.keep p0
      have p1 := hx3.keep p1
      go_wp2_with fail
      go_fit (radd_any sum pt _); rintro e w' ⟨rfl, hw⟩
      subst hw
      rw [HTO.out]
      by_cases hz3 : e3 = 0
      · subst hz3
        have HN := Lib.hid (show salR ix o (f, t) [] 0 l = salR ix o (f, t) (l.take (j + 1)) c2 (l.drop (j + 1)) by rw [HTD.out, HDR.out, sal_more HIN.out HAN.out HPC.out HTO.out, HTA.out])
        go_wp2
        go_roundw
        case rel => exact ⟨j + 1, c2, by omega, by go_num, by go_num, HN, p0, p1, Nat.lt_of_lt_of_le hTr hx3.size, by (repeat' (first | (with_reducible assumption) | (with_reducible exact Wb.Ext.refl _) | (with_reducible refine Wb.Ext.drew ?_) | (with_reducible refine Wb.Ext.drewN ?_ _) | (with_reducible refine Wb.Ext.alloc ?_ _) | (with_reducible refine Wb.Ext.trans ?_ (by assumption))))⟩
        case measure => first | (simp [intOf]; done) | (simp [intOf]; omega)
      · have d : (e3 != 0) = true := by simpa using hz3
        have d2 : (e3 == 0) = false := by simpa using hz3
        have HR := Lib.hid (show salR ix o (f, t) [] 0 l = (0, e3) by rw [HTD.out, HDR.out, sal_over HIN.out HAN.out HPC.out HTO.out hz3])
        go_wp2
        refine bodyPost_ret (v := .tuple #[.int .i64 0, .int .i64 e3]) (by simp [results, Try.results15, go_sem]) rfl ⟨by rw [HSAL.out, HR.out], by (repeat' (first | (with_reducible assumption) | (with_reducible exact Wb.Ext.refl _) | (with_reducible refine Wb.Ext.drew ?_) | (with_reducible refine Wb.Ext.drewN ?_ _) | (with_reducible refine Wb.Ext.alloc ?_ _) | (with_reducible refine Wb.Ext.trans ?_ (by assumption))))⟩

end Go.Proofs.Ytheofklbmknipaa
