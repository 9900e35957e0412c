/- The reference of chapter 6: Find. -/
import Derived.Test.YtalpdodajcdibaaDoorRPer3
namespace Go.Proofs.YtalpdodajcdibaaDoor
open Go.RowKit
set_option maxRecDepth 4000

/-- no period of a year has a day -/
def NoYear (c : Wb.Cal) (d y : Int) : Prop := ∀ i s, Wb.OneOf c y i s → ¬ (s.1 ≤ d ∧ d < s.2)
theorem no_find {c : Wb.Cal} {d y : Int} (hc : Wb.calErr c = 0) (h1 : Wb.beg y 1 ≤ d) (h2 : d < Wb.beg (y + 1) 1) (h : ∀ z, y ≤ z → z ≤ y + 1 → z ≤ 2199 → NoYear c d z) : Wb.findOf c d = none := by
  refine Wb.findOf_none fun p ⟨z, i, s, h0, a1, a2, _⟩ => ?_
  obtain ⟨l1, l2, l3, l4, l5⟩ := h0.last hc
  have hzy : y ≤ z := by
    rcases Int.lt_or_le z y with q | q
    · have := Wb.beg_mono (show z + 1 ≤ y by omega); omega
    · exact q
  have hz2 : z ≤ y + 1 := by
    rcases Int.lt_or_le (y + 1) z with q | q
    · have m1 := Wb.beg_mono (show y + 2 ≤ z by omega)
      have e1 : Wb.beg (y + 1 + 1) 1 = Wb.beg (y + 1) 1 + 365 + Wb.lp (y + 1) := by unfold Wb.beg; rw [Wb.cum_one, Wb.cum_one, Wb.yb_succ]; omega
      have e2 := Wb.lp_01 (y + 1)
      rw [show y + 1 + 1 = y + 2 by omega] at e1
      obtain ⟨hk, _⟩ := Wb.calErr_ok hc
      rcases h0.kind hc with ⟨_, hi, rfl⟩ | ⟨hk2, e, _, _, _, _⟩
      · have c1 := Wb.beg_succ z (m := (i : Int) + 1) (by omega) (by omega)
        have c2 := Wb.md_low z ((i : Int) + 1)
        rw [show (i : Int) + 1 + 1 = (i : Int) + 2 by omega] at c1
        simp only at a1 a2 l1 l2
        omega
      · omega
    · exact q
  exact h z hzy hz2 h0.2.1 i s h0 ⟨a1, a2⟩

theorem rfind_no (c : Wb.Cal) (d : Int) (hc : Wb.calErr c ≠ 0) (w : World) :
    Calls Tryd.prog 10 #[CalV c, .int .i64 d] w fun e w' => e = .returned (.tuple #[PerV zeroPer, .int .i64 (Wb.calErr c)]) ∧ Wb.Ext w w' := by
  obtain ⟨q, hq⟩ : ∃ q, Wb.calErr c = q := ⟨_, rfl⟩
  have HQ := Lib.hid hq
  rw [hq] at hc ⊢
  have hc' : (q != 0) = true := by simpa using hc
  clear hq hc
  go_enter Tryd.func10, Tryd.ntmps10
  go_wp2_with fail
  refine (rcheck_any c _).mono ?_; rintro e w1 ⟨rfl, hb1⟩
  rw [HQ.out]
  obtain ⟨⟨q0, q1, q2, q3, q4, q5⟩, qf, hz⟩ := zero6 hb1
  have he1 : Wb.Ext w w1 := by (repeat' (first | (with_reducible assumption) | (with_reducible exact Wb.Ext.refl _) | (with_reducible refine Wb.Ext.drew ?_) | (with_reducible refine Wb.Ext.drewN ?_ _) | (with_reducible refine Wb.Ext.alloc ?_ _) | (with_reducible refine Wb.Ext.trans ?_ (by assumption))))
  clear hb1
  go_wp2
  exact bodyPost_ret (v := .tuple #[PerV zeroPer, .int .i64 q]) (by simp [results, Tryd.results10, go_sem, zeroPer, q0, q1, q2, q3, q4, q5, hz]) rfl ⟨rfl, by (repeat' (first | (with_reducible assumption) | (with_reducible exact Wb.Ext.refl _) | (with_reducible refine Wb.Ext.drew ?_) | (with_reducible refine Wb.Ext.drewN ?_ _) | (with_reducible refine Wb.Ext.alloc ?_ _) | (with_reducible refine Wb.ext_set ?_ (by first | assumption | (simp; done) | (simp; omega) | omega) _) | (with_reducible refine Wb.Ext.trans ?_ (by assumption))))⟩

theorem rfind_day (c : Wb.Cal) (d : Int) (hc : Wb.calErr c = 0) (hd : d < -25567 ∨ 84006 ≤ d) (w : World) :
    Calls Tryd.prog 10 #[CalV c, .int .i64 d] w fun e w' => e = .returned (.tuple #[PerV zeroPer, .int .i64 15]) ∧ Wb.Ext w w' := by
  have HQ := Lib.hid hc
  clear hc
  by_cases h0 : d < -25567
  · clear hd
    go_enter Tryd.func10, Tryd.ntmps10
    go_wp2_with fail
    refine (rcheck_any c _).mono ?_; rintro e w1 ⟨rfl, hb1⟩
    rw [HQ.out]
    obtain ⟨⟨q0, q1, q2, q3, q4, q5⟩, qf, hz⟩ := zero6 hb1
    have he1 : Wb.Ext w w1 := by (repeat' (first | (with_reducible assumption) | (with_reducible exact Wb.Ext.refl _) | (with_reducible refine Wb.Ext.drew ?_) | (with_reducible refine Wb.Ext.drewN ?_ _) | (with_reducible refine Wb.Ext.alloc ?_ _) | (with_reducible refine Wb.Ext.trans ?_ (by assumption))))
    clear hb1
    go_wp2
    exact bodyPost_ret (v := .tuple #[PerV zeroPer, .int .i64 15]) (by simp [results, Tryd.results10, go_sem, zeroPer, q0, q1, q2, q3, q4, q5, hz]) rfl ⟨rfl, by (repeat' (first | (with_reducible assumption) | (with_reducible exact Wb.Ext.refl _) | (with_reducible refine Wb.Ext.drew ?_) | (with_reducible refine Wb.Ext.drewN ?_ _) | (with_reducible refine Wb.Ext.alloc ?_ _) | (with_reducible refine Wb.ext_set ?_ (by first | assumption | (simp; done) | (simp; omega) | omega) _) | (with_reducible refine Wb.Ext.trans ?_ (by assumption))))⟩
  · have d0 : decide (d < -25567) = false := by simpa using h0
    have h1 : 84006 ≤ d := by omega
    clear hd h0
    go_enter Tryd.func10, Tryd.ntmps10
    go_wp2_with fail
    refine (rcheck_any c _).mono ?_; rintro e w1 ⟨rfl, hb1⟩
    rw [HQ.out]
    obtain ⟨⟨q0, q1, q2, q3, q4, q5⟩, qf, hz⟩ := zero6 hb1
    have he1 : Wb.Ext w w1 := by (repeat' (first | (with_reducible assumption) | (with_reducible exact Wb.Ext.refl _) | (with_reducible refine Wb.Ext.drew ?_) | (with_reducible refine Wb.Ext.drewN ?_ _) | (with_reducible refine Wb.Ext.alloc ?_ _) | (with_reducible refine Wb.Ext.trans ?_ (by assumption))))
    clear hb1
    go_wp2
    exact bodyPost_ret (v := .tuple #[PerV zeroPer, .int .i64 15]) (by simp [results, Tryd.results10, go_sem, zeroPer, q0, q1, q2, q3, q4, q5, hz]) rfl ⟨rfl, by (repeat' (first | (with_reducible assumption) | (with_reducible exact Wb.Ext.refl _) | (with_reducible refine Wb.Ext.drew ?_) | (with_reducible refine Wb.Ext.drewN ?_ _) | (with_reducible refine Wb.Ext.alloc ?_ _) | (with_reducible refine Wb.ext_set ?_ (by first | assumption | (simp; done) | (simp; omega) | omega) _) | (with_reducible refine Wb.Ext.trans ?_ (by assumption))))⟩

theorem pers_get {c : Wb.Cal} {y : Int} {j : Nat} {p : Wb.Per} (h : (Wb.yearPers c y)[j]? = some p) : ∃ s, (Wb.spansOf c y)[j]? = some s ∧ p = Wb.perOf c y (Wb.spansOf c y).length j s := by
  have hj := (List.getElem?_eq_some_iff.1 h).1
  rw [Wb.yearPers, Wb.persFrom_len] at hj
  obtain ⟨s, hs⟩ := Wb.get_ex hj
  refine ⟨s, hs, ?_⟩
  have := Wb.persFrom_get (c := c) (y := y) (n := (Wb.spansOf c y).length) (i := 0) hs
  rw [← Wb.yearPers, h, Nat.zero_add] at this
  exact Option.some.inj this

set_option maxHeartbeats 2000000 in
theorem rfind_ok (c : Wb.Cal) (d : Int) (hc : Wb.calErr c = 0) (h1 : -25567 ≤ d) (h2 : d < 84006) (w : World) :
    Calls Tryd.prog 10 #[CalV c, .int .i64 d] w fun e w' => e = .returned (.tuple #[PerV (findPer c d), .int .i64 (findErr c d)]) ∧ Wb.Ext w w' := by
  have HC := Lib.hid hc
  obtain ⟨y, m, k, hd⟩ := Wb.date_ex h1 h2
  have hy1 := hd.1
  have hy2 := hd.2.1
  have hyr := hd.year
  have HYR := Lib.hid hyr
  clear hc hd
  go_enter Tryd.func10, Tryd.ntmps10
  go_wp2_with fail
  refine (rcheck_any c _).mono ?_; rintro e w1 ⟨rfl, hb1⟩
  rw [HC.out]
  have HZ := Lib.hid (zero6 hb1)
  have HCB := Lib.hid (CalB.new (c := c) (T := 35) (w1 := w1) (W := w) (Wb.Ext.trans (by (repeat' (first | (with_reducible assumption) | (with_reducible exact Wb.Ext.refl _) | (with_reducible refine Wb.Ext.drew ?_) | (with_reducible refine Wb.Ext.drewN ?_ _) | (with_reducible refine Wb.Ext.alloc ?_ _) | (with_reducible refine Wb.Ext.trans ?_ (by assumption))))) hb1) rfl)
  have he1 : Wb.Ext w w1 := by (repeat' (first | (with_reducible assumption) | (with_reducible exact Wb.Ext.refl _) | (with_reducible refine Wb.Ext.drew ?_) | (with_reducible refine Wb.Ext.drewN ?_ _) | (with_reducible refine Wb.Ext.alloc ?_ _) | (with_reducible refine Wb.Ext.trans ?_ (by assumption))))
  clear hb1
  go_wp2_with fail
  go_loopw [7] (fun yv wr => ∃ z : Int, 1900 ≤ z ∧ z ≤ y ∧ yv = .int .i64 z ∧ Wb.Ext w1 wr) (fun yv _ => (2300 - intOf yv).toNat)
  case atStart => exact ⟨1900, by omega, by omega, rfl, by (repeat' (first | (with_reducible assumption) | (with_reducible exact Wb.Ext.refl _) | (with_reducible refine Wb.Ext.drew ?_) | (with_reducible refine Wb.Ext.drewN ?_ _) | (with_reducible refine Wb.Ext.alloc ?_ _) | (with_reducible refine Wb.Ext.trans ?_ (by assumption))))⟩
  case round =>
    obtain ⟨z, hz1, hz2, rfl, hext⟩ := hrel
    obtain ⟨bz, hbz⟩ : ∃ b, Wb.beg (z + 1) 1 = b := ⟨_, rfl⟩
    have HBZ := Lib.hid hbz
    by_cases hlt : z < y
    · have hle : bz ≤ d := by have := Wb.beg_mono (show z + 1 ≤ y by omega); omega
      clear hbz
      go_wp2_with fail
      refine (rbegin_any (z + 1) 1 (by omega) (by omega) (by omega) (by omega) _).mono ?_; rintro e w2 ⟨rfl, he2⟩
      rw [HBZ.out]
      go_wp2
      go_roundw
      case rel => exact ⟨z + 1, by omega, by omega, rfl, hext.trans he2⟩
      case measure => simp [intOf]; omega
    · obtain rfl : z = y := by omega
      have hgt : decide (bz ≤ d) = false := by simp; omega
      clear hbz hyr hlt
      go_wp2_with fail
      refine (rbegin_any (z + 1) 1 (by omega) (by omega) (by omega) (by omega) _).mono ?_; rintro e w2 ⟨rfl, he2⟩
      rw [HBZ.out]
      have he12 : Wb.Ext w1 w2 := hext.trans he2
      have hew2 : Wb.Ext w w2 := he1.trans he12
      clear hext he2
      go_wp2_with fail
      go_loopw [8] (fun kv wr => ∃ q : Int, z ≤ q ∧ q ≤ z + 2 ∧ kv = .int .i64 q ∧ (∀ x, z ≤ x → x < q → NoYear c d x) ∧ Wb.Ext w2 wr) (fun kv _ => (2300 - intOf kv).toNat)
      case atStart => exact ⟨z, by omega, by omega, rfl, fun x a b => absurd a (by omega), by (repeat' (first | (with_reducible assumption) | (with_reducible exact Wb.Ext.refl _) | (with_reducible refine Wb.Ext.drew ?_) | (with_reducible refine Wb.Ext.drewN ?_ _) | (with_reducible refine Wb.Ext.alloc ?_ _) | (with_reducible refine Wb.Ext.trans ?_ (by assumption))))⟩
      case round =>
        obtain ⟨q, hq1, hq2, rfl, hno, hext⟩ := hrel
        have HNO := Lib.hid hno; clear hno
        obtain ⟨r0, r1, r2⟩ := HCB.out.ext (he12.trans hext)
        have hzr := Wb.cell_size r0
        by_cases hlt : q ≤ z + 1 ∧ q ≤ 2199
        · obtain ⟨ha, hb⟩ := hlt
          obtain ⟨L, hL⟩ : ∃ L, Wb.yearPers c q = L := ⟨_, rfl⟩
          have HL := Lib.hid hL
          have hlen : L.length ≤ 366 := by rw [← hL, Wb.yearPers, Wb.persFrom_len]; exact Wb.spans_len c q
          clear hL
          go_wp2_with fail
          refine (ryear_any c q HC.out (by omega) hb _).mono ?_; rintro e w3 ⟨v, rfl, hv, he3⟩
          rw [HL.out] at hv
          obtain ⟨va, vc, rfl⟩ := hv.shape
          have HV := Lib.hid hv
          have he23 : Wb.Ext w2 w3 := hext.trans he3
          have he13 : Wb.Ext w1 w3 := he12.trans he23
          have hew3 : Wb.Ext w w3 := hew2.trans he23
          clear hv he3 hext r0 r1 r2 hzr
          go_wp2_with fail
          go_loopw [10] (fun iv wr => ∃ k : Nat, k ≤ L.length ∧ iv = .int .i64 k ∧ (∀ j p, j < k → L[j]? = some p → ¬ (p.from_ ≤ d ∧ d < p.to_)) ∧ Wb.Ext w3 wr) (fun iv _ => L.length - (intOf iv).toNat)
          case atStart => exact ⟨0, by omega, rfl, fun j p hj => absurd hj (Nat.not_lt_zero _), by (repeat' (first | (with_reducible assumption) | (with_reducible exact Wb.Ext.refl _) | (with_reducible refine Wb.Ext.drew ?_) | (with_reducible refine Wb.Ext.drewN ?_ _) | (with_reducible refine Wb.Ext.alloc ?_ _) | (with_reducible refine Wb.Ext.trans ?_ (by assumption))))⟩
          case round =>
            obtain ⟨k, hk, rfl, hnoj, hext3⟩ := hrel
            have HNJ := Lib.hid hnoj; clear hnoj
            have hewr : Wb.Ext w wr := hew3.trans hext3
            by_cases hkl : k < L.length
            · obtain ⟨p, hp⟩ := Wb.get_ex hkl
              obtain ⟨b, off, rfl, hcells⟩ := (HV.out.ext hext3).opened (tne hkl)
              have hc0 := hcells k p hp 0 _ rfl
              have hc1 := hcells k p hp 1 _ rfl
              have hc2 := hcells k p hp 2 _ rfl
              have hc3 := hcells k p hp 3 _ rfl
              have hc4 := hcells k p hp 4 _ rfl
              have hc5 := hcells k p hp 5 _ rfl
              simp only [Nat.add_zero] at hc0
              have HP := Lib.hid hp
              clear hcells hp
              by_cases hf : p.from_ ≤ d
              · by_cases ht : d < p.to_
                · have HIS : Hid (Wb.FindIs c d p) := by
                    obtain ⟨s, hs, rfl⟩ := pers_get (c := c) (y := q) (j := k) (p := p) (by rw [HL.out]; exact HP.out)
                    exact ⟨q, k, s, ⟨by omega, hb, hs⟩, hf, ht, rfl⟩
                  have HR := Lib.hid (findErr_is HC.out HIS.out)
                  obtain ⟨⟨q0, q1, q2, q3, q4, q5⟩, qf, hz⟩ := HZ.out.ext (he13.trans hext3)
                  go_wp2
                  exact bodyPost_ret (v := .tuple #[PerV p, .int .i64 0]) (by simp [results, Tryd.results10, go_sem, q0, q1, q2, q3, q4, q5, hz]) rfl ⟨by rw [HR.out.1, HR.out.2], by (repeat' (first | (with_reducible assumption) | (with_reducible exact Wb.Ext.refl _) | (with_reducible refine Wb.Ext.drew ?_) | (with_reducible refine Wb.Ext.drewN ?_ _) | (with_reducible refine Wb.Ext.alloc ?_ _) | (with_reducible refine Wb.ext_set ?_ (by first | assumption | (simp; done) | (simp; omega) | omega) _) | (with_reducible refine Wb.Ext.trans ?_ (by assumption))))⟩
                · have HN2 := Lib.hid (show ∀ j p, j < k + 1 → L[j]? = some p → ¬ (p.from_ ≤ d ∧ d < p.to_) from fun j p' hj hp' => by
                    rcases Nat.lt_succ_iff_lt_or_eq.1 hj with a | rfl
                    · exact HNJ.out j p' a hp'
                    · rw [HP.out] at hp'; cases hp'; exact fun e => ht e.2)
                  have dt : decide (d < p.to_) = false := by simpa using ht
                  go_wp2
                  go_roundw
                  case rel => exact ⟨k + 1, by omega, by go_num, HN2.out, by (repeat' (first | (with_reducible assumption) | (with_reducible exact Wb.Ext.refl _) | (with_reducible refine Wb.Ext.drew ?_) | (with_reducible refine Wb.Ext.drewN ?_ _) | (with_reducible refine Wb.Ext.alloc ?_ _) | (with_reducible refine Wb.Ext.trans ?_ (by assumption))))⟩
                  case measure => simp [intOf]; omega
              · have HN2 := Lib.hid (show ∀ j p, j < k + 1 → L[j]? = some p → ¬ (p.from_ ≤ d ∧ d < p.to_) from fun j p' hj hp' => by
                  rcases Nat.lt_succ_iff_lt_or_eq.1 hj with a | rfl
                  · exact HNJ.out j p' a hp'
                  · rw [HP.out] at hp'; cases hp'; exact fun e => hf e.1)
                have dt : decide (p.from_ ≤ d) = false := by simpa using hf
                go_wp2
                go_roundw
                case rel => exact ⟨k + 1, by omega, by go_num, HN2.out, by (repeat' (first | (with_reducible assumption) | (with_reducible exact Wb.Ext.refl _) | (with_reducible refine Wb.Ext.drew ?_) | (with_reducible refine Wb.Ext.drewN ?_ _) | (with_reducible refine Wb.Ext.alloc ?_ _) | (with_reducible refine Wb.Ext.trans ?_ (by assumption))))⟩
                case measure => simp [intOf]; omega
            · have HN3 := Lib.hid (show ∀ x, z ≤ x → x < q + 1 → NoYear c d x from fun x a1 a2 => by
                by_cases hxq : x = q
                · subst hxq
                  intro i s h0 hin
                  have hg := Wb.persFrom_get (c := c) (y := x) (n := (Wb.spansOf c x).length) (i := 0) h0.2.2
                  rw [← Wb.yearPers, HL.out, Nat.zero_add] at hg
                  exact HNJ.out i _ (by have := (List.getElem?_eq_some_iff.1 hg).1; omega) hg hin
                · exact HNO.out x a1 (by omega))
              go_wp2
              go_roundw
              case rel => exact ⟨q + 1, by omega, by omega, rfl, HN3.out, he23.trans hext3⟩
              case measure => simp [intOf]; omega
        · have HNF := Lib.hid (no_find HC.out HYR.out.1 HYR.out.2 (fun x a1 a2 a3 => HNO.out x a1 (by omega)))
          have HFP := Lib.hid (show findPer c d = zeroPer by rw [findPer, if_pos HC.out, HNF.out]; rfl)
          have HFE := Lib.hid (show findErr c d = 6 by rw [findErr, if_pos HC.out, if_neg (by omega), HNF.out])
          obtain ⟨⟨q0, q1, q2, q3, q4, q5⟩, qf, hz⟩ := HZ.out.ext (he12.trans hext)
          have hewr : Wb.Ext w wr := hew2.trans hext
          by_cases ha : q ≤ z + 1
          · have hb : 2199 < q := by omega
            clear hlt r0 r1 r2 hzr
            go_wp2
            exact bodyPost_ret (v := .tuple #[PerV zeroPer, .int .i64 6]) (by simp [results, Tryd.results10, go_sem, zeroPer, q0, q1, q2, q3, q4, q5, hz]) rfl ⟨by rw [HFP.out, HFE.out], by (repeat' (first | (with_reducible assumption) | (with_reducible exact Wb.Ext.refl _) | (with_reducible refine Wb.Ext.drew ?_) | (with_reducible refine Wb.Ext.drewN ?_ _) | (with_reducible refine Wb.Ext.alloc ?_ _) | (with_reducible refine Wb.ext_set ?_ (by first | assumption | (simp; done) | (simp; omega) | omega) _) | (with_reducible refine Wb.Ext.trans ?_ (by assumption))))⟩
          · clear hlt r0 r1 r2 hzr
            go_wp2
            exact bodyPost_ret (v := .tuple #[PerV zeroPer, .int .i64 6]) (by simp [results, Tryd.results10, go_sem, zeroPer, q0, q1, q2, q3, q4, q5, hz]) rfl ⟨by rw [HFP.out, HFE.out], by (repeat' (first | (with_reducible assumption) | (with_reducible exact Wb.Ext.refl _) | (with_reducible refine Wb.Ext.drew ?_) | (with_reducible refine Wb.Ext.drewN ?_ _) | (with_reducible refine Wb.Ext.alloc ?_ _) | (with_reducible refine Wb.ext_set ?_ (by first | assumption | (simp; done) | (simp; omega) | omega) _) | (with_reducible refine Wb.Ext.trans ?_ (by assumption))))⟩

theorem rfind_any (c : Wb.Cal) (d : Int) (w : World) :
    Calls Tryd.prog 10 #[CalV c, .int .i64 d] w fun e w' => e = .returned (.tuple #[PerV (findPer c d), .int .i64 (findErr c d)]) ∧ Wb.Ext w w' := by
  by_cases hc : Wb.calErr c = 0
  · by_cases hd : d < -25567 ∨ 84006 ≤ d
    · have hn : Wb.findOf c d = none := Wb.findOf_none fun p ⟨y, i, s, h0, h1, h2, _⟩ => by
        have := h0.last hc; omega
      rw [show findPer c d = zeroPer by rw [findPer, if_pos hc, hn]; rfl, show findErr c d = 15 by rw [findErr, if_pos hc, if_pos hd]]
      exact rfind_day c d hc hd w
    · exact rfind_ok c d hc (by omega) (by omega) w
  · rw [show findPer c d = zeroPer by rw [findPer, if_neg hc], show findErr c d = Wb.calErr c by rw [findErr, if_neg hc]]
    exact rfind_no c d hc w

end Go.Proofs.YtalpdodajcdibaaDoor
