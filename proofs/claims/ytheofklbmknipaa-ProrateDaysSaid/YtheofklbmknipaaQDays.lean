/- Chapter 20: ProrateDays. -/
import Derived.Test.YtheofklbmknipaaQPc
import Derived.Test.YtheofklbmknipaaLift20
namespace Go.Proofs.Ytheofklbmknipaa
open Go.RowKit Go.Lib
set_option maxRecDepth 8000
attribute [local go_sem ↓] Go.wp_at_zero Go.wp_at_succ

theorem infoPc : (Try.prog.info? 50).map (fun i => (i.zero, i.size, i.bytes)) = some (some (.agg #[.int .i64 0, .int .i64 0, .int .i64 0, .int .i64 0]), 4, 32) := by kernel_rfl
theorem pcc_one (l : List Pc) : ∀ u ∈ rowsOf pcc l, u.oneCell' = true := by
  intro u hu
  obtain ⟨x, _, hx⟩ := List.mem_flatMap.1 hu
  simp [pcc] at hx
  rcases hx with rfl | rfl | rfl | rfl <;> rfl
structure DayR (C : Int) (n A B : Nat) (x y : Int) : Prop where
  hx : x = Wb.upT C B n - Wb.upT C A n
  hy : y = Wb.upT C n n - Wb.upT C A n
theorem day_end {C x y : Int} {n A B : Nat} (h : DayR C n A B x y) (hn : 0 < n) (hA : A < B) (hB : B ≤ n) : decide (C < 0) = true ∨ (decide (C < 0) = false ∧ decide (0 ≤ x) = true ∧ decide (x ≤ y) = true ∧ decide (y ≤ C) = true) := by
  by_cases hc : C < 0
  · exact .inl (by simpa using hc)
  · refine .inr ⟨by simpa using hc, ?_⟩
    have h1 := Wb.upT_mono (c := C) (by omega) (d := n) (Nat.le_of_lt hA)
    have h2 := Wb.upT_mono (c := C) (by omega) (d := n) hB
    have h3 := Wb.upT_mono (c := C) (by omega) (d := n) (Nat.zero_le A)
    rw [Wb.upT_zero hn] at h3
    have h4 := Wb.upT_all (c := C) hn
    have := h.hx
    have := h.hy
    simp only [decide_eq_true_eq]
    omega
set_option maxHeartbeats 4000000 in
theorem days_out (yr ix o f t pay : Int) (Y part fr tq : Int) (w : World) (hi : -9223372036854775808 ≤ ix ∧ ix ≤ 9223372036854775807) (hs : Bd (f, t)) (b1 b2 b3 b4 : Bool) (h1 : decide (f < -1099511627776) = b1) (h2 : decide (1099511627776 < t) = b2)
    (v : Int) (hv : IntKind.i64.wrap (t - f) = v) (h3 : decide (40 < v) = b3) (h4 : decide (t ≤ f) = b4) (hb : (b1 || b2 || b3 || b4) = true) :
    Calls Try.prog 9 #[PeV yr ix o (f, t) pay, .int .i64 Y, .int .i64 part, .int .u8 fr, .int .u8 tq] w fun e w' => e = .returned (.bool true) ∧ Wb.Ext w w' := by
  have hv2 : wrap64 (t - f) = v := by rw [← IntWalk.i64_left]; exact hv
  have HV := Lib.hid hv
  clear hv
  go_enter Try.func9, Try.ntmps9
  go_wp2_with fail
  go_fit (awake20_any _); rintro e w1 ⟨rfl, hb1⟩
  have xp0 : w1.cell? ⟨w.heap.size, 0, none⟩ = some (.int .i64 yr) := hb1.keep (by simp [go_sem])
  have xp1 : w1.cell? ⟨w.heap.size, 1, none⟩ = some (.int .i64 ix) := hb1.keep (by simp [go_sem])
  have xp2 : w1.cell? ⟨w.heap.size, 2, none⟩ = some (.int .i64 o) := hb1.keep (by simp [go_sem])
  have xp3 : w1.cell? ⟨w.heap.size, 3, none⟩ = some (.int .i64 f) := hb1.keep (by simp [go_sem])
  have xp4 : w1.cell? ⟨w.heap.size, 4, none⟩ = some (.int .i64 t) := hb1.keep (by simp [go_sem])
  have xp5 : w1.cell? ⟨w.heap.size, 5, none⟩ = some (.int .i64 pay) := hb1.keep (by simp [go_sem])
  have hx1 : Wb.Ext w w1 := Wb.Ext.trans (by (repeat' (first | (with_reducible assumption) | (with_reducible exact Wb.Ext.refl _) | (with_reducible refine Wb.Ext.drew ?_) | (with_reducible refine Wb.Ext.drewN ?_ _) | (with_reducible refine Wb.Ext.alloc ?_ _) | (with_reducible refine Wb.Ext.trans ?_ (by assumption))))) hb1
  clear hb1
  cases b1
  · cases b2
    · by_cases hin : -9223372036854775808 ≤ t - f ∧ t - f ≤ 9223372036854775807
      · obtain ⟨n1, n2⟩ := hin
        have hvv : t - f = v := by rw [← HV.out]; exact (IntWalk.i64_in _ ⟨n1, n2⟩).symm
        clear hv2
        cases b3
        · cases b4
          · cases hb
          · go_wp2
            go_ret
            exact ⟨rfl, hx1⟩
        · go_wp2
          go_ret
          exact ⟨rfl, hx1⟩
      · cases b3
        · cases b4
          · cases hb
          · go_wp2
            go_ret
            exact ⟨rfl, hx1⟩
        · go_wp2
          go_ret
          exact ⟨rfl, hx1⟩
    · go_wp2
      go_ret
      exact ⟨rfl, hx1⟩
  · go_wp2
    go_ret
    exact ⟨rfl, hx1⟩

set_option maxHeartbeats 4000000 in
theorem days_in (yr ix o f pay : Int) (n : Nat) (Y part fr tq : Int) (w : World) (hi : -9223372036854775808 ≤ ix ∧ ix ≤ 9223372036854775807) (hn0 : 0 < n) (hn1 : n ≤ 40) (hf0 : -1099511627776 ≤ f) (hf1 : f + n ≤ 1099511627776) (hfr : 0 ≤ fr ∧ fr < 256) (hto : 0 ≤ tq ∧ tq < 256) :
    Calls Try.prog 9 #[PeV yr ix o (f, f + (n : Int)) pay, .int .i64 Y, .int .i64 part, .int .u8 fr, .int .u8 tq] w fun e w' => e = .returned (.bool true) ∧ Wb.Ext w w' := by
  have hs : Bd (f, f + (n : Int)) := by simp [Bd]; omega
  have HI := Lib.hid hi
  have HS := Lib.hid hs
  clear hi hs
  have e1 : decide (f < -1099511627776) = false := by simp; omega
  have e2 : decide (1099511627776 < f + (n : Int)) = false := by simp; omega
  have e3 : decide (40 < (n : Int)) = false := by simp; omega
  have e4 : decide (f + (n : Int) ≤ f) = false := by simp; omega
  have e5 : f + (n : Int) - f = n := by omega
  obtain ⟨A, hA, hA2⟩ : ∃ A : Nat, Int.tmod fr (n : Int) = A ∧ A < n := by
    have h1 := Int.emod_nonneg fr (show (n : Int) ≠ 0 by omega)
    have h2 := Int.emod_lt_of_pos fr (show (0 : Int) < n by omega)
    exact ⟨(fr % n).toNat, by rw [Int.tmod_eq_emod_of_nonneg hfr.1]; omega, by omega⟩
  obtain ⟨q, hq, hq2⟩ : ∃ q : Nat, Int.tmod tq ((n : Int) - A) = q ∧ q < n - A := by
    have h1 := Int.emod_nonneg tq (show (n : Int) - A ≠ 0 by omega)
    have h2 := Int.emod_lt_of_pos tq (show (0 : Int) < (n : Int) - A by omega)
    exact ⟨(tq % ((n : Int) - A)).toNat, by rw [Int.tmod_eq_emod_of_nonneg hto.1]; omega, by omega⟩
  have hq' : Int.tmod tq (f + (n : Int) - (f + A)) = q := by rw [show f + (n : Int) - (f + A) = n - A by omega]; exact hq
  have e6 : f + (n : Int) - (f + A) = n - A := by omega
  obtain ⟨hfr0, hfr1⟩ := hfr
  obtain ⟨hto0, hto1⟩ := hto
  obtain ⟨i0, hz, hz0, hz1, hz2⟩ := info_parts infoPc
  have HIN := Lib.hid (show Try.prog.info? 50 = some i0 ∧ i0.zero = some (.agg #[.int .i64 0, .int .i64 0, .int .i64 0, .int .i64 0]) ∧ i0.size = 4 ∧ i0.bytes = 32 from ⟨hz, hz0, hz1, hz2⟩)
  clear hz hz0 hz1 hz2
  go_enter Try.func9, Try.ntmps9
  go_wp2_with fail
  go_fit (awake20_any _); rintro e w1 ⟨rfl, hb1⟩
  have hn1 : Wb.Ext w w1 := Wb.Ext.trans (by (repeat' (first | (with_reducible assumption) | (with_reducible exact Wb.Ext.refl _) | (with_reducible refine Wb.Ext.drew ?_) | (with_reducible refine Wb.Ext.drewN ?_ _) | (with_reducible refine Wb.Ext.alloc ?_ _) | (with_reducible refine Wb.Ext.trans ?_ (by assumption))))) hb1
  have hx1 : Wb.Ext w w1 := hn1
  have xp0 : w1.cell? ⟨w.heap.size, 0, none⟩ = some (.int .i64 yr) := hb1.keep (by simp [go_sem])
  have xp1 : w1.cell? ⟨w.heap.size, 1, none⟩ = some (.int .i64 ix) := hb1.keep (by simp [go_sem])
  have xp2 : w1.cell? ⟨w.heap.size, 2, none⟩ = some (.int .i64 o) := hb1.keep (by simp [go_sem])
  have xp3 : w1.cell? ⟨w.heap.size, 3, none⟩ = some (.int .i64 f) := hb1.keep (by simp [go_sem])
  have xp4 : w1.cell? ⟨w.heap.size, 4, none⟩ = some (.int .i64 (f + (n : Int))) := hb1.keep (by simp [go_sem])
  have xp5 : w1.cell? ⟨w.heap.size, 5, none⟩ = some (.int .i64 pay) := hb1.keep (by simp [go_sem])
  have zxp := Wb.cell_size xp0
  clear hb1 hn1
  obtain ⟨⟨C, E⟩, hC⟩ : ∃ q, salaryR ix o (f, f + (n : Int)) [⟨(f, f + (n : Int)), Y, part⟩] = q := ⟨_, rfl⟩
  have HC := Lib.hid hC
  clear hC
  go_wp2_with fail
  go_fit (salary_any yr ix o f (f + (n : Int)) pay _ [⟨(f, f + (n : Int)), Y, part⟩] _ HI.out HS.out (pcs_lit _ _ (by simp) _ _) (by intro x hx; simp at hx; subst hx; exact HS.out) (by simp)); rintro e w2 ⟨rfl, hb2⟩
  have hn2 : Wb.Ext w1 w2 := Wb.Ext.trans (by (repeat' (first | (with_reducible assumption) | (with_reducible exact Wb.Ext.refl _) | (with_reducible refine Wb.Ext.drew ?_) | (with_reducible refine Wb.Ext.drewN ?_ _) | (with_reducible refine Wb.Ext.alloc ?_ _) | (with_reducible refine Wb.Ext.trans ?_ (by assumption))))) hb2
  have hx2 : Wb.Ext w w2 := hx1.trans hn2
  have xp0 := hn2.keep xp0
  have xp1 := hn2.keep xp1
  have xp2 := hn2.keep xp2
  have xp3 := hn2.keep xp3
  have xp4 := hn2.keep xp4
  have xp5 := hn2.keep xp5
  have zxp := Wb.cell_size xp0
  clear hb2 hn2
  rw [HC.out]
  by_cases hE : E = 0
  case neg =>
    have d1 : (E == 0) = false := by simpa using hE
    have d2 : (E != 0) = true := by simpa using hE
    have d3 : (C == 0) = true := by simpa using sal_err HC.out hE
    clear hE
    go_wp2
    go_ret
    exact ⟨by first | rfl | exact Wb.ret_bool d3, by (repeat' (first | (with_reducible assumption) | (with_reducible exact Wb.Ext.refl _) | (with_reducible refine Wb.Ext.drew ?_) | (with_reducible refine Wb.Ext.drewN ?_ _) | (with_reducible refine Wb.Ext.alloc ?_ _) | (with_reducible refine Wb.Ext.trans ?_ (by assumption))))⟩
  subst hE
  have HB := Lib.hid (sal_whole hn0 (by omega) HC.out)
  go_wp2_with fail
  obtain ⟨wA, hwA⟩ : ∃ q, q = w2 := ⟨_, rfl⟩
  go_loopw [13, 14] (fun lv dv wr => ∃ k : Nat, k ≤ n ∧ dv = .int .i64 (f + k) ∧ Hid (wr.ownsRow w2.heap.size 50 4 lv k (rowsOf pcc (dayL f Y part k))) ∧ Wb.Ext w2 wr) (fun _ dv _ => n - (intOf dv - f).toNat)
  case atStart => exact ⟨0, Nat.zero_le _, by simp, Lib.hid ⟨by simp [dayL, rowsOf], .inl ⟨rfl, by simp [dayL, rowsOf]⟩⟩, by (repeat' (first | (with_reducible assumption) | (with_reducible exact Wb.Ext.refl _) | (with_reducible refine Wb.Ext.drew ?_) | (with_reducible refine Wb.Ext.drewN ?_ _) | (with_reducible refine Wb.Ext.alloc ?_ _) | (with_reducible refine Wb.Ext.trans ?_ (by assumption))))⟩
  case round =>
    clear hwA
    obtain ⟨k, hk, rfl, HO, hext⟩ := hrel
    obtain ⟨ra, rc, rfl⟩ := row_shape HO.out
    have xp0 := hext.keep xp0
    have xp1 := hext.keep xp1
    have xp2 := hext.keep xp2
    have xp3 := hext.keep xp3
    have xp4 := hext.keep xp4
    have xp5 := hext.keep xp5
    have zxp := Wb.cell_size xp0
    have hx3 : Wb.Ext w wr := hx2.trans hext
    by_cases hlt : k < n
    · have hki : (k : Int) < n := by omega
      have hki2 : decide (f + (k : Int) < f + n) = true := by simp; omega
      obtain ⟨hz, hz0, hz1, hz2⟩ := HIN.out
      go_wp2_with (at_builtin; go_loud (refine Wb.wpList_append_row rfl (.tmp 80) (.tmp 88) 28 rfl w2.heap.size 50 i0 (.agg #[.int .i64 0, .int .i64 0, .int .i64 0, .int .i64 0]) 4 32 Try.underlying28 hz hz0 hz1 hz2 rfl (by decide) _ _ _ rfl (HO.out.alloc _) _ rfl 1 (pcc (dayP f Y part k)) ?c1 ?c2 ?c3 ?c4 ?c5 ?_))
      case c1 => exact src_lit wr _ rfl (pcc (dayP f Y part k)) _ _
      case c2 => intro u hu; simp [pcc] at hu; rcases hu with rfl | rfl | rfl | rfl <;> rfl
      case c3 => unfold maxLen; omega
      case c4 => omega
      case c5 => have := hext.size; simp; omega
      intro v1 w3 hown hg hnil
      have HG := Lib.hid (show Wb.Ext w2 w3 from Wb.Ext.grown (Wb.Ext.trans hext (by (repeat' (first | (with_reducible assumption) | (with_reducible exact Wb.Ext.refl _) | (with_reducible refine Wb.Ext.drew ?_) | (with_reducible refine Wb.Ext.drewN ?_ _) | (with_reducible refine Wb.Ext.alloc ?_ _) | (with_reducible refine Wb.Ext.trans ?_ (by assumption)))))) hg (fun n hn => (HO.out.lt n hn).1))
      have HO1 := Lib.hid hown
      clear hz hz0 hz1 hz2 hown hg hnil
      go_wp2
      go_roundw
      case rel => exact ⟨k + 1, by omega, by go_num, Lib.hid (by rw [dayL_succ, rowsOf_app, rowsOf_one]; exact HO1.out), HG.out⟩
      case measure => simp [intOf]; omega
    · obtain rfl : k = n := by omega
      have hki2 : decide (f + (k : Int) < f + k) = false := by simp
      obtain ⟨x, hx⟩ : ∃ x, x = Wb.upT C (A + 1 + q) k - Wb.upT C A k := ⟨_, rfl⟩
      obtain ⟨y, hy⟩ : ∃ y, y = Wb.upT C k k - Wb.upT C A k := ⟨_, rfl⟩
      have HR := Lib.hid (DayR.mk hx hy)
      have HX := Lib.hid (show salaryR ix o (f, f + (k : Int)) [⟨(f + (A : Int), f + A + 1 + q), Y, part⟩] = (x, 0) by rw [show f + (A : Int) + 1 + q = f + ((A + 1 + q : Nat) : Int) by omega, hx]; exact sal_in HB.out hn0 (by omega) (by omega) (by omega))
      have HY := Lib.hid (show salaryR ix o (f, f + (k : Int)) [⟨(f + (A : Int), f + (k : Int)), Y, part⟩] = (y, 0) by rw [hy]; exact sal_in HB.out hn0 (by omega) hA2 (Nat.le_refl _))
      have HT := Lib.hid (row_tbl pcc_len (by decide) HO.out)
      clear hx hy HO
      have hBA : -9223372036854775808 ≤ f + (A : Int) ∧ f + (A : Int) ≤ 9223372036854775807 := by omega
      go_wp2_with fail
      go_fit (salary_any yr ix o f (f + (k : Int)) pay _ (dayL f Y part k) _ HI.out HS.out (HT.out.ext (by (repeat' (first | (with_reducible assumption) | (with_reducible exact Wb.Ext.refl _) | (with_reducible refine Wb.Ext.drew ?_) | (with_reducible refine Wb.Ext.drewN ?_ _) | (with_reducible refine Wb.Ext.alloc ?_ _) | (with_reducible refine Wb.Ext.trans ?_ (by assumption)))))) (by intro z hz; obtain ⟨j, hj, rfl⟩ := List.mem_map.1 hz; have := List.mem_range.1 hj; simp [dayP, Bd]; omega) (by rw [dayL_len]; omega)); rintro e w4 ⟨rfl, hb4⟩
      have hn4 : Wb.Ext wr w4 := Wb.Ext.trans (by (repeat' (first | (with_reducible assumption) | (with_reducible exact Wb.Ext.refl _) | (with_reducible refine Wb.Ext.drew ?_) | (with_reducible refine Wb.Ext.drewN ?_ _) | (with_reducible refine Wb.Ext.alloc ?_ _) | (with_reducible refine Wb.Ext.trans ?_ (by assumption))))) hb4
      have hx4 : Wb.Ext w w4 := hx3.trans hn4
      have xp0 := hn4.keep xp0
      have xp1 := hn4.keep xp1
      have xp2 := hn4.keep xp2
      have xp3 := hn4.keep xp3
      have xp4 := hn4.keep xp4
      have xp5 := hn4.keep xp5
      have zxp := Wb.cell_size xp0
      clear hb4 hn4
      rw [salary_days HB.out hn0 (by omega)]
      go_wp2_with fail
      go_quiet (fail)
      go_wp2_with fail
      go_fit (salary_any yr ix o f (f + (k : Int)) pay _ [⟨(f + (A : Int), f + A + 1 + q), Y, part⟩] _ HI.out HS.out (pcs_lit _ _ (by simp) _ _) (by intro z hz; simp at hz; subst hz; simp [Bd]; omega) (by simp)); rintro e w5 ⟨rfl, hb5⟩
      have hn5 : Wb.Ext w4 w5 := Wb.Ext.trans (by (repeat' (first | (with_reducible assumption) | (with_reducible exact Wb.Ext.refl _) | (with_reducible refine Wb.Ext.drew ?_) | (with_reducible refine Wb.Ext.drewN ?_ _) | (with_reducible refine Wb.Ext.alloc ?_ _) | (with_reducible refine Wb.Ext.trans ?_ (by assumption))))) hb5
      have hx5 : Wb.Ext w w5 := hx4.trans hn5
      have xp0 := hn5.keep xp0
      have xp1 := hn5.keep xp1
      have xp2 := hn5.keep xp2
      have xp3 := hn5.keep xp3
      have xp4 := hn5.keep xp4
      have xp5 := hn5.keep xp5
      have zxp := Wb.cell_size xp0
      clear hb5 hn5
      rw [HX.out]
      go_wp2_with fail
      go_fit (salary_any yr ix o f (f + (k : Int)) pay _ [⟨(f + (A : Int), f + (k : Int)), Y, part⟩] _ HI.out HS.out (pcs_lit _ _ (by simp) _ _) (by intro z hz; simp at hz; subst hz; simp [Bd]; omega) (by simp)); rintro e w6 ⟨rfl, hb6⟩
      have hn6 : Wb.Ext w5 w6 := Wb.Ext.trans (by (repeat' (first | (with_reducible assumption) | (with_reducible exact Wb.Ext.refl _) | (with_reducible refine Wb.Ext.drew ?_) | (with_reducible refine Wb.Ext.drewN ?_ _) | (with_reducible refine Wb.Ext.alloc ?_ _) | (with_reducible refine Wb.Ext.trans ?_ (by assumption))))) hb6
      have hx6 : Wb.Ext w w6 := hx5.trans hn6
      have xp0 := hn6.keep xp0
      have xp1 := hn6.keep xp1
      have xp2 := hn6.keep xp2
      have xp3 := hn6.keep xp3
      have xp4 := hn6.keep xp4
      have xp5 := hn6.keep xp5
      have zxp := Wb.cell_size xp0
      clear hb6 hn6
      rw [HY.out]
      rcases day_end HR.out hn0 (show A < A + 1 + q by omega) (by omega) with g1 | ⟨g1, g2, g3, g4⟩ <;> (go_wp2; go_ret; exact ⟨rfl, by (repeat' (first | (with_reducible assumption) | (with_reducible exact Wb.Ext.refl _) | (with_reducible refine Wb.Ext.drew ?_) | (with_reducible refine Wb.Ext.drewN ?_ _) | (with_reducible refine Wb.Ext.alloc ?_ _) | (with_reducible refine Wb.Ext.trans ?_ (by assumption))))⟩)

theorem days_walk (yr ix o f t pay : Int) (Y part fr tq : Int) (w : World) (hi : -9223372036854775808 ≤ ix ∧ ix ≤ 9223372036854775807) (hs : Bd (f, t)) (hfr : 0 ≤ fr ∧ fr < 256) (hto : 0 ≤ tq ∧ tq < 256) :
    Calls Try.prog 9 #[PeV yr ix o (f, t) pay, .int .i64 Y, .int .i64 part, .int .u8 fr, .int .u8 tq] w fun e w' => e = .returned (.bool true) ∧ Wb.Ext w w' := by
  by_cases h : (decide (f < -1099511627776) || decide (1099511627776 < t) || decide (40 < IntKind.i64.wrap (t - f)) || decide (t ≤ f)) = true
  · exact days_out yr ix o f t pay Y part fr tq w hi hs _ _ _ _ rfl rfl _ rfl rfl rfl h
  · have h' : (decide (f < -1099511627776) || decide (1099511627776 < t) || decide (40 < IntKind.i64.wrap (t - f)) || decide (t ≤ f)) = false := by simpa using h
    simp only [Bool.or_eq_false_iff, decide_eq_false_iff_not] at h'
    obtain ⟨⟨⟨h1, h2⟩, h3⟩, h4⟩ := h'
    rw [IntWalk.i64_in _ (by omega)] at h3
    obtain ⟨n, rfl⟩ : ∃ n : Nat, t = f + n := ⟨(t - f).toNat, by omega⟩
    exact days_in yr ix o f pay n Y part fr tq w hi (by omega) (by omega) (by omega) (by omega) hfr hto

end Go.Proofs.Ytheofklbmknipaa
