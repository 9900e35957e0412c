/- The reference of package span: Days, Same. -/
import Derived.Test.YtdckghdmopafpaaRSpn1
namespace Go.Proofs.Ytdckghdmopafpaa
open Go.RowKit Go.Lib
set_option maxRecDepth 8000
attribute [local go_sem ↓] Go.wp_at_zero Go.wp_at_succ

set_option maxHeartbeats 1000000 in
theorem rdays_any (v : Value) (l : List Wb.Sp) (w : World) (hv : Spans w v l) (hb : BdL l) (hl : l.length ≤ 1000000) :
    Calls Try.prog 25 #[v] w fun e w' => e = .returned (.int .i64 (daysL l)) ∧ Wb.Ext w w' := by
  obtain ⟨va, vc, rfl⟩ := hv.shape
  have HV := Lib.hid hv
  have HB := Lib.hid hb
  clear hv hb
  go_enter Try.func25, Try.ntmps25
  go_wp2_with fail
  go_loopw [3, 4] (fun sv iv wr => ∃ k : Nat, k ≤ l.length ∧ iv = .int .i64 k ∧ sv = .int .i64 (daysL (l.take k)) ∧ Wb.Ext w wr) (fun _ iv _ => l.length - (intOf iv).toNat)
  case atStart => exact ⟨0, Nat.zero_le _, rfl, rfl, .refl _⟩
  case round =>
    obtain ⟨k, hk, rfl, rfl, hext⟩ := hrel
    by_cases hlt : k < l.length
    · obtain ⟨y, hy⟩ := Wb.get_ex hlt
      obtain ⟨b, off, rfl, hcells⟩ := (HV.out.ext hext).opened (tne hlt)
      have c0 := hcells _ y hy 0 _ rfl
      have c1 := hcells _ y hy 1 _ rfl
      have hki : (k : Int) < l.length := by omega
      have HYB := Lib.hid (HB.out y (List.mem_of_getElem? hy))
      obtain ⟨n, hn⟩ : ∃ n, daysL (l.take k) = n := ⟨_, rfl⟩
      obtain ⟨L, hL⟩ : ∃ L, lenS y = L := ⟨_, rfl⟩
      have n1 : 0 ≤ n ∧ n ≤ 4611686018427387904 := by rw [← hn]; exact daysL_ok _
      have n2 : 0 ≤ L ∧ L ≤ 4611686018427387904 := by rw [← hL]; exact lenS_ok _
      obtain ⟨n3, n4⟩ := n1
      obtain ⟨n5, n6⟩ := n2
      have HS := Lib.hid (show daysL (l.take (k + 1)) = min n (4611686018427387904 - L) + L by rw [daysL_take hy, hn, hL])
      have HLN := Lib.hid hL
      rw [hn]
      clear hcells hy hn hL
      simp only [Nat.add_zero] at c0
      go_wp2_with fail
      go_fit (rlen_any y HYB.out _); rintro e w1 ⟨rfl, hb1⟩
      rw [HLN.out]
      have HX := Lib.hid (hext.trans hb1)
      clear hb1
      by_cases h1 : n + L ≤ 4611686018427387904
      · have e1 : IntKind.i64.wrap (n + L) = n + L := IntWalk.i64_in _ (by omega)
        have d1 : decide (4611686018427387904 < n + L) = false := by simpa using h1
        have d2 : decide (n + L < 0) = false := by simp; omega
        have HM := Lib.hid (show daysL (l.take (k + 1)) = n + L by rw [HS.out]; omega)
        go_wp2
        go_roundw
        case rel => exact ⟨k + 1, by omega, by go_num, by rw [HM.out], HX.out⟩
        case measure => simp [intOf]; omega
      · have HM := Lib.hid (show daysL (l.take (k + 1)) = 4611686018427387904 by rw [HS.out]; omega)
        by_cases h2 : n + L = 9223372036854775808
        · have e3 : wrap64 9223372036854775808 = -9223372036854775808 := by first | rfl | (unfold wrap64; decide) | (simp [wrap64]; done)
          have e1 : IntKind.i64.wrap (n + L) = -9223372036854775808 := by rw [h2]; rfl
          go_wp2
          go_roundw
          case rel => exact ⟨k + 1, by omega, by go_num, by rw [HM.out], HX.out⟩
          case measure => simp [intOf]; omega
        · have e1 : IntKind.i64.wrap (n + L) = n + L := IntWalk.i64_in _ (by omega)
          have d1 : decide (4611686018427387904 < n + L) = true := by simp; omega
          go_wp2
          go_roundw
          case rel => exact ⟨k + 1, by omega, by go_num, by rw [HM.out], HX.out⟩
          case measure => simp [intOf]; omega
    · obtain rfl : k = l.length := by omega
      rw [List.take_length]
      go_wp2
      go_ret
      exact ⟨rfl, hext⟩

set_option maxHeartbeats 1000000 in
/-- the same spans: Same says so -/
theorem same_any (va vb : Value) (l : List Wb.Sp) (w : World) (ha : Spans w va l) (hb : Spans w vb l) (hl : l.length ≤ 1000000) :
    Calls Try.prog 16 #[va, vb] w fun e w' => e = .returned (.bool true) ∧ Wb.Ext w w' := by
  obtain ⟨xa, xc, rfl⟩ := ha.shape
  obtain ⟨ya, yc, rfl⟩ := hb.shape
  have HA := Lib.hid ha
  have HB := Lib.hid hb
  clear ha hb
  go_enter Try.func16, Try.ntmps16
  go_wp2_with fail
  go_loopw [5] (fun iv wr => ∃ k : Nat, k ≤ l.length ∧ iv = .int .i64 k ∧ Wb.Ext w wr) (fun iv _ => l.length - (intOf iv).toNat)
  case atStart => exact ⟨0, Nat.zero_le _, rfl, .refl _⟩
  case round =>
    obtain ⟨k, hk, rfl, hext⟩ := hrel
    by_cases hlt : k < l.length
    · obtain ⟨y, hy⟩ := Wb.get_ex hlt
      obtain ⟨b, off, rfl, hcells⟩ := (HA.out.ext hext).opened (tne hlt)
      obtain ⟨b2, off2, rfl, hcells2⟩ := (HB.out.ext hext).opened (tne hlt)
      have c0 := hcells _ y hy 0 _ rfl
      have c1 := hcells _ y hy 1 _ rfl
      have d0 := hcells2 _ y hy 0 _ rfl
      have d1 := hcells2 _ y hy 1 _ rfl
      have hki : (k : Int) < l.length := by omega
      clear hcells hcells2 hy
      simp only [Nat.add_zero] at c0 d0
      go_wp2_with fail
      go_quiet (fail)
      go_wp2
      go_roundw
      case rel => exact ⟨k + 1, by omega, by go_num, by (repeat' (first | (with_reducible assumption) | (with_reducible exact Wb.Ext.refl _) | (with_reducible refine Wb.Ext.drew ?_) | (with_reducible refine Wb.Ext.drewN ?_ _) | (with_reducible refine Wb.Ext.alloc ?_ _) | (with_reducible refine Wb.Ext.trans ?_ (by assumption))))⟩
      case measure => simp [intOf]; omega
    · obtain rfl : k = l.length := by omega
      go_wp2
      go_ret
      exact ⟨rfl, hext⟩

end Go.Proofs.Ytdckghdmopafpaa
