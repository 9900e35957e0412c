/- The walk of math/bits.Div64. -/
import Derived.Test.YtheofklbmknipaaBase
import Derived.Test.YtheofklbmknipaaPlainDiv
import Derived.Test.YtheofklbmknipaaShelf
import Derived.Laws.Bits64b
import Derived.Lib.ItoaNum
import Derived.Deep.QuietTactic
import Derived.BigQuiet
import Derived.Deep.DeepFit
import Derived.Deep.DeepCutAuto
import Derived.Deep.CutBlock
namespace Go.Proofs.Ytheofklbmknipaa
open Go.RowKit Go.Lib
set_option maxRecDepth 8000

theorem wrapU (a : Nat) (ha : a < 18446744073709551616) : IntKind.u64.wrap (a : Int) = (a : Int) := by rw [IntKind.wrap_u64]; omega
theorem maskU (a : Nat) (ha : a < 18446744073709551616) : bits .and .u64 (a : Int) 4294967295 = ((a % 4294967296 : Nat) : Int) := by
  have h := bits_and_u64_nat a 4294967295 ha (by omega)
  have e : a &&& 4294967295 = a % 4294967296 := Nat.and_two_pow_sub_one_eq_mod a 32
  rw [e] at h
  exact h
theorem orU (h l s : Nat) (hl : l < 2 ^ s) (hb : h * 2 ^ s + l < 18446744073709551616) : bits .or .u64 ((h * 2 ^ s : Nat) : Int) (l : Int) = ((h * 2 ^ s + l : Nat) : Int) := by
  have h1 := bits_or_u64_nat (h * 2 ^ s) l (by omega) (by omega)
  rw [h1, ← Nat.shiftLeft_eq, ← Nat.shiftLeft_add_eq_or_of_lt hl]
theorem quo_le (a b : Nat) : a / b ≤ a := Nat.div_le_self a b
theorem div_small (lo y : Nat) (hy : 0 < y) (hlo : lo < 18446744073709551616) (hyb : y < 18446744073709551616) (w : World) :
    Calls Try.prog 73 #[.int .u64 0, .int .u64 lo, .int .u64 y] w fun e w' => e = .returned (.tuple #[.int .u64 ((lo / y : Nat) : Int), .int .u64 ((lo % y : Nat) : Int)]) ∧ Wb.Ext w w' := by
  have d1 : ((y : Int) == 0) = false := by simp; omega
  have d2 : decide ((y : Int) ≤ 0) = false := by simp; omega
  have d3 : decide (y = 0) = false := by simp; omega
  have e1 : IntKind.u64.wrap ((lo : Int) / (y : Int)) = ((lo / y : Nat) : Int) := by
    rw [← Int.natCast_ediv]; exact wrapU _ (Nat.lt_of_le_of_lt (quo_le lo y) hlo)
  have e2 : ((lo : Int) % (y : Int)) = ((lo % y : Nat) : Int) := (Int.natCast_emod lo y).symm
  go_enter Try.func73, Try.ntmps73
  go_wp2_with fail
  go_quiet (fail)
  go_wp2
  all_goals
    refine bodyPost_ret (v := .tuple #[.int .u64 ((lo / y : Nat) : Int), .int .u64 ((lo % y : Nat) : Int)]) (by simp [results, Try.results73, go_sem]) rfl ⟨rfl, by (repeat' (first | (with_reducible assumption) | (with_reducible exact Wb.Ext.refl _) | (with_reducible refine Wb.Ext.drew ?_) | (with_reducible refine Wb.Ext.drewN ?_ _) | (with_reducible refine Wb.Ext.alloc ?_ _) | (with_reducible refine Wb.Ext.trans ?_ (by assumption))))⟩
theorem lz_facts {y : Nat} (h0 : 0 < y) (h1 : y < 18446744073709551616) : ∃ s : Nat, s ≤ 63 ∧ (64 - ((Lib.bitLen ((y : Int).toNat) : Nat) : Int)) = (s : Int) ∧ 9223372036854775808 ≤ y * 2 ^ s ∧ y * 2 ^ s < 18446744073709551616 := by
  rw [show ((y : Int).toNat) = y by simp]
  obtain ⟨b, hb, h2, h3, h4⟩ : ∃ b, Lib.bitLen y = b + 1 ∧ b ≤ 63 ∧ 2 ^ b ≤ y ∧ y < 2 ^ (b + 1) := by
    obtain ⟨h2, h3, h4⟩ := Lib.bitLenAux_bounds 64 y h1 (by omega)
    refine ⟨Lib.bitLen y - 1, by have : 1 ≤ Lib.bitLen y := h2; omega, ?_, h3, ?_⟩
    · have := Lib.bitLen_le y 64 (Nat.le_refl _) h1; omega
    · rw [show Lib.bitLen y - 1 + 1 = Lib.bitLen y by have : 1 ≤ Lib.bitLen y := h2; omega]; exact h4
  refine ⟨63 - b, by omega, by rw [hb]; omega, ?_, ?_⟩
  · calc 9223372036854775808 = 2 ^ b * 2 ^ (63 - b) := by rw [← Nat.pow_add, show b + (63 - b) = 63 by omega]
      _ ≤ y * 2 ^ (63 - b) := Nat.mul_le_mul_right _ h3
  · calc y * 2 ^ (63 - b) < 2 ^ (b + 1) * 2 ^ (63 - b) := Nat.mul_lt_mul_of_pos_right h4 (Nat.two_pow_pos _)
      _ = 18446744073709551616 := by rw [← Nat.pow_add, show b + 1 + (63 - b) = 64 by omega]
set_option maxHeartbeats 2000000 in
theorem div_great (hi lo y : Nat) (h0 : 0 < hi) (hy : hi < y) (hlo : lo < 18446744073709551616) (hyb : y < 18446744073709551616) (w : World) :
    Calls Try.prog 73 #[.int .u64 hi, .int .u64 lo, .int .u64 y] w fun e w' => e = .returned (.tuple #[.int .u64 (((hi * 18446744073709551616 + lo) / y : Nat) : Int), .int .u64 (((hi * 18446744073709551616 + lo) % y : Nat) : Int)]) ∧ Wb.Ext w w' := by
  have d1 : ((y : Int) == 0) = false := by simp; omega
  have d2 : decide ((y : Int) ≤ (hi : Int)) = false := by simp; omega
  have d2 : decide (y ≤ hi) = false := by simp; omega
  have d3 : ((hi : Int) == 0) = false := by simp; omega
  obtain ⟨s, hs63, hse, hn1, hn2⟩ := lz_facts (Nat.lt_trans h0 hy) hyb
  have hlz := Any.bits_LeadingZeros64 Try.lz64 (y : Int) w (by omega) (by omega)
  rw [hse] at hlz
  have HLZ := Lib.hid hlz
  clear hlz
  have hST : 2 ^ s * 2 ^ (64 - s) = 18446744073709551616 := by rw [← Nat.pow_add, show s + (64 - s) = 64 by omega]
  have m1 : min s 64 = s := by omega
  have m2 : min (64 - s) 64 = 64 - s := by omega
  obtain ⟨Y, hY⟩ : ∃ Y, y * 2 ^ s = Y := ⟨_, rfl⟩
  obtain ⟨Hh, hHh⟩ : ∃ Y, hi * 2 ^ s = Y := ⟨_, rfl⟩
  obtain ⟨L, hL⟩ : ∃ Y, lo / 2 ^ (64 - s) = Y := ⟨_, rfl⟩
  obtain ⟨D, hD⟩ : ∃ Y, lo * 2 ^ s % 18446744073709551616 = Y := ⟨_, rfl⟩
  have hup := Wb.up_s (hi := hi) hST hlo
  have hul := Wb.up_lt hST hlo hy
  have hLs : L < 2 ^ s := by
    rw [← hL, Nat.div_lt_iff_lt_mul (Nat.two_pow_pos _), hST]; exact hlo
  rw [hHh, hL, hD] at hup
  rw [hHh, hL, hY] at hul
  rw [hY] at hn1 hn2
  have hdn := Wb.down_s (N := hi * 18446744073709551616 + lo) (y := y) (S := 2 ^ s) (Nat.two_pow_pos _)
  rw [← hup, hY] at hdn
  obtain ⟨U, hU⟩ : ∃ U, Hh + L = U := ⟨_, rfl⟩
  rw [hU] at hul hdn
  have HDN := Lib.hid hdn
  have hDb : D < 18446744073709551616 := by rw [← hD]; exact Nat.mod_lt _ (by decide)
  obtain ⟨y1, hy1⟩ : ∃ t, Y / 4294967296 = t := ⟨_, rfl⟩
  obtain ⟨y0, hy0⟩ : ∃ t, Y % 4294967296 = t := ⟨_, rfl⟩
  obtain ⟨d1', hd1⟩ : ∃ t, D / 4294967296 = t := ⟨_, rfl⟩
  obtain ⟨d0', hd0⟩ : ∃ t, D % 4294967296 = t := ⟨_, rfl⟩
  have HYS := Lib.hid (show Y = y1 * 4294967296 + y0 by omega)
  have HDS := Lib.hid (show D = d1' * 4294967296 + d0' by omega)
  have HOK1 := Lib.hid (show Wb.DigOk U d1' y1 y0 from ⟨by omega, by omega, by omega, by omega⟩)
  obtain ⟨Q1, hQ1⟩ : ∃ t, (U * 4294967296 + d1') / (y1 * 4294967296 + y0) = t := ⟨_, rfl⟩
  obtain ⟨R1, hR1⟩ : ∃ t, (U * 4294967296 + d1') % (y1 * 4294967296 + y0) = t := ⟨_, rfl⟩
  have hq1 := Wb.dig_lt HOK1.out
  have hr1 := Wb.dig_rest HOK1.out rfl
  rw [hQ1] at hq1 hr1
  rw [hR1] at hr1
  have HQ1 := Lib.hid hQ1
  have HR1 := Lib.hid hr1
  have HOK0 := Lib.hid (show Wb.DigOk R1 d0' y1 y0 from ⟨by omega, by omega, by omega, hr1.2⟩)
  have hr1b : R1 < Y := by rw [HYS.out]; exact hr1.2
  obtain ⟨Q0, hQ0⟩ : ∃ t, (R1 * 4294967296 + d0') / (y1 * 4294967296 + y0) = t := ⟨_, rfl⟩
  obtain ⟨R0, hR0⟩ : ∃ t, (R1 * 4294967296 + d0') % (y1 * 4294967296 + y0) = t := ⟨_, rfl⟩
  have hq0 := Wb.dig_lt HOK0.out
  have hr0 := Wb.dig_rest HOK0.out rfl
  rw [hQ0] at hq0 hr0
  rw [hR0] at hr0
  have HQ0 := Lib.hid hQ0
  have HR0 := Lib.hid hr0
  have hr0b : R0 < Y := by rw [HYS.out]; exact hr0.2
  clear hQ1 hR1 hQ0 hR0 hr1 hr0
  -- the walk's spellings
  have e1 : IntKind.u64.wrap ((y : Int) * 2 ^ s) = (Y : Int) := by rw [show ((y : Int) * 2 ^ s) = ((y * 2 ^ s : Nat) : Int) by simp, hY, wrapU _ (by omega)]
  have e2 : (Y : Int) / 4294967296 = (y1 : Int) := by omega
  have e3 : bits .and .u64 (Y : Int) 4294967295 = (y0 : Int) := by rw [maskU _ (by omega), hy0]
  have e4 : IntKind.u64.wrap ((hi : Int) * 2 ^ s) = (Hh : Int) := by rw [show ((hi : Int) * 2 ^ s) = ((hi * 2 ^ s : Nat) : Int) by simp, hHh, wrapU _ (by omega)]
  have e5 : (lo : Int) / 2 ^ (64 - s) = (L : Int) := by rw [← hL]; simp
  have e6 : bits .or .u64 (Hh : Int) (L : Int) = (U : Int) := by rw [← hU, ← hHh]; exact orU hi L s hLs (by omega)
  have e7 : IntKind.u64.wrap ((lo : Int) * 2 ^ s) = (D : Int) := by rw [← hD, IntKind.wrap_u64]; simp
  have e8 : (D : Int) / 4294967296 = (d1' : Int) := by omega
  have e9 : bits .and .u64 (D : Int) 4294967295 = (d0' : Int) := by rw [maskU _ hDb, hd0]
  have rest : ∀ u : Nat, u < 18446744073709551616 → IntKind.u64.wrap ((u : Int) - IntKind.u64.wrap (((u / y1 : Nat) : Int) * (y1 : Int))) = ((u % y1 : Nat) : Int) := fun u hu => by
    have h1 := Nat.div_add_mod u y1
    rw [Nat.mul_comm] at h1
    rw [show ((u / y1 : Nat) : Int) * (y1 : Int) = ((u / y1 * y1 : Nat) : Int) from (Int.natCast_mul _ _).symm, wrapU _ (by generalize u / y1 * y1 = t at *; omega), IntKind.wrap_u64]
    generalize u / y1 * y1 = t at *
    omega
  have hs1 := Wb.dig_start HOK1.out
  have hs0 := Wb.dig_start HOK0.out
  have hU64 : U < 18446744073709551616 := by omega
  have e10 : (U : Int) / (y1 : Int) = ((U / y1 : Nat) : Int) := (Int.natCast_ediv U y1).symm
  have e11 := rest U hU64
  have e12 : IntKind.u64.wrap ((U / y1 : Nat) : Int) = ((U / y1 : Nat) : Int) := wrapU _ (by have := hs1.le; omega)
  have e13 : (R1 : Int) / (y1 : Int) = ((R1 / y1 : Nat) : Int) := (Int.natCast_ediv R1 y1).symm
  have e14 := rest R1 (by omega)
  have e15 : IntKind.u64.wrap ((R1 / y1 : Nat) : Int) = ((R1 / y1 : Nat) : Int) := wrapU _ (by have := hs0.le; omega)
  have left : ∀ u d q r : Nat, d < 4294967296 → q * (y1 * 4294967296 + y0) + r = u * 4294967296 + d → r < 18446744073709551616 → IntKind.u64.wrap (IntKind.u64.wrap (IntKind.u64.wrap ((u : Int) * 4294967296) + (d : Int)) - IntKind.u64.wrap ((q : Int) * (Y : Int))) = (r : Int) := fun u d q r hd h hr => by
    rw [show ((q : Int) * (Y : Int)) = ((q * (y1 * 4294967296 + y0) : Nat) : Int) by rw [HYS.out]; exact (Int.natCast_mul _ _).symm]
    generalize q * (y1 * 4294967296 + y0) = t at *
    simp only [IntKind.wrap_u64]
    omega
  have e16 := left U d1' Q1 R1 (by omega) HR1.out.1 (by omega)
  have e17 := left R1 d0' Q0 R0 (by omega) HR0.out.1 (by omega)
  have HRES := Lib.hid (show (hi * 18446744073709551616 + lo) / y = Q1 * 4294967296 + Q0 ∧ (hi * 18446744073709551616 + lo) % y = R0 / 2 ^ s by
    obtain ⟨t1, t2⟩ := Wb.dig_two (Y := Y) (by omega) (by rw [HYS.out]; exact HR1.out.1) (by rw [HYS.out]; exact HR0.out.1) hr0b
    have t3 : (U * 4294967296 + d1') * 4294967296 + d0' = U * 18446744073709551616 + D := by rw [HDS.out, Nat.add_mul, Nat.mul_assoc U, Nat.add_assoc]
    rw [t3] at t1 t2
    exact ⟨by rw [← HDN.out.1, t1], by rw [← HDN.out.2, t2]⟩)
  have z5 : 0 < y1 := by omega
  have z1 : decide (y1 = 0) = false := by simp; omega
  have z2 : ((y1 : Int) == 0) = false := by simp; omega
  have hs63' : (s : Int) ≤ 63 := by omega
  have HS1 := Lib.hid hs1
  have HS0 := Lib.hid hs0
  have hy0b : y0 < 4294967296 := by omega
  have hy1b : y1 < 4294967296 := by omega
  have hd1b : d1' < 4294967296 := by omega
  have hd0b : d0' < 4294967296 := by omega
  have hl1 : U / y1 ≤ 4294967297 := hs1.le
  have hl0 : R1 / y1 ≤ 4294967297 := hs0.le
  have hm1 : U % y1 < 4294967296 := Nat.lt_trans (Nat.mod_lt _ (by omega)) hy1b
  have hm0 : R1 % y1 < 4294967296 := Nat.lt_trans (Nat.mod_lt _ (by omega)) hy1b
  clear hY hHh hL hD hU hy1 hy0 hd1 hd0 hse hup hdn hLs hST rest left hs1 hs0
  obtain ⟨q1, hq1e⟩ : ∃ t, U / y1 = t := ⟨_, rfl⟩
  obtain ⟨p1, hp1e⟩ : ∃ t, U % y1 = t := ⟨_, rfl⟩
  obtain ⟨q0, hq0e⟩ : ∃ t, R1 / y1 = t := ⟨_, rfl⟩
  obtain ⟨p0, hp0e⟩ : ∃ t, R1 % y1 = t := ⟨_, rfl⟩
  rw [hq1e] at e10 e11 e12 hl1
  rw [hp1e] at e11 hm1
  rw [hq0e] at e13 e14 e15 hl0
  rw [hp0e] at e14 hm0
  replace HS1 := Lib.hid (show Wb.Dig U d1' y1 y0 q1 p1 by rw [← hq1e, ← hp1e]; exact HS1.out)
  replace HS0 := Lib.hid (show Wb.Dig R1 d0' y1 y0 q0 p0 by rw [← hq0e, ← hp0e]; exact HS0.out)
  clear hq1e hp1e hq0e hp0e
  go_enter Try.func73, Try.ntmps73
  go_wp2_with fail
  refine HLZ.out.mono ?_; rintro e w' ⟨rfl, rfl⟩
  go_upto_block 0 with (fail)
  go_cut [15] (fun t wx => t = .int .u64 (Q1 : Int) ∧ w' = wx)
  case first =>
    go_wp2_with fail
    go_loop [15, 16] (fun t r' => ∃ q r : Nat, t = .int .u64 q ∧ r' = .int .u64 r ∧ Hid (Wb.Dig U d1' y1 y0 q r) ∧ q ≤ 4294967297 ∧ r < 4294967296) (fun t _ => (intOf t).toNat)
    case atStart => exact ⟨_, _, rfl, rfl, HS1, by assumption, by assumption⟩
    case round =>
      obtain ⟨q, r, rfl, rfl, HD, hq, hr⟩ := hrel
      obtain ⟨m, hm⟩ : ∃ m, q * y0 = m := ⟨_, rfl⟩
      have hmb : m ≤ 4294967297 * 4294967295 := by rw [← hm]; exact Nat.mul_le_mul hq (by omega)
      have em : IntKind.u64.wrap ((q : Int) * (y0 : Int)) = (m : Int) := by rw [show ((q : Int) * (y0 : Int)) = ((q * y0 : Nat) : Int) from (Int.natCast_mul _ _).symm, hm, wrapU _ (by omega)]
      have HM := Lib.hid hm
      clear hm
      by_cases hc : 4294967296 ≤ q ∨ r * 4294967296 + d1' < m
      · obtain ⟨k1, k2, k3⟩ := Wb.dig_more HOK1.out HD.out (by rw [HM.out]; exact hc)
        have HK := Lib.hid k1
        clear k1
        by_cases hb : 4294967296 ≤ r + y1
        · have HE := Lib.hid (show q - 1 = Q1 by rw [← HQ1.out]; exact Wb.dig_break HOK1.out HK.out k3 hb)
          have db : decide ((4294967296 : Int) ≤ (r : Int) + (y1 : Int)) = true := by simp; omega
          by_cases h1 : 4294967296 ≤ q
          · have t1 : decide ((4294967296 : Int) ≤ (q : Int)) = true := by simp; omega
            go_wp2
            go_meet
            exact ⟨by rw [← HE.out]; first | rfl | (congr 1; omega), rfl⟩
          · have t1 : decide ((4294967296 : Int) ≤ (q : Int)) = false := by simp; omega
            have t2 : decide ((4294967296 : Int) * (r : Int) + (d1' : Int) < (m : Int)) = true := by simp; omega
            go_wp2
            go_meet
            exact ⟨by rw [← HE.out]; first | rfl | (congr 1; omega), rfl⟩
        · have db : decide ((4294967296 : Int) ≤ (r : Int) + (y1 : Int)) = false := by simp; omega
          by_cases h1 : 4294967296 ≤ q
          · have t1 : decide ((4294967296 : Int) ≤ (q : Int)) = true := by simp; omega
            go_wp2
            go_round
            case rel => exact ⟨q - 1, r + y1, by first | rfl | (congr 1; omega), by first | rfl | (congr 1; omega), HK, by omega, by omega⟩
            case measure => simp [intOf]; omega
          · have t1 : decide ((4294967296 : Int) ≤ (q : Int)) = false := by simp; omega
            have t2 : decide ((4294967296 : Int) * (r : Int) + (d1' : Int) < (m : Int)) = true := by simp; omega
            go_wp2
            go_round
            case rel => exact ⟨q - 1, r + y1, by first | rfl | (congr 1; omega), by first | rfl | (congr 1; omega), HK, by omega, by omega⟩
            case measure => simp [intOf]; omega
      · have HE := Lib.hid (show q = Q1 by rw [← HQ1.out]; exact Wb.dig_end HOK1.out HD.out (by rw [HM.out]; omega))
        have t1 : decide ((4294967296 : Int) ≤ (q : Int)) = false := by simp; omega
        have t2 : decide ((4294967296 : Int) * (r : Int) + (d1' : Int) < (m : Int)) = false := by simp; omega
        go_wp2
        go_meet
        exact ⟨by rw [← HE.out], rfl⟩
  case rest =>
    obtain ⟨hc, rfl⟩ := hcut
    subst hc
    clear e10 e11 e12 e1 e2 e3 e4 e5 e6 e7 e8 e9
    have z3 : ¬ y1 = 0 := by omega
    have z4 : ¬ (y1 : Int) = 0 := by omega
    go_upto_block 2 with (fail)
    go_cut [18] (fun t wx => t = .int .u64 (Q0 : Int) ∧ w' = wx)
    case first =>
      go_wp2_with fail
      go_loop [18, 16] (fun t r' => ∃ q r : Nat, t = .int .u64 q ∧ r' = .int .u64 r ∧ Hid (Wb.Dig R1 d0' y1 y0 q r) ∧ q ≤ 4294967297 ∧ r < 4294967296) (fun t _ => (intOf t).toNat)
      case atStart => exact ⟨_, _, rfl, rfl, HS0, by assumption, by assumption⟩
      case round =>
        obtain ⟨q, r, rfl, rfl, HD, hq, hr⟩ := hrel
        obtain ⟨m, hm⟩ : ∃ m, q * y0 = m := ⟨_, rfl⟩
        have hmb : m ≤ 4294967297 * 4294967295 := by rw [← hm]; exact Nat.mul_le_mul hq (by omega)
        have em : IntKind.u64.wrap ((q : Int) * (y0 : Int)) = (m : Int) := by rw [show ((q : Int) * (y0 : Int)) = ((q * y0 : Nat) : Int) from (Int.natCast_mul _ _).symm, hm, wrapU _ (by omega)]
        have HM := Lib.hid hm
        clear hm
        by_cases hc : 4294967296 ≤ q ∨ r * 4294967296 + d0' < m
        · obtain ⟨k1, k2, k3⟩ := Wb.dig_more HOK0.out HD.out (by rw [HM.out]; exact hc)
          have HK := Lib.hid k1
          clear k1
          by_cases hb : 4294967296 ≤ r + y1
          · have HE := Lib.hid (show q - 1 = Q0 by rw [← HQ0.out]; exact Wb.dig_break HOK0.out HK.out k3 hb)
            have db : decide ((4294967296 : Int) ≤ (r : Int) + (y1 : Int)) = true := by simp; omega
            by_cases h1 : 4294967296 ≤ q
            · have t1 : decide ((4294967296 : Int) ≤ (q : Int)) = true := by simp; omega
              go_wp2
              go_meet
              exact ⟨by rw [← HE.out]; first | rfl | (congr 1; omega), rfl⟩
            · have t1 : decide ((4294967296 : Int) ≤ (q : Int)) = false := by simp; omega
              have t2 : decide ((4294967296 : Int) * (r : Int) + (d0' : Int) < (m : Int)) = true := by simp; omega
              go_wp2
              go_meet
              exact ⟨by rw [← HE.out]; first | rfl | (congr 1; omega), rfl⟩
          · have db : decide ((4294967296 : Int) ≤ (r : Int) + (y1 : Int)) = false := by simp; omega
            by_cases h1 : 4294967296 ≤ q
            · have t1 : decide ((4294967296 : Int) ≤ (q : Int)) = true := by simp; omega
              go_wp2
              go_round
              case rel => exact ⟨q - 1, r + y1, by first | rfl | (congr 1; omega), by first | rfl | (congr 1; omega), HK, by omega, by omega⟩
              case measure => simp [intOf]; omega
            · have t1 : decide ((4294967296 : Int) ≤ (q : Int)) = false := by simp; omega
              have t2 : decide ((4294967296 : Int) * (r : Int) + (d0' : Int) < (m : Int)) = true := by simp; omega
              go_wp2
              go_round
              case rel => exact ⟨q - 1, r + y1, by first | rfl | (congr 1; omega), by first | rfl | (congr 1; omega), HK, by omega, by omega⟩
              case measure => simp [intOf]; omega
        · have HE := Lib.hid (show q = Q0 by rw [← HQ0.out]; exact Wb.dig_end HOK0.out HD.out (by rw [HM.out]; omega))
          have t1 : decide ((4294967296 : Int) ≤ (q : Int)) = false := by simp; omega
          have t2 : decide ((4294967296 : Int) * (r : Int) + (d0' : Int) < (m : Int)) = false := by simp; omega
          go_wp2
          go_meet
          exact ⟨by rw [← HE.out], rfl⟩
    case rest =>
      obtain ⟨hc, rfl⟩ := hcut
      subst hc
      clear e13 e14 e15 e16
      go_wp2
      refine bodyPost_ret (v := .tuple #[.int .u64 ((Q1 : Int) * 4294967296 + (Q0 : Int)), .int .u64 ((R0 : Int) / 2 ^ s)]) (by simp [results, Try.results73, go_sem]) rfl ⟨by rw [HRES.out.1, HRES.out.2]; simp, by (repeat' (first | (with_reducible assumption) | (with_reducible exact Wb.Ext.refl _) | (with_reducible refine Wb.Ext.drew ?_) | (with_reducible refine Wb.Ext.drewN ?_ _) | (with_reducible refine Wb.Ext.alloc ?_ _) | (with_reducible refine Wb.Ext.trans ?_ (by assumption))))⟩

theorem div64_any (hi lo y : Nat) (hy : hi < y) (hlo : lo < 18446744073709551616) (hyb : y < 18446744073709551616) (w : World) :
    Calls Try.prog 73 #[.int .u64 hi, .int .u64 lo, .int .u64 y] w fun e w' => e = .returned (.tuple #[.int .u64 (((hi * 18446744073709551616 + lo) / y : Nat) : Int), .int .u64 (((hi * 18446744073709551616 + lo) % y : Nat) : Int)]) ∧ Wb.Ext w w' := by
  rcases Nat.eq_zero_or_pos hi with rfl | h
  · have := div_small lo y hy hlo hyb w
    rwa [Nat.zero_mul, Nat.zero_add]
  · exact div_great hi lo y h hy hlo hyb w

end Go.Proofs.Ytheofklbmknipaa
