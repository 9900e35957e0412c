/- The walks of package rate: a part of an amount, to the nearest. -/
import Derived.Test.YtheofklbmknipaaShr
namespace Go.Proofs.Ytheofklbmknipaa
open Go.RowKit Go.Lib
set_option maxRecDepth 8000

theorem size_any (n : Int) (h : -9223372036854775808 ≤ n ∧ n ≤ 9223372036854775807) (w : World) :
    Calls Try.prog 72 #[.int .i64 n] w fun e w' => e = .returned (.int .u64 (n.natAbs : Int)) ∧ w = w' := by
  obtain ⟨h1, h2⟩ := h
  by_cases h0 : n < 0
  · obtain ⟨m, hm⟩ : ∃ m : Nat, n = -(m : Int) := ⟨n.natAbs, by omega⟩
    subst hm
    have hmb : 0 < m ∧ m ≤ 9223372036854775808 := by omega
    have H := Lib.hid (show ((-(m : Int)).natAbs : Int) = m by omega)
    have e1 : IntKind.u64.wrap (-(m : Int)) = 18446744073709551616 - (m : Int) := by rw [IntKind.wrap_u64]; omega
    have e2 : IntKind.u64.wrap (-(18446744073709551616 - (m : Int))) = (m : Int) := by rw [IntKind.wrap_u64]; omega
    have e3 : IntKind.u64.wrap (-(IntKind.u64.wrap (-(m : Int)))) = (m : Int) := by rw [e1, e2]
    have d : decide (-(m : Int) < 0) = true := by simpa using h0
    have d2 : decide (0 < (m : Int)) = true := by first | (simp; done) | (simp; omega)
    have d3 : decide (0 < m) = true := by first | (simp; done) | (simp; omega)
    go_enter Try.func72, Try.ntmps72
    go_wp2
    go_ret
    exact ⟨Wb.ret_int (by first | rfl | (rw [H.out]; first | (rw [IntKind.wrap_u64]; omega) | (simp only [IntKind.wrap_u64]; omega) | omega) | omega), rfl⟩
  · obtain ⟨m, hm⟩ : ∃ m : Nat, n = (m : Int) := ⟨n.natAbs, by omega⟩
    subst hm
    have H := Lib.hid (show (((m : Int)).natAbs : Int) = m by omega)
    have d : decide ((m : Int) < 0) = false := by simp
    go_enter Try.func72, Try.ntmps72
    go_wp2
    go_ret
    exact ⟨Wb.ret_int (by first | rfl | (rw [H.out]; first | rfl | (rw [IntKind.wrap_u64]; omega)) | simp), rfl⟩
theorem up_half (neg : Bool) (q left den : Nat) (hl : left < den) (hd : den < 18446744073709551616) (w : World) :
    Calls Try.prog 74 #[.bool neg, .int .u64 q, .int .u64 left, .int .u64 den, .int .i64 1] w fun e w' => e = .returned (.bool (decide (den ≤ 2 * left))) ∧ w = w' := by
  by_cases h : den ≤ 2 * left
  · have H := Lib.hid (show decide (den ≤ 2 * left) = true by simpa using h)
    have d : decide ((den : Int) - (left : Int) ≤ (left : Int)) = true := by first | (simp; done) | (simp; omega)
    have d2 : ((den : Int) - (left : Int) ≤ (left : Int)) := by omega
    go_enter Try.func74, Try.ntmps74
    go_wp2
    go_ret
    exact ⟨by first | rfl | exact Wb.ret_bool H.out.symm, rfl⟩
  · have H := Lib.hid (show decide (den ≤ 2 * left) = false by simpa using h)
    have d : decide ((den : Int) - (left : Int) ≤ (left : Int)) = false := by first | (simp; done) | (simp; omega)
    have d2 : ¬ ((den : Int) - (left : Int) ≤ (left : Int)) := by omega
    go_enter Try.func74, Try.ntmps74
    go_wp2
    go_ret
    exact ⟨by first | rfl | exact Wb.ret_bool H.out.symm, rfl⟩
/-- a * b / den, to the nearest, at most so much -/
def quotR (a b : Int) (d m : Nat) : Int × Bool :=
  if m < Wb.huN (a.natAbs * b.natAbs) d then (0, false) else (Wb.sgn (decide (a < 0) != decide (b < 0)) (Wb.huN (a.natAbs * b.natAbs) d), true)
abbrev IB (x : Int × Bool) : Ending := .returned (.tuple #[.int .i64 x.1, .bool x.2])
set_option maxHeartbeats 2000000 in
theorem quot_any (a b : Int) (d m : Nat) (ha : -1125899906842624 ≤ a ∧ a ≤ 1125899906842624) (hb : -9223372036854775808 ≤ b ∧ b ≤ 9223372036854775807) (h0 : 0 < d) (hd : d ≤ 9223372036854775807) (hm : m ≤ 1125899906842624) (w : World) :
    Calls Try.prog 55 #[.int .i64 a, .int .i64 b, .int .u64 d, .int .u64 m, .int .i64 1] w fun e w' => e = IB (quotR a b d m) ∧ Wb.Ext w w' := by
  obtain ⟨x, hx⟩ : ∃ x, a.natAbs = x := ⟨_, rfl⟩
  obtain ⟨y, hy⟩ : ∃ x, b.natAbs = x := ⟨_, rfl⟩
  obtain ⟨N, hN⟩ : ∃ x, (decide (a < 0) != decide (b < 0)) = x := ⟨_, rfl⟩
  have hxb : x ≤ 1125899906842624 := by omega
  have hyb : y ≤ 9223372036854775808 := by omega
  have HX := Lib.hid (show ((a.natAbs : Nat) : Int) = x by rw [hx])
  have HY := Lib.hid (show ((b.natAbs : Nat) : Int) = y by rw [hy])
  have HQ := Lib.hid (show quotR a b d m = if m < Wb.huN (x * y) d then (0, false) else (Wb.sgn N (Wb.huN (x * y) d), true) by rw [quotR, hx, hy, hN])
  obtain ⟨h, hh⟩ : ∃ h, x * y / 18446744073709551616 = h := ⟨_, rfl⟩
  obtain ⟨l, hl⟩ : ∃ h, x * y % 18446744073709551616 = h := ⟨_, rfl⟩
  have hlb : l < 18446744073709551616 := by rw [← hl]; exact Nat.mod_lt _ (by decide)
  have HS := Lib.hid (show h * 18446744073709551616 + l = x * y by rw [← hh, ← hl, Nat.mul_comm]; exact Nat.div_add_mod _ _)
  obtain ⟨q, hq⟩ : ∃ q, x * y / d = q := ⟨_, rfl⟩
  obtain ⟨r, hr⟩ : ∃ q, x * y % d = q := ⟨_, rfl⟩
  have hrd : r < d := by rw [← hr]; exact Nat.mod_lt _ h0
  have HU := Lib.hid (show Wb.huN (x * y) d = if d ≤ 2 * r then q + 1 else q from Wb.hu_qr (by rw [← hq, ← hr, Nat.mul_comm]; exact Nat.div_add_mod _ _) hrd)
  have HH := Lib.hid hh
  have HL := Lib.hid hl
  have HQQ := Lib.hid hq
  have HRR := Lib.hid hr
  have hN' : (decide (a < 0) != decide (b < 0)) = N := hN
  clear hx hy hh hl hq hr hN
  have hN2 : (decide (a < 0) == decide (b < 0)) = !N := by rw [← hN']; cases decide (a < 0) <;> cases decide (b < 0) <;> rfl
  by_cases hhd : d ≤ h
  · have dh : decide (d ≤ h) = true := by simpa using hhd
    have HQ2 := Lib.hid (show quotR a b d m = (0, false) by
      rw [HQ.out, if_pos]
      have hqq : h * 18446744073709551616 / d ≤ q := by rw [← HQQ.out, ← HS.out]; exact Nat.div_le_div_right (by omega)
      have hq1 : 18446744073709551616 ≤ h * 18446744073709551616 / d := by
        rw [Nat.le_div_iff_mul_le h0, Nat.mul_comm]
        exact Nat.mul_le_mul_right _ hhd
      rw [HU.out]; split <;> omega)
    go_enter Try.func55, Try.ntmps55
    go_wp2_with fail
    go_fit (size_any a (by omega) _); rintro e w' ⟨rfl, rfl⟩
    rw [HX.out]
    go_wp2_with fail
    go_fit (size_any b hb _); rintro e w' ⟨rfl, rfl⟩
    rw [HY.out]
    go_wp2_with fail
    go_fit (mul64_any x y (by omega) (by omega) _); rintro e w' ⟨rfl, rfl⟩
    rw [HH.out, HL.out]
    go_wp2
    refine bodyPost_ret (v := .tuple #[.int .i64 0, .bool false]) (by simp [results, Try.results55, go_sem]) rfl ⟨by rw [HQ2.out], .refl _⟩
  have dh : decide (d ≤ h) = false := by simpa using hhd
  by_cases hqm : m < q
  · have dq : decide (m < q) = true := by simpa using hqm
    have HQ2 := Lib.hid (show quotR a b d m = (0, false) by
      rw [HQ.out, if_pos]
      rw [HU.out]; split <;> omega)
    go_enter Try.func55, Try.ntmps55
    go_wp2_with fail
    go_fit (size_any a (by omega) _); rintro e w' ⟨rfl, rfl⟩
    rw [HX.out]
    go_wp2_with fail
    go_fit (size_any b hb _); rintro e w' ⟨rfl, rfl⟩
    rw [HY.out]
    go_wp2_with fail
    go_fit (mul64_any x y (by omega) (by omega) _); rintro e w' ⟨rfl, rfl⟩
    rw [HH.out, HL.out]
    go_wp2_with fail
    go_fit (div64_any h l d (by omega) hlb (by omega) _); rintro e w1 ⟨rfl, hb1⟩
    rw [HS.out, HQQ.out, HRR.out]
    go_wp2
    refine bodyPost_ret (v := .tuple #[.int .i64 0, .bool false]) (by simp [results, Try.results55, go_sem]) rfl ⟨by rw [HQ2.out], hb1⟩
  have dq : decide (m < q) = false := by simpa using hqm
  obtain ⟨u, hu⟩ : ∃ u, decide (d ≤ 2 * r) = u := ⟨_, rfl⟩
  have HUP := Lib.hid hu
  have hqb : q ≤ 1125899906842624 := by omega
  obtain ⟨Q, hQ⟩ : ∃ Q, Wb.huN (x * y) d = Q := ⟨_, rfl⟩
  have HQV := Lib.hid hQ
  have HQe := Lib.hid (show Q = if u = true then q + 1 else q by rw [← hQ, HU.out, ← hu]; simp)
  clear hu hQ
  cases u
  · have hQq : Q = q := by rw [HQe.out]; rfl
    have HQ2 := Lib.hid (show quotR a b d m = (Wb.sgn N q, true) by rw [HQ.out, HQV.out, hQq, if_neg hqm])
    clear hQq
    cases N <;> (try simp only [Bool.not_true, Bool.not_false] at hN2)
    · go_enter Try.func55, Try.ntmps55
      go_wp2_with fail
      go_fit (size_any a (by omega) _); rintro e w' ⟨rfl, rfl⟩
      rw [HX.out]
      go_wp2_with fail
      go_fit (size_any b hb _); rintro e w' ⟨rfl, rfl⟩
      rw [HY.out]
      go_wp2_with fail
      go_fit (mul64_any x y (by omega) (by omega) _); rintro e w' ⟨rfl, rfl⟩
      rw [HH.out, HL.out]
      go_wp2_with fail
      go_fit (div64_any h l d (by omega) hlb (by omega) _); rintro e w1 ⟨rfl, hb1⟩
      rw [HS.out, HQQ.out, HRR.out]
      go_wp2_with fail
      go_fit (up_half _ q r d hrd (by omega) _); rintro e w' ⟨rfl, rfl⟩
      rw [HUP.out]
      go_wp2
      refine bodyPost_ret (v := .tuple #[.int .i64 (q : Int), .bool true]) (by simp [results, Try.results55, go_sem]) rfl ⟨by rw [HQ2.out]; rfl, hb1⟩
    · go_enter Try.func55, Try.ntmps55
      go_wp2_with fail
      go_fit (size_any a (by omega) _); rintro e w' ⟨rfl, rfl⟩
      rw [HX.out]
      go_wp2_with fail
      go_fit (size_any b hb _); rintro e w' ⟨rfl, rfl⟩
      rw [HY.out]
      go_wp2_with fail
      go_fit (mul64_any x y (by omega) (by omega) _); rintro e w' ⟨rfl, rfl⟩
      rw [HH.out, HL.out]
      go_wp2_with fail
      go_fit (div64_any h l d (by omega) hlb (by omega) _); rintro e w1 ⟨rfl, hb1⟩
      rw [HS.out, HQQ.out, HRR.out]
      go_wp2_with fail
      go_fit (up_half _ q r d hrd (by omega) _); rintro e w' ⟨rfl, rfl⟩
      rw [HUP.out]
      go_wp2
      refine bodyPost_ret (v := .tuple #[.int .i64 (-(q : Int)), .bool true]) (by simp [results, Try.results55, go_sem]) rfl ⟨by rw [HQ2.out]; rfl, hb1⟩
  · have hQq : Q = q + 1 := by rw [HQe.out]; rfl
    by_cases hqm1 : m < q + 1
    · have dq1 : decide (m < q + 1) = true := by simpa using hqm1
      have dq2 : decide ((m : Int) < (q : Int) + 1) = true := by first | (simp; done) | (simp; omega)
      have HQ2 := Lib.hid (show quotR a b d m = (0, false) by rw [HQ.out, HQV.out, hQq, if_pos hqm1])
      clear hQq
      go_enter Try.func55, Try.ntmps55
      go_wp2_with fail
      go_fit (size_any a (by omega) _); rintro e w' ⟨rfl, rfl⟩
      rw [HX.out]
      go_wp2_with fail
      go_fit (size_any b hb _); rintro e w' ⟨rfl, rfl⟩
      rw [HY.out]
      go_wp2_with fail
      go_fit (mul64_any x y (by omega) (by omega) _); rintro e w' ⟨rfl, rfl⟩
      rw [HH.out, HL.out]
      go_wp2_with fail
      go_fit (div64_any h l d (by omega) hlb (by omega) _); rintro e w1 ⟨rfl, hb1⟩
      rw [HS.out, HQQ.out, HRR.out]
      go_wp2_with fail
      go_fit (up_half _ q r d hrd (by omega) _); rintro e w' ⟨rfl, rfl⟩
      rw [HUP.out]
      go_wp2
      refine bodyPost_ret (v := .tuple #[.int .i64 0, .bool false]) (by simp [results, Try.results55, go_sem]) rfl ⟨by rw [HQ2.out], hb1⟩
    · have dq1 : decide (m < q + 1) = false := by simpa using hqm1
      have dq2 : decide ((m : Int) < (q : Int) + 1) = false := by first | (simp; done) | (simp; omega)
      have HQ2 := Lib.hid (show quotR a b d m = (Wb.sgn N (q + 1), true) by rw [HQ.out, HQV.out, hQq, if_neg hqm1])
      clear hQq
      cases N <;> (try simp only [Bool.not_true, Bool.not_false] at hN2)
      · go_enter Try.func55, Try.ntmps55
        go_wp2_with fail
        go_fit (size_any a (by omega) _); rintro e w' ⟨rfl, rfl⟩
        rw [HX.out]
        go_wp2_with fail
        go_fit (size_any b hb _); rintro e w' ⟨rfl, rfl⟩
        rw [HY.out]
        go_wp2_with fail
        go_fit (mul64_any x y (by omega) (by omega) _); rintro e w' ⟨rfl, rfl⟩
        rw [HH.out, HL.out]
        go_wp2_with fail
        go_fit (div64_any h l d (by omega) hlb (by omega) _); rintro e w1 ⟨rfl, hb1⟩
        rw [HS.out, HQQ.out, HRR.out]
        go_wp2_with fail
        go_fit (up_half _ q r d hrd (by omega) _); rintro e w' ⟨rfl, rfl⟩
        rw [HUP.out]
        go_wp2
        refine bodyPost_ret (v := .tuple #[.int .i64 ((q : Int) + 1), .bool true]) (by simp [results, Try.results55, go_sem]) rfl ⟨by rw [HQ2.out]; simp [Wb.sgn], hb1⟩
      · go_enter Try.func55, Try.ntmps55
        go_wp2_with fail
        go_fit (size_any a (by omega) _); rintro e w' ⟨rfl, rfl⟩
        rw [HX.out]
        go_wp2_with fail
        go_fit (size_any b hb _); rintro e w' ⟨rfl, rfl⟩
        rw [HY.out]
        go_wp2_with fail
        go_fit (mul64_any x y (by omega) (by omega) _); rintro e w' ⟨rfl, rfl⟩
        rw [HH.out, HL.out]
        go_wp2_with fail
        go_fit (div64_any h l d (by omega) hlb (by omega) _); rintro e w1 ⟨rfl, hb1⟩
        rw [HS.out, HQQ.out, HRR.out]
        go_wp2_with fail
        go_fit (up_half _ q r d hrd (by omega) _); rintro e w' ⟨rfl, rfl⟩
        rw [HUP.out]
        go_wp2
        refine bodyPost_ret (v := .tuple #[.int .i64 (-((q : Int) + 1)), .bool true]) (by simp [results, Try.results55, go_sem]) rfl ⟨by rw [HQ2.out]; simp [Wb.sgn], hb1⟩

theorem amount_any (c : Int) (w : World) :
    Calls Try.prog 54 #[.int .i64 c] w fun e w' => e = .returned (.bool (Wb.fits c)) ∧ w = w' := by
  by_cases h : -1125899906842624 ≤ c
  · go_enter Try.func54, Try.ntmps54
    go_wp2
    go_ret
    exact ⟨by simp [Wb.fits, h], rfl⟩
  · have h' : decide (-1125899906842624 ≤ c) = false := by simpa using h
    go_enter Try.func54, Try.ntmps54
    go_wp2
    go_ret
    exact ⟨by rw [Wb.fits, h']; rfl, rfl⟩
theorem right_any (c : Int) (w : World) :
    Calls Try.prog 70 #[.int .i64 c] w fun e w' => e = .returned (.bool (Wb.rightR c)) ∧ w = w' := by
  by_cases h : -1000000000 ≤ c
  · go_enter Try.func70, Try.ntmps70
    go_wp2
    go_ret
    exact ⟨by simp [Wb.rightR, h], rfl⟩
  · have h' : decide (-1000000000 ≤ c) = false := by simpa using h
    go_enter Try.func70, Try.ntmps70
    go_wp2
    go_ret
    exact ⟨by rw [Wb.rightR, h']; rfl, rfl⟩
set_option maxHeartbeats 1000000 in
theorem ratepart_any (c n d : Int) (hn : -9223372036854775808 ≤ n ∧ n ≤ 9223372036854775807) (hd : d ≤ 9223372036854775807) (w : World) :
    Calls Try.prog 35 #[.int .i64 c, .int .i64 n, .int .i64 d, .int .i64 1] w fun e w' => e = Two (Wb.partR c n d) ∧ Wb.Ext w w' := by
  obtain ⟨f, hf⟩ : ∃ f, Wb.fits c = f := ⟨_, rfl⟩
  have HF := Lib.hid hf
  have HP := Lib.hid (show Wb.partR c n d = if f = false then (0, 2) else if d = 0 then (0, 22) else if d < 0 then (0, 2)
    else if 1125899906842624 < Wb.huN (c.natAbs * n.natAbs) d.toNat then (0, 9) else (Wb.sgn (decide (c < 0) != decide (n < 0)) (Wb.huN (c.natAbs * n.natAbs) d.toNat), 0) by rw [← hf]; rfl)
  clear hf
  have ret : ∀ v : Int, Wb.partR c n d = (0, v) → Hid (Wb.partR c n d = (0, v)) := fun v h => Lib.hid h
  cases f
  · have H := ret 2 (by rw [HP.out, if_pos rfl])
    clear ret
    go_enter Try.func35, Try.ntmps35
    go_wp2_with fail
    go_fit (amount_any c _); rintro e w' ⟨rfl, rfl⟩
    rw [HF.out]
    go_wp2
    refine bodyPost_ret (v := .tuple #[.int .i64 0, .int .i64 2]) (by simp [results, Try.results35, go_sem]) rfl ⟨by rw [H.out], .refl _⟩
  by_cases h0 : d = 0
  · have H := ret 22 (by rw [HP.out, if_neg (by decide), if_pos h0])
    clear ret
    subst h0
    go_enter Try.func35, Try.ntmps35
    go_wp2_with fail
    go_fit (amount_any c _); rintro e w' ⟨rfl, rfl⟩
    rw [HF.out]
    go_wp2
    refine bodyPost_ret (v := .tuple #[.int .i64 0, .int .i64 22]) (by simp [results, Try.results35, go_sem]) rfl ⟨by rw [H.out], .refl _⟩
  have d0 : (d == 0) = false := by simpa using h0
  by_cases h1 : d < 0
  · have H := ret 2 (by rw [HP.out, if_neg (by decide), if_neg h0, if_pos h1])
    have d1 : decide (d < 0) = true := by simpa using h1
    clear ret h0
    go_enter Try.func35, Try.ntmps35
    go_wp2_with fail
    go_fit (amount_any c _); rintro e w' ⟨rfl, rfl⟩
    rw [HF.out]
    go_wp2
    refine bodyPost_ret (v := .tuple #[.int .i64 0, .int .i64 2]) (by simp [results, Try.results35, go_sem]) rfl ⟨by rw [H.out], .refl _⟩
  obtain ⟨m, hm⟩ : ∃ m : Nat, d = m := ⟨d.toNat, by omega⟩
  subst hm
  have d1 : decide ((m : Int) < 0) = false := by simp
  obtain ⟨fc1, fc2⟩ := (Wb.fits_iff _).1 HF.out
  obtain ⟨Q, hQ⟩ : ∃ Q, quotR c n m 1125899906842624 = Q := ⟨_, rfl⟩
  obtain ⟨Q1, Q2⟩ := Q
  have HQ := Lib.hid hQ
  have HPQ := Lib.hid (show Wb.partR c n m = if Q2 = false then (0, 9) else (Q1, 0) by
    rw [HP.out, if_neg (by decide), if_neg h0, if_neg h1]
    unfold quotR at hQ
    simp only [Int.toNat_natCast]
    split at hQ
    · rename_i h2
      cases hQ
      rw [if_pos h2, if_pos rfl]
    · rename_i h2
      cases hQ
      rw [if_neg h2, if_neg (by decide)])
  have hm0 : 0 < m := by omega
  have hm9 : m ≤ 9223372036854775807 := by omega
  clear hQ ret h0 h1
  cases Q2
  · have H := Lib.hid (show Wb.partR c n m = (0, 9) by rw [HPQ.out, if_pos rfl])
    go_enter Try.func35, Try.ntmps35
    go_wp2_with fail
    go_fit (amount_any c _); rintro e w' ⟨rfl, rfl⟩
    rw [HF.out]
    go_wp2_with fail
    go_fit (quot_any c n m 1125899906842624 ⟨fc1, fc2⟩ hn hm0 hm9 (by omega) _); rintro e w1 ⟨rfl, hb1⟩
    rw [HQ.out]
    go_wp2
    refine bodyPost_ret (v := .tuple #[.int .i64 0, .int .i64 9]) (by simp [results, Try.results35, go_sem]) rfl ⟨by rw [H.out], hb1⟩
  · have H := Lib.hid (show Wb.partR c n m = (Q1, 0) by rw [HPQ.out, if_neg (by decide)])
    go_enter Try.func35, Try.ntmps35
    go_wp2_with fail
    go_fit (amount_any c _); rintro e w' ⟨rfl, rfl⟩
    rw [HF.out]
    go_wp2_with fail
    go_fit (quot_any c n m 1125899906842624 ⟨fc1, fc2⟩ hn hm0 hm9 (by omega) _); rintro e w1 ⟨rfl, hb1⟩
    rw [HQ.out]
    go_wp2
    refine bodyPost_ret (v := .tuple #[.int .i64 Q1, .int .i64 0]) (by simp [results, Try.results35, go_sem]) rfl ⟨by rw [H.out], hb1⟩
theorem rateof_any (c r : Int) (w : World) :
    Calls Try.prog 50 #[.int .i64 c, .int .i64 r, .int .i64 1] w fun e w' => e = Two (Wb.ofR c r) ∧ Wb.Ext w w' := by
  obtain ⟨f, hf⟩ : ∃ f, Wb.fits c = f := ⟨_, rfl⟩
  have HF := Lib.hid hf
  obtain ⟨g, hg⟩ : ∃ f, Wb.rightR r = f := ⟨_, rfl⟩
  have HG := Lib.hid hg
  have HP := Lib.hid (show Wb.ofR c r = if f = false ∨ g = false then (0, 2) else Wb.partR c r 1000000 by rw [← hf, ← hg]; rfl)
  clear hf hg
  cases f
  · have H := Lib.hid (show Wb.ofR c r = (0, 2) by rw [HP.out, if_pos (.inl rfl)])
    go_enter Try.func50, Try.ntmps50
    go_wp2_with fail
    go_fit (amount_any c _); rintro e w' ⟨rfl, rfl⟩
    rw [HF.out]
    go_wp2
    refine bodyPost_ret (v := .tuple #[.int .i64 0, .int .i64 2]) (by simp [results, Try.results50, go_sem]) rfl ⟨by rw [H.out], .refl _⟩
  cases g
  · have H := Lib.hid (show Wb.ofR c r = (0, 2) by rw [HP.out, if_pos (.inr rfl)])
    go_enter Try.func50, Try.ntmps50
    go_wp2_with fail
    go_fit (amount_any c _); rintro e w' ⟨rfl, rfl⟩
    rw [HF.out]
    go_wp2_with fail
    go_fit (right_any r _); rintro e w' ⟨rfl, rfl⟩
    rw [HG.out]
    go_wp2
    refine bodyPost_ret (v := .tuple #[.int .i64 0, .int .i64 2]) (by simp [results, Try.results50, go_sem]) rfl ⟨by rw [H.out], .refl _⟩
  · have H := Lib.hid (show Wb.ofR c r = Wb.partR c r 1000000 by rw [HP.out, if_neg (by simp)])
    obtain ⟨r1, r2⟩ := Wb.rightR_iff.1 HG.out
    obtain ⟨⟨p1, p2⟩, hp⟩ : ∃ p, Wb.partR c r 1000000 = p := ⟨_, rfl⟩
    have HPP := Lib.hid hp
    clear hp
    go_enter Try.func50, Try.ntmps50
    go_wp2_with fail
    go_fit (amount_any c _); rintro e w' ⟨rfl, rfl⟩
    rw [HF.out]
    go_wp2_with fail
    go_fit (right_any r _); rintro e w' ⟨rfl, rfl⟩
    rw [HG.out]
    go_wp2_with fail
    go_fit (ratepart_any c r 1000000 (by omega) (by omega) _); rintro e w1 ⟨rfl, hb1⟩
    rw [HPP.out]
    go_wp2
    refine bodyPost_ret (v := .tuple #[.int .i64 p1, .int .i64 p2]) (by simp [results, Try.results50, go_sem]) rfl ⟨by rw [H.out, HPP.out], hb1⟩

end Go.Proofs.Ytheofklbmknipaa
