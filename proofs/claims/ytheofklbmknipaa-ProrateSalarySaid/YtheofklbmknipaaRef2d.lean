/- The reference of chapter 02: Part, Of. -/
import Derived.Test.YtheofklbmknipaaRef2c
namespace Go.Proofs.Ytheofklbmknipaa
open Go.RowKit Go.Lib
set_option maxRecDepth 8000

theorem rrounded2_any (q r d : Nat) (b : Bool) (hr : r < d) (hd : d < 9223372036854775808) (hq : q < 18446744073709551616) (w : World) :
    Calls Try.prog 58 #[.int .u64 q, .int .u64 r, .int .u64 d, .bool b, .int .i64 1] w fun e w' => ∃ m : Nat, e = .returned (.int .u64 m) ∧ (q < 9223372036854775808 → m = if d ≤ 2 * r then q + 1 else q) ∧ m < 18446744073709551616 ∧ w = w' := by
  by_cases hs : q < 9223372036854775808
  · refine (rrounded1_any q r d b hr hd hs w).mono ?_
    rintro e w' ⟨rfl, rfl⟩
    exact ⟨_, rfl, fun _ => rfl, by split <;> omega, rfl⟩
  · obtain ⟨m, hm, hmb⟩ : ∃ m : Nat, IntKind.u64.wrap ((q : Int) + 1) = m ∧ m < 18446744073709551616 := ⟨(q + 1) % 18446744073709551616, by rw [IntKind.wrap_u64]; omega, by omega⟩
    by_cases h : d ≤ 2 * r
    · have dd : decide ((d : Int) - (r : Int) ≤ (r : Int)) = true := by simp; omega
      have hsub : ((d - r : Nat) : Int) = (d : Int) - r := by omega
      go_enter Try.func58, Try.ntmps58
      go_wp2
      refine bodyPost_ret (v := .int .u64 m) (by simp [results, Try.results58, go_sem]) rfl ⟨m, rfl, hmb, by first | rfl | trivial⟩
    · have dd : decide ((d : Int) - (r : Int) ≤ (r : Int)) = false := by simp; omega
      clear hm
      go_enter Try.func58, Try.ntmps58
      go_wp2
      refine bodyPost_ret (v := .int .u64 q) (by simp [results, Try.results58, go_sem]) rfl ⟨q, rfl, hq, by first | rfl | trivial⟩

theorem part_over {c n d : Int} (h1 : Wb.fits c = true) (h2 : 0 < d) (h : 1125899906842624 < Wb.huN (c.natAbs * n.natAbs) d.toNat) : Wb.partR c n d = (0, 9) := by
  rw [Wb.partR, if_neg (by rw [h1]; decide), if_neg (by omega), if_neg (by omega), if_pos h]
theorem part_fine {c n d : Int} (h1 : Wb.fits c = true) (h2 : 0 < d) (h : ¬ 1125899906842624 < Wb.huN (c.natAbs * n.natAbs) d.toNat) : Wb.partR c n d = (Wb.sgn (decide (c < 0) != decide (n < 0)) (Wb.huN (c.natAbs * n.natAbs) d.toNat), 0) := by
  rw [Wb.partR, if_neg (by rw [h1]; decide), if_neg (by omega), if_neg (by omega), if_neg h]
set_option maxHeartbeats 4000000 in
theorem rpart2_any (c n d : Int) (hn : -9223372036854775808 ≤ n ∧ n ≤ 9223372036854775807) (hd : d ≤ 9223372036854775807) (w : World) :
    Calls Try.prog 37 #[.int .i64 c, .int .i64 n, .int .i64 d, .int .i64 1] w fun e w' => e = Two (Wb.partR c n d) ∧ Wb.Ext w w' := by
  obtain ⟨n0, n1⟩ := hn
  have ret : ∀ v : Int, Wb.partR c n d = (0, v) → Hid (Wb.partR c n d = (0, v)) := fun v h => Lib.hid h
  obtain ⟨f, hf⟩ : ∃ f, Wb.fits c = f := ⟨_, rfl⟩
  have HF := Lib.hid hf
  cases f
  · have H := ret 2 (by rw [Wb.partR, if_pos hf])
    clear ret hf
    go_enter Try.func37, Try.ntmps37
    go_wp2_with fail
    go_fit (rfits2_any c _); rintro e w1 ⟨rfl, rfl⟩
    rw [HF.out]
    go_wp2
    refine bodyPost_ret (v := .tuple #[.int .i64 0, .int .i64 2]) (by simp [results, Try.results37, go_sem]) rfl ⟨by rw [H.out], .refl _⟩
  by_cases h0 : d = 0
  · have H := ret 22 (by rw [Wb.partR, if_neg (by rw [hf]; decide), if_pos h0])
    clear ret hf
    subst h0
    go_enter Try.func37, Try.ntmps37
    go_wp2_with fail
    go_fit (rfits2_any c _); rintro e w1 ⟨rfl, rfl⟩
    rw [HF.out]
    go_wp2
    refine bodyPost_ret (v := .tuple #[.int .i64 0, .int .i64 22]) (by simp [results, Try.results37, go_sem]) rfl ⟨by rw [H.out], .refl _⟩
  have d0 : (d == 0) = false := by simpa using h0
  by_cases h1 : d < 0
  · have H := ret 2 (by rw [Wb.partR, if_neg (by rw [hf]; decide), if_neg h0, if_pos h1])
    have d1 : decide (d < 0) = true := by simpa using h1
    clear ret hf h0
    go_enter Try.func37, Try.ntmps37
    go_wp2_with fail
    go_fit (rfits2_any c _); rintro e w1 ⟨rfl, rfl⟩
    rw [HF.out]
    go_wp2
    refine bodyPost_ret (v := .tuple #[.int .i64 0, .int .i64 2]) (by simp [results, Try.results37, go_sem]) rfl ⟨by rw [H.out], .refl _⟩
  have d1 : decide (d < 0) = false := by simpa using h1
  clear ret
  obtain ⟨c0, c1⟩ := (Wb.fits_iff c).1 hf
  have hpo := part_over (n := n) hf (show 0 < d by omega)
  have hpf := part_fine (n := n) hf (show 0 < d by omega)
  obtain ⟨D, rfl⟩ : ∃ D : Nat, d = D := ⟨d.toNat, by omega⟩
  rw [Int.toNat_natCast] at hpo hpf
  have hD : 0 < D := by omega
  have hD2 : D < 9223372036854775808 := by omega
  obtain ⟨N, hN⟩ : ∃ N, (decide (c < 0) != decide (n < 0)) = N := ⟨_, rfl⟩
  rw [hN] at hpf
  have hN2 : (decide (c < 0) == decide (n < 0)) = !N := by rw [← hN]; cases decide (c < 0) <;> cases decide (n < 0) <;> rfl
  obtain ⟨X, hX⟩ : ∃ X, c.natAbs = X := ⟨_, rfl⟩
  obtain ⟨Y, hY⟩ : ∃ Y, n.natAbs = Y := ⟨_, rfl⟩
  have hXb : X < 18446744073709551616 := by omega
  have hYb : Y < 18446744073709551616 := by omega
  rw [hX, hY] at hpo hpf
  have HX := Lib.hid hX
  have HY := Lib.hid hY
  have hu := up_halfR (A := X) (B := Y) hD
  have hmod := Nat.mod_lt (X * Y) hD
  obtain ⟨R, hR⟩ : ∃ R, X * Y % D = R := ⟨_, rfl⟩
  rw [hR] at hu hmod
  obtain ⟨U, hU⟩ : ∃ U, Wb.huN (X * Y) D = U := ⟨_, rfl⟩
  rw [hU] at hu hpo hpf
  have HR := Lib.hid hR
  have HU := Lib.hid hu
  have HPO := Lib.hid hpo
  have HPF := Lib.hid hpf
  clear hpo hpf hX hY hu hR hU hf h0 h1
  go_enter Try.func37, Try.ntmps37
  go_wp2_with fail
  go_fit (rfits2_any c _); rintro e w1 ⟨rfl, rfl⟩
  rw [HF.out]
  go_wp2_with fail
  go_fit (rabs2_any c (by omega) _); rintro e w1 ⟨rfl, rfl⟩
  rw [HX.out]
  go_wp2_with fail
  go_fit (rabs2_any n (by omega) _); rintro e w1 ⟨rfl, rfl⟩
  rw [HY.out]
  go_wp2_with fail
  go_fit (divided_any X Y D hXb hYb hD hD2 _); rintro e w1 ⟨q, few, rfl, hI, hq, hb1⟩
  rw [HR.out]
  have HI := Lib.hid hI
  clear hI
  go_wp2_with fail
  go_fit (rrounded2_any q R D _ hmod hD2 hq _); rintro e w2 ⟨m, rfl, hm, hmb, hw2⟩
  subst hw2
  cases few
  · have HE := Lib.hid (show Wb.partR c n D = (0, 9) from HPO.out (by
      rcases HI.out with ⟨h, _⟩ | ⟨_, h⟩
      · cases h
      · rw [HU.out]; split <;> omega))
    go_wp2
    refine bodyPost_ret (v := .tuple #[.int .i64 0, .int .i64 9]) (by simp [results, Try.results37, go_sem]) rfl ⟨by rw [HE.out], hb1⟩
  · obtain ⟨hq1, hq2⟩ : q = X * Y / D ∧ q < 4611686018427387904 := by
      rcases HI.out with ⟨_, h⟩ | ⟨h, _⟩
      · exact h
      · cases h
    obtain rfl : m = U := by rw [HU.out, ← hq1]; exact hm (by omega)
    clear hm hq1
    by_cases hbig : 1125899906842624 < m
    · have HE := Lib.hid (HPO.out hbig)
      have db : decide ((1125899906842624 : Int) < m) = true := by simp; omega
      go_wp2
      refine bodyPost_ret (v := .tuple #[.int .i64 0, .int .i64 9]) (by simp [results, Try.results37, go_sem]) rfl ⟨by rw [HE.out], hb1⟩
    · have HE := Lib.hid (HPF.out hbig)
      have db : decide ((1125899906842624 : Int) < m) = false := by simp; omega
      have hm2 : m ≤ 1125899906842624 := by omega
      cases N
      · have HE2 := Lib.hid (show Wb.partR c n D = ((m : Int), 0) by rw [HE.out]; rfl)
        go_wp2
        refine bodyPost_ret (v := .tuple #[.int .i64 m, .int .i64 0]) (by simp [results, Try.results37, go_sem]) rfl ⟨by rw [HE2.out], hb1⟩
      · have HE2 := Lib.hid (show Wb.partR c n D = (-(m : Int), 0) by rw [HE.out]; rfl)
        go_wp2
        refine bodyPost_ret (v := .tuple #[.int .i64 (-(m : Int)), .int .i64 0]) (by simp [results, Try.results37, go_sem]) rfl ⟨by rw [HE2.out], hb1⟩
theorem rof2_any (c r : Int) (w : World) :
    Calls Try.prog 32 #[.int .i64 c, .int .i64 r, .int .i64 1] w fun e w' => e = Two (Wb.ofR c r) ∧ Wb.Ext w w' := by
  obtain ⟨f, hf⟩ : ∃ f, Wb.fits c = f := ⟨_, rfl⟩
  obtain ⟨g, hg⟩ : ∃ f, Wb.rightR r = f := ⟨_, rfl⟩
  have HF := Lib.hid hf
  have HG := Lib.hid hg
  cases f
  · have H := Lib.hid (show Wb.ofR c r = (0, 2) by rw [Wb.ofR, if_pos (.inl hf)])
    clear hf hg
    go_enter Try.func32, Try.ntmps32
    go_wp2_with fail
    go_fit (rfits2_any c _); rintro e w1 ⟨rfl, rfl⟩
    rw [HF.out]
    go_wp2
    refine bodyPost_ret (v := .tuple #[.int .i64 0, .int .i64 2]) (by simp [results, Try.results32, go_sem]) rfl ⟨by rw [H.out], .refl _⟩
  cases g
  · have H := Lib.hid (show Wb.ofR c r = (0, 2) by rw [Wb.ofR, if_pos (.inr hg)])
    clear hf hg
    go_enter Try.func32, Try.ntmps32
    go_wp2_with fail
    go_fit (rfits2_any c _); rintro e w1 ⟨rfl, rfl⟩
    rw [HF.out]
    go_wp2_with fail
    go_fit (rright2_any r _); rintro e w1 ⟨rfl, rfl⟩
    rw [HG.out]
    go_wp2
    refine bodyPost_ret (v := .tuple #[.int .i64 0, .int .i64 2]) (by simp [results, Try.results32, go_sem]) rfl ⟨by rw [H.out], .refl _⟩
  · obtain ⟨g0, g1⟩ := Wb.rightR_iff.1 hg
    obtain ⟨⟨p1, p2⟩, hp⟩ : ∃ p, Wb.partR c r 1000000 = p := ⟨_, rfl⟩
    have HP := Lib.hid hp
    have H := Lib.hid (show Wb.ofR c r = (p1, p2) by rw [Wb.ofR, if_neg (by rw [hf, hg]; simp), hp])
    clear hf hg hp
    go_enter Try.func32, Try.ntmps32
    go_wp2_with fail
    go_fit (rfits2_any c _); rintro e w1 ⟨rfl, rfl⟩
    rw [HF.out]
    go_wp2_with fail
    go_fit (rright2_any r _); rintro e w1 ⟨rfl, rfl⟩
    rw [HG.out]
    go_wp2_with fail
    go_fit (rpart2_any c r 1000000 (by omega) (by omega) _); rintro e w1 ⟨rfl, hb1⟩
    rw [HP.out]
    go_wp2
    refine bodyPost_ret (v := .tuple #[.int .i64 p1, .int .i64 p2]) (by simp [results, Try.results32, go_sem]) rfl ⟨by rw [H.out], hb1⟩

end Go.Proofs.Ytheofklbmknipaa
