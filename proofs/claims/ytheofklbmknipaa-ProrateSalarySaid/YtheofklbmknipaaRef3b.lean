/- The reference of chapter 03 (share): UpTo, Between. -/
import Derived.Test.YtheofklbmknipaaRef3
namespace Go.Proofs.Ytheofklbmknipaa
open Go.RowKit Go.Lib
set_option maxRecDepth 8000

def upR (c k o : Int) : Int × Int := if Wb.fits c = false then (0, 9) else if o = 0 then (0, 22) else if o < 0 ∨ 1125899906842624 < o ∨ k < 0 ∨ o < k then (0, 2) else (Wb.upT c k.toNat o.toNat, 0)
theorem upR_is (c k o : Int) : ((upR c k o).2 = 0 ∧ Wb.fits c = true ∧ 0 < o ∧ o ≤ 1125899906842624 ∧ 0 ≤ k ∧ k ≤ o ∧ upR c k o = (Wb.upT c k.toNat o.toNat, 0)) ∨ ((upR c k o).2 ≠ 0 ∧ (upR c k o).1 = 0) := by
  unfold upR
  split
  · exact .inr ⟨by decide, rfl⟩
  rename_i h1
  split
  · exact .inr ⟨by decide, rfl⟩
  split
  · exact .inr ⟨by decide, rfl⟩
  exact .inl ⟨rfl, by simpa using h1, by omega, by omega, by omega, by omega, rfl⟩
theorem upR_ok {c k o : Int} (h1 : Wb.fits c = true) (h2 : 0 < o) (h3 : o ≤ 1125899906842624) (h4 : 0 ≤ k) (h5 : k ≤ o) : upR c k o = (Wb.upT c k.toNat o.toNat, 0) := by
  rw [upR, if_neg (by rw [h1]; decide), if_neg (by omega), if_neg (by omega)]
/-- the nearest, of the whole and what is left -/
theorem up_halfR {A B C : Nat} (hC : 0 < C) : Wb.huN (A * B) C = if C ≤ 2 * (A * B % C) then A * B / C + 1 else A * B / C :=
  Wb.hu_qr (by rw [Nat.mul_comm]; exact Nat.div_add_mod _ _) (Nat.mod_lt _ hC)
set_option maxHeartbeats 2000000 in
theorem rupto_pos (c k o : Int) (hc : 0 ≤ c) (w : World) :
    Calls Try.prog 40 #[.int .i64 c, .int .i64 k, .int .i64 o] w fun e w' => e = Two (upR c k o) ∧ w = w' := by
  have ret : ∀ v : Int, upR c k o = (0, v) → Hid (upR c k o = (0, v)) := fun v h => Lib.hid h
  have e0 : decide (c < -1125899906842624) = false := by simp; omega
  by_cases h1 : 1125899906842624 < c
  · have H := ret 9 (by rw [upR, if_pos (by rw [Bool.eq_false_iff]; intro h; have := (Wb.fits_iff _).1 h; omega)])
    have d : decide (1125899906842624 < c) = true := by simpa using h1
    clear ret
    go_enter Try.func40, Try.ntmps40
    go_wp2
    refine bodyPost_ret (v := .tuple #[.int .i64 0, .int .i64 9]) (by simp [results, Try.results40, go_sem]) rfl ⟨by rw [H.out], by first | rfl | trivial⟩
  have d1 : decide (1125899906842624 < c) = false := by simpa using h1
  have hf : Wb.fits c = true := (Wb.fits_iff _).2 (by omega)
  by_cases h2 : o = 0
  · have H := ret 22 (by rw [upR, if_neg (by rw [hf]; decide), if_pos h2])
    subst h2
    clear ret
    go_enter Try.func40, Try.ntmps40
    go_wp2
    refine bodyPost_ret (v := .tuple #[.int .i64 0, .int .i64 22]) (by simp [results, Try.results40, go_sem]) rfl ⟨by rw [H.out], by first | rfl | trivial⟩
  have d2 : (o == 0) = false := by simpa using h2
  by_cases h3 : o < 0 ∨ 1125899906842624 < o ∨ k < 0 ∨ o < k
  · have H := ret 2 (by rw [upR, if_neg (by rw [hf]; decide), if_neg h2, if_pos h3])
    clear ret h1 h2 hf
    obtain ⟨b1, hb1⟩ : ∃ b, decide (o < 0) = b := ⟨_, rfl⟩
    obtain ⟨b2, hb2⟩ : ∃ b, decide (1125899906842624 < o) = b := ⟨_, rfl⟩
    obtain ⟨b3, hb3⟩ : ∃ b, decide (k < 0) = b := ⟨_, rfl⟩
    obtain ⟨b4, hb4⟩ : ∃ b, decide (o < k) = b := ⟨_, rfl⟩
    have hor : (b1 || b2 || b3 || b4) = true := by rw [← hb1, ← hb2, ← hb3, ← hb4]; simp; omega
    clear h3
    go_enter Try.func40, Try.ntmps40
    cases b1 <;> cases b2 <;> cases b3 <;> cases b4 <;> first | (cases hor; done) | (go_wp2; refine bodyPost_ret (v := .tuple #[.int .i64 0, .int .i64 2]) (by simp [results, Try.results40, go_sem]) rfl ⟨by rw [H.out], by first | rfl | trivial⟩)
  clear ret
  have q1 : decide (o < 0) = false := by simp; omega
  have q2 : decide (1125899906842624 < o) = false := by simp; omega
  have q3 : decide (k < 0) = false := by simp; omega
  have q4 : decide (o < k) = false := by simp; omega
  have q5 : decide (c < 0) = false := by simp; omega
  obtain ⟨A, rfl⟩ : ∃ A : Nat, c = A := ⟨c.toNat, by omega⟩
  obtain ⟨C, rfl⟩ : ∃ C : Nat, o = C := ⟨o.toNat, by omega⟩
  obtain ⟨B, rfl⟩ : ∃ B : Nat, k = B := ⟨k.toNat, by omega⟩
  have hC : 0 < C := by omega
  have hC2 : C ≤ 1125899906842624 := by omega
  have hBC : B ≤ C := by omega
  have hBC2 : ¬ C < B := by omega
  have hu := up_halfR (A := A) (B := B) hC
  have hmod := Nat.mod_lt (A * B) hC
  have hq : A * B / C ≤ A := by
    refine Nat.div_le_of_le_mul ?_
    rw [Nat.mul_comm C A]
    exact Nat.mul_le_mul_left _ (by omega)
  obtain ⟨Q, hQ⟩ : ∃ Q, A * B / C = Q := ⟨_, rfl⟩
  obtain ⟨R, hR⟩ : ∃ R, A * B % C = R := ⟨_, rfl⟩
  rw [hQ, hR] at hu
  rw [hR] at hmod
  rw [hQ] at hq
  have HU : Hid (upR (A : Int) B C = (((if C ≤ 2 * R then Q + 1 else Q : Nat) : Int), 0)) := Lib.hid (by
    rw [upR_ok hf (by omega) (by omega) (by omega) (by omega), Wb.upT_pos (by omega), ← hu]
    simp)
  have HQ := Lib.hid hQ
  have HR := Lib.hid hR
  clear hu hQ hR h2 h3 hf
  go_enter Try.func40, Try.ntmps40
  go_wp2_with fail
  go_fit (over_any A B C _ (by omega) (by omega) hC (by omega)); rintro e w1 ⟨rfl, rfl⟩
  rw [HQ.out, HR.out]
  by_cases h5 : C ≤ 2 * R
  · have d5 : decide ((C : Int) ≤ 2 * (R : Int)) = true := by simp; omega
    have H2 := Lib.hid (show upR (A : Int) B C = (((Q : Int) + 1), 0) by rw [HU.out, if_pos h5]; simp)
    go_wp2
    refine bodyPost_ret (v := .tuple #[.int .i64 ((Q : Int) + 1), .int .i64 0]) (by simp [results, Try.results40, go_sem]) rfl ⟨by rw [H2.out], by first | rfl | trivial⟩
  · have d5 : decide ((C : Int) ≤ 2 * (R : Int)) = false := by simp; omega
    have H2 := Lib.hid (show upR (A : Int) B C = ((Q : Int), 0) by rw [HU.out, if_neg h5])
    go_wp2
    refine bodyPost_ret (v := .tuple #[.int .i64 Q, .int .i64 0]) (by simp [results, Try.results40, go_sem]) rfl ⟨by rw [H2.out], by first | rfl | trivial⟩

theorem fits_neg (c : Int) : Wb.fits (-c) = Wb.fits c := by rw [Bool.eq_iff_iff, Wb.fits_iff, Wb.fits_iff]; omega
theorem upR_neg {c : Int} (hc : c < 0) (k o : Int) : upR c k o = (-(upR (-c) k o).1, (upR (-c) k o).2) := by
  unfold upR
  rw [fits_neg]
  split
  · rfl
  split
  · rfl
  split
  · rfl
  rw [Wb.upT_neg hc, Wb.upT_pos (by omega)]
  simp
set_option maxHeartbeats 2000000 in
theorem rupto_any (c k o : Int) (w : World) :
    Calls Try.prog 40 #[.int .i64 c, .int .i64 k, .int .i64 o] w fun e w' => e = Two (upR c k o) ∧ w = w' := by
  by_cases hc : 0 ≤ c
  · exact rupto_pos c k o hc w
  have hneg : c < 0 := by omega
  rcases upR_is c k o with ⟨_, hf, h2, h3, h4, h5, hr⟩ | ⟨hE, hv⟩
  · obtain ⟨g1, g2⟩ := (Wb.fits_iff _).1 hf
    have hn := upR_neg hneg k o
    obtain ⟨q, hq⟩ : ∃ q, upR (-c) k o = (q, 0) := ⟨_, by rw [upR_ok (by rw [fits_neg]; exact hf) h2 h3 h4 h5]⟩
    have hqb : 0 ≤ q ∧ q ≤ 1125899906842624 := by
      rw [upR_ok (by rw [fits_neg]; exact hf) h2 h3 h4 h5] at hq
      have := (Prod.mk.inj hq).1
      have h6 := Wb.upT_abs (c := -c) (a := k.toNat) (d := o.toNat) (by omega) (by omega)
      have h7 := Wb.upT_pos (c := -c) (by omega) k.toNat o.toNat
      omega
    obtain ⟨hq0, hq1⟩ := hqb
    have HQ := Lib.hid hq
    have HN := Lib.hid (show upR c k o = (-q, 0) by rw [hn, hq])
    have d1 : decide (1125899906842624 < c) = false := by simp; omega
    have d2 : decide (c < -1125899906842624) = false := by simp; omega
    have d3 : (o == 0) = false := by simp; omega
    have q1 : decide (o < 0) = false := by simp; omega
    have q2 : decide (1125899906842624 < o) = false := by simp; omega
    have q3 : decide (k < 0) = false := by simp; omega
    have q4 : decide (o < k) = false := by simp; omega
    have q5 : decide (c < 0) = true := by simp; omega
    clear hq hn hr hf
    go_enter Try.func40, Try.ntmps40
    go_wp2_with fail
    go_fit (rupto_pos (-c) k o (by omega) _); rintro e w1 ⟨rfl, rfl⟩
    rw [HQ.out]
    go_wp2
    refine bodyPost_ret (v := .tuple #[.int .i64 (-q), .int .i64 0]) (by simp [results, Try.results40, go_sem]) rfl ⟨by rw [HN.out], by first | rfl | trivial⟩
  · by_cases h1 : c < -1125899906842624
    · have H := Lib.hid (show upR c k o = (0, 9) by rw [upR, if_pos (by rw [Bool.eq_false_iff]; intro h; have := (Wb.fits_iff _).1 h; omega)])
      have d1 : decide (1125899906842624 < c) = false := by simp; omega
      have d2 : decide (c < -1125899906842624) = true := by simpa using h1
      clear hE hv
      go_enter Try.func40, Try.ntmps40
      go_wp2
      refine bodyPost_ret (v := .tuple #[.int .i64 0, .int .i64 9]) (by simp [results, Try.results40, go_sem]) rfl ⟨by rw [H.out], by first | rfl | trivial⟩
    have hf : Wb.fits c = true := (Wb.fits_iff _).2 (by omega)
    have d1 : decide (1125899906842624 < c) = false := by simp; omega
    have d2 : decide (c < -1125899906842624) = false := by simp; omega
    by_cases h2 : o = 0
    · have H := Lib.hid (show upR c k o = (0, 22) by rw [upR, if_neg (by rw [hf]; decide), if_pos h2])
      subst h2
      clear hE hv
      go_enter Try.func40, Try.ntmps40
      go_wp2
      refine bodyPost_ret (v := .tuple #[.int .i64 0, .int .i64 22]) (by simp [results, Try.results40, go_sem]) rfl ⟨by rw [H.out], by first | rfl | trivial⟩
    have d3 : (o == 0) = false := by simpa using h2
    have h3 : o < 0 ∨ 1125899906842624 < o ∨ k < 0 ∨ o < k := by
      rcases Decidable.em (o < 0 ∨ 1125899906842624 < o ∨ k < 0 ∨ o < k) with h | h
      · exact h
      · rw [upR_ok hf (by omega) (by omega) (by omega) (by omega)] at hE; exact absurd rfl hE
    have H := Lib.hid (show upR c k o = (0, 2) by rw [upR, if_neg (by rw [hf]; decide), if_neg h2, if_pos h3])
    obtain ⟨b1, hb1⟩ : ∃ b, decide (o < 0) = b := ⟨_, rfl⟩
    obtain ⟨b2, hb2⟩ : ∃ b, decide (1125899906842624 < o) = b := ⟨_, rfl⟩
    obtain ⟨b3, hb3⟩ : ∃ b, decide (k < 0) = b := ⟨_, rfl⟩
    obtain ⟨b4, hb4⟩ : ∃ b, decide (o < k) = b := ⟨_, rfl⟩
    have hor : (b1 || b2 || b3 || b4) = true := by rw [← hb1, ← hb2, ← hb3, ← hb4]; simp; omega
    clear h3 hE hv h2 hf h1
    go_enter Try.func40, Try.ntmps40
    cases b1 <;> cases b2 <;> cases b3 <;> cases b4 <;> first | (cases hor; done) | (go_wp2; refine bodyPost_ret (v := .tuple #[.int .i64 0, .int .i64 2]) (by simp [results, Try.results40, go_sem]) rfl ⟨by rw [H.out], by first | rfl | trivial⟩)
/-- Between, told in UpTo's words -/
theorem betw_up (c f t o : Int) : Wb.betw c f t o = if (upR c 0 o).2 ≠ 0 then (0, (upR c 0 o).2) else if (upR c f o).2 ≠ 0 then (0, (upR c f o).2) else if (upR c t o).2 ≠ 0 then (0, (upR c t o).2) else if t < f then (0, 8) else ((upR c t o).1 - (upR c f o).1, 0) := by
  by_cases h1 : Wb.fits c = false
  · simp [Wb.betw, upR, h1]
  have hf : Wb.fits c = true := by simpa using h1
  by_cases h2 : o = 0
  · simp [Wb.betw, upR, h1, h2]
  by_cases h3 : o < 0 ∨ 1125899906842624 < o
  · have e : upR c 0 o = (0, 2) := by rw [upR, if_neg h1, if_neg h2, if_pos (by omega)]
    rw [e, Wb.betw, if_neg h1, if_neg h2, if_pos h3]
    simp
  have e0 := upR_ok (k := 0) hf (show 0 < o by omega) (by omega) (by omega) (by omega)
  rw [e0, if_neg (by simp), Wb.betw, if_neg h1, if_neg h2, if_neg h3]
  by_cases h4 : f < 0 ∨ o < f
  · have e : upR c f o = (0, 2) := by rw [upR, if_neg h1, if_neg h2, if_pos (by omega)]
    rw [if_pos (show f < 0 ∨ o < f ∨ t < 0 ∨ o < t by omega), e]
    simp
  have e1 := upR_ok (k := f) hf (show 0 < o by omega) (by omega) (by omega) (by omega)
  rw [e1, if_neg (show ¬ ((Wb.upT c f.toNat o.toNat, (0 : Int)).2 ≠ 0) by simp)]
  by_cases h5 : t < 0 ∨ o < t
  · have e : upR c t o = (0, 2) := by rw [upR, if_neg h1, if_neg h2, if_pos (by omega)]
    rw [if_pos (show f < 0 ∨ o < f ∨ t < 0 ∨ o < t by omega), e]
    simp
  have e2 := upR_ok (k := t) hf (show 0 < o by omega) (by omega) (by omega) (by omega)
  rw [e2, if_neg (show ¬ ((Wb.upT c t.toNat o.toNat, (0 : Int)).2 ≠ 0) by simp), if_neg (show ¬ (f < 0 ∨ o < f ∨ t < 0 ∨ o < t) by omega)]
theorem rbetw_any (c f t o : Int) (w : World) :
    Calls Try.prog 22 #[.int .i64 c, .int .i64 f, .int .i64 t, .int .i64 o] w fun e w' => e = Two (Wb.betw c f t o) ∧ w = w' := by
  obtain ⟨⟨p0, x0⟩, h0⟩ : ∃ q, upR c 0 o = q := ⟨_, rfl⟩
  obtain ⟨⟨p1, x1⟩, h1⟩ : ∃ q, upR c f o = q := ⟨_, rfl⟩
  obtain ⟨⟨p2, x2⟩, h2⟩ : ∃ q, upR c t o = q := ⟨_, rfl⟩
  have hb := betw_up c f t o
  rw [h0, h1, h2] at hb
  simp only at hb
  have HB := Lib.hid hb
  have H0 := Lib.hid h0
  have H1 := Lib.hid h1
  have H2 := Lib.hid h2
  clear hb h0 h1 h2
  by_cases e0 : x0 = 0
  case neg =>
    have d1 : (x0 == 0) = false := by simpa using e0
    have d2 : (x0 != 0) = true := by simpa using e0
    have HR := Lib.hid (show Wb.betw c f t o = (0, x0) by rw [HB.out, if_pos e0])
    clear e0
    go_enter Try.func22, Try.ntmps22
    go_wp2_with fail
    go_fit (rupto_any c 0 o _); rintro e w1 ⟨rfl, rfl⟩
    rw [H0.out]
    go_wp2
    refine bodyPost_ret (v := .tuple #[.int .i64 0, .int .i64 x0]) (by simp [results, Try.results22, go_sem]) rfl ⟨by rw [HR.out], by first | rfl | trivial⟩
  subst e0
  by_cases e1 : x1 = 0
  case neg =>
    have d1 : (x1 == 0) = false := by simpa using e1
    have d2 : (x1 != 0) = true := by simpa using e1
    have HR := Lib.hid (show Wb.betw c f t o = (0, x1) by rw [HB.out, if_neg (by simp), if_pos e1])
    clear e1
    go_enter Try.func22, Try.ntmps22
    go_wp2_with fail
    go_fit (rupto_any c 0 o _); rintro e w1 ⟨rfl, rfl⟩
    rw [H0.out]
    go_wp2_with fail
    go_fit (rupto_any c f o _); rintro e w2 ⟨rfl, rfl⟩
    rw [H1.out]
    go_wp2
    refine bodyPost_ret (v := .tuple #[.int .i64 0, .int .i64 x1]) (by simp [results, Try.results22, go_sem]) rfl ⟨by rw [HR.out], by first | rfl | trivial⟩
  subst e1
  by_cases e2 : x2 = 0
  case neg =>
    have d1 : (x2 == 0) = false := by simpa using e2
    have d2 : (x2 != 0) = true := by simpa using e2
    have HR := Lib.hid (show Wb.betw c f t o = (0, x2) by rw [HB.out, if_neg (by simp), if_neg (by simp), if_pos e2])
    clear e2
    go_enter Try.func22, Try.ntmps22
    go_wp2_with fail
    go_fit (rupto_any c 0 o _); rintro e w1 ⟨rfl, rfl⟩
    rw [H0.out]
    go_wp2_with fail
    go_fit (rupto_any c f o _); rintro e w2 ⟨rfl, rfl⟩
    rw [H1.out]
    go_wp2_with fail
    go_fit (rupto_any c t o _); rintro e w3 ⟨rfl, rfl⟩
    rw [H2.out]
    go_wp2
    refine bodyPost_ret (v := .tuple #[.int .i64 0, .int .i64 x2]) (by simp [results, Try.results22, go_sem]) rfl ⟨by rw [HR.out], by first | rfl | trivial⟩
  subst e2
  have b : ∀ {k : Int} {p : Int}, upR c k o = (p, 0) → -1125899906842624 ≤ p ∧ p ≤ 1125899906842624 := fun {k p} h => by
    rcases upR_is c k o with ⟨_, hf, g1, g2, g3, g4, g5⟩ | ⟨hE, _⟩
    · rw [g5] at h
      have := (Prod.mk.inj h).1
      have := Wb.upT_abs (c := c) (a := k.toNat) (d := o.toNat) (by omega) (by omega)
      have := (Wb.fits_iff _).1 hf
      omega
    · rw [h] at hE; exact absurd rfl hE
  obtain ⟨k1, k2⟩ := b H1.out
  obtain ⟨k3, k4⟩ := b H2.out
  clear b
  by_cases e3 : t < f
  · have d : decide (t < f) = true := by simpa using e3
    have HR := Lib.hid (show Wb.betw c f t o = (0, 8) by rw [HB.out, if_neg (by simp), if_neg (by simp), if_neg (by simp), if_pos e3])
    clear e3
    go_enter Try.func22, Try.ntmps22
    go_wp2_with fail
    go_fit (rupto_any c 0 o _); rintro e w1 ⟨rfl, rfl⟩
    rw [H0.out]
    go_wp2_with fail
    go_fit (rupto_any c f o _); rintro e w2 ⟨rfl, rfl⟩
    rw [H1.out]
    go_wp2_with fail
    go_fit (rupto_any c t o _); rintro e w3 ⟨rfl, rfl⟩
    rw [H2.out]
    go_wp2
    refine bodyPost_ret (v := .tuple #[.int .i64 0, .int .i64 8]) (by simp [results, Try.results22, go_sem]) rfl ⟨by rw [HR.out], by first | rfl | trivial⟩
  · have d : decide (t < f) = false := by simpa using e3
    have HR := Lib.hid (show Wb.betw c f t o = (p2 - p1, 0) by rw [HB.out, if_neg (by simp), if_neg (by simp), if_neg (by simp), if_neg e3])
    clear e3
    go_enter Try.func22, Try.ntmps22
    go_wp2_with fail
    go_fit (rupto_any c 0 o _); rintro e w1 ⟨rfl, rfl⟩
    rw [H0.out]
    go_wp2_with fail
    go_fit (rupto_any c f o _); rintro e w2 ⟨rfl, rfl⟩
    rw [H1.out]
    go_wp2_with fail
    go_fit (rupto_any c t o _); rintro e w3 ⟨rfl, rfl⟩
    rw [H2.out]
    go_wp2
    refine bodyPost_ret (v := .tuple #[.int .i64 (p2 - p1), .int .i64 0]) (by simp [results, Try.results22, go_sem]) rfl ⟨by rw [HR.out], by first | rfl | trivial⟩

end Go.Proofs.Ytheofklbmknipaa
