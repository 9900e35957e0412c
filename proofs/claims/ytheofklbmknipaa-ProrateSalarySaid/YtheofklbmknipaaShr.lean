/- The walks of package share: a part up to there, between. -/
import Derived.Test.YtheofklbmknipaaDiv
import Derived.Test.YtheofklbmknipaaPlain20
import Derived.Test.YtheofklbmknipaaCents
namespace Go.Proofs.Ytheofklbmknipaa
open Go.RowKit Go.Lib
set_option maxRecDepth 8000

theorem fits03_any (c : Int) (w : World) :
    Calls Try.prog 59 #[.int .i64 c] w fun e w' => e = .returned (.bool (Wb.fits c)) ∧ w = w' := by
  by_cases h : -1125899906842624 ≤ c
  · go_enter Try.func59, Try.ntmps59
    go_wp2
    go_ret
    exact ⟨by simp [Wb.fits, h], rfl⟩
  · have h' : decide (-1125899906842624 ≤ c) = false := by simpa using h
    go_enter Try.func59, Try.ntmps59
    go_wp2
    go_ret
    exact ⟨by rw [Wb.fits, h']; rfl, rfl⟩
theorem mul64_any (x y : Nat) (hx : x < 18446744073709551616) (hy : y < 18446744073709551616) (w : World) :
    Calls Try.prog 71 #[.int .u64 x, .int .u64 y] w fun e w' => e = .returned (.tuple #[.int .u64 ((x * y / 18446744073709551616 : Nat) : Int), .int .u64 ((x * y % 18446744073709551616 : Nat) : Int)]) ∧ w = w' :=
  (Any.bits_Mul64 Try.mul64 x y hx hy w).mono fun _ _ ⟨h1, h2⟩ => ⟨h1, h2.symm⟩
theorem part03_any (a b d : Nat) (ha : a ≤ 1125899906842624) (hb : b ≤ d) (h0 : 0 < d) (hd : d ≤ 1125899906842624) (w : World) :
    Calls Try.prog 62 #[.int .u64 a, .int .u64 b, .int .u64 d] w fun e w' => e = .returned (.tuple #[.int .u64 ((a * b / d : Nat) : Int), .int .u64 ((a * b % d : Nat) : Int)]) ∧ Wb.Ext w w' := by
  obtain ⟨h, hh⟩ : ∃ h, a * b / 18446744073709551616 = h := ⟨_, rfl⟩
  obtain ⟨l, hl⟩ : ∃ h, a * b % 18446744073709551616 = h := ⟨_, rfl⟩
  have hlb : l < 18446744073709551616 := by rw [← hl]; exact Nat.mod_lt _ (by decide)
  have hhb : h < d := by
    rw [← hh, Nat.div_lt_iff_lt_mul (by decide)]
    calc a * b ≤ 1125899906842624 * d := Nat.mul_le_mul ha hb
      _ < d * 18446744073709551616 := by omega
  have HS := Lib.hid (show h * 18446744073709551616 + l = a * b by rw [← hh, ← hl, Nat.mul_comm]; exact Nat.div_add_mod _ _)
  have HH := Lib.hid hh
  have HL := Lib.hid hl
  clear hh hl
  go_enter Try.func62, Try.ntmps62
  go_wp2_with fail
  go_fit (mul64_any a b (by omega) (by omega) _); rintro e w' ⟨rfl, rfl⟩
  rw [HH.out, HL.out]
  go_wp2_with fail
  go_fit (div64_any h l d hhb hlb (by omega) _); rintro e w1 ⟨rfl, hb1⟩
  rw [HS.out]
  go_wp2
  refine bodyPost_ret (v := .tuple #[.int .u64 ((a * b / d : Nat) : Int), .int .u64 ((a * b % d : Nat) : Int)]) (by simp [results, Try.results62, go_sem]) rfl ⟨rfl, hb1⟩
set_option maxHeartbeats 1000000 in
theorem upc_any (x a d b1 b2 : Nat) (hx : x ≤ 1125899906842624) (ha : a ≤ d) (h0 : 0 < d) (hd : d ≤ 1125899906842624) (w : World) (c1 : w.cell? ⟨b1, 0, none⟩ = some (.int .i64 a)) (c2 : w.cell? ⟨b2, 0, none⟩ = some (.int .i64 d)) :
    Calls Try.prog 61 #[.int .u64 x, .pointer (some ⟨b1, 0, none⟩), .pointer (some ⟨b2, 0, none⟩)] w fun e w' => e = .returned (.int .i64 ((Wb.huN (x * a) d : Nat) : Int)) ∧ Wb.Ext w w' := by
  obtain ⟨q, hq⟩ : ∃ q, x * a / d = q := ⟨_, rfl⟩
  obtain ⟨r, hr⟩ : ∃ q, x * a % d = q := ⟨_, rfl⟩
  have hrd : r < d := by rw [← hr]; exact Nat.mod_lt _ h0
  have hqb : q ≤ 1125899906842624 := by
    rw [← hq]
    calc x * a / d ≤ x * d / d := Nat.div_le_div_right (Nat.mul_le_mul_left _ ha)
      _ = x := Nat.mul_div_cancel _ h0
      _ ≤ _ := hx
  have HU := Lib.hid (show Wb.huN (x * a) d = if d ≤ 2 * r then q + 1 else q from Wb.hu_qr (by rw [← hq, ← hr, Nat.mul_comm]; exact Nat.div_add_mod _ _) hrd)
  have HQ := Lib.hid hq
  have HR := Lib.hid hr
  clear hq hr
  go_enter Try.func61, Try.ntmps61
  go_wp2_with fail
  go_fit (part03_any x a d hx ha h0 hd _); rintro e w1 ⟨rfl, hb1⟩
  rw [HQ.out, HR.out]
  have c1 := hb1.keep c1
  have c2 := hb1.keep c2
  by_cases hc : d ≤ 2 * r
  · have d1 : decide ((d : Int) ≤ 2 * (r : Int)) = true := by simp; omega
    have HV := Lib.hid (show Wb.huN (x * a) d = q + 1 by rw [HU.out, if_pos hc])
    go_wp2
    go_ret
    exact ⟨Wb.ret_int (by rw [HV.out]; simp), hb1⟩
  · have d1 : decide ((d : Int) ≤ 2 * (r : Int)) = false := by simp; omega
    have HV := Lib.hid (show Wb.huN (x * a) d = q by rw [HU.out, if_neg hc])
    go_wp2
    go_ret
    exact ⟨Wb.ret_int (by rw [HV.out]), hb1⟩
set_option maxHeartbeats 1000000 in
theorem turned_any (c : Int) (a d b1 b2 : Nat) (hc : Wb.fits c = true) (ha : a ≤ d) (h0 : 0 < d) (hd : d ≤ 1125899906842624) (w : World) (c1 : w.cell? ⟨b1, 0, none⟩ = some (.int .i64 a)) (c2 : w.cell? ⟨b2, 0, none⟩ = some (.int .i64 d)) :
    Calls Try.prog 60 #[.int .i64 c, .func (.func 61) #[] #[.pointer (some ⟨b1, 0, none⟩), .pointer (some ⟨b2, 0, none⟩)]] w fun e w' => e = .returned (.int .i64 (Wb.upT c a d)) ∧ Wb.Ext w w' := by
  obtain ⟨f1, f2⟩ := (Wb.fits_iff _).1 hc
  have hle : Wb.huN (c.natAbs * a) d ≤ c.natAbs := Wb.hu_le h0 (Nat.mul_le_mul_left _ ha)
  obtain ⟨n, hn⟩ : ∃ n, c.natAbs = n := ⟨_, rfl⟩
  obtain ⟨q, hq⟩ : ∃ q, Wb.huN (n * a) d = q := ⟨_, rfl⟩
  have HQ := Lib.hid hq
  rw [hn, hq] at hle
  have hnb : n ≤ 1125899906842624 := by omega
  by_cases h : c < 0
  · have e1 : -c = (n : Int) := by omega
    have HU := Lib.hid (show Wb.upT c a d = -(q : Int) by rw [Wb.upT_neg h, hn, hq])
    clear hn hq hc
    go_enter Try.func60, Try.ntmps60
    go_wp2_with fail
    go_fit (upc_any n a d b1 b2 hnb ha h0 hd _ c1 c2); rintro e w1 ⟨rfl, hb1⟩
    rw [HQ.out]
    go_wp2
    go_ret
    exact ⟨Wb.ret_int HU.out.symm, hb1⟩
  · have hcn : c = (n : Int) := by omega
    have HU := Lib.hid (show Wb.upT c a d = (q : Int) by rw [Wb.upT_pos (by omega), hn, hq])
    clear hn hq hc
    subst hcn
    have d1 : decide ((n : Int) < 0) = false := by simp
    go_enter Try.func60, Try.ntmps60
    go_wp2_with fail
    go_fit (upc_any n a d b1 b2 hnb ha h0 hd _ c1 c2); rintro e w1 ⟨rfl, hb1⟩
    rw [HQ.out]
    go_wp2
    go_ret
    exact ⟨Wb.ret_int HU.out.symm, hb1⟩
theorem upto_any (c : Int) (a d : Nat) (hc : Wb.fits c = true) (ha : a ≤ d) (h0 : 0 < d) (hd : d ≤ 1125899906842624) (w : World) :
    Calls Try.prog 39 #[.int .i64 c, .int .i64 a, .int .i64 d] w fun e w' => e = .returned (.int .i64 (Wb.upT c a d)) ∧ Wb.Ext w w' := by
  go_enter Try.func39, Try.ntmps39
  go_wp2_with fail
  go_fit (turned_any c a d w.heap.size (w.heap.size + 1) hc ha h0 hd _ (by simp [go_sem]) (by simp [go_sem])); rintro e w1 ⟨rfl, hb1⟩
  go_wp2
  go_ret
  exact ⟨rfl, Wb.Ext.trans (by (repeat' (first | (with_reducible assumption) | (with_reducible exact Wb.Ext.refl _) | (with_reducible refine Wb.Ext.drew ?_) | (with_reducible refine Wb.Ext.drewN ?_ _) | (with_reducible refine Wb.Ext.alloc ?_ _) | (with_reducible refine Wb.Ext.trans ?_ (by assumption))))) hb1⟩
/-- what is wrong with an amount, and what it is a part of -/
def wholeE (c o : Int) : Int := if Wb.fits c = false then 9 else if o = 0 then 22 else if o < 0 ∨ 1125899906842624 < o then 2 else 0
theorem whole03_any (c o : Int) (w : World) :
    Calls Try.prog 38 #[.int .i64 c, .int .i64 o] w fun e w' => e = .returned (.int .i64 (wholeE c o)) ∧ w = w' := by
  obtain ⟨f, hf⟩ : ∃ f, Wb.fits c = f := ⟨_, rfl⟩
  have HF := Lib.hid hf
  clear hf
  cases f
  · have H := Lib.hid (show wholeE c o = 9 by rw [wholeE, if_pos HF.out])
    go_enter Try.func38, Try.ntmps38
    go_wp2_with fail
    go_fit (fits03_any c _); rintro e w' ⟨rfl, rfl⟩
    rw [HF.out]
    go_wp2
    go_ret
    exact ⟨Wb.ret_int H.out.symm, rfl⟩
  · by_cases h0 : o = 0
    · subst h0
      have H := Lib.hid (show wholeE c 0 = 22 by rw [wholeE, if_neg (by rw [HF.out]; decide), if_pos rfl])
      go_enter Try.func38, Try.ntmps38
      go_wp2_with fail
      go_fit (fits03_any c _); rintro e w' ⟨rfl, rfl⟩
      rw [HF.out]
      go_wp2
      go_ret
      exact ⟨Wb.ret_int H.out.symm, rfl⟩
    · have d0 : (o == 0) = false := by simpa using h0
      by_cases h1 : o < 0
      · have H := Lib.hid (show wholeE c o = 2 by rw [wholeE, if_neg (by rw [HF.out]; decide), if_neg h0, if_pos (.inl h1)])
        clear h0
        go_enter Try.func38, Try.ntmps38
        go_wp2_with fail
        go_fit (fits03_any c _); rintro e w' ⟨rfl, rfl⟩
        rw [HF.out]
        go_wp2
        go_ret
        exact ⟨Wb.ret_int H.out.symm, rfl⟩
      · have d1 : decide (o < 0) = false := by simpa using h1
        by_cases h2 : 1125899906842624 < o
        · have H := Lib.hid (show wholeE c o = 2 by rw [wholeE, if_neg (by rw [HF.out]; decide), if_neg h0, if_pos (.inr h2)])
          clear h0
          go_enter Try.func38, Try.ntmps38
          go_wp2_with fail
          go_fit (fits03_any c _); rintro e w' ⟨rfl, rfl⟩
          rw [HF.out]
          go_wp2
          go_ret
          exact ⟨Wb.ret_int H.out.symm, rfl⟩
        · have d2 : decide (1125899906842624 < o) = false := by simpa using h2
          have H := Lib.hid (show wholeE c o = 0 by rw [wholeE, if_neg (by rw [HF.out]; decide), if_neg h0, if_neg (by omega)])
          clear h0
          go_enter Try.func38, Try.ntmps38
          go_wp2_with fail
          go_fit (fits03_any c _); rintro e w' ⟨rfl, rfl⟩
          rw [HF.out]
          go_wp2
          go_ret
          exact ⟨Wb.ret_int H.out.symm, rfl⟩

theorem betw_bad {c f t o : Int} (h : wholeE c o ≠ 0) : Wb.betw c f t o = (0, wholeE c o) := by
  unfold wholeE at *
  unfold Wb.betw
  split
  · rename_i h1; simp
  · rename_i h1
    split
    · rename_i h2; simp
    · rename_i h2
      split
      · rfl
      · rename_i h3; exfalso; apply h; rw [if_neg h1, if_neg h2, if_neg h3]
theorem whole_ok {c o : Int} (h : wholeE c o = 0) : Wb.fits c = true ∧ 0 < o ∧ o ≤ 1125899906842624 := by
  unfold wholeE at h
  split at h
  · cases h
  · rename_i h1
    split at h
    · cases h
    · split at h
      · cases h
      · exact ⟨by simpa using h1, by omega, by omega⟩
theorem betw_good {c f t o : Int} (h : wholeE c o = 0) : Wb.betw c f t o = if f < 0 ∨ o < f ∨ t < 0 ∨ o < t then (0, 2) else if t < f then (0, 8) else (Wb.upT c t.toNat o.toNat - Wb.upT c f.toNat o.toNat, 0) := by
  obtain ⟨h1, h2, h3⟩ := whole_ok h
  unfold Wb.betw
  rw [if_neg (by rw [h1]; decide), if_neg (by omega), if_neg (by omega)]
set_option maxHeartbeats 1000000 in
theorem between_any (c f t o : Int) (w : World) :
    Calls Try.prog 21 #[.int .i64 c, .int .i64 f, .int .i64 t, .int .i64 o] w fun e w' => e = Two (Wb.betw c f t o) ∧ Wb.Ext w w' := by
  obtain ⟨E, hE⟩ : ∃ E, wholeE c o = E := ⟨_, rfl⟩
  have HE := Lib.hid hE
  clear hE
  by_cases h0 : E = 0
  case neg =>
    have d : (E == 0) = false := by simpa using h0
    have d2 : (E != 0) = true := by simpa using h0
    have H := Lib.hid (show Wb.betw c f t o = (0, E) by rw [betw_bad (by rw [HE.out]; exact h0), HE.out])
    clear h0
    go_enter Try.func21, Try.ntmps21
    go_wp2_with fail
    go_fit (whole03_any c o _); rintro e w' ⟨rfl, rfl⟩
    rw [HE.out]
    go_wp2
    refine bodyPost_ret (v := .tuple #[.int .i64 0, .int .i64 E]) (by simp [results, Try.results21, go_sem]) rfl ⟨by rw [H.out], .refl _⟩
  subst h0
  obtain ⟨hf, ho1, ho2⟩ := whole_ok HE.out
  have HG := Lib.hid (betw_good (f := f) (t := t) HE.out)
  have HFT := Lib.hid hf
  clear hf
  have two : ∀ v : Int, Wb.betw c f t o = (0, v) → Hid (Wb.betw c f t o = (0, v)) := fun v h => Lib.hid h
  by_cases h1 : f < 0
  · have d1 : decide (f < 0) = true := by simpa using h1
    have H := two 2 (by rw [HG.out, if_pos (.inl h1)])
    clear two
    go_enter Try.func21, Try.ntmps21
    go_wp2_with fail
    go_fit (whole03_any c o _); rintro e w' ⟨rfl, rfl⟩
    rw [HE.out]
    go_wp2
    refine bodyPost_ret (v := .tuple #[.int .i64 0, .int .i64 2]) (by simp [results, Try.results21, go_sem]) rfl ⟨by rw [H.out], .refl _⟩
  have d1 : decide (f < 0) = false := by simpa using h1
  by_cases h2 : o < f
  · have d2 : decide (o < f) = true := by simpa using h2
    have H := two 2 (by rw [HG.out, if_pos (.inr (.inl h2))])
    clear two
    go_enter Try.func21, Try.ntmps21
    go_wp2_with fail
    go_fit (whole03_any c o _); rintro e w' ⟨rfl, rfl⟩
    rw [HE.out]
    go_wp2
    refine bodyPost_ret (v := .tuple #[.int .i64 0, .int .i64 2]) (by simp [results, Try.results21, go_sem]) rfl ⟨by rw [H.out], .refl _⟩
  have d2 : decide (o < f) = false := by simpa using h2
  by_cases h3 : t < 0
  · have d3 : decide (t < 0) = true := by simpa using h3
    have H := two 2 (by rw [HG.out, if_pos (.inr (.inr (.inl h3)))])
    clear two
    go_enter Try.func21, Try.ntmps21
    go_wp2_with fail
    go_fit (whole03_any c o _); rintro e w' ⟨rfl, rfl⟩
    rw [HE.out]
    go_wp2
    refine bodyPost_ret (v := .tuple #[.int .i64 0, .int .i64 2]) (by simp [results, Try.results21, go_sem]) rfl ⟨by rw [H.out], .refl _⟩
  have d3 : decide (t < 0) = false := by simpa using h3
  by_cases h4 : o < t
  · have d4 : decide (o < t) = true := by simpa using h4
    have H := two 2 (by rw [HG.out, if_pos (.inr (.inr (.inr h4)))])
    clear two
    go_enter Try.func21, Try.ntmps21
    go_wp2_with fail
    go_fit (whole03_any c o _); rintro e w' ⟨rfl, rfl⟩
    rw [HE.out]
    go_wp2
    refine bodyPost_ret (v := .tuple #[.int .i64 0, .int .i64 2]) (by simp [results, Try.results21, go_sem]) rfl ⟨by rw [H.out], .refl _⟩
  have d4 : decide (o < t) = false := by simpa using h4
  by_cases h5 : t < f
  · have d5 : decide (t < f) = true := by simpa using h5
    have H := two 8 (by rw [HG.out, if_neg (by omega), if_pos h5])
    clear two
    go_enter Try.func21, Try.ntmps21
    go_wp2_with fail
    go_fit (whole03_any c o _); rintro e w' ⟨rfl, rfl⟩
    rw [HE.out]
    go_wp2
    refine bodyPost_ret (v := .tuple #[.int .i64 0, .int .i64 8]) (by simp [results, Try.results21, go_sem]) rfl ⟨by rw [H.out], .refl _⟩
  have d5 : decide (t < f) = false := by simpa using h5
  obtain ⟨a, ha⟩ : ∃ a : Nat, f = a := ⟨f.toNat, by omega⟩
  obtain ⟨b, hb⟩ : ∃ a : Nat, t = a := ⟨t.toNat, by omega⟩
  obtain ⟨n, hn⟩ : ∃ a : Nat, o = a := ⟨o.toNat, by omega⟩
  subst ha
  subst hb
  subst hn
  have h5' : ¬ b < a := by omega
  have d5 : decide (b < a) = false := by simpa using h5'
  have d4 : decide (n < b) = false := by simp; omega
  have d2 : decide (n < a) = false := by simp; omega
  have hb1 := Wb.upT_abs (c := c) (a := a) (d := n) (by omega) (by omega)
  have hb2 := Wb.upT_abs (c := c) (a := b) (d := n) (by omega) (by omega)
  obtain ⟨u, hu⟩ : ∃ u, Wb.upT c a n = u := ⟨_, rfl⟩
  obtain ⟨v, hv⟩ : ∃ u, Wb.upT c b n = u := ⟨_, rfl⟩
  rw [hu] at hb1
  rw [hv] at hb2
  have hfb := (Wb.fits_iff _).1 HFT.out
  have hub : -1125899906842624 ≤ u ∧ u ≤ 1125899906842624 := by omega
  have hvb : -1125899906842624 ≤ v ∧ v ≤ 1125899906842624 := by omega
  have HU := Lib.hid hu
  have HV := Lib.hid hv
  have H := Lib.hid (show Wb.betw c a b n = (v - u, 0) by rw [HG.out, if_neg (by omega), if_neg (by omega)]; simp [hu, hv])
  have hn0 : 0 < n := by omega
  have hnm : n ≤ 1125899906842624 := by omega
  have hbn : b ≤ n := by omega
  have han : a ≤ n := by omega
  clear hu hv hb1 hb2 two h1 h2 h3 h4 h5 hfb
  obtain ⟨hu1, hu2⟩ := hub
  obtain ⟨hv1, hv2⟩ := hvb
  go_enter Try.func21, Try.ntmps21
  go_wp2_with fail
  go_fit (whole03_any c n _); rintro e w' ⟨rfl, rfl⟩
  rw [HE.out]
  go_wp2_with fail
  go_fit (upto_any c b n HFT.out hbn hn0 hnm _); rintro e w1 ⟨rfl, hb1⟩
  rw [HV.out]
  go_wp2_with fail
  go_fit (upto_any c a n HFT.out han hn0 hnm _); rintro e w2 ⟨rfl, hb2⟩
  rw [HU.out]
  go_wp2
  refine bodyPost_ret (v := .tuple #[.int .i64 (v - u), .int .i64 0]) (by simp [results, Try.results21, go_sem]) rfl ⟨by rw [H.out], hb1.trans hb2⟩

end Go.Proofs.Ytheofklbmknipaa
