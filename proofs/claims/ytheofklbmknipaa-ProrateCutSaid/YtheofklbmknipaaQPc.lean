/- Chapter 20, plain: pieces of one amount. -/
import Derived.Test.YtheofklbmknipaaQLaw0
namespace Go.Proofs.Ytheofklbmknipaa
open Go.RowKit Go.Lib
set_option maxRecDepth 8000

theorem sal_one (ix o : Int) (s : Wb.Sp) (z : Pc) : salaryR ix o s [z] = if inP s z.d = false then (0, 24) else if (pcR ix o s z).2 ≠ 0 then (0, (pcR ix o s z).2)
    else if (Wb.told 0 (pcR ix o s z).1 (0 + (pcR ix o s z).1)).2 ≠ 0 then (0, (Wb.told 0 (pcR ix o s z).1 (0 + (pcR ix o s z).1)).2) else ((Wb.told 0 (pcR ix o s z).1 (0 + (pcR ix o s z).1)).1, 0) := by
  rw [salaryR, if_neg (by simp), salR]
  simp only [List.any_nil, Bool.false_eq_true, if_false, salR]
theorem told_fit {a b : Int} (h1 : Wb.fits a = true) (h2 : Wb.fits b = true) (h3 : Wb.fits (a + b) = true) : Wb.told a b (a + b) = (a + b, 0) := by
  rw [Wb.told, if_pos ⟨h1, h2⟩, if_pos h3]
theorem upT_fits {c : Int} {k n : Nat} (h : Wb.fits c = true) (hn : 0 < n) (hk : k ≤ n) : Wb.fits (Wb.upT c k n) = true := by
  have := (Wb.fits_iff _).1 h
  have := Wb.upT_abs (c := c) hn hk
  exact (Wb.fits_iff _).2 (by omega)
theorem upT_dfits {c : Int} {i j n : Nat} (h : Wb.fits c = true) (hn : 0 < n) (hi : i ≤ j) (hj : j ≤ n) : Wb.fits (Wb.upT c j n - Wb.upT c i n) = true := by
  have := (Wb.fits_iff _).1 h
  have := Wb.upT_abs (c := c) hn hj
  have := Wb.upT_abs (c := c) hn (Nat.le_trans hi hj)
  refine (Wb.fits_iff _).2 ?_
  by_cases hc : c < 0
  · have := Wb.upT_turn hc (d := n) hi
    have := Wb.upT_neg hc i n
    have := Wb.upT_neg hc j n
    omega
  · have := Wb.upT_mono (c := c) (by omega) (d := n) hi
    have := Wb.upT_pos (c := c) (by omega) i n
    have := Wb.upT_pos (c := c) (by omega) j n
    omega
theorem lenS_n {f : Int} {n : Nat} (h0 : 0 < n) (h1 : n ≤ 1000000) : lenS (f, f + n) = n := by
  unfold lenS
  simp only
  rw [if_neg (by omega)]
  omega
/-- what the amount and its part are in the period -/
structure Bs (ix o : Int) (Y part C : Int) : Prop where
  r : (Wb.ofR Y part).2 = 0
  p : perR ix o (Wb.ofR Y part).1 = (C, 0)
  c : Wb.fits C = true
theorem pc_in {ix o Y part C f : Int} {n i j : Nat} (h : Bs ix o Y part C) (h0 : 0 < n) (h1 : n ≤ 1000000) (hi : i ≤ j) (hj : j ≤ n) : pcR ix o (f, f + n) ⟨(f + i, f + j), Y, part⟩ = (Wb.upT C j n - Wb.upT C i n, 0) := by
  rw [pcR]
  simp only
  rw [if_neg (by rw [h.r]; decide), h.p, if_neg (by simp), lenS_n h0 h1, show f + (i : Int) - f = i by omega, show f + (j : Int) - f = j by omega, Wb.betw_ok h.c (by omega) (by omega) (by omega) (by omega) (by omega)]
  rfl
theorem sal_in {ix o Y part C f : Int} {n i j : Nat} (h : Bs ix o Y part C) (h0 : 0 < n) (h1 : n ≤ 366) (hi : i < j) (hj : j ≤ n) : salaryR ix o (f, f + n) [⟨(f + i, f + j), Y, part⟩] = (Wb.upT C j n - Wb.upT C i n, 0) := by
  have hf := upT_dfits (i := i) (j := j) h.c h0 (Nat.le_of_lt hi) hj
  rw [sal_one, if_neg (by rw [inP_iff.2 (by simp only; omega)]; decide), pc_in h h0 (by omega) (Nat.le_of_lt hi) hj]
  simp only
  rw [if_neg (by simp), told_fit (by decide) hf (by rw [Int.zero_add]; exact hf), Int.zero_add]
  simp only
  rw [if_neg (by simp)]
theorem sal_err {ix o : Int} {s : Wb.Sp} {z : Pc} {C E : Int} (h : salaryR ix o s [z] = (C, E)) (hE : E ≠ 0) : C = 0 := by
  rw [sal_one] at h
  split at h
  · exact (Prod.mk.inj h).1.symm
  · split at h
    · exact (Prod.mk.inj h).1.symm
    · split at h
      · exact (Prod.mk.inj h).1.symm
      · exact absurd (Prod.mk.inj h).2.symm hE
/-- one piece of all of the days -/
theorem sal_whole {ix o Y part C f : Int} {n : Nat} (h0 : 0 < n) (h1 : n ≤ 366) (h : salaryR ix o (f, f + n) [⟨(f, f + n), Y, part⟩] = (C, 0)) : Bs ix o Y part C := by
  obtain ⟨⟨v, e⟩, hv⟩ : ∃ q, pcR ix o (f, f + n) ⟨(f, f + n), Y, part⟩ = q := ⟨_, rfl⟩
  rw [sal_one, if_neg (by rw [inP_iff.2 (by simp only; omega)]; decide), hv] at h
  simp only at h
  by_cases he : e = 0
  case neg =>
    rw [if_pos he] at h
    exact absurd (Prod.mk.inj h).2 he
  subst he
  rw [if_neg (by simp)] at h
  split at h
  · rename_i h4; exact absurd (Prod.mk.inj h).2 h4
  rename_i h4
  rw [(Wb.told_back (Decidable.not_not.1 h4)).1, Int.zero_add] at h
  obtain rfl : v = C := (Prod.mk.inj h).1
  unfold pcR at hv
  simp only at hv
  split at hv
  · rename_i q; exact absurd (Prod.mk.inj hv).2 q
  rename_i hR
  split at hv
  · rename_i q; exact absurd (Prod.mk.inj hv).2 q
  rename_i hP
  rcases Wb.betw_is (perR ix o (Wb.ofR Y part).1).1 (f - f) (f + n - f) (lenS (f, f + n)) with ⟨_, b1, b2, b3, b4, b5, b6, b7⟩ | ⟨b, _⟩
  · have e1 : v = (perR ix o (Wb.ofR Y part).1).1 := by
      rw [hv] at b7
      simp only at b7
      rw [b7, lenS_n h0 (by omega), show (f - f).toNat = 0 by omega, show (f + (n : Int) - f).toNat = n by omega, show ((n : Int)).toNat = n from rfl, Wb.upT_all h0, Wb.upT_zero h0, Int.sub_zero]
    exact ⟨Decidable.not_not.1 hR, Prod.ext e1.symm (Decidable.not_not.1 hP), by rw [e1]; exact b1⟩
  · rw [hv] at b; exact absurd rfl b
/-- a day by the amount -/
def dayP (f Y part : Int) (j : Nat) : Pc := ⟨(f + j, f + j + 1), Y, part⟩
def dayL (f Y part : Int) (k : Nat) : List Pc := (List.range k).map (dayP f Y part)
theorem dayL_succ (f Y part : Int) (k : Nat) : dayL f Y part (k + 1) = dayL f Y part k ++ [dayP f Y part k] := by rw [dayL, List.range_succ, List.map_append]; rfl
theorem dayL_len (f Y part : Int) (k : Nat) : (dayL f Y part k).length = k := by simp [dayL]
theorem sal_days {ix o Y part C f : Int} {n : Nat} (h : Bs ix o Y part C) (h0 : 0 < n) (h1 : n ≤ 366) : ∀ m k, k + m = n → salR ix o (f, f + n) (dayL f Y part k) (Wb.upT C k n) ((List.range' k m).map (dayP f Y part)) = (C, 0)
  | 0, k, hk => by
    obtain rfl : k = n := by omega
    rw [List.range'_zero, List.map_nil, salR, Wb.upT_all h0]
  | m + 1, k, hk => by
    have hp : pcR ix o (f, f + n) (dayP f Y part k) = (Wb.upT C (k + 1) n - Wb.upT C k n, 0) := by
      have := pc_in (f := f) (i := k) (j := k + 1) h h0 (by omega) (by omega) (by omega)
      rw [dayP, show f + (k : Int) + 1 = f + ((k + 1 : Nat) : Int) by omega]
      exact this
    have hd := upT_dfits (i := k) (j := k + 1) h.c h0 (by omega) (by omega)
    have hs := upT_fits (k := k) h.c h0 (by omega)
    have ht := upT_fits (k := k + 1) h.c h0 (by omega)
    have e : Wb.upT C k n + (Wb.upT C (k + 1) n - Wb.upT C k n) = Wb.upT C (k + 1) n := by omega
    rw [List.range'_succ, List.map_cons, salR, if_neg (by rw [inP_iff.2 (by simp only [dayP]; omega)]; decide), if_neg ?_, hp]
    · simp only
      rw [if_neg (by simp), told_fit hs hd (by rw [e]; exact ht), e]
      simp only
      rw [if_neg (by simp), ← dayL_succ]
      exact sal_days h h0 h1 m (k + 1) (by omega)
    · intro ha
      obtain ⟨z, hz, hm⟩ := List.any_eq_true.1 ha
      obtain ⟨j, hj, rfl⟩ := List.mem_map.1 hz
      have hj := List.mem_range.1 hj
      have := meetB_iff.1 hm
      simp only [dayP] at this
      omega
theorem salary_days {ix o Y part C f : Int} {n : Nat} (h : Bs ix o Y part C) (h0 : 0 < n) (h1 : n ≤ 64) : salaryR ix o (f, f + n) (dayL f Y part n) = (C, 0) := by
  rw [salaryR, if_neg (by rw [dayL_len]; omega)]
  have := sal_days (f := f) h h0 (by omega) n 0 (by omega)
  rw [Wb.upT_zero h0, show dayL f Y part 0 = [] from rfl, ← List.range_eq_range'] at this
  exact this

end Go.Proofs.Ytheofklbmknipaa
