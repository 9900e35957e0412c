/- The references of chapters 02 and 20: Fits, Right, days, Period. -/
import Derived.Test.YtheofklbmknipaaRef3b
import Derived.Test.YtheofklbmknipaaRef2
import Derived.Test.YtheofklbmknipaaPro0
namespace Go.Proofs.Ytheofklbmknipaa
open Go.RowKit Go.Lib
set_option maxRecDepth 8000

theorem rper_any (ix o c : Int) (hi : -9223372036854775808 ≤ ix ∧ ix ≤ 9223372036854775807) (w : World) :
    Calls Try.prog 13 #[.int .i64 ix, .int .i64 o, .int .i64 c] w fun e w' => e = Two (perR ix o c) ∧ w = w' := by
  obtain ⟨i0, i1⟩ := hi
  by_cases h : ix < 1
  · have d : decide (ix < 1) = true := by simpa using h
    obtain ⟨⟨p1, p2⟩, hp⟩ : ∃ p, Wb.betw c (-1) 0 o = p := ⟨_, rfl⟩
    have HP := Lib.hid hp
    have H := Lib.hid (show perR ix o c = (p1, p2) by
      rw [← hp, perR]
      unfold Wb.betw less1
      by_cases h1 : Wb.fits c = false
      · rw [if_pos h1, if_pos h1]
      · rw [if_neg h1, if_neg h1]
        by_cases h2 : o = 0
        · rw [if_pos h2, if_pos h2]
        · rw [if_neg h2, if_neg h2]
          by_cases h3 : o < 0 ∨ 1125899906842624 < o
          · rw [if_pos h3, if_pos h3]
          · rw [if_neg h3, if_neg h3, if_pos (by split <;> omega), if_pos (by omega)])
    clear hp h
    go_enter Try.func13, Try.ntmps13
    go_wp2_with fail
    go_fit (rbetw_any c (-1) 0 o _); rintro e w1 ⟨rfl, rfl⟩
    rw [HP.out]
    go_wp2
    refine bodyPost_ret (v := .tuple #[.int .i64 p1, .int .i64 p2]) (by simp [results, Try.results13, go_sem]) rfl ⟨by rw [H.out], by first | rfl | trivial⟩
  · have d : decide (ix < 1) = false := by simpa using h
    obtain ⟨⟨p1, p2⟩, hp⟩ : ∃ p, Wb.betw c (ix - 1) ix o = p := ⟨_, rfl⟩
    have HP := Lib.hid hp
    have H := Lib.hid (show perR ix o c = (p1, p2) by rw [← hp, perR, less1, if_neg (by omega)])
    clear hp
    go_enter Try.func13, Try.ntmps13
    go_wp2_with fail
    go_fit (rbetw_any c (ix - 1) ix o _); rintro e w1 ⟨rfl, rfl⟩
    rw [HP.out]
    go_wp2
    refine bodyPost_ret (v := .tuple #[.int .i64 p1, .int .i64 p2]) (by simp [results, Try.results13, go_sem]) rfl ⟨by rw [H.out], by first | rfl | trivial⟩
/-- the reference's days: 367 where there are more -/
def daysN (s : Wb.Sp) : Int := if s.2 ≤ s.1 then 0 else min (s.2 - s.1) 367
theorem days20_any (s : Wb.Sp) (hb : Bd s) (w : World) :
    Calls Try.prog 31 #[SpV s] w fun e w' => e = .returned (.int .i64 (daysN s)) ∧ Wb.Ext w w' := by
  obtain ⟨f, t⟩ := s
  obtain ⟨⟨b1, b2⟩, b3, b4⟩ := hb
  simp only at b1 b2 b3 b4
  by_cases h : t ≤ f
  · have d : decide (t ≤ f) = true := by simpa using h
    have H := Lib.hid (show daysN (f, t) = 0 by rw [daysN, if_pos h])
    clear h
    go_enter Try.func31, Try.ntmps31
    go_wp2
    go_ret
    exact ⟨Wb.ret_int H.out.symm, by (repeat' (first | (with_reducible assumption) | (with_reducible exact Wb.Ext.refl _) | (with_reducible refine Wb.Ext.drew ?_) | (with_reducible refine Wb.Ext.drewN ?_ _) | (with_reducible refine Wb.Ext.alloc ?_ _) | (with_reducible refine Wb.Ext.trans ?_ (by assumption))))⟩
  have d : decide (t ≤ f) = false := by simpa using h
  have hw : IntKind.u64.wrap (IntKind.u64.wrap t - IntKind.u64.wrap f) = t - f := by
    rw [IntKind.wrap_u64, IntKind.wrap_u64, IntKind.wrap_u64]; omega
  by_cases h2 : 367 < t - f
  · have d2 : decide (367 < t - f) = true := by simpa using h2
    have H := Lib.hid (show daysN (f, t) = 367 by rw [daysN, if_neg h]; simp only; omega)
    go_enter Try.func31, Try.ntmps31
    go_wp2
    go_ret
    exact ⟨Wb.ret_int H.out.symm, by (repeat' (first | (with_reducible assumption) | (with_reducible exact Wb.Ext.refl _) | (with_reducible refine Wb.Ext.drew ?_) | (with_reducible refine Wb.Ext.drewN ?_ _) | (with_reducible refine Wb.Ext.alloc ?_ _) | (with_reducible refine Wb.Ext.trans ?_ (by assumption))))⟩
  · have d2 : decide (367 < t - f) = false := by simpa using h2
    have H := Lib.hid (show daysN (f, t) = t - f by rw [daysN, if_neg h]; simp only; omega)
    go_enter Try.func31, Try.ntmps31
    go_wp2
    go_ret
    exact ⟨Wb.ret_int H.out.symm, by (repeat' (first | (with_reducible assumption) | (with_reducible exact Wb.Ext.refl _) | (with_reducible refine Wb.Ext.drew ?_) | (with_reducible refine Wb.Ext.drewN ?_ _) | (with_reducible refine Wb.Ext.alloc ?_ _) | (with_reducible refine Wb.Ext.trans ?_ (by assumption))))⟩

end Go.Proofs.Ytheofklbmknipaa
