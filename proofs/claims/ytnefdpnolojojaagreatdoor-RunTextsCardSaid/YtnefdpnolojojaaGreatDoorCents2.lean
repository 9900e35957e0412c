/- Cents2 -/
import Derived.Test.YtnefdpnolojojaaGreatDoorMBa
namespace Go.Proofs.YtnefdpnolojojaaGreatDoor
open Go.RowKit
set_option maxRecDepth 4000
theorem textN_eq (n : Nat) : Wb.textN n = Wb.digs (n / 100) ++ 46 :: (Wb.digs (n % 100 / 10) ++ Wb.digs (n % 10)) := by
 unfold Wb.textN
 rw [show n / 10 % 10 = n % 100 / 10 by omega]; simp
theorem text_any (c : Int) (w : World) :
  Calls Tryz.prog 13 #[.int .i64 c] w fun e w' => e = .returned (.string (Wb.S (Wb.text c))) ∧ w = w' := by
 by_cases hf : Wb.fits c = true
 ·have hf' := (Wb.fits_iff c).1 hf
  by_cases h0 : c < 0
  ·obtain ⟨n, hn, hc⟩ : ∃ n : Nat, (n : Int) ≤ 1125899906842624 ∧ c = -n := ⟨c.natAbs, by omega, by omega⟩
   subst hc
   have hl := Wb.digs_length 13 (n / 100) (by omega)
   have hl1 := Wb.digs_length 0 (n % 100 / 10) (by omega)
   have hl2 := Wb.digs_length 0 (n % 10) (by omega)
   have H := Lib.hid (show Wb.text (-(n : Int)) = 45 :: Wb.textN n by rw [Wb.text, if_pos hf, Wb.textZ, if_pos h0]; simp)
   go_enter Tryz.func13, Tryz.ntmps13
   go_wp2_with (first | (go_at_call 38; refine (fits_any _ _).mono ?_; rintro e w' ⟨rfl, rfl⟩) | (go_at_call 39; refine (whole_any _ (by omega) (by omega) _).mono ?_; rintro e w' ⟨rfl, rfl⟩))
   go_ret
   exact ⟨Wb.ret_str (by rw [H.out, textN_eq]), rfl⟩
  ·obtain ⟨n, hn, hc⟩ : ∃ n : Nat, (n : Int) ≤ 1125899906842624 ∧ c = n := ⟨c.natAbs, by omega, by omega⟩
   subst hc
   have hl := Wb.digs_length 13 (n / 100) (by omega)
   have hl1 := Wb.digs_length 0 (n % 100 / 10) (by omega)
   have hl2 := Wb.digs_length 0 (n % 10) (by omega)
   have H := Lib.hid (show Wb.text (n : Int) = Wb.textN n by rw [Wb.text, if_pos hf, Wb.textZ, if_neg h0]; simp)
   go_enter Tryz.func13, Tryz.ntmps13
   go_wp2_with (first | (go_at_call 38; refine (fits_any _ _).mono ?_; rintro e w' ⟨rfl, rfl⟩) | (go_at_call 39; refine (whole_any _ (by omega) (by omega) _).mono ?_; rintro e w' ⟨rfl, rfl⟩))
   go_ret
   exact ⟨Wb.ret_str (by rw [H.out, textN_eq]), rfl⟩
 ·have H : Wb.text c = [] := by simp [Wb.text, hf]
  go_enter Tryz.func13, Tryz.ntmps13
  go_wp2_with (go_at_call 38; refine (fits_any _ _).mono ?_; rintro e w' ⟨rfl, rfl⟩)
  go_ret
  exact ⟨by rw [H]; rfl, rfl⟩
end Go.Proofs.YtnefdpnolojojaaGreatDoor
