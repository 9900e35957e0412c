/- The reference's Wrong; head. -/
import Derived.Test.YtokdmojbffnfgaaDoorJrn4
import Derived.Test.YtokdmojbffnfgaaDoorPer0
namespace Go.Proofs.YtokdmojbffnfgaaDoor
open Go.RowKit
set_option maxRecDepth 4000

set_option maxRecDepth 100000 in
theorem rwrong_any (n : Nat) (a : List UInt8) (w : World) (ha : a.length ≤ 4611686018427387904) :
    Calls Tryd.prog 12 #[.int .i64 n, .string (Wb.S a)] w fun e w' => e = .returned (.int .i64 (wrongOf n a)) ∧ w = w' := by
  by_cases h0 : a = []
  · subst h0
    have H := Lib.hid (show wrongOf n [] = 10 from rfl)
    go_enter Tryd.func12, Tryd.ntmps12
    go_wp2
    go_ret
    exact ⟨Wb.ret_int H.out.symm, rfl⟩
  have e0 : (a == []) = false := by simpa using h0
  have e0' : a.isEmpty = false := by simpa using h0
  by_cases h1 : 4096 < a.length
  · have H := Lib.hid (show wrongOf n a = 4 by rw [wrongOf, if_neg h0, if_pos h1])
    go_enter Tryd.func12, Tryd.ntmps12
    go_wp2
    go_ret
    exact ⟨Wb.ret_int H.out.symm, rfl⟩
  have e1 : decide (4096 < (a.length : Int)) = false := by simp; omega
  have e1' : decide (4096 < a.length) = false := by simp; omega
  have HW := Lib.hid (show wrongOf n a = if (10 : UInt8) ∈ a then 3 else if 8192 ≤ n then 5 else 0 by rw [wrongOf, if_neg h0, if_neg h1])
  clear h0 h1
  go_enter Tryd.func12, Tryd.ntmps12
  go_wp2_with fail
  go_loop [5] (fun iv => ∃ k : Nat, k ≤ a.length ∧ iv = .int .i64 k ∧ (10 : UInt8) ∉ a.take k) (fun iv => a.length - (intOf iv).toNat)
  case atStart => exact ⟨0, by omega, rfl, by simp⟩
  case round =>
    obtain ⟨k, hk, rfl, hno⟩ := hrel
    have HNO := Lib.hid hno
    clear hno
    by_cases hlt : k < a.length
    · have HB := Lib.hid (Wb.byteAt_eq hlt)
      cases hb : (((Wb.byteAt a k).toNat : Int) == 10)
      · have HN := Lib.hid (show (10 : UInt8) ∉ a.take (k + 1) by
          rw [List.take_succ_eq_append_getElem hlt, List.mem_append, List.mem_singleton]
          rintro (h | h)
          · exact HNO.out h
          · rw [← HB.out] at h
            rw [← h] at hb
            exact absurd hb (by decide))
        have hb2 : ((Wb.byteAt a k).toNat == 10) = false := by simp at hb; simp; omega
        go_wp2
        go_round
        case rel => exact ⟨k + 1, by omega, by go_num, HN.out⟩
        case measure => simp [intOf]; omega
      · have HE := Lib.hid (show wrongOf n a = 3 by
          rw [HW.out, if_pos]
          have h1 : (Wb.byteAt a k).toNat = 10 := by simp at hb; omega
          have h2 : Wb.byteAt a k = 10 := UInt8.toNat_inj.1 h1
          rw [HB.out] at h2
          rw [← h2]; exact List.getElem_mem hlt)
        go_wp2
        go_ret
        exact ⟨Wb.ret_int HE.out.symm, rfl⟩
    · have HM := Lib.hid (show (10 : UInt8) ∉ a by have := HNO.out; rwa [List.take_of_length_le (by omega)] at this)
      by_cases h3 : 8192 ≤ n
      · have HE := Lib.hid (show wrongOf n a = 5 by rw [HW.out, if_neg HM.out, if_pos h3])
        go_wp2
        go_ret
        exact ⟨Wb.ret_int HE.out.symm, rfl⟩
      · have e3 : decide (8192 ≤ (n : Int)) = false := by simp; omega
        have e3' : decide (8192 ≤ n) = false := by simp; omega
        have HE := Lib.hid (show wrongOf n a = 0 by rw [HW.out, if_neg HM.out, if_neg h3])
        go_wp2
        go_ret
        exact ⟨Wb.ret_int HE.out.symm, rfl⟩

/-- what stands ahead of an act -/
def headOf (n : Int) (len m : Nat) : List UInt8 := itoa n ++ 32 :: (itoa len ++ 32 :: (Wb.hex m ++ [32]))
theorem head_any (n : Nat) (a : List UInt8) (m : Nat) (hn : n ≤ 100000) (ha : a.length ≤ 100000) (hm : m < Wb.MM) (w : World) (ht : Tab10 w) :
    Calls Tryd.prog 30 #[.int .i64 n, .string (Wb.S a), .int .u64 (m : Int)] w fun e w' => e = .returned (.string (Wb.S (headOf n a.length m))) ∧ Wb.Ext w w' := by
  have HT := Lib.hid ht
  have HM := Lib.hid hm
  have hl1 := itoa_len n (by omega)
  have hl2 := itoa_len a.length (by omega)
  have hl3 : (Wb.hex m).length = 16 := Wb.hexN_length 16 m
  have HH := Lib.hid hl3
  have hl4 : (Wb.hex m).length ≤ 16 := by omega
  clear ht hm hl3
  go_enter Tryd.func30, Tryd.ntmps30
  go_wp2_with fail
  refine (itoa_any n (by omega) _ (HT.out.ext (by (repeat' (first | (with_reducible assumption) | (with_reducible exact Wb.Ext.refl _) | (with_reducible refine Wb.Ext.drew ?_) | (with_reducible refine Wb.Ext.drewN ?_ _) | (with_reducible refine Wb.Ext.alloc ?_ _) | (with_reducible refine Wb.Ext.trans ?_ (by assumption))))))).mono ?_; rintro e w1 ⟨rfl, hb1⟩
  go_wp2_with fail
  refine (itoa_any a.length (by omega) _ (HT.out.ext (by (repeat' (first | (with_reducible assumption) | (with_reducible exact Wb.Ext.refl _) | (with_reducible refine Wb.Ext.drew ?_) | (with_reducible refine Wb.Ext.drewN ?_ _) | (with_reducible refine Wb.Ext.alloc ?_ _) | (with_reducible refine Wb.Ext.trans ?_ (by assumption))))))).mono ?_; rintro e w2 ⟨rfl, hb2⟩
  go_wp2_with fail
  refine (hex_any m HM.out _).mono ?_; rintro e w3 ⟨rfl, hb3⟩
  go_wp2
  go_ret
  exact ⟨Wb.ret_str (by simp [headOf]), by (repeat' (first | (with_reducible assumption) | (with_reducible exact Wb.Ext.refl _) | (with_reducible refine Wb.Ext.drew ?_) | (with_reducible refine Wb.Ext.drewN ?_ _) | (with_reducible refine Wb.Ext.alloc ?_ _) | (with_reducible refine Wb.Ext.trans ?_ (by assumption))))⟩

end Go.Proofs.YtokdmojbffnfgaaDoor
