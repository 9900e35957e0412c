/- The walks of package journal: marks; the reference's. -/
import Derived.Test.YtokdmojbffnfgaaDoorBase
import Derived.Test.YtokdmojbffnfgaaDoorPlain38
import Derived.Laws.Bits64
import Derived.Deep.DeepFit
import Derived.IntWalk
namespace Go.Proofs.YtokdmojbffnfgaaDoor
open Go.RowKit
set_option maxRecDepth 4000

/-- a step in the walk's own words -/
theorem step_eq (m b : Nat) (hm : m < Wb.MM) (hb : b < Wb.MM) : IntKind.u64.wrap (bits .xor .u64 (m : Int) (b : Int) * 1099511628211) = (Wb.mstep m b : Int) := by
  unfold Wb.MM at hm hb
  rw [bits_xor_u64_nat m b hm hb, IntKind.wrap_u64]
  unfold Wb.mstep Wb.PP Wb.MM
  generalize m ^^^ b = x
  omega

theorem mark_any (m : Nat) (l : List UInt8) (hm : m < Wb.MM) (hl : l.length ≤ 4611686018427387904) (w : World) :
    Calls Tryd.prog 28 #[.int .u64 (m : Int), .string (Wb.S l)] w fun e w' => e = .returned (.int .u64 (Wb.mmark m l : Int)) ∧ w = w' := by
  have HM := Lib.hid hm
  clear hm
  go_enter Tryd.func28, Tryd.ntmps28
  go_wp2_with fail
  go_loop [0, 8] (fun mv iv => ∃ k : Nat, k ≤ l.length ∧ iv = .int .i64 k ∧ mv = .int .u64 (Wb.mfold m (l.take k) : Int)) (fun _ iv => l.length - (intOf iv).toNat)
  case atStart => exact ⟨0, by omega, rfl, rfl⟩
  case round =>
    obtain ⟨k, hk, rfl, rfl⟩ := hrel
    by_cases hlt : k < l.length
    · obtain ⟨z, hz⟩ : ∃ z, Wb.mfold m (l.take k) = z := ⟨_, rfl⟩
      have HZ := Lib.hid hz
      rw [hz]
      have hzl : z < Wb.MM := by rw [← hz]; exact Wb.mfold_lt HM.out _
      have HST := Lib.hid (step_eq z (Wb.byteAt l k).toNat hzl (Wb.byte_lt _))
      have HTK := Lib.hid (show l.take (k + 1) = l.take k ++ [Wb.byteAt l k] by
        rw [List.take_succ_eq_append_getElem hlt, Wb.byteAt_eq hlt])
      clear hz hzl
      have hst := HST.out
      have hbw : IntKind.u64.wrap ((Wb.byteAt l k).toNat : Int) = ((Wb.byteAt l k).toNat : Int) := by
        rw [IntKind.wrap_u64]; have := (Wb.byteAt l k).toNat_lt; omega
      go_wp2
      go_round
      case rel => exact ⟨k + 1, by omega, by go_num, by rw [HTK.out, Wb.mfold_snoc, HZ.out, Wb.mbyte, ← HST.out]⟩
      case measure => simp [intOf]; omega
    · have HE := Lib.hid (show l.take k = l from List.take_of_length_le (by omega))
      rw [HE.out]
      obtain ⟨z, hz⟩ : ∃ z, Wb.mfold m l = z := ⟨_, rfl⟩
      have HZ := Lib.hid hz
      rw [hz]
      have hzl : z < Wb.MM := by rw [← hz]; exact Wb.mfold_lt HM.out _
      have hst : IntKind.u64.wrap (bits .xor .u64 (z : Int) 10 * 1099511628211) = (Wb.mstep z 10 : Int) := step_eq z 10 hzl Wb.ten_lt
      clear hz hzl
      go_wp2
      go_ret
      exact ⟨Wb.ret_int (by rw [Wb.mmark, HZ.out]), rfl⟩

theorem first_ref (w : World) : Calls Tryd.prog 10 #[] w fun e w' => e = .returned (.int .u64 14695981039346656037) ∧ w = w' := by
  go_enter Tryd.func10, Tryd.ntmps10
  go_wp2
  go_ret
  exact ⟨rfl, rfl⟩

def mval (m : Nat) (l : List UInt8) (k : Nat) : Nat := if k ≤ l.length then Wb.mfold m (l.take k) else Wb.mmark m l
theorem mval_lt {m : Nat} (h : m < Wb.MM) (l : List UInt8) (k : Nat) : mval m l k < Wb.MM := by
  unfold mval; split
  · exact Wb.mfold_lt h _
  · exact Wb.mmark_lt _ _
theorem rmark_any (m : Nat) (l : List UInt8) (hm : m < Wb.MM) (hl : l.length ≤ 4611686018427387904) (w : World) :
    Calls Tryd.prog 13 #[.int .u64 (m : Int), .string (Wb.S l)] w fun e w' => e = .returned (.int .u64 (Wb.mmark m l : Int)) ∧ w = w' := by
  have HM := Lib.hid hm
  clear hm
  go_enter Tryd.func13, Tryd.ntmps13
  go_wp2_with fail
  go_loop [0, 5] (fun mv iv => ∃ k z : Nat, k ≤ l.length + 1 ∧ iv = .int .i64 k ∧ mv = .int .u64 (z : Int) ∧ mval m l k = z) (fun _ iv => l.length + 2 - (intOf iv).toNat)
  case atStart => exact ⟨0, m, by omega, rfl, rfl, by simp [mval, Wb.mfold]⟩
  case round =>
    obtain ⟨k, z, hk, rfl, rfl, hz⟩ := hrel
    have HZ := Lib.hid hz
    have hzl : z < Wb.MM := by rw [← hz]; exact mval_lt HM.out _ _
    clear hz
    by_cases hlt : k < l.length
    · have HST := Lib.hid (step_eq z (Wb.byteAt l k).toNat hzl (Wb.byte_lt _))
      have HN := Lib.hid (show mval m l (k + 1) = Wb.mstep z (Wb.byteAt l k).toNat by
        have h1 := HZ.out
        rw [mval, if_pos (by omega)] at h1
        rw [mval, if_pos (by omega), List.take_succ_eq_append_getElem hlt, ← Wb.byteAt_eq hlt, Wb.mfold_snoc, h1, Wb.mbyte])
      have hst := HST.out
      have hbw : IntKind.u64.wrap ((Wb.byteAt l k).toNat : Int) = ((Wb.byteAt l k).toNat : Int) := by
        rw [IntKind.wrap_u64]; have := (Wb.byteAt l k).toNat_lt; omega
      have hle : k ≤ l.length := by omega
      clear hzl
      go_wp2
      go_round
      case rel => exact ⟨k + 1, _, by omega, by go_num, by rw [← HST.out], HN.out⟩
      case measure => simp [intOf]; omega
    · by_cases hle : k ≤ l.length
      · have hst : IntKind.u64.wrap (bits .xor .u64 (z : Int) 10 * 1099511628211) = (Wb.mstep z 10 : Int) := step_eq z 10 hzl Wb.ten_lt
        have HN := Lib.hid (show mval m l (k + 1) = Wb.mstep z 10 by
          have h1 := HZ.out
          rw [mval, if_pos (by omega), List.take_of_length_le (by omega)] at h1
          rw [mval, if_neg (by omega), Wb.mmark, h1])
        have HST := Lib.hid hst
        clear hzl
        go_wp2
        go_round
        case rel => exact ⟨k + 1, _, by omega, by go_num, rfl, HN.out⟩
        case measure => simp [intOf]; omega
      · have HE := Lib.hid (show Wb.mmark m l = z by have h1 := HZ.out; rw [mval, if_neg hle] at h1; exact h1)
        clear hzl
        go_wp2
        go_ret
        exact ⟨Wb.ret_int (by rw [HE.out]), rfl⟩

end Go.Proofs.YtokdmojbffnfgaaDoor
