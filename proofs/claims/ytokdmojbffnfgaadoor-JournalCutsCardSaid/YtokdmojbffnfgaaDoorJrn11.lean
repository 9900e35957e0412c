/- The reference's Line, Text; the law's example. -/
import Derived.Test.YtokdmojbffnfgaaDoorJrn10
namespace Go.Proofs.YtokdmojbffnfgaaDoor
open Go.RowKit
set_option maxRecDepth 4000

theorem rdig1 (k : Nat) (hn : k ≤ 1000000000) (w : World) :
    Calls Tryd.prog 45 #[.int .u64 ((k : Int) + 1), .int .u64 10, .int .i64 1] w fun e w' => e = .returned (.string (Wb.S (Wb.digs (k + 1)))) ∧ Wb.Ext w w' := rdig10 (k + 1) (by omega) w

set_option maxHeartbeats 1000000 in
theorem rline_any (k m : Nat) (a : List UInt8) (hk : k ≤ 90000) (ha : a.length ≤ 100000) (hm : m < Wb.MM) (w : World) :
    Calls Tryd.prog 32 #[.int .i64 ((k : Int) + 1), .int .u64 (m : Int), .string (Wb.S a)] w fun e w' => e = .returned (.string (Wb.S (Wb.lineN (k + 1) m a ++ [10]))) ∧ Wb.Ext w w' := by
  obtain ⟨M2, hM2⟩ : ∃ M2, Wb.mmark m a = M2 := ⟨_, rfl⟩
  have HM2 := Lib.hid hM2
  have HM := Lib.hid hm
  have hM2l : M2 < Wb.MM := by rw [← hM2]; exact Wb.mmark_lt _ _
  have HM2L := Lib.hid hM2l
  have hd1 := Wb.digs_length 6 (k + 1) (by omega)
  have hd2 := Wb.digs_length 6 a.length (by omega)
  have hd3 : (Wb.hex M2).length ≤ 16 := by rw [Wb.hex, Wb.hexN_length]; omega
  obtain ⟨x1, hx1⟩ : ∃ x, Wb.digs (k + 1) = x := ⟨_, rfl⟩
  obtain ⟨x2, hx2⟩ : ∃ x, Wb.digs a.length = x := ⟨_, rfl⟩
  obtain ⟨x3, hx3⟩ : ∃ x, Wb.hex M2 = x := ⟨_, rfl⟩
  have HE := Lib.hid (show x1 ++ 32 :: (x2 ++ 32 :: (x3 ++ 32 :: (a ++ [10]))) = Wb.lineN (k + 1) m a ++ [10] by
    rw [Wb.lineN, hM2, Wb.headN, hx1, hx2, hx3]; simp)
  rw [hx1] at hd1
  rw [hx2] at hd2
  rw [hx3] at hd3
  have HX1 := Lib.hid hx1
  have HX2 := Lib.hid hx2
  have HX3 := Lib.hid hx3
  have e1 : IntKind.u64.wrap ((k : Int) + 1) = (k : Int) + 1 := by rw [IntKind.wrap_u64]; omega
  have e2 : IntKind.u64.wrap (a.length : Int) = (a.length : Int) := by rw [IntKind.wrap_u64]; omega
  clear hM2 hm hM2l hx1 hx2 hx3
  go_enter Tryd.func32, Tryd.ntmps32
  go_wp2_with fail
  go_fit (rdig1 k (by omega) _); rintro e w1 ⟨rfl, hb1⟩
  rw [HX1.out]
  go_wp2_with fail
  go_fit (rdig10 a.length (by omega) _); rintro e w2 ⟨rfl, hb2⟩
  rw [HX2.out]
  go_wp2_with fail
  go_fit (rmark_any m a HM.out (by omega) _); rintro e w3 ⟨rfl, rfl⟩
  rw [HM2.out]
  go_wp2_with fail
  go_fit (rdig16 M2 HM2L.out _); rintro e w4 ⟨rfl, hb4⟩
  rw [HX3.out]
  go_wp2
  go_ret
  exact ⟨Wb.ret_str (by rw [← HE.out]), by (repeat' (first | (with_reducible assumption) | (with_reducible exact Wb.Ext.refl _) | (with_reducible refine Wb.Ext.drew ?_) | (with_reducible refine Wb.Ext.drewN ?_ _) | (with_reducible refine Wb.Ext.alloc ?_ _) | (with_reducible refine Wb.Ext.trans ?_ (by assumption))))⟩

set_option maxHeartbeats 1000000 in
theorem rtext_any (v : Value) (A : List (List UInt8)) (w : World) (hv : Strs1 w v A) (hn : A.length ≤ 50000) (hs : ∀ s ∈ A, s.length ≤ 50000) (hT : (Wb.textL A).length ≤ 1000000000) :
    Calls Tryd.prog 19 #[v] w fun e w' => e = .returned (.string (Wb.S (Wb.textL A))) ∧ Wb.Ext w w' := by
  obtain ⟨a, c, rfl⟩ := hv.shape
  have HV := Lib.hid hv
  have HS := Lib.hid hs
  have HTX := Lib.hid hT
  clear hv hs hT
  go_enter Tryd.func19, Tryd.ntmps19
  go_wp2_with fail
  go_fit (first_ref _); rintro e w' ⟨rfl, rfl⟩
  go_wp2_with fail
  go_loopw [3, 4, 5] (fun sv mv iv wr => ∃ (k M : Nat) (t : List UInt8), k ≤ A.length ∧ iv = .int .i64 k ∧ mv = .int .u64 (M : Int) ∧ sv = .string (Wb.S t) ∧ Wb.marksL Wb.mfirst (A.take k) = M ∧ Wb.textL (A.take k) = t ∧ Wb.Ext w wr) (fun _ _ iv _ => A.length - (intOf iv).toNat)
  case atStart => exact ⟨0, 14695981039346656037, [], by omega, rfl, rfl, rfl, rfl, rfl, by (repeat' (first | (with_reducible assumption) | (with_reducible exact Wb.Ext.refl _) | (with_reducible refine Wb.Ext.drew ?_) | (with_reducible refine Wb.Ext.drewN ?_ _) | (with_reducible refine Wb.Ext.alloc ?_ _) | (with_reducible refine Wb.Ext.trans ?_ (by assumption))))⟩
  case round =>
    obtain ⟨k, M, t, hk, rfl, rfl, rfl, hM, ht, hext⟩ := hrel
    have HM := Lib.hid hM
    have HTT := Lib.hid ht
    clear hM ht
    by_cases hlt : k < A.length
    · obtain ⟨s, hs⟩ := Wb.get_ex hlt
      have hsl := HS.out s (List.mem_of_getElem? hs)
      obtain ⟨b, off, rfl, hcells⟩ := (HV.out.ext hext).opened (tne hlt)
      have hc0 := hcells k s hs 0 _ rfl
      simp only [Nat.mul_one, Nat.add_zero] at hc0
      have HC0 := Lib.hid hc0
      have hML : M < Wb.MM := by rw [← HM.out]; exact Wb.marksL_lt Wb.mfirst_lt _
      have htk : A.take (k + 1) = A.take k ++ [s] := by
        obtain ⟨h1, h2⟩ := List.getElem?_eq_some_iff.1 hs
        rw [List.take_succ_eq_append_getElem h1, h2]
      obtain ⟨M2, hM2⟩ : ∃ M2, Wb.mmark M s = M2 := ⟨_, rfl⟩
      have HM2 := Lib.hid hM2
      have hM3 : Wb.marksL Wb.mfirst (A.take (k + 1)) = M2 := by rw [htk, Wb.marksL_snoc, HM.out, hM2]
      have htx : Wb.textL (A.take (k + 1)) = t ++ (Wb.lineN (k + 1) M s ++ [10]) := by
        rw [htk, Wb.textL_snoc, List.length_take, Nat.min_eq_left hk, HM.out, HTT.out]
      have hle : (Wb.textL (A.take (k + 1))).length ≤ 1000000000 := Nat.le_trans (Wb.textL_take A (k + 1)) HTX.out
      have hll : (Wb.lineN (k + 1) M s ++ [10]).length + t.length ≤ 1000000000 := by rw [htx, List.length_append] at hle; omega
      obtain ⟨ln, hln⟩ : ∃ ln, Wb.lineN (k + 1) M s ++ [10] = ln := ⟨_, rfl⟩
      rw [hln] at htx hll
      have HLN := Lib.hid hln
      have HM3 := Lib.hid hM3
      have HTK := Lib.hid htx
      have HML := Lib.hid hML
      have hki : (k : Int) < A.length := by omega
      clear hM2 hM3 htx hle hML htk hs hln hcells
      go_wp2_with fail
      go_fit (rline_any k M s (by omega) (by omega) HML.out _); rintro e w2 ⟨rfl, hb2⟩
      rw [HLN.out]
      have hc0 := hb2.keep HC0.out
      have hx2 := hext.trans hb2
      go_wp2_with fail
      go_fit (rmark_any M s HML.out (by omega) _); rintro e w3 ⟨rfl, rfl⟩
      rw [HM2.out]
      clear hc0
      go_wp2
      go_roundw
      case rel => exact ⟨k + 1, M2, _, by omega, by go_num, rfl, rfl, HM3.out, HTK.out, hx2⟩
      case measure => simp [intOf]; omega
    · have HE := Lib.hid (show A.take k = A from List.take_of_length_le (by omega))
      rw [HE.out] at HTT
      go_wp2
      go_ret
      exact ⟨Wb.ret_str HTT.out.symm, by (repeat' (first | (with_reducible assumption) | (with_reducible exact Wb.Ext.refl _) | (with_reducible refine Wb.Ext.drew ?_) | (with_reducible refine Wb.Ext.drewN ?_ _) | (with_reducible refine Wb.Ext.alloc ?_ _) | (with_reducible refine Wb.Ext.trans ?_ (by assumption))))⟩

/-! ### the example -/
theorem ex_text : ∃ x : List UInt8, x.length = 16 ∧ Wb.textL [[97]] = [49, 32, 49, 32] ++ (x ++ [32, 97, 10]) := by
  refine ⟨Wb.hex (Wb.mmark Wb.mfirst [97]), by rw [Wb.hex, Wb.hexN_length], ?_⟩
  rw [Wb.textL, Wb.textK_cons, Wb.textK_nil, Wb.lineN, Wb.headN]
  generalize Wb.hex (Wb.mmark Wb.mfirst [97]) = x
  have h1 : Wb.digs (0 + 1) = [49] := by rw [Wb.digs_lt (by decide)]; rfl
  have h2 : Wb.digs ([97] : List UInt8).length = [49] := by rw [Wb.digs_lt (by decide)]; rfl
  rw [h1, h2]; simp

set_option maxHeartbeats 1000000 in
theorem awake38_any (w : World) (ht : Tab10 w) :
    Calls Tryd.prog 8 #[] w fun e w' => e = .returned (.bool true) ∧ Wb.Ext w w' := by
  have HT := Lib.hid ht
  obtain ⟨A, hA⟩ : ∃ A : List (List UInt8), [] ++ [[97]] = A := ⟨_, rfl⟩
  obtain ⟨x, hx, hxt⟩ := ex_text
  obtain ⟨t, htt⟩ : ∃ t, Wb.textL A = t := ⟨_, rfl⟩
  have htx : t = [49, 32, 49, 32] ++ (x ++ [32, 97, 10]) := by rw [← htt, ← hxt, ← hA]; rfl
  have hlen : t.length = 23 := by rw [htx]; simp [hx]
  have HA := Lib.hid hA
  have HTT := Lib.hid htt
  have HLT := Lib.hid hlen
  have HP := Lib.hid (show Lib.hasPrefix (Wb.S t).data.toList (Wb.S [49, 32, 49, 32]).data.toList = true by
    rw [htx]; simp [Lib.hasPrefix, Wb.S])
  have HS := Lib.hid (show Lib.hasSuffix (Wb.S t).data.toList (Wb.S [32, 97, 10]).data.toList = true by
    rw [htx]; simp [Lib.hasSuffix, Wb.S]; exact ⟨49 :: 32 :: 49 :: 32 :: x, by simp⟩)
  have hl23 : (t.length : Int) = 23 := by omega
  clear ht hA htt htx hxt hx
  go_enter Tryd.func8, Tryd.ntmps8
  go_wp2_with fail
  have hz : LogV w (.agg #[.slice none 0 0, .int .u64 0]) [] := LogV.zero
  go_fit (append_ok (.agg #[.slice none 0 0, .int .u64 0]) [] [97] _ hz (by simp) (by simp) ⟨by simp, by simp, by decide, by decide⟩); rintro e w1 ⟨u, rfl, hu, hb1⟩
  rw [HA.out] at hu
  obtain ⟨s, m, rfl, hr, hm⟩ := hu
  obtain ⟨ao, c, rfl, _, _, _⟩ := hr.shape
  have HL : Hid (LogV w1 (.agg #[.slice ao A.length c, .int .u64 (m : Int)]) A) := ⟨_, _, rfl, hr, hm⟩
  clear hr hm hz
  go_wp2_with fail
  go_fit (text_any _ A _ (HL.out.ext (by (repeat' (first | (with_reducible assumption) | (with_reducible exact Wb.Ext.refl _) | (with_reducible refine Wb.Ext.drew ?_) | (with_reducible refine Wb.Ext.drewN ?_ _) | (with_reducible refine Wb.Ext.alloc ?_ _) | (with_reducible refine Wb.ext_set ?_ (by first | assumption | (simp; done) | (simp; omega) | omega) _) | (with_reducible refine Wb.Ext.trans ?_ (by assumption)))))) (by rw [← HA.out]; simp) (by rw [← HA.out]; simp) (by rw [HTT.out, HLT.out]; omega) (HT.out.ext (by (repeat' (first | (with_reducible assumption) | (with_reducible exact Wb.Ext.refl _) | (with_reducible refine Wb.Ext.drew ?_) | (with_reducible refine Wb.Ext.drewN ?_ _) | (with_reducible refine Wb.Ext.alloc ?_ _) | (with_reducible refine Wb.ext_set ?_ (by first | assumption | (simp; done) | (simp; omega) | omega) _) | (with_reducible refine Wb.Ext.trans ?_ (by assumption))))))); rintro e w2 ⟨rfl, hb2⟩
  rw [HTT.out]
  go_wp2_with fail
  go_fit (Tryd.strings_HasPrefix (Wb.S t) (Wb.S [49, 32, 49, 32]) _); rintro e w' ⟨rfl, rfl⟩
  rw [HP.out]
  go_wp2_with fail
  go_fit (Tryd.strings_HasSuffix (Wb.S t) (Wb.S [32, 97, 10]) _ (by rw [Wb.S_size, HLT.out]; omega)); rintro e w' ⟨rfl, rfl⟩
  rw [HS.out]
  go_wp2
  go_ret
  exact ⟨rfl, by (repeat' (first | (with_reducible assumption) | (with_reducible exact Wb.Ext.refl _) | (with_reducible refine Wb.Ext.drew ?_) | (with_reducible refine Wb.Ext.drewN ?_ _) | (with_reducible refine Wb.Ext.alloc ?_ _) | (with_reducible refine Wb.ext_set ?_ (by first | assumption | (simp; done) | (simp; omega) | omega) _) | (with_reducible refine Wb.Ext.trans ?_ (by assumption))))⟩

end Go.Proofs.YtokdmojbffnfgaaDoor
