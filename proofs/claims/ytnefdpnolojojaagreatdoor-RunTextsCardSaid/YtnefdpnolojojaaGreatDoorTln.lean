/- Tln -/
import Derived.Test.YtnefdpnolojojaaGreatDoorMTl
import Derived.Test.YtnefdpnolojojaaGreatDoorTxT
namespace Go.Proofs.YtnefdpnolojojaaGreatDoor
open Go.RowKit Go.Sort Go.Lib
set_option maxRecDepth 8000
attribute [local go_sem ↓] Go.wp_at_zero Go.wp_at_succ
theorem line_words (h : List UInt8) (x : Wb.Ln) (out : List UInt8) : out ++ (h ++ 32 :: (Wb.itoaZ x.part ++ 32 :: (x.code ++ 32 :: (Wb.text x.cents ++ [10])))) = out ++ (h ++ 32 :: (Wb.lineW x ++ [10])) := by simp [Wb.lineW]
set_option maxHeartbeats 100000000 in
theorem lines31_any (h : List UInt8) (y i : Int) (v : Value) (L : List Wb.Ln) (w : World) (hL : Lns w v L) (hok : ∀ x ∈ L, Wb.LnOk x) (hn : L.length ≤ 1000) (hh : h.length ≤ 60) :
  Calls Tryz.prog 14 #[.string (Wb.S h), .agg #[.int .i64 y, .int .i64 i, v]] w fun e w' => e = .returned (.string (Wb.S (Wb.linesT h L))) ∧ Wb.Ext w w' := by
 obtain ⟨va, vc, rfl⟩ := hL.shape
 have HL := Lib.hid hL
 have HOK := Lib.hid hok
 clear hL hok
 obtain ⟨TX, hTX⟩ : ∃ TX, Wb.linesT h L = TX := ⟨_, rfl⟩
 rw [hTX]
 have HTX := Lib.hid hTX
 clear hTX
 go_enter Tryz.func14, Tryz.ntmps14
 go_upto_region 2 with (fail)
 refine Wb.wp_at fun W1 hW1 => ?_
 obtain ⟨Z, hZ⟩ : ∃ Z, w.heap.size = Z := ⟨_, rfl⟩
 have z2 : W1.cell? ⟨Z, 2, none⟩ = some (.slice va L.length vc) := by rw [hW1, ← hZ]; simp [go_sem]
 have HX1 := Lib.hid (show Wb.Ext w W1 by rw [hW1]; (repeat' (first | (with_reducible assumption) | (with_reducible exact Wb.Ext.refl _) | (with_reducible refine Wb.Ext.drew ?_) | (with_reducible refine Wb.Ext.drewN ?_ _) | (with_reducible refine Wb.Ext.alloc ?_ _) | (with_reducible refine Wb.ext_set ?_ (by first | assumption | (simp; done) | (simp; omega) | omega) _) | (with_reducible refine Wb.Ext.trans ?_ (by assumption)))))
 rw [hZ]
 clear hW1 hZ
 go_wp2_with fail
 go_loopw [5, 6] (fun ov iv wr => ∃ j : Nat, j ≤ L.length ∧ ov = .string (Wb.S (Wb.linesT h (L.take j))) ∧ iv = .int .i64 j ∧ Hid (Wb.Ext W1 wr)) (fun _ iv _ => L.length - (intOf iv).toNat)
 case atStart => exact ⟨0, Nat.zero_le _, rfl, rfl, Lib.hid (.refl _)⟩
 case round =>
  obtain ⟨j, hj, rfl, rfl, HXR⟩ := hrel
  obtain ⟨wA, hwz⟩ : ∃ z, z = wr := ⟨_, rfl⟩
  subst hwz
  have y2 := HXR.out.keep z2
  by_cases hlt : j < L.length
  case neg =>
   obtain rfl : j = L.length := by omega
   have d1 : decide ((L.length : Int) < (L.length : Int)) = false := by simp
   have n1 : ¬ (L.length : Int) < (L.length : Int) := by omega
   have HXE := Lib.hid (HX1.out.trans HXR.out)
   clear hlt hj
   rw [List.take_of_length_le (Nat.le_refl _), HTX.out]
   go_wp2
   go_ret
   exact ⟨rfl, HXE.out⟩
  obtain ⟨x, hx⟩ := Wb.get_ex hlt
  obtain ⟨lb, lo, hlb, hlc⟩ := HL.out.opened (by rintro h; rw [h] at hx; simp at hx)
  obtain rfl : va = some ⟨lb, lo, none⟩ := hlb
  have HXA := Lib.hid (HX1.out.trans HXR.out)
  have l0 := HXA.out.keep (hlc j x hx).1
  have l1 := HXA.out.keep (hlc j x hx).2.1
  have l2 := HXA.out.keep (hlc j x hx).2.2
  have hxo := HOK.out x (List.mem_of_getElem? hx)
  have HXX := Lib.hid hx
  have hji : (j : Int) < (L.length : Int) := by omega
  have d1 : decide ((j : Int) < (L.length : Int)) = true := decide_eq_true hji
  obtain ⟨OUT, hOUT⟩ : ∃ OUT, Wb.linesT h (L.take j) = OUT := ⟨_, rfl⟩
  have ho : OUT.length ≤ 1000000 := by
   have := linesT_take hh HOK.out hn j
   rw [hOUT] at this; omega
  rw [hOUT]
  have HOUT := Lib.hid hOUT
  clear hx hlc hlt hOUT
  go_upto_region 6 with (fail)
  refine Wb.wp_at fun wB hwB => ?_
  obtain ⟨Y, hY⟩ : ∃ Y, wA.heap.size = Y := ⟨_, rfl⟩
  have b0 : ∀ x2, Wb.Ext wB x2 → x2.cell? ⟨Y, 0, none⟩ = some (.int .i64 x.part) := fun x2 e => e.keep (by rw [hwB, ← hY]; simp [go_sem])
  have b1 : ∀ x2, Wb.Ext wB x2 → x2.cell? ⟨Y, 1, none⟩ = some (.string (Wb.S x.code)) := fun x2 e => e.keep (by rw [hwB, ← hY]; simp [go_sem])
  have b2 : ∀ x2, Wb.Ext wB x2 → x2.cell? ⟨Y, 2, none⟩ = some (.int .i64 x.cents) := fun x2 e => e.keep (by rw [hwB, ← hY]; simp [go_sem])
  have HXB := Lib.hid (show Wb.Ext wA wB by rw [hwB]; (repeat' (first | (with_reducible assumption) | (with_reducible exact Wb.Ext.refl _) | (with_reducible refine Wb.Ext.drew ?_) | (with_reducible refine Wb.Ext.drewN ?_ _) | (with_reducible refine Wb.Ext.alloc ?_ _) | (with_reducible refine Wb.ext_set ?_ (by first | assumption | (simp; done) | (simp; omega) | omega) _) | (with_reducible refine Wb.Ext.trans ?_ (by assumption)))))
  simp only [hY]
  clear hwB hY l0 l1 l2
  refine Code.wp_mono (OnEndX.imp ?_) (tl6 _ _ _ _ _ _ _ _ _ _ _ _ _ _ _ _ _ _ _ _ _ _ _ _ _ _ _ _ _ _ _ _ _ _ _ _ _ wB Y x.part x.cents x.code h OUT b0 b1 b2 hxo.1 hxo.2 hh ho)
  rintro a' wC ⟨zt20, zt21, zt22, zt23, zt24, zt25, zt26, zt27, zt28, zt29, zt30, zt31, zt32, zt33, zt34, zt35, zt36, zt37, rfl, hxc⟩
  rw [line_words h x OUT]
  have HO := Lib.hid (show OUT ++ (h ++ 32 :: (Wb.lineW x ++ [10])) = Wb.linesT h (L.take (j + 1)) by rw [Wb.linesT_snoc HXX.out, HOUT.out])
  rw [HO.out]
  have HXC := Lib.hid ((HXR.out.trans HXB.out).trans hxc)
  clear hxc b0 b1 b2
  (try dsimp only)
  go_wp2
  go_roundw
  case rel => exact ⟨j + 1, by omega, rfl, by go_num, HXC⟩
  case measure => first | (simp [intOf]; done) | (simp [intOf]; omega)
end Go.Proofs.YtnefdpnolojojaaGreatDoor
