/- MSl -/
import Derived.Test.YtnefdpnolojojaaGreatDoorSlip2
namespace Go.Proofs.YtnefdpnolojojaaGreatDoor
open Go.RowKit
set_option maxRecDepth 4000
theorem sum_any27 (y i : Int) (v : Value) (l : List Wb.Ln) (f t : Int) (w : World) (hl : Lns w v l) (hf : Wb.Cfit l) (hn : l.length ≤ 448) :
  Calls Tryz.prog 105 #[.agg #[.int .i64 y, .int .i64 i, v], .int .i64 f, .int .i64 t] w fun e w' => e = .returned (.int .i64 (Wb.sumOf f t l)) ∧ Wb.Ext w w' := by
 obtain ⟨a, cap, rfl⟩ := hl.shape
 have HL := Lib.hid hl; clear hl
 have HF := Lib.hid hf; clear hf
 go_enter Tryz.func105, Tryz.ntmps105
 go_wp2
 go_loopw [7, 13] (fun s iv wr => ∃ (k : Nat) (c : Int), k ≤ l.length ∧ iv = .int .i64 k ∧ s = .int .i64 c ∧ c = Wb.sumOf f t (l.take k) ∧ Wb.Ext (w.alloc (.cells #[.int .i64 y, .int .i64 i, .slice a l.length cap] 50)) wr) (fun _ iv _ => l.length - (intOf iv).toNat)
 case atStart => exact ⟨0, 0, by omega, rfl, rfl, rfl, by (repeat' (first | (with_reducible assumption) | (with_reducible exact Wb.Ext.refl _) | (with_reducible refine Wb.Ext.drew ?_) | (with_reducible refine Wb.Ext.drewN ?_ _) | (with_reducible refine Wb.Ext.alloc ?_ _) | (with_reducible refine Wb.Ext.trans ?_ (by assumption))))⟩
 case round =>
  obtain ⟨k, c, hk, rfl, rfl, hc, hext⟩ := hrel
  have hcb := Wb.sumOf_take_bound (f := f) (t := t) HF.out hn k
  rw [← hc] at hcb
  have HCC := Lib.hid hc; clear hc
  have hew : Wb.Ext w wr := by (repeat' (first | (with_reducible assumption) | (with_reducible exact Wb.Ext.refl _) | (with_reducible refine Wb.Ext.drew ?_) | (with_reducible refine Wb.Ext.drewN ?_ _) | (with_reducible refine Wb.Ext.alloc ?_ _) | (with_reducible refine Wb.Ext.trans ?_ (by assumption))))
  have hsz := hext.size
  have hz1 : w.heap.size < wr.heap.size := by simp at hsz; omega
  obtain ⟨hce, hfe⟩ := hext.cells
  by_cases hlt : k < l.length
  ·obtain ⟨x, hx⟩ := Wb.get_ex hlt
   obtain ⟨b, off, rfl, hcells⟩ := (HL.out.ext hew).opened (ne_of_lt hlt)
   obtain ⟨hcp, hcx, hcn⟩ := hcells k x hx
   clear hcells
   have hxb := HF.out x (List.mem_of_getElem? hx)
   have HT := Lib.hid (Wb.sumOf_snoc (f := f) (t := t) hx)
   clear hx
   by_cases h1 : f ≤ x.part
   ·by_cases h2 : x.part ≤ t
    ·have HI := Lib.hid (show f ≤ x.part ∧ x.part ≤ t from ⟨h1, h2⟩)
     go_wp2
     go_roundw
     case rel => exact ⟨k + 1, _, by omega, by go_num, rfl, by rw [HT.out, if_pos HI.out, HCC.out], by (repeat' (first | (with_reducible assumption) | (with_reducible exact Wb.Ext.refl _) | (with_reducible refine Wb.Ext.drew ?_) | (with_reducible refine Wb.Ext.drewN ?_ _) | (with_reducible refine Wb.Ext.alloc ?_ _) | (with_reducible refine Wb.Ext.trans ?_ (by assumption))))⟩
     case measure => simp [intOf]; omega
    ·have d2 : decide (x.part ≤ t) = false := by simpa using h2
     have HI := Lib.hid (show ¬ (f ≤ x.part ∧ x.part ≤ t) by omega)
     go_wp2
     go_roundw
     case rel => exact ⟨k + 1, _, by omega, by go_num, rfl, by rw [HT.out, if_neg HI.out, Int.add_zero, HCC.out], by (repeat' (first | (with_reducible assumption) | (with_reducible exact Wb.Ext.refl _) | (with_reducible refine Wb.Ext.drew ?_) | (with_reducible refine Wb.Ext.drewN ?_ _) | (with_reducible refine Wb.Ext.alloc ?_ _) | (with_reducible refine Wb.Ext.trans ?_ (by assumption))))⟩
     case measure => simp [intOf]; omega
   ·have d1 : decide (f ≤ x.part) = false := by simpa using h1
    have HI := Lib.hid (show ¬ (f ≤ x.part ∧ x.part ≤ t) by omega)
    go_wp2
    go_roundw
    case rel => exact ⟨k + 1, _, by omega, by go_num, rfl, by rw [HT.out, if_neg HI.out, Int.add_zero, HCC.out], by (repeat' (first | (with_reducible assumption) | (with_reducible exact Wb.Ext.refl _) | (with_reducible refine Wb.Ext.drew ?_) | (with_reducible refine Wb.Ext.drewN ?_ _) | (with_reducible refine Wb.Ext.alloc ?_ _) | (with_reducible refine Wb.Ext.trans ?_ (by assumption))))⟩
    case measure => simp [intOf]; omega
  ·have HR := Lib.hid (show Wb.sumOf f t l = c by rw [HCC.out, List.take_of_length_le (by omega)])
   go_wp2
   go_ret
   exact ⟨by rw [HR.out]; rfl, by (repeat' (first | (with_reducible assumption) | (with_reducible exact Wb.Ext.refl _) | (with_reducible refine Wb.Ext.drew ?_) | (with_reducible refine Wb.Ext.drewN ?_ _) | (with_reducible refine Wb.Ext.alloc ?_ _) | (with_reducible refine Wb.Ext.trans ?_ (by assumption))))⟩
end Go.Proofs.YtnefdpnolojojaaGreatDoor
namespace Go.Proofs.YtnefdpnolojojaaGreatDoor
open Go.RowKit
set_option maxRecDepth 4000
abbrev Five (x : Int × Int × Int × Int × Int) : Ending := .returned (.tuple #[.int .i64 x.1, .int .i64 x.2.1, .int .i64 x.2.2.1, .int .i64 x.2.2.2.1, .int .i64 x.2.2.2.2])
theorem box3 (w : World) (x y z : Value) (T : TypeId) {w1 : World} (h : Wb.Ext (w.alloc (.cells #[x, y, z] T)) w1) :
  w1.cell? ⟨w.heap.size, 0, none⟩ = some x ∧ w1.cell? ⟨w.heap.size, 1, none⟩ = some y ∧ w1.cell? ⟨w.heap.size, 2, none⟩ = some z :=
 ⟨h.keep (by simp [go_sem]), h.keep (by simp [go_sem]), h.keep (by simp [go_sem])⟩
set_option maxHeartbeats 1000000 in
theorem sums_any (y i : Int) (v : Value) (l : List Wb.Ln) (w : World) (hl : Lns w v l) (hs : Sized l) :
  Calls Tryz.prog 73 #[.agg #[.int .i64 y, .int .i64 i, v]] w fun e w' => e = Five (Wb.sums y i l) ∧ Wb.Ext w w' := by
 have HL := Lib.hid hl
 have HS := Lib.hid hs
 clear hl hs
 cases hck : (Wb.check y i l != 0)
 ·have HK := Lib.hid (show Wb.check y i l = 0 by simpa using hck)
  have HF := Lib.hid (Wb.check_fit HK.out)
  have hn := (Wb.check_ok HK.out).2.2.2.2.1
  clear hck
  go_enter Tryz.func73, Tryz.ntmps73
  go_wp2_with fail
  refine (check_any y i v l _ (HL.out.ext (by (repeat' (first | (with_reducible assumption) | (with_reducible exact Wb.Ext.refl _) | (with_reducible refine Wb.Ext.drew ?_) | (with_reducible refine Wb.Ext.drewN ?_ _) | (with_reducible refine Wb.Ext.alloc ?_ _) | (with_reducible refine Wb.Ext.trans ?_ (by assumption)))))) HS.out).mono ?_; rintro e w1 ⟨rfl, hb1⟩
  rw [HK.out]
  obtain ⟨hk0, hk1, hk2⟩ := box3 _ _ _ _ _ hb1
  have he1 : Wb.Ext w w1 := by (repeat' (first | (with_reducible assumption) | (with_reducible exact Wb.Ext.refl _) | (with_reducible refine Wb.Ext.drew ?_) | (with_reducible refine Wb.Ext.drewN ?_ _) | (with_reducible refine Wb.Ext.alloc ?_ _) | (with_reducible refine Wb.Ext.trans ?_ (by assumption))))
  have HL1 := Lib.hid (HL.out.ext he1)
  go_wp2
  go_region_held3 (fun w' => w'.cell? ⟨w.heap.size, 0, none⟩ = some (.int .i64 y) ∧ w'.cell? ⟨w.heap.size, 1, none⟩ = some (.int .i64 i) ∧ w'.cell? ⟨w.heap.size, 2, none⟩ = some v) (first | exact ⟨hk0, hk1, hk2⟩ | (obtain ⟨k0, k1, k2⟩ := ‹_ ∧ _ ∧ _›; exact ⟨hb.keep k0, hb.keep k1, hb.keep k2⟩)) (first | (go_at_call 105; go_fit (sum_any27 y i v l _ _ _ (HL1.out.ext (by (repeat' (first | (with_reducible assumption) | (with_reducible exact Wb.Ext.refl _) | (with_reducible refine Wb.Ext.drew ?_) | (with_reducible refine Wb.Ext.drewN ?_ _) | (with_reducible refine Wb.Ext.alloc ?_ _) | (with_reducible refine Wb.Ext.trans ?_ (by assumption)))))) HF.out hn); rintro e w' ⟨rfl, hb⟩))
  obtain ⟨g, hg⟩ : ∃ g, Wb.sumOf 0 0 l = g := ⟨_, rfl⟩
  obtain ⟨a, ha⟩ : ∃ g, Wb.sumOf 1 5 l = g := ⟨_, rfl⟩
  obtain ⟨f, hf⟩ : ∃ g, Wb.sumOf 6 6 l = g := ⟨_, rfl⟩
  have hgb := Wb.sumOf_all_bound (f := 0) (t := 0) HF.out hn
  have hab := Wb.sumOf_all_bound (f := 1) (t := 5) HF.out hn
  rw [hg] at hgb
  rw [ha] at hab
  rw [hg, ha, hf]
  have HG := Lib.hid hg
  have HA := Lib.hid ha
  have HFF := Lib.hid hf
  clear hg ha hf
  have he2 : Wb.Ext w w' := by (repeat' (first | (with_reducible assumption) | (with_reducible exact Wb.Ext.refl _) | (with_reducible refine Wb.Ext.drew ?_) | (with_reducible refine Wb.Ext.drewN ?_ _) | (with_reducible refine Wb.Ext.alloc ?_ _) | (with_reducible refine Wb.Ext.trans ?_ (by assumption))))
  go_wp2
  go_loop [30, 2, 3, 4, 5] (fun iv s2 s3 s4 s5 => ∃ k : Nat, iv = .int .i64 k ∧ s2 = .int .i64 g ∧ s3 = .int .i64 a ∧ s4 = .int .i64 (g - a) ∧ s5 = .int .i64 f ∧ (k = 0 ∨ (k = 1 ∧ Wb.fits g = true) ∨ (k = 2 ∧ Wb.fits g = true ∧ Wb.fits a = true) ∨ (k = 3 ∧ Wb.fits g = true ∧ Wb.fits a = true ∧ Wb.fits (g - a) = true) ∨ (k = 4 ∧ Wb.fits g = true ∧ Wb.fits a = true ∧ Wb.fits (g - a) = true ∧ Wb.fits f = true))) (fun iv _ _ _ _ => 4 - (intOf iv).toNat)
  case atStart => exact ⟨0, rfl, rfl, rfl, rfl, rfl, .inl rfl⟩
  case round =>
   obtain ⟨k, rfl, rfl, rfl, rfl, rfl, hr⟩ := hrel
   rcases hr with rfl | ⟨rfl, h1⟩ | ⟨rfl, h1, h2⟩ | ⟨rfl, h1, h2, h3⟩ | ⟨rfl, h1, h2, h3, h4⟩
   ·cases h1 : Wb.fits g
    ·have H := Lib.hid (Wb.sums_over HK.out HG.out HA.out HFF.out (by simp [h1]))
     go_wp2_with (go_at_call 38; refine (fits_any _ _).mono ?_; rintro e w' ⟨rfl, rfl⟩)
     refine bodyPost_ret (v := .tuple #[.int .i64 0, .int .i64 0, .int .i64 0, .int .i64 0, .int .i64 9]) (by simp [results, Tryz.results73, go_sem]) rfl ⟨by rw [H.out] <;> rfl, by (repeat' (first | (with_reducible assumption) | (with_reducible exact Wb.Ext.refl _) | (with_reducible refine Wb.Ext.drew ?_) | (with_reducible refine Wb.Ext.drewN ?_ _) | (with_reducible refine Wb.Ext.alloc ?_ _) | (with_reducible refine Wb.Ext.trans ?_ (by assumption))))⟩
    ·go_wp2_with (go_at_call 38; refine (fits_any _ _).mono ?_; rintro e w' ⟨rfl, rfl⟩)
     go_round
     case rel => exact ⟨1, by go_num, rfl, rfl, rfl, rfl, by simp⟩
     case measure => simp [intOf]
   ·cases h2 : Wb.fits a
    ·have H := Lib.hid (Wb.sums_over HK.out HG.out HA.out HFF.out (by simp [h2]))
     go_wp2_with (go_at_call 38; refine (fits_any _ _).mono ?_; rintro e w' ⟨rfl, rfl⟩)
     refine bodyPost_ret (v := .tuple #[.int .i64 0, .int .i64 0, .int .i64 0, .int .i64 0, .int .i64 9]) (by simp [results, Tryz.results73, go_sem]) rfl ⟨by rw [H.out] <;> rfl, by (repeat' (first | (with_reducible assumption) | (with_reducible exact Wb.Ext.refl _) | (with_reducible refine Wb.Ext.drew ?_) | (with_reducible refine Wb.Ext.drewN ?_ _) | (with_reducible refine Wb.Ext.alloc ?_ _) | (with_reducible refine Wb.Ext.trans ?_ (by assumption))))⟩
    ·go_wp2_with (go_at_call 38; refine (fits_any _ _).mono ?_; rintro e w' ⟨rfl, rfl⟩)
     go_round
     case rel => exact ⟨2, by go_num, rfl, rfl, rfl, rfl, by simp [h1]⟩
     case measure => simp [intOf]
   ·cases h3 : Wb.fits (g - a)
    ·have H := Lib.hid (Wb.sums_over HK.out HG.out HA.out HFF.out (by simp [h3]))
     go_wp2_with (go_at_call 38; refine (fits_any _ _).mono ?_; rintro e w' ⟨rfl, rfl⟩)
     refine bodyPost_ret (v := .tuple #[.int .i64 0, .int .i64 0, .int .i64 0, .int .i64 0, .int .i64 9]) (by simp [results, Tryz.results73, go_sem]) rfl ⟨by rw [H.out] <;> rfl, by (repeat' (first | (with_reducible assumption) | (with_reducible exact Wb.Ext.refl _) | (with_reducible refine Wb.Ext.drew ?_) | (with_reducible refine Wb.Ext.drewN ?_ _) | (with_reducible refine Wb.Ext.alloc ?_ _) | (with_reducible refine Wb.Ext.trans ?_ (by assumption))))⟩
    ·go_wp2_with (go_at_call 38; refine (fits_any _ _).mono ?_; rintro e w' ⟨rfl, rfl⟩)
     go_round
     case rel => exact ⟨3, by go_num, rfl, rfl, rfl, rfl, by simp [h1, h2]⟩
     case measure => simp [intOf]
   ·cases h4 : Wb.fits f
    ·have H := Lib.hid (Wb.sums_over HK.out HG.out HA.out HFF.out (by simp [h4]))
     go_wp2_with (go_at_call 38; refine (fits_any _ _).mono ?_; rintro e w' ⟨rfl, rfl⟩)
     refine bodyPost_ret (v := .tuple #[.int .i64 0, .int .i64 0, .int .i64 0, .int .i64 0, .int .i64 9]) (by simp [results, Tryz.results73, go_sem]) rfl ⟨by rw [H.out] <;> rfl, by (repeat' (first | (with_reducible assumption) | (with_reducible exact Wb.Ext.refl _) | (with_reducible refine Wb.Ext.drew ?_) | (with_reducible refine Wb.Ext.drewN ?_ _) | (with_reducible refine Wb.Ext.alloc ?_ _) | (with_reducible refine Wb.Ext.trans ?_ (by assumption))))⟩
    ·go_wp2_with (go_at_call 38; refine (fits_any _ _).mono ?_; rintro e w' ⟨rfl, rfl⟩)
     go_round
     case rel => exact ⟨4, by go_num, rfl, rfl, rfl, rfl, by simp [h1, h2, h3]⟩
     case measure => simp [intOf]
   ·have H := Lib.hid (Wb.sums_ok HK.out HG.out HA.out HFF.out h1 h2 h3 h4)
    go_wp2
    refine bodyPost_ret (v := .tuple #[.int .i64 g, .int .i64 a, .int .i64 (g - a), .int .i64 f, .int .i64 0]) (by simp [results, Tryz.results73, go_sem]) rfl ⟨by rw [H.out] <;> rfl, by (repeat' (first | (with_reducible assumption) | (with_reducible exact Wb.Ext.refl _) | (with_reducible refine Wb.Ext.drew ?_) | (with_reducible refine Wb.Ext.drewN ?_ _) | (with_reducible refine Wb.Ext.alloc ?_ _) | (with_reducible refine Wb.Ext.trans ?_ (by assumption))))⟩
 ·have H := Lib.hid (show Wb.sums y i l = (0, 0, 0, 0, Wb.check y i l) by rw [Wb.sums, if_pos (by simpa using hck)])
  go_enter Tryz.func73, Tryz.ntmps73
  go_wp2_with (go_at_call 45; refine (check_any y i v l _ (HL.out.ext (by (repeat' (first | (with_reducible assumption) | (with_reducible exact Wb.Ext.refl _) | (with_reducible refine Wb.Ext.drew ?_) | (with_reducible refine Wb.Ext.drewN ?_ _) | (with_reducible refine Wb.Ext.alloc ?_ _) | (with_reducible refine Wb.Ext.trans ?_ (by assumption)))))) HS.out).mono ?_; rintro e w1 ⟨rfl, hb1⟩)
  refine bodyPost_ret (v := .tuple #[.int .i64 0, .int .i64 0, .int .i64 0, .int .i64 0, .int .i64 (Wb.check y i l)]) (by simp [results, Tryz.results73, go_sem]) rfl ⟨by rw [H.out] <;> rfl, by (repeat' (first | (with_reducible assumption) | (with_reducible exact Wb.Ext.refl _) | (with_reducible refine Wb.Ext.drew ?_) | (with_reducible refine Wb.Ext.drewN ?_ _) | (with_reducible refine Wb.Ext.alloc ?_ _) | (with_reducible refine Wb.Ext.trans ?_ (by assumption))))⟩
end Go.Proofs.YtnefdpnolojojaaGreatDoor
namespace Go.Proofs.YtnefdpnolojojaaGreatDoor
open Go.RowKit
set_option maxRecDepth 4000
end Go.Proofs.YtnefdpnolojojaaGreatDoor
namespace Go.Proofs.YtnefdpnolojojaaGreatDoor
open Go.RowKit
set_option maxRecDepth 4000
end Go.Proofs.YtnefdpnolojojaaGreatDoor
