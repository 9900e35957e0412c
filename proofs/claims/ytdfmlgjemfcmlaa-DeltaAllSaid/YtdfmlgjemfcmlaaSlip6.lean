/- Chapter 27: the reference's Sums. -/
import Derived.Test.YtdfmlgjemfcmlaaSlip4
import Derived.Test.YtdfmlgjemfcmlaaSlip5
namespace Go.Proofs.Ytdfmlgjemfcmlaa
open Go.RowKit
set_option maxRecDepth 4000

set_option maxHeartbeats 1000000 in
theorem rsums_any (y i : Int) (v : Value) (l : List Wb.Ln) (w : World) (hl : Lns w v l) (hs : Sized l) :
    Calls Try.prog 41 #[.agg #[.int .i64 y, .int .i64 i, v]] w fun e w' => e = Five (Wb.sums y i l) ∧ Wb.Ext w w' := by
  have HL := Lib.hid hl
  have HS := Lib.hid hs
  clear hl hs
  cases hck : (Wb.check y i l != 0)
  · have HK := Lib.hid (show Wb.check y i l = 0 by simpa using hck)
    have HF := Lib.hid (Wb.check_fit HK.out)
    have hn := (Wb.check_ok HK.out).2.2.2.2.1
    clear hck
    go_enter Try.func41, Try.ntmps41
    go_wp2_with fail
    refine (rcheck_any y i v l _ (HL.out.ext (by (repeat' (first | (with_reducible assumption) | (with_reducible exact Wb.Ext.refl _) | (with_reducible refine Wb.Ext.drew ?_) | (with_reducible refine Wb.Ext.drewN ?_ _) | (with_reducible refine Wb.Ext.alloc ?_ _) | (with_reducible refine Wb.Ext.trans ?_ (by assumption)))))) HS.out).mono ?_; rintro e w1 ⟨rfl, hb1⟩
    rw [HK.out]
    obtain ⟨hk0, hk1, hk2⟩ := box3 _ _ _ _ _ hb1
    have he1 : Wb.Ext w w1 := by (repeat' (first | (with_reducible assumption) | (with_reducible exact Wb.Ext.refl _) | (with_reducible refine Wb.Ext.drew ?_) | (with_reducible refine Wb.Ext.drewN ?_ _) | (with_reducible refine Wb.Ext.alloc ?_ _) | (with_reducible refine Wb.Ext.trans ?_ (by assumption))))
    have HL1 := Lib.hid (HL.out.ext he1)
    go_wp2
    go_region_held3 (fun w' => w'.cell? ⟨w.heap.size, 0, none⟩ = some (.int .i64 y) ∧ w'.cell? ⟨w.heap.size, 1, none⟩ = some (.int .i64 i) ∧ w'.cell? ⟨w.heap.size, 2, none⟩ = some v) (first | exact ⟨hk0, hk1, hk2⟩ | (obtain ⟨k0, k1, k2⟩ := ‹_ ∧ _ ∧ _›; exact ⟨hb.keep k0, hb.keep k1, hb.keep k2⟩)) (first | (go_at_call 62; go_fit (rsum_any27 y i v l _ _ (HL1.out.ext (by (repeat' (first | (with_reducible assumption) | (with_reducible exact Wb.Ext.refl _) | (with_reducible refine Wb.Ext.drew ?_) | (with_reducible refine Wb.Ext.drewN ?_ _) | (with_reducible refine Wb.Ext.alloc ?_ _) | (with_reducible refine Wb.Ext.trans ?_ (by assumption)))))) HF.out hn); rintro e w' ⟨rfl, hb⟩))
    obtain ⟨hm0, hm1, hm2⟩ := ‹_ ∧ _ ∧ _›
    have he2 : Wb.Ext w w' := by (repeat' (first | (with_reducible assumption) | (with_reducible exact Wb.Ext.refl _) | (with_reducible refine Wb.Ext.drew ?_) | (with_reducible refine Wb.Ext.drewN ?_ _) | (with_reducible refine Wb.Ext.alloc ?_ _) | (with_reducible refine Wb.Ext.trans ?_ (by assumption))))
    have HL2 := Lib.hid (HL.out.ext he2)
    obtain ⟨g, hg⟩ : ∃ g, Wb.sumOf 0 0 l = g := ⟨_, rfl⟩
    obtain ⟨f, hf⟩ : ∃ g, Wb.sumOf 6 6 l = g := ⟨_, rfl⟩
    have hgb := Wb.sumOf_all_bound (f := 0) (t := 0) HF.out hn
    rw [hg] at hgb
    rw [hg, hf]
    have HG := Lib.hid hg
    have HFF := Lib.hid hf
    clear hg hf
    obtain ⟨a1, h1⟩ : ∃ g, Wb.sumOf 1 1 l = g := ⟨_, rfl⟩
    obtain ⟨a2, h2⟩ : ∃ g, Wb.sumOf 2 2 l = g := ⟨_, rfl⟩
    obtain ⟨a3, h3⟩ : ∃ g, Wb.sumOf 3 3 l = g := ⟨_, rfl⟩
    obtain ⟨a4, h4⟩ : ∃ g, Wb.sumOf 4 4 l = g := ⟨_, rfl⟩
    obtain ⟨a5, h5⟩ : ∃ g, Wb.sumOf 5 5 l = g := ⟨_, rfl⟩
    have b1 := Wb.sumOf_all_bound (f := 1) (t := 1) HF.out hn
    have b2 := Wb.sumOf_all_bound (f := 2) (t := 2) HF.out hn
    have b3 := Wb.sumOf_all_bound (f := 3) (t := 3) HF.out hn
    have b4 := Wb.sumOf_all_bound (f := 4) (t := 4) HF.out hn
    have b5 := Wb.sumOf_all_bound (f := 5) (t := 5) HF.out hn
    have hab := Wb.sumOf_all_bound (f := 1) (t := 5) HF.out hn
    have hsum := Wb.sumOf_parts l
    rw [h1] at b1 hsum
    rw [h2] at b2 hsum
    rw [h3] at b3 hsum
    rw [h4] at b4 hsum
    rw [h5] at b5 hsum
    rw [← hsum] at hab
    have HA : Hid (Wb.sumOf 1 5 l = a1 + a2 + a3 + a4 + a5) := Lib.hid hsum.symm
    have w2 : IntKind.i64.wrap (a1 + a2) = a1 + a2 := IntWalk.i64_in _ (by omega)
    have w3 : IntKind.i64.wrap (a1 + a2 + a3) = a1 + a2 + a3 := IntWalk.i64_in _ (by omega)
    have w4 : IntKind.i64.wrap (a1 + a2 + a3 + a4) = a1 + a2 + a3 + a4 := IntWalk.i64_in _ (by omega)
    have w5 : IntKind.i64.wrap (a1 + a2 + a3 + a4 + a5) = a1 + a2 + a3 + a4 + a5 := IntWalk.i64_in _ (by omega)
    clear hsum
    go_wp2
    go_region_held3 (fun w' => w'.cell? ⟨w.heap.size, 0, none⟩ = some (.int .i64 y) ∧ w'.cell? ⟨w.heap.size, 1, none⟩ = some (.int .i64 i) ∧ w'.cell? ⟨w.heap.size, 2, none⟩ = some v) (first | exact ⟨hm0, hm1, hm2⟩ | (obtain ⟨k0, k1, k2⟩ := ‹_ ∧ _ ∧ _›; exact ⟨hb.keep k0, hb.keep k1, hb.keep k2⟩)) (first | (go_at_call 62; go_fit (rsum_any27 y i v l _ _ (HL2.out.ext (by (repeat' (first | (with_reducible assumption) | (with_reducible exact Wb.Ext.refl _) | (with_reducible refine Wb.Ext.drew ?_) | (with_reducible refine Wb.Ext.drewN ?_ _) | (with_reducible refine Wb.Ext.alloc ?_ _) | (with_reducible refine Wb.Ext.trans ?_ (by assumption)))))) HF.out hn); rintro e w' ⟨rfl, hb⟩; simp only [h1, h2, h3, h4, h5]))
    obtain ⟨hn0, hn1, hn2⟩ := ‹_ ∧ _ ∧ _›
    have he3 : Wb.Ext w w' := by (repeat' (first | (with_reducible assumption) | (with_reducible exact Wb.Ext.refl _) | (with_reducible refine Wb.Ext.drew ?_) | (with_reducible refine Wb.Ext.drewN ?_ _) | (with_reducible refine Wb.Ext.alloc ?_ _) | (with_reducible refine Wb.Ext.trans ?_ (by assumption))))
    try simp only [w2, w3, w4, w5]
    obtain ⟨a, ha⟩ : ∃ g, a1 + a2 + a3 + a4 + a5 = g := ⟨_, rfl⟩
    rw [ha] at hab HA ⊢
    clear w2 w3 w4 w5 b1 b2 b3 b4 b5 ha h1 h2 h3 h4 h5
    cases h1 : Wb.fits g
    · have H := Lib.hid (Wb.sums_over HK.out HG.out HA.out HFF.out (by simp [h1]))
      go_wp2_with (go_at_call 63; refine (fits27_any _ _).mono ?_; rintro e w' ⟨rfl, rfl⟩)
      refine bodyPost_ret (v := .tuple #[.int .i64 0, .int .i64 0, .int .i64 0, .int .i64 0, .int .i64 9]) (by simp [results, Try.results41, go_sem]) rfl ⟨by rw [H.out] <;> rfl, by (repeat' (first | (with_reducible assumption) | (with_reducible exact Wb.Ext.refl _) | (with_reducible refine Wb.Ext.drew ?_) | (with_reducible refine Wb.Ext.drewN ?_ _) | (with_reducible refine Wb.Ext.alloc ?_ _) | (with_reducible refine Wb.Ext.trans ?_ (by assumption))))⟩
    · cases h2 : Wb.fits a
      · have H := Lib.hid (Wb.sums_over HK.out HG.out HA.out HFF.out (by simp [h2]))
        go_wp2_with (go_at_call 63; refine (fits27_any _ _).mono ?_; rintro e w' ⟨rfl, rfl⟩)
        refine bodyPost_ret (v := .tuple #[.int .i64 0, .int .i64 0, .int .i64 0, .int .i64 0, .int .i64 9]) (by simp [results, Try.results41, go_sem]) rfl ⟨by rw [H.out] <;> rfl, by (repeat' (first | (with_reducible assumption) | (with_reducible exact Wb.Ext.refl _) | (with_reducible refine Wb.Ext.drew ?_) | (with_reducible refine Wb.Ext.drewN ?_ _) | (with_reducible refine Wb.Ext.alloc ?_ _) | (with_reducible refine Wb.Ext.trans ?_ (by assumption))))⟩
      · cases h3 : Wb.fits (g - a)
        · have H := Lib.hid (Wb.sums_over HK.out HG.out HA.out HFF.out (by simp [h3]))
          go_wp2_with (go_at_call 63; refine (fits27_any _ _).mono ?_; rintro e w' ⟨rfl, rfl⟩)
          refine bodyPost_ret (v := .tuple #[.int .i64 0, .int .i64 0, .int .i64 0, .int .i64 0, .int .i64 9]) (by simp [results, Try.results41, go_sem]) rfl ⟨by rw [H.out] <;> rfl, by (repeat' (first | (with_reducible assumption) | (with_reducible exact Wb.Ext.refl _) | (with_reducible refine Wb.Ext.drew ?_) | (with_reducible refine Wb.Ext.drewN ?_ _) | (with_reducible refine Wb.Ext.alloc ?_ _) | (with_reducible refine Wb.Ext.trans ?_ (by assumption))))⟩
        · cases h4 : Wb.fits f
          · have H := Lib.hid (Wb.sums_over HK.out HG.out HA.out HFF.out (by simp [h4]))
            go_wp2_with (go_at_call 63; refine (fits27_any _ _).mono ?_; rintro e w' ⟨rfl, rfl⟩)
            refine bodyPost_ret (v := .tuple #[.int .i64 0, .int .i64 0, .int .i64 0, .int .i64 0, .int .i64 9]) (by simp [results, Try.results41, go_sem]) rfl ⟨by rw [H.out] <;> rfl, by (repeat' (first | (with_reducible assumption) | (with_reducible exact Wb.Ext.refl _) | (with_reducible refine Wb.Ext.drew ?_) | (with_reducible refine Wb.Ext.drewN ?_ _) | (with_reducible refine Wb.Ext.alloc ?_ _) | (with_reducible refine Wb.Ext.trans ?_ (by assumption))))⟩
          · have H := Lib.hid (Wb.sums_ok HK.out HG.out HA.out HFF.out h1 h2 h3 h4)
            go_wp2_with (go_at_call 63; refine (fits27_any _ _).mono ?_; rintro e w' ⟨rfl, rfl⟩)
            refine bodyPost_ret (v := .tuple #[.int .i64 g, .int .i64 a, .int .i64 (g - a), .int .i64 f, .int .i64 0]) (by simp [results, Try.results41, go_sem]) rfl ⟨by rw [H.out] <;> rfl, by (repeat' (first | (with_reducible assumption) | (with_reducible exact Wb.Ext.refl _) | (with_reducible refine Wb.Ext.drew ?_) | (with_reducible refine Wb.Ext.drewN ?_ _) | (with_reducible refine Wb.Ext.alloc ?_ _) | (with_reducible refine Wb.Ext.trans ?_ (by assumption))))⟩
  · have H := Lib.hid (show Wb.sums y i l = (0, 0, 0, 0, Wb.check y i l) by rw [Wb.sums, if_pos (by simpa using hck)])
    go_enter Try.func41, Try.ntmps41
    go_wp2_with (go_at_call 52; refine (rcheck_any y i v l _ (HL.out.ext (by (repeat' (first | (with_reducible assumption) | (with_reducible exact Wb.Ext.refl _) | (with_reducible refine Wb.Ext.drew ?_) | (with_reducible refine Wb.Ext.drewN ?_ _) | (with_reducible refine Wb.Ext.alloc ?_ _) | (with_reducible refine Wb.Ext.trans ?_ (by assumption)))))) HS.out).mono ?_; rintro e w1 ⟨rfl, hb1⟩)
    refine bodyPost_ret (v := .tuple #[.int .i64 0, .int .i64 0, .int .i64 0, .int .i64 0, .int .i64 (Wb.check y i l)]) (by simp [results, Try.results41, go_sem]) rfl ⟨by rw [H.out] <;> rfl, by (repeat' (first | (with_reducible assumption) | (with_reducible exact Wb.Ext.refl _) | (with_reducible refine Wb.Ext.drew ?_) | (with_reducible refine Wb.Ext.drewN ?_ _) | (with_reducible refine Wb.Ext.alloc ?_ _) | (with_reducible refine Wb.Ext.trans ?_ (by assumption))))⟩

end Go.Proofs.Ytdfmlgjemfcmlaa
