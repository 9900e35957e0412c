/- Chapter 29: DeltaNets. -/
import Derived.Test.YtdfmlgjemfcmlaaDLaw0
import Derived.Test.YtdfmlgjemfcmlaaDelM
import Derived.Deep.RegionHeld3
namespace Go.Proofs.Ytdfmlgjemfcmlaa
open Go.RowKit Go.Lib
set_option maxRecDepth 8000
attribute [local go_sem ↓] Go.wp_at_zero Go.wp_at_succ

namespace Wb
theorem allF_ok {A B : List Sl} {X : List (Int × Int × List Ln)} (h : allF A B = (0, X)) : listE A = 0 ∧ listE B = 0 ∧ allG A B [] (headsP (A ++ B)) = (0, X) := by
  unfold allF at h
  split at h
  · rename_i h1; simp only [Prod.mk.injEq] at h; exact absurd h.1 h1
  · rename_i h1
    split at h
    · rename_i h2; simp only [Prod.mk.injEq] at h; exact absurd h.1 h2
    · rename_i h2; exact ⟨by omega, by omega, h⟩
theorem net_fits : ∀ {L : List Sl} {acc z : Int}, fits acc = true → netF acc L = (z, 0) → fits z = true
  | [], acc, z, hf, h => by simp [netF] at h; rw [← h]; exact hf
  | s :: r, acc, z, hf, h => by
    rw [netF] at h
    split at h
    · exact net_fits hf h
    · split at h
      · rename_i he; simp only [Prod.mk.injEq] at h; exact absurd h.2 he
      · split at h
        · simp at h
        · rename_i hn
          exact net_fits (by simpa using hn) h
theorem nets_law {A B D : List Sl} {x y z : Int} (h : allF A B = (0, D.map ct)) (hx : netF 0 A = (x, 0)) (hy : netF 0 B = (y, 0)) (hz : netF 0 D = (z, 0)) : z = y - x := by
  obtain ⟨h1, h2, h3⟩ := allF_ok h
  exact nets_all h1 h2 (heads_of A B) h3 rfl hx hy hz
theorem self_law {A R : List Sl} (h : allF A A = (0, R.map ct)) : R.map ct = A.map fun s => (s.y, s.i, []) := by
  obtain ⟨h1, h2, h3⟩ := allF_ok h
  exact self_all h1 (heads_of A A) h3
end Wb
theorem SlsW.slsB {w : World} {v : Value} {L : List Wb.Sl} (h : SlsW w v L) (k : ∀ s ∈ L, Few s.l) : SlsB w v L := ⟨h.1, fun _ => h.sls k⟩

theorem all_nil {A B : List Wb.Sl} : ∀ {ps : List (Int × Int)} {acc X : List (Int × Int × List Wb.Ln)} {E : Int}, Wb.allG A B acc ps = (E, X) → E ≠ 0 → X = []
  | [], acc, X, E, h, hE => by simp [Wb.allG] at h; exact absurd h.1.symm hE
  | p :: r, acc, X, E, h, hE => by
    rw [Wb.allG] at h
    split at h
    · simp only [Prod.mk.injEq] at h; exact h.2.symm
    · exact all_nil h hE
theorem all_len {A B : List Wb.Sl} {E : Int} {R : List Wb.Sl} (h : Wb.allF A B = (E, R.map Wb.ct)) : R.length ≤ A.length + B.length := by
  by_cases hE : E = 0
  · subst hE
    obtain ⟨_, _, h3⟩ := Wb.allF_ok h
    have h4 := (Wb.all_ok h3).1
    have h5 := congrArg List.length h4
    have h6 := Wb.heads_len (A ++ B)
    simp at h5 h6
    omega
  · have hR : R.map Wb.ct = [] := by
      unfold Wb.allF at h
      split at h
      · simp only [Prod.mk.injEq] at h; exact h.2.symm
      · split at h
        · simp only [Prod.mk.injEq] at h; exact h.2.symm
        · exact all_nil h hE
    have := congrArg List.length hR
    simp at this
    rw [this]; exact Nat.zero_le _
set_option maxHeartbeats 8000000 in
theorem dnets_walk (va vb : Value) (A B : List Wb.Sl) (w : World) (hA : SlsW w va A) (hB : SlsW w vb B) (la : A.length ≤ 9223372036854775807) (lb : B.length ≤ 9223372036854775807) :
    Calls Try.prog 7 #[va, vb] w fun e w' => e = .returned (.bool true) ∧ Wb.Ext w w' := by
  obtain ⟨aA, aK, rfl⟩ := hA.1.shape
  obtain ⟨bA, bK, rfl⟩ := hB.1.shape
  have HWA := Lib.hid hA
  have HWB := Lib.hid hB
  clear hA hB
  go_enter Try.func7, Try.ntmps7
  go_wp2_with fail
  go_fit (awake29_any _); rintro e w1 ⟨rfl, hx1⟩
  go_wp2_with fail
  go_fit (rshorts2_any _ A 12 _ (HWA.out.ext (by (repeat' (first | (with_reducible assumption) | (with_reducible exact Wb.Ext.refl _) | (with_reducible refine Wb.Ext.drew ?_) | (with_reducible refine Wb.Ext.drewN ?_ _) | (with_reducible refine Wb.Ext.alloc ?_ _) | (with_reducible refine Wb.Ext.trans ?_ (by assumption)))))) (by decide) la); rintro e w2 ⟨qa, rfl, hqa, hb2⟩
  have hx2 : Wb.Ext w w2 := hx1.trans (Wb.Ext.trans (by (repeat' (first | (with_reducible assumption) | (with_reducible exact Wb.Ext.refl _) | (with_reducible refine Wb.Ext.drew ?_) | (with_reducible refine Wb.Ext.drewN ?_ _) | (with_reducible refine Wb.Ext.alloc ?_ _) | (with_reducible refine Wb.Ext.trans ?_ (by assumption))))) hb2)
  have HQA := Lib.hid hqa
  clear hqa hb2
  cases qa
  · go_wp2
    go_ret
    exact ⟨rfl, by (repeat' (first | (with_reducible assumption) | (with_reducible exact Wb.Ext.refl _) | (with_reducible refine Wb.Ext.drew ?_) | (with_reducible refine Wb.Ext.drewN ?_ _) | (with_reducible refine Wb.Ext.alloc ?_ _) | (with_reducible refine Wb.Ext.trans ?_ (by assumption))))⟩
  have HFA := Lib.hid (HQA.out rfl)
  have la12 : A.length ≤ 12 := HFA.out.1
  go_wp2_with fail
  go_fit (rshorts2_any _ B 12 _ (HWB.out.ext (by (repeat' (first | (with_reducible assumption) | (with_reducible exact Wb.Ext.refl _) | (with_reducible refine Wb.Ext.drew ?_) | (with_reducible refine Wb.Ext.drewN ?_ _) | (with_reducible refine Wb.Ext.alloc ?_ _) | (with_reducible refine Wb.Ext.trans ?_ (by assumption)))))) (by decide) lb); rintro e w3 ⟨qb, rfl, hqb, hb3⟩
  have hx3 : Wb.Ext w w3 := hx2.trans (Wb.Ext.trans (by (repeat' (first | (with_reducible assumption) | (with_reducible exact Wb.Ext.refl _) | (with_reducible refine Wb.Ext.drew ?_) | (with_reducible refine Wb.Ext.drewN ?_ _) | (with_reducible refine Wb.Ext.alloc ?_ _) | (with_reducible refine Wb.Ext.trans ?_ (by assumption))))) hb3)
  have HQB := Lib.hid hqb
  clear hqb hb3
  cases qb
  · go_wp2
    go_ret
    exact ⟨rfl, by (repeat' (first | (with_reducible assumption) | (with_reducible exact Wb.Ext.refl _) | (with_reducible refine Wb.Ext.drew ?_) | (with_reducible refine Wb.Ext.drewN ?_ _) | (with_reducible refine Wb.Ext.alloc ?_ _) | (with_reducible refine Wb.Ext.trans ?_ (by assumption))))⟩
  have HFB := Lib.hid (HQB.out rfl)
  have lb12 : B.length ≤ 12 := HFB.out.1
  have HSA := Lib.hid (HWA.out.sls HFA.out.2)
  have HSB := Lib.hid (HWB.out.sls HFB.out.2)
  have HSB1 := Lib.hid (HWA.out.slsB HFA.out.2)
  have HSB2 := Lib.hid (HWB.out.slsB HFB.out.2)
  clear HQA HQB
  go_wp2_with fail
  go_fit (dall_any _ _ A A _ (HSB1.out.ext (by (repeat' (first | (with_reducible assumption) | (with_reducible exact Wb.Ext.refl _) | (with_reducible refine Wb.Ext.drew ?_) | (with_reducible refine Wb.Ext.drewN ?_ _) | (with_reducible refine Wb.Ext.alloc ?_ _) | (with_reducible refine Wb.Ext.trans ?_ (by assumption)))))) (HSB1.out.ext (by (repeat' (first | (with_reducible assumption) | (with_reducible exact Wb.Ext.refl _) | (with_reducible refine Wb.Ext.drew ?_) | (with_reducible refine Wb.Ext.drewN ?_ _) | (with_reducible refine Wb.Ext.alloc ?_ _) | (with_reducible refine Wb.Ext.trans ?_ (by assumption)))))) la la); rintro e w4 ⟨v1, E1, rfl, R1, hI1⟩
  obtain ⟨ra, rc, rfl⟩ := hI1.row.shape
  have HV1 := Lib.hid hI1.val
  have HR1 := Lib.hid hI1.row
  have hx4 : Wb.Ext w w4 := hx3.trans (Wb.Ext.trans (by (repeat' (first | (with_reducible assumption) | (with_reducible exact Wb.Ext.refl _) | (with_reducible refine Wb.Ext.drew ?_) | (with_reducible refine Wb.Ext.drewN ?_ _) | (with_reducible refine Wb.Ext.alloc ?_ _) | (with_reducible refine Wb.Ext.trans ?_ (by assumption))))) hI1.ext)
  clear hI1 hx1 hx2 hx3
  by_cases zE : E1 = 0
  case neg =>
    have d1 : (E1 != 0) = true := by simpa using zE
    have d2 : (E1 == 0) = false := by simpa using zE
    clear zE
    go_wp2_with fail
    go_fit (dall_any _ _ A B _ (HSB1.out.ext (by (repeat' (first | (with_reducible assumption) | (with_reducible exact Wb.Ext.refl _) | (with_reducible refine Wb.Ext.drew ?_) | (with_reducible refine Wb.Ext.drewN ?_ _) | (with_reducible refine Wb.Ext.alloc ?_ _) | (with_reducible refine Wb.Ext.trans ?_ (by assumption)))))) (HSB2.out.ext (by (repeat' (first | (with_reducible assumption) | (with_reducible exact Wb.Ext.refl _) | (with_reducible refine Wb.Ext.drew ?_) | (with_reducible refine Wb.Ext.drewN ?_ _) | (with_reducible refine Wb.Ext.alloc ?_ _) | (with_reducible refine Wb.Ext.trans ?_ (by assumption)))))) (by omega) (by omega)); rintro e w20 ⟨v2, E2, rfl, R2, hI2⟩
    obtain ⟨da, dc, rfl⟩ := hI2.row.shape
    have HV2 := Lib.hid hI2.val
    have HR2 := Lib.hid hI2.row
    have hx20 : Wb.Ext w w20 := hx4.trans (Wb.Ext.trans (by (repeat' (first | (with_reducible assumption) | (with_reducible exact Wb.Ext.refl _) | (with_reducible refine Wb.Ext.drew ?_) | (with_reducible refine Wb.Ext.drewN ?_ _) | (with_reducible refine Wb.Ext.alloc ?_ _) | (with_reducible refine Wb.Ext.trans ?_ (by assumption))))) hI2.ext)
    have hR2l : R2.length ≤ 1000000 := Nat.le_trans (all_len HV2.out) (by omega)
    clear hI2
    obtain ⟨⟨x, eg⟩, hNA⟩ : ∃ p, Wb.netF 0 A = p := ⟨_, rfl⟩
    have HNA := Lib.hid hNA
    clear hNA
    go_wp2_with fail
    go_fit (dnet_any _ A _ (HSA.out.ext (by (repeat' (first | (with_reducible assumption) | (with_reducible exact Wb.Ext.refl _) | (with_reducible refine Wb.Ext.drew ?_) | (with_reducible refine Wb.Ext.drewN ?_ _) | (with_reducible refine Wb.Ext.alloc ?_ _) | (with_reducible refine Wb.Ext.trans ?_ (by assumption)))))) (by omega)); rintro e w21 ⟨rfl, hb21⟩
    rw [HNA.out]
    have hx21 : Wb.Ext w w21 := hx20.trans (Wb.Ext.trans (by (repeat' (first | (with_reducible assumption) | (with_reducible exact Wb.Ext.refl _) | (with_reducible refine Wb.Ext.drew ?_) | (with_reducible refine Wb.Ext.drewN ?_ _) | (with_reducible refine Wb.Ext.alloc ?_ _) | (with_reducible refine Wb.Ext.trans ?_ (by assumption))))) hb21)
    have hk21 : Wb.Ext w20 w21 := Wb.Ext.trans (by (repeat' (first | (with_reducible assumption) | (with_reducible exact Wb.Ext.refl _) | (with_reducible refine Wb.Ext.drew ?_) | (with_reducible refine Wb.Ext.drewN ?_ _) | (with_reducible refine Wb.Ext.alloc ?_ _) | (with_reducible refine Wb.Ext.trans ?_ (by assumption))))) hb21
    clear hb21
    obtain ⟨⟨y, eh⟩, hNB⟩ : ∃ p, Wb.netF 0 B = p := ⟨_, rfl⟩
    have HNB := Lib.hid hNB
    clear hNB
    go_wp2_with fail
    go_fit (dnet_any _ B _ (HSB.out.ext (by (repeat' (first | (with_reducible assumption) | (with_reducible exact Wb.Ext.refl _) | (with_reducible refine Wb.Ext.drew ?_) | (with_reducible refine Wb.Ext.drewN ?_ _) | (with_reducible refine Wb.Ext.alloc ?_ _) | (with_reducible refine Wb.Ext.trans ?_ (by assumption)))))) (by omega)); rintro e w22 ⟨rfl, hb22⟩
    rw [HNB.out]
    have hx22 : Wb.Ext w w22 := hx21.trans (Wb.Ext.trans (by (repeat' (first | (with_reducible assumption) | (with_reducible exact Wb.Ext.refl _) | (with_reducible refine Wb.Ext.drew ?_) | (with_reducible refine Wb.Ext.drewN ?_ _) | (with_reducible refine Wb.Ext.alloc ?_ _) | (with_reducible refine Wb.Ext.trans ?_ (by assumption))))) hb22)
    have hk22 : Wb.Ext w20 w22 := hk21.trans (Wb.Ext.trans (by (repeat' (first | (with_reducible assumption) | (with_reducible exact Wb.Ext.refl _) | (with_reducible refine Wb.Ext.drew ?_) | (with_reducible refine Wb.Ext.drewN ?_ _) | (with_reducible refine Wb.Ext.alloc ?_ _) | (with_reducible refine Wb.Ext.trans ?_ (by assumption))))) hb22)
    clear hb22
    have HX2022 : Hid (Wb.Ext w20 w22) := Lib.hid hk22
    have HR2' := Lib.hid (HR2.out.sls.ext (show Wb.Ext w20 w22 from HX2022.out))
    obtain ⟨⟨z, ei⟩, hNR⟩ : ∃ p, Wb.netF 0 R2 = p := ⟨_, rfl⟩
    have HNR := Lib.hid hNR
    clear hNR
    go_wp2_with fail
    go_fit (dnet_any _ R2 _ (HR2'.out.ext (by (repeat' (first | (with_reducible assumption) | (with_reducible exact Wb.Ext.refl _) | (with_reducible refine Wb.Ext.drew ?_) | (with_reducible refine Wb.Ext.drewN ?_ _) | (with_reducible refine Wb.Ext.alloc ?_ _) | (with_reducible refine Wb.Ext.trans ?_ (by assumption)))))) (by omega)); rintro e w23 ⟨rfl, hb23⟩
    rw [HNR.out]
    have hx23 : Wb.Ext w w23 := hx22.trans (Wb.Ext.trans (by (repeat' (first | (with_reducible assumption) | (with_reducible exact Wb.Ext.refl _) | (with_reducible refine Wb.Ext.drew ?_) | (with_reducible refine Wb.Ext.drewN ?_ _) | (with_reducible refine Wb.Ext.alloc ?_ _) | (with_reducible refine Wb.Ext.trans ?_ (by assumption))))) hb23)
    clear hb23
    by_cases zE2 : E2 = 0
    case neg =>
      have d1 : (E2 != 0) = true := by simpa using zE2
      have d2 : (E2 == 0) = false := by simpa using zE2
      clear zE2
      go_wp2
      go_ret
      exact ⟨rfl, by (repeat' (first | (with_reducible assumption) | (with_reducible exact Wb.Ext.refl _) | (with_reducible refine Wb.Ext.drew ?_) | (with_reducible refine Wb.Ext.drewN ?_ _) | (with_reducible refine Wb.Ext.alloc ?_ _) | (with_reducible refine Wb.Ext.trans ?_ (by assumption))))⟩
    subst zE2
    by_cases zeg : eg = 0
    case neg =>
      have d1 : (eg != 0) = true := by simpa using zeg
      have d2 : (eg == 0) = false := by simpa using zeg
      clear zeg
      go_wp2
      go_ret
      exact ⟨rfl, by (repeat' (first | (with_reducible assumption) | (with_reducible exact Wb.Ext.refl _) | (with_reducible refine Wb.Ext.drew ?_) | (with_reducible refine Wb.Ext.drewN ?_ _) | (with_reducible refine Wb.Ext.alloc ?_ _) | (with_reducible refine Wb.Ext.trans ?_ (by assumption))))⟩
    subst zeg
    by_cases zeh : eh = 0
    case neg =>
      have d1 : (eh != 0) = true := by simpa using zeh
      have d2 : (eh == 0) = false := by simpa using zeh
      clear zeh
      go_wp2
      go_ret
      exact ⟨rfl, by (repeat' (first | (with_reducible assumption) | (with_reducible exact Wb.Ext.refl _) | (with_reducible refine Wb.Ext.drew ?_) | (with_reducible refine Wb.Ext.drewN ?_ _) | (with_reducible refine Wb.Ext.alloc ?_ _) | (with_reducible refine Wb.Ext.trans ?_ (by assumption))))⟩
    subst zeh
    by_cases zei : ei = 0
    case neg =>
      have d1 : (ei != 0) = true := by simpa using zei
      have d2 : (ei == 0) = false := by simpa using zei
      clear zei
      go_wp2
      go_ret
      exact ⟨rfl, by (repeat' (first | (with_reducible assumption) | (with_reducible exact Wb.Ext.refl _) | (with_reducible refine Wb.Ext.drew ?_) | (with_reducible refine Wb.Ext.drewN ?_ _) | (with_reducible refine Wb.Ext.alloc ?_ _) | (with_reducible refine Wb.Ext.trans ?_ (by assumption))))⟩
    subst zei
    have hzz := Wb.nets_law HV2.out HNA.out HNB.out HNR.out
    have hfx := (Wb.fits_iff _).1 (Wb.net_fits (by decide) HNA.out)
    have hfy := (Wb.fits_iff _).1 (Wb.net_fits (by decide) HNB.out)
    have ew : IntKind.i64.wrap (y - x) = z := by rw [hzz]; exact IntWalk.i64_in _ (by omega)
    have ew2 : y - x = z := by omega
    clear hzz
    go_wp2
    go_ret
    exact ⟨rfl, by (repeat' (first | (with_reducible assumption) | (with_reducible exact Wb.Ext.refl _) | (with_reducible refine Wb.Ext.drew ?_) | (with_reducible refine Wb.Ext.drewN ?_ _) | (with_reducible refine Wb.Ext.alloc ?_ _) | (with_reducible refine Wb.Ext.trans ?_ (by assumption))))⟩
  subst zE
  have HSF := Lib.hid (Wb.self_law HV1.out)
  have hRl : R1.length = A.length := by have := congrArg List.length HSF.out; simpa using this
  have HRL := Lib.hid hRl
  have HTR : Hid (Tbl 3 slc w4 (.slice ra A.length rc) R1) := Lib.hid (by rw [← hRl]; exact HR1.out.sls.1)
  rw [hRl]
  clear hRl
  go_wp2_with fail
  go_loopw [7] (fun iv wr => ∃ k : Nat, k ≤ A.length ∧ iv = .int .i64 k ∧ Wb.Ext w4 wr) (fun iv _ => A.length - (intOf iv).toNat)
  case atStart => exact ⟨0, Nat.zero_le _, rfl, by (repeat' (first | (with_reducible assumption) | (with_reducible exact Wb.Ext.refl _) | (with_reducible refine Wb.Ext.drew ?_) | (with_reducible refine Wb.Ext.drewN ?_ _) | (with_reducible refine Wb.Ext.alloc ?_ _) | (with_reducible refine Wb.Ext.trans ?_ (by assumption))))⟩
  case round =>
    obtain ⟨k, hk, rfl, hxr⟩ := hrel
    have hxw : Wb.Ext w wr := hx4.trans hxr
    by_cases hlt : k < A.length
    case neg =>
      obtain rfl : k = A.length := by omega
      go_wp2_with fail
      go_fit (dall_any _ _ A B _ (HSB1.out.ext (by (repeat' (first | (with_reducible assumption) | (with_reducible exact Wb.Ext.refl _) | (with_reducible refine Wb.Ext.drew ?_) | (with_reducible refine Wb.Ext.drewN ?_ _) | (with_reducible refine Wb.Ext.alloc ?_ _) | (with_reducible refine Wb.Ext.trans ?_ (by assumption)))))) (HSB2.out.ext (by (repeat' (first | (with_reducible assumption) | (with_reducible exact Wb.Ext.refl _) | (with_reducible refine Wb.Ext.drew ?_) | (with_reducible refine Wb.Ext.drewN ?_ _) | (with_reducible refine Wb.Ext.alloc ?_ _) | (with_reducible refine Wb.Ext.trans ?_ (by assumption)))))) (by omega) (by omega)); rintro e w20 ⟨v2, E2, rfl, R2, hI2⟩
      obtain ⟨da, dc, rfl⟩ := hI2.row.shape
      have HV2 := Lib.hid hI2.val
      have HR2 := Lib.hid hI2.row
      have hx20 : Wb.Ext w w20 := hxw.trans (Wb.Ext.trans (by (repeat' (first | (with_reducible assumption) | (with_reducible exact Wb.Ext.refl _) | (with_reducible refine Wb.Ext.drew ?_) | (with_reducible refine Wb.Ext.drewN ?_ _) | (with_reducible refine Wb.Ext.alloc ?_ _) | (with_reducible refine Wb.Ext.trans ?_ (by assumption))))) hI2.ext)
      have hR2l : R2.length ≤ 1000000 := Nat.le_trans (all_len HV2.out) (by omega)
      clear hI2
      obtain ⟨⟨x, eg⟩, hNA⟩ : ∃ p, Wb.netF 0 A = p := ⟨_, rfl⟩
      have HNA := Lib.hid hNA
      clear hNA
      go_wp2_with fail
      go_fit (dnet_any _ A _ (HSA.out.ext (by (repeat' (first | (with_reducible assumption) | (with_reducible exact Wb.Ext.refl _) | (with_reducible refine Wb.Ext.drew ?_) | (with_reducible refine Wb.Ext.drewN ?_ _) | (with_reducible refine Wb.Ext.alloc ?_ _) | (with_reducible refine Wb.Ext.trans ?_ (by assumption)))))) (by omega)); rintro e w21 ⟨rfl, hb21⟩
      rw [HNA.out]
      have hx21 : Wb.Ext w w21 := hx20.trans (Wb.Ext.trans (by (repeat' (first | (with_reducible assumption) | (with_reducible exact Wb.Ext.refl _) | (with_reducible refine Wb.Ext.drew ?_) | (with_reducible refine Wb.Ext.drewN ?_ _) | (with_reducible refine Wb.Ext.alloc ?_ _) | (with_reducible refine Wb.Ext.trans ?_ (by assumption))))) hb21)
      have hk21 : Wb.Ext w20 w21 := Wb.Ext.trans (by (repeat' (first | (with_reducible assumption) | (with_reducible exact Wb.Ext.refl _) | (with_reducible refine Wb.Ext.drew ?_) | (with_reducible refine Wb.Ext.drewN ?_ _) | (with_reducible refine Wb.Ext.alloc ?_ _) | (with_reducible refine Wb.Ext.trans ?_ (by assumption))))) hb21
      clear hb21
      obtain ⟨⟨y, eh⟩, hNB⟩ : ∃ p, Wb.netF 0 B = p := ⟨_, rfl⟩
      have HNB := Lib.hid hNB
      clear hNB
      go_wp2_with fail
      go_fit (dnet_any _ B _ (HSB.out.ext (by (repeat' (first | (with_reducible assumption) | (with_reducible exact Wb.Ext.refl _) | (with_reducible refine Wb.Ext.drew ?_) | (with_reducible refine Wb.Ext.drewN ?_ _) | (with_reducible refine Wb.Ext.alloc ?_ _) | (with_reducible refine Wb.Ext.trans ?_ (by assumption)))))) (by omega)); rintro e w22 ⟨rfl, hb22⟩
      rw [HNB.out]
      have hx22 : Wb.Ext w w22 := hx21.trans (Wb.Ext.trans (by (repeat' (first | (with_reducible assumption) | (with_reducible exact Wb.Ext.refl _) | (with_reducible refine Wb.Ext.drew ?_) | (with_reducible refine Wb.Ext.drewN ?_ _) | (with_reducible refine Wb.Ext.alloc ?_ _) | (with_reducible refine Wb.Ext.trans ?_ (by assumption))))) hb22)
      have hk22 : Wb.Ext w20 w22 := hk21.trans (Wb.Ext.trans (by (repeat' (first | (with_reducible assumption) | (with_reducible exact Wb.Ext.refl _) | (with_reducible refine Wb.Ext.drew ?_) | (with_reducible refine Wb.Ext.drewN ?_ _) | (with_reducible refine Wb.Ext.alloc ?_ _) | (with_reducible refine Wb.Ext.trans ?_ (by assumption))))) hb22)
      clear hb22
      have HX2022 : Hid (Wb.Ext w20 w22) := Lib.hid hk22
      have HR2' := Lib.hid (HR2.out.sls.ext (show Wb.Ext w20 w22 from HX2022.out))
      obtain ⟨⟨z, ei⟩, hNR⟩ : ∃ p, Wb.netF 0 R2 = p := ⟨_, rfl⟩
      have HNR := Lib.hid hNR
      clear hNR
      go_wp2_with fail
      go_fit (dnet_any _ R2 _ (HR2'.out.ext (by (repeat' (first | (with_reducible assumption) | (with_reducible exact Wb.Ext.refl _) | (with_reducible refine Wb.Ext.drew ?_) | (with_reducible refine Wb.Ext.drewN ?_ _) | (with_reducible refine Wb.Ext.alloc ?_ _) | (with_reducible refine Wb.Ext.trans ?_ (by assumption)))))) (by omega)); rintro e w23 ⟨rfl, hb23⟩
      rw [HNR.out]
      have hx23 : Wb.Ext w w23 := hx22.trans (Wb.Ext.trans (by (repeat' (first | (with_reducible assumption) | (with_reducible exact Wb.Ext.refl _) | (with_reducible refine Wb.Ext.drew ?_) | (with_reducible refine Wb.Ext.drewN ?_ _) | (with_reducible refine Wb.Ext.alloc ?_ _) | (with_reducible refine Wb.Ext.trans ?_ (by assumption))))) hb23)
      clear hb23
      by_cases zE2 : E2 = 0
      case neg =>
        have d1 : (E2 != 0) = true := by simpa using zE2
        have d2 : (E2 == 0) = false := by simpa using zE2
        clear zE2
        go_wp2
        go_ret
        exact ⟨rfl, by (repeat' (first | (with_reducible assumption) | (with_reducible exact Wb.Ext.refl _) | (with_reducible refine Wb.Ext.drew ?_) | (with_reducible refine Wb.Ext.drewN ?_ _) | (with_reducible refine Wb.Ext.alloc ?_ _) | (with_reducible refine Wb.Ext.trans ?_ (by assumption))))⟩
      subst zE2
      by_cases zeg : eg = 0
      case neg =>
        have d1 : (eg != 0) = true := by simpa using zeg
        have d2 : (eg == 0) = false := by simpa using zeg
        clear zeg
        go_wp2
        go_ret
        exact ⟨rfl, by (repeat' (first | (with_reducible assumption) | (with_reducible exact Wb.Ext.refl _) | (with_reducible refine Wb.Ext.drew ?_) | (with_reducible refine Wb.Ext.drewN ?_ _) | (with_reducible refine Wb.Ext.alloc ?_ _) | (with_reducible refine Wb.Ext.trans ?_ (by assumption))))⟩
      subst zeg
      by_cases zeh : eh = 0
      case neg =>
        have d1 : (eh != 0) = true := by simpa using zeh
        have d2 : (eh == 0) = false := by simpa using zeh
        clear zeh
        go_wp2
        go_ret
        exact ⟨rfl, by (repeat' (first | (with_reducible assumption) | (with_reducible exact Wb.Ext.refl _) | (with_reducible refine Wb.Ext.drew ?_) | (with_reducible refine Wb.Ext.drewN ?_ _) | (with_reducible refine Wb.Ext.alloc ?_ _) | (with_reducible refine Wb.Ext.trans ?_ (by assumption))))⟩
      subst zeh
      by_cases zei : ei = 0
      case neg =>
        have d1 : (ei != 0) = true := by simpa using zei
        have d2 : (ei == 0) = false := by simpa using zei
        clear zei
        go_wp2
        go_ret
        exact ⟨rfl, by (repeat' (first | (with_reducible assumption) | (with_reducible exact Wb.Ext.refl _) | (with_reducible refine Wb.Ext.drew ?_) | (with_reducible refine Wb.Ext.drewN ?_ _) | (with_reducible refine Wb.Ext.alloc ?_ _) | (with_reducible refine Wb.Ext.trans ?_ (by assumption))))⟩
      subst zei
      have hzz := Wb.nets_law HV2.out HNA.out HNB.out HNR.out
      have hfx := (Wb.fits_iff _).1 (Wb.net_fits (by decide) HNA.out)
      have hfy := (Wb.fits_iff _).1 (Wb.net_fits (by decide) HNB.out)
      have ew : IntKind.i64.wrap (y - x) = z := by rw [hzz]; exact IntWalk.i64_in _ (by omega)
      have ew2 : y - x = z := by omega
      clear hzz
      go_wp2
      go_ret
      exact ⟨rfl, by (repeat' (first | (with_reducible assumption) | (with_reducible exact Wb.Ext.refl _) | (with_reducible refine Wb.Ext.drew ?_) | (with_reducible refine Wb.Ext.drewN ?_ _) | (with_reducible refine Wb.Ext.alloc ?_ _) | (with_reducible refine Wb.Ext.trans ?_ (by assumption))))⟩
    obtain ⟨x, hx⟩ := Wb.get_ex hlt
    obtain ⟨s, hs⟩ := Wb.get_ex (show k < R1.length by rw [HRL.out]; exact hlt)
    obtain ⟨s1, s2, s3⟩ : s.y = x.y ∧ s.i = x.i ∧ s.l = [] := by
      have h1 : (R1.map Wb.ct)[k]? = some (Wb.ct s) := by rw [List.getElem?_map, hs]; rfl
      rw [HSF.out, List.getElem?_map, hx] at h1
      have h2 := Option.some.inj h1
      simp only [Wb.ct, Prod.mk.injEq] at h2
      exact ⟨h2.1.symm, h2.2.1.symm, h2.2.2.symm⟩
    obtain ⟨b, off, rfl, a0, a1, _⟩ := (HSA.out.ext hxw).cells hx
    obtain ⟨rb, ro, hre, hc⟩ := (HTR.out.ext hxr).opened (by intro e; rw [e] at hs; simp at hs)
    subst hre
    have r0 := hc k s hs 0 _ rfl
    have r1 := hc k s hs 1 _ rfl
    have r2 := hc k s hs 2 _ rfl
    simp only [Nat.add_zero] at r0
    obtain ⟨na, nc, hsv⟩ : ∃ a c, s.v = .slice a 0 c := by
      obtain ⟨a, c, h⟩ := (HR1.out.sls.2 s (List.mem_of_getElem? hs)).1.1.shape
      exact ⟨a, c, by rw [h, s3]; rfl⟩
    rw [s1] at r0
    rw [s2] at r1
    rw [hsv] at r2
    have hki : (k : Int) < A.length := by omega
    clear hx hs s1 s2 s3 hsv hc
    go_upto_region 12 with (fail)
    refine Wb.wp_at fun W0 hW0 => ?_
    have hb0 : Wb.Ext wr W0 := by rw [hW0]; first | exact Wb.Ext.refl _ | (repeat' (first | (with_reducible assumption) | (with_reducible exact Wb.Ext.refl _) | (with_reducible refine Wb.Ext.drew ?_) | (with_reducible refine Wb.Ext.drewN ?_ _) | (with_reducible refine Wb.Ext.alloc ?_ _) | (with_reducible refine Wb.Ext.trans ?_ (by assumption))))
    have r0 := hb0.keep r0
    have r1 := hb0.keep r1
    have r2 := hb0.keep r2
    have a0 := hb0.keep a0
    have a1 := hb0.keep a1
    have HX0 := Lib.hid (hxw.trans hb0)
    have hx40 : Wb.Ext w4 W0 := hxr.trans hb0
    clear hW0 hb0
    refine region_start (S := (fun w' => w'.cell? ⟨rb, ro + k * 3, none⟩ = some (.int .i64 x.y) ∧ w'.cell? ⟨rb, ro + k * 3 + 1, none⟩ = some (.int .i64 x.i) ∧ w'.cell? ⟨rb, ro + k * 3 + 2, none⟩ = some (.slice na 0 nc) ∧ w'.cell? ⟨b, off + k * 3, none⟩ = some (.int .i64 x.y) ∧ w'.cell? ⟨b, off + k * 3 + 1, none⟩ = some (.int .i64 x.i))) (n := 32) (l := #[false, false, false, false, false, false, false, false, false, false, false, false, false, false, false, false, false, false, false, false, false, false, false, false, false, false, false, false, false, false, false, false]) (by kernel_rfl) ⟨r0, r1, r2, a0, a1⟩ (by kernel_rfl) (by kernel_rfl) (fun hHeld => ?_)
    refine take_d (i := 0) (d := 45) (v := ?_) rfl rfl (by kernel_rfl) (by kernel_rfl) (by kernel_rfl) (fun _ _ _ h => h) (Or.inl ⟨by rfl, ?_⟩) (by assumption) ?_
    rotate_left
    · (intro w hSw; (try dsimp only at hSw); go_simp; (try with_reducible rfl))
    (try simp only [Act.put, List.setIfInBounds_toArray, List.set_cons_zero, List.set_cons_succ])
    refine take_d (i := 1) (d := 46) (v := ?_) rfl rfl (by kernel_rfl) (by kernel_rfl) (by kernel_rfl) (fun _ _ _ h => h) (Or.inl ⟨by rfl, ?_⟩) (by assumption) ?_
    rotate_left
    · (intro w hSw; (try dsimp only at hSw); go_simp; (try with_reducible rfl))
    (try simp only [Act.put, List.setIfInBounds_toArray, List.set_cons_zero, List.set_cons_succ])
    refine take_d (i := 2) (d := 47) (v := ?_) rfl rfl (by kernel_rfl) (by kernel_rfl) (by kernel_rfl) (fun _ _ _ h => h) (Or.inl ⟨by rfl, ?_⟩) (by assumption) ?_
    rotate_left
    · (intro w hSw; (try dsimp only at hSw); go_simp; (try with_reducible rfl))
    (try simp only [Act.put, List.setIfInBounds_toArray, List.set_cons_zero, List.set_cons_succ])
    refine take_d (i := 3) (d := 48) (v := ?_) rfl rfl (by kernel_rfl) (by kernel_rfl) (by kernel_rfl) (fun _ _ _ h => h) (Or.inl ⟨by rfl, ?_⟩) (by assumption) ?_
    rotate_left
    · (intro w hSw; (try dsimp only at hSw); go_simp; (try with_reducible rfl))
    (try simp only [Act.put, List.setIfInBounds_toArray, List.set_cons_zero, List.set_cons_succ])
    refine wpAnyH_ready (rs := [4]) (by kernel_rfl) (by simp) ?_
    refine AllReadyH.cons (o := _) rfl (fun K hK => ?_) AllReadyH.nil
    go_simp
    go_at_call 18
    go_fit (dzero_any x.y x.i (.slice na 0 nc) [] _ (.inl ⟨rfl, _, _, rfl⟩))
    rintro e w21 ⟨rfl, hb21⟩
    rw [show (List.isEmpty ([] : List Wb.Ln)) = true from rfl]
    have hx21 : Wb.Ext W0 w21 := Wb.Ext.trans (.drew (.refl _)) hb21
    clear hb21
    refine hK.out _ _ ⟨hx21.keep r0, hx21.keep r1, hx21.keep r2, hx21.keep a0, hx21.keep a1⟩ (fun hHeld => ?_)
    clear hK K
    (try simp only [List.setIfInBounds_toArray, List.set_cons_zero, List.set_cons_succ])
    refine take_d (i := 5) (d := 50) (v := ?_) rfl rfl (by kernel_rfl) (by kernel_rfl) (by kernel_rfl) (fun _ _ _ h => h) (Or.inl ⟨by rfl, ?_⟩) (by assumption) ?_
    rotate_left
    · (intro w hSw; (try dsimp only at hSw); go_simp; (try with_reducible rfl))
    (try simp only [Act.put, List.setIfInBounds_toArray, List.set_cons_zero, List.set_cons_succ])
    refine take_d (i := 6) (d := 51) (v := ?_) rfl rfl (by kernel_rfl) (by kernel_rfl) (by kernel_rfl) (fun _ _ _ h => h) (Or.inl ⟨by rfl, ?_⟩) (by assumption) ?_
    rotate_left
    · (intro w hSw; (try dsimp only at hSw); go_simp; (try with_reducible rfl))
    (try simp only [Act.put, List.setIfInBounds_toArray, List.set_cons_zero, List.set_cons_succ])
    refine take_d (i := 7) (d := 52) (v := ?_) rfl rfl (by kernel_rfl) (by kernel_rfl) (by kernel_rfl) (fun _ _ _ h => h) (Or.inl ⟨by rfl, ?_⟩) (by assumption) ?_
    rotate_left
    · (intro w hSw; (try dsimp only at hSw); go_simp; (try with_reducible rfl))
    (try simp only [Act.put, List.setIfInBounds_toArray, List.set_cons_zero, List.set_cons_succ])
    refine take_d (i := 8) (d := 53) (v := ?_) rfl rfl (by kernel_rfl) (by kernel_rfl) (by kernel_rfl) (fun _ _ _ h => h) (Or.inl ⟨by rfl, ?_⟩) (by assumption) ?_
    rotate_left
    · (intro w hSw; (try dsimp only at hSw); go_simp; (try with_reducible rfl))
    (try simp only [Act.put, List.setIfInBounds_toArray, List.set_cons_zero, List.set_cons_succ])
    refine take_d (i := 9) (d := 54) (v := ?_) rfl rfl (by kernel_rfl) (by kernel_rfl) (by kernel_rfl) (fun _ _ _ h => h) (Or.inl ⟨by rfl, ?_⟩) (by assumption) ?_
    rotate_left
    · (intro w hSw; (try dsimp only at hSw); go_simp; (try with_reducible rfl))
    (try simp only [Act.put, List.setIfInBounds_toArray, List.set_cons_zero, List.set_cons_succ])
    refine take_d (i := 10) (d := 55) (v := ?_) rfl rfl (by kernel_rfl) (by kernel_rfl) (by kernel_rfl) (fun _ _ _ h => h) (Or.inl ⟨by rfl, ?_⟩) (by assumption) ?_
    rotate_left
    · (intro w hSw; (try dsimp only at hSw); go_simp; (try with_reducible rfl))
    (try simp only [Act.put, List.setIfInBounds_toArray, List.set_cons_zero, List.set_cons_succ])
    refine take_d (i := 11) (d := 56) (v := ?_) rfl rfl (by kernel_rfl) (by kernel_rfl) (by kernel_rfl) (fun _ _ _ h => h) (Or.inl ⟨by rfl, ?_⟩) (by assumption) ?_
    rotate_left
    · (intro w hSw; (try dsimp only at hSw); go_simp; (try with_reducible rfl))
    (try simp only [Act.put, List.setIfInBounds_toArray, List.set_cons_zero, List.set_cons_succ])
    refine take_d (i := 12) (d := 57) (v := ?_) rfl rfl (by kernel_rfl) (by kernel_rfl) (by kernel_rfl) (fun _ _ _ h => h) (Or.inl ⟨by rfl, ?_⟩) (by assumption) ?_
    rotate_left
    · (intro w hSw; (try dsimp only at hSw); go_simp; (try with_reducible rfl))
    (try simp only [Act.put, List.setIfInBounds_toArray, List.set_cons_zero, List.set_cons_succ])
    refine take_d (i := 13) (d := 58) (v := ?_) rfl rfl (by kernel_rfl) (by kernel_rfl) (by kernel_rfl) (fun _ _ _ h => h) (Or.inl ⟨by rfl, ?_⟩) (by assumption) ?_
    rotate_left
    · (intro w hSw; (try dsimp only at hSw); go_simp; (try with_reducible rfl))
    (try simp only [Act.put, List.setIfInBounds_toArray, List.set_cons_zero, List.set_cons_succ])
    refine take_d (i := 14) (d := 59) (v := ?_) rfl rfl (by kernel_rfl) (by kernel_rfl) (by kernel_rfl) (fun _ _ _ h => h) (Or.inl ⟨by rfl, ?_⟩) (by assumption) ?_
    rotate_left
    · (intro w hSw; (try dsimp only at hSw); go_simp; (try with_reducible rfl))
    (try simp only [Act.put, List.setIfInBounds_toArray, List.set_cons_zero, List.set_cons_succ])
    refine take_d (i := 15) (d := 60) (v := ?_) rfl rfl (by kernel_rfl) (by kernel_rfl) (by kernel_rfl) (fun _ _ _ h => h) (Or.inl ⟨by rfl, ?_⟩) (by assumption) ?_
    rotate_left
    · (intro w hSw; (try dsimp only at hSw); go_simp; (try with_reducible rfl))
    (try simp only [Act.put, List.setIfInBounds_toArray, List.set_cons_zero, List.set_cons_succ])
    refine take_d (i := 16) (d := 61) (v := ?_) rfl rfl (by kernel_rfl) (by kernel_rfl) (by kernel_rfl) (fun _ _ _ h => h) (Or.inl ⟨by rfl, ?_⟩) (by assumption) ?_
    rotate_left
    · (intro w hSw; (try dsimp only at hSw); go_simp; (try with_reducible rfl))
    (try simp only [Act.put, List.setIfInBounds_toArray, List.set_cons_zero, List.set_cons_succ])
    refine take_d (i := 17) (d := 62) (v := ?_) rfl rfl (by kernel_rfl) (by kernel_rfl) (by kernel_rfl) (fun _ _ _ h => h) (Or.inl ⟨by rfl, ?_⟩) (by assumption) ?_
    rotate_left
    · (intro w hSw; (try dsimp only at hSw); go_simp; (try with_reducible rfl))
    (try simp only [Act.put, List.setIfInBounds_toArray, List.set_cons_zero, List.set_cons_succ])
    refine take_d (i := 18) (d := 63) (v := ?_) rfl rfl (by kernel_rfl) (by kernel_rfl) (by kernel_rfl) (fun _ _ _ h => h) (Or.inl ⟨by rfl, ?_⟩) (by assumption) ?_
    rotate_left
    · (intro w hSw; (try dsimp only at hSw); go_simp; (try with_reducible rfl))
    (try simp only [Act.put, List.setIfInBounds_toArray, List.set_cons_zero, List.set_cons_succ])
    refine take_d (i := 19) (d := 64) (v := ?_) rfl rfl (by kernel_rfl) (by kernel_rfl) (by kernel_rfl) (fun _ _ _ h => h) (Or.inl ⟨by rfl, ?_⟩) (by assumption) ?_
    rotate_left
    · (intro w hSw; (try dsimp only at hSw); go_simp; (try with_reducible rfl))
    (try simp only [Act.put, List.setIfInBounds_toArray, List.set_cons_zero, List.set_cons_succ])
    refine take_d (i := 20) (d := 65) (v := ?_) rfl rfl (by kernel_rfl) (by kernel_rfl) (by kernel_rfl) (fun _ _ _ h => h) (Or.inl ⟨by rfl, ?_⟩) (by assumption) ?_
    rotate_left
    · (intro w hSw; (try dsimp only at hSw); go_simp; (try with_reducible rfl))
    (try simp only [Act.put, List.setIfInBounds_toArray, List.set_cons_zero, List.set_cons_succ])
    refine take_d (i := 21) (d := 66) (v := ?_) rfl rfl (by kernel_rfl) (by kernel_rfl) (by kernel_rfl) (fun _ _ _ h => h) (Or.inl ⟨by rfl, ?_⟩) (by assumption) ?_
    rotate_left
    · (intro w hSw; (try dsimp only at hSw); go_simp; (try with_reducible rfl))
    (try simp only [Act.put, List.setIfInBounds_toArray, List.set_cons_zero, List.set_cons_succ])
    refine take_d (i := 22) (d := 67) (v := ?_) rfl rfl (by kernel_rfl) (by kernel_rfl) (by kernel_rfl) (fun _ _ _ h => h) (Or.inl ⟨by rfl, ?_⟩) (by assumption) ?_
    rotate_left
    · (intro w hSw; (try dsimp only at hSw); go_simp; (try with_reducible rfl))
    (try simp only [Act.put, List.setIfInBounds_toArray, List.set_cons_zero, List.set_cons_succ])
    refine take_d (i := 23) (d := 68) (v := ?_) rfl rfl (by kernel_rfl) (by kernel_rfl) (by kernel_rfl) (fun _ _ _ h => h) (Or.inl ⟨by rfl, ?_⟩) (by assumption) ?_
    rotate_left
    · (intro w hSw; (try dsimp only at hSw); go_simp; (try with_reducible rfl))
    (try simp only [Act.put, List.setIfInBounds_toArray, List.set_cons_zero, List.set_cons_succ])
    refine take_d (i := 24) (d := 69) (v := ?_) rfl rfl (by kernel_rfl) (by kernel_rfl) (by kernel_rfl) (fun _ _ _ h => h) (Or.inl ⟨by rfl, ?_⟩) (by assumption) ?_
    rotate_left
    · (intro w hSw; (try dsimp only at hSw); go_simp; (try with_reducible rfl))
    (try simp only [Act.put, List.setIfInBounds_toArray, List.set_cons_zero, List.set_cons_succ])
    refine take_d (i := 25) (d := 70) (v := ?_) rfl rfl (by kernel_rfl) (by kernel_rfl) (by kernel_rfl) (fun _ _ _ h => h) (Or.inl ⟨by rfl, ?_⟩) (by assumption) ?_
    rotate_left
    · (intro w hSw; (try dsimp only at hSw); go_simp; (try with_reducible rfl))
    (try simp only [Act.put, List.setIfInBounds_toArray, List.set_cons_zero, List.set_cons_succ])
    refine take_d (i := 26) (d := 71) (v := ?_) rfl rfl (by kernel_rfl) (by kernel_rfl) (by kernel_rfl) (fun _ _ _ h => h) (Or.inl ⟨by rfl, ?_⟩) (by assumption) ?_
    rotate_left
    · (intro w hSw; (try dsimp only at hSw); go_simp; (try with_reducible rfl))
    (try simp only [Act.put, List.setIfInBounds_toArray, List.set_cons_zero, List.set_cons_succ])
    refine take_d (i := 27) (d := 72) (v := ?_) rfl rfl (by kernel_rfl) (by kernel_rfl) (by kernel_rfl) (fun _ _ _ h => h) (Or.inl ⟨by rfl, ?_⟩) (by assumption) ?_
    rotate_left
    · (intro w hSw; (try dsimp only at hSw); go_simp; (try with_reducible rfl))
    (try simp only [Act.put, List.setIfInBounds_toArray, List.set_cons_zero, List.set_cons_succ])
    refine take_d (i := 28) (d := 73) (v := ?_) rfl rfl (by kernel_rfl) (by kernel_rfl) (by kernel_rfl) (fun _ _ _ h => h) (Or.inl ⟨by rfl, ?_⟩) (by assumption) ?_
    rotate_left
    · (intro w hSw; (try dsimp only at hSw); go_simp; (try with_reducible rfl))
    (try simp only [Act.put, List.setIfInBounds_toArray, List.set_cons_zero, List.set_cons_succ])
    refine take_d (i := 29) (d := 74) (v := ?_) rfl rfl (by kernel_rfl) (by kernel_rfl) (by kernel_rfl) (fun _ _ _ h => h) (Or.inl ⟨by rfl, ?_⟩) (by assumption) ?_
    rotate_left
    · (intro w hSw; (try dsimp only at hSw); go_simp; (try with_reducible rfl))
    (try simp only [Act.put, List.setIfInBounds_toArray, List.set_cons_zero, List.set_cons_succ])
    refine take_d (i := 30) (d := 75) (v := ?_) rfl rfl (by kernel_rfl) (by kernel_rfl) (by kernel_rfl) (fun _ _ _ h => h) (Or.inl ⟨by rfl, ?_⟩) (by assumption) ?_
    rotate_left
    · (intro w hSw; (try dsimp only at hSw); go_simp; (try with_reducible rfl))
    (try simp only [Act.put, List.setIfInBounds_toArray, List.set_cons_zero, List.set_cons_succ])
    refine take_d (i := 31) (d := 76) (v := ?_) rfl rfl (by kernel_rfl) (by kernel_rfl) (by kernel_rfl) (fun _ _ _ h => h) (Or.inl ⟨by rfl, ?_⟩) (by assumption) ?_
    rotate_left
    · (intro w hSw; (try dsimp only at hSw); go_simp; (try with_reducible rfl))
    (try simp only [Act.put, List.setIfInBounds_toArray, List.set_cons_zero, List.set_cons_succ])
    refine wpAnyH_done (by kernel_rfl) ?_ _
    have hxz : Wb.Ext w w21 := HX0.out.trans hx21
    clear r0 r1 r2 a0 a1
    go_wp2
    go_roundw
    case rel => exact ⟨k + 1, by omega, by go_num, hx40.trans (by (repeat' (first | (with_reducible assumption) | (with_reducible exact Wb.Ext.refl _) | (with_reducible refine Wb.Ext.drew ?_) | (with_reducible refine Wb.Ext.drewN ?_ _) | (with_reducible refine Wb.Ext.alloc ?_ _) | (with_reducible refine Wb.Ext.trans ?_ (by assumption)))))⟩
    case measure => first | (simp [intOf]; done) | (simp [intOf]; omega)

end Go.Proofs.Ytdfmlgjemfcmlaa
