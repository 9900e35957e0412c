/- Chapter 6: the laws' helpers: of, the example, same. -/
import Derived.Test.YtalpdodajcdibaaDoorRPer5
import Derived.Test.YtalpdodajcdibaaDoorPer0
namespace Go.Proofs.YtalpdodajcdibaaDoor
open Go.RowKit
set_option maxRecDepth 4000

theorem ofc_any (c : Wb.Cal) (w : World) :
    Calls Tryd.prog 11 #[CalV c] w fun e w' => e = .returned (CalV c) ∧ Wb.Ext w w' := by
  go_enter Tryd.func11, Tryd.ntmps11
  go_wp2
  exact bodyPost_ret (v := CalV c) (by simp [results, Tryd.results11, go_sem]) rfl ⟨rfl, by (repeat' (first | (with_reducible assumption) | (with_reducible exact Wb.Ext.refl _) | (with_reducible refine Wb.Ext.drew ?_) | (with_reducible refine Wb.Ext.drewN ?_ _) | (with_reducible refine Wb.Ext.alloc ?_ _) | (with_reducible refine Wb.ext_set ?_ (by first | assumption | (simp; done) | (simp; omega) | omega) _) | (with_reducible refine Wb.Ext.trans ?_ (by assumption))))⟩

theorem ex_find : findErr ⟨0, 0, 5⟩ 19763 = 0 ∧ findPer ⟨0, 0, 5⟩ 19763 = ⟨2024, 2, 12, 19754, 19783, 19787⟩ := by
  have hc : Wb.calErr ⟨0, 0, 5⟩ = 0 := rfl
  have h : Wb.FindIs ⟨0, 0, 5⟩ 19763 ⟨2024, 2, 12, 19754, 19783, 19787⟩ :=
    ⟨2024, 1, (19754, 19783), ⟨by decide, by decide, (Wb.spans_month rfl 2024 1 _).2 ⟨by decide, rfl⟩⟩, by decide, by decide, rfl⟩
  exact findErr_is hc h
theorem ex_ptext : ptext 2024 2 = [50, 48, 50, 52, 47, 48, 50] := by
  have h2 : itoa 2 = [50] := by simp [itoa, Wb.digs_lt (n := 2) (by decide)]; rfl
  have h1 : itoa 2024 = [50, 48, 50, 52] := by simp [itoa, Wb.digs_ge (n := 2024) (by decide), Wb.digs_ge (n := 202) (by decide), Wb.digs_ge (n := 20) (by decide), Wb.digs_lt (n := 2) (by decide)]; decide
  simp [ptext, h1, h2]

theorem perEq28 (q p : Wb.Per) (w : World) : (binOp .eql 28 (PerV q) (PerV p)).run Tryd.prog w = .ok (.bool (decide (q = p))) w := by
  obtain ⟨a1, a2, a3, a4, a5, a6⟩ := q
  obtain ⟨b1, b2, b3, b4, b5, b6⟩ := p
  simp only [PerV]
  go_simp
  cases h1 : (a1 == b1) <;> cases h2 : (a2 == b2) <;> cases h3 : (a3 == b3) <;> cases h4 : (a4 == b4) <;> cases h5 : (a5 == b5) <;> cases h6 : (a6 == b6) <;> simp_all

set_option maxHeartbeats 1000000 in
theorem awake06_any (w : World) (hw : LenC w) (hp : LenP w) (ht : Tab10 w) :
    Calls Tryd.prog 12 #[] w fun e w' => e = .returned (.bool true) ∧ Wb.Ext w w' := by
  have HW := Lib.hid hw
  have HP := Lib.hid hp
  have HT := Lib.hid ht
  clear hw hp ht
  go_enter Tryd.func12, Tryd.ntmps12
  go_wp2_with fail
  refine (find_any ⟨0, 0, 5⟩ 19763 _ (HW.out.ext (by (repeat' (first | (with_reducible assumption) | (with_reducible exact Wb.Ext.refl _) | (with_reducible refine Wb.Ext.drew ?_) | (with_reducible refine Wb.Ext.drewN ?_ _) | (with_reducible refine Wb.Ext.alloc ?_ _) | (with_reducible refine Wb.Ext.trans ?_ (by assumption)))))) (HP.out.ext (by (repeat' (first | (with_reducible assumption) | (with_reducible exact Wb.Ext.refl _) | (with_reducible refine Wb.Ext.drew ?_) | (with_reducible refine Wb.Ext.drewN ?_ _) | (with_reducible refine Wb.Ext.alloc ?_ _) | (with_reducible refine Wb.Ext.trans ?_ (by assumption))))))).mono ?_; rintro e w1 ⟨rfl, hb1⟩
  rw [ex_find.1, ex_find.2]
  have he1 : Wb.Ext w w1 := by (repeat' (first | (with_reducible assumption) | (with_reducible exact Wb.Ext.refl _) | (with_reducible refine Wb.Ext.drew ?_) | (with_reducible refine Wb.Ext.drewN ?_ _) | (with_reducible refine Wb.Ext.alloc ?_ _) | (with_reducible refine Wb.Ext.trans ?_ (by assumption))))
  clear hb1
  go_wp2_with fail
  refine (ptext_any 2024 2 12 19754 19783 19787 (by decide) (by decide) _ (HT.out.ext (by (repeat' (first | (with_reducible assumption) | (with_reducible exact Wb.Ext.refl _) | (with_reducible refine Wb.Ext.drew ?_) | (with_reducible refine Wb.Ext.drewN ?_ _) | (with_reducible refine Wb.Ext.alloc ?_ _) | (with_reducible refine Wb.Ext.trans ?_ (by assumption))))))).mono ?_; rintro e w2 ⟨rfl, hb2⟩
  rw [ex_ptext]
  go_wp2
  go_ret
  exact ⟨rfl, by (repeat' (first | (with_reducible assumption) | (with_reducible exact Wb.Ext.refl _) | (with_reducible refine Wb.Ext.drew ?_) | (with_reducible refine Wb.Ext.drewN ?_ _) | (with_reducible refine Wb.Ext.alloc ?_ _) | (with_reducible refine Wb.Ext.trans ?_ (by assumption))))⟩

set_option maxHeartbeats 1000000 in
theorem same_any (v u : Value) (l : List Wb.Per) (w : World) (hv : Pers w v l) (hu : Pers w u l) (hn : l.length ≤ 100000) :
    Calls Tryd.prog 19 #[v, u] w fun e w' => e = .returned (.bool true) ∧ Wb.Ext w w' := by
  obtain ⟨va, vc, rfl⟩ := hv.shape
  obtain ⟨ua, uc, rfl⟩ := hu.shape
  have HV := Lib.hid hv
  have HU := Lib.hid hu
  clear hv hu
  go_enter Tryd.func19, Tryd.ntmps19
  go_wp2_with fail
  go_loopw [13] (fun iv wr => ∃ k : Nat, k ≤ l.length ∧ iv = .int .i64 k ∧ Wb.Ext w wr) (fun iv _ => l.length - (intOf iv).toNat)
  case atStart => exact ⟨0, by omega, rfl, by (repeat' (first | (with_reducible assumption) | (with_reducible exact Wb.Ext.refl _) | (with_reducible refine Wb.Ext.drew ?_) | (with_reducible refine Wb.Ext.drewN ?_ _) | (with_reducible refine Wb.Ext.alloc ?_ _) | (with_reducible refine Wb.Ext.trans ?_ (by assumption))))⟩
  case round =>
    obtain ⟨k, hk, rfl, hext⟩ := hrel
    by_cases hlt : k < l.length
    · obtain ⟨p, hp⟩ := Wb.get_ex hlt
      obtain ⟨b, off, rfl, hcells⟩ := (HV.out.ext hext).opened (tne hlt)
      obtain ⟨b2, off2, rfl, hcells2⟩ := (HU.out.ext hext).opened (tne hlt)
      have hc0 := hcells k p hp 0 _ rfl
      have hc1 := hcells k p hp 1 _ rfl
      have hc2 := hcells k p hp 2 _ rfl
      have hc3 := hcells k p hp 3 _ rfl
      have hc4 := hcells k p hp 4 _ rfl
      have hc5 := hcells k p hp 5 _ rfl
      have hd0 := hcells2 k p hp 0 _ rfl
      have hd1 := hcells2 k p hp 1 _ rfl
      have hd2 := hcells2 k p hp 2 _ rfl
      have hd3 := hcells2 k p hp 3 _ rfl
      have hd4 := hcells2 k p hp 4 _ rfl
      have hd5 := hcells2 k p hp 5 _ rfl
      simp only [Nat.add_zero] at hc0 hd0
      have hki : (k : Int) < l.length := by omega
      clear hcells hcells2 hp
      go_wp2_with fail
      go_quiet (fail)
      go_wp2
      go_roundw
      case rel => exact ⟨k + 1, by omega, by go_num, by (repeat' (first | (with_reducible assumption) | (with_reducible exact Wb.Ext.refl _) | (with_reducible refine Wb.Ext.drew ?_) | (with_reducible refine Wb.Ext.drewN ?_ _) | (with_reducible refine Wb.Ext.alloc ?_ _) | (with_reducible refine Wb.Ext.trans ?_ (by assumption))))⟩
      case measure => simp [intOf]; omega
    · go_wp2
      go_ret
      exact ⟨rfl, by (repeat' (first | (with_reducible assumption) | (with_reducible exact Wb.Ext.refl _) | (with_reducible refine Wb.Ext.drew ?_) | (with_reducible refine Wb.Ext.drewN ?_ _) | (with_reducible refine Wb.Ext.alloc ?_ _) | (with_reducible refine Wb.Ext.trans ?_ (by assumption))))⟩

end Go.Proofs.YtalpdodajcdibaaDoor
