/- Chapter 20: ProrateSalary. -/
import Derived.Test.YtheofklbmknipaaQLaw0
import Derived.Test.YtheofklbmknipaaRef20c
import Derived.Test.YtheofklbmknipaaQOf
import Derived.Test.YtheofklbmknipaaLift20
import Derived.Deep.RegionHeld3
import Derived.Deep.DeepCutAuto
namespace Go.Proofs.Ytheofklbmknipaa
open Go.RowKit Go.Lib
set_option maxRecDepth 8000
attribute [local go_sem ↓] Go.wp_at_zero Go.wp_at_succ

set_option maxHeartbeats 4000000 in
theorem psalary_walk (yr ix o f t pay : Int) (Y : Int) (v : Value) (L : List Pc) (w : World) (hi : -9223372036854775808 ≤ ix ∧ ix ≤ 9223372036854775807) (hs : Bd (f, t)) (hl : PcS w v L) (hbl : ∀ x ∈ L, BdP x) :
    Calls Try.prog 3 #[PeV yr ix o (f, t) pay, .int .i64 Y, v] w fun e w' => e = .returned (.bool true) ∧ Wb.Ext w w' := by
  obtain ⟨la, lc, rfl, hlc⟩ := hl.2.2
  have HL := Lib.hid hl.1
  have HBL : Hid (∀ x ∈ L, Bd x.d) := Lib.hid fun x hx => (hbl x hx).1
  have HI := Lib.hid hi
  have HS := Lib.hid hs
  clear hl hbl hi hs
  obtain ⟨⟨a, e1⟩, h1⟩ : ∃ p, perR ix o Y = p := ⟨_, rfl⟩
  obtain ⟨⟨c, e2⟩, h2⟩ : ∃ p, salaryR ix o (f, t) L = p := ⟨_, rfl⟩
  have H1 := Lib.hid h1
  have H2 := Lib.hid h2
  clear h1 h2
  go_enter Try.func3, Try.ntmps3
  go_wp2_with fail
  go_fit (awake20_any _); rintro e w1 ⟨rfl, hb1⟩
  have xp0 : w1.cell? ⟨w.heap.size, 0, none⟩ = some (.int .i64 yr) := hb1.keep (by simp [go_sem])
  have xp1 : w1.cell? ⟨w.heap.size, 1, none⟩ = some (.int .i64 ix) := hb1.keep (by simp [go_sem])
  have xp2 : w1.cell? ⟨w.heap.size, 2, none⟩ = some (.int .i64 o) := hb1.keep (by simp [go_sem])
  have xp3 : w1.cell? ⟨w.heap.size, 3, none⟩ = some (.int .i64 f) := hb1.keep (by simp [go_sem])
  have xp4 : w1.cell? ⟨w.heap.size, 4, none⟩ = some (.int .i64 t) := hb1.keep (by simp [go_sem])
  have xp5 : w1.cell? ⟨w.heap.size, 5, none⟩ = some (.int .i64 pay) := hb1.keep (by simp [go_sem])
  have hx1 : Wb.Ext w w1 := Wb.Ext.trans (by (repeat' (first | (with_reducible assumption) | (with_reducible exact Wb.Ext.refl _) | (with_reducible refine Wb.Ext.drew ?_) | (with_reducible refine Wb.Ext.drewN ?_ _) | (with_reducible refine Wb.Ext.alloc ?_ _) | (with_reducible refine Wb.Ext.trans ?_ (by assumption))))) hb1
  clear hb1
  by_cases hlen : 80 < L.length
  case pos =>
    have d1 : decide (80 < (L.length : Int)) = true := by simp; omega
    go_wp2
    go_ret
    exact ⟨rfl, hx1⟩
  have d1 : decide (80 < (L.length : Int)) = false := by simp; omega
  have hl80 : L.length ≤ 80 := by omega
  clear hlen
  go_wp2_with fail
  go_fit (period_any yr ix o (f, t) pay Y HI.out _); rintro e w2 ⟨rfl, hb2⟩
  rw [H1.out]
  have xp0 := hb2.keep xp0
  have xp1 := hb2.keep xp1
  have xp2 := hb2.keep xp2
  have xp3 := hb2.keep xp3
  have xp4 := hb2.keep xp4
  have xp5 := hb2.keep xp5
  have hx2 : Wb.Ext w w2 := hx1.trans hb2
  clear hb2
  go_wp2_with fail
  go_fit (rper_any ix o Y HI.out _); rintro e w' ⟨rfl, hw⟩
  subst hw
  rw [H1.out]
  go_wp2_with fail
  go_fit (salary_any yr ix o f t pay _ L _ HI.out HS.out (HL.out.ext (by (repeat' (first | (with_reducible assumption) | (with_reducible exact Wb.Ext.refl _) | (with_reducible refine Wb.Ext.drew ?_) | (with_reducible refine Wb.Ext.drewN ?_ _) | (with_reducible refine Wb.Ext.alloc ?_ _) | (with_reducible refine Wb.Ext.trans ?_ (by assumption)))))) HBL.out (by omega)); rintro e w3 ⟨rfl, hb3⟩
  rw [H2.out]
  have xp0 := hb3.keep xp0
  have xp1 := hb3.keep xp1
  have xp2 := hb3.keep xp2
  have xp3 := hb3.keep xp3
  have xp4 := hb3.keep xp4
  have xp5 := hb3.keep xp5
  have hx3 : Wb.Ext w w3 := hx2.trans hb3
  clear hb3
  go_upto_region 8 with (fail)
  refine Wb.wp_at fun W0 hW0 => ?_
  have hb0 : Wb.Ext w3 W0 := by rw [hW0]; first | exact Wb.Ext.refl _ | (repeat' (first | (with_reducible assumption) | (with_reducible exact Wb.Ext.refl _) | (with_reducible refine Wb.Ext.drew ?_) | (with_reducible refine Wb.Ext.drewN ?_ _) | (with_reducible refine Wb.Ext.alloc ?_ _) | (with_reducible refine Wb.Ext.trans ?_ (by assumption))))
  have xp1 := hb0.keep xp1
  have xp2 := hb0.keep xp2
  have xp3 := hb0.keep xp3
  have xp4 := hb0.keep xp4
  have hx0 : Wb.Ext w W0 := hx3.trans hb0
  clear hW0 hb0
  refine region_start (S := (fun w' => w'.cell? ⟨w.heap.size, 1, none⟩ = some (.int .i64 ix) ∧ w'.cell? ⟨w.heap.size, 2, none⟩ = some (.int .i64 o) ∧ w'.cell? ⟨w.heap.size, 3, none⟩ = some (.int .i64 f) ∧ w'.cell? ⟨w.heap.size, 4, none⟩ = some (.int .i64 t))) (n := 14) (l := #[false, false, false, false, false, false, false, false, false, false, false, false, false, false]) (by kernel_rfl) ⟨xp1, xp2, xp3, xp4⟩ (by kernel_rfl) (by kernel_rfl) (fun hHeld => ?_)
  refine take_d (i := 0) (d := 42) (v := ?_) rfl rfl (by kernel_rfl) (by kernel_rfl) (by kernel_rfl) (fun _ _ _ h => h) (Or.inl ⟨by rfl, ?_⟩) (by assumption) ?_
  rotate_left
  · (intro w hSw; (try dsimp only at hSw); go_simp; (try with_reducible rfl))
  (try simp only [Act.put, List.setIfInBounds_toArray, List.set_cons_zero, List.set_cons_succ])
  refine take_d (i := 1) (d := 43) (v := ?_) rfl rfl (by kernel_rfl) (by kernel_rfl) (by kernel_rfl) (fun _ _ _ h => h) (Or.inl ⟨by rfl, ?_⟩) (by assumption) ?_
  rotate_left
  · (intro w hSw; (try dsimp only at hSw); go_simp; (try with_reducible rfl))
  (try simp only [Act.put, List.setIfInBounds_toArray, List.set_cons_zero, List.set_cons_succ])
  refine take_d (i := 2) (d := 44) (v := ?_) rfl rfl (by kernel_rfl) (by kernel_rfl) (by kernel_rfl) (fun _ _ _ h => h) (Or.inl ⟨by rfl, ?_⟩) (by assumption) ?_
  rotate_left
  · (intro w hSw; (try dsimp only at hSw); go_simp; (try with_reducible rfl))
  (try simp only [Act.put, List.setIfInBounds_toArray, List.set_cons_zero, List.set_cons_succ])
  refine take_d (i := 3) (d := 45) (v := ?_) rfl rfl (by kernel_rfl) (by kernel_rfl) (by kernel_rfl) (fun _ _ _ h => h) (Or.inl ⟨by rfl, ?_⟩) (by assumption) ?_
  rotate_left
  · (intro w hSw; (try dsimp only at hSw); go_simp; (try with_reducible rfl))
  (try simp only [Act.put, List.setIfInBounds_toArray, List.set_cons_zero, List.set_cons_succ])
  refine take_d (i := 4) (d := 46) (v := ?_) rfl rfl (by kernel_rfl) (by kernel_rfl) (by kernel_rfl) (fun _ _ _ h => h) (Or.inl ⟨by rfl, ?_⟩) (by assumption) ?_
  rotate_left
  · (intro w hSw; (try dsimp only at hSw); go_simp; (try with_reducible rfl))
  (try simp only [Act.put, List.setIfInBounds_toArray, List.set_cons_zero, List.set_cons_succ])
  refine take_d (i := 5) (d := 47) (v := ?_) rfl rfl (by kernel_rfl) (by kernel_rfl) (by kernel_rfl) (fun _ _ _ h => h) (Or.inl ⟨by rfl, ?_⟩) (by assumption) ?_
  rotate_left
  · (intro w hSw; (try dsimp only at hSw); go_simp; (try with_reducible rfl))
  (try simp only [Act.put, List.setIfInBounds_toArray, List.set_cons_zero, List.set_cons_succ])
  refine take_d (i := 6) (d := 48) (v := ?_) rfl rfl (by kernel_rfl) (by kernel_rfl) (by kernel_rfl) (fun _ _ _ h => h) (Or.inl ⟨by rfl, ?_⟩) (by assumption) ?_
  rotate_left
  · (intro w hSw; (try dsimp only at hSw); go_simp; (try with_reducible rfl))
  (try simp only [Act.put, List.setIfInBounds_toArray, List.set_cons_zero, List.set_cons_succ])
  refine wpAnyH_ready (rs := [7]) (by kernel_rfl) (by simp) ?_
  refine AllReadyH.cons (o := _) rfl (fun K hK => ?_) AllReadyH.nil
  go_simp
  go_at_call 16
  go_fit (lof_any _ L _ (HL.out.ext (hx0.trans (.drew (.refl _)))) hl80)
  rintro e w21 ⟨u, rfl, hu, hb21⟩
  obtain ⟨ua, uc, rfl⟩ := hu.shape
  have HU := Lib.hid hu
  have hy21 : Wb.Ext W0 w21 := Wb.Ext.trans (.drew (.refl _)) hb21
  clear hu hb21
  refine hK.out _ _ ⟨hy21.keep xp1, hy21.keep xp2, hy21.keep xp3, hy21.keep xp4⟩ (fun hHeld => ?_)
  clear hK K
  (try simp only [List.setIfInBounds_toArray, List.set_cons_zero, List.set_cons_succ])
  refine wpAnyH_ready (rs := [8]) (by kernel_rfl) (by simp) ?_
  refine AllReadyH.cons (o := _) rfl (fun K hK => ?_) AllReadyH.nil
  go_simp
  go_at_call 15
  go_fit (rsalary_any ix o f t _ L _ HI.out HS.out HU.out HBL.out (by omega))
  rintro e w22 ⟨rfl, hb22⟩
  rw [H2.out]
  have hy22 : Wb.Ext W0 w22 := Wb.Ext.trans hy21 hb22
  clear hb22
  refine hK.out _ _ ⟨hy22.keep xp1, hy22.keep xp2, hy22.keep xp3, hy22.keep xp4⟩ (fun hHeld => ?_)
  clear hK K
  (try simp only [List.setIfInBounds_toArray, List.set_cons_zero, List.set_cons_succ])
  refine take_d (i := 9) (d := 41) (v := ?_) rfl rfl (by kernel_rfl) (by kernel_rfl) (by kernel_rfl) (fun _ _ _ h => h) (Or.inl ⟨by rfl, ?_⟩) (by assumption) ?_
  rotate_left
  · (intro w hSw; (try dsimp only at hSw); go_simp; (try with_reducible rfl))
  (try simp only [Act.put, List.setIfInBounds_toArray, List.set_cons_zero, List.set_cons_succ])
  refine take_d (i := 10) (d := 51) (v := ?_) rfl rfl (by kernel_rfl) (by kernel_rfl) (by kernel_rfl) (fun _ _ _ h => h) (Or.inl ⟨by rfl, ?_⟩) (by assumption) ?_
  rotate_left
  · (intro w hSw; (try dsimp only at hSw); go_simp; (try with_reducible rfl))
  (try simp only [Act.put, List.setIfInBounds_toArray, List.set_cons_zero, List.set_cons_succ])
  refine take_d (i := 11) (d := 52) (v := ?_) rfl rfl (by kernel_rfl) (by kernel_rfl) (by kernel_rfl) (fun _ _ _ h => h) (Or.inl ⟨by rfl, ?_⟩) (by assumption) ?_
  rotate_left
  · (intro w hSw; (try dsimp only at hSw); go_simp; (try with_reducible rfl))
  (try simp only [Act.put, List.setIfInBounds_toArray, List.set_cons_zero, List.set_cons_succ])
  refine take_d (i := 12) (d := 13) (v := ?_) rfl rfl (by kernel_rfl) (by kernel_rfl) (by kernel_rfl) (fun _ _ _ h => h) (Or.inl ⟨by rfl, ?_⟩) (by assumption) ?_
  rotate_left
  · (intro w hSw; (try dsimp only at hSw); go_simp; (try with_reducible rfl))
  (try simp only [Act.put, List.setIfInBounds_toArray, List.set_cons_zero, List.set_cons_succ])
  refine take_d (i := 13) (d := 14) (v := ?_) rfl rfl (by kernel_rfl) (by kernel_rfl) (by kernel_rfl) (fun _ _ _ h => h) (Or.inl ⟨by rfl, ?_⟩) (by assumption) ?_
  rotate_left
  · (intro w hSw; (try dsimp only at hSw); go_simp; (try with_reducible rfl))
  (try simp only [Act.put, List.setIfInBounds_toArray, List.set_cons_zero, List.set_cons_succ])
  refine wpAnyH_done (by kernel_rfl) ?_ _
  have hxe : Wb.Ext w w22 := hx0.trans hy22
  go_wp2
  go_ret
  exact ⟨rfl, hxe⟩

end Go.Proofs.Ytheofklbmknipaa
