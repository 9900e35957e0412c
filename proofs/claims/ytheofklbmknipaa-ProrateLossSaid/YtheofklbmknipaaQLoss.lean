/- Chapter 20: ProrateLoss. -/
import Derived.Test.YtheofklbmknipaaQLaw0
import Derived.Test.YtheofklbmknipaaRef20b
import Derived.Deep.RegionHeld3
import Derived.Deep.DeepCutAuto
namespace Go.Proofs.Ytheofklbmknipaa
open Go.RowKit Go.Lib
set_option maxRecDepth 8000
attribute [local go_sem ↓] Go.wp_at_zero Go.wp_at_succ

set_option maxHeartbeats 4000000 in
theorem ploss_walk (yr ix o f t pay sal m lost paid k : Int) (w : World) (_ : -9223372036854775808 ≤ ix ∧ ix ≤ 9223372036854775807) (hs : Bd (f, t)) (hm : -9223372036854775808 ≤ m ∧ m ≤ 9223372036854775807) :
    Calls Try.prog 4 #[PeV yr ix o (f, t) pay, .int .i64 sal, .int .i64 m, .int .i64 lost, .int .i64 paid, .int .i64 k] w fun e w' => e = .returned (.bool true) ∧ Wb.Ext w w' := by
  have HS := Lib.hid hs
  have HM := Lib.hid hm
  clear hs hm
  obtain ⟨⟨a, e1⟩, h1⟩ : ∃ p, lossR (f, t) sal m lost paid = p := ⟨_, rfl⟩
  obtain ⟨⟨c, e2⟩, h2⟩ : ∃ p, hourlyR sal k = p := ⟨_, rfl⟩
  have H1 := Lib.hid h1
  have H2 := Lib.hid h2
  clear h1 h2
  go_enter Try.func4, Try.ntmps4
  go_wp2_with fail
  go_fit (awake20_any _); rintro e w1 ⟨rfl, hb1⟩
  have xp0 : w1.cell? ⟨w.heap.size, 0, none⟩ = some (.int .i64 yr) := hb1.keep (by simp [go_sem])
  have xp1 : w1.cell? ⟨w.heap.size, 1, none⟩ = some (.int .i64 ix) := hb1.keep (by simp [go_sem])
  have xp2 : w1.cell? ⟨w.heap.size, 2, none⟩ = some (.int .i64 o) := hb1.keep (by simp [go_sem])
  have xp3 : w1.cell? ⟨w.heap.size, 3, none⟩ = some (.int .i64 f) := hb1.keep (by simp [go_sem])
  have xp4 : w1.cell? ⟨w.heap.size, 4, none⟩ = some (.int .i64 t) := hb1.keep (by simp [go_sem])
  have xp5 : w1.cell? ⟨w.heap.size, 5, none⟩ = some (.int .i64 pay) := hb1.keep (by simp [go_sem])
  have hx1 : Wb.Ext w w1 := Wb.Ext.trans (by (repeat' (first | (with_reducible assumption) | (with_reducible exact Wb.Ext.refl _) | (with_reducible refine Wb.Ext.drew ?_) | (with_reducible refine Wb.Ext.drewN ?_ _) | (with_reducible refine Wb.Ext.alloc ?_ _) | (with_reducible refine Wb.Ext.trans ?_ (by assumption))))) hb1
  clear hb1
  go_wp2_with fail
  go_fit (loss_any yr ix o (f, t) pay sal m lost paid HS.out HM.out _); rintro e w2 ⟨rfl, hb2⟩
  rw [H1.out]
  have xp0 := hb2.keep xp0
  have xp1 := hb2.keep xp1
  have xp2 := hb2.keep xp2
  have xp3 := hb2.keep xp3
  have xp4 := hb2.keep xp4
  have xp5 := hb2.keep xp5
  have hx2 : Wb.Ext w w2 := hx1.trans hb2
  clear hb2
  go_wp2_with fail
  go_fit (rloss_any (f, t) sal m lost paid HS.out HM.out _); rintro e w3 ⟨rfl, hb3⟩
  rw [H1.out]
  have hx3 : Wb.Ext w w3 := hx2.trans hb3
  clear hb3 xp0 xp1 xp2 xp3 xp4 xp5
  go_wp2_with fail
  go_fit (hourly_any sal k _); rintro e w4 ⟨rfl, hb4⟩
  rw [H2.out]
  have hx4 : Wb.Ext w w4 := hx3.trans hb4
  clear hb4
  go_wp2_with fail
  go_fit (rhourly_any sal k _); rintro e w5 ⟨rfl, hb5⟩
  rw [H2.out]
  have hx5 : Wb.Ext w w5 := hx4.trans hb5
  clear hb5
  go_wp2
  go_ret
  exact ⟨rfl, hx5⟩

end Go.Proofs.Ytheofklbmknipaa
