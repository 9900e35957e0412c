/- The example of chapter 20's laws. -/
import Derived.Test.YtheofklbmknipaaPro3
namespace Go.Proofs.Ytheofklbmknipaa
open Go.RowKit Go.Lib
set_option maxRecDepth 8000
attribute [local go_sem ↓] Go.wp_at_zero Go.wp_at_succ

/-- pieces, written out as a literal -/
theorem pcs_lit (w : World) (n : Nat) (hn : n = w.heap.size) (L : List Pc) (T : TypeId) : Tbl 4 pcc (w.alloc (.cells (rowsOf pcc L).toArray T)) (.slice (some ⟨n, 0, none⟩) L.length L.length) L := by
  subst hn
  refine .inr ⟨_, 0, _, rfl, fun j x hj i u hu => ?_⟩
  have hi : i < 4 := by have := (List.getElem?_eq_some_iff.1 hu).1; rwa [pcc_len] at this
  have := rowsOf_get pcc_len hj i hi
  rw [hu] at this
  rw [Nat.zero_add]
  simpa [go_sem] using this
theorem ex20_sal : salaryR 3 12 (0, 31) [⟨(10, 31), 6000000, 1000000⟩] = (338710, 0) := by kernel_rfl
theorem ex20_loss : lossR (0, 31) 500000 9600 480 500000 = (12500, 0) := by kernel_rfl
theorem ex20_hour : hourlyR 6240000 2400 = (3000, 0) := by kernel_rfl
set_option maxHeartbeats 2000000 in
theorem awake20_any (w : World) : Calls Try.prog 11 #[] w fun e w' => e = .returned (.bool true) ∧ Wb.Ext w w' := by
  go_enter Try.func11, Try.ntmps11
  go_wp2_with fail
  go_fit (salary_any 0 3 12 0 31 0 _ [⟨(10, 31), 6000000, 1000000⟩] _ (by decide) (by simp [Bd]) (pcs_lit (w.alloc (.cells #[.int .i64 0, .int .i64 3, .int .i64 12, .int .i64 0, .int .i64 31, .int .i64 0] 26)) _ (by simp) _ _) (by simp [Bd]) (by simp)); rintro e w1 ⟨rfl, hb1⟩
  rw [ex20_sal]
  have c0 : w1.cell? ⟨w.heap.size, 0, none⟩ = some (.int .i64 0) := hb1.keep (by simp [go_sem])
  have c1 : w1.cell? ⟨w.heap.size, 1, none⟩ = some (.int .i64 3) := hb1.keep (by simp [go_sem])
  have c2 : w1.cell? ⟨w.heap.size, 2, none⟩ = some (.int .i64 12) := hb1.keep (by simp [go_sem])
  have c3 : w1.cell? ⟨w.heap.size, 3, none⟩ = some (.int .i64 0) := hb1.keep (by simp [go_sem])
  have c4 : w1.cell? ⟨w.heap.size, 4, none⟩ = some (.int .i64 31) := hb1.keep (by simp [go_sem])
  have c5 : w1.cell? ⟨w.heap.size, 5, none⟩ = some (.int .i64 0) := hb1.keep (by simp [go_sem])
  have hx1 : Wb.Ext w w1 := Wb.Ext.trans (by (repeat' (first | (with_reducible assumption) | (with_reducible exact Wb.Ext.refl _) | (with_reducible refine Wb.Ext.drew ?_) | (with_reducible refine Wb.Ext.drewN ?_ _) | (with_reducible refine Wb.Ext.alloc ?_ _) | (with_reducible refine Wb.Ext.trans ?_ (by assumption))))) hb1
  clear hb1
  go_wp2_with fail
  go_fit (loss_any 0 3 12 (0, 31) 0 500000 9600 480 500000 (by simp [Bd]) (by decide) _); rintro e w2 ⟨rfl, hb2⟩
  rw [ex20_loss]
  have hx2 : Wb.Ext w w2 := hx1.trans hb2
  clear hb2 c0 c1 c2 c3 c4 c5
  go_wp2_with fail
  go_fit (hourly_any 6240000 2400 _); rintro e w3 ⟨rfl, hb3⟩
  rw [ex20_hour]
  have hx3 : Wb.Ext w w3 := hx2.trans hb3
  clear hb3
  go_wp2
  go_ret
  exact ⟨rfl, by (repeat' (first | (with_reducible assumption) | (with_reducible exact Wb.Ext.refl _) | (with_reducible refine Wb.Ext.drew ?_) | (with_reducible refine Wb.Ext.drewN ?_ _) | (with_reducible refine Wb.Ext.alloc ?_ _) | (with_reducible refine Wb.Ext.trans ?_ (by assumption))))⟩

end Go.Proofs.Ytheofklbmknipaa
