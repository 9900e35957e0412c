/- Chapter 27: the example, and SlipChecks. -/
import Derived.Test.YtpiedhjjpmmomaaDoorSlip10
namespace Go.Proofs.YtpiedhjjpmmomaaDoor
open Go.RowKit
set_option maxRecDepth 4000

theorem exLns (w : World) (n : Nat) (hn : n = w.heap.size) (T : TypeId) : Lns (w.alloc (.cells #[.int .i64 0, .string (Wb.S [115, 97, 108, 97, 114, 121]), .int .i64 500000, .int .i64 3, .string (Wb.S [116, 97, 120]), .int .i64 80000, .int .i64 6, .string (Wb.S [111, 108, 100]), .int .i64 50000] T)) (.slice (some ⟨n, 0, none⟩) 3 3) exLines := by
  subst hn
  refine .inr ⟨_, 0, 3, rfl, fun j x hj => ?_⟩
  match j, hj with
  | 0, hj => simp [exLines] at hj; subst hj; simp [go_sem]
  | 1, hj => simp [exLines] at hj; subst hj; simp [go_sem]
  | 2, hj => simp [exLines] at hj; subst hj; simp [go_sem]
  | j + 3, hj => simp [exLines] at hj
theorem exSized : Sized exLines := by
  refine ⟨by decide, fun x hx => ?_⟩
  simp [exLines] at hx
  rcases hx with rfl | rfl | rfl <;> simp

set_option maxHeartbeats 1000000 in
theorem awake27_any (w : World) (ht : Tab10 w) (hw : Words w) :
    Calls Tryd.prog 11 #[] w fun e w' => e = .returned (.bool true) ∧ Wb.Ext w w' := by
  have HW := Lib.hid hw
  have HTB := Lib.hid ht
  clear hw ht
  go_enter Tryd.func11, Tryd.ntmps11
  go_wp2_with fail
  refine (sums_any 2024 2 _ exLines _ (Lns.ext (exLns w _ rfl _) ((Wb.Ext.refl _).alloc _)) exSized).mono ?_; rintro e w1 ⟨rfl, hb1⟩
  rw [ex_sums]
  have hk0 : w1.cell? ⟨w.heap.size + 1, 0, none⟩ = some (.int .i64 2024) := hb1.keep (by simp [go_sem])
  have hk1 : w1.cell? ⟨w.heap.size + 1, 1, none⟩ = some (.int .i64 2) := hb1.keep (by simp [go_sem])
  have hk2 : w1.cell? ⟨w.heap.size + 1, 2, none⟩ = some (.slice (some ⟨w.heap.size, 0, none⟩) 3 3) := hb1.keep (by simp [go_sem])
  have HL1 := Lib.hid (Lns.ext (Lns.ext (exLns w _ rfl 39) ((Wb.Ext.refl _).alloc _)) hb1)
  have he1 : Wb.Ext w w1 := by (repeat' (first | (with_reducible assumption) | (with_reducible exact Wb.Ext.refl _) | (with_reducible refine Wb.Ext.drew ?_) | (with_reducible refine Wb.Ext.drewN ?_ _) | (with_reducible refine Wb.Ext.alloc ?_ _) | (with_reducible refine Wb.Ext.trans ?_ (by assumption))))
  go_wp2_with fail
  refine (stext_any 2024 2 _ exLines _ HL1.out exSized (HTB.out.ext he1) (HW.out.ext he1)).mono ?_; rintro e w2 ⟨rfl, hb2⟩
  rw [ex_text]
  have he2 : Wb.Ext w w2 := by (repeat' (first | (with_reducible assumption) | (with_reducible exact Wb.Ext.refl _) | (with_reducible refine Wb.Ext.drew ?_) | (with_reducible refine Wb.Ext.drewN ?_ _) | (with_reducible refine Wb.Ext.alloc ?_ _) | (with_reducible refine Wb.Ext.trans ?_ (by assumption))))
  clear hb1
  go_wp2
  go_ret
  exact ⟨rfl, by (repeat' (first | (with_reducible assumption) | (with_reducible exact Wb.Ext.refl _) | (with_reducible refine Wb.Ext.drew ?_) | (with_reducible refine Wb.Ext.drewN ?_ _) | (with_reducible refine Wb.Ext.alloc ?_ _) | (with_reducible refine Wb.Ext.trans ?_ (by assumption))))⟩

end Go.Proofs.YtpiedhjjpmmomaaDoor
