/- MAw -/
import Derived.Test.YtnefdpnolojojaaGreatDoorRun27
import Derived.BigQuiet
namespace Go.Proofs.YtnefdpnolojojaaGreatDoor
open Go.RowKit Go.Sort Go.Lib Go.Maps
set_option maxRecDepth 8000
attribute [local go_sem ↓] Go.wp_at_zero Go.wp_at_succ
theorem row_one {rows : List RwM} {R : Wb.Rw} (h : rows.map RwM.c = [R]) : ∃ r, rows = [r] ∧ r.c = R := by
 rcases rows with _ | ⟨r, _ | ⟨s, t⟩⟩
 ·cases h
 ·simp only [List.map_cons, List.map_nil, List.cons.injEq, and_true] at h
  exact ⟨r, rfl, h⟩
 ·simp at h
set_option maxHeartbeats 16000000 in
theorem awake31_any (w : World) : Calls Tryz.prog 10 #[] w fun e w' => e = .returned (.bool true) ∧ Wb.Ext w w' := by
 go_enter Tryz.func10, Tryz.ntmps10
 go_upto_region 2 with (fail)
 refine Wb.wp_at fun W1 hW1 => ?_
 obtain ⟨A, hA⟩ : ∃ A, w.heap.size = A := ⟨_, rfl⟩
 have a0 : W1.cell? ⟨A, 0, none⟩ = some (.slice none 0 0) := by rw [hW1, ← hA]; simp [go_sem]
 have a1 : W1.cell? ⟨A, 1, none⟩ = some (.map none) := by rw [hW1, ← hA]; simp [go_sem]
 have a2 : W1.cell? ⟨A, 2, none⟩ = some (.map none) := by rw [hW1, ← hA]; simp [go_sem]
 have af : ∀ j, W1.frozen? ⟨A, j, none⟩ = false := fun j => by rw [hW1, ← hA]; simp [go_sem]
 have hAs : A < W1.heap.size := by rw [hW1, ← hA]; simp
 have hx1 : Wb.Ext w W1 := by rw [hW1]; (repeat' (first | (with_reducible assumption) | (with_reducible exact Wb.Ext.refl _) | (with_reducible refine Wb.Ext.drew ?_) | (with_reducible refine Wb.Ext.drewN ?_ _) | (with_reducible refine Wb.Ext.alloc ?_ _) | (with_reducible refine Wb.ext_set ?_ (by first | assumption | (simp; done) | (simp; omega) | omega) _) | (with_reducible refine Wb.Ext.trans ?_ (by assumption))))
 have hwA : w.heap.size ≤ A := by omega
 rw [hA]
 clear hW1 hA
 refine Code.wp_mono (OnEnd.imp ?_) (aw2 _ _ _ _ _ _ _ _ _ _ _ _ _ _ _ _ _ _ _ _ _ _ _ _ _ _ _ _ _ _ _ _ _ _ _ _ _ _ _ _ _ _ _ _ _ _ _ _ _ _ _ _ _ _ _ _ _ _ _ _ _ _ _ _ _ _ _ _ _ _ _ _ _ _ w W1 A a0 a1 a2 af hAs hx1 hwA)
 rintro a' W3 ⟨X, u6, u7, u8, u9, u10, u11, u12, u13, u14, u15, rfl, hcut⟩
 clear a0 a1 a2 af hAs hx1
 (try dsimp only)
 go_wp2_with fail
 refine Code.wp_mono (OnEnd.imp ?_) (aw3 _ _ _ _ _ _ _ _ _ _ _ _ _ _ _ _ _ _ _ _ _ _ _ _ _ _ _ _ _ _ _ _ _ _ _ _ _ _ _ _ _ _ _ _ _ _ _ _ _ _ _ _ _ _ _ _ _ _ _ _ _ _ _ _ _ _ _ _ _ _ _ _ w W3 A X W1.heap.size hcut hwA)
 rintro a' W4 ⟨Y, u16, u17, u18, u19, u20, u21, u22, u23, u24, u25, u26, rfl, hcut2, hk⟩
 obtain ⟨-, -, -, -, -, pa, pc, prows, hXA, -, hXs, hAs, -, -, -, -, x4, -, hpr, hpc, -⟩ := hcut
 obtain ⟨ra, rl, rc, mp, mo, qa, qc, rows, hYA, -, hYs, hAs2, a0, a1, a2, -, y4, hbk, hr, hc, hx⟩ := hcut2
 replace x4 := hk.cell hXA x4
 have hp4 := hpr W4 hk
 have hr4 := hr W4 .refl
 obtain ⟨r1, rfl, h1⟩ := row_one hpc
 obtain ⟨r2, rfl, h2⟩ := row_one hc
 obtain ⟨xb, xo, hxb, hxc⟩ := hp4.tab.opened (by simp)
 obtain rfl : pa = some ⟨xb, xo, none⟩ := hxb
 obtain ⟨yb, yo, hyb, hyc⟩ := hr4.tab.opened (by simp)
 obtain rfl : qa = some ⟨yb, yo, none⟩ := hyb
 have e1 : r1.paid = 10000 := congrArg Wb.Rw.paid h1
 have e2 : r2.paid = 9000 := congrArg Wb.Rw.paid h2
 have e3 : r2.back.length = 1 := by have := congrArg (fun r : Wb.Rw => r.back.length) h2; simpa [RwM.c, Wb.R2] using this
 obtain ⟨va, vc, hbv⟩ := (hr4.each r2 (by simp)).back.1.shape
 rw [e3] at hbv
 have p6 : W4.cell? ⟨xb, xo + 6, none⟩ = some (.int .i64 10000) := by have := hxc 0 r1 rfl 6 _ rfl; rw [e1] at this; simpa using this
 have q4 : W4.cell? ⟨yb, yo + 4, none⟩ = some (.slice va 1 vc) := by have := hyc 0 r2 rfl 4 _ rfl; rw [hbv] at this; simpa using this
 have q6 : W4.cell? ⟨yb, yo + 6, none⟩ = some (.int .i64 9000) := by have := hyc 0 r2 rfl 6 _ rfl; rw [e2] at this; simpa using this
 have HBK := Lib.hid hbk
 have HX := Lib.hid hx
 have ho : Wb.B2.owed 1 = 0 := by decide
 clear hxc hyc hp4 hr4 hpr hr hbk hx h1 h2 hpc hc hbv e1 e2 e3 hk
 (try dsimp only)
 go_wp2_with fail
 go_fit (owed31_any _ mp mo Wb.B2 [1, 1] 3 1 (u32_ok (by omega)) _ (HBK.out.now.ext (by (repeat' (first | (with_reducible assumption) | (with_reducible exact Wb.Ext.refl _) | (with_reducible refine Wb.Ext.drew ?_) | (with_reducible refine Wb.Ext.drewN ?_ _) | (with_reducible refine Wb.Ext.alloc ?_ _) | (with_reducible refine Wb.Ext.trans ?_ (by assumption))))))); rintro e w5 ⟨rfl, hx5⟩
 rw [ho]
 have HX5 := Lib.hid (HX.out.trans (show Wb.Ext W4 w5 by (repeat' (first | (with_reducible assumption) | (with_reducible exact Wb.Ext.refl _) | (with_reducible refine Wb.Ext.drew ?_) | (with_reducible refine Wb.Ext.drewN ?_ _) | (with_reducible refine Wb.Ext.alloc ?_ _) | (with_reducible refine Wb.Ext.trans ?_ (by assumption))))))
 clear hx5
 go_wp2
 exact bodyPost_ret (v := .bool true) (by simp [results, Tryz.results10, go_sem]) rfl ⟨rfl, HX5.out⟩
end Go.Proofs.YtnefdpnolojojaaGreatDoor
namespace Go.Proofs.YtnefdpnolojojaaGreatDoor
end Go.Proofs.YtnefdpnolojojaaGreatDoor
