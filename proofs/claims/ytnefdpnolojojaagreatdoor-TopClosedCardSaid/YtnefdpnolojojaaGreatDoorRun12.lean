/- Run12 -/
import Derived.Test.YtnefdpnolojojaaGreatDoorMRb
import Derived.BigQuiet
namespace Go.Proofs.YtnefdpnolojojaaGreatDoor
open Go.RowKit Go.Sort Go.Lib Go.Maps
set_option maxRecDepth 8000
attribute [local go_sem ↓] Go.wp_at_zero Go.wp_at_succ
def RunsOk (runs : List Wb.Rn) : Prop := ∀ r ∈ runs, 1900 ≤ r.y ∧ r.y ≤ 2199 ∧ 1 ≤ r.i ∧ r.i ≤ 400
theorem last_mem {L : List RnM} {x : RnM} (h : L.getLast? = some x) : x ∈ L := by
 rw [List.getLast?_eq_some_iff] at h
 obtain ⟨l, rfl⟩ := h
 simp
theorem head_last {L : List RnM} {y i k : Int} (h1 : ¬ (y < 1900 ∨ 2199 < y ∨ i < 1 ∨ 400 < i ∨ k < 0)) : Wb.headE (L.map RnM.c) y i k = if L.isEmpty = true then 0 else if Wb.perN y i ≤ Wb.perN (lastC L).y (lastC L).i ∨ k < (lastC L).k then 8 else 0 := by
 unfold Wb.headE lastC
 rw [if_neg h1, List.getLast?_map]
 rcases hl : L.getLast? with _ | x
 ·have : L = [] := List.getLast?_eq_none_iff.1 hl
  subst this; rfl
 ·have : L.isEmpty = false := by
   rcases L with _ | ⟨a, b⟩
   ·cases hl
   ·rfl
  rw [this]
  rfl
theorem head_bad {L : List RnM} {y i k : Int} (h1 : y < 1900 ∨ 2199 < y ∨ i < 1 ∨ 400 < i ∨ k < 0) : Wb.headE (L.map RnM.c) y i k = 2 := by
 unfold Wb.headE
 rw [if_pos h1]
theorem period31s_any (y i : Int) (hy : 0 ≤ y ∧ y ≤ 1000000) (hi : 0 ≤ i ∧ i ≤ 1000000) (w : World) : Calls Tryz.prog 41 #[.int .i64 y, .int .i64 i] w fun e w' => e = .returned (.int .i64 (Wb.perN y i)) ∧ w' = w :=
 (period31_any y i hy hi w).mono fun _ _ h => ⟨h.1, h.2.symm⟩
set_option maxHeartbeats 2000000 in
theorem head31_any (rv : Value) (mp mo : Option Nat) (L : List RnM) (y i k : Int) (w : World) (h : RunsM w rv L) (ho : RunsOk (L.map RnM.c)) :
  Calls Tryz.prog 15 #[BkV rv mp mo, .int .i64 y, .int .i64 i, .int .i64 k] w fun e w' => e = .returned (.int .i64 (Wb.headE (L.map RnM.c) y i k)) ∧ Wb.Ext w w' := by
 obtain ⟨ra, rc, rfl⟩ := h.tab.shape
 have HL := Lib.hid h
 have HOK := Lib.hid ho
 clear h ho
 obtain ⟨E, hE⟩ : ∃ E, Wb.headE (L.map RnM.c) y i k = E := ⟨_, rfl⟩
 have HE := Lib.hid hE
 rw [hE]
 clear hE
 unfold BkV
 go_enter Tryz.func15, Tryz.ntmps15
 by_cases h1 : y < 1900
 ·have d1 : decide (y < (1900 : Int)) = true := by simpa using h1
  obtain rfl : E = 2 := by rw [← HE.out]; exact head_bad (by omega)
  clear h1
  go_wp2
  refine bodyPost_ret (v := .int .i64 2) (by simp [results, Tryz.results15, go_sem]) rfl ⟨rfl, by (repeat' (first | (with_reducible assumption) | (with_reducible exact Wb.Ext.refl _) | (with_reducible refine Wb.Ext.drew ?_) | (with_reducible refine Wb.Ext.drewN ?_ _) | (with_reducible refine Wb.Ext.alloc ?_ _) | (with_reducible refine Wb.ext_set ?_ (by first | assumption | (simp; done) | (simp; omega) | omega) _) | (with_reducible refine Wb.Ext.trans ?_ (by assumption))))⟩
 have d1 : decide (y < (1900 : Int)) = false := by simpa using h1
 by_cases h2 : 2199 < y
 ·have d2 : decide ((2199 : Int) < y) = true := by simpa using h2
  obtain rfl : E = 2 := by rw [← HE.out]; exact head_bad (by omega)
  clear h1 h2
  go_wp2
  refine bodyPost_ret (v := .int .i64 2) (by simp [results, Tryz.results15, go_sem]) rfl ⟨rfl, by (repeat' (first | (with_reducible assumption) | (with_reducible exact Wb.Ext.refl _) | (with_reducible refine Wb.Ext.drew ?_) | (with_reducible refine Wb.Ext.drewN ?_ _) | (with_reducible refine Wb.Ext.alloc ?_ _) | (with_reducible refine Wb.ext_set ?_ (by first | assumption | (simp; done) | (simp; omega) | omega) _) | (with_reducible refine Wb.Ext.trans ?_ (by assumption))))⟩
 have d2 : decide ((2199 : Int) < y) = false := by simpa using h2
 by_cases h3 : i < 1
 ·have d3 : decide (i < (1 : Int)) = true := by simpa using h3
  obtain rfl : E = 2 := by rw [← HE.out]; exact head_bad (by omega)
  clear h1 h2 h3
  go_wp2
  refine bodyPost_ret (v := .int .i64 2) (by simp [results, Tryz.results15, go_sem]) rfl ⟨rfl, by (repeat' (first | (with_reducible assumption) | (with_reducible exact Wb.Ext.refl _) | (with_reducible refine Wb.Ext.drew ?_) | (with_reducible refine Wb.Ext.drewN ?_ _) | (with_reducible refine Wb.Ext.alloc ?_ _) | (with_reducible refine Wb.ext_set ?_ (by first | assumption | (simp; done) | (simp; omega) | omega) _) | (with_reducible refine Wb.Ext.trans ?_ (by assumption))))⟩
 have d3 : decide (i < (1 : Int)) = false := by simpa using h3
 by_cases h4 : 400 < i
 ·have d4 : decide ((400 : Int) < i) = true := by simpa using h4
  obtain rfl : E = 2 := by rw [← HE.out]; exact head_bad (by omega)
  clear h1 h2 h3 h4
  go_wp2
  refine bodyPost_ret (v := .int .i64 2) (by simp [results, Tryz.results15, go_sem]) rfl ⟨rfl, by (repeat' (first | (with_reducible assumption) | (with_reducible exact Wb.Ext.refl _) | (with_reducible refine Wb.Ext.drew ?_) | (with_reducible refine Wb.Ext.drewN ?_ _) | (with_reducible refine Wb.Ext.alloc ?_ _) | (with_reducible refine Wb.ext_set ?_ (by first | assumption | (simp; done) | (simp; omega) | omega) _) | (with_reducible refine Wb.Ext.trans ?_ (by assumption))))⟩
 have d4 : decide ((400 : Int) < i) = false := by simpa using h4
 by_cases h5 : k < 0
 ·have d5 : decide (k < (0 : Int)) = true := by simpa using h5
  obtain rfl : E = 2 := by rw [← HE.out]; exact head_bad (by omega)
  clear h1 h2 h3 h4 h5
  go_wp2
  refine bodyPost_ret (v := .int .i64 2) (by simp [results, Tryz.results15, go_sem]) rfl ⟨rfl, by (repeat' (first | (with_reducible assumption) | (with_reducible exact Wb.Ext.refl _) | (with_reducible refine Wb.Ext.drew ?_) | (with_reducible refine Wb.Ext.drewN ?_ _) | (with_reducible refine Wb.Ext.alloc ?_ _) | (with_reducible refine Wb.ext_set ?_ (by first | assumption | (simp; done) | (simp; omega) | omega) _) | (with_reducible refine Wb.Ext.trans ?_ (by assumption))))⟩
 have d5 : decide (k < (0 : Int)) = false := by simpa using h5
 have HE2 := Lib.hid (head_last (L := L) (y := y) (i := i) (k := k) (by omega))
 have hy : 0 ≤ y ∧ y ≤ 1000000 := by omega
 have hi : 0 ≤ i ∧ i ≤ 1000000 := by omega
 have HY := Lib.hid hy
 have HI := Lib.hid hi
 clear h1 h2 h3 h4 h5 hy hi
 go_wp2_with fail
 go_fit (last31_any _ mp mo L _ (HL.out.ext (by (repeat' (first | (with_reducible assumption) | (with_reducible exact Wb.Ext.refl _) | (with_reducible refine Wb.Ext.drew ?_) | (with_reducible refine Wb.Ext.drewN ?_ _) | (with_reducible refine Wb.Ext.alloc ?_ _) | (with_reducible refine Wb.ext_set ?_ (by first | assumption | (simp; done) | (simp; omega) | omega) _) | (with_reducible refine Wb.Ext.trans ?_ (by assumption))))))); rintro e w1 ⟨r, rfl, -, hrc, ⟨a, n, c, hrv⟩, -, hx⟩
 rw [hrv]
 unfold RnV
 have HRC := Lib.hid hrc
 have HX := Lib.hid (show Wb.Ext w w1 from Wb.Ext.trans (by (repeat' (first | (with_reducible assumption) | (with_reducible exact Wb.Ext.refl _) | (with_reducible refine Wb.Ext.drew ?_) | (with_reducible refine Wb.Ext.drewN ?_ _) | (with_reducible refine Wb.Ext.alloc ?_ _) | (with_reducible refine Wb.ext_set ?_ (by first | assumption | (simp; done) | (simp; omega) | omega) _) | (with_reducible refine Wb.Ext.trans ?_ (by assumption))))) hx)
 clear hrc hrv hx
 rcases he : L.isEmpty with _ | _
 ·have hr : 1900 ≤ r.y ∧ r.y ≤ 2199 ∧ 1 ≤ r.i ∧ r.i ≤ 400 := by
   have h9 := HRC.out
   unfold lastC at h9
   rcases hl : L.getLast? with _ | x
   ·rw [List.getLast?_eq_none_iff.1 hl] at he; cases he
   ·rw [hl] at h9
    have h8 := HOK.out x.c (List.mem_map_of_mem (last_mem hl))
    have e1 : r.y = x.c.y := congrArg Wb.Rn.y h9
    have e2 : r.i = x.c.i := congrArg Wb.Rn.i h9
    rw [e1, e2]; exact h8
  have hry : 0 ≤ r.y ∧ r.y ≤ 1000000 := by omega
  have hri : 0 ≤ r.i ∧ r.i ≤ 1000000 := by omega
  have HRY := Lib.hid hry
  have HRI := Lib.hid hri
  obtain ⟨x, hxe⟩ : ∃ x, Wb.perN y i = x := ⟨_, rfl⟩
  obtain ⟨z, hze⟩ : ∃ z, Wb.perN r.y r.i = z := ⟨_, rfl⟩
  have HE3 := Lib.hid (show E = if x ≤ z ∨ k < r.k then 8 else 0 by
   have h9 := HE2.out
   rw [HE.out, he, ← HRC.out] at h9
   rw [h9, ← hxe, ← hze]; rfl)
  have HXE := Lib.hid hxe
  have HZE := Lib.hid hze
  clear hr hry hri hxe hze he
  simp only [Bool.not_false]
  go_upto_region 8 with (fail)
  refine Wb.wp_at fun W1 hW1 => ?_
  obtain ⟨Z, hZ⟩ : ∃ Z, w1.heap.size = Z := ⟨_, rfl⟩
  have z1 : W1.cell? ⟨Z, 1, none⟩ = some (.int .i64 r.y) := by rw [hW1, ← hZ]; simp [go_sem]
  have z2 : W1.cell? ⟨Z, 2, none⟩ = some (.int .i64 r.i) := by rw [hW1, ← hZ]; simp [go_sem]
  have z3 : W1.cell? ⟨Z, 3, none⟩ = some (.int .i64 r.k) := by rw [hW1, ← hZ]; simp [go_sem]
  have hx := HX.out
  have HX := Lib.hid (show Wb.Ext w W1 by rw [hW1]; (repeat' (first | (with_reducible assumption) | (with_reducible exact Wb.Ext.refl _) | (with_reducible refine Wb.Ext.drew ?_) | (with_reducible refine Wb.Ext.drewN ?_ _) | (with_reducible refine Wb.Ext.alloc ?_ _) | (with_reducible refine Wb.ext_set ?_ (by first | assumption | (simp; done) | (simp; omega) | omega) _) | (with_reducible refine Wb.Ext.trans ?_ (by assumption)))))
  rw [hZ]
  clear hW1 hZ hx
  by_cases hle : x ≤ z
  ·have dl : decide (Wb.perN y i ≤ Wb.perN r.y r.i) = true := by rw [HXE.out, HZE.out]; simpa using hle
   obtain rfl : E = 8 := by rw [HE3.out, if_pos (.inl hle)]
   clear hle
   go_wp2_with fail
   go_quiet (first | (go_at_call 41; exact Calls.quiet_of_same (period31s_any y i HY.out HI.out _)) | (go_at_call 41; exact Calls.quiet_of_same (period31s_any r.y r.i HRY.out HRI.out _)))
   go_wp2
   refine bodyPost_ret (v := .int .i64 8) (by simp [results, Tryz.results15, go_sem]) rfl ⟨rfl, ?_⟩
   have hx := HX.out
   (repeat' (first | (with_reducible assumption) | (with_reducible exact Wb.Ext.refl _) | (with_reducible refine Wb.Ext.drew ?_) | (with_reducible refine Wb.Ext.drewN ?_ _) | (with_reducible refine Wb.Ext.alloc ?_ _) | (with_reducible refine Wb.Ext.trans ?_ (by assumption))))
  ·have dl : decide (Wb.perN y i ≤ Wb.perN r.y r.i) = false := by rw [HXE.out, HZE.out]; simpa using hle
   have HF := Lib.hid (show E = if k < r.k then 8 else 0 by
    rw [HE3.out]
    by_cases hk : k < r.k
    ·rw [if_pos (.inr hk), if_pos hk]
    ·rw [if_neg (by omega), if_neg hk])
   clear hle
   by_cases hk : k < r.k
   ·have dk : decide (k < r.k) = true := by simpa using hk
    obtain rfl : E = 8 := by rw [HF.out, if_pos hk]
    clear hk
    go_wp2_with fail
    go_quiet (first | (go_at_call 41; exact Calls.quiet_of_same (period31s_any y i HY.out HI.out _)) | (go_at_call 41; exact Calls.quiet_of_same (period31s_any r.y r.i HRY.out HRI.out _)))
    go_wp2
    refine bodyPost_ret (v := .int .i64 8) (by simp [results, Tryz.results15, go_sem]) rfl ⟨rfl, ?_⟩
    have hx := HX.out
    (repeat' (first | (with_reducible assumption) | (with_reducible exact Wb.Ext.refl _) | (with_reducible refine Wb.Ext.drew ?_) | (with_reducible refine Wb.Ext.drewN ?_ _) | (with_reducible refine Wb.Ext.alloc ?_ _) | (with_reducible refine Wb.Ext.trans ?_ (by assumption))))
   ·have dk : decide (k < r.k) = false := by simpa using hk
    obtain rfl : E = 0 := by rw [HF.out, if_neg hk]
    clear hk
    go_wp2_with fail
    go_quiet (first | (go_at_call 41; exact Calls.quiet_of_same (period31s_any y i HY.out HI.out _)) | (go_at_call 41; exact Calls.quiet_of_same (period31s_any r.y r.i HRY.out HRI.out _)))
    go_wp2
    refine bodyPost_ret (v := .int .i64 0) (by simp [results, Tryz.results15, go_sem]) rfl ⟨rfl, ?_⟩
    have hx := HX.out
    (repeat' (first | (with_reducible assumption) | (with_reducible exact Wb.Ext.refl _) | (with_reducible refine Wb.Ext.drew ?_) | (with_reducible refine Wb.Ext.drewN ?_ _) | (with_reducible refine Wb.Ext.alloc ?_ _) | (with_reducible refine Wb.Ext.trans ?_ (by assumption))))
 ·obtain rfl : E = 0 := by rw [← HE.out, HE2.out, he]; rfl
  simp only [Bool.not_true]
  clear he
  go_wp2_with fail
  go_quiet (fail)
  go_wp2
  refine bodyPost_ret (v := .int .i64 0) (by simp [results, Tryz.results15, go_sem]) rfl ⟨rfl, ?_⟩
  have hx := HX.out
  (repeat' (first | (with_reducible assumption) | (with_reducible exact Wb.Ext.refl _) | (with_reducible refine Wb.Ext.drew ?_) | (with_reducible refine Wb.Ext.drewN ?_ _) | (with_reducible refine Wb.Ext.alloc ?_ _) | (with_reducible refine Wb.Ext.trans ?_ (by assumption))))
end Go.Proofs.YtnefdpnolojojaaGreatDoor
