/- The walks of package period: is, Check, whole, first, span. -/
import Derived.Test.YtalpdodajcdibaaDoorCiv
namespace Go.Proofs.YtalpdodajcdibaaDoor
open Go.RowKit
set_option maxRecDepth 4000

/-- the table of the periods' lengths as the program lays it -/
def LenP (w : World) : Prop := w.cell? ⟨0, 1, none⟩ = some (.int .i64 14) ∧ w.cell? ⟨0, 2, none⟩ = some (.int .i64 28)
theorem LenP.ext {w w' : World} (h : LenP w) (k : Wb.Ext w w') : LenP w' := ⟨k.keep h.1, k.keep h.2⟩
abbrev CalV (c : Wb.Cal) : Value := .agg #[.int .i64 c.kind, .int .i64 c.first, .int .i64 c.lag]

theorem is_any (d : Int) (w : World) :
    Calls Tryd.prog 25 #[.int .i64 d] w fun e w' => e = .returned (.bool (decide (-25567 ≤ d) && decide (d < 84006))) ∧ w = w' := by
  by_cases h : -25567 ≤ d
  · go_enter Tryd.func25, Tryd.ntmps25
    go_wp2
    go_ret
    exact ⟨by simp [h], rfl⟩
  · have h' : decide (-25567 ≤ d) = false := by simpa using h
    go_enter Tryd.func25, Tryd.ntmps25
    go_wp2
    go_ret
    exact ⟨rfl, rfl⟩

theorem mdays_2200 (w : World) : Calls Tryd.prog 37 #[.int .i64 2200, .int .i64 1] w fun e w' => e = .returned (.int .i64 0) ∧ w = w' := by
  go_enter Tryd.func37, Tryd.ntmps37
  go_wp2
  go_ret
  exact ⟨rfl, rfl⟩
theorem of_2200 (w : World) : Calls Tryd.prog 44 #[.agg #[.int .i64 2200, .int .i64 1, .int .i64 1]] w fun e w' => e = .returned (.tuple #[.int .i64 0, .int .i64 15]) ∧ Wb.Ext w w' := by
  have hx0 : (w.alloc (.cells #[.int .i64 2200, .int .i64 1, .int .i64 1] 64)).cell? ⟨w.heap.size, 0, none⟩ = some (.int .i64 2200) := by simp [go_sem]
  have hx1 : (w.alloc (.cells #[.int .i64 2200, .int .i64 1, .int .i64 1] 64)).cell? ⟨w.heap.size, 1, none⟩ = some (.int .i64 1) := by simp [go_sem]
  have hx2 : (w.alloc (.cells #[.int .i64 2200, .int .i64 1, .int .i64 1] 64)).cell? ⟨w.heap.size, 2, none⟩ = some (.int .i64 1) := by simp [go_sem]
  go_enter Tryd.func44, Tryd.ntmps44
  go_wp2_with fail
  go_region_held3 (fun w' => w'.cell? ⟨w.heap.size, 0, none⟩ = some (.int .i64 2200) ∧ w'.cell? ⟨w.heap.size, 1, none⟩ = some (.int .i64 1) ∧ w'.cell? ⟨w.heap.size, 2, none⟩ = some (.int .i64 1)) (first | exact ⟨hx0, hx1, hx2⟩ | assumption | go_keep) (first | (go_at_call 37; go_fit (mdays_2200 _); rintro e w' ⟨rfl, rfl⟩))
  go_wp2
  go_ret2
  exact ⟨rfl, by (repeat' (first | (with_reducible assumption) | (with_reducible exact Wb.Ext.refl _) | (with_reducible refine Wb.Ext.drew ?_) | (with_reducible refine Wb.Ext.drewN ?_ _) | (with_reducible refine Wb.Ext.alloc ?_ _) | (with_reducible refine Wb.Ext.trans ?_ (by assumption))))⟩

theorem first_any (y : Int) (h1 : 1900 ≤ y) (h2 : y ≤ 2200) (w : World) (hw : LenC w) :
    Calls Tryd.prog 40 #[.int .i64 y] w fun e w' => e = .returned (.int .i64 (Wb.beg y 1)) ∧ Wb.Ext w w' := by
  by_cases h : y ≤ 2199
  · have d1 : decide (2199 < y) = false := by simp; omega
    have HW := Lib.hid hw
    clear hw
    go_enter Tryd.func40, Tryd.ntmps40
    go_wp2_with (go_at_call 44; refine (of_first y h1 h _ HW.out).mono ?_; rintro e w' ⟨rfl, hb⟩)
    go_ret
    exact ⟨rfl, by (repeat' (first | (with_reducible assumption) | (with_reducible exact Wb.Ext.refl _) | (with_reducible refine Wb.Ext.drew ?_) | (with_reducible refine Wb.Ext.drewN ?_ _) | (with_reducible refine Wb.Ext.alloc ?_ _) | (with_reducible refine Wb.Ext.trans ?_ (by assumption))))⟩
  · obtain rfl : y = 2200 := by omega
    have hb : Wb.beg 2200 1 = 84006 := by unfold Wb.beg; rw [Wb.cum_one, Wb.yb_2200]; rfl
    rw [hb]
    clear hb
    go_enter Tryd.func40, Tryd.ntmps40
    go_wp2_with (go_at_call 44; refine (of_2200 _).mono ?_; rintro e w' ⟨rfl, hb⟩)
    go_ret
    exact ⟨rfl, by (repeat' (first | (with_reducible assumption) | (with_reducible exact Wb.Ext.refl _) | (with_reducible refine Wb.Ext.drew ?_) | (with_reducible refine Wb.Ext.drewN ?_ _) | (with_reducible refine Wb.Ext.alloc ?_ _) | (with_reducible refine Wb.Ext.trans ?_ (by assumption))))⟩

theorem tmod_floor {x n : Int} (hn : 0 < n) : (x.tmod n < 0 → x.tmod n + n = x % n) ∧ (0 ≤ x.tmod n → x.tmod n = x % n) ∧ -n < x.tmod n ∧ x.tmod n < n := by
  have h1 := Int.emod_nonneg x (show n ≠ 0 by omega)
  have h2 := Int.emod_lt_of_pos x hn
  have h3 := Int.tmod_eq_emod (a := x) (b := n)
  split at h3 <;> omega

set_option maxHeartbeats 1000000 in
theorem span_any (c : Wb.Cal) (d y m k : Int) (hc : Wb.calErr c = 0) (hd : Wb.IsDate d y m k) (hd1 : -25567 ≤ d) (hd2 : d < 84006) (w : World) (hw : LenC w) (hp : LenP w) :
    Calls Tryd.prog 26 #[CalV c, .int .i64 d] w fun e w' => e = .returned (.agg #[.int .i64 (Wb.spanAt c d y m).1, .int .i64 (Wb.spanAt c d y m).2]) ∧ Wb.Ext w w' := by
  obtain ⟨k1, k2, k3, k4, k5, k6⟩ := Wb.calErr_ok hc
  have HD := Lib.hid hd
  have HW := Lib.hid hw
  have HP := Lib.hid hp
  clear hc hw hp
  obtain ⟨kd, fd, lg⟩ := c
  simp only at k1 k2 k3 k4 k5 k6
  have hk : kd = 0 ∨ kd = 1 ∨ kd = 2 := by omega
  rcases hk with rfl | rfl | rfl
  · obtain ⟨b1, b2, b3, b4, b5, b6, b7⟩ := hd
    have hm := Wb.md_low y m
    have HS := Lib.hid (show Wb.spanAt ⟨0, fd, lg⟩ d y m = (d - (k - 1), d - (k - 1) + Wb.md y m) by
      unfold Wb.spanAt; rw [if_pos rfl, Wb.beg_succ y b3 b4, b7]; congr 1 <;> omega)
    rw [HS.out]
    clear b7
    go_enter Tryd.func26, Tryd.ntmps26
    go_wp2_with fail
    refine (to_any _ _ _ _ HD.out _ (HW.out.ext (by (repeat' (first | (with_reducible assumption) | (with_reducible exact Wb.Ext.refl _) | (with_reducible refine Wb.Ext.drew ?_) | (with_reducible refine Wb.Ext.drewN ?_ _) | (with_reducible refine Wb.Ext.alloc ?_ _) | (with_reducible refine Wb.Ext.trans ?_ (by assumption))))))).mono ?_; rintro e w1 ⟨rfl, hb1⟩
    have he1 : Wb.Ext w w1 := by (repeat' (first | (with_reducible assumption) | (with_reducible exact Wb.Ext.refl _) | (with_reducible refine Wb.Ext.drew ?_) | (with_reducible refine Wb.Ext.drewN ?_ _) | (with_reducible refine Wb.Ext.alloc ?_ _) | (with_reducible refine Wb.Ext.trans ?_ (by assumption))))
    have q0 : w1.cell? ⟨w.heap.size + 1, 0, none⟩ = some (.int .i64 0) := hb1.keep (by simp [go_sem])
    have q1 : w1.cell? ⟨w.heap.size + 1, 1, none⟩ = some (.int .i64 0) := hb1.keep (by simp [go_sem])
    have qf : ∀ j, w1.frozen? ⟨w.heap.size + 1, j, none⟩ = false := fun j => (Below.frozen hb1 (by simp)).trans (by simp [go_sem])
    have hz1 := Wb.cell_size q0
    clear hb1
    go_wp2_with fail
    refine (mdays_any _ _ b1 b2 b3 b4 _ (HW.out.ext (by (repeat' (first | (with_reducible assumption) | (with_reducible exact Wb.Ext.refl _) | (with_reducible refine Wb.Ext.drew ?_) | (with_reducible refine Wb.Ext.drewN ?_ _) | (with_reducible refine Wb.Ext.alloc ?_ _) | (with_reducible refine Wb.Ext.trans ?_ (by assumption))))))).mono ?_; rintro e w' ⟨rfl, rfl⟩
    go_wp2
    refine bodyPost_ret (v := .agg #[.int .i64 (d - (k - 1)), .int .i64 (d - (k - 1) + Wb.md y m)]) (by simp [results, Tryd.results26, go_sem, q0, q1, hz1]) rfl ⟨rfl, Wb.Ext.alloc (Below.setCell (Below.setCell he1 (by simp) _) (by simp) _) _⟩
  · have hc1 := HP.out.1
    have hg := Wb.cell_size hc1
    have HS0 := Lib.hid (show Wb.spanAt ⟨1, fd, lg⟩ d y m = (d - (d - fd) % 14, d - (d - fd) % 14 + 14) by unfold Wb.spanAt; rw [if_neg (by simp)]; rfl)
    obtain ⟨t1, t2, t3, t4⟩ := tmod_floor (x := d - fd) (n := 14) (by omega)
    by_cases hx : 0 ≤ d - fd
    · have h0 := Int.emod_nonneg (d - fd) (show (14 : Int) ≠ 0 by omega)
      have h1 := Int.emod_lt_of_pos (d - fd) (show (0 : Int) < 14 by omega)
      obtain ⟨z, hz⟩ : ∃ z, (d - fd) % 14 = z := ⟨_, rfl⟩
      have HS := Lib.hid (show Wb.spanAt ⟨1, fd, lg⟩ d y m = (d - z, d - z + 14) by rw [HS0.out, hz])
      clear t1 t2 t3 t4
      go_enter Tryd.func26, Tryd.ntmps26
      go_wp2
      refine bodyPost_ret (v := .agg #[.int .i64 (d - z), .int .i64 (d - z + 14)]) (by simp [results, Tryd.results26, go_sem]) rfl ⟨by rw [HS.out], ?_⟩
      (repeat' (first | (with_reducible assumption) | (with_reducible exact Wb.Ext.refl _) | (with_reducible refine Wb.Ext.drew ?_) | (with_reducible refine Wb.Ext.drewN ?_ _) | (with_reducible refine Wb.Ext.alloc ?_ _) | (with_reducible refine Wb.Ext.trans ?_ (by assumption))))
    · obtain ⟨z, hz⟩ : ∃ z, (d - fd).tmod 14 = z := ⟨_, rfl⟩
      rw [hz] at t1 t2 t3 t4
      by_cases hn : z < 0
      · have HS := Lib.hid (show Wb.spanAt ⟨1, fd, lg⟩ d y m = (d - (z + 14), d - (z + 14) + 14) by rw [HS0.out, ← t1 hn])
        clear t1 t2
        go_enter Tryd.func26, Tryd.ntmps26
        go_wp2
        refine bodyPost_ret (v := .agg #[.int .i64 (d - (z + 14)), .int .i64 (d - (z + 14) + 14)]) (by simp [results, Tryd.results26, go_sem]) rfl ⟨by rw [HS.out], ?_⟩
        (repeat' (first | (with_reducible assumption) | (with_reducible exact Wb.Ext.refl _) | (with_reducible refine Wb.Ext.drew ?_) | (with_reducible refine Wb.Ext.drewN ?_ _) | (with_reducible refine Wb.Ext.alloc ?_ _) | (with_reducible refine Wb.Ext.trans ?_ (by assumption))))
      · have HS := Lib.hid (show Wb.spanAt ⟨1, fd, lg⟩ d y m = (d - z, d - z + 14) by rw [HS0.out, ← t2 (by omega)])
        clear t1 t2
        go_enter Tryd.func26, Tryd.ntmps26
        go_wp2
        refine bodyPost_ret (v := .agg #[.int .i64 (d - z), .int .i64 (d - z + 14)]) (by simp [results, Tryd.results26, go_sem]) rfl ⟨by rw [HS.out], ?_⟩
        (repeat' (first | (with_reducible assumption) | (with_reducible exact Wb.Ext.refl _) | (with_reducible refine Wb.Ext.drew ?_) | (with_reducible refine Wb.Ext.drewN ?_ _) | (with_reducible refine Wb.Ext.alloc ?_ _) | (with_reducible refine Wb.Ext.trans ?_ (by assumption))))
  · have hc1 := HP.out.2
    have hg := Wb.cell_size hc1
    have HS0 := Lib.hid (show Wb.spanAt ⟨2, fd, lg⟩ d y m = (d - (d - fd) % 28, d - (d - fd) % 28 + 28) by unfold Wb.spanAt; rw [if_neg (by simp)]; rfl)
    obtain ⟨t1, t2, t3, t4⟩ := tmod_floor (x := d - fd) (n := 28) (by omega)
    by_cases hx : 0 ≤ d - fd
    · have h0 := Int.emod_nonneg (d - fd) (show (28 : Int) ≠ 0 by omega)
      have h1 := Int.emod_lt_of_pos (d - fd) (show (0 : Int) < 28 by omega)
      obtain ⟨z, hz⟩ : ∃ z, (d - fd) % 28 = z := ⟨_, rfl⟩
      have HS := Lib.hid (show Wb.spanAt ⟨2, fd, lg⟩ d y m = (d - z, d - z + 28) by rw [HS0.out, hz])
      clear t1 t2 t3 t4
      go_enter Tryd.func26, Tryd.ntmps26
      go_wp2
      refine bodyPost_ret (v := .agg #[.int .i64 (d - z), .int .i64 (d - z + 28)]) (by simp [results, Tryd.results26, go_sem]) rfl ⟨by rw [HS.out], ?_⟩
      (repeat' (first | (with_reducible assumption) | (with_reducible exact Wb.Ext.refl _) | (with_reducible refine Wb.Ext.drew ?_) | (with_reducible refine Wb.Ext.drewN ?_ _) | (with_reducible refine Wb.Ext.alloc ?_ _) | (with_reducible refine Wb.Ext.trans ?_ (by assumption))))
    · obtain ⟨z, hz⟩ : ∃ z, (d - fd).tmod 28 = z := ⟨_, rfl⟩
      rw [hz] at t1 t2 t3 t4
      by_cases hn : z < 0
      · have HS := Lib.hid (show Wb.spanAt ⟨2, fd, lg⟩ d y m = (d - (z + 28), d - (z + 28) + 28) by rw [HS0.out, ← t1 hn])
        clear t1 t2
        go_enter Tryd.func26, Tryd.ntmps26
        go_wp2
        refine bodyPost_ret (v := .agg #[.int .i64 (d - (z + 28)), .int .i64 (d - (z + 28) + 28)]) (by simp [results, Tryd.results26, go_sem]) rfl ⟨by rw [HS.out], ?_⟩
        (repeat' (first | (with_reducible assumption) | (with_reducible exact Wb.Ext.refl _) | (with_reducible refine Wb.Ext.drew ?_) | (with_reducible refine Wb.Ext.drewN ?_ _) | (with_reducible refine Wb.Ext.alloc ?_ _) | (with_reducible refine Wb.Ext.trans ?_ (by assumption))))
      · have HS := Lib.hid (show Wb.spanAt ⟨2, fd, lg⟩ d y m = (d - z, d - z + 28) by rw [HS0.out, ← t2 (by omega)])
        clear t1 t2
        go_enter Tryd.func26, Tryd.ntmps26
        go_wp2
        refine bodyPost_ret (v := .agg #[.int .i64 (d - z), .int .i64 (d - z + 28)]) (by simp [results, Tryd.results26, go_sem]) rfl ⟨by rw [HS.out], ?_⟩
        (repeat' (first | (with_reducible assumption) | (with_reducible exact Wb.Ext.refl _) | (with_reducible refine Wb.Ext.drew ?_) | (with_reducible refine Wb.Ext.drewN ?_ _) | (with_reducible refine Wb.Ext.alloc ?_ _) | (with_reducible refine Wb.Ext.trans ?_ (by assumption))))

end Go.Proofs.YtalpdodajcdibaaDoor
