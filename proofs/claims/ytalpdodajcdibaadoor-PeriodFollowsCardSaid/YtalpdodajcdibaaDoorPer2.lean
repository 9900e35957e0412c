/- The walks of package period: Check, whole, period. -/
import Derived.Test.YtalpdodajcdibaaDoorPer1
import Derived.Test.YtalpdodajcdibaaDoorTbl
namespace Go.Proofs.YtalpdodajcdibaaDoor
open Go.RowKit
set_option maxRecDepth 4000

theorem pcheck_any (c : Wb.Cal) (w : World) :
    Calls Tryd.prog 18 #[CalV c] w fun e w' => e = .returned (.int .i64 (Wb.calErr c)) ∧ Wb.Ext w w' := by
  obtain ⟨kd, fd, lg⟩ := c
  by_cases k0 : kd < 0
  · have H := Lib.hid (show Wb.calErr ⟨kd, fd, lg⟩ = 11 by simp only [Wb.calErr]; rw [if_pos (by omega)])
    go_enter Tryd.func18, Tryd.ntmps18
    go_wp2
    go_ret
    exact ⟨by rw [H.out]; rfl, by (repeat' (first | (with_reducible assumption) | (with_reducible exact Wb.Ext.refl _) | (with_reducible refine Wb.Ext.drew ?_) | (with_reducible refine Wb.Ext.drewN ?_ _) | (with_reducible refine Wb.Ext.alloc ?_ _) | (with_reducible refine Wb.Ext.trans ?_ (by assumption))))⟩
  · have dk0 : decide (kd < 0) = false := by simpa using k0
    by_cases k1 : 3 ≤ kd
    · have H := Lib.hid (show Wb.calErr ⟨kd, fd, lg⟩ = 11 by simp only [Wb.calErr]; rw [if_pos (by omega)])
      go_enter Tryd.func18, Tryd.ntmps18
      go_wp2
      go_ret
      exact ⟨by rw [H.out]; rfl, by (repeat' (first | (with_reducible assumption) | (with_reducible exact Wb.Ext.refl _) | (with_reducible refine Wb.Ext.drew ?_) | (with_reducible refine Wb.Ext.drewN ?_ _) | (with_reducible refine Wb.Ext.alloc ?_ _) | (with_reducible refine Wb.Ext.trans ?_ (by assumption))))⟩
    · have dk1 : decide (3 ≤ kd) = false := by simpa using k1
      have hk : ¬ (kd < 0 ∨ 2 < kd) := by omega
      clear k0 k1
      by_cases hf : fd < -25567 ∨ 84006 ≤ fd
      · have hb : (decide (-25567 ≤ fd) && decide (fd < 84006)) = false := by simp; omega
        have H := Lib.hid (show Wb.calErr ⟨kd, fd, lg⟩ = 15 by simp only [Wb.calErr]; rw [if_neg hk, if_pos hf])
        clear hk hf
        go_enter Tryd.func18, Tryd.ntmps18
        go_wp2_with (go_at_call 25; refine (is_any _ _).mono ?_; rintro e w' ⟨rfl, rfl⟩; rw [hb])
        go_ret
        exact ⟨by rw [H.out]; rfl, by (repeat' (first | (with_reducible assumption) | (with_reducible exact Wb.Ext.refl _) | (with_reducible refine Wb.Ext.drew ?_) | (with_reducible refine Wb.Ext.drewN ?_ _) | (with_reducible refine Wb.Ext.alloc ?_ _) | (with_reducible refine Wb.Ext.trans ?_ (by assumption))))⟩
      · have hb : (decide (-25567 ≤ fd) && decide (fd < 84006)) = true := by simp; omega
        by_cases l0 : lg < 0
        · have H := Lib.hid (show Wb.calErr ⟨kd, fd, lg⟩ = 2 by simp only [Wb.calErr]; rw [if_neg hk, if_neg hf, if_pos (by omega)])
          clear hk hf
          go_enter Tryd.func18, Tryd.ntmps18
          go_wp2_with (go_at_call 25; refine (is_any _ _).mono ?_; rintro e w' ⟨rfl, rfl⟩; rw [hb])
          go_ret
          exact ⟨by rw [H.out]; rfl, by (repeat' (first | (with_reducible assumption) | (with_reducible exact Wb.Ext.refl _) | (with_reducible refine Wb.Ext.drew ?_) | (with_reducible refine Wb.Ext.drewN ?_ _) | (with_reducible refine Wb.Ext.alloc ?_ _) | (with_reducible refine Wb.Ext.trans ?_ (by assumption))))⟩
        · have dl0 : decide (lg < 0) = false := by simpa using l0
          by_cases l1 : 60 < lg
          · have H := Lib.hid (show Wb.calErr ⟨kd, fd, lg⟩ = 2 by simp only [Wb.calErr]; rw [if_neg hk, if_neg hf, if_pos (by omega)])
            clear hk hf
            go_enter Tryd.func18, Tryd.ntmps18
            go_wp2_with (go_at_call 25; refine (is_any _ _).mono ?_; rintro e w' ⟨rfl, rfl⟩; rw [hb])
            go_ret
            exact ⟨by rw [H.out]; rfl, by (repeat' (first | (with_reducible assumption) | (with_reducible exact Wb.Ext.refl _) | (with_reducible refine Wb.Ext.drew ?_) | (with_reducible refine Wb.Ext.drewN ?_ _) | (with_reducible refine Wb.Ext.alloc ?_ _) | (with_reducible refine Wb.Ext.trans ?_ (by assumption))))⟩
          · have dl1 : decide (60 < lg) = false := by simpa using l1
            have H := Lib.hid (show Wb.calErr ⟨kd, fd, lg⟩ = 0 by simp only [Wb.calErr]; rw [if_neg hk, if_neg hf, if_neg (by omega)])
            clear hk hf l0 l1
            go_enter Tryd.func18, Tryd.ntmps18
            go_wp2_with (go_at_call 25; refine (is_any _ _).mono ?_; rintro e w' ⟨rfl, rfl⟩; rw [hb])
            go_ret
            exact ⟨by rw [H.out]; rfl, by (repeat' (first | (with_reducible assumption) | (with_reducible exact Wb.Ext.refl _) | (with_reducible refine Wb.Ext.drew ?_) | (with_reducible refine Wb.Ext.drewN ?_ _) | (with_reducible refine Wb.Ext.alloc ?_ _) | (with_reducible refine Wb.Ext.trans ?_ (by assumption))))⟩

theorem whole_any (a b : Int) (w : World) :
    Calls Tryd.prog 27 #[.agg #[.int .i64 a, .int .i64 b]] w fun e w' => e = .returned (.bool (decide (-25567 ≤ a) && decide (b ≤ 84006))) ∧ Wb.Ext w w' := by
  by_cases h : -25567 ≤ a
  · go_enter Tryd.func27, Tryd.ntmps27
    go_wp2
    go_ret
    exact ⟨by simp [h], by (repeat' (first | (with_reducible assumption) | (with_reducible exact Wb.Ext.refl _) | (with_reducible refine Wb.Ext.drew ?_) | (with_reducible refine Wb.Ext.drewN ?_ _) | (with_reducible refine Wb.Ext.alloc ?_ _) | (with_reducible refine Wb.Ext.trans ?_ (by assumption))))⟩
  · have h' : decide (-25567 ≤ a) = false := by simpa using h
    go_enter Tryd.func27, Tryd.ntmps27
    go_wp2
    go_ret
    exact ⟨rfl, by (repeat' (first | (with_reducible assumption) | (with_reducible exact Wb.Ext.refl _) | (with_reducible refine Wb.Ext.drew ?_) | (with_reducible refine Wb.Ext.drewN ?_ _) | (with_reducible refine Wb.Ext.alloc ?_ _) | (with_reducible refine Wb.Ext.trans ?_ (by assumption))))⟩

abbrev PerV (p : Wb.Per) : Value := .agg #[.int .i64 p.year, .int .i64 p.index, .int .i64 p.of, .int .i64 p.from_, .int .i64 p.to_, .int .i64 p.pay]

theorem period_any (c : Wb.Cal) (y : Int) (i n : Nat) (s : Int × Int) (hn : (i : Int) ≤ 100000) (h1 : -100000 ≤ s.2 ∧ s.2 ≤ 100000) (h2 : 0 ≤ c.lag ∧ c.lag ≤ 60) (w : World) :
    Calls Tryd.prog 30 #[CalV c, .int .i64 y, .int .i64 i, .int .i64 n, .agg #[.int .i64 s.1, .int .i64 s.2]] w fun e w' => e = .returned (PerV (Wb.perOf c y n i s)) ∧ Wb.Ext w w' := by
  obtain ⟨kd, fd, lg⟩ := c
  obtain ⟨s1, s2⟩ := s
  simp only at h1 h2
  by_cases hm : s2 - 1 + lg ≤ 84005
  · have H := Lib.hid (show min (s2 - 1 + lg) 84005 = s2 - 1 + lg by omega)
    go_enter Tryd.func30, Tryd.ntmps30
    go_wp2
    exact bodyPost_ret (v := .agg #[.int .i64 y, .int .i64 (i + 1), .int .i64 n, .int .i64 s1, .int .i64 s2, .int .i64 (s2 - 1 + lg)]) (by simp [results, Tryd.results30, go_sem]) rfl ⟨by simp only [PerV, Wb.perOf, H.out], by (repeat' (first | (with_reducible assumption) | (with_reducible exact Wb.Ext.refl _) | (with_reducible refine Wb.Ext.drew ?_) | (with_reducible refine Wb.Ext.drewN ?_ _) | (with_reducible refine Wb.Ext.alloc ?_ _) | (with_reducible refine Wb.Ext.trans ?_ (by assumption))))⟩
  · have H := Lib.hid (show min (s2 - 1 + lg) 84005 = 84005 by omega)
    go_enter Tryd.func30, Tryd.ntmps30
    go_wp2
    exact bodyPost_ret (v := .agg #[.int .i64 y, .int .i64 (i + 1), .int .i64 n, .int .i64 s1, .int .i64 s2, .int .i64 84005]) (by simp [results, Tryd.results30, go_sem]) rfl ⟨by simp only [PerV, Wb.perOf, H.out], by (repeat' (first | (with_reducible assumption) | (with_reducible exact Wb.Ext.refl _) | (with_reducible refine Wb.Ext.drew ?_) | (with_reducible refine Wb.Ext.drewN ?_ _) | (with_reducible refine Wb.Ext.alloc ?_ _) | (with_reducible refine Wb.Ext.trans ?_ (by assumption))))⟩

end Go.Proofs.YtalpdodajcdibaaDoor
