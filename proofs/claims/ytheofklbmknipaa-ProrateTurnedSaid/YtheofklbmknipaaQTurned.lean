/- Chapter 20: ProrateTurned. -/
import Derived.Test.YtheofklbmknipaaQSum
import Derived.Test.YtheofklbmknipaaQRow
import Derived.Deep.RegionHeld3
namespace Go.Proofs.Ytheofklbmknipaa
open Go.RowKit Go.Lib
set_option maxRecDepth 8000
attribute [local go_sem ↓] Go.wp_at_zero Go.wp_at_succ

theorem drop_at' {α : Type} {l : List α} {k : Nat} {x : α} (h : l[k]? = some x) : l.drop k = x :: l.drop (k + 1) := by
  obtain ⟨hk, rfl⟩ := List.getElem?_eq_some_iff.1 h
  exact List.drop_eq_getElem_cons hk
set_option maxHeartbeats 4000000 in
theorem turned_walk (yr ix o f t pay : Int) (v : Value) (L : List Pc) (z : Pc) (w : World) (hi : -9223372036854775808 ≤ ix ∧ ix ≤ 9223372036854775807) (hs : Bd (f, t)) (hl : PcS w v L) (hbl : ∀ x ∈ L, BdP x) (hx : BdP z) :
    Calls Try.prog 8 #[PeV yr ix o (f, t) pay, v, PcV z] w fun e w' => e = .returned (.bool true) ∧ Wb.Ext w w' := by
  obtain ⟨la, lc, rfl, hlc⟩ := hl.2.2
  have HL := Lib.hid hl
  have HBL := Lib.hid hbl
  have HI := Lib.hid hi
  have HS := Lib.hid hs
  have HX := Lib.hid hx
  clear hl hbl hi hs hx
  obtain ⟨i0, hz, hz0, hz1, hz2⟩ := info_parts infoPc'
  have HIN := Lib.hid (show Try.prog.info? 50 = some i0 ∧ i0.zero = some (.agg #[.int .i64 0, .int .i64 0, .int .i64 0, .int .i64 0]) ∧ i0.size = 4 ∧ i0.bytes = 32 from ⟨hz, hz0, hz1, hz2⟩)
  clear hz hz0 hz1 hz2
  go_enter Try.func8, Try.ntmps8
  go_wp2_with fail
  go_fit (awake20_any _); rintro e w1 ⟨rfl, hb1⟩
  have xp0 : w1.cell? ⟨w.heap.size, 0, none⟩ = some (.int .i64 yr) := hb1.keep (by simp [go_sem])
  have xp1 : w1.cell? ⟨w.heap.size, 1, none⟩ = some (.int .i64 ix) := hb1.keep (by simp [go_sem])
  have xp2 : w1.cell? ⟨w.heap.size, 2, none⟩ = some (.int .i64 o) := hb1.keep (by simp [go_sem])
  have xp3 : w1.cell? ⟨w.heap.size, 3, none⟩ = some (.int .i64 f) := hb1.keep (by simp [go_sem])
  have xp4 : w1.cell? ⟨w.heap.size, 4, none⟩ = some (.int .i64 t) := hb1.keep (by simp [go_sem])
  have xp5 : w1.cell? ⟨w.heap.size, 5, none⟩ = some (.int .i64 pay) := hb1.keep (by simp [go_sem])
  have xx0 : w1.cell? ⟨w.heap.size + 1, 0, none⟩ = some (.int .i64 z.d.1) := hb1.keep (by simp [go_sem])
  have xx1 : w1.cell? ⟨w.heap.size + 1, 1, none⟩ = some (.int .i64 z.d.2) := hb1.keep (by simp [go_sem])
  have xx2 : w1.cell? ⟨w.heap.size + 1, 2, none⟩ = some (.int .i64 z.y) := hb1.keep (by simp [go_sem])
  have xx3 : w1.cell? ⟨w.heap.size + 1, 3, none⟩ = some (.int .i64 z.part) := hb1.keep (by simp [go_sem])
  have fz : w1.frozen? ⟨w.heap.size + 1, 3, none⟩ = false := (Below.frozen hb1 (by simp)).trans (by simp [go_sem])
  have hx1 : Wb.Ext w w1 := Wb.Ext.trans (by (repeat' (first | (with_reducible assumption) | (with_reducible exact Wb.Ext.refl _) | (with_reducible refine Wb.Ext.drew ?_) | (with_reducible refine Wb.Ext.drewN ?_ _) | (with_reducible refine Wb.Ext.alloc ?_ _) | (with_reducible refine Wb.Ext.trans ?_ (by assumption))))) hb1
  have zx := Wb.cell_size xx0
  clear hb1
  by_cases hlen : 20 < L.length
  case pos =>
    have d1 : decide (20 < (L.length : Int)) = true := by simp; omega
    go_wp2
    go_ret
    exact ⟨rfl, hx1⟩
  have d1 : decide (20 < (L.length : Int)) = false := by simp; omega
  have hl20 : L.length ≤ 20 := by omega
  clear hlen
  go_wp2_with fail
  go_loopw [7, 8] (fun bv iv wr => ∃ (k m : Nat) (z : Int), k + m = L.length ∧ iv = .int .i64 z ∧ Hid (z = (k : Int) - 1) ∧ Hid (∀ x ∈ L.drop k, Small x) ∧ Hid (wr.ownsRow w1.heap.size 50 4 bv m (rowsOf pcc (L.drop k).reverse)) ∧ Wb.Ext w1 wr) (fun _ iv _ => ((intOf iv) + 1).toNat)
  case atStart => exact ⟨L.length, 0, _, by omega, rfl, Lib.hid rfl, Lib.hid (by simp), Lib.hid ⟨by simp [rowsOf], .inl ⟨rfl, by simp [rowsOf]⟩⟩, .refl _⟩
  case round =>
    obtain ⟨k, m, z0, hkm, rfl, HZ, HSM, HO, hext⟩ := hrel
    obtain ⟨ra, rc, rfl⟩ := row_shape HO.out
    have fz : wr.frozen? ⟨w.heap.size + 1, 3, none⟩ = false := (Below.frozen hext (by simpa using zx)).trans fz
    have xp0 := hext.keep xp0
    have xp1 := hext.keep xp1
    have xp2 := hext.keep xp2
    have xp3 := hext.keep xp3
    have xp4 := hext.keep xp4
    have xp5 := hext.keep xp5
    have xx0 := hext.keep xx0
    have xx1 := hext.keep xx1
    have xx2 := hext.keep xx2
    have xx3 := hext.keep xx3
    have zx := Wb.cell_size xx0
    have hx2 : Wb.Ext w wr := hx1.trans hext
    by_cases hk0 : k = 0
    case neg =>
      obtain ⟨j, rfl⟩ : ∃ j, k = j + 1 := ⟨k - 1, by omega⟩
      obtain rfl : z0 = (j : Int) := by have := HZ.out; omega
      have hjl : j < L.length := by omega
      have hj1 : (j : Int) < L.length := by omega
      have hj2 : decide ((0 : Int) ≤ j) = true := by simp
      obtain ⟨x, hxj⟩ := Wb.get_ex hjl
      obtain ⟨b, off, rfl, hcells⟩ := (HL.out.1.ext hx2).opened (tne hjl)
      have c0 := hcells j x hxj 0 _ rfl
      have c1 := hcells j x hxj 1 _ rfl
      have c2 := hcells j x hxj 2 _ rfl
      have c3 := hcells j x hxj 3 _ rfl
      simp only [Nat.add_zero] at c0
      have HD := Lib.hid (drop_at' hxj)
      clear hcells hxj
      by_cases h1 : 1099511627776 < x.y
      case pos =>
        have e1 : decide (1099511627776 < x.y) = true := by simpa using h1
        clear h1
        go_wp2
        go_ret
        exact ⟨rfl, hx2⟩
      have e1 : decide (1099511627776 < x.y) = false := by simpa using h1
      by_cases h2 : x.y < -1099511627776
      case pos =>
        have e2 : decide (x.y < -1099511627776) = true := by simpa using h2
        clear h1 h2
        go_wp2
        go_ret
        exact ⟨rfl, hx2⟩
      have e2 : decide (x.y < -1099511627776) = false := by simpa using h2
      by_cases h3 : 1000000 < x.part
      case pos =>
        have e3 : decide (1000000 < x.part) = true := by simpa using h3
        clear h1 h2 h3
        go_wp2
        go_ret
        exact ⟨rfl, hx2⟩
      have e3 : decide (1000000 < x.part) = false := by simpa using h3
      by_cases h4 : x.part < 0
      case pos =>
        have e4 : decide (x.part < 0) = true := by simpa using h4
        clear h1 h2 h3 h4
        go_wp2
        go_ret
        exact ⟨rfl, hx2⟩
      have e4 : decide (x.part < 0) = false := by simpa using h4
      have HSM2 : Hid (∀ y ∈ L.drop j, Small y) := Lib.hid (fun y hy => by
        rw [HD.out] at hy
        rcases List.mem_cons.1 hy with rfl | hy
        · exact ⟨by omega, by omega, by omega, by omega⟩
        · exact HSM.out y hy)
      clear h1 h2 h3 h4
      obtain ⟨hz, hz0, hz1, hz2⟩ := HIN.out
      go_wp2_with (at_builtin; go_loud (refine Wb.wpList_append_row rfl (.tmp 57) (.tmp 62) 28 rfl w1.heap.size 50 i0 (.agg #[.int .i64 0, .int .i64 0, .int .i64 0, .int .i64 0]) 4 32 Try.underlying28 hz hz0 hz1 hz2 rfl (by decide) _ _ _ rfl (HO.out.alloc _) _ rfl 1 (pcc x) ?c1 ?c2 ?c3 ?c4 ?c5 ?_))
      case c1 => exact src_lit wr _ rfl (pcc x) _ _
      case c2 => intro u hu; simp [pcc] at hu; rcases hu with rfl | rfl | rfl | rfl <;> rfl
      case c3 => unfold maxLen; omega
      case c4 => omega
      case c5 => have := hext.size; simp; omega
      intro v1 w3 hown hg hnil
      have HG := Lib.hid (show Wb.Ext w1 w3 from Wb.Ext.grown (Wb.Ext.trans hext (by (repeat' (first | (with_reducible assumption) | (with_reducible exact Wb.Ext.refl _) | (with_reducible refine Wb.Ext.drew ?_) | (with_reducible refine Wb.Ext.drewN ?_ _) | (with_reducible refine Wb.Ext.alloc ?_ _) | (with_reducible refine Wb.Ext.trans ?_ (by assumption)))))) hg (fun n hn => (HO.out.lt n hn).1))
      have HO1 := Lib.hid hown
      clear hz hz0 hz1 hz2 hown hg hnil
      go_wp2
      go_roundw
      case rel => exact ⟨j, m + 1, (j : Int) - 1, by omega, by go_num, Lib.hid rfl, HSM2, Lib.hid (by rw [HD.out, List.reverse_cons, rowsOf_app, rowsOf_one]; exact HO1.out), HG.out⟩
      case measure => first | (simp [intOf]; done) | (simp [intOf]; omega)
    subst hk0
    obtain rfl : z0 = -1 := by have := HZ.out; omega
    have HSM' : Hid (∀ x ∈ L, Small x) := Lib.hid (by have := HSM.out; rw [List.drop_zero] at this; exact this)
    have HT := Lib.hid (show Tbl 4 pcc wr (.slice ra m rc) L.reverse by have := HO.out; rw [List.drop_zero] at this; exact row_tbl pcc_len (by decide) this)
    clear HO HSM HZ
    obtain ⟨⟨a, ea⟩, hA⟩ : ∃ q, salaryR ix o (f, t) L = q := ⟨_, rfl⟩
    obtain ⟨⟨a2, eb⟩, hB⟩ : ∃ q, salaryR ix o (f, t) L.reverse = q := ⟨_, rfl⟩
    obtain ⟨hab, rfl⟩ := turned hl20 HSM'.out hA hB
    obtain ⟨g, hg1, hg2⟩ : ∃ g, (ea == 0) = g ∧ (eb == 0) = g := by
      rcases hab with ⟨rfl, rfl⟩ | ⟨h1, h2⟩
      · exact ⟨true, rfl, rfl⟩
      · exact ⟨false, by simpa using h1, by simpa using h2⟩
    have HA := Lib.hid hA
    have HB := Lib.hid hB
    clear hA hB hab
    go_wp2_with fail
    go_fit (salary_any yr ix o f t pay _ L _ HI.out HS.out (HL.out.1.ext (by (repeat' (first | (with_reducible assumption) | (with_reducible exact Wb.Ext.refl _) | (with_reducible refine Wb.Ext.drew ?_) | (with_reducible refine Wb.Ext.drewN ?_ _) | (with_reducible refine Wb.Ext.alloc ?_ _) | (with_reducible refine Wb.Ext.trans ?_ (by assumption)))))) (fun x hx => (HBL.out x hx).1) (by omega)); rintro e w5 ⟨rfl, hb5⟩
    rw [HA.out]
    have hn5 : Wb.Ext wr w5 := Wb.Ext.trans (by (repeat' (first | (with_reducible assumption) | (with_reducible exact Wb.Ext.refl _) | (with_reducible refine Wb.Ext.drew ?_) | (with_reducible refine Wb.Ext.drewN ?_ _) | (with_reducible refine Wb.Ext.alloc ?_ _) | (with_reducible refine Wb.Ext.trans ?_ (by assumption))))) hb5
    have hx5 : Wb.Ext w w5 := hx2.trans hn5
    have fz : w5.frozen? ⟨w.heap.size + 1, 3, none⟩ = false := (Below.frozen hn5 (by simpa using zx)).trans fz
    have xp0 := hn5.keep xp0
    have xp1 := hn5.keep xp1
    have xp2 := hn5.keep xp2
    have xp3 := hn5.keep xp3
    have xp4 := hn5.keep xp4
    have xp5 := hn5.keep xp5
    have xx0 := hn5.keep xx0
    have xx1 := hn5.keep xx1
    have xx2 := hn5.keep xx2
    have xx3 := hn5.keep xx3
    replace HT := Lib.hid (HT.out.ext hn5)
    have zx := Wb.cell_size xx0
    clear hb5 hn5
    go_wp2_with fail
    go_fit (salary_any yr ix o f t pay _ L.reverse _ HI.out HS.out (HT.out.ext (by (repeat' (first | (with_reducible assumption) | (with_reducible exact Wb.Ext.refl _) | (with_reducible refine Wb.Ext.drew ?_) | (with_reducible refine Wb.Ext.drewN ?_ _) | (with_reducible refine Wb.Ext.alloc ?_ _) | (with_reducible refine Wb.Ext.trans ?_ (by assumption)))))) (fun x hx => (HBL.out x (by simpa using hx)).1) (by rw [List.length_reverse]; omega)); rintro e w6 ⟨rfl, hb6⟩
    rw [HB.out]
    have hn6 : Wb.Ext w5 w6 := Wb.Ext.trans (by (repeat' (first | (with_reducible assumption) | (with_reducible exact Wb.Ext.refl _) | (with_reducible refine Wb.Ext.drew ?_) | (with_reducible refine Wb.Ext.drewN ?_ _) | (with_reducible refine Wb.Ext.alloc ?_ _) | (with_reducible refine Wb.Ext.trans ?_ (by assumption))))) hb6
    have hx6 : Wb.Ext w w6 := hx5.trans hn6
    have fz : w6.frozen? ⟨w.heap.size + 1, 3, none⟩ = false := (Below.frozen hn6 (by simpa using zx)).trans fz
    have xp0 := hn6.keep xp0
    have xp1 := hn6.keep xp1
    have xp2 := hn6.keep xp2
    have xp3 := hn6.keep xp3
    have xp4 := hn6.keep xp4
    have xp5 := hn6.keep xp5
    have xx0 := hn6.keep xx0
    have xx1 := hn6.keep xx1
    have xx2 := hn6.keep xx2
    have xx3 := hn6.keep xx3
    have zx := Wb.cell_size xx0
    clear hb6 hn6
    obtain ⟨⟨c, ec⟩, hC⟩ : ∃ q, salaryR ix o (f, t) (L ++ [⟨z.d, z.y, 0⟩]) = q := ⟨_, rfl⟩
    have HC := Lib.hid hC
    clear hC
    have zx2 : w.heap.size < w6.heap.size := by omega
    go_upto_region 17 with (fail)
    refine Wb.wp_at fun W0 hW0 => ?_
    obtain ⟨G, hG⟩ : ∃ G, w.heap.size = G := ⟨_, rfl⟩
    obtain ⟨G1, hG1⟩ : ∃ G1, w.heap.size + 1 = G1 := ⟨_, rfl⟩
    have hne : G ≠ G1 := by omega
    have hne2 : ¬ (w.heap.size = w.heap.size + 1) := by omega
    have hx0 : Wb.Ext w W0 := by rw [hW0]; (repeat' (first | (with_reducible assumption) | (with_reducible exact Wb.Ext.refl _) | (with_reducible refine Wb.Ext.drew ?_) | (with_reducible refine Wb.Ext.drewN ?_ _) | (with_reducible refine Wb.Ext.alloc ?_ _) | (with_reducible refine Wb.ext_set ?_ (by first | assumption | (simp; done) | (simp; omega) | omega) _) | (with_reducible refine Wb.Ext.trans ?_ (by assumption))))
    have x0 : W0.cell? ⟨G, 0, none⟩ = some (.int .i64 yr) := by rw [hW0, ← hG]; first | (simp [go_sem, hne2]; done) | simp [go_sem, hne2, xp0] | (rw [World.cell?_setCell_other _ _ _ _ (by intro e; cases e)]; exact xp0)
    have x1 : W0.cell? ⟨G, 1, none⟩ = some (.int .i64 ix) := by rw [hW0, ← hG]; first | (simp [go_sem, hne2]; done) | simp [go_sem, hne2, xp1] | (rw [World.cell?_setCell_other _ _ _ _ (by intro e; cases e)]; exact xp1)
    have x2 : W0.cell? ⟨G, 2, none⟩ = some (.int .i64 o) := by rw [hW0, ← hG]; first | (simp [go_sem, hne2]; done) | simp [go_sem, hne2, xp2] | (rw [World.cell?_setCell_other _ _ _ _ (by intro e; cases e)]; exact xp2)
    have x3 : W0.cell? ⟨G, 3, none⟩ = some (.int .i64 f) := by rw [hW0, ← hG]; first | (simp [go_sem, hne2]; done) | simp [go_sem, hne2, xp3] | (rw [World.cell?_setCell_other _ _ _ _ (by intro e; cases e)]; exact xp3)
    have x4 : W0.cell? ⟨G, 4, none⟩ = some (.int .i64 t) := by rw [hW0, ← hG]; first | (simp [go_sem, hne2]; done) | simp [go_sem, hne2, xp4] | (rw [World.cell?_setCell_other _ _ _ _ (by intro e; cases e)]; exact xp4)
    have x5 : W0.cell? ⟨G, 5, none⟩ = some (.int .i64 pay) := by rw [hW0, ← hG]; first | (simp [go_sem, hne2]; done) | simp [go_sem, hne2, xp5] | (rw [World.cell?_setCell_other _ _ _ _ (by intro e; cases e)]; exact xp5)
    have y0 : W0.cell? ⟨G1, 0, none⟩ = some (.int .i64 z.d.1) := by rw [hW0, ← hG1]; first | (simp [go_sem]; done) | simp [go_sem, xx0]
    have y1 : W0.cell? ⟨G1, 1, none⟩ = some (.int .i64 z.d.2) := by rw [hW0, ← hG1]; first | (simp [go_sem]; done) | simp [go_sem, xx1]
    have y2 : W0.cell? ⟨G1, 2, none⟩ = some (.int .i64 z.y) := by rw [hW0, ← hG1]; first | (simp [go_sem]; done) | simp [go_sem, xx2]
    have y3 : W0.cell? ⟨G1, 3, none⟩ = some (.int .i64 0) := by rw [hW0, ← hG1]; first | (simp [go_sem]; done) | simp [go_sem, xx3]
    have HT0 := Lib.hid (HL.out.2.1.ext hx0)
    rw [hG1, hG]
    clear hW0 hG hG1 HT
    refine region_start (S := (fun w' => w'.cell? ⟨G, 0, none⟩ = some (.int .i64 yr) ∧ w'.cell? ⟨G, 1, none⟩ = some (.int .i64 ix) ∧ w'.cell? ⟨G, 2, none⟩ = some (.int .i64 o) ∧ w'.cell? ⟨G, 3, none⟩ = some (.int .i64 f) ∧ w'.cell? ⟨G, 4, none⟩ = some (.int .i64 t) ∧ w'.cell? ⟨G, 5, none⟩ = some (.int .i64 pay) ∧ w'.cell? ⟨G1, 0, none⟩ = some (.int .i64 z.d.1) ∧ w'.cell? ⟨G1, 1, none⟩ = some (.int .i64 z.d.2) ∧ w'.cell? ⟨G1, 2, none⟩ = some (.int .i64 z.y) ∧ w'.cell? ⟨G1, 3, none⟩ = some (.int .i64 0))) (n := 13) (l := #[false, false, false, false, false, false, false, false, false, false, false, false, false]) (by kernel_rfl) ⟨x0, x1, x2, x3, x4, x5, y0, y1, y2, y3⟩ (by kernel_rfl) (by kernel_rfl) (fun hHeld => ?_)
    refine take_d (i := 0) (d := 88) (v := ?_) rfl rfl (by kernel_rfl) (by kernel_rfl) (by kernel_rfl) (fun _ _ _ h => h) (Or.inl ⟨by rfl, ?_⟩) (by assumption) ?_
    rotate_left
    · (intro w hSw; (try dsimp only at hSw); go_simp; (try with_reducible rfl))
    (try simp only [Act.put, List.setIfInBounds_toArray, List.set_cons_zero, List.set_cons_succ])
    refine take_d (i := 2) (d := 90) (v := ?_) rfl rfl (by kernel_rfl) (by kernel_rfl) (by kernel_rfl) (fun _ _ _ h => h) (Or.inl ⟨by rfl, ?_⟩) (by assumption) ?_
    rotate_left
    · (intro w hSw; (try dsimp only at hSw); go_simp; (try with_reducible rfl))
    (try simp only [Act.put, List.setIfInBounds_toArray, List.set_cons_zero, List.set_cons_succ])
    refine take_d (i := 4) (d := 92) (v := ?_) rfl rfl (by kernel_rfl) (by kernel_rfl) (by kernel_rfl) (fun _ _ _ h => h) (Or.inl ⟨by rfl, ?_⟩) (by assumption) ?_
    rotate_left
    · (intro w hSw; (try dsimp only at hSw); go_simp; (try with_reducible rfl))
    (try simp only [Act.put, List.setIfInBounds_toArray, List.set_cons_zero, List.set_cons_succ])
    refine wpAnyH_ready (rs := [1, 5]) (by kernel_rfl) (by simp) ?_
    refine AllReadyH.cons (o := _) rfl (fun K hK => ?_) ?_
    · go_simp
      refine atK fun w21 hw21 => ?_
      have hx21 : Wb.Ext W0 w21 := by rw [hw21]; exact Wb.Ext.alloc (.drew (.refl _)) _
      obtain ⟨gr, gre⟩ : ∃ g, W0.heap.size = g := ⟨_, rfl⟩
      have grh : gr < w21.heap.size := by rw [hw21, ← gre]; simp
      have HO21 := Lib.hid (show w21.ownsRow W0.heap.size 50 4 (.slice (some ⟨gr, 0, none⟩) 0 0) 0 [] by rw [hw21, ← gre]; exact own_empty (w := W0) (by first | exact Nat.le_refl _ | exact (.drew (.refl _)).size))
      (try rw [gre])
      clear hw21 gre
      refine hK.out _ _ ⟨hx21.keep x0, hx21.keep x1, hx21.keep x2, hx21.keep x3, hx21.keep x4, hx21.keep x5, hx21.keep y0, hx21.keep y1, hx21.keep y2, hx21.keep y3⟩ (fun hHeld => ?_)
      clear hK K
      (try simp only [List.setIfInBounds_toArray, List.set_cons_zero, List.set_cons_succ])
      refine wpAnyH_ready (rs := [3, 5]) (by kernel_rfl) (by simp) ?_
      refine AllReadyH.cons (o := _) rfl (fun K hK => ?_) ?_
      · obtain ⟨hi, hz0, hz1, hz2⟩ := HIN.out
        refine Wb.step_append_row (by rfl) _ _ _ (by rfl) W0.heap.size 50 i0 (.agg #[.int .i64 0, .int .i64 0, .int .i64 0, .int .i64 0]) 4 32 Try.underlying28 hi hz0 hz1 hz2 (by rfl) (by decide) _ (0) ([]) (by rfl) (HO21.out) _ (by rfl) (L.length) (rowsOf pcc L) (HT0.out.ext hx21) (rpc_one _) (by unfold maxLen; omega) (by omega) (Below.size (show Wb.Ext W0 w21 from hx21)) ?_
        intro v22 w22 ho22 hg22 hat22
        obtain ⟨N22, hN22⟩ : ∃ n, n = 0 + (L.length) := ⟨_, rfl⟩
        rw [← hN22] at ho22
        have HN22 := Lib.hid hN22
        have hNb22 : N22 ≤ 0 + (L.length) := Nat.le_of_eq hN22
        clear hN22
        have HO22 := Lib.hid ho22
        have hx22 : Wb.Ext W0 w22 := Wb.Ext.grown hx21 hg22 (fun q hq => (HO21.out.lt q hq).1)
        obtain ⟨ra22, rc22, rfl⟩ := row_shape ho22
        replace grh : gr < w22.heap.size := Nat.lt_of_lt_of_le grh hg22.size
        clear hi hz0 hz1 hz2 ho22 hg22 hat22
        refine hK.out _ _ ⟨hx22.keep x0, hx22.keep x1, hx22.keep x2, hx22.keep x3, hx22.keep x4, hx22.keep x5, hx22.keep y0, hx22.keep y1, hx22.keep y2, hx22.keep y3⟩ (fun hHeld => ?_)
        clear hK K
        (try simp only [List.setIfInBounds_toArray, List.set_cons_zero, List.set_cons_succ])
        refine wpAnyH_ready (rs := [5]) (by kernel_rfl) (by simp) ?_
        refine AllReadyH.cons (o := _) rfl (fun K hK => ?_) AllReadyH.nil
        go_simp
        refine atK fun w23 hw23 => ?_
        have hx23 : Wb.Ext W0 w23 := by rw [hw23]; exact Wb.Ext.alloc hx22 _
        have HO23r := Lib.hid (show w23.ownsRow W0.heap.size 50 4 _ _ _ by rw [hw23]; exact HO22.out.alloc _)
        have grp := grh
        replace grh : gr < w23.heap.size := Nat.lt_of_lt_of_le grh (by rw [hw23]; simp)
        obtain ⟨gx, gxe⟩ : ∃ g, w22.heap.size = g := ⟨_, rfl⟩
        have gxh : gx < w23.heap.size := by rw [hw23, ← gxe]; simp
        have negrgx : gr ≠ gx := by have := grp; omega
        have negxgr : gx ≠ gr := Ne.symm negrgx
        have HLx := Lib.hid (show Wb.SrcRow w23 4 (.slice (some ⟨gx, 0, none⟩) 1 1) 1 (rowsOf pcc [(⟨z.d, z.y, 0⟩ : Pc)]) by rw [hw23, ← gxe]; exact src_lit w22 _ rfl (rowsOf pcc [(⟨z.d, z.y, 0⟩ : Pc)]) _ _)
        (try rw [gxe])
        clear hw23 gxe
        refine hK.out _ _ ⟨hx23.keep x0, hx23.keep x1, hx23.keep x2, hx23.keep x3, hx23.keep x4, hx23.keep x5, hx23.keep y0, hx23.keep y1, hx23.keep y2, hx23.keep y3⟩ (fun hHeld => ?_)
        clear hK K
        (try simp only [List.setIfInBounds_toArray, List.set_cons_zero, List.set_cons_succ])
        refine wpAnyH_ready (rs := [6]) (by kernel_rfl) (by simp) ?_
        refine AllReadyH.cons (o := _) rfl (fun K hK => ?_) AllReadyH.nil
        obtain ⟨hi, hz0, hz1, hz2⟩ := HIN.out
        refine Wb.step_append_row (by rfl) _ _ _ (by rfl) W0.heap.size 50 i0 (.agg #[.int .i64 0, .int .i64 0, .int .i64 0, .int .i64 0]) 4 32 Try.underlying28 hi hz0 hz1 hz2 (by rfl) (by decide) _ (N22) ([] ++ rowsOf pcc L) (by rfl) (HO23r.out) _ (by rfl) (1) (rowsOf pcc [(⟨z.d, z.y, 0⟩ : Pc)]) (HLx.out) (rpc_one _) (by unfold maxLen; omega) (by omega) (Below.size (show Wb.Ext W0 w23 from hx23)) ?_
        intro v24 w24 ho24 hg24 hat24
        obtain ⟨N24, hN24⟩ : ∃ n, n = N22 + (1) := ⟨_, rfl⟩
        rw [← hN24] at ho24
        have HN24 := Lib.hid hN24
        have hNb24 : N24 ≤ N22 + (1) := Nat.le_of_eq hN24
        clear hN24
        have HO24 := Lib.hid ho24
        have hx24 : Wb.Ext W0 w24 := Wb.Ext.grown hx23 hg24 (fun q hq => (HO23r.out.lt q hq).1)
        obtain ⟨ra24, rc24, rfl⟩ := row_shape ho24
        replace grh : gr < w24.heap.size := Nat.lt_of_lt_of_le grh hg24.size
        replace gxh : gx < w24.heap.size := Nat.lt_of_lt_of_le gxh hg24.size
        clear hi hz0 hz1 hz2 ho24 hg24 hat24
        refine hK.out _ _ ⟨hx24.keep x0, hx24.keep x1, hx24.keep x2, hx24.keep x3, hx24.keep x4, hx24.keep x5, hx24.keep y0, hx24.keep y1, hx24.keep y2, hx24.keep y3⟩ (fun hHeld => ?_)
        clear hK K
        (try simp only [List.setIfInBounds_toArray, List.set_cons_zero, List.set_cons_succ])
        refine wpAnyH_ready (rs := [7]) (by kernel_rfl) (by simp) ?_
        refine AllReadyH.cons (o := _) rfl (fun K hK => ?_) AllReadyH.nil
        go_simp
        go_at_call 14
        go_fit (salary_any yr ix o f t pay _ (L ++ [⟨z.d, z.y, 0⟩]) _ HI.out HS.out (row_tbl (base := W0.heap.size) (e := 50) (n := N24) pcc_len (by decide) (by rw [rowsOf_app]; exact HO24.out)) (by intro q hq; rcases List.mem_append.1 hq with hq | hq; exact (HBL.out q hq).1; simp at hq; subst hq; exact HX.out.1) (by simp; omega))
        rintro e w25 ⟨rfl, hb25⟩
        rw [HC.out]
        have hx25 : Wb.Ext W0 w25 := hx24.trans hb25
        clear hb25
        refine hK.out _ _ ⟨hx25.keep x0, hx25.keep x1, hx25.keep x2, hx25.keep x3, hx25.keep x4, hx25.keep x5, hx25.keep y0, hx25.keep y1, hx25.keep y2, hx25.keep y3⟩ (fun hHeld => ?_)
        clear hK K
        (try simp only [List.setIfInBounds_toArray, List.set_cons_zero, List.set_cons_succ])
        refine take_d (i := 8) (d := 87) (v := ?_) rfl rfl (by kernel_rfl) (by kernel_rfl) (by kernel_rfl) (fun _ _ _ h => h) (Or.inl ⟨by rfl, ?_⟩) (by assumption) ?_
        rotate_left
        · (intro w hSw; (try dsimp only at hSw); go_simp; (try with_reducible rfl))
        (try simp only [Act.put, List.setIfInBounds_toArray, List.set_cons_zero, List.set_cons_succ])
        refine take_d (i := 9) (d := 96) (v := ?_) rfl rfl (by kernel_rfl) (by kernel_rfl) (by kernel_rfl) (fun _ _ _ h => h) (Or.inl ⟨by rfl, ?_⟩) (by assumption) ?_
        rotate_left
        · (intro w hSw; (try dsimp only at hSw); go_simp; (try with_reducible rfl))
        (try simp only [Act.put, List.setIfInBounds_toArray, List.set_cons_zero, List.set_cons_succ])
        refine take_d (i := 10) (d := 97) (v := ?_) rfl rfl (by kernel_rfl) (by kernel_rfl) (by kernel_rfl) (fun _ _ _ h => h) (Or.inl ⟨by rfl, ?_⟩) (by assumption) ?_
        rotate_left
        · (intro w hSw; (try dsimp only at hSw); go_simp; (try with_reducible rfl))
        (try simp only [Act.put, List.setIfInBounds_toArray, List.set_cons_zero, List.set_cons_succ])
        refine take_d (i := 11) (d := 13) (v := ?_) rfl rfl (by kernel_rfl) (by kernel_rfl) (by kernel_rfl) (fun _ _ _ h => h) (Or.inl ⟨by rfl, ?_⟩) (by assumption) ?_
        rotate_left
        · (intro w hSw; (try dsimp only at hSw); go_simp; (try with_reducible rfl))
        (try simp only [Act.put, List.setIfInBounds_toArray, List.set_cons_zero, List.set_cons_succ])
        refine take_d (i := 12) (d := 14) (v := ?_) rfl rfl (by kernel_rfl) (by kernel_rfl) (by kernel_rfl) (fun _ _ _ h => h) (Or.inl ⟨by rfl, ?_⟩) (by assumption) ?_
        rotate_left
        · (intro w hSw; (try dsimp only at hSw); go_simp; (try with_reducible rfl))
        (try simp only [Act.put, List.setIfInBounds_toArray, List.set_cons_zero, List.set_cons_succ])
        refine wpAnyH_done (by kernel_rfl) ?_ _
        have hxe : Wb.Ext w w25 := hx0.trans hx25
        by_cases hc : ec = 0
        · subst hc
          have hca : c = a := turn_last hl20 rfl HA.out HC.out
          subst hca
          go_wp2
          go_ret
          exact ⟨rfl, hxe⟩
        · have d2 : (ec == 0) = false := by simpa using hc
          have d3 : (ec != 0) = true := by simpa using hc
          clear hc
          go_wp2
          go_ret
          exact ⟨rfl, hxe⟩
      refine AllReadyH.cons (o := _) rfl (fun K hK => ?_) ?_
      · go_simp
        refine atK fun w22 hw22 => ?_
        have hx22 : Wb.Ext W0 w22 := by rw [hw22]; exact Wb.Ext.alloc hx21 _
        have HO22r := Lib.hid (show w22.ownsRow W0.heap.size 50 4 _ _ _ by rw [hw22]; exact HO21.out.alloc _)
        have grp := grh
        replace grh : gr < w22.heap.size := Nat.lt_of_lt_of_le grh (by rw [hw22]; simp)
        obtain ⟨gx, gxe⟩ : ∃ g, w21.heap.size = g := ⟨_, rfl⟩
        have gxh : gx < w22.heap.size := by rw [hw22, ← gxe]; simp
        have negrgx : gr ≠ gx := by have := grp; omega
        have negxgr : gx ≠ gr := Ne.symm negrgx
        have HLx := Lib.hid (show Wb.SrcRow w22 4 (.slice (some ⟨gx, 0, none⟩) 1 1) 1 (rowsOf pcc [(⟨z.d, z.y, 0⟩ : Pc)]) by rw [hw22, ← gxe]; exact src_lit w21 _ rfl (rowsOf pcc [(⟨z.d, z.y, 0⟩ : Pc)]) _ _)
        (try rw [gxe])
        clear hw22 gxe
        refine hK.out _ _ ⟨hx22.keep x0, hx22.keep x1, hx22.keep x2, hx22.keep x3, hx22.keep x4, hx22.keep x5, hx22.keep y0, hx22.keep y1, hx22.keep y2, hx22.keep y3⟩ (fun hHeld => ?_)
        clear hK K
        (try simp only [List.setIfInBounds_toArray, List.set_cons_zero, List.set_cons_succ])
        refine wpAnyH_ready (rs := [3]) (by kernel_rfl) (by simp) ?_
        refine AllReadyH.cons (o := _) rfl (fun K hK => ?_) AllReadyH.nil
        obtain ⟨hi, hz0, hz1, hz2⟩ := HIN.out
        refine Wb.step_append_row (by rfl) _ _ _ (by rfl) W0.heap.size 50 i0 (.agg #[.int .i64 0, .int .i64 0, .int .i64 0, .int .i64 0]) 4 32 Try.underlying28 hi hz0 hz1 hz2 (by rfl) (by decide) _ (0) ([]) (by rfl) (HO22r.out) _ (by rfl) (L.length) (rowsOf pcc L) (HT0.out.ext hx22) (rpc_one _) (by unfold maxLen; omega) (by omega) (Below.size (show Wb.Ext W0 w22 from hx22)) ?_
        intro v23 w23 ho23 hg23 hat23
        obtain ⟨N23, hN23⟩ : ∃ n, n = 0 + (L.length) := ⟨_, rfl⟩
        rw [← hN23] at ho23
        have HN23 := Lib.hid hN23
        have hNb23 : N23 ≤ 0 + (L.length) := Nat.le_of_eq hN23
        clear hN23
        have HO23 := Lib.hid ho23
        have hx23 : Wb.Ext W0 w23 := Wb.Ext.grown hx22 hg23 (fun q hq => (HO22r.out.lt q hq).1)
        replace HLx := Lib.hid (src_grown HLx.out hg23 (fun a m c e => by cases e; intro hq; injection hq with hq; exact negrgx hq))
        obtain ⟨ra23, rc23, rfl⟩ := row_shape ho23
        replace grh : gr < w23.heap.size := Nat.lt_of_lt_of_le grh hg23.size
        replace gxh : gx < w23.heap.size := Nat.lt_of_lt_of_le gxh hg23.size
        clear hi hz0 hz1 hz2 ho23 hg23 hat23
        refine hK.out _ _ ⟨hx23.keep x0, hx23.keep x1, hx23.keep x2, hx23.keep x3, hx23.keep x4, hx23.keep x5, hx23.keep y0, hx23.keep y1, hx23.keep y2, hx23.keep y3⟩ (fun hHeld => ?_)
        clear hK K
        (try simp only [List.setIfInBounds_toArray, List.set_cons_zero, List.set_cons_succ])
        refine wpAnyH_ready (rs := [6]) (by kernel_rfl) (by simp) ?_
        refine AllReadyH.cons (o := _) rfl (fun K hK => ?_) AllReadyH.nil
        obtain ⟨hi, hz0, hz1, hz2⟩ := HIN.out
        refine Wb.step_append_row (by rfl) _ _ _ (by rfl) W0.heap.size 50 i0 (.agg #[.int .i64 0, .int .i64 0, .int .i64 0, .int .i64 0]) 4 32 Try.underlying28 hi hz0 hz1 hz2 (by rfl) (by decide) _ (N23) ([] ++ rowsOf pcc L) (by rfl) (HO23.out) _ (by rfl) (1) (rowsOf pcc [(⟨z.d, z.y, 0⟩ : Pc)]) (HLx.out) (rpc_one _) (by unfold maxLen; omega) (by omega) (Below.size (show Wb.Ext W0 w23 from hx23)) ?_
        intro v24 w24 ho24 hg24 hat24
        obtain ⟨N24, hN24⟩ : ∃ n, n = N23 + (1) := ⟨_, rfl⟩
        rw [← hN24] at ho24
        have HN24 := Lib.hid hN24
        have hNb24 : N24 ≤ N23 + (1) := Nat.le_of_eq hN24
        clear hN24
        have HO24 := Lib.hid ho24
        have hx24 : Wb.Ext W0 w24 := Wb.Ext.grown hx23 hg24 (fun q hq => (HO23.out.lt q hq).1)
        obtain ⟨ra24, rc24, rfl⟩ := row_shape ho24
        replace grh : gr < w24.heap.size := Nat.lt_of_lt_of_le grh hg24.size
        replace gxh : gx < w24.heap.size := Nat.lt_of_lt_of_le gxh hg24.size
        clear hi hz0 hz1 hz2 ho24 hg24 hat24
        refine hK.out _ _ ⟨hx24.keep x0, hx24.keep x1, hx24.keep x2, hx24.keep x3, hx24.keep x4, hx24.keep x5, hx24.keep y0, hx24.keep y1, hx24.keep y2, hx24.keep y3⟩ (fun hHeld => ?_)
        clear hK K
        (try simp only [List.setIfInBounds_toArray, List.set_cons_zero, List.set_cons_succ])
        refine wpAnyH_ready (rs := [7]) (by kernel_rfl) (by simp) ?_
        refine AllReadyH.cons (o := _) rfl (fun K hK => ?_) AllReadyH.nil
        go_simp
        go_at_call 14
        go_fit (salary_any yr ix o f t pay _ (L ++ [⟨z.d, z.y, 0⟩]) _ HI.out HS.out (row_tbl (base := W0.heap.size) (e := 50) (n := N24) pcc_len (by decide) (by rw [rowsOf_app]; exact HO24.out)) (by intro q hq; rcases List.mem_append.1 hq with hq | hq; exact (HBL.out q hq).1; simp at hq; subst hq; exact HX.out.1) (by simp; omega))
        rintro e w25 ⟨rfl, hb25⟩
        rw [HC.out]
        have hx25 : Wb.Ext W0 w25 := hx24.trans hb25
        clear hb25
        refine hK.out _ _ ⟨hx25.keep x0, hx25.keep x1, hx25.keep x2, hx25.keep x3, hx25.keep x4, hx25.keep x5, hx25.keep y0, hx25.keep y1, hx25.keep y2, hx25.keep y3⟩ (fun hHeld => ?_)
        clear hK K
        (try simp only [List.setIfInBounds_toArray, List.set_cons_zero, List.set_cons_succ])
        refine take_d (i := 8) (d := 87) (v := ?_) rfl rfl (by kernel_rfl) (by kernel_rfl) (by kernel_rfl) (fun _ _ _ h => h) (Or.inl ⟨by rfl, ?_⟩) (by assumption) ?_
        rotate_left
        · (intro w hSw; (try dsimp only at hSw); go_simp; (try with_reducible rfl))
        (try simp only [Act.put, List.setIfInBounds_toArray, List.set_cons_zero, List.set_cons_succ])
        refine take_d (i := 9) (d := 96) (v := ?_) rfl rfl (by kernel_rfl) (by kernel_rfl) (by kernel_rfl) (fun _ _ _ h => h) (Or.inl ⟨by rfl, ?_⟩) (by assumption) ?_
        rotate_left
        · (intro w hSw; (try dsimp only at hSw); go_simp; (try with_reducible rfl))
        (try simp only [Act.put, List.setIfInBounds_toArray, List.set_cons_zero, List.set_cons_succ])
        refine take_d (i := 10) (d := 97) (v := ?_) rfl rfl (by kernel_rfl) (by kernel_rfl) (by kernel_rfl) (fun _ _ _ h => h) (Or.inl ⟨by rfl, ?_⟩) (by assumption) ?_
        rotate_left
        · (intro w hSw; (try dsimp only at hSw); go_simp; (try with_reducible rfl))
        (try simp only [Act.put, List.setIfInBounds_toArray, List.set_cons_zero, List.set_cons_succ])
        refine take_d (i := 11) (d := 13) (v := ?_) rfl rfl (by kernel_rfl) (by kernel_rfl) (by kernel_rfl) (fun _ _ _ h => h) (Or.inl ⟨by rfl, ?_⟩) (by assumption) ?_
        rotate_left
        · (intro w hSw; (try dsimp only at hSw); go_simp; (try with_reducible rfl))
        (try simp only [Act.put, List.setIfInBounds_toArray, List.set_cons_zero, List.set_cons_succ])
        refine take_d (i := 12) (d := 14) (v := ?_) rfl rfl (by kernel_rfl) (by kernel_rfl) (by kernel_rfl) (fun _ _ _ h => h) (Or.inl ⟨by rfl, ?_⟩) (by assumption) ?_
        rotate_left
        · (intro w hSw; (try dsimp only at hSw); go_simp; (try with_reducible rfl))
        (try simp only [Act.put, List.setIfInBounds_toArray, List.set_cons_zero, List.set_cons_succ])
        refine wpAnyH_done (by kernel_rfl) ?_ _
        have hxe : Wb.Ext w w25 := hx0.trans hx25
        by_cases hc : ec = 0
        · subst hc
          have hca : c = a := turn_last hl20 rfl HA.out HC.out
          subst hca
          go_wp2
          go_ret
          exact ⟨rfl, hxe⟩
        · have d2 : (ec == 0) = false := by simpa using hc
          have d3 : (ec != 0) = true := by simpa using hc
          clear hc
          go_wp2
          go_ret
          exact ⟨rfl, hxe⟩
      exact AllReadyH.nil
    refine AllReadyH.cons (o := _) rfl (fun K hK => ?_) ?_
    · go_simp
      refine atK fun w21 hw21 => ?_
      have hx21 : Wb.Ext W0 w21 := by rw [hw21]; exact Wb.Ext.alloc (.drew (.refl _)) _
      obtain ⟨gx, gxe⟩ : ∃ g, W0.heap.size = g := ⟨_, rfl⟩
      have gxh : gx < w21.heap.size := by rw [hw21, ← gxe]; simp
      have HLx := Lib.hid (show Wb.SrcRow w21 4 (.slice (some ⟨gx, 0, none⟩) 1 1) 1 (rowsOf pcc [(⟨z.d, z.y, 0⟩ : Pc)]) by rw [hw21, ← gxe]; exact src_lit W0 _ rfl (rowsOf pcc [(⟨z.d, z.y, 0⟩ : Pc)]) _ _)
      (try rw [gxe])
      clear hw21 gxe
      refine hK.out _ _ ⟨hx21.keep x0, hx21.keep x1, hx21.keep x2, hx21.keep x3, hx21.keep x4, hx21.keep x5, hx21.keep y0, hx21.keep y1, hx21.keep y2, hx21.keep y3⟩ (fun hHeld => ?_)
      clear hK K
      (try simp only [List.setIfInBounds_toArray, List.set_cons_zero, List.set_cons_succ])
      refine wpAnyH_ready (rs := [1]) (by kernel_rfl) (by simp) ?_
      refine AllReadyH.cons (o := _) rfl (fun K hK => ?_) AllReadyH.nil
      go_simp
      refine atK fun w22 hw22 => ?_
      have hx22 : Wb.Ext W0 w22 := by rw [hw22]; exact Wb.Ext.alloc hx21 _
      replace HLx := Lib.hid (HLx.out.ext (show Wb.Ext w21 w22 by rw [hw22]; exact Wb.Ext.alloc (.refl _) _))
      have gxp := gxh
      replace gxh : gx < w22.heap.size := Nat.lt_of_lt_of_le gxh (by rw [hw22]; simp)
      obtain ⟨gr, gre⟩ : ∃ g, w21.heap.size = g := ⟨_, rfl⟩
      have grh : gr < w22.heap.size := by rw [hw22, ← gre]; simp
      have negxgr : gx ≠ gr := by have := gxp; omega
      have negrgx : gr ≠ gx := Ne.symm negxgr
      have HO22 := Lib.hid (show w22.ownsRow W0.heap.size 50 4 (.slice (some ⟨gr, 0, none⟩) 0 0) 0 [] by rw [hw22, ← gre]; exact own_empty (w := w21) (by first | exact Nat.le_refl _ | exact hx21.size))
      (try rw [gre])
      clear hw22 gre
      refine hK.out _ _ ⟨hx22.keep x0, hx22.keep x1, hx22.keep x2, hx22.keep x3, hx22.keep x4, hx22.keep x5, hx22.keep y0, hx22.keep y1, hx22.keep y2, hx22.keep y3⟩ (fun hHeld => ?_)
      clear hK K
      (try simp only [List.setIfInBounds_toArray, List.set_cons_zero, List.set_cons_succ])
      refine wpAnyH_ready (rs := [3]) (by kernel_rfl) (by simp) ?_
      refine AllReadyH.cons (o := _) rfl (fun K hK => ?_) AllReadyH.nil
      obtain ⟨hi, hz0, hz1, hz2⟩ := HIN.out
      refine Wb.step_append_row (by rfl) _ _ _ (by rfl) W0.heap.size 50 i0 (.agg #[.int .i64 0, .int .i64 0, .int .i64 0, .int .i64 0]) 4 32 Try.underlying28 hi hz0 hz1 hz2 (by rfl) (by decide) _ (0) ([]) (by rfl) (HO22.out) _ (by rfl) (L.length) (rowsOf pcc L) (HT0.out.ext hx22) (rpc_one _) (by unfold maxLen; omega) (by omega) (Below.size (show Wb.Ext W0 w22 from hx22)) ?_
      intro v23 w23 ho23 hg23 hat23
      obtain ⟨N23, hN23⟩ : ∃ n, n = 0 + (L.length) := ⟨_, rfl⟩
      rw [← hN23] at ho23
      have HN23 := Lib.hid hN23
      have hNb23 : N23 ≤ 0 + (L.length) := Nat.le_of_eq hN23
      clear hN23
      have HO23 := Lib.hid ho23
      have hx23 : Wb.Ext W0 w23 := Wb.Ext.grown hx22 hg23 (fun q hq => (HO22.out.lt q hq).1)
      replace HLx := Lib.hid (src_grown HLx.out hg23 (fun a m c e => by cases e; intro hq; injection hq with hq; exact negrgx hq))
      obtain ⟨ra23, rc23, rfl⟩ := row_shape ho23
      replace gxh : gx < w23.heap.size := Nat.lt_of_lt_of_le gxh hg23.size
      replace grh : gr < w23.heap.size := Nat.lt_of_lt_of_le grh hg23.size
      clear hi hz0 hz1 hz2 ho23 hg23 hat23
      refine hK.out _ _ ⟨hx23.keep x0, hx23.keep x1, hx23.keep x2, hx23.keep x3, hx23.keep x4, hx23.keep x5, hx23.keep y0, hx23.keep y1, hx23.keep y2, hx23.keep y3⟩ (fun hHeld => ?_)
      clear hK K
      (try simp only [List.setIfInBounds_toArray, List.set_cons_zero, List.set_cons_succ])
      refine wpAnyH_ready (rs := [6]) (by kernel_rfl) (by simp) ?_
      refine AllReadyH.cons (o := _) rfl (fun K hK => ?_) AllReadyH.nil
      obtain ⟨hi, hz0, hz1, hz2⟩ := HIN.out
      refine Wb.step_append_row (by rfl) _ _ _ (by rfl) W0.heap.size 50 i0 (.agg #[.int .i64 0, .int .i64 0, .int .i64 0, .int .i64 0]) 4 32 Try.underlying28 hi hz0 hz1 hz2 (by rfl) (by decide) _ (N23) ([] ++ rowsOf pcc L) (by rfl) (HO23.out) _ (by rfl) (1) (rowsOf pcc [(⟨z.d, z.y, 0⟩ : Pc)]) (HLx.out) (rpc_one _) (by unfold maxLen; omega) (by omega) (Below.size (show Wb.Ext W0 w23 from hx23)) ?_
      intro v24 w24 ho24 hg24 hat24
      obtain ⟨N24, hN24⟩ : ∃ n, n = N23 + (1) := ⟨_, rfl⟩
      rw [← hN24] at ho24
      have HN24 := Lib.hid hN24
      have hNb24 : N24 ≤ N23 + (1) := Nat.le_of_eq hN24
      clear hN24
      have HO24 := Lib.hid ho24
      have hx24 : Wb.Ext W0 w24 := Wb.Ext.grown hx23 hg24 (fun q hq => (HO23.out.lt q hq).1)
      obtain ⟨ra24, rc24, rfl⟩ := row_shape ho24
      replace gxh : gx < w24.heap.size := Nat.lt_of_lt_of_le gxh hg24.size
      replace grh : gr < w24.heap.size := Nat.lt_of_lt_of_le grh hg24.size
      clear hi hz0 hz1 hz2 ho24 hg24 hat24
      refine hK.out _ _ ⟨hx24.keep x0, hx24.keep x1, hx24.keep x2, hx24.keep x3, hx24.keep x4, hx24.keep x5, hx24.keep y0, hx24.keep y1, hx24.keep y2, hx24.keep y3⟩ (fun hHeld => ?_)
      clear hK K
      (try simp only [List.setIfInBounds_toArray, List.set_cons_zero, List.set_cons_succ])
      refine wpAnyH_ready (rs := [7]) (by kernel_rfl) (by simp) ?_
      refine AllReadyH.cons (o := _) rfl (fun K hK => ?_) AllReadyH.nil
      go_simp
      go_at_call 14
      go_fit (salary_any yr ix o f t pay _ (L ++ [⟨z.d, z.y, 0⟩]) _ HI.out HS.out (row_tbl (base := W0.heap.size) (e := 50) (n := N24) pcc_len (by decide) (by rw [rowsOf_app]; exact HO24.out)) (by intro q hq; rcases List.mem_append.1 hq with hq | hq; exact (HBL.out q hq).1; simp at hq; subst hq; exact HX.out.1) (by simp; omega))
      rintro e w25 ⟨rfl, hb25⟩
      rw [HC.out]
      have hx25 : Wb.Ext W0 w25 := hx24.trans hb25
      clear hb25
      refine hK.out _ _ ⟨hx25.keep x0, hx25.keep x1, hx25.keep x2, hx25.keep x3, hx25.keep x4, hx25.keep x5, hx25.keep y0, hx25.keep y1, hx25.keep y2, hx25.keep y3⟩ (fun hHeld => ?_)
      clear hK K
      (try simp only [List.setIfInBounds_toArray, List.set_cons_zero, List.set_cons_succ])
      refine take_d (i := 8) (d := 87) (v := ?_) rfl rfl (by kernel_rfl) (by kernel_rfl) (by kernel_rfl) (fun _ _ _ h => h) (Or.inl ⟨by rfl, ?_⟩) (by assumption) ?_
      rotate_left
      · (intro w hSw; (try dsimp only at hSw); go_simp; (try with_reducible rfl))
      (try simp only [Act.put, List.setIfInBounds_toArray, List.set_cons_zero, List.set_cons_succ])
      refine take_d (i := 9) (d := 96) (v := ?_) rfl rfl (by kernel_rfl) (by kernel_rfl) (by kernel_rfl) (fun _ _ _ h => h) (Or.inl ⟨by rfl, ?_⟩) (by assumption) ?_
      rotate_left
      · (intro w hSw; (try dsimp only at hSw); go_simp; (try with_reducible rfl))
      (try simp only [Act.put, List.setIfInBounds_toArray, List.set_cons_zero, List.set_cons_succ])
      refine take_d (i := 10) (d := 97) (v := ?_) rfl rfl (by kernel_rfl) (by kernel_rfl) (by kernel_rfl) (fun _ _ _ h => h) (Or.inl ⟨by rfl, ?_⟩) (by assumption) ?_
      rotate_left
      · (intro w hSw; (try dsimp only at hSw); go_simp; (try with_reducible rfl))
      (try simp only [Act.put, List.setIfInBounds_toArray, List.set_cons_zero, List.set_cons_succ])
      refine take_d (i := 11) (d := 13) (v := ?_) rfl rfl (by kernel_rfl) (by kernel_rfl) (by kernel_rfl) (fun _ _ _ h => h) (Or.inl ⟨by rfl, ?_⟩) (by assumption) ?_
      rotate_left
      · (intro w hSw; (try dsimp only at hSw); go_simp; (try with_reducible rfl))
      (try simp only [Act.put, List.setIfInBounds_toArray, List.set_cons_zero, List.set_cons_succ])
      refine take_d (i := 12) (d := 14) (v := ?_) rfl rfl (by kernel_rfl) (by kernel_rfl) (by kernel_rfl) (fun _ _ _ h => h) (Or.inl ⟨by rfl, ?_⟩) (by assumption) ?_
      rotate_left
      · (intro w hSw; (try dsimp only at hSw); go_simp; (try with_reducible rfl))
      (try simp only [Act.put, List.setIfInBounds_toArray, List.set_cons_zero, List.set_cons_succ])
      refine wpAnyH_done (by kernel_rfl) ?_ _
      have hxe : Wb.Ext w w25 := hx0.trans hx25
      by_cases hc : ec = 0
      · subst hc
        have hca : c = a := turn_last hl20 rfl HA.out HC.out
        subst hca
        go_wp2
        go_ret
        exact ⟨rfl, hxe⟩
      · have d2 : (ec == 0) = false := by simpa using hc
        have d3 : (ec != 0) = true := by simpa using hc
        clear hc
        go_wp2
        go_ret
        exact ⟨rfl, hxe⟩
    exact AllReadyH.nil

end Go.Proofs.Ytheofklbmknipaa
