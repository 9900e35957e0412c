/- Chapter 29: DeltaOf. -/
import Derived.Test.YtdfmlgjemfcmlaaDLaw0
import Derived.Test.YtdfmlgjemfcmlaaPlain29d
import Derived.Deep.RegionHeld3
namespace Go.Proofs.Ytdfmlgjemfcmlaa
open Go.RowKit Go.Lib
set_option maxRecDepth 8000
attribute [local go_sem ↓] Go.wp_at_zero Go.wp_at_succ

set_option maxHeartbeats 4000000 in
theorem dof_walk (y i : Int) (ua : Value) (a : List Wb.Ln) (y' i' : Int) (ub : Value) (b : List Wb.Ln) (v : Value) (L : List Wb.Sl) (w : World) (ha : LnsS w ua a) (hBa : BigL a) (hb : LnsS w ub b) (hBb : BigL b) (hL : SlsW w v L) (hl : L.length ≤ 9223372036854775807) :
    Calls Try.prog 3 #[SlV y i ua, SlV y' i' ub, v] w fun e w' => e = .returned (.bool true) ∧ Wb.Ext w w' := by
  obtain ⟨aA, aK, rfl⟩ := ha.1.1.shape
  have Ha := Lib.hid ha
  have HBa := Lib.hid hBa
  clear ha hBa
  obtain ⟨bA, bK, rfl⟩ := hb.1.1.shape
  have Hb := Lib.hid hb
  have HBb := Lib.hid hBb
  clear hb hBb
  obtain ⟨vA, vK, rfl⟩ := hL.1.shape
  have HL := Lib.hid hL
  clear hL
  go_enter Try.func3, Try.ntmps3
  go_wp2_with fail
  go_fit (awake29_any _); rintro e w1 ⟨rfl, hb1⟩
  have hn1 : Wb.Ext w w1 := Wb.Ext.trans (by (repeat' (first | (with_reducible assumption) | (with_reducible exact Wb.Ext.refl _) | (with_reducible refine Wb.Ext.drew ?_) | (with_reducible refine Wb.Ext.drewN ?_ _) | (with_reducible refine Wb.Ext.alloc ?_ _) | (with_reducible refine Wb.Ext.trans ?_ (by assumption))))) hb1
  have hx1 : Wb.Ext w w1 := hn1
  have xa0 : w1.cell? ⟨w.heap.size, 0, none⟩ = some (.int .i64 y) := hb1.keep (by simp [go_sem])
  have xa1 : w1.cell? ⟨w.heap.size, 1, none⟩ = some (.int .i64 i) := hb1.keep (by simp [go_sem])
  have xa2 : w1.cell? ⟨w.heap.size, 2, none⟩ = some (.slice aA a.length aK) := hb1.keep (by simp [go_sem])
  have xb0 : w1.cell? ⟨w.heap.size + 1, 0, none⟩ = some (.int .i64 y') := hb1.keep (by simp [go_sem])
  have xb1 : w1.cell? ⟨w.heap.size + 1, 1, none⟩ = some (.int .i64 i') := hb1.keep (by simp [go_sem])
  have xb2 : w1.cell? ⟨w.heap.size + 1, 2, none⟩ = some (.slice bA b.length bK) := hb1.keep (by simp [go_sem])
  have zxa := Wb.cell_size xa0
  have zxb := Wb.cell_size xb0
  clear hb1 hn1
  go_wp2_with fail
  go_fit (rshort2_any y i _ a _ (Ha.out.1.1.ext (by (repeat' (first | (with_reducible assumption) | (with_reducible exact Wb.Ext.refl _) | (with_reducible refine Wb.Ext.drew ?_) | (with_reducible refine Wb.Ext.drewN ?_ _) | (with_reducible refine Wb.Ext.alloc ?_ _) | (with_reducible refine Wb.Ext.trans ?_ (by assumption)))))) HBa.out); rintro e w2 ⟨qa, rfl, hqa, hb2⟩
  have hn2 : Wb.Ext w1 w2 := Wb.Ext.trans (by (repeat' (first | (with_reducible assumption) | (with_reducible exact Wb.Ext.refl _) | (with_reducible refine Wb.Ext.drew ?_) | (with_reducible refine Wb.Ext.drewN ?_ _) | (with_reducible refine Wb.Ext.alloc ?_ _) | (with_reducible refine Wb.Ext.trans ?_ (by assumption))))) hb2
  have hx2 : Wb.Ext w w2 := hx1.trans hn2
  have xa0 := hn2.keep xa0
  have xa1 := hn2.keep xa1
  have xa2 := hn2.keep xa2
  have xb0 := hn2.keep xb0
  have xb1 := hn2.keep xb1
  have xb2 := hn2.keep xb2
  have zxa := Wb.cell_size xa0
  have zxb := Wb.cell_size xb0
  clear hb2 hn2
  have HQa := Lib.hid hqa
  clear hqa
  cases qa
  · go_wp2
    go_ret
    exact ⟨rfl, by (repeat' (first | (with_reducible assumption) | (with_reducible exact Wb.Ext.refl _) | (with_reducible refine Wb.Ext.drew ?_) | (with_reducible refine Wb.Ext.drewN ?_ _) | (with_reducible refine Wb.Ext.alloc ?_ _) | (with_reducible refine Wb.Ext.trans ?_ (by assumption))))⟩
  · skip
    have HFa : Hid (Few a) := Lib.hid (HQa.out rfl)
    clear HQa
    go_wp2_with fail
    go_fit (rshort2_any y' i' _ b _ (Hb.out.1.1.ext (by (repeat' (first | (with_reducible assumption) | (with_reducible exact Wb.Ext.refl _) | (with_reducible refine Wb.Ext.drew ?_) | (with_reducible refine Wb.Ext.drewN ?_ _) | (with_reducible refine Wb.Ext.alloc ?_ _) | (with_reducible refine Wb.Ext.trans ?_ (by assumption)))))) HBb.out); rintro e w3 ⟨qb, rfl, hqb, hb3⟩
    have hn3 : Wb.Ext w2 w3 := Wb.Ext.trans (by (repeat' (first | (with_reducible assumption) | (with_reducible exact Wb.Ext.refl _) | (with_reducible refine Wb.Ext.drew ?_) | (with_reducible refine Wb.Ext.drewN ?_ _) | (with_reducible refine Wb.Ext.alloc ?_ _) | (with_reducible refine Wb.Ext.trans ?_ (by assumption))))) hb3
    have hx3 : Wb.Ext w w3 := hx2.trans hn3
    have xa0 := hn3.keep xa0
    have xa1 := hn3.keep xa1
    have xa2 := hn3.keep xa2
    have xb0 := hn3.keep xb0
    have xb1 := hn3.keep xb1
    have xb2 := hn3.keep xb2
    have zxa := Wb.cell_size xa0
    have zxb := Wb.cell_size xb0
    clear hb3 hn3
    have HQb := Lib.hid hqb
    clear hqb
    cases qb
    · go_wp2
      go_ret
      exact ⟨rfl, by (repeat' (first | (with_reducible assumption) | (with_reducible exact Wb.Ext.refl _) | (with_reducible refine Wb.Ext.drew ?_) | (with_reducible refine Wb.Ext.drewN ?_ _) | (with_reducible refine Wb.Ext.alloc ?_ _) | (with_reducible refine Wb.Ext.trans ?_ (by assumption))))⟩
    · skip
      have HFb : Hid (Few b) := Lib.hid (HQb.out rfl)
      clear HQb
      go_wp2_with fail
      go_fit (rshorts2_any _ L 40 _ (HL.out.ext (by (repeat' (first | (with_reducible assumption) | (with_reducible exact Wb.Ext.refl _) | (with_reducible refine Wb.Ext.drew ?_) | (with_reducible refine Wb.Ext.drewN ?_ _) | (with_reducible refine Wb.Ext.alloc ?_ _) | (with_reducible refine Wb.Ext.trans ?_ (by assumption)))))) (by decide) hl); rintro e w4 ⟨ql, rfl, hql, hb4⟩
      have hn4 : Wb.Ext w3 w4 := Wb.Ext.trans (by (repeat' (first | (with_reducible assumption) | (with_reducible exact Wb.Ext.refl _) | (with_reducible refine Wb.Ext.drew ?_) | (with_reducible refine Wb.Ext.drewN ?_ _) | (with_reducible refine Wb.Ext.alloc ?_ _) | (with_reducible refine Wb.Ext.trans ?_ (by assumption))))) hb4
      have hx4 : Wb.Ext w w4 := hx3.trans hn4
      have xa0 := hn4.keep xa0
      have xa1 := hn4.keep xa1
      have xa2 := hn4.keep xa2
      have xb0 := hn4.keep xb0
      have xb1 := hn4.keep xb1
      have xb2 := hn4.keep xb2
      have zxa := Wb.cell_size xa0
      have zxb := Wb.cell_size xb0
      clear hb4 hn4
      have HQL := Lib.hid hql
      clear hql
      cases ql
      · go_wp2
        go_ret
        exact ⟨rfl, by (repeat' (first | (with_reducible assumption) | (with_reducible exact Wb.Ext.refl _) | (with_reducible refine Wb.Ext.drew ?_) | (with_reducible refine Wb.Ext.drewN ?_ _) | (with_reducible refine Wb.Ext.alloc ?_ _) | (with_reducible refine Wb.Ext.trans ?_ (by assumption))))⟩
      · skip
        have HFL := Lib.hid (HQL.out rfl)
        have hL40 : L.length ≤ 1000000 := Nat.le_trans HFL.out.1 (by decide)
        go_wp2_with fail
        go_fit (dof_any y i _ a y' i' _ b _ (Ha.out.1.1.ext (by (repeat' (first | (with_reducible assumption) | (with_reducible exact Wb.Ext.refl _) | (with_reducible refine Wb.Ext.drew ?_) | (with_reducible refine Wb.Ext.drewN ?_ _) | (with_reducible refine Wb.Ext.alloc ?_ _) | (with_reducible refine Wb.Ext.trans ?_ (by assumption)))))) HFa.out.sized (Hb.out.1.1.ext (by (repeat' (first | (with_reducible assumption) | (with_reducible exact Wb.Ext.refl _) | (with_reducible refine Wb.Ext.drew ?_) | (with_reducible refine Wb.Ext.drewN ?_ _) | (with_reducible refine Wb.Ext.alloc ?_ _) | (with_reducible refine Wb.Ext.trans ?_ (by assumption)))))) HFb.out.sized); rintro e w5 ⟨Yd, Id, md, Ed, rfl, d, hOd⟩
        have hb5 := hOd.ext
        have hn5 : Wb.Ext w4 w5 := Wb.Ext.trans (by (repeat' (first | (with_reducible assumption) | (with_reducible exact Wb.Ext.refl _) | (with_reducible refine Wb.Ext.drew ?_) | (with_reducible refine Wb.Ext.drewN ?_ _) | (with_reducible refine Wb.Ext.alloc ?_ _) | (with_reducible refine Wb.Ext.trans ?_ (by assumption))))) hb5
        have hx5 : Wb.Ext w w5 := hx4.trans hn5
        have xa0 := hn5.keep xa0
        have xa1 := hn5.keep xa1
        have xa2 := hn5.keep xa2
        have xb0 := hn5.keep xb0
        have xb1 := hn5.keep xb1
        have xb2 := hn5.keep xb2
        have zxa := Wb.cell_size xa0
        have zxb := Wb.cell_size xb0
        clear hb5 hn5
        obtain ⟨dA, dK, rfl⟩ := hOd.lns.1.shape
        have HOd := Lib.hid hOd.of
        have HLd := Lib.hid hOd.lns
        clear hOd
        go_wp2_with fail
        go_fit (rof29_any y i _ a y' i' _ b _ (Ha.out.ext (by (repeat' (first | (with_reducible assumption) | (with_reducible exact Wb.Ext.refl _) | (with_reducible refine Wb.Ext.drew ?_) | (with_reducible refine Wb.Ext.drewN ?_ _) | (with_reducible refine Wb.Ext.alloc ?_ _) | (with_reducible refine Wb.Ext.trans ?_ (by assumption)))))) HFa.out.sized (Hb.out.ext (by (repeat' (first | (with_reducible assumption) | (with_reducible exact Wb.Ext.refl _) | (with_reducible refine Wb.Ext.drew ?_) | (with_reducible refine Wb.Ext.drewN ?_ _) | (with_reducible refine Wb.Ext.alloc ?_ _) | (with_reducible refine Wb.Ext.trans ?_ (by assumption)))))) HFb.out.sized); rintro e w6 ⟨Yf, If, mf, Ef, rfl, f, hOf⟩
        have hb6 := hOf.ext
        have hn6 : Wb.Ext w5 w6 := Wb.Ext.trans (by (repeat' (first | (with_reducible assumption) | (with_reducible exact Wb.Ext.refl _) | (with_reducible refine Wb.Ext.drew ?_) | (with_reducible refine Wb.Ext.drewN ?_ _) | (with_reducible refine Wb.Ext.alloc ?_ _) | (with_reducible refine Wb.Ext.trans ?_ (by assumption))))) hb6
        have hx6 : Wb.Ext w w6 := hx5.trans hn6
        have xa0 := hn6.keep xa0
        have xa1 := hn6.keep xa1
        have xa2 := hn6.keep xa2
        have xb0 := hn6.keep xb0
        have xb1 := hn6.keep xb1
        have xb2 := hn6.keep xb2
        have xd0 : w6.cell? ⟨w5.heap.size, 0, none⟩ = some (.int .i64 Yd) := hb6.keep (by simp [go_sem])
        have xd1 : w6.cell? ⟨w5.heap.size, 1, none⟩ = some (.int .i64 Id) := hb6.keep (by simp [go_sem])
        have xd2 : w6.cell? ⟨w5.heap.size, 2, none⟩ = some (.slice dA d.length dK) := hb6.keep (by simp [go_sem])
        have zxa := Wb.cell_size xa0
        have zxb := Wb.cell_size xb0
        have zxd := Wb.cell_size xd0
        replace HLd := Lib.hid (HLd.out.ext hn6)
        clear hb6 hn6
        obtain ⟨rfl, rfl, rfl, rfl⟩ := HOd.out.uniq hOf.of
        obtain ⟨fA, fK, rfl⟩ := hOf.lns.1.shape
        have HLf := Lib.hid hOf.lns
        clear hOf
        obtain ⟨⟨n1, n2⟩, hn⟩ : ∃ q, Wb.netF 0 L = q := ⟨_, rfl⟩
        have HN := Lib.hid hn
        clear hn
        go_wp2_with fail
        go_fit (dnet_any _ L _ ((HL.out.sls HFL.out.2).ext (by (repeat' (first | (with_reducible assumption) | (with_reducible exact Wb.Ext.refl _) | (with_reducible refine Wb.Ext.drew ?_) | (with_reducible refine Wb.Ext.drewN ?_ _) | (with_reducible refine Wb.Ext.alloc ?_ _) | (with_reducible refine Wb.Ext.trans ?_ (by assumption)))))) hL40); rintro e w7 ⟨rfl, hb7⟩
        have hn7 : Wb.Ext w6 w7 := Wb.Ext.trans (by (repeat' (first | (with_reducible assumption) | (with_reducible exact Wb.Ext.refl _) | (with_reducible refine Wb.Ext.drew ?_) | (with_reducible refine Wb.Ext.drewN ?_ _) | (with_reducible refine Wb.Ext.alloc ?_ _) | (with_reducible refine Wb.Ext.trans ?_ (by assumption))))) hb7
        have hx7 : Wb.Ext w w7 := hx6.trans hn7
        have xa0 := hn7.keep xa0
        have xa1 := hn7.keep xa1
        have xa2 := hn7.keep xa2
        have xb0 := hn7.keep xb0
        have xb1 := hn7.keep xb1
        have xb2 := hn7.keep xb2
        have xd0 := hn7.keep xd0
        have xd1 := hn7.keep xd1
        have xd2 := hn7.keep xd2
        have xf0 : w7.cell? ⟨w6.heap.size, 0, none⟩ = some (.int .i64 Yd) := hb7.keep (by simp [go_sem])
        have xf1 : w7.cell? ⟨w6.heap.size, 1, none⟩ = some (.int .i64 Id) := hb7.keep (by simp [go_sem])
        have xf2 : w7.cell? ⟨w6.heap.size, 2, none⟩ = some (.slice fA d.length fK) := hb7.keep (by simp [go_sem])
        have zxa := Wb.cell_size xa0
        have zxb := Wb.cell_size xb0
        have zxd := Wb.cell_size xd0
        have zxf := Wb.cell_size xf0
        replace HLd := Lib.hid (HLd.out.ext hn7)
        replace HLf := Lib.hid (HLf.out.ext hn7)
        clear hb7 hn7
        rw [HN.out]
        go_wp2_with fail
        go_fit (rnet_any _ L _ ((HL.out.sls HFL.out.2).ext (by (repeat' (first | (with_reducible assumption) | (with_reducible exact Wb.Ext.refl _) | (with_reducible refine Wb.Ext.drew ?_) | (with_reducible refine Wb.Ext.drewN ?_ _) | (with_reducible refine Wb.Ext.alloc ?_ _) | (with_reducible refine Wb.Ext.trans ?_ (by assumption)))))) hL40); rintro e w8 ⟨rfl, hb8⟩
        have hn8 : Wb.Ext w7 w8 := Wb.Ext.trans (by (repeat' (first | (with_reducible assumption) | (with_reducible exact Wb.Ext.refl _) | (with_reducible refine Wb.Ext.drew ?_) | (with_reducible refine Wb.Ext.drewN ?_ _) | (with_reducible refine Wb.Ext.alloc ?_ _) | (with_reducible refine Wb.Ext.trans ?_ (by assumption))))) hb8
        have hx8 : Wb.Ext w w8 := hx7.trans hn8
        have xa0 := hn8.keep xa0
        have xa1 := hn8.keep xa1
        have xa2 := hn8.keep xa2
        have xb0 := hn8.keep xb0
        have xb1 := hn8.keep xb1
        have xb2 := hn8.keep xb2
        have xd0 := hn8.keep xd0
        have xd1 := hn8.keep xd1
        have xd2 := hn8.keep xd2
        have xf0 := hn8.keep xf0
        have xf1 := hn8.keep xf1
        have xf2 := hn8.keep xf2
        have zxa := Wb.cell_size xa0
        have zxb := Wb.cell_size xb0
        have zxd := Wb.cell_size xd0
        have zxf := Wb.cell_size xf0
        replace HLd := Lib.hid (HLd.out.ext hn8)
        replace HLf := Lib.hid (HLf.out.ext hn8)
        clear hb8 hn8
        rw [HN.out]
        obtain ⟨z, hz⟩ : ∃ z, a.isEmpty = z := ⟨_, rfl⟩
        have hz2 : ((a.length : Int) == 0) = z := by rw [← hz]; cases a with
          | nil => rfl
          | cons x r => simp; omega
        have HZ := Lib.hid hz
        have HSd : Hid (Sized d) := Lib.hid (of_sized HOd.out)
        clear hz
        go_wp2_with fail
        go_region_held3 (fun w' => w'.cell? ⟨w5.heap.size, 0, none⟩ = some (.int .i64 Yd) ∧ w'.cell? ⟨w5.heap.size, 1, none⟩ = some (.int .i64 Id) ∧ w'.cell? ⟨w5.heap.size, 2, none⟩ = some (.slice dA d.length dK) ∧ w'.cell? ⟨w6.heap.size, 0, none⟩ = some (.int .i64 Yd) ∧ w'.cell? ⟨w6.heap.size, 1, none⟩ = some (.int .i64 Id) ∧ w'.cell? ⟨w6.heap.size, 2, none⟩ = some (.slice fA d.length fK) ∧ w'.cell? ⟨w.heap.size, 0, none⟩ = some (.int .i64 y) ∧ w'.cell? ⟨w.heap.size, 1, none⟩ = some (.int .i64 i) ∧ w'.cell? ⟨w.heap.size, 2, none⟩ = some (.slice aA a.length aK)) (first | exact ⟨xd0, xd1, xd2, xf0, xf1, xf2, xa0, xa1, xa2⟩ | (obtain ⟨k0, k1, k2, k3, k4, k5, k6, k7, k8⟩ := ‹_ ∧ _ ∧ _ ∧ _ ∧ _ ∧ _ ∧ _ ∧ _ ∧ _›; exact ⟨hb.keep k0, hb.keep k1, hb.keep k2, hb.keep k3, hb.keep k4, hb.keep k5, hb.keep k6, hb.keep k7, hb.keep k8⟩)) (first | (go_at_call 17; go_fit (same_eq Yd Id _ _ d _ (HLd.out.1.ext (by (repeat' (first | (with_reducible assumption) | (with_reducible exact Wb.Ext.refl _) | (with_reducible refine Wb.Ext.drew ?_) | (with_reducible refine Wb.Ext.drewN ?_ _) | (with_reducible refine Wb.Ext.alloc ?_ _) | (with_reducible refine Wb.Ext.trans ?_ (by assumption)))))) (HLf.out.1.ext (by (repeat' (first | (with_reducible assumption) | (with_reducible exact Wb.Ext.refl _) | (with_reducible refine Wb.Ext.drew ?_) | (with_reducible refine Wb.Ext.drewN ?_ _) | (with_reducible refine Wb.Ext.alloc ?_ _) | (with_reducible refine Wb.Ext.trans ?_ (by assumption)))))) HSd.out); rintro e w' ⟨rfl, hb⟩) | (go_at_call 18; go_fit (dzero_any y i _ a _ (Ha.out.1.1.ext (by (repeat' (first | (with_reducible assumption) | (with_reducible exact Wb.Ext.refl _) | (with_reducible refine Wb.Ext.drew ?_) | (with_reducible refine Wb.Ext.drewN ?_ _) | (with_reducible refine Wb.Ext.alloc ?_ _) | (with_reducible refine Wb.Ext.trans ?_ (by assumption))))))); rintro e w' ⟨rfl, hb⟩; rw [HZ.out]))
        all_goals
          go_wp2
          go_ret
          exact ⟨rfl, by (repeat' (first | (with_reducible assumption) | (with_reducible exact Wb.Ext.refl _) | (with_reducible refine Wb.Ext.drew ?_) | (with_reducible refine Wb.Ext.drewN ?_ _) | (with_reducible refine Wb.Ext.alloc ?_ _) | (with_reducible refine Wb.Ext.trans ?_ (by assumption))))⟩

end Go.Proofs.Ytdfmlgjemfcmlaa
