/- The walks of package period: spans. -/
import Derived.Test.YtalpdodajcdibaaDoorPer2
import Derived.Test.YtalpdodajcdibaaDoorPlain06e
import Derived.Deep.AppendLies
namespace Go.Proofs.YtalpdodajcdibaaDoor
open Go.RowKit
set_option maxRecDepth 4000

def spc (s : Int × Int) : List Value := [.int .i64 s.1, .int .i64 s.2]
theorem spc_len (s : Int × Int) : (spc s).length = 2 := rfl
theorem infoSpan : (Tryd.prog.info? 26).map (fun i => (i.zero, i.size, i.bytes)) = some (some (.agg #[.int .i64 0, .int .i64 0]), 2, 16) := by kernel_rfl
abbrev Spans (w : World) (v : Value) (l : List (Int × Int)) : Prop := Tbl 2 spc w v l

theorem cal_box {w w1 : World} {c : Wb.Cal} {T : TypeId} (h : Wb.Ext (w.alloc (.cells #[.int .i64 c.kind, .int .i64 c.first, .int .i64 c.lag] T)) w1) :
    w1.cell? ⟨w.heap.size, 0, none⟩ = some (.int .i64 c.kind) ∧ w1.cell? ⟨w.heap.size, 1, none⟩ = some (.int .i64 c.first) ∧ w1.cell? ⟨w.heap.size, 2, none⟩ = some (.int .i64 c.lag) :=
  ⟨h.keep (by simp [go_sem]), h.keep (by simp [go_sem]), h.keep (by simp [go_sem])⟩

set_option maxHeartbeats 2000000 in
theorem spans_any (c : Wb.Cal) (y : Int) (hc : Wb.calErr c = 0) (hy1 : 1900 ≤ y) (hy2 : y ≤ 2199) (w : World) (hw : LenC w) (hp : LenP w) :
    Calls Tryd.prog 29 #[CalV c, .int .i64 y] w fun e w' => ∃ v, e = .returned v ∧ Spans w' v (Wb.spansOf c y) ∧ Wb.Ext w w' := by
  obtain ⟨i0, hi, hz0, hz1, hz2⟩ := info_parts infoSpan
  have HIN := Lib.hid (show Tryd.prog.info? 26 = some i0 ∧ i0.zero = some (.agg #[.int .i64 0, .int .i64 0]) ∧ i0.size = 2 ∧ i0.bytes = 16 from ⟨hi, hz0, hz1, hz2⟩)
  clear hi hz0 hz1 hz2
  have HC := Lib.hid hc
  have HW := Lib.hid hw
  have HP := Lib.hid hp
  clear hc hw hp
  obtain ⟨hi1, hhi1⟩ : ∃ z, Wb.beg (y + 1) 1 = z := ⟨_, rfl⟩
  have HHI := Lib.hid hhi1
  have hup := Wb.beg_mono (show y + 1 ≤ 2200 by omega)
  have hlow := Wb.beg_mono hy1
  rw [show Wb.beg 2200 1 = 84006 from rfl, hhi1] at hup
  rw [show Wb.beg 1900 1 = -25567 from rfl] at hlow
  clear hhi1
  go_enter Tryd.func29, Tryd.ntmps29
  go_wp2_with fail
  refine (first_any (y + 1) (by omega) (by omega) _ (HW.out.ext (by (repeat' (first | (with_reducible assumption) | (with_reducible exact Wb.Ext.refl _) | (with_reducible refine Wb.Ext.drew ?_) | (with_reducible refine Wb.Ext.drewN ?_ _) | (with_reducible refine Wb.Ext.alloc ?_ _) | (with_reducible refine Wb.Ext.trans ?_ (by assumption))))))).mono ?_; rintro e w1 ⟨rfl, hb1⟩
  rw [HHI.out]
  go_wp2_with fail
  refine (first_any y (by omega) (by omega) _ (HW.out.ext (by (repeat' (first | (with_reducible assumption) | (with_reducible exact Wb.Ext.refl _) | (with_reducible refine Wb.Ext.drew ?_) | (with_reducible refine Wb.Ext.drewN ?_ _) | (with_reducible refine Wb.Ext.alloc ?_ _) | (with_reducible refine Wb.Ext.trans ?_ (by assumption))))))).mono ?_; rintro e w2 ⟨rfl, hb2⟩
  have he2 : Wb.Ext (w.alloc (.cells #[.int .i64 c.kind, .int .i64 c.first, .int .i64 c.lag] 24)) w2 := by (repeat' (first | (with_reducible assumption) | (with_reducible exact Wb.Ext.refl _) | (with_reducible refine Wb.Ext.drew ?_) | (with_reducible refine Wb.Ext.drewN ?_ _) | (with_reducible refine Wb.Ext.alloc ?_ _) | (with_reducible refine Wb.Ext.trans ?_ (by assumption))))
  have hew2 : Wb.Ext w w2 := by (repeat' (first | (with_reducible assumption) | (with_reducible exact Wb.Ext.refl _) | (with_reducible refine Wb.Ext.drew ?_) | (with_reducible refine Wb.Ext.drewN ?_ _) | (with_reducible refine Wb.Ext.alloc ?_ _) | (with_reducible refine Wb.Ext.trans ?_ (by assumption))))
  clear hb1 hb2
  obtain ⟨k0, k1, k2⟩ := cal_box he2
  go_wp2_with fail
  go_loopw [5, 7] (fun ov dv wr => ∃ (d : Int) (l : List (Int × Int)) (u : Value), dv = .int .i64 d ∧ ov = u ∧ Wb.Stand c y d l ∧ wr.ownsRow w2.heap.size 26 2 u l.length (rowsOf spc l) ∧ Wb.Ext w2 wr) (fun _ dv _ => (hi1 - intOf dv).toNat)
  case atStart => exact ⟨_, [], _, rfl, rfl, Wb.stand_start HC.out y, World.ownsRow_nil _ _ _ _, by (repeat' (first | (with_reducible assumption) | (with_reducible exact Wb.Ext.refl _) | (with_reducible refine Wb.Ext.drew ?_) | (with_reducible refine Wb.Ext.drewN ?_ _) | (with_reducible refine Wb.Ext.alloc ?_ _) | (with_reducible refine Wb.Ext.trans ?_ (by assumption))))⟩
  case round =>
    obtain ⟨d, l, u, rfl, rfl, hst, hown, hext⟩ := hrel
    have HO := Lib.hid hown; clear hown
    have hlen := Wb.stand_len hst
    have hew : Wb.Ext w wr := by (repeat' (first | (with_reducible assumption) | (with_reducible exact Wb.Ext.refl _) | (with_reducible refine Wb.Ext.drew ?_) | (with_reducible refine Wb.Ext.drewN ?_ _) | (with_reducible refine Wb.Ext.alloc ?_ _) | (with_reducible refine Wb.Ext.trans ?_ (by assumption))))
    have q0 := hext.keep k0
    have q1 := hext.keep k1
    have q2 := hext.keep k2
    have hz1 := Wb.cell_size q0
    have hz2 := hext.size
    have hd0 := hst.1
    by_cases hlt : d < hi1
    · obtain ⟨yy, m, k, hd⟩ := Wb.date_ex (d := d) (by omega) (by omega)
      obtain rfl : yy = y := Wb.year_uniq hd.year.1 hd.year.2 hd0 (by rw [HHI.out]; exact hlt)
      have hsp := Wb.stand_step HC.out ⟨hy1, hy2⟩ hd hst
      rw [HHI.out] at hsp
      obtain ⟨⟨s1, s2⟩, hs⟩ : ∃ s, Wb.spanAt c d yy m = s := ⟨_, rfl⟩
      rw [hs] at hsp
      simp only at hsp
      have hds := hsp.1
      have HST := Lib.hid hsp.2
      have HD := Lib.hid hd
      have HS := Lib.hid hs
      clear hst hsp hd hs
      go_wp2_with fail
      refine (span_any c d yy m k HC.out HD.out (by omega) (by omega) _ (HW.out.ext (by (repeat' (first | (with_reducible assumption) | (with_reducible exact Wb.Ext.refl _) | (with_reducible refine Wb.Ext.drew ?_) | (with_reducible refine Wb.Ext.drewN ?_ _) | (with_reducible refine Wb.Ext.alloc ?_ _) | (with_reducible refine Wb.Ext.trans ?_ (by assumption)))))) (HP.out.ext (by (repeat' (first | (with_reducible assumption) | (with_reducible exact Wb.Ext.refl _) | (with_reducible refine Wb.Ext.drew ?_) | (with_reducible refine Wb.Ext.drewN ?_ _) | (with_reducible refine Wb.Ext.alloc ?_ _) | (with_reducible refine Wb.Ext.trans ?_ (by assumption))))))).mono ?_; rintro e w3 ⟨rfl, hb3⟩
      rw [HS.out]
      have he3 : Wb.Ext w2 w3 := by (repeat' (first | (with_reducible assumption) | (with_reducible exact Wb.Ext.refl _) | (with_reducible refine Wb.Ext.drew ?_) | (with_reducible refine Wb.Ext.drewN ?_ _) | (with_reducible refine Wb.Ext.alloc ?_ _) | (with_reducible refine Wb.Ext.trans ?_ (by assumption))))
      have hew3 : Wb.Ext w w3 := by (repeat' (first | (with_reducible assumption) | (with_reducible exact Wb.Ext.refl _) | (with_reducible refine Wb.Ext.drew ?_) | (with_reducible refine Wb.Ext.drewN ?_ _) | (with_reducible refine Wb.Ext.alloc ?_ _) | (with_reducible refine Wb.Ext.trans ?_ (by assumption))))
      have hz3 := hb3.size
      have HO3 := Lib.hid (Wb.row_ext HO.out hb3)
      have hb2z : w2.heap.size ≤ w3.heap.size := he3.size
      clear hb3 q0 q1 q2 hz2
      by_cases ha : -25567 ≤ s1 ∧ s2 ≤ 84006
      · have hwh : (decide (-25567 ≤ s1) && decide (s2 ≤ 84006)) = true := by simp; omega
        go_wp2_with fail
        refine (whole_any s1 s2 _).mono ?_; rintro e w4 ⟨rfl, hb4⟩
        rw [hwh]
        have g0 : w4.cell? ⟨w3.heap.size, 0, none⟩ = some (.int .i64 s1) := hb4.keep (by simp [go_sem])
        have g1 : w4.cell? ⟨w3.heap.size, 1, none⟩ = some (.int .i64 s2) := hb4.keep (by simp [go_sem])
        have he34 : Wb.Ext w3 w4 := by (repeat' (first | (with_reducible assumption) | (with_reducible exact Wb.Ext.refl _) | (with_reducible refine Wb.Ext.drew ?_) | (with_reducible refine Wb.Ext.drewN ?_ _) | (with_reducible refine Wb.Ext.alloc ?_ _) | (with_reducible refine Wb.Ext.trans ?_ (by assumption))))
        have he24 : Wb.Ext w2 w4 := by (repeat' (first | (with_reducible assumption) | (with_reducible exact Wb.Ext.refl _) | (with_reducible refine Wb.Ext.drew ?_) | (with_reducible refine Wb.Ext.drewN ?_ _) | (with_reducible refine Wb.Ext.alloc ?_ _) | (with_reducible refine Wb.Ext.trans ?_ (by assumption))))
        have hew4 : Wb.Ext w w4 := by (repeat' (first | (with_reducible assumption) | (with_reducible exact Wb.Ext.refl _) | (with_reducible refine Wb.Ext.drew ?_) | (with_reducible refine Wb.Ext.drewN ?_ _) | (with_reducible refine Wb.Ext.alloc ?_ _) | (with_reducible refine Wb.Ext.trans ?_ (by assumption))))
        have hz5 := Wb.cell_size g0
        have HO4 := Lib.hid (Wb.row_ext HO3.out he34)
        clear hb4 hwh
        by_cases hb : s2 ≤ hi1
        · obtain ⟨hi, hz0, hz1', hz2⟩ := HIN.out
          go_wp2_with (at_builtin; go_loud (refine Wb.wpList_append_row rfl (.tmp 28) (.tmp 30) 66 rfl w2.heap.size 26 i0 (.agg #[.int .i64 0, .int .i64 0]) 2 16 Tryd.underlying66 hi hz0 hz1' hz2 rfl (by decide) _ _ _ rfl (HO4.out.alloc _) (.slice (some ⟨w4.heap.size, 0, none⟩) 1 1) rfl 1 (spc (s1, s2)) ?c1 ?c2 ?c3 ?c4 ?c5 ?_))
          case c1 => exact src_lit _ _ rfl (spc (s1, s2)) _ _
          case c2 => intro u hu; simp [spc] at hu; rcases hu with rfl | rfl <;> rfl
          case c3 => unfold maxLen; omega
          case c4 => omega
          case c5 => have := he24.size; simp; omega
          intro u2 w5 hown2 hg2 hnil2
          clear hi hz0 hz1' hz2 hnil2
          have he25 : Wb.Ext w2 w5 := Wb.Ext.grown (by (repeat' (first | (with_reducible assumption) | (with_reducible exact Wb.Ext.refl _) | (with_reducible refine Wb.Ext.drew ?_) | (with_reducible refine Wb.Ext.drewN ?_ _) | (with_reducible refine Wb.Ext.alloc ?_ _) | (with_reducible refine Wb.Ext.trans ?_ (by assumption))))) hg2 (fun q hq => (HO4.out.lt q hq).1)
          have hne : ∀ q, u5.ownBlock = some q → q < w3.heap.size := fun q hq => (HO3.out.lt q hq).2
          have hc1 : w5.cell? ⟨w3.heap.size, 1, none⟩ = some (.int .i64 s2) := by
            rw [hg2.cell_far _ (by simp; omega) (by intro q; have := hne _ q.symm; simp at this)]
            exact ((Wb.Ext.refl w4).alloc _).keep g1
          have HO5 := Lib.hid (show w5.ownsRow w2.heap.size 26 2 u2 (l ++ [(s1, s2)]).length (rowsOf spc (l ++ [(s1, s2)])) by rw [rowsOf_app, rowsOf_one, List.length_append]; exact hown2)
          clear hown2 hg2 hne g0 g1
          have hz6 := Wb.cell_size hc1
          go_wp2
          go_roundw
          case rel => exact ⟨s2, l ++ [(s1, s2)], _, rfl, rfl, by have := HST.out; rwa [if_pos ⟨ha.1, ha.2, hb⟩] at this, HO5.out, he25⟩
          case measure => simp [intOf]; omega
        · have db : decide (s2 ≤ hi1) = false := by simpa using hb
          go_wp2
          go_roundw
          case rel => exact ⟨s2, l, _, rfl, rfl, by have := HST.out; rwa [if_neg (by omega), List.append_nil] at this, HO4.out, he24⟩
          case measure => simp [intOf]; omega
      · have hwh : (decide (-25567 ≤ s1) && decide (s2 ≤ 84006)) = false := by simp; omega
        go_wp2_with fail
        refine (whole_any s1 s2 _).mono ?_; rintro e w4 ⟨rfl, hb4⟩
        rw [hwh]
        have g1 : w4.cell? ⟨w3.heap.size, 1, none⟩ = some (.int .i64 s2) := hb4.keep (by simp [go_sem])
        have he34 : Wb.Ext w3 w4 := by (repeat' (first | (with_reducible assumption) | (with_reducible exact Wb.Ext.refl _) | (with_reducible refine Wb.Ext.drew ?_) | (with_reducible refine Wb.Ext.drewN ?_ _) | (with_reducible refine Wb.Ext.alloc ?_ _) | (with_reducible refine Wb.Ext.trans ?_ (by assumption))))
        have he24 : Wb.Ext w2 w4 := by (repeat' (first | (with_reducible assumption) | (with_reducible exact Wb.Ext.refl _) | (with_reducible refine Wb.Ext.drew ?_) | (with_reducible refine Wb.Ext.drewN ?_ _) | (with_reducible refine Wb.Ext.alloc ?_ _) | (with_reducible refine Wb.Ext.trans ?_ (by assumption))))
        have hz5 := Wb.cell_size g1
        have HO4 := Lib.hid (Wb.row_ext HO3.out he34)
        clear hb4 hwh
        go_wp2
        go_roundw
        case rel => exact ⟨s2, l, _, rfl, rfl, by have := HST.out; rwa [if_neg (by omega), List.append_nil] at this, HO4.out, he24⟩
        case measure => simp [intOf]; omega
    · have HE := Lib.hid (Wb.stand_end ⟨hy1, hy2⟩ hst (by rw [HHI.out]; omega))
      clear hst
      go_wp2
      go_ret
      exact ⟨_, rfl, by rw [← HE.out]; exact row_tbl spc_len (by omega) HO.out, by (repeat' (first | (with_reducible assumption) | (with_reducible exact Wb.Ext.refl _) | (with_reducible refine Wb.Ext.drew ?_) | (with_reducible refine Wb.Ext.drewN ?_ _) | (with_reducible refine Wb.Ext.alloc ?_ _) | (with_reducible refine Wb.Ext.trans ?_ (by assumption))))⟩

end Go.Proofs.YtalpdodajcdibaaDoor
