/- The walks of package period: Year. -/
import Derived.Test.YtalpdodajcdibaaDoorPer3
namespace Go.Proofs.YtalpdodajcdibaaDoor
open Go.RowKit
set_option maxRecDepth 4000

def perc (p : Wb.Per) : List Value := [.int .i64 p.year, .int .i64 p.index, .int .i64 p.of, .int .i64 p.from_, .int .i64 p.to_, .int .i64 p.pay]
theorem perc_len (p : Wb.Per) : (perc p).length = 6 := rfl
theorem infoPer : (Tryd.prog.info? 28).map (fun i => (i.zero, i.size, i.bytes)) = some (some (.agg #[.int .i64 0, .int .i64 0, .int .i64 0, .int .i64 0, .int .i64 0, .int .i64 0]), 6, 48) := by kernel_rfl
abbrev Pers (w : World) (v : Value) (l : List Wb.Per) : Prop := Tbl 6 perc w v l

theorem span_bounds {c : Wb.Cal} {y : Int} (hc : Wb.calErr c = 0) (h1 : 1900 ≤ y) (h2 : y ≤ 2199) {i : Nat} {s : Int × Int} (h : (Wb.spansOf c y)[i]? = some s) : -25567 ≤ s.1 ∧ s.1 < s.2 ∧ s.2 ≤ 84006 := by
  obtain ⟨a1, a2, a3, a4, a5⟩ := Wb.OneOf.last hc (y := y) ⟨h1, h2, h⟩
  omega
theorem take_snoc {α : Type} {l : List α} {k : Nat} {x : α} (h : l[k]? = some x) : l.take (k + 1) = l.take k ++ [x] := by
  obtain ⟨h1, h2⟩ := List.getElem?_eq_some_iff.1 h
  rw [List.take_succ_eq_append_getElem h1, h2]

theorem year_no (c : Wb.Cal) (y : Int) (hc : Wb.calErr c ≠ 0) (w : World) :
    Calls Tryd.prog 17 #[CalV c, .int .i64 y] w fun e w' => e = .returned (.tuple #[.slice none 0 0, .int .i64 (Wb.calErr c)]) ∧ Wb.Ext w w' := by
  obtain ⟨q, hq⟩ : ∃ q, Wb.calErr c = q := ⟨_, rfl⟩
  have HQ := Lib.hid hq
  rw [hq] at hc ⊢
  have hc' : (q != 0) = true := by simpa using hc
  clear hq hc
  go_enter Tryd.func17, Tryd.ntmps17
  go_wp2_with fail
  refine (pcheck_any c _).mono ?_; rintro e w1 ⟨rfl, hb1⟩
  rw [HQ.out]
  go_wp2
  go_ret2
  exact ⟨rfl, by (repeat' (first | (with_reducible assumption) | (with_reducible exact Wb.Ext.refl _) | (with_reducible refine Wb.Ext.drew ?_) | (with_reducible refine Wb.Ext.drewN ?_ _) | (with_reducible refine Wb.Ext.alloc ?_ _) | (with_reducible refine Wb.Ext.trans ?_ (by assumption))))⟩
theorem year_range (c : Wb.Cal) (y : Int) (hc : Wb.calErr c = 0) (hy : y < 1900 ∨ 2199 < y) (w : World) :
    Calls Tryd.prog 17 #[CalV c, .int .i64 y] w fun e w' => e = .returned (.tuple #[.slice none 0 0, .int .i64 2]) ∧ Wb.Ext w w' := by
  have HQ := Lib.hid hc
  clear hc
  by_cases h : y < 1900
  · go_enter Tryd.func17, Tryd.ntmps17
    go_wp2_with fail
    refine (pcheck_any c _).mono ?_; rintro e w1 ⟨rfl, hb1⟩
    rw [HQ.out]
    go_wp2
    go_ret2
    exact ⟨rfl, by (repeat' (first | (with_reducible assumption) | (with_reducible exact Wb.Ext.refl _) | (with_reducible refine Wb.Ext.drew ?_) | (with_reducible refine Wb.Ext.drewN ?_ _) | (with_reducible refine Wb.Ext.alloc ?_ _) | (with_reducible refine Wb.Ext.trans ?_ (by assumption))))⟩
  · have d1 : decide (y < 1900) = false := by simpa using h
    have h2 : 2199 < y := by omega
    clear hy
    go_enter Tryd.func17, Tryd.ntmps17
    go_wp2_with fail
    refine (pcheck_any c _).mono ?_; rintro e w1 ⟨rfl, hb1⟩
    rw [HQ.out]
    go_wp2
    go_ret2
    exact ⟨rfl, by (repeat' (first | (with_reducible assumption) | (with_reducible exact Wb.Ext.refl _) | (with_reducible refine Wb.Ext.drew ?_) | (with_reducible refine Wb.Ext.drewN ?_ _) | (with_reducible refine Wb.Ext.alloc ?_ _) | (with_reducible refine Wb.Ext.trans ?_ (by assumption))))⟩

set_option maxHeartbeats 2000000 in
theorem year_ok (c : Wb.Cal) (y : Int) (hc : Wb.calErr c = 0) (hy1 : 1900 ≤ y) (hy2 : y ≤ 2199) (w : World) (hw : LenC w) (hp : LenP w) :
    Calls Tryd.prog 17 #[CalV c, .int .i64 y] w fun e w' => ∃ v, e = .returned (.tuple #[v, .int .i64 0]) ∧ Pers w' v (Wb.yearPers c y) ∧ Wb.Ext w w' := by
  obtain ⟨i0, hi, hz0, hz1, hz2⟩ := info_parts infoPer
  have HIN := Lib.hid (show Tryd.prog.info? 28 = some i0 ∧ i0.zero = some (.agg #[.int .i64 0, .int .i64 0, .int .i64 0, .int .i64 0, .int .i64 0, .int .i64 0]) ∧ i0.size = 6 ∧ i0.bytes = 48 from ⟨hi, hz0, hz1, hz2⟩)
  clear hi hz0 hz1 hz2
  obtain ⟨_, _, _, _, lg1, lg2⟩ := Wb.calErr_ok hc
  have HC := Lib.hid hc
  have HW := Lib.hid hw
  have HP := Lib.hid hp
  clear hc hw hp
  have hlen := Wb.spans_len c y
  obtain ⟨L, hL⟩ : ∃ L, Wb.spansOf c y = L := ⟨_, rfl⟩
  have HL := Lib.hid hL
  have HYP := Lib.hid (show Wb.yearPers c y = Wb.persFrom c y L.length 0 L by rw [Wb.yearPers, hL])
  rw [hL] at hlen
  clear hL
  go_enter Tryd.func17, Tryd.ntmps17
  go_wp2_with fail
  refine (pcheck_any c _).mono ?_; rintro e w1 ⟨rfl, hb1⟩
  rw [HC.out]
  obtain ⟨k0, k1, k2⟩ := cal_box hb1
  have he1 : Wb.Ext w w1 := by (repeat' (first | (with_reducible assumption) | (with_reducible exact Wb.Ext.refl _) | (with_reducible refine Wb.Ext.drew ?_) | (with_reducible refine Wb.Ext.drewN ?_ _) | (with_reducible refine Wb.Ext.alloc ?_ _) | (with_reducible refine Wb.Ext.trans ?_ (by assumption))))
  clear hb1
  go_wp2_with fail
  refine (spans_any c y HC.out hy1 hy2 _ (HW.out.ext (by (repeat' (first | (with_reducible assumption) | (with_reducible exact Wb.Ext.refl _) | (with_reducible refine Wb.Ext.drew ?_) | (with_reducible refine Wb.Ext.drewN ?_ _) | (with_reducible refine Wb.Ext.alloc ?_ _) | (with_reducible refine Wb.Ext.trans ?_ (by assumption)))))) (HP.out.ext (by (repeat' (first | (with_reducible assumption) | (with_reducible exact Wb.Ext.refl _) | (with_reducible refine Wb.Ext.drew ?_) | (with_reducible refine Wb.Ext.drewN ?_ _) | (with_reducible refine Wb.Ext.alloc ?_ _) | (with_reducible refine Wb.Ext.trans ?_ (by assumption))))))).mono ?_; rintro e w2 ⟨v, rfl, hv, hb2⟩
  rw [HL.out] at hv
  have q0 := hb2.keep k0
  have q1 := hb2.keep k1
  have q2 := hb2.keep k2
  have he2 : Wb.Ext w w2 := by (repeat' (first | (with_reducible assumption) | (with_reducible exact Wb.Ext.refl _) | (with_reducible refine Wb.Ext.drew ?_) | (with_reducible refine Wb.Ext.drewN ?_ _) | (with_reducible refine Wb.Ext.alloc ?_ _) | (with_reducible refine Wb.Ext.trans ?_ (by assumption))))
  obtain ⟨va, vc, rfl⟩ := hv.shape
  have HV := Lib.hid hv
  clear hv hb2 k0 k1 k2
  go_wp2_with fail
  go_loopw [7, 27] (fun ov iv wr => ∃ (k : Nat) (u : Value), k ≤ L.length ∧ iv = .int .i64 k ∧ ov = u ∧ wr.ownsRow w2.heap.size 28 6 u k (rowsOf perc (Wb.persFrom c y L.length 0 (L.take k))) ∧ Wb.Ext w2 wr) (fun _ iv _ => L.length - (intOf iv).toNat)
  case atStart => exact ⟨0, _, by omega, rfl, rfl, World.ownsRow_nil _ _ _ _, by (repeat' (first | (with_reducible assumption) | (with_reducible exact Wb.Ext.refl _) | (with_reducible refine Wb.Ext.drew ?_) | (with_reducible refine Wb.Ext.drewN ?_ _) | (with_reducible refine Wb.Ext.alloc ?_ _) | (with_reducible refine Wb.Ext.trans ?_ (by assumption))))⟩
  case round =>
    obtain ⟨k, u, hk, rfl, rfl, hown, hext⟩ := hrel
    have HO := Lib.hid hown; clear hown
    have r0 := hext.keep q0
    have r1 := hext.keep q1
    have r2 := hext.keep q2
    have hz1 := Wb.cell_size r0
    have hz2 := hext.size
    by_cases hlt : k < L.length
    · obtain ⟨s, hs⟩ := Wb.get_ex hlt
      obtain ⟨b, off, rfl, hcells⟩ := (HV.out.ext hext).opened (tne hlt)
      have hc0 := hcells k s hs 0 _ rfl
      have hc1 := hcells k s hs 1 _ rfl
      simp only [Nat.add_zero] at hc0
      have hbs := Wb.cell_size hc0
      obtain ⟨b1, b2, b3⟩ := span_bounds HC.out hy1 hy2 (show (Wb.spansOf c y)[k]? = some s by rw [HL.out]; exact hs)
      have HT := Lib.hid (take_snoc hs)
      have HTK := Lib.hid (show (L.take k).length = k by rw [List.length_take]; omega)
      clear hcells hs
      obtain ⟨s1, s2⟩ := s
      simp only at b1 b2 b3
      go_wp2_with fail
      refine (period_any c y k L.length (s1, s2) (by omega) (by simp only; omega) ⟨lg1, lg2⟩ _).mono ?_; rintro e w4 ⟨rfl, hb4⟩
      have he34 : Wb.Ext wr w4 := by (repeat' (first | (with_reducible assumption) | (with_reducible exact Wb.Ext.refl _) | (with_reducible refine Wb.Ext.drew ?_) | (with_reducible refine Wb.Ext.drewN ?_ _) | (with_reducible refine Wb.Ext.alloc ?_ _) | (with_reducible refine Wb.Ext.trans ?_ (by assumption))))
      have he24 : Wb.Ext w2 w4 := by (repeat' (first | (with_reducible assumption) | (with_reducible exact Wb.Ext.refl _) | (with_reducible refine Wb.Ext.drew ?_) | (with_reducible refine Wb.Ext.drewN ?_ _) | (with_reducible refine Wb.Ext.alloc ?_ _) | (with_reducible refine Wb.Ext.trans ?_ (by assumption))))
      have HO4 := Lib.hid (Wb.row_ext HO.out he34)
      clear hb4
      obtain ⟨p, hp⟩ : ∃ p, Wb.perOf c y L.length k (s1, s2) = p := ⟨_, rfl⟩
      rw [hp]
      have HP4 := Lib.hid hp
      clear hp
      obtain ⟨hi, hz0, hz1', hz2'⟩ := HIN.out
      go_wp2_with (at_builtin; go_loud (refine Wb.wpList_append_row rfl (.tmp 32) (.tmp 40) 44 rfl w2.heap.size 28 i0 (.agg #[.int .i64 0, .int .i64 0, .int .i64 0, .int .i64 0, .int .i64 0, .int .i64 0]) 6 48 Tryd.underlying44 hi hz0 hz1' hz2' rfl (by decide) _ _ _ rfl (HO4.out.alloc _) (.slice (some ⟨w4.heap.size, 0, none⟩) 1 1) rfl 1 (perc p) ?c1 ?c2 ?c3 ?c4 ?c5 ?_))
      case c1 => exact src_lit _ _ rfl (perc p) _ _
      case c2 => intro u hu; simp [perc] at hu; rcases hu with rfl | rfl | rfl | rfl | rfl | rfl <;> rfl
      case c3 => unfold maxLen; omega
      case c4 => omega
      case c5 => have := he24.size; simp; omega
      intro u2 w5 hown2 hg2 hnil2
      clear hi hz0 hz1' hz2' hnil2
      have he25 : Wb.Ext w2 w5 := Wb.Ext.grown (by (repeat' (first | (with_reducible assumption) | (with_reducible exact Wb.Ext.refl _) | (with_reducible refine Wb.Ext.drew ?_) | (with_reducible refine Wb.Ext.drewN ?_ _) | (with_reducible refine Wb.Ext.alloc ?_ _) | (with_reducible refine Wb.Ext.trans ?_ (by assumption))))) hg2 (fun q hq => (HO4.out.lt q hq).1)
      have HO5 := Lib.hid (show w5.ownsRow w2.heap.size 28 6 u2 (k + 1) (rowsOf perc (Wb.persFrom c y L.length 0 (L.take (k + 1)))) by
        rw [HT.out, Wb.persFrom_snoc, HTK.out, Nat.zero_add, HP4.out, rowsOf_app, rowsOf_one]; exact hown2)
      clear hown2 hg2
      go_wp2
      go_roundw
      case rel => exact ⟨k + 1, _, by omega, by go_num, rfl, HO5.out, he25⟩
      case measure => simp [intOf]; omega
    · have HE := Lib.hid (show L.take k = L from List.take_of_length_le (by omega))
      go_wp2
      go_ret2
      exact ⟨_, rfl, by rw [HYP.out, ← HE.out]; rw [HE.out]; have := row_tbl perc_len (by omega) HO.out; rwa [HE.out] at this, by (repeat' (first | (with_reducible assumption) | (with_reducible exact Wb.Ext.refl _) | (with_reducible refine Wb.Ext.drew ?_) | (with_reducible refine Wb.Ext.drewN ?_ _) | (with_reducible refine Wb.Ext.alloc ?_ _) | (with_reducible refine Wb.Ext.trans ?_ (by assumption))))⟩

end Go.Proofs.YtalpdodajcdibaaDoor
