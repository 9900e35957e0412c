/- The reference of chapter 6: Year, Find. -/
import Derived.Test.YtalpdodajcdibaaDoorRPer2
namespace Go.Proofs.YtalpdodajcdibaaDoor
open Go.RowKit
set_option maxRecDepth 4000

theorem infoRPer : (Tryd.prog.info? 32).map (fun i => (i.zero, i.size, i.bytes)) = some (some (.agg #[.int .i64 0, .int .i64 0, .int .i64 0, .int .i64 0, .int .i64 0, .int .i64 0]), 6, 48) := by kernel_rfl

set_option maxHeartbeats 2000000 in
theorem ryear_any (c : Wb.Cal) (y : Int) (hc : Wb.calErr c = 0) (hy1 : 1900 ≤ y) (hy2 : y ≤ 2199) (w : World) :
    Calls Tryd.prog 20 #[CalV c, .int .i64 y] w fun e w' => ∃ v, e = .returned v ∧ Pers w' v (Wb.yearPers c y) ∧ Wb.Ext w w' := by
  obtain ⟨i0, hi, hz0, hz1, hz2⟩ := info_parts infoRPer
  have HIN := Lib.hid (show Tryd.prog.info? 32 = some i0 ∧ i0.zero = some (.agg #[.int .i64 0, .int .i64 0, .int .i64 0, .int .i64 0, .int .i64 0, .int .i64 0]) ∧ i0.size = 6 ∧ i0.bytes = 48 from ⟨hi, hz0, hz1, hz2⟩)
  clear hi hz0 hz1 hz2
  obtain ⟨_, _, _, _, lg1, lg2⟩ := Wb.calErr_ok hc
  have HC := Lib.hid hc
  clear hc
  have hlen := Wb.spans_len c y
  obtain ⟨L, hL⟩ : ∃ L, Wb.spansOf c y = L := ⟨_, rfl⟩
  have HL := Lib.hid hL
  have HYP := Lib.hid (show Wb.yearPers c y = Wb.persFrom c y L.length 0 L by rw [Wb.yearPers, hL])
  rw [hL] at hlen
  clear hL
  go_enter Tryd.func20, Tryd.ntmps20
  go_wp2_with fail
  refine (rspans_any c y HC.out hy1 hy2 _).mono ?_; rintro e w2 ⟨v, rfl, hv, hb2⟩
  rw [HL.out] at hv
  have HCB := Lib.hid (CalB.new (c := c) (T := 35) (w1 := w2) (W := w) hb2 rfl)
  obtain ⟨va, vc, rfl⟩ := hv.shape
  have HV := Lib.hid hv
  have he2 : Wb.Ext w w2 := by (repeat' (first | (with_reducible assumption) | (with_reducible exact Wb.Ext.refl _) | (with_reducible refine Wb.Ext.drew ?_) | (with_reducible refine Wb.Ext.drewN ?_ _) | (with_reducible refine Wb.Ext.alloc ?_ _) | (with_reducible refine Wb.Ext.trans ?_ (by assumption))))
  clear hv hb2
  go_wp2_with fail
  go_loopw [6, 7] (fun ov iv wr => ∃ (k : Nat) (u : Value), k ≤ L.length ∧ iv = .int .i64 k ∧ ov = u ∧ wr.ownsRow w2.heap.size 32 6 u k (rowsOf perc (Wb.persFrom c y L.length 0 (L.take k))) ∧ Wb.Ext w2 wr) (fun _ iv _ => L.length - (intOf iv).toNat)
  case atStart => exact ⟨0, _, by omega, rfl, rfl, World.ownsRow_nil _ _ _ _, by (repeat' (first | (with_reducible assumption) | (with_reducible exact Wb.Ext.refl _) | (with_reducible refine Wb.Ext.drew ?_) | (with_reducible refine Wb.Ext.drewN ?_ _) | (with_reducible refine Wb.Ext.alloc ?_ _) | (with_reducible refine Wb.Ext.trans ?_ (by assumption))))⟩
  case round =>
    obtain ⟨k, u, hk, rfl, rfl, hown, hext⟩ := hrel
    have HO := Lib.hid hown; clear hown
    obtain ⟨r0, r1, r2⟩ := HCB.out.ext hext
    have hz1 := Wb.cell_size r0
    have hz2 := hext.size
    by_cases hlt : k < L.length
    · obtain ⟨s, hs⟩ := Wb.get_ex hlt
      obtain ⟨b, off, rfl, hcells⟩ := (HV.out.ext hext).opened (tne hlt)
      have hc0 := hcells k s hs 0 _ rfl
      have hc1 := hcells k s hs 1 _ rfl
      simp only [Nat.add_zero] at hc0
      have hbs := Wb.cell_size hc0
      have hki : (k : Int) < L.length := by omega
      obtain ⟨b1, b2, b3⟩ := span_bounds HC.out hy1 hy2 (show (Wb.spansOf c y)[k]? = some s by rw [HL.out]; exact hs)
      have HT := Lib.hid (take_snoc hs)
      have HTK := Lib.hid (show (L.take k).length = k by rw [List.length_take]; omega)
      clear hcells hs
      obtain ⟨s1, s2⟩ := s
      simp only at b1 b2 b3 hc0 hc1
      have e1 : IntKind.i64.wrap (s2 - 1) = s2 - 1 := IntWalk.i64_in _ (by omega)
      have e2 : IntKind.i64.wrap (s2 - 1 + c.lag) = s2 - 1 + c.lag := IntWalk.i64_in _ (by omega)
      obtain ⟨p, hp⟩ : ∃ p, Wb.perOf c y L.length k (s1, s2) = p := ⟨_, rfl⟩
      have HP4 := Lib.hid hp
      by_cases hmx : 84006 ≤ s2 - 1 + c.lag
      · have hpv : p = ⟨y, (k : Int) + 1, L.length, s1, s2, 84005⟩ := by rw [← hp]; simp only [Wb.perOf]; congr 1; omega
        clear hp
        subst hpv
        go_wp2_with fail
        go_quiet (fail)
        clear e1 e2
        obtain ⟨hi, hz0, hz1', hz2'⟩ := HIN.out
        go_wp2_with (at_builtin; go_loud (refine Wb.wpList_append_row rfl (.tmp 29) (.tmp 41) 49 rfl w2.heap.size 32 i0 (.agg #[.int .i64 0, .int .i64 0, .int .i64 0, .int .i64 0, .int .i64 0, .int .i64 0]) 6 48 Tryd.underlying49 hi hz0 hz1' hz2' rfl (by decide) _ _ _ rfl (Wb.row_ext HO.out (by (repeat' (first | (with_reducible assumption) | (with_reducible exact Wb.Ext.refl _) | (with_reducible refine Wb.Ext.drew ?_) | (with_reducible refine Wb.Ext.drewN ?_ _) | (with_reducible refine Wb.Ext.alloc ?_ _) | (with_reducible refine Wb.Ext.trans ?_ (by assumption)))))) _ rfl 1 (perc ⟨y, (k : Int) + 1, L.length, s1, s2, 84005⟩) ?c1 ?c2 ?c3 ?c4 ?c5 ?_))
        case c1 => exact src_lit _ _ (by simp) (perc ⟨y, (k : Int) + 1, L.length, s1, s2, 84005⟩) _ _
        case c2 => intro u hu; simp [perc] at hu; rcases hu with rfl | rfl | rfl | rfl | rfl | rfl <;> rfl
        case c3 => unfold maxLen; omega
        case c4 => omega
        case c5 => simp; omega
        intro u2 w5 hown2 hg2 hnil2
        clear hi hz0 hz1' hz2' hnil2
        have he25 : Wb.Ext w2 w5 := Wb.Ext.grown (by (repeat' (first | (with_reducible assumption) | (with_reducible exact Wb.Ext.refl _) | (with_reducible refine Wb.Ext.drew ?_) | (with_reducible refine Wb.Ext.drewN ?_ _) | (with_reducible refine Wb.Ext.alloc ?_ _) | (with_reducible refine Wb.Ext.trans ?_ (by assumption))))) hg2 (fun q hq => (HO.out.lt q hq).1)
        have HO5 := Lib.hid (show w5.ownsRow w2.heap.size 32 6 u2 (k + 1) (rowsOf perc (Wb.persFrom c y L.length 0 (L.take (k + 1)))) by
          rw [HT.out, Wb.persFrom_snoc, HTK.out, Nat.zero_add, HP4.out, rowsOf_app, rowsOf_one]; exact hown2)
        clear hown2 hg2
        go_wp2
        go_roundw
        case rel => exact ⟨k + 1, _, by omega, by go_num, rfl, HO5.out, he25⟩
        case measure => simp [intOf]; omega
      · have d1 : decide (84006 ≤ s2 - 1 + c.lag) = false := by simpa using hmx
        have hpv : p = ⟨y, (k : Int) + 1, L.length, s1, s2, s2 - 1 + c.lag⟩ := by rw [← hp]; simp only [Wb.perOf]; congr 1; omega
        clear hp
        subst hpv
        go_wp2_with fail
        go_quiet (fail)
        clear e1 e2
        obtain ⟨hi, hz0, hz1', hz2'⟩ := HIN.out
        go_wp2_with (at_builtin; go_loud (refine Wb.wpList_append_row rfl (.tmp 29) (.tmp 41) 49 rfl w2.heap.size 32 i0 (.agg #[.int .i64 0, .int .i64 0, .int .i64 0, .int .i64 0, .int .i64 0, .int .i64 0]) 6 48 Tryd.underlying49 hi hz0 hz1' hz2' rfl (by decide) _ _ _ rfl (Wb.row_ext HO.out (by (repeat' (first | (with_reducible assumption) | (with_reducible exact Wb.Ext.refl _) | (with_reducible refine Wb.Ext.drew ?_) | (with_reducible refine Wb.Ext.drewN ?_ _) | (with_reducible refine Wb.Ext.alloc ?_ _) | (with_reducible refine Wb.Ext.trans ?_ (by assumption)))))) _ rfl 1 (perc ⟨y, (k : Int) + 1, L.length, s1, s2, s2 - 1 + c.lag⟩) ?c1 ?c2 ?c3 ?c4 ?c5 ?_))
        case c1 => exact src_lit _ _ (by simp) (perc ⟨y, (k : Int) + 1, L.length, s1, s2, s2 - 1 + c.lag⟩) _ _
        case c2 => intro u hu; simp [perc] at hu; rcases hu with rfl | rfl | rfl | rfl | rfl | rfl <;> rfl
        case c3 => unfold maxLen; omega
        case c4 => omega
        case c5 => simp; omega
        intro u2 w5 hown2 hg2 hnil2
        clear hi hz0 hz1' hz2' hnil2
        have he25 : Wb.Ext w2 w5 := Wb.Ext.grown (by (repeat' (first | (with_reducible assumption) | (with_reducible exact Wb.Ext.refl _) | (with_reducible refine Wb.Ext.drew ?_) | (with_reducible refine Wb.Ext.drewN ?_ _) | (with_reducible refine Wb.Ext.alloc ?_ _) | (with_reducible refine Wb.Ext.trans ?_ (by assumption))))) hg2 (fun q hq => (HO.out.lt q hq).1)
        have HO5 := Lib.hid (show w5.ownsRow w2.heap.size 32 6 u2 (k + 1) (rowsOf perc (Wb.persFrom c y L.length 0 (L.take (k + 1)))) by
          rw [HT.out, Wb.persFrom_snoc, HTK.out, Nat.zero_add, HP4.out, rowsOf_app, rowsOf_one]; exact hown2)
        clear hown2 hg2
        go_wp2
        go_roundw
        case rel => exact ⟨k + 1, _, by omega, by go_num, rfl, HO5.out, he25⟩
        case measure => simp [intOf]; omega
    · have HE := Lib.hid (show L.take k = L from List.take_of_length_le (by omega))
      go_wp2
      go_ret
      exact ⟨_, rfl, by rw [HYP.out]; have := row_tbl perc_len (by omega) HO.out; rwa [HE.out] at this, by (repeat' (first | (with_reducible assumption) | (with_reducible exact Wb.Ext.refl _) | (with_reducible refine Wb.Ext.drew ?_) | (with_reducible refine Wb.Ext.drewN ?_ _) | (with_reducible refine Wb.Ext.alloc ?_ _) | (with_reducible refine Wb.Ext.trans ?_ (by assumption))))⟩

end Go.Proofs.YtalpdodajcdibaaDoor
