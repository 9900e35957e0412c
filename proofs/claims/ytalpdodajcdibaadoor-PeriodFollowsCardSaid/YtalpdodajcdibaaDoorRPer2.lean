/- The reference of chapter 6: spans. -/
import Derived.Test.YtalpdodajcdibaaDoorRPer1
namespace Go.Proofs.YtalpdodajcdibaaDoor
open Go.RowKit
set_option maxRecDepth 4000

theorem rem_aligned {x n : Int} (hn : 0 < n) : (x.tmod n + n) % n = x % n := by
  obtain ⟨h1, h2, _, _⟩ := tmod_floor (x := x) hn
  rcases Int.lt_or_le (x.tmod n) 0 with h | h
  · rw [h1 h, Int.emod_emod]
  · rw [h2 h]; simp
theorem aligned_len {n f lo : Int} : ∀ k : Nat, (Wb.aligned n f lo k).length ≤ k
  | 0 => by simp [Wb.aligned]
  | k + 1 => by rw [Wb.aligned, List.length_append]; have := aligned_len (n := n) (f := f) (lo := lo) k; split <;> simp <;> omega

set_option maxHeartbeats 2000000 in
theorem rspans_month (c : Wb.Cal) (y : Int) (hc : c.kind = 0) (hy1 : 1900 ≤ y) (hy2 : y ≤ 2199) (w : World) :
    Calls Tryd.prog 34 #[CalV c, .int .i64 y] w fun e w' => ∃ v, e = .returned v ∧ Spans w' v (Wb.spansOf c y) ∧ Wb.Ext w w' := by
  obtain ⟨i0, hi, hz0, hz1, hz2⟩ := info_parts infoSpan
  have HIN := Lib.hid (show Tryd.prog.info? 26 = some i0 ∧ i0.zero = some (.agg #[.int .i64 0, .int .i64 0]) ∧ i0.size = 2 ∧ i0.bytes = 16 from ⟨hi, hz0, hz1, hz2⟩)
  clear hi hz0 hz1 hz2
  have HM := Lib.hid (Wb.spans_month hc y)
  obtain ⟨kd, fd, lg⟩ := c
  simp only at hc
  subst hc
  have hlen : (Wb.spansOf ⟨0, fd, lg⟩ y).length = 12 := by simp [Wb.spansOf]
  obtain ⟨L, hL⟩ : ∃ L, Wb.spansOf ⟨0, fd, lg⟩ y = L := ⟨_, rfl⟩
  have HL := Lib.hid hL
  have HLEN := Lib.hid (show L.length = 12 by rw [← hL]; exact hlen)
  clear hL hlen
  go_enter Tryd.func34, Tryd.ntmps34
  go_wp2_with fail
  go_loopw [5, 6] (fun ov iv wr => ∃ (k : Nat) (u : Value), k ≤ 12 ∧ iv = .int .i64 ((k : Int) + 1) ∧ ov = u ∧ wr.ownsRow (w.heap.size + 1) 26 2 u k (rowsOf spc (L.take k)) ∧ Wb.Ext (w.alloc (.cells #[.int .i64 0, .int .i64 fd, .int .i64 lg] 35)) wr) (fun _ iv _ => (20 - intOf iv).toNat)
  case atStart => exact ⟨0, _, by omega, rfl, rfl, World.ownsRow_nil _ _ _ _, by (repeat' (first | (with_reducible assumption) | (with_reducible exact Wb.Ext.refl _) | (with_reducible refine Wb.Ext.drew ?_) | (with_reducible refine Wb.Ext.drewN ?_ _) | (with_reducible refine Wb.Ext.alloc ?_ _) | (with_reducible refine Wb.Ext.trans ?_ (by assumption))))⟩
  case round =>
    obtain ⟨k, u, hk, rfl, rfl, hown, hext⟩ := hrel
    have HO := Lib.hid hown; clear hown
    have hew : Wb.Ext w wr := by (repeat' (first | (with_reducible assumption) | (with_reducible exact Wb.Ext.refl _) | (with_reducible refine Wb.Ext.drew ?_) | (with_reducible refine Wb.Ext.drewN ?_ _) | (with_reducible refine Wb.Ext.alloc ?_ _) | (with_reducible refine Wb.Ext.trans ?_ (by assumption))))
    have hz := hext.size
    simp at hz
    by_cases hlt : k < 12
    · have HS := Lib.hid ((HM.out k _).2 ⟨hlt, rfl⟩)
      obtain ⟨b1, hb1⟩ : ∃ b, Wb.beg y ((k : Int) + 1) = b := ⟨_, rfl⟩
      obtain ⟨b2, hb2⟩ : ∃ b, Wb.beg y ((k : Int) + 1 + 1) = b := ⟨_, rfl⟩
      have HB1 := Lib.hid hb1
      have HB2 := Lib.hid hb2
      have HT := Lib.hid (take_snoc (l := L) (k := k) (x := (b1, b2)) (by rw [← HL.out, HS.out, ← hb1, ← hb2]; rw [show (k : Int) + 1 + 1 = (k : Int) + 2 by omega]))
      clear hb1 hb2
      go_wp2_with fail
      refine (rbegin_any y ((k : Int) + 1) hy1 (by omega) (by omega) (by omega) _).mono ?_; rintro e w2 ⟨rfl, he2⟩
      rw [HB1.out]
      go_wp2_with fail
      refine (rbegin_any y ((k : Int) + 1 + 1) hy1 (by omega) (by omega) (by omega) _).mono ?_; rintro e w3 ⟨rfl, he3⟩
      rw [HB2.out]
      have he13 : Wb.Ext wr w3 := he2.trans he3
      have he03 := hext.trans he13
      have HO3 := Lib.hid (Wb.row_ext HO.out he13)
      have hz3 := he13.size
      clear he2 he3 hext
      obtain ⟨hi, hz0, hz1', hz2⟩ := HIN.out
      go_wp2_with (at_builtin; go_loud (refine Wb.wpList_append_row rfl (.tmp 18) (.tmp 27) 66 rfl (w.heap.size + 1) 26 i0 (.agg #[.int .i64 0, .int .i64 0]) 2 16 Tryd.underlying66 hi hz0 hz1' hz2 rfl (by decide) _ _ _ rfl (HO3.out.alloc _) (.slice (some ⟨w3.heap.size, 0, none⟩) 1 1) rfl 1 (spc (b1, b2)) ?c1 ?c2 ?c3 ?c4 ?c5 ?_))
      case c1 => exact src_lit _ _ rfl (spc (b1, b2)) _ _
      case c2 => intro u hu; simp [spc] at hu; rcases hu with rfl | rfl <;> rfl
      case c3 => unfold maxLen; omega
      case c4 => omega
      case c5 => simp; omega
      intro u2 w5 hown2 hg2 hnil2
      clear hi hz0 hz1' hz2 hnil2
      have he25 := Wb.Ext.grown (he03.alloc _) hg2 (fun q hq => by have := (HO3.out.lt q hq).1; simp; omega)
      have HO5 := Lib.hid (show w5.ownsRow (w.heap.size + 1) 26 2 u2 (k + 1) (rowsOf spc (L.take (k + 1))) by rw [HT.out, rowsOf_app, rowsOf_one]; exact hown2)
      clear hown2 hg2
      go_wp2
      go_roundw
      case rel => exact ⟨k + 1, _, by omega, by go_num, rfl, HO5.out, he25⟩
      case measure => simp [intOf]; omega
    · have HE := Lib.hid (show rowsOf spc (L.take k) = rowsOf spc L ∧ k = L.length by have := HLEN.out; exact ⟨by rw [List.take_of_length_le (by omega)], by omega⟩)
      go_wp2
      go_ret
      exact ⟨_, rfl, by have := HO.out; rw [HE.out.1] at this; rw [HL.out]; exact row_tbl spc_len (by omega) this, by (repeat' (first | (with_reducible assumption) | (with_reducible exact Wb.Ext.refl _) | (with_reducible refine Wb.Ext.drew ?_) | (with_reducible refine Wb.Ext.drewN ?_ _) | (with_reducible refine Wb.Ext.alloc ?_ _) | (with_reducible refine Wb.Ext.trans ?_ (by assumption))))⟩

set_option maxHeartbeats 2000000 in
theorem rspans_weeks (c : Wb.Cal) (y : Int) (hc : c.kind = 1 ∨ c.kind = 2) (hf1 : -25567 ≤ c.first) (hf2 : c.first < 84006) (hy1 : 1900 ≤ y) (hy2 : y ≤ 2199) (w : World) :
    Calls Tryd.prog 34 #[CalV c, .int .i64 y] w fun e w' => ∃ v, e = .returned v ∧ Spans w' v (Wb.spansOf c y) ∧ Wb.Ext w w' := by
  obtain ⟨i0, hi, hz0, hz1, hz2⟩ := info_parts infoSpan
  have HIN := Lib.hid (show Tryd.prog.info? 26 = some i0 ∧ i0.zero = some (.agg #[.int .i64 0, .int .i64 0]) ∧ i0.size = 2 ∧ i0.bytes = 16 from ⟨hi, hz0, hz1, hz2⟩)
  clear hi hz0 hz1 hz2
  have hsp := Wb.spansOf.eq_1 c y
  rw [if_neg (by omega)] at hsp
  obtain ⟨kd, fd, lg⟩ := c
  simp only at hc hf1 hf2 hsp
  obtain ⟨n, hn⟩ : ∃ n, 14 * kd = n := ⟨_, rfl⟩
  have hn1 : 14 ≤ n := by omega
  have hn2 : n ≤ 28 := by omega
  have hyl := Wb.yl_eq y
  have hyl2 := Wb.yl_le y
  have hup := Wb.beg_mono (show y + 1 ≤ 2200 by omega)
  have hlow := Wb.beg_mono hy1
  rw [show Wb.beg 2200 1 = 84006 from rfl] at hup
  rw [show Wb.beg 1900 1 = -25567 from rfl] at hlow
  obtain ⟨b1, hb1⟩ : ∃ b, Wb.beg y 1 = b := ⟨_, rfl⟩
  obtain ⟨b2, hb2⟩ : ∃ b, Wb.beg (y + 1) 1 = b := ⟨_, rfl⟩
  have HB1 := Lib.hid hb1
  have HB2 := Lib.hid hb2
  obtain ⟨lo, hlo⟩ : ∃ lo, b1 - n + 1 = lo := ⟨_, rfl⟩
  obtain ⟨Y, hY⟩ : ∃ Y, Wb.yl y = Y := ⟨_, rfl⟩
  rw [hb1, hb2, hY] at hyl
  rw [hY] at hyl2
  rw [hb1] at hlow
  rw [hb2] at hup
  have HSP := Lib.hid (show Wb.spansOf ⟨kd, fd, lg⟩ y = (Wb.aligned n fd lo Y).map fun d => (d, d + n) by rw [hsp, hn, hb1, hlo, hY])
  have HLO := Lib.hid hlo
  have hk0 : (kd == 0) = false := by simp; omega
  have hb12 : b2 = b1 + Y := by omega
  have hb1l : b1 = lo + n - 1 := by omega
  clear hb1 hb2 hlo hY hsp hyl
  subst hb12
  subst hb1l
  go_enter Tryd.func34, Tryd.ntmps34
  go_wp2_with fail
  refine (rbegin_any y 1 hy1 (by omega) (by omega) (by omega) _).mono ?_; rintro e w1 ⟨rfl, he1⟩
  rw [HB1.out]
  have k0 : w1.cell? ⟨w.heap.size, 0, none⟩ = some (.int .i64 kd) := he1.keep (by simp [go_sem])
  have k1 : w1.cell? ⟨w.heap.size, 1, none⟩ = some (.int .i64 fd) := he1.keep (by simp [go_sem])
  have he01 : Wb.Ext w w1 := by (repeat' (first | (with_reducible assumption) | (with_reducible exact Wb.Ext.refl _) | (with_reducible refine Wb.Ext.drew ?_) | (with_reducible refine Wb.Ext.drewN ?_ _) | (with_reducible refine Wb.Ext.alloc ?_ _) | (with_reducible refine Wb.Ext.trans ?_ (by assumption))))
  clear he1
  go_wp2_with fail
  refine (rbegin_any (y + 1) 1 (by omega) (by omega) (by omega) (by omega) _).mono ?_; rintro e w2 ⟨rfl, he2⟩
  rw [HB2.out]
  have q0 := he2.keep k0
  have q1 := he2.keep k1
  have hew2 : Wb.Ext w w2 := by (repeat' (first | (with_reducible assumption) | (with_reducible exact Wb.Ext.refl _) | (with_reducible refine Wb.Ext.drew ?_) | (with_reducible refine Wb.Ext.drewN ?_ _) | (with_reducible refine Wb.Ext.alloc ?_ _) | (with_reducible refine Wb.Ext.trans ?_ (by assumption))))
  clear he2 k0 k1
  go_wp2_with fail
  go_loopw [5, 10] (fun ov dv wr => ∃ (k : Nat) (u : Value), k ≤ Y ∧ dv = .int .i64 (lo + k) ∧ ov = u ∧ wr.ownsRow w2.heap.size 26 2 u (Wb.aligned n fd lo k).length (rowsOf spc ((Wb.aligned n fd lo k).map fun d => (d, d + n))) ∧ Wb.Ext w2 wr) (fun _ dv _ => (lo + Y + 10 - intOf dv).toNat)
  case atStart => exact ⟨0, _, by omega, congrArg (Value.int .i64) (by omega), rfl, World.ownsRow_nil _ _ _ _, by (repeat' (first | (with_reducible assumption) | (with_reducible exact Wb.Ext.refl _) | (with_reducible refine Wb.Ext.drew ?_) | (with_reducible refine Wb.Ext.drewN ?_ _) | (with_reducible refine Wb.Ext.alloc ?_ _) | (with_reducible refine Wb.Ext.trans ?_ (by assumption))))⟩
  case round =>
    obtain ⟨k, u, hk, rfl, rfl, hown, hext⟩ := hrel
    have HO := Lib.hid hown; clear hown
    have hew : Wb.Ext w wr := by (repeat' (first | (with_reducible assumption) | (with_reducible exact Wb.Ext.refl _) | (with_reducible refine Wb.Ext.drew ?_) | (with_reducible refine Wb.Ext.drewN ?_ _) | (with_reducible refine Wb.Ext.alloc ?_ _) | (with_reducible refine Wb.Ext.trans ?_ (by assumption))))
    have r0 := hext.keep q0
    have r1 := hext.keep q1
    have hz := Wb.cell_size r0
    have hz2 := hext.size
    have hal := aligned_len (n := n) (f := fd) (lo := lo) k
    obtain ⟨A, hA⟩ : ∃ A, Wb.aligned n fd lo k = A := ⟨_, rfl⟩
    have HA := Lib.hid hA
    rw [hA] at HO hal
    clear hA
    by_cases hlt : k < Y
    · by_cases h0 : -25567 ≤ lo + k
      · obtain ⟨t1, t2, t3, t4⟩ := tmod_floor (x := lo + k - fd) (n := n) (by omega)
        have hrem := rem_aligned (x := lo + k - fd) (n := n) (by omega)
        rw [Int.add_emod_right] at hrem
        obtain ⟨r, hr⟩ : ∃ r, (lo + (k : Int) - fd).tmod n = r := ⟨_, rfl⟩
        rw [hr] at t1 t2 t3 t4 hrem
        have HREM := Lib.hid hrem
        clear t1 t2 hrem
        cases hq : (r % n == 0)
        · have HAL := Lib.hid (show Wb.aligned n fd lo (k + 1) = A by
            rw [← HA.out]; refine Wb.aligned_none ?_; rw [← HREM.out]; simp at hq; exact fun e => hq e.2)
          go_wp2
          go_roundw
          case rel => exact ⟨k + 1, _, by omega, congrArg (Value.int .i64) (by omega), rfl, by rw [HAL.out]; exact HO.out, hext⟩
          case measure => simp [intOf]; omega
        · have HAL := Lib.hid (show Wb.aligned n fd lo (k + 1) = A ++ [lo + k] by
            rw [← HA.out]; exact Wb.aligned_one h0 (by rw [← HREM.out]; simpa using hq))
          obtain ⟨hi, hz0, hz1', hz2'⟩ := HIN.out
          go_wp2_with (at_builtin; go_loud (refine Wb.wpList_append_row rfl (.tmp 64) (.tmp 70) 66 rfl w2.heap.size 26 i0 (.agg #[.int .i64 0, .int .i64 0]) 2 16 Tryd.underlying66 hi hz0 hz1' hz2' rfl (by decide) _ _ _ rfl (HO.out.alloc _) (.slice (some ⟨wr.heap.size, 0, none⟩) 1 1) rfl 1 (spc (lo + k, lo + k + n)) ?c1 ?c2 ?c3 ?c4 ?c5 ?_))
          case c1 => exact src_lit _ _ rfl (spc (lo + k, lo + k + n)) _ _
          case c2 => intro u hu; simp [spc] at hu; rcases hu with rfl | rfl <;> rfl
          case c3 => unfold maxLen; omega
          case c4 => omega
          case c5 => simp; omega
          intro u2 w5 hown2 hg2 hnil2
          clear hi hz0 hz1' hz2' hnil2
          have he25 := Wb.Ext.grown (hext.alloc _) hg2 (fun q hq => (HO.out.lt q hq).1)
          have HO5 := Lib.hid (show w5.ownsRow w2.heap.size 26 2 u2 (Wb.aligned n fd lo (k + 1)).length (rowsOf spc ((Wb.aligned n fd lo (k + 1)).map fun d => (d, d + n))) by rw [HAL.out, List.map_append, rowsOf_app, List.length_append]; exact hown2)
          clear hown2 hg2
          go_wp2
          go_roundw
          case rel => exact ⟨k + 1, _, by omega, congrArg (Value.int .i64) (by omega), rfl, HO5.out, he25⟩
          case measure => simp [intOf]; omega
      · have d0 : decide (-25567 ≤ lo + (k : Int)) = false := by simpa using h0
        have HAL := Lib.hid (show Wb.aligned n fd lo (k + 1) = A by rw [← HA.out]; exact Wb.aligned_none (fun e => h0 e.1))
        go_wp2
        go_roundw
        case rel => exact ⟨k + 1, _, by omega, congrArg (Value.int .i64) (by omega), rfl, by rw [HAL.out]; exact HO.out, hext⟩
        case measure => simp [intOf]; omega
    · have HE := Lib.hid (show k = Y by omega)
      go_wp2
      go_ret
      exact ⟨_, rfl, by rw [HSP.out, ← HE.out, HA.out]; exact row_tbl spc_len (by omega) (by have := HO.out; rwa [← List.length_map (f := fun d => (d, d + n))] at this), by (repeat' (first | (with_reducible assumption) | (with_reducible exact Wb.Ext.refl _) | (with_reducible refine Wb.Ext.drew ?_) | (with_reducible refine Wb.Ext.drewN ?_ _) | (with_reducible refine Wb.Ext.alloc ?_ _) | (with_reducible refine Wb.Ext.trans ?_ (by assumption))))⟩

theorem rspans_any (c : Wb.Cal) (y : Int) (hc : Wb.calErr c = 0) (hy1 : 1900 ≤ y) (hy2 : y ≤ 2199) (w : World) :
    Calls Tryd.prog 34 #[CalV c, .int .i64 y] w fun e w' => ∃ v, e = .returned v ∧ Spans w' v (Wb.spansOf c y) ∧ Wb.Ext w w' := by
  obtain ⟨h1, h2, h3, h4, h5, h6⟩ := Wb.calErr_ok hc
  by_cases hk : c.kind = 0
  · exact rspans_month c y hk hy1 hy2 w
  · exact rspans_weeks c y (by omega) h3 h4 hy1 hy2 w

end Go.Proofs.YtalpdodajcdibaaDoor
