/- The reference of package span: Pieces. -/
import Derived.Test.YtdckghdmopafpaaRSpn6
namespace Go.Proofs.Ytdckghdmopafpaa
open Go.RowKit Go.Lib
set_option maxRecDepth 8000
attribute [local go_sem ↓] Go.wp_at_zero Go.wp_at_succ

def dayc (d : Int) : List Value := [.int .i64 d]
theorem dayc_len (d : Int) : (dayc d).length = 1 := rfl
/-- a slice of days, its cells one by one -/
abbrev DayT (w : World) (v : Value) (l : List Int) : Prop := Tbl 1 dayc w v l
/-- the days at which the document cuts -/
structure IsCut (w w' : World) (s : Wb.Sp) (c : List Int) (v : Value) (D : List Int) : Prop where
  up : Wb.Up D
  mem : ∀ x, x ∈ D ↔ x = s.1 ∨ (x ∈ c ∧ s.1 < x ∧ x < s.2)
  len : D.length ≤ c.length + 1
  row : DayR w' v D
  ext : Wb.Ext w w'
theorem day_take {l : List Int} {k : Nat} {y : Int} (h : l[k]? = some y) : l.take (k + 1) = l.take k ++ [y] := by
  obtain ⟨h1, rfl⟩ := List.getElem?_eq_some_iff.1 h
  exact List.take_succ_eq_append_getElem h1
/-- pieces as pairs of days -/
def pcs (D : List Int) (t : Int) : List Wb.Sp := Wb.pairsL (D ++ [t])
theorem pcs_len (D : List Int) (t : Int) : (pcs D t).length = D.length := by rw [pcs, pairs_len]; simp
theorem pcs_take {D : List Int} {t x y : Int} {k : Nat} (hx : D[k]? = some x) (hy : (D ++ [t])[k + 1]? = some y) : (pcs D t).take (k + 1) = (pcs D t).take k ++ [(x, y)] := by
  have h1 := pairs_get (E := D ++ [t]) (i := k) (x := x) (y := y) (by rw [List.getElem?_append_left (List.getElem?_eq_some_iff.1 hx).1]; exact hx) hy
  obtain ⟨h2, h3⟩ := List.getElem?_eq_some_iff.1 h1
  rw [pcs, List.take_succ_eq_append_getElem h2, h3]
/-- what the document's Pieces yields -/
structure IsPcs (w w' : World) (s : Wb.Sp) (c : List Int) (v : Value) (r : List Wb.Sp) : Prop where
  none : s.2 ≤ s.1 → r = []
  some : s.1 < s.2 → ∃ D, r = pcs D s.2 ∧ Wb.Up D ∧ ∀ x, x ∈ D ↔ x = s.1 ∨ (x ∈ c ∧ s.1 < x ∧ x < s.2)
  len : r.length ≤ c.length + 1
  row : SpL w' v r
  ext : Wb.Ext w w'

theorem dayr_lit (w : World) (n : Nat) (hn : n = w.heap.size) (d : Int) : DayR (w.alloc (.cells #[.int .i64 d] 22)) (.slice (some ⟨n, 0, none⟩) 1 1) [d] := by
  subst hn
  refine ⟨w.heap.size, by simp, .inr ⟨w.heap.size, 1, #[.int .i64 d], rfl, Nat.le_refl _, ?_, by simp, by unfold maxLen; omega, by simp, by simp⟩⟩
  show (w.heap.push _)[w.heap.size]? = _
  simp

set_option maxRecDepth 100000 in
set_option maxHeartbeats 4000000 in
theorem rpieces_any (s : Wb.Sp) (v : Value) (c : List Int) (w : World) (hv : DayT w v c) (hc : c.length ≤ 100000) :
    Calls Try.prog 29 #[SpV s, v] w fun e w' => ∃ v', e = .returned v' ∧ ∃ r, IsPcs w w' s c v' r := by
  obtain ⟨i0, hi, hz0, hz1, hz2⟩ := info_parts infoSpan
  have HIN := Lib.hid (show Try.prog.info? 24 = some i0 ∧ i0.zero = some (.agg #[.int .i64 0, .int .i64 0]) ∧ i0.size = 2 ∧ i0.bytes = 16 from ⟨hi, hz0, hz1, hz2⟩)
  clear hi hz0 hz1 hz2
  obtain ⟨va, vc, rfl⟩ := hv.shape
  obtain ⟨f, t⟩ := s
  have HV := Lib.hid hv
  clear hv
  by_cases he : t ≤ f
  · have d : decide (t ≤ f) = true := by simpa using he
    go_enter Try.func29, Try.ntmps29
    go_wp2
    go_ret
    exact ⟨_, rfl, [], fun _ => rfl, fun h => absurd h (by simp only; omega), Nat.zero_le _, SpL.nil, by (repeat' (first | (with_reducible assumption) | (with_reducible exact Wb.Ext.refl _) | (with_reducible refine Wb.Ext.drew ?_) | (with_reducible refine Wb.Ext.drewN ?_ _) | (with_reducible refine Wb.Ext.alloc ?_ _) | (with_reducible refine Wb.Ext.trans ?_ (by assumption))))⟩
  · have d : decide (t ≤ f) = false := by simpa using he
    have HFT := Lib.hid (show f < t by omega)
    clear he
    go_enter Try.func29, Try.ntmps29
    go_wp2_with fail
    refine Wb.wp_at fun w0 hw0 => ?_
    have HX0 := Lib.hid (show Wb.Ext w w0 by rw [hw0]; (repeat' (first | (with_reducible assumption) | (with_reducible exact Wb.Ext.refl _) | (with_reducible refine Wb.Ext.drew ?_) | (with_reducible refine Wb.Ext.drewN ?_ _) | (with_reducible refine Wb.Ext.alloc ?_ _) | (with_reducible refine Wb.Ext.trans ?_ (by assumption)))))
    have q0 : w0.cell? ⟨w.heap.size, 0, none⟩ = some (.int .i64 f) := by rw [hw0]; simp [go_sem]
    have q1 : w0.cell? ⟨w.heap.size, 1, none⟩ = some (.int .i64 t) := by rw [hw0]; simp [go_sem]
    have HD0 := Lib.hid (show DayR w0 (.slice (some ⟨w.heap.size + 1, 0, none⟩) 1 1) [f] by rw [hw0]; exact dayr_lit _ _ (by simp) f)
    clear hw0
    go_loopw [5, 6] (fun dv iv wr => ∃ k : Nat, k ≤ c.length ∧ iv = .int .i64 k ∧ ∃ D, IsCut w0 wr (f, t) (c.take k) dv D) (fun _ iv _ => c.length - (intOf iv).toNat)
    case atStart => exact ⟨0, Nat.zero_le _, rfl, [f], List.pairwise_singleton _ _, fun x => by simp, by simp, HD0.out, .refl _⟩
    case round =>
      obtain ⟨k, hk, rfl, D, hD⟩ := hrel
      obtain ⟨da, dc, rfl⟩ := hD.row.shape
      have HD := Lib.hid hD
      have HX := Lib.hid hD.ext
      have q0 := hD.ext.keep q0
      have q1 := hD.ext.keep q1
      have hdl : D.length ≤ k + 1 := by have := hD.len; rw [List.length_take, Nat.min_eq_left hk] at this; exact this
      clear hD
      by_cases hlt : k < c.length
      · obtain ⟨y, hy⟩ := Wb.get_ex hlt
        obtain ⟨b, off, rfl, hcells⟩ := (HV.out.ext (HX0.out.trans HX.out)).opened (tne hlt)
        have c0 := hcells _ y hy 0 _ rfl
        have hki : (k : Int) < c.length := by omega
        have HY := Lib.hid hy
        clear hcells hy
        simp only [Nat.add_zero, Nat.mul_one] at c0
        by_cases hin : f < y ∧ y < t
        · obtain ⟨h1, h2⟩ := hin
          go_wp2_with fail
          go_quiet (fail)
          go_wp2_with fail
          go_fit (put_any _ D y _ (HD.out.row.ext (by (repeat' (first | (with_reducible assumption) | (with_reducible exact Wb.Ext.refl _) | (with_reducible refine Wb.Ext.drew ?_) | (with_reducible refine Wb.Ext.drewN ?_ _) | (with_reducible refine Wb.Ext.alloc ?_ _) | (with_reducible refine Wb.Ext.trans ?_ (by assumption)))))) HD.out.up (by omega)); rintro e w1 ⟨v1, rfl, E1, hP1⟩
          have HN : Hid (IsCut w0 w1 (f, t) (c.take (k + 1)) v1 E1) := Lib.hid ⟨hP1.up, fun x => by
            rw [hP1.mem, HD.out.mem, day_take HY.out, List.mem_append, List.mem_singleton]
            simp only
            constructor
            · rintro ((h | h) | h)
              · exact .inl h
              · exact .inr ⟨.inl h.1, h.2⟩
              · subst h; exact .inr ⟨.inr rfl, h1, h2⟩
            · rintro (h | ⟨h | h, h'⟩)
              · exact .inl (.inl h)
              · exact .inl (.inr ⟨h, h'⟩)
              · exact .inr h, by have := hP1.len; rw [List.length_take, Nat.min_eq_left (by omega)]; omega, hP1.row, HX.out.trans (Wb.Ext.trans (by (repeat' (first | (with_reducible assumption) | (with_reducible exact Wb.Ext.refl _) | (with_reducible refine Wb.Ext.drew ?_) | (with_reducible refine Wb.Ext.drewN ?_ _) | (with_reducible refine Wb.Ext.alloc ?_ _) | (with_reducible refine Wb.Ext.trans ?_ (by assumption))))) hP1.ext)⟩
          obtain ⟨ra1, rc1, rfl⟩ := hP1.row.shape
          clear hP1
          go_wp2
          go_roundw
          case rel => exact ⟨k + 1, by omega, by go_num, E1, HN.out⟩
          case measure => simp [intOf]; omega
        · have HN : Hid (IsCut w0 wr (f, t) (c.take (k + 1)) (.slice da D.length dc) D) := Lib.hid ⟨HD.out.up, fun x => by
            rw [HD.out.mem, day_take HY.out, List.mem_append, List.mem_singleton]
            simp only
            constructor
            · rintro (h | h)
              · exact .inl h
              · exact .inr ⟨.inl h.1, h.2⟩
            · rintro (h | ⟨h | h, h'⟩)
              · exact .inl h
              · exact .inr ⟨h, h'⟩
              · subst h; exact absurd h' hin, by rw [List.length_take, Nat.min_eq_left (by omega)]; omega, HD.out.row, HX.out⟩
          by_cases h1 : f < y
          · have d2 : decide (y < t) = false := by simp; omega
            clear hin
            go_wp2_with fail
            go_quiet (fail)
            go_wp2
            go_roundw
            case rel => exact ⟨k + 1, by omega, by go_num, D, HN.out.up, HN.out.mem, HN.out.len, HN.out.row.ext (by (repeat' (first | (with_reducible assumption) | (with_reducible exact Wb.Ext.refl _) | (with_reducible refine Wb.Ext.drew ?_) | (with_reducible refine Wb.Ext.drewN ?_ _) | (with_reducible refine Wb.Ext.alloc ?_ _) | (with_reducible refine Wb.Ext.trans ?_ (by assumption))))), HN.out.ext.trans (by (repeat' (first | (with_reducible assumption) | (with_reducible exact Wb.Ext.refl _) | (with_reducible refine Wb.Ext.drew ?_) | (with_reducible refine Wb.Ext.drewN ?_ _) | (with_reducible refine Wb.Ext.alloc ?_ _) | (with_reducible refine Wb.Ext.trans ?_ (by assumption)))))⟩
            case measure => simp [intOf]; omega
          · have d2 : decide (f < y) = false := by simp; omega
            clear hin
            go_wp2_with fail
            go_quiet (fail)
            go_wp2
            go_roundw
            case rel => exact ⟨k + 1, by omega, by go_num, D, HN.out.up, HN.out.mem, HN.out.len, HN.out.row.ext (by (repeat' (first | (with_reducible assumption) | (with_reducible exact Wb.Ext.refl _) | (with_reducible refine Wb.Ext.drew ?_) | (with_reducible refine Wb.Ext.drewN ?_ _) | (with_reducible refine Wb.Ext.alloc ?_ _) | (with_reducible refine Wb.Ext.trans ?_ (by assumption))))), HN.out.ext.trans (by (repeat' (first | (with_reducible assumption) | (with_reducible exact Wb.Ext.refl _) | (with_reducible refine Wb.Ext.drew ?_) | (with_reducible refine Wb.Ext.drewN ?_ _) | (with_reducible refine Wb.Ext.alloc ?_ _) | (with_reducible refine Wb.Ext.trans ?_ (by assumption)))))⟩
            case measure => simp [intOf]; omega
      · obtain rfl : k = c.length := by omega
        rw [List.take_length] at HD
        go_wp2_with fail
        refine Wb.wp_at fun W1 hW1 => ?_
        have q0 : W1.cell? ⟨w.heap.size, 0, none⟩ = some (.int .i64 f) := by rw [hW1]; exact q0
        have q1 : W1.cell? ⟨w.heap.size, 1, none⟩ = some (.int .i64 t) := by rw [hW1]; exact q1
        have HD : Hid (IsCut w0 W1 (f, t) c (.slice da D.length dc) D) := by rw [hW1]; exact HD
        have HX : Hid (Wb.Ext w0 W1) := by rw [hW1]; exact HX
        clear hW1
        go_loopw [7, 8] (fun sv iv wr => ∃ j : Nat, j ≤ D.length ∧ iv = .int .i64 j ∧ wr.ownsRow W1.heap.size 24 2 sv ((pcs D t).take j).length (rowsOf spc ((pcs D t).take j)) ∧ Wb.Ext W1 wr) (fun _ iv _ => D.length - (intOf iv).toNat)
        case atStart => exact ⟨0, Nat.zero_le _, rfl, own_none, .refl _⟩
        case round =>
          obtain ⟨j, hj, rfl, hown, hext⟩ := hrel
          have hpl := pcs_len D t
          have hln : ((pcs D t).take j).length = j := by rw [List.length_take, hpl]; omega
          rw [hln] at hown
          obtain ⟨oa, oc, rfl⟩ := row_shape hown
          have HOW := Lib.hid hown
          have HEX := Lib.hid hext
          have HSZ := Lib.hid hext.size
          have q0 := hext.keep q0
          have q1 := hext.keep q1
          clear hown hext hln hpl
          by_cases hjl : j < D.length
          · obtain ⟨x, hx⟩ := Wb.get_ex hjl
            rcases HD.out.row.cases with ⟨h1, h2⟩ | ⟨g, cap, hvv, hcap, hmx, hcells⟩
            · exfalso; rw [h2] at hjl; simp at hjl
            cases hvv
            have z0 := HEX.out.keep (hcells j x hx)
            have hji : (j : Int) < D.length := by omega
            obtain ⟨to, hto, hcase⟩ : ∃ to, (D ++ [t])[j + 1]? = some to ∧ ((j + 1 < D.length ∧ D[j + 1]? = some to) ∨ (D.length = j + 1 ∧ to = t)) := by
              by_cases h : j + 1 < D.length
              · obtain ⟨z, hz⟩ := Wb.get_ex h
                exact ⟨z, by rw [List.getElem?_append_left h]; exact hz, .inl ⟨h, hz⟩⟩
              · have h' : D.length = j + 1 := by omega
                exact ⟨t, by rw [List.getElem?_append_right (by omega), h']; simp, .inr ⟨h', rfl⟩⟩
            have HS := Lib.hid (pcs_take (t := t) hx hto)
            have HCL := Lib.hid hcells
            clear hx hto hcells hcap hmx
            rcases hcase with ⟨hj1, hz⟩ | ⟨hj1, rfl⟩
            · have z1 := HEX.out.keep (HCL.out (j + 1) to hz)
              have hji1 : (j : Int) + 1 < D.length := by omega
              have hb1 : (j : Int) + 1 ≤ 9223372036854775807 := by omega
              have e1 : ((j : Int) + 1).toNat = j + 1 := by omega
              clear hz
              obtain ⟨hi, hz0, hz1, hz2⟩ := HIN.out
              go_wp2_with (at_builtin; go_loud (refine Wb.wpList_append_row rfl (.tmp 64) (.tmp 71) 27 rfl W1.heap.size 24 i0 (.agg #[.int .i64 0, .int .i64 0]) 2 16 Try.underlying27 hi hz0 hz1 hz2 rfl (by decide) _ _ _ rfl (HOW.out.alloc _) _ rfl 1 (spc (x, to)) ?c31 ?c32 ?c33 ?c34 ?c35 ?_))
              case c31 => exact src_lit wr _ rfl (spc (x, to)) _ _
              case c32 => intro u hu; simp [spc] at hu; rcases hu with rfl | rfl <;> rfl
              case c33 => unfold maxLen; omega
              case c34 => omega
              case c35 => have := HSZ.out; simp; omega
              intro u2 w6 hown2 hg2 hnil2
              have HG := Lib.hid (show Wb.Ext W1 w6 from Wb.Ext.grown (Wb.Ext.trans HEX.out (by (repeat' (first | (with_reducible assumption) | (with_reducible exact Wb.Ext.refl _) | (with_reducible refine Wb.Ext.drew ?_) | (with_reducible refine Wb.Ext.drewN ?_ _) | (with_reducible refine Wb.Ext.alloc ?_ _) | (with_reducible refine Wb.Ext.trans ?_ (by assumption)))))) hg2 (fun n hn => (HOW.out.lt n hn).1))
              have HO := Lib.hid hown2
              clear hi hz0 hz1 hz2 hg2 hown2 hnil2
              go_wp2
              go_roundw
              case rel =>
                refine ⟨j + 1, by omega, by go_num, ?_, HG.out⟩
                have hpl := pcs_len D t
                rw [HS.out, List.length_append, rowsOf_app, rowsOf_one, show ((pcs D t).take j).length = j by rw [List.length_take, hpl]; omega]; exact HO.out
              case measure => simp [intOf]; omega
            · have hji1 : ((D.length : Nat) : Int) = (j : Int) + 1 := by omega
              have HJ1 := Lib.hid hj1
              have d5 : decide ((j : Int) + 1 < (D.length : Int)) = false := by simp; omega
              clear hji1 hj1
              obtain ⟨hi, hz0, hz1, hz2⟩ := HIN.out
              go_wp2_with (at_builtin; go_loud (refine Wb.wpList_append_row rfl (.tmp 64) (.tmp 71) 27 rfl W1.heap.size 24 i0 (.agg #[.int .i64 0, .int .i64 0]) 2 16 Try.underlying27 hi hz0 hz1 hz2 rfl (by decide) _ _ _ rfl (HOW.out.alloc _) _ rfl 1 (spc (x, to)) ?c41 ?c42 ?c43 ?c44 ?c45 ?_))
              case c41 => exact src_lit wr _ rfl (spc (x, to)) _ _
              case c42 => intro u hu; simp [spc] at hu; rcases hu with rfl | rfl <;> rfl
              case c43 => unfold maxLen; omega
              case c44 => omega
              case c45 => have := HSZ.out; simp; omega
              intro u2 w6 hown2 hg2 hnil2
              have HG := Lib.hid (show Wb.Ext W1 w6 from Wb.Ext.grown (Wb.Ext.trans HEX.out (by (repeat' (first | (with_reducible assumption) | (with_reducible exact Wb.Ext.refl _) | (with_reducible refine Wb.Ext.drew ?_) | (with_reducible refine Wb.Ext.drewN ?_ _) | (with_reducible refine Wb.Ext.alloc ?_ _) | (with_reducible refine Wb.Ext.trans ?_ (by assumption)))))) hg2 (fun n hn => (HOW.out.lt n hn).1))
              have HO := Lib.hid hown2
              clear hi hz0 hz1 hz2 hg2 hown2 hnil2
              go_wp2
              go_roundw
              case rel =>
                refine ⟨j + 1, by omega, by go_num, ?_, HG.out⟩
                have hpl := pcs_len D to
                rw [HS.out, List.length_append, rowsOf_app, rowsOf_one, show ((pcs D to).take j).length = j by rw [List.length_take, hpl]; omega]; exact HO.out
              case measure => simp [intOf]; omega
          · obtain rfl : j = D.length := by omega
            go_wp2
            go_ret
            refine ⟨_, rfl, pcs D t, fun h => absurd h (by have := HFT.out; simp only; omega), fun _ => ⟨D, rfl, HD.out.up, HD.out.mem⟩, by rw [pcs_len]; exact HD.out.len, spl_row (base := W1.heap.size) (n := D.length) ?_, HX0.out.trans (HX.out.trans HEX.out)⟩
            have := HOW.out
            rw [List.take_of_length_le (by rw [pcs_len]; exact Nat.le_refl _)] at this
            exact this

end Go.Proofs.Ytdckghdmopafpaa
