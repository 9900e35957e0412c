/- The walk of span.Pieces. -/
import Derived.Test.YtdckghdmopafpaaSpn10
namespace Go.Proofs.Ytdckghdmopafpaa
open Go.RowKit Go.Lib
set_option maxRecDepth 8000
attribute [local go_sem ↓] Go.wp_at_zero Go.wp_at_succ

/-- a cut more -/
def cutS (t : Int) (r : List Wb.Sp × Int) (d : Int) : List Wb.Sp × Int := if r.2 < d ∧ d < t then (r.1 ++ [(r.2, d)], d) else r
def cutL (s : Wb.Sp) (l : List Int) : List Wb.Sp × Int := l.foldl (cutS s.2) ([], s.1)
def piecesL (s : Wb.Sp) (l : List Int) : List Wb.Sp := (cutL s l).1 ++ [((cutL s l).2, s.2)]
theorem cut_take {s : Wb.Sp} {l : List Int} {k : Nat} {d : Int} (h : l[k]? = some d) : cutL s (l.take (k + 1)) = cutS s.2 (cutL s (l.take k)) d := by
  obtain ⟨h1, rfl⟩ := List.getElem?_eq_some_iff.1 h
  rw [List.take_succ_eq_append_getElem h1, cutL, List.foldl_append]; rfl
theorem cut_len (s : Wb.Sp) (l : List Int) : (cutL s l).1.length ≤ l.length := by
  induction l using Wb.snocI with
  | h0 => exact Nat.le_refl _
  | h1 l d ih =>
    have e : cutL s (l ++ [d]) = cutS s.2 (cutL s l) d := by rw [cutL, List.foldl_append]; rfl
    rw [e, cutS]
    split
    · simp; omega
    · simp; omega

set_option maxHeartbeats 4000000 in
theorem pieces_any (s : Wb.Sp) (v : Value) (l : List Int) (w : World) (hv : DayL w v l) (hl : l.length ≤ 100000) :
    Calls Try.prog 12 #[SpV s, v] w fun e w' => ∃ v' r, e = .returned v' ∧ ((s.2 ≤ s.1 ∧ r = []) ∨ (s.1 < s.2 ∧ ∃ l' : List Int, l'.Perm l ∧ l'.Pairwise (· ≤ ·) ∧ r = piecesL s l')) ∧ SpL w' v' r ∧ Wb.Ext w w' := by
  obtain ⟨i0, hi, hz0, hz1, hz2⟩ := info_parts infoSpan
  have HIN := Lib.hid (show Try.prog.info? 24 = some i0 ∧ i0.zero = some (.agg #[.int .i64 0, .int .i64 0]) ∧ i0.size = 2 ∧ i0.bytes = 16 from ⟨hi, hz0, hz1, hz2⟩)
  clear hi hz0 hz1 hz2
  obtain ⟨va, vc, rfl⟩ := hv.shape
  obtain ⟨f, t⟩ := s
  have HV := Lib.hid hv
  clear hv
  by_cases he : t ≤ f
  · have d : decide (t ≤ f) = true := by simpa using he
    go_enter Try.func12, Try.ntmps12
    go_wp2_with fail
    go_fit (empty_any (f, t) _); rintro e w1 ⟨rfl, hb1⟩
    go_wp2
    go_ret
    exact ⟨_, [], rfl, .inl ⟨he, rfl⟩, SpL.nil, by (repeat' (first | (with_reducible assumption) | (with_reducible exact Wb.Ext.refl _) | (with_reducible refine Wb.Ext.drew ?_) | (with_reducible refine Wb.Ext.drewN ?_ _) | (with_reducible refine Wb.Ext.alloc ?_ _) | (with_reducible refine Wb.Ext.trans ?_ (by assumption))))⟩
  · have d : decide (t ≤ f) = false := by simpa using he
    go_enter Try.func12, Try.ntmps12
    go_wp2_with fail
    go_fit (empty_any (f, t) _); rintro e w1 ⟨rfl, hb1⟩
    have hx1 : Wb.Ext w w1 := by (repeat' (first | (with_reducible assumption) | (with_reducible exact Wb.Ext.refl _) | (with_reducible refine Wb.Ext.drew ?_) | (with_reducible refine Wb.Ext.drewN ?_ _) | (with_reducible refine Wb.Ext.alloc ?_ _) | (with_reducible refine Wb.Ext.trans ?_ (by assumption))))
    have q0 : w1.cell? ⟨w.heap.size, 0, none⟩ = some (.int .i64 f) := hb1.keep (by simp [go_sem])
    have q1 : w1.cell? ⟨w.heap.size, 1, none⟩ = some (.int .i64 t) := hb1.keep (by simp [go_sem])
    clear hb1
    go_wp2_with fail
    go_fit (cloned_any _ l w1 (HV.out.ext hx1) (by omega)); rintro e w2 ⟨v2, rfl, ho2, hx2⟩
    obtain ⟨ea, ec, rfl⟩ := row_shape ho2
    have HO2 := Lib.hid ho2
    have HX2 := Lib.hid hx2
    have hs2 := hx1.size
    clear ho2 hx2
    go_wp2_with fail
    go_fit (sortd_any _ _ l w2 HO2.out (by omega)); rintro e w3 ⟨rfl, l3, hp3, hs3, ho3, hg3⟩
    have hx3 := HX2.out.grown hg3 (fun n hn => (HO2.out.lt n hn).1)
    have q0 := hx3.keep q0
    have q1 := hx3.keep q1
    have hl3 : l3.length = l.length := hp3.length_eq
    rw [← hl3] at ho3 ⊢
    have HL3 := Lib.hid hl3
    have HOR := Lib.hid ho3
    have HP := Lib.hid (show l3.Perm l ∧ l3.Pairwise (· ≤ ·) from ⟨hp3, hs3⟩)
    have hl3b : l3.length ≤ 100000 := by omega
    have HXW := Lib.hid (hx1.trans hx3)
    clear hp3 hs3 hg3 hx3 hl3 ho3
    go_wp2_with fail
    refine Wb.wp_at fun W3 hW3 => ?_
    have q0 : W3.cell? ⟨w.heap.size, 0, none⟩ = some (.int .i64 f) := by rw [hW3]; exact q0
    have q1 : W3.cell? ⟨w.heap.size, 1, none⟩ = some (.int .i64 t) := by rw [hW3]; exact q1
    have HXW := Lib.hid (show Wb.Ext w W3 by rw [hW3]; exact HXW.out)
    have HOR := Lib.hid (show W3.ownsRow w1.heap.size 22 1 (.slice ea l3.length ec) l3.length (days l3) by rw [hW3]; exact HOR.out)
    clear hW3
    go_loopw [6, 7, 20] (fun sv fv iv wr => ∃ k : Nat, k ≤ l3.length ∧ iv = .int .i64 k ∧ fv = .int .i64 (cutL (f, t) (l3.take k)).2 ∧ wr.ownsRow W3.heap.size 24 2 sv (cutL (f, t) (l3.take k)).1.length (rowsOf spc (cutL (f, t) (l3.take k)).1) ∧ Wb.Ext W3 wr) (fun _ _ iv _ => l3.length - (intOf iv).toNat)
    case atStart => exact ⟨0, Nat.zero_le _, rfl, rfl, own_none, .refl _⟩
    case round =>
      obtain ⟨k, hk, rfl, rfl, hown, hext⟩ := hrel
      have hcl := cut_len (f, t) (l3.take k)
      rw [List.length_take, Nat.min_eq_left hk] at hcl
      obtain ⟨R, hR⟩ : ∃ R, cutL (f, t) (l3.take k) = R := ⟨_, rfl⟩
      rw [hR] at hown hcl ⊢
      obtain ⟨A, x⟩ := R
      simp only at hown hcl ⊢
      obtain ⟨ra, rc, rfl⟩ := row_shape hown
      have HOW := Lib.hid hown
      have HEX := Lib.hid hext
      have hsz := hext.size
      have q0 := hext.keep q0
      have q1 := hext.keep q1
      have HR := Lib.hid hR
      clear hown hext hR
      by_cases hlt : k < l3.length
      · obtain ⟨y, hy⟩ := Wb.get_ex hlt
        have hne : Value.slice ea l3.length ec ≠ .slice none 0 0 := by intro e; injection e; omega
        obtain ⟨g, cap, hvv, hgb, hgl, _, hcells⟩ := Wb.ownsRow_at HOR.out hne
        cases hvv
        have z0 := HEX.out.keep (hcells k (.int .i64 y) (by rw [List.getElem?_map, hy]; rfl))
        have hki : (k : Int) < l3.length := by omega
        have HC := Lib.hid (cut_take (s := (f, t)) hy)
        clear hy hne hcells
        by_cases hin : x < y ∧ y < t
        · obtain ⟨h1, h2⟩ := hin
          have HC2 := Lib.hid (show cutL (f, t) (l3.take (k + 1)) = (A ++ [(x, y)], y) by rw [HC.out, HR.out, cutS]; exact if_pos ⟨h1, h2⟩)
          obtain ⟨hi, hz0, hz1, hz2⟩ := HIN.out
          go_wp2_with (at_builtin; go_loud (refine Wb.wpList_append_row rfl (.tmp 33) (.tmp 37) 27 rfl W3.heap.size 24 i0 (.agg #[.int .i64 0, .int .i64 0]) 2 16 Try.underlying27 hi hz0 hz1 hz2 rfl (by decide) _ _ _ rfl (HOW.out.alloc _) _ rfl 1 (spc (x, y)) ?c1 ?c2 ?c3 ?c4 ?c5 ?_))
          case c1 => exact src_lit wr _ rfl (spc (x, y)) _ _
          case c2 => intro u hu; simp [spc] at hu; rcases hu with rfl | rfl <;> rfl
          case c3 => unfold maxLen; omega
          case c4 => omega
          case c5 => first | omega | (simp; omega)
          intro u2 w6 hown2 hg2 hnil2
          have HG := Lib.hid (show Wb.Ext W3 w6 from Wb.Ext.grown (Wb.Ext.trans HEX.out (by (repeat' (first | (with_reducible assumption) | (with_reducible exact Wb.Ext.refl _) | (with_reducible refine Wb.Ext.drew ?_) | (with_reducible refine Wb.Ext.drewN ?_ _) | (with_reducible refine Wb.Ext.alloc ?_ _) | (with_reducible refine Wb.Ext.trans ?_ (by assumption)))))) hg2 (fun n hn => (HOW.out.lt n hn).1))
          have HO := Lib.hid hown2
          clear hi hz0 hz1 hz2 hg2 hown2 hnil2
          go_wp2
          go_roundw
          case rel => exact ⟨k + 1, by omega, by go_num, by rw [HC2.out], by rw [HC2.out, List.length_append, rowsOf_app, rowsOf_one]; exact HO.out, HG.out⟩
          case measure => simp [intOf]; omega
        · have HC2 := Lib.hid (show cutL (f, t) (l3.take (k + 1)) = (A, x) by rw [HC.out, HR.out, cutS]; exact if_neg hin)
          by_cases h1 : x < y
          · have h2 : decide (y < t) = false := by simp; omega
            clear hin
            go_wp2
            go_roundw
            case rel => exact ⟨k + 1, by omega, by go_num, by rw [HC2.out], by rw [HC2.out]; exact HOW.out, HEX.out⟩
            case measure => simp [intOf]; omega
          · have h1 : decide (x < y) = false := by simp; omega
            clear hin
            go_wp2
            go_roundw
            case rel => exact ⟨k + 1, by omega, by go_num, by rw [HC2.out], by rw [HC2.out]; exact HOW.out, HEX.out⟩
            case measure => simp [intOf]; omega
      · obtain rfl : k = l3.length := by omega
        have HRR := Lib.hid (show A ++ [(x, t)] = piecesL (f, t) l3 by
          have := HR.out; rw [List.take_length] at this; rw [piecesL, this])
        obtain ⟨hi, hz0, hz1, hz2⟩ := HIN.out
        go_wp2_with (at_builtin; go_loud (refine Wb.wpList_append_row rfl (.tmp 41) (.tmp 46) 27 rfl W3.heap.size 24 i0 (.agg #[.int .i64 0, .int .i64 0]) 2 16 Try.underlying27 hi hz0 hz1 hz2 rfl (by decide) _ _ _ rfl (HOW.out.alloc _) _ rfl 1 (spc (x, t)) ?c1 ?c2 ?c3 ?c4 ?c5 ?_))
        case c1 => exact src_lit wr _ rfl (spc (x, t)) _ _
        case c2 => intro u hu; simp [spc] at hu; rcases hu with rfl | rfl <;> rfl
        case c3 => unfold maxLen; omega
        case c4 => omega
        case c5 => first | omega | (simp; omega)
        intro u2 w6 hown2 hg2 hnil2
        have HG := Lib.hid (show Wb.Ext W3 w6 from Wb.Ext.grown (Wb.Ext.trans HEX.out (by (repeat' (first | (with_reducible assumption) | (with_reducible exact Wb.Ext.refl _) | (with_reducible refine Wb.Ext.drew ?_) | (with_reducible refine Wb.Ext.drewN ?_ _) | (with_reducible refine Wb.Ext.alloc ?_ _) | (with_reducible refine Wb.Ext.trans ?_ (by assumption)))))) hg2 (fun n hn => (HOW.out.lt n hn).1))
        have HO := Lib.hid hown2
        clear hi hz0 hz1 hz2 hg2 hown2 hnil2
        go_wp2
        go_ret
        refine ⟨_, A ++ [(x, t)], rfl, .inr ⟨show f < t by omega, l3, HP.out.1, HP.out.2, HRR.out⟩, ?_, HXW.out.trans HG.out⟩
        have := HO.out
        rw [← rowsOf_one spc (x, t), ← rowsOf_app] at this
        exact spl_row this

end Go.Proofs.Ytdckghdmopafpaa
