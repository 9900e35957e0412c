/- The reference of package span: put, Ends. -/
import Derived.Test.YtdckghdmopafpaaRSpn2
import Derived.Test.YtdckghdmopafpaaPlain05d
namespace Go.Proofs.Ytdckghdmopafpaa
open Go.RowKit Go.Lib
set_option maxRecDepth 8000
attribute [local go_sem ↓] Go.wp_at_zero Go.wp_at_succ

/-- a row of days, made by the law's own calls -/
def DayR (w : World) (v : Value) (l : List Int) : Prop := ∃ base, w.ownsRow base 22 1 v l.length (days l)
theorem DayR.ext {w w' : World} {v : Value} {l : List Int} (h : DayR w v l) (k : Wb.Ext w w') : DayR w' v l := by
  obtain ⟨b, h⟩ := h
  exact ⟨b, Wb.row_ext h k⟩
theorem DayR.nil {w : World} : DayR w (.slice none 0 0) [] := ⟨0, own_none⟩
/-- it is nil, or lies at a block's begin -/
theorem DayR.cases {w : World} {v : Value} {l : List Int} (h : DayR w v l) : (v = .slice none 0 0 ∧ l = []) ∨ ∃ g cap, v = .slice (some ⟨g, 0, none⟩) l.length cap ∧ l.length ≤ cap ∧ cap ≤ maxLen ∧ ∀ j y, l[j]? = some y → w.cell? ⟨g, j, none⟩ = some (.int .i64 y) := by
  obtain ⟨base, h⟩ := h
  obtain ⟨h1, h2 | ⟨g, cap, cur, hv, hb, hg, hc, hm, hs, hx⟩⟩ := id h
  · exact .inl ⟨h2.1, List.length_eq_zero_iff.1 h2.2⟩
  · have hne : v ≠ .slice none 0 0 := by rw [hv]; intro e; cases e
    obtain ⟨g2, cap2, hv2, _, _, _, hcell⟩ := Wb.ownsRow_at h hne
    rw [hv] at hv2
    cases hv2
    exact .inr ⟨g, cap, hv, hc, hm, fun j y hj => hcell j _ (by rw [List.getElem?_map, hj]; rfl)⟩
theorem DayR.shape {w : World} {v : Value} {l : List Int} (h : DayR w v l) : ∃ a c, v = .slice a l.length c := by
  obtain ⟨_, h⟩ := h; exact row_shape h
theorem src_days {w : World} {g o n : Nat} (l : List Int) (c : Nat) (hn : n = l.length) (h : ∀ j y, l[j]? = some y → w.cell? ⟨g, o + j, none⟩ = some (.int .i64 y)) : Wb.SrcRow w 1 (.slice (some ⟨g, o, none⟩) n c) n (days l) := by
  subst hn
  refine ⟨by simp, .inr ⟨_, _, rfl, fun j u hj => ?_⟩⟩
  rw [List.getElem?_map] at hj
  obtain ⟨y, hy, rfl⟩ := Option.map_eq_some_iff.1 hj
  have := h j y hy
  by_cases h0 : j = 0
  · subst h0; simpa [Addr.add] using this
  · simpa [Addr.add, h0] using this
theorem src_no {w : World} (a : Option Addr) (c : Nat) : Wb.SrcRow w 1 (.slice a 0 c) 0 [] ∨ a = none := by
  cases a with
  | none => exact .inr rfl
  | some a => exact .inl ⟨rfl, .inr ⟨a, c, rfl, fun j u hj => by simp at hj⟩⟩

/-- days that rise, a day put into them -/
structure IsPut (w w' : World) (l : List Int) (d : Int) (v' : Value) (r : List Int) : Prop where
  up : Wb.Up r
  mem : ∀ x, x ∈ r ↔ x ∈ l ∨ x = d
  len : r.length ≤ l.length + 1
  row : DayR w' v' r
  ext : Wb.Ext w w'

set_option maxHeartbeats 4000000 in
theorem put_any (v : Value) (l : List Int) (d : Int) (w : World) (hv : DayR w v l) (hu : Wb.Up l) (hl : l.length ≤ 1000000) :
    Calls Try.prog 47 #[v, .int .i64 d] w fun e w' => ∃ v', e = .returned v' ∧ ∃ r, IsPut w w' l d v' r := by
  obtain ⟨i0, hi, hz0, hz1, hz2⟩ := info_parts infoDay
  have HIN := Lib.hid (show Try.prog.info? 22 = some i0 ∧ i0.zero = some (.int .i64 0) ∧ i0.size = 1 ∧ i0.bytes = 8 from ⟨hi, hz0, hz1, hz2⟩)
  clear hi hz0 hz1 hz2
  have HV := Lib.hid hv
  have HU := Lib.hid hu
  clear hu
  rcases hv.cases with ⟨rfl, rfl⟩ | ⟨g, cap, rfl, hcap, hmx, hcells⟩
  · clear hv
    have HOW0 := Lib.hid (own_none (w := w) (base := w.heap.size) (e := 22) (s := 1))
    have HSZ := Lib.hid (Nat.le_refl w.heap.size)
    go_enter Try.func47, Try.ntmps47
    go_wp2_with fail
    go_loopw [5] (fun iv wr => iv = .int .i64 0 ∧ w = wr) (fun _ _ => 0)
    case atStart => exact ⟨rfl, rfl⟩
    case round =>
      obtain ⟨rfl, rfl⟩ := hrel
      obtain ⟨hi, hz0, hz1, hz2⟩ := HIN.out
      go_wp2_with (at_builtin; go_loud (refine Wb.wpList_append_row rfl (.tmp 34) (.tmp 37) 25 rfl w.heap.size 22 i0 (.int .i64 0) 1 8 Try.underlying25 hi hz0 hz1 hz2 rfl (by decide) _ _ _ rfl (own_none) _ rfl 0 ([]) ?c11 ?c21 ?c31 ?c41 ?c51 ?_))
      case c11 => exact ⟨rfl, .inl ⟨rfl, rfl⟩⟩
      case c21 => exact days_one []
      case c31 => unfold maxLen; omega
      case c41 => omega
      case c51 => first | omega | (have := HSZ.out; simp; omega) | (have := HSZ.out; simp only [World.alloc, Array.size_push]; omega)
      intro v1 w1 hown1 hg1 hnil1
      have HG1 := Lib.hid (show Wb.Ext w w1 from Wb.Ext.grown (Wb.Ext.trans (.refl _) (by (repeat' (first | (with_reducible assumption) | (with_reducible exact Wb.Ext.refl _) | (with_reducible refine Wb.Ext.drew ?_) | (with_reducible refine Wb.Ext.drewN ?_ _) | (with_reducible refine Wb.Ext.alloc ?_ _) | (with_reducible refine Wb.Ext.trans ?_ (by assumption)))))) hg1 (fun n hn => (HOW0.out.lt n hn).1))
      have HOW1 := Lib.hid hown1
      have HSZ := Lib.hid (HG1.out.size)
      obtain ⟨ra1, rc1, rfl⟩ := row_shape hown1
      clear hi hz0 hz1 hz2 hown1 hg1 hnil1
      obtain ⟨hi, hz0, hz1, hz2⟩ := HIN.out
      go_wp2_with (at_builtin; go_loud (refine Wb.wpList_append_row rfl (.tmp 39) (.tmp 41) 25 rfl w.heap.size 22 i0 (.int .i64 0) 1 8 Try.underlying25 hi hz0 hz1 hz2 rfl (by decide) _ _ _ rfl (HOW1.out.alloc _) _ rfl 1 (days [d]) ?c12 ?c22 ?c32 ?c42 ?c52 ?_))
      case c12 => exact src_lit w1 _ rfl [.int .i64 d] _ _
      case c22 => exact days_one _
      case c32 => unfold maxLen; omega
      case c42 => omega
      case c52 => first | omega | (have := HSZ.out; simp; omega) | (have := HSZ.out; simp only [World.alloc, Array.size_push]; omega)
      intro v2 w2 hown2 hg2 hnil2
      have HG2 := Lib.hid (show Wb.Ext w w2 from Wb.Ext.grown (Wb.Ext.trans HG1.out (by (repeat' (first | (with_reducible assumption) | (with_reducible exact Wb.Ext.refl _) | (with_reducible refine Wb.Ext.drew ?_) | (with_reducible refine Wb.Ext.drewN ?_ _) | (with_reducible refine Wb.Ext.alloc ?_ _) | (with_reducible refine Wb.Ext.trans ?_ (by assumption)))))) hg2 (fun n hn => (HOW1.out.lt n hn).1))
      have HOW2 := Lib.hid hown2
      have HSZ := Lib.hid (HG2.out.size)
      obtain ⟨ra2, rc2, rfl⟩ := row_shape hown2
      clear hi hz0 hz1 hz2 hown2 hg2 hnil2
      obtain ⟨hi, hz0, hz1, hz2⟩ := HIN.out
      go_wp2_with (at_builtin; go_loud (refine Wb.wpList_append_row rfl (.tmp 43) (.tmp 46) 25 rfl w.heap.size 22 i0 (.int .i64 0) 1 8 Try.underlying25 hi hz0 hz1 hz2 rfl (by decide) _ _ _ rfl (HOW2.out) _ rfl 0 ([]) ?c13 ?c23 ?c33 ?c43 ?c53 ?_))
      case c13 => exact ⟨rfl, .inl ⟨rfl, rfl⟩⟩
      case c23 => exact days_one []
      case c33 => unfold maxLen; omega
      case c43 => omega
      case c53 => first | omega | (have := HSZ.out; simp; omega) | (have := HSZ.out; simp only [World.alloc, Array.size_push]; omega)
      intro v3 w3 hown3 hg3 hnil3
      have HG3 := Lib.hid (show Wb.Ext w w3 from Wb.Ext.grown (Wb.Ext.trans HG2.out (by (repeat' (first | (with_reducible assumption) | (with_reducible exact Wb.Ext.refl _) | (with_reducible refine Wb.Ext.drew ?_) | (with_reducible refine Wb.Ext.drewN ?_ _) | (with_reducible refine Wb.Ext.alloc ?_ _) | (with_reducible refine Wb.Ext.trans ?_ (by assumption)))))) hg3 (fun n hn => (HOW2.out.lt n hn).1))
      have HOW3 := Lib.hid hown3
      have HSZ := Lib.hid (HG3.out.size)
      obtain ⟨ra3, rc3, rfl⟩ := row_shape hown3
      clear hi hz0 hz1 hz2 hown3 hg3 hnil3
      go_wp2
      go_ret
      refine ⟨_, rfl, [d], List.pairwise_singleton _ _, fun x => by simp, by simp, ⟨w.heap.size, ?_⟩, HG3.out⟩
      simpa [days] using HOW3.out
  · clear hv
    unfold maxLen at hmx
    have HC := Lib.hid hcells
    clear hcells
    go_enter Try.func47, Try.ntmps47
    go_wp2_with fail
    go_loopw [5] (fun iv wr => ∃ k : Nat, k ≤ l.length ∧ iv = .int .i64 k ∧ Hid (∀ t x, l[t]? = some x → t < k → x < d) ∧ w = wr) (fun iv _ => l.length - (intOf iv).toNat)
    case atStart => exact ⟨0, Nat.zero_le _, rfl, Lib.hid (fun t x _ h => absurd h (Nat.not_lt_zero _)), rfl⟩
    case round =>
      obtain ⟨k, hk, rfl, HLO, rfl⟩ := hrel
      by_cases hlt : k < l.length
      · obtain ⟨y, hy⟩ := Wb.get_ex hlt
        have z0 := HC.out k y hy
        have HY := Lib.hid hy
        have hki : (k : Int) < l.length := by omega
        clear hy
        by_cases hyd : y < d
        · have HLO2 : Hid (∀ t x, l[t]? = some x → t < k + 1 → x < d) := Lib.hid (fun t x ht htk => by
            rcases Nat.lt_or_ge t k with q | q
            · exact HLO.out t x ht q
            · obtain rfl : t = k := by omega
              rw [HY.out] at ht; cases ht; exact hyd)
          go_wp2
          go_roundw
          case rel => exact ⟨k + 1, by omega, by go_num, HLO2, by first | rfl | trivial⟩
          case measure => simp [intOf]; omega
        · have d1 : decide (y < d) = false := by simpa using hyd
          by_cases he : y = d
          · obtain rfl := he
            have HR := Lib.hid (show y ∈ l from List.mem_of_getElem? HY.out)
            go_wp2
            go_ret
            exact ⟨_, rfl, l, HU.out, fun x => ⟨.inl, fun h => h.elim id fun h => h ▸ HR.out⟩, by omega, HV.out, .refl _⟩
          · have d2 : (y == d) = false := by simpa using he
            have HHI := Lib.hid (show ∀ t x, l[t]? = some x → k ≤ t → d < x from fun t x ht hkt => by
              rcases Nat.lt_or_ge k t with q | q
              · obtain ⟨h1, h2⟩ := List.getElem?_eq_some_iff.1 ht
                obtain ⟨h3, h4⟩ := List.getElem?_eq_some_iff.1 HY.out
                have := List.pairwise_iff_getElem.1 HU.out k t h3 h1 q
                omega
              · obtain rfl : t = k := by omega
                rw [HY.out] at ht; cases ht; omega)
            have hck : (cap = k) = False := by simp; omega
            clear hyd he
            have HOW0 := Lib.hid (own_none (w := w) (base := w.heap.size) (e := 22) (s := 1))
            have HSZ := Lib.hid (Nat.le_refl w.heap.size)
            obtain ⟨hi, hz0, hz1, hz2⟩ := HIN.out
            go_wp2_with (at_builtin; go_loud (refine Wb.wpList_append_row rfl (.tmp 34) (.tmp 37) 25 rfl w.heap.size 22 i0 (.int .i64 0) 1 8 Try.underlying25 hi hz0 hz1 hz2 rfl (by decide) _ _ _ rfl (own_none) _ rfl k (days (l.take k)) ?c11 ?c21 ?c31 ?c41 ?c51 ?_))
            case c11 => exact src_days (l.take k) cap (by first | (simp; done) | (simp; omega)) (fun j y hj => by rw [List.getElem?_take] at hj; split at hj; exact (Nat.zero_add j).symm ▸ HC.out j y hj; cases hj)
            case c21 => exact days_one _
            case c31 => unfold maxLen; omega
            case c41 => omega
            case c51 => first | omega | (have := HSZ.out; simp; omega) | (have := HSZ.out; simp only [World.alloc, Array.size_push]; omega)
            intro v1 w1 hown1 hg1 hnil1
            have HG1 := Lib.hid (show Wb.Ext w w1 from Wb.Ext.grown (Wb.Ext.trans (.refl _) (by (repeat' (first | (with_reducible assumption) | (with_reducible exact Wb.Ext.refl _) | (with_reducible refine Wb.Ext.drew ?_) | (with_reducible refine Wb.Ext.drewN ?_ _) | (with_reducible refine Wb.Ext.alloc ?_ _) | (with_reducible refine Wb.Ext.trans ?_ (by assumption)))))) hg1 (fun n hn => (HOW0.out.lt n hn).1))
            have HOW1 := Lib.hid hown1
            have HSZ := Lib.hid (HG1.out.size)
            obtain ⟨ra1, rc1, rfl⟩ := row_shape hown1
            clear hi hz0 hz1 hz2 hown1 hg1 hnil1
            obtain ⟨hi, hz0, hz1, hz2⟩ := HIN.out
            go_wp2_with (at_builtin; go_loud (refine Wb.wpList_append_row rfl (.tmp 39) (.tmp 41) 25 rfl w.heap.size 22 i0 (.int .i64 0) 1 8 Try.underlying25 hi hz0 hz1 hz2 rfl (by decide) _ _ _ rfl (HOW1.out.alloc _) _ rfl 1 (days [d]) ?c12 ?c22 ?c32 ?c42 ?c52 ?_))
            case c12 => exact src_lit w1 _ rfl [.int .i64 d] _ _
            case c22 => exact days_one _
            case c32 => unfold maxLen; omega
            case c42 => omega
            case c52 => first | omega | (have := HSZ.out; simp; omega) | (have := HSZ.out; simp only [World.alloc, Array.size_push]; omega)
            intro v2 w2 hown2 hg2 hnil2
            have HG2 := Lib.hid (show Wb.Ext w w2 from Wb.Ext.grown (Wb.Ext.trans HG1.out (by (repeat' (first | (with_reducible assumption) | (with_reducible exact Wb.Ext.refl _) | (with_reducible refine Wb.Ext.drew ?_) | (with_reducible refine Wb.Ext.drewN ?_ _) | (with_reducible refine Wb.Ext.alloc ?_ _) | (with_reducible refine Wb.Ext.trans ?_ (by assumption)))))) hg2 (fun n hn => (HOW1.out.lt n hn).1))
            have HOW2 := Lib.hid hown2
            have HSZ := Lib.hid (HG2.out.size)
            obtain ⟨ra2, rc2, rfl⟩ := row_shape hown2
            clear hi hz0 hz1 hz2 hown2 hg2 hnil2
            obtain ⟨hi, hz0, hz1, hz2⟩ := HIN.out
            go_wp2_with (at_builtin; go_loud (refine Wb.wpList_append_row rfl (.tmp 43) (.tmp 46) 25 rfl w.heap.size 22 i0 (.int .i64 0) 1 8 Try.underlying25 hi hz0 hz1 hz2 rfl (by decide) _ _ _ rfl (HOW2.out) _ rfl (l.length - k) (days (l.drop k)) ?c13 ?c23 ?c33 ?c43 ?c53 ?_))
            case c13 => exact src_days (l.drop k) _ (by simp) (fun j y hj => by rw [List.getElem?_drop] at hj; exact HG2.out.keep (HC.out _ y hj))
            case c23 => exact days_one _
            case c33 => unfold maxLen; omega
            case c43 => omega
            case c53 => first | omega | (have := HSZ.out; simp; omega) | (have := HSZ.out; simp only [World.alloc, Array.size_push]; omega)
            intro v3 w3 hown3 hg3 hnil3
            have HG3 := Lib.hid (show Wb.Ext w w3 from Wb.Ext.grown (Wb.Ext.trans HG2.out (by (repeat' (first | (with_reducible assumption) | (with_reducible exact Wb.Ext.refl _) | (with_reducible refine Wb.Ext.drew ?_) | (with_reducible refine Wb.Ext.drewN ?_ _) | (with_reducible refine Wb.Ext.alloc ?_ _) | (with_reducible refine Wb.Ext.trans ?_ (by assumption)))))) hg3 (fun n hn => (HOW2.out.lt n hn).1))
            have HOW3 := Lib.hid hown3
            have HSZ := Lib.hid (HG3.out.size)
            obtain ⟨ra3, rc3, rfl⟩ := row_shape hown3
            clear hi hz0 hz1 hz2 hown3 hg3 hnil3
            go_wp2
            go_ret
            obtain ⟨u1, u2⟩ := Wb.up_put HU.out HLO.out HHI.out
            refine ⟨_, rfl, _, u1, u2, (by first | (simp; done) | (simp; omega)), ⟨w.heap.size, ?_⟩, HG3.out⟩
            have := HOW3.out
            rw [show (l.take k ++ [d] ++ l.drop k).length = 0 + k + 1 + (l.length - k) by first | (simp; done) | (simp; omega)]
            simpa [days] using this
      · obtain rfl : k = l.length := by omega
        have HHI := Lib.hid (show ∀ t x, l[t]? = some x → l.length ≤ t → d < x from fun t x ht hkt => by
          have := (List.getElem?_eq_some_iff.1 ht).1; omega)
        by_cases hck : cap = l.length
        · subst hck
          have HOW0 := Lib.hid (own_none (w := w) (base := w.heap.size) (e := 22) (s := 1))
          have HSZ := Lib.hid (Nat.le_refl w.heap.size)
          obtain ⟨hi, hz0, hz1, hz2⟩ := HIN.out
          go_wp2_with (at_builtin; go_loud (refine Wb.wpList_append_row rfl (.tmp 34) (.tmp 37) 25 rfl w.heap.size 22 i0 (.int .i64 0) 1 8 Try.underlying25 hi hz0 hz1 hz2 rfl (by decide) _ _ _ rfl (own_none) _ rfl l.length (days (l.take l.length)) ?c11 ?c21 ?c31 ?c41 ?c51 ?_))
          case c11 => exact src_days (l.take l.length) l.length (by first | (simp; done) | (simp; omega)) (fun j y hj => by rw [List.getElem?_take] at hj; split at hj; exact (Nat.zero_add j).symm ▸ HC.out j y hj; cases hj)
          case c21 => exact days_one _
          case c31 => unfold maxLen; omega
          case c41 => omega
          case c51 => first | omega | (have := HSZ.out; simp; omega) | (have := HSZ.out; simp only [World.alloc, Array.size_push]; omega)
          intro v1 w1 hown1 hg1 hnil1
          have HG1 := Lib.hid (show Wb.Ext w w1 from Wb.Ext.grown (Wb.Ext.trans (.refl _) (by (repeat' (first | (with_reducible assumption) | (with_reducible exact Wb.Ext.refl _) | (with_reducible refine Wb.Ext.drew ?_) | (with_reducible refine Wb.Ext.drewN ?_ _) | (with_reducible refine Wb.Ext.alloc ?_ _) | (with_reducible refine Wb.Ext.trans ?_ (by assumption)))))) hg1 (fun n hn => (HOW0.out.lt n hn).1))
          have HOW1 := Lib.hid hown1
          have HSZ := Lib.hid (HG1.out.size)
          obtain ⟨ra1, rc1, rfl⟩ := row_shape hown1
          clear hi hz0 hz1 hz2 hown1 hg1 hnil1
          obtain ⟨hi, hz0, hz1, hz2⟩ := HIN.out
          go_wp2_with (at_builtin; go_loud (refine Wb.wpList_append_row rfl (.tmp 39) (.tmp 41) 25 rfl w.heap.size 22 i0 (.int .i64 0) 1 8 Try.underlying25 hi hz0 hz1 hz2 rfl (by decide) _ _ _ rfl (HOW1.out.alloc _) _ rfl 1 (days [d]) ?c12 ?c22 ?c32 ?c42 ?c52 ?_))
          case c12 => exact src_lit w1 _ rfl [.int .i64 d] _ _
          case c22 => exact days_one _
          case c32 => unfold maxLen; omega
          case c42 => omega
          case c52 => first | omega | (have := HSZ.out; simp; omega) | (have := HSZ.out; simp only [World.alloc, Array.size_push]; omega)
          intro v2 w2 hown2 hg2 hnil2
          have HG2 := Lib.hid (show Wb.Ext w w2 from Wb.Ext.grown (Wb.Ext.trans HG1.out (by (repeat' (first | (with_reducible assumption) | (with_reducible exact Wb.Ext.refl _) | (with_reducible refine Wb.Ext.drew ?_) | (with_reducible refine Wb.Ext.drewN ?_ _) | (with_reducible refine Wb.Ext.alloc ?_ _) | (with_reducible refine Wb.Ext.trans ?_ (by assumption)))))) hg2 (fun n hn => (HOW1.out.lt n hn).1))
          have HOW2 := Lib.hid hown2
          have HSZ := Lib.hid (HG2.out.size)
          obtain ⟨ra2, rc2, rfl⟩ := row_shape hown2
          clear hi hz0 hz1 hz2 hown2 hg2 hnil2
          obtain ⟨hi, hz0, hz1, hz2⟩ := HIN.out
          go_wp2_with (at_builtin; go_loud (refine Wb.wpList_append_row rfl (.tmp 43) (.tmp 46) 25 rfl w.heap.size 22 i0 (.int .i64 0) 1 8 Try.underlying25 hi hz0 hz1 hz2 rfl (by decide) _ _ _ rfl (HOW2.out) _ rfl (l.length - l.length) (days (l.drop l.length)) ?c13 ?c23 ?c33 ?c43 ?c53 ?_))
          case c13 => exact by rw [Nat.sub_self]; exact ⟨by simp, .inr ⟨_, _, rfl, fun j u hj => by simp at hj⟩⟩
          case c23 => exact days_one _
          case c33 => unfold maxLen; omega
          case c43 => omega
          case c53 => first | omega | (have := HSZ.out; simp; omega) | (have := HSZ.out; simp only [World.alloc, Array.size_push]; omega)
          intro v3 w3 hown3 hg3 hnil3
          have HG3 := Lib.hid (show Wb.Ext w w3 from Wb.Ext.grown (Wb.Ext.trans HG2.out (by (repeat' (first | (with_reducible assumption) | (with_reducible exact Wb.Ext.refl _) | (with_reducible refine Wb.Ext.drew ?_) | (with_reducible refine Wb.Ext.drewN ?_ _) | (with_reducible refine Wb.Ext.alloc ?_ _) | (with_reducible refine Wb.Ext.trans ?_ (by assumption)))))) hg3 (fun n hn => (HOW2.out.lt n hn).1))
          have HOW3 := Lib.hid hown3
          have HSZ := Lib.hid (HG3.out.size)
          obtain ⟨ra3, rc3, rfl⟩ := row_shape hown3
          clear hi hz0 hz1 hz2 hown3 hg3 hnil3
          go_wp2
          go_ret
          obtain ⟨u1, u2⟩ := Wb.up_put HU.out HLO.out HHI.out
          refine ⟨_, rfl, _, u1, u2, (by first | (simp; done) | (simp; omega)), ⟨w.heap.size, ?_⟩, HG3.out⟩
          have := HOW3.out
          rw [show (l.take l.length ++ [d] ++ l.drop l.length).length = 0 + l.length + 1 + (l.length - l.length) by first | (simp; done) | (simp; omega)]
          simpa [days] using this
        · have hck : (cap = l.length) = False := by simpa using hck
          have HOW0 := Lib.hid (own_none (w := w) (base := w.heap.size) (e := 22) (s := 1))
          have HSZ := Lib.hid (Nat.le_refl w.heap.size)
          obtain ⟨hi, hz0, hz1, hz2⟩ := HIN.out
          go_wp2_with (at_builtin; go_loud (refine Wb.wpList_append_row rfl (.tmp 34) (.tmp 37) 25 rfl w.heap.size 22 i0 (.int .i64 0) 1 8 Try.underlying25 hi hz0 hz1 hz2 rfl (by decide) _ _ _ rfl (own_none) _ rfl l.length (days (l.take l.length)) ?c11 ?c21 ?c31 ?c41 ?c51 ?_))
          case c11 => exact src_days (l.take l.length) cap (by first | (simp; done) | (simp; omega)) (fun j y hj => by rw [List.getElem?_take] at hj; split at hj; exact (Nat.zero_add j).symm ▸ HC.out j y hj; cases hj)
          case c21 => exact days_one _
          case c31 => unfold maxLen; omega
          case c41 => omega
          case c51 => first | omega | (have := HSZ.out; simp; omega) | (have := HSZ.out; simp only [World.alloc, Array.size_push]; omega)
          intro v1 w1 hown1 hg1 hnil1
          have HG1 := Lib.hid (show Wb.Ext w w1 from Wb.Ext.grown (Wb.Ext.trans (.refl _) (by (repeat' (first | (with_reducible assumption) | (with_reducible exact Wb.Ext.refl _) | (with_reducible refine Wb.Ext.drew ?_) | (with_reducible refine Wb.Ext.drewN ?_ _) | (with_reducible refine Wb.Ext.alloc ?_ _) | (with_reducible refine Wb.Ext.trans ?_ (by assumption)))))) hg1 (fun n hn => (HOW0.out.lt n hn).1))
          have HOW1 := Lib.hid hown1
          have HSZ := Lib.hid (HG1.out.size)
          obtain ⟨ra1, rc1, rfl⟩ := row_shape hown1
          clear hi hz0 hz1 hz2 hown1 hg1 hnil1
          obtain ⟨hi, hz0, hz1, hz2⟩ := HIN.out
          go_wp2_with (at_builtin; go_loud (refine Wb.wpList_append_row rfl (.tmp 39) (.tmp 41) 25 rfl w.heap.size 22 i0 (.int .i64 0) 1 8 Try.underlying25 hi hz0 hz1 hz2 rfl (by decide) _ _ _ rfl (HOW1.out.alloc _) _ rfl 1 (days [d]) ?c12 ?c22 ?c32 ?c42 ?c52 ?_))
          case c12 => exact src_lit w1 _ rfl [.int .i64 d] _ _
          case c22 => exact days_one _
          case c32 => unfold maxLen; omega
          case c42 => omega
          case c52 => first | omega | (have := HSZ.out; simp; omega) | (have := HSZ.out; simp only [World.alloc, Array.size_push]; omega)
          intro v2 w2 hown2 hg2 hnil2
          have HG2 := Lib.hid (show Wb.Ext w w2 from Wb.Ext.grown (Wb.Ext.trans HG1.out (by (repeat' (first | (with_reducible assumption) | (with_reducible exact Wb.Ext.refl _) | (with_reducible refine Wb.Ext.drew ?_) | (with_reducible refine Wb.Ext.drewN ?_ _) | (with_reducible refine Wb.Ext.alloc ?_ _) | (with_reducible refine Wb.Ext.trans ?_ (by assumption)))))) hg2 (fun n hn => (HOW1.out.lt n hn).1))
          have HOW2 := Lib.hid hown2
          have HSZ := Lib.hid (HG2.out.size)
          obtain ⟨ra2, rc2, rfl⟩ := row_shape hown2
          clear hi hz0 hz1 hz2 hown2 hg2 hnil2
          obtain ⟨hi, hz0, hz1, hz2⟩ := HIN.out
          go_wp2_with (at_builtin; go_loud (refine Wb.wpList_append_row rfl (.tmp 43) (.tmp 46) 25 rfl w.heap.size 22 i0 (.int .i64 0) 1 8 Try.underlying25 hi hz0 hz1 hz2 rfl (by decide) _ _ _ rfl (HOW2.out) _ rfl (l.length - l.length) (days (l.drop l.length)) ?c13 ?c23 ?c33 ?c43 ?c53 ?_))
          case c13 => exact by rw [Nat.sub_self]; exact ⟨by simp, .inr ⟨_, _, rfl, fun j u hj => by simp at hj⟩⟩
          case c23 => exact days_one _
          case c33 => unfold maxLen; omega
          case c43 => omega
          case c53 => first | omega | (have := HSZ.out; simp; omega) | (have := HSZ.out; simp only [World.alloc, Array.size_push]; omega)
          intro v3 w3 hown3 hg3 hnil3
          have HG3 := Lib.hid (show Wb.Ext w w3 from Wb.Ext.grown (Wb.Ext.trans HG2.out (by (repeat' (first | (with_reducible assumption) | (with_reducible exact Wb.Ext.refl _) | (with_reducible refine Wb.Ext.drew ?_) | (with_reducible refine Wb.Ext.drewN ?_ _) | (with_reducible refine Wb.Ext.alloc ?_ _) | (with_reducible refine Wb.Ext.trans ?_ (by assumption)))))) hg3 (fun n hn => (HOW2.out.lt n hn).1))
          have HOW3 := Lib.hid hown3
          have HSZ := Lib.hid (HG3.out.size)
          obtain ⟨ra3, rc3, rfl⟩ := row_shape hown3
          clear hi hz0 hz1 hz2 hown3 hg3 hnil3
          go_wp2
          go_ret
          obtain ⟨u1, u2⟩ := Wb.up_put HU.out HLO.out HHI.out
          refine ⟨_, rfl, _, u1, u2, (by first | (simp; done) | (simp; omega)), ⟨w.heap.size, ?_⟩, HG3.out⟩
          have := HOW3.out
          rw [show (l.take l.length ++ [d] ++ l.drop l.length).length = 0 + l.length + 1 + (l.length - l.length) by first | (simp; done) | (simp; omega)]
          simpa [days] using this

end Go.Proofs.Ytdckghdmopafpaa
