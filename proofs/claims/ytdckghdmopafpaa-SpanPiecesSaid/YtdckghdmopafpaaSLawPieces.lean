/- The walk of wagebooklaw05.SpanPieces. -/
import Derived.Test.YtdckghdmopafpaaRSpn9
namespace Go.Proofs.Ytdckghdmopafpaa
open Go.RowKit Go.Lib
set_option maxRecDepth 8000
attribute [local go_sem ↓] Go.wp_at_zero Go.wp_at_succ

set_option maxRecDepth 100000 in
set_option maxHeartbeats 16000000 in
theorem pieces_walk (W : World) (s : Wb.Sp) (hbs : Bd s) (vc : Value) (c : List Int) (hvc : DayL W vc c) (htc : DayT W vc c) :
    Calls Try.prog 3 #[SpV s, vc] W fun e w' => e = .returned (.bool true) ∧ Wb.Ext W w' := by
  obtain ⟨cA, cK, rfl⟩ := htc.shape
  obtain ⟨f, t⟩ := s
  have HVc := Lib.hid hvc
  have HTc := Lib.hid htc
  have HB := Lib.hid hbs
  clear hvc htc hbs
  by_cases hlc : 60 < c.length
  · have dc : decide ((60 : Int) < (c.length : Int)) = true := by simp; omega
    go_enter Try.func3, Try.ntmps3
    go_wp2_with fail
    go_fit (awake_any _); rintro e w0 ⟨rfl, hx0⟩
    go_wp2
    go_ret
    exact ⟨rfl, Wb.Ext.trans (by (repeat' (first | (with_reducible assumption) | (with_reducible exact Wb.Ext.refl _) | (with_reducible refine Wb.Ext.drew ?_) | (with_reducible refine Wb.Ext.drewN ?_ _) | (with_reducible refine Wb.Ext.alloc ?_ _) | (with_reducible refine Wb.Ext.trans ?_ (by assumption))))) hx0⟩
  have dc : decide ((60 : Int) < (c.length : Int)) = false := by simp; omega
  have hmc : c.length ≤ 60 := by omega
  by_cases hf : f < -1099511627776
  · go_enter Try.func3, Try.ntmps3
    go_wp2_with fail
    go_fit (awake_any _); rintro e w0 ⟨rfl, hx0⟩
    have z0 : w0.cell? ⟨W.heap.size, 0, none⟩ = some (.int .i64 f) := hx0.keep (by simp [go_sem])
    go_wp2
    go_ret
    exact ⟨rfl, Wb.Ext.trans (by (repeat' (first | (with_reducible assumption) | (with_reducible exact Wb.Ext.refl _) | (with_reducible refine Wb.Ext.drew ?_) | (with_reducible refine Wb.Ext.drewN ?_ _) | (with_reducible refine Wb.Ext.alloc ?_ _) | (with_reducible refine Wb.Ext.trans ?_ (by assumption))))) hx0⟩
  have df : decide (f < -1099511627776) = false := by simpa using hf
  by_cases ht : 1099511627776 < t
  · go_enter Try.func3, Try.ntmps3
    go_wp2_with fail
    go_fit (awake_any _); rintro e w0 ⟨rfl, hx0⟩
    have z0 : w0.cell? ⟨W.heap.size, 0, none⟩ = some (.int .i64 f) := hx0.keep (by simp [go_sem])
    have z1 : w0.cell? ⟨W.heap.size, 1, none⟩ = some (.int .i64 t) := hx0.keep (by simp [go_sem])
    go_wp2
    go_ret
    exact ⟨rfl, Wb.Ext.trans (by (repeat' (first | (with_reducible assumption) | (with_reducible exact Wb.Ext.refl _) | (with_reducible refine Wb.Ext.drew ?_) | (with_reducible refine Wb.Ext.drewN ?_ _) | (with_reducible refine Wb.Ext.alloc ?_ _) | (with_reducible refine Wb.Ext.trans ?_ (by assumption))))) hx0⟩
  have dt : decide (1099511627776 < t) = false := by simpa using ht
  have hf0 : -1099511627776 ≤ f := by omega
  have ht0 : t ≤ 1099511627776 := by omega
  go_enter Try.func3, Try.ntmps3
  go_wp2_with fail
  go_fit (awake_any _); rintro e w0 ⟨rfl, hx0⟩
  have z0 : w0.cell? ⟨W.heap.size, 0, none⟩ = some (.int .i64 f) := hx0.keep (by simp [go_sem])
  have z1 : w0.cell? ⟨W.heap.size, 1, none⟩ = some (.int .i64 t) := hx0.keep (by simp [go_sem])
  have HXw := Lib.hid (show Wb.Ext W w0 from Wb.Ext.trans (by (repeat' (first | (with_reducible assumption) | (with_reducible exact Wb.Ext.refl _) | (with_reducible refine Wb.Ext.drew ?_) | (with_reducible refine Wb.Ext.drewN ?_ _) | (with_reducible refine Wb.Ext.alloc ?_ _) | (with_reducible refine Wb.Ext.trans ?_ (by assumption))))) hx0)
  clear hx0
  go_wp2_with fail
  go_fit (ppieces_any (f, t) _ c _ (HVc.out.ext HXw.out) (by omega)); rintro e w1 ⟨v1, rfl, r, hr⟩
  obtain ⟨pA, pK, rfl⟩ := hr.row.1.shape
  have HR := Lib.hid hr
  have HX1 := Lib.hid (HXw.out.trans hr.ext)
  have z0 := hr.ext.keep z0
  have z1 := hr.ext.keep z1
  clear hr
  by_cases he : t ≤ f
  · have hrn := HR.out.none he
    subst hrn
    have d1 : decide (t ≤ f) = true := by simpa using he
    have HL := Lib.hid (show lenS (f, t) = 0 from if_pos he)
    clear he
    go_wp2_with fail
    go_fit (length_any (f, t) HB.out _); rintro e w2 ⟨rfl, hb2⟩
    rw [HL.out]
    go_wp2
    go_ret
    exact ⟨rfl, HX1.out.trans hb2⟩
  have d1 : decide (t ≤ f) = false := by simpa using he
  have hft : f < t := by omega
  obtain ⟨D, hrD, huD, hmD⟩ := HR.out.some hft
  subst hrD
  have hDl := pcs_len D t
  obtain ⟨m, hm⟩ : ∃ m, D.length = m + 1 := by
    have : D ≠ [] := by rintro rfl; have := (hmD f).2 (.inl rfl); cases this
    exact ⟨D.length - 1, by have := List.length_pos_iff.2 this; omega⟩
  have hml : m + 1 ≤ 61 := by have := HR.out.len; rw [hDl, hm] at this; omega
  have HPF := Lib.hid (fun (k : Nat) (y : Wb.Sp) (hy : (pcs D t)[k]? = some y) => piece_facts (s := (f, t)) hft huD hmD hy)
  have HD0 := Lib.hid (cut_up (s := (f, t)) hft huD hmD).2
  have HLs := Lib.hid (show lenS (f, t) = t - f by rw [lenS, if_neg (by simp only; omega)]; simp only; omega)
  have HSP := Lib.hid HR.out.row.1
  have HDl := Lib.hid hDl
  have HM := Lib.hid hm
  rw [show (pcs D t).length = m + 1 by omega] at HSP ⊢
  obtain ⟨bb, off, rfl, hcells⟩ := HSP.out.opened (by intro e; have := HDl.out; rw [e] at this; simp at this; omega)
  have HC := Lib.hid hcells
  clear hcells hDl hm huD hmD he
  obtain ⟨y0, hy0⟩ := Wb.get_ex (l := pcs D t) (k := 0) (by have := HDl.out; have := HM.out; omega)
  obtain ⟨yl, hyl⟩ := Wb.get_ex (l := pcs D t) (k := m) (by have := HDl.out; have := HM.out; omega)
  have c0 := HC.out 0 y0 hy0 0 _ rfl
  have cl := HC.out m yl hyl 1 _ rfl
  have hy01 : y0.1 = f := by
    have h1 := (HPF.out 0 y0 hy0).at1
    have h2 := HD0.out
    rw [List.getElem?_append_left (by have := HM.out; omega), h2] at h1
    exact (Option.some.inj h1).symm
  have hyl2 : yl.2 = t := by
    have h1 := (HPF.out m yl hyl).at2
    rw [List.getElem?_append_right (by have := HM.out; omega), HM.out, Nat.sub_self] at h1
    simp at h1; exact h1.symm
  rw [hy01] at c0
  rw [hyl2] at cl
  simp only [Nat.zero_mul, Nat.add_zero] at c0
  have g0 : -9223372036854775808 ≤ (m : Int) ∧ (m : Int) ≤ 9223372036854775807 := by omega
  have g1 : ((m + 1 : Nat) : Int) - 1 = m := by omega
  have g2 : IntKind.i64.wrap (((m + 1 : Nat) : Int) - 1) = m := by rw [g1]; exact IntWalk.i64_in _ g0
  have g3 : wrap64 (m : Int) = m := IntWalk.wrap64_in _ g0
  have g4 : (m : Int) + 1 - 1 = m := by omega
  have g5 : IntKind.i64.wrap ((m : Int) + 1 - 1) = m := by rw [g4]; exact IntWalk.i64_in _ g0
  have g6 : (((m : Int) + 1) == 0) = false := by simp; omega
  have g7 : ((((m + 1 : Nat) : Int)) == 0) = false := by simp; omega
  clear hy0 hyl hy01 hyl2 g0
  go_wp2_with fail
  go_quiet (fail)
  clear g1 g2 g3 g4 g5 g6 g7 c0 cl
  go_wp2_with fail
  refine Wb.wp_at fun W1 hW1 => ?_
  have HXA := Lib.hid (show Wb.Ext w1 W1 by rw [hW1]; (repeat' (first | (with_reducible assumption) | (with_reducible exact Wb.Ext.refl _) | (with_reducible refine Wb.Ext.drew ?_) | (with_reducible refine Wb.Ext.drewN ?_ _) | (with_reducible refine Wb.Ext.alloc ?_ _) | (with_reducible refine Wb.Ext.trans ?_ (by assumption)))))
  have z0 := HXA.out.keep z0
  have z1 := HXA.out.keep z1
  have HCC : Hid (∀ j x, (pcs D t)[j]? = some x → ∀ i u, (spc x)[i]? = some u → W1.cell? ⟨bb, off + j * 2 + i, none⟩ = some u) := Lib.hid (fun j x hj i u hu => HXA.out.keep (HC.out j x hj i u hu))
  have HTC := Lib.hid (HTc.out.ext (HX1.out.trans HXA.out))
  clear hW1
  go_loopw [6, 7] (fun sv iv wr => ∃ (k : Nat) (e : Int), k ≤ m + 1 ∧ iv = .int .i64 k ∧ sv = .int .i64 (e - f) ∧ Hid ((D ++ [t])[k]? = some e) ∧ Wb.Ext W1 wr) (fun _ iv _ => m + 1 - (intOf iv).toNat)
  case atStart => exact ⟨0, f, Nat.zero_le _, rfl, by simp, Lib.hid (by rw [List.getElem?_append_left (by have := HM.out; omega)]; exact HD0.out), .refl _⟩
  case round =>
    obtain ⟨k, ek, hk, rfl, rfl, HEK, hext⟩ := hrel
    by_cases hlt : k < m + 1
    · obtain ⟨y, hy⟩ := Wb.get_ex (l := pcs D t) (k := k) (by have := HDl.out; have := HM.out; omega)
      have HF := Lib.hid (HPF.out k y hy)
      obtain rfl : ek = y.1 := by have h1 := HF.out.at1; have h2 := HEK.out; simp only at h1; rw [h1] at h2; exact (Option.some.inj h2).symm
      have HCY := Lib.hid (fun (w : World) (h : Wb.Ext W1 w) => (And.intro (h.keep (HCC.out k y hy 0 _ rfl)) (h.keep (HCC.out k y hy 1 _ rfl))))
      have hki : (k : Int) < (m : Int) + 1 := by omega
      obtain ⟨b0, hb0⟩ : ∃ b, ((k : Int) == 0) = b := ⟨_, rfl⟩
      have HB0 := Lib.hid hb0
      have HEX := Lib.hid hext
      have HYY := Lib.hid hy
      clear hy hext
      go_wp2_with fail
      go_loopw [8, 9] (fun bv iv wq => ∃ j : Nat, j ≤ c.length ∧ iv = .int .i64 j ∧ bv = .bool (metL b0 (c.take j) y.1) ∧ Wb.Ext W1 wq) (fun _ iv _ => c.length - (intOf iv).toNat)
      case atStart => exact ⟨0, Nat.zero_le _, rfl, by simp [metL], HEX.out⟩
      case round =>
        clear hb0
        obtain ⟨j, hj, rfl, rfl, hext⟩ := hrel
        obtain ⟨y1, y2⟩ := HCY.out _ hext
        simp only [Nat.add_zero] at y1
        obtain ⟨p, hp⟩ : ∃ p, metL b0 (c.take j) y.1 = p := ⟨_, rfl⟩
        have HP := Lib.hid hp
        rw [hp]
        clear hp
        by_cases hjl : j < c.length
        · obtain ⟨d, hd⟩ := Wb.get_ex hjl
          obtain ⟨cb, co, rfl, hcc⟩ := (HTC.out.ext hext).opened (tne hjl)
          have x0 := hcc j d hd 0 _ rfl
          simp only [Nat.mul_one, Nat.add_zero] at x0
          have hji : (j : Int) < c.length := by omega
          obtain ⟨q, hq⟩ : ∃ q, (d == y.1) = q := ⟨_, rfl⟩
          have HN := Lib.hid (show metL b0 (c.take (j + 1)) y.1 = (p || q) by rw [met_take hd, HP.out, hq])
          have HG := Lib.hid (HF.out.gap d (List.mem_of_getElem? hd))
          have HXR := Lib.hid hext
          clear hcc hd
          by_cases h1 : y.1 < d
          · have h2 : decide (d < y.2) = false := by simpa using HG.out h1
            cases p
            · have HN2 := Lib.hid (show metL b0 (c.take (j + 1)) y.1 = q by rw [HN.out]; rfl)
              go_wp2_with fail
              go_quiet (fail)
              go_wp2_with fail
              go_quiet (fail)
              go_wp2
              go_roundw
              case rel => exact ⟨j + 1, by omega, by go_num, by rw [HN2.out], HXR.out.trans (by (repeat' (first | (with_reducible assumption) | (with_reducible exact Wb.Ext.refl _) | (with_reducible refine Wb.Ext.drew ?_) | (with_reducible refine Wb.Ext.drewN ?_ _) | (with_reducible refine Wb.Ext.alloc ?_ _) | (with_reducible refine Wb.Ext.trans ?_ (by assumption)))))⟩
              case measure => simp [intOf]; omega
            · have HN2 := Lib.hid (show metL b0 (c.take (j + 1)) y.1 = true by rw [HN.out]; rfl)
              go_wp2_with fail
              go_quiet (fail)
              go_wp2_with fail
              go_quiet (fail)
              go_wp2
              go_roundw
              case rel => exact ⟨j + 1, by omega, by go_num, by rw [HN2.out], HXR.out.trans (by (repeat' (first | (with_reducible assumption) | (with_reducible exact Wb.Ext.refl _) | (with_reducible refine Wb.Ext.drew ?_) | (with_reducible refine Wb.Ext.drewN ?_ _) | (with_reducible refine Wb.Ext.alloc ?_ _) | (with_reducible refine Wb.Ext.trans ?_ (by assumption)))))⟩
              case measure => simp [intOf]; omega
          · have h2 : decide (y.1 < d) = false := by simpa using h1
            cases p
            · have HN2 := Lib.hid (show metL b0 (c.take (j + 1)) y.1 = q by rw [HN.out]; rfl)
              go_wp2_with fail
              go_quiet (fail)
              go_wp2_with fail
              go_quiet (fail)
              go_wp2
              go_roundw
              case rel => exact ⟨j + 1, by omega, by go_num, by rw [HN2.out], HXR.out.trans (by (repeat' (first | (with_reducible assumption) | (with_reducible exact Wb.Ext.refl _) | (with_reducible refine Wb.Ext.drew ?_) | (with_reducible refine Wb.Ext.drewN ?_ _) | (with_reducible refine Wb.Ext.alloc ?_ _) | (with_reducible refine Wb.Ext.trans ?_ (by assumption)))))⟩
              case measure => simp [intOf]; omega
            · have HN2 := Lib.hid (show metL b0 (c.take (j + 1)) y.1 = true by rw [HN.out]; rfl)
              go_wp2_with fail
              go_quiet (fail)
              go_wp2_with fail
              go_quiet (fail)
              go_wp2
              go_roundw
              case rel => exact ⟨j + 1, by omega, by go_num, by rw [HN2.out], HXR.out.trans (by (repeat' (first | (with_reducible assumption) | (with_reducible exact Wb.Ext.refl _) | (with_reducible refine Wb.Ext.drew ?_) | (with_reducible refine Wb.Ext.drewN ?_ _) | (with_reducible refine Wb.Ext.alloc ?_ _) | (with_reducible refine Wb.Ext.trans ?_ (by assumption)))))⟩
              case measure => simp [intOf]; omega
        · obtain rfl : j = c.length := by omega
          obtain rfl : p = true := by
            rw [← HP.out, List.take_length, metL]
            rcases HF.out.cut with h | h
            · have hb : b0 = true := by rw [← HB0.out, h]; rfl
              rw [hb]; rfl
            · have : c.any (· == y.1) = true := List.any_eq_true.2 ⟨_, h, by simp⟩
              rw [this, Bool.or_true]
          have d5 : decide (y.2 ≤ y.1) = false := by have := HF.out.lt; simp; omega
          have HXR := Lib.hid hext
          have v1 : f ≤ y.1 := HF.out.lo
          have v2 : y.2 ≤ t := HF.out.hi
          have v3 : y.1 < y.2 := HF.out.lt
          have HBY : Hid (Bd y) := Lib.hid ⟨⟨by omega, by omega⟩, by omega, by omega⟩
          have HLY := Lib.hid (show lenS y = y.2 - y.1 by rw [lenS, if_neg (by omega)]; omega)
          have HE2 : Hid ((D ++ [t])[k + 1]? = some y.2) := Lib.hid HF.out.at2
          rcases Nat.eq_zero_or_pos k with h0 | h0
          · subst h0
            simp only [Nat.zero_mul, Nat.add_zero] at y1 y2
            clear hext
            go_wp2_with fail
            go_quiet (fail)
            go_wp2_with fail
            go_fit (length_any y HBY.out _); rintro e w5 ⟨rfl, hb5⟩
            rw [HLY.out]
            go_wp2
            go_roundw
            case rel => exact ⟨0 + 1, y.2, by omega, by go_num, by first | go_num | (congr 1; omega), HE2, HXR.out.trans (Wb.Ext.trans (by (repeat' (first | (with_reducible assumption) | (with_reducible exact Wb.Ext.refl _) | (with_reducible refine Wb.Ext.drew ?_) | (with_reducible refine Wb.Ext.drewN ?_ _) | (with_reducible refine Wb.Ext.alloc ?_ _) | (with_reducible refine Wb.Ext.trans ?_ (by assumption))))) hb5)⟩
            case measure => first | (simp [intOf]; done) | (simp [intOf]; omega)
          · obtain ⟨k, rfl⟩ : ∃ k', k = k' + 1 := ⟨k - 1, by omega⟩
            obtain ⟨x, hx⟩ := Wb.get_ex (l := pcs D t) (k := k) (by have := HDl.out; have := HM.out; omega)
            have hxy : x.2 = y.1 := by
              have h1 := (HPF.out k x hx).at2
              have h2 := HF.out.at1
              rw [h2] at h1; exact (Option.some.inj h1).symm
            have x1 := hext.keep (HCC.out k x hx 1 _ rfl)
            rw [hxy] at x1
            have e0 : -9223372036854775808 ≤ (k : Int) ∧ (k : Int) ≤ 9223372036854775807 := by omega
            have e1 : ((k + 1 : Nat) : Int) - 1 = k := by omega
            have e2 : IntKind.i64.wrap (((k + 1 : Nat) : Int) - 1) = k := by rw [e1]; exact IntWalk.i64_in _ e0
            have e3 : wrap64 (k : Int) = k := IntWalk.wrap64_in _ e0
            have d0 : decide ((0 : Int) < ((k + 1 : Nat) : Int)) = true := by rw [decide_eq_true_iff]; omega
            have d00 : decide ((0 : Int) < (k : Int) + 1) = true := by rw [decide_eq_true_iff]; omega
            have e4 : (k : Int) + 1 - 1 = k := by omega
            have e5 : IntKind.i64.wrap ((k : Int) + 1 - 1) = k := by rw [e4]; exact IntWalk.i64_in _ e0
            have hk0 : (k : Int) < (m : Int) + 1 := by omega
            have hk1 : (k : Int) + 1 < (m : Int) + 1 := by omega
            clear hext hx hxy e0
            go_wp2_with fail
            go_quiet (fail)
            clear e1 e2 e3 e4 e5
            go_wp2_with fail
            go_fit (length_any y HBY.out _); rintro e w5 ⟨rfl, hb5⟩
            rw [HLY.out]
            go_wp2
            go_roundw
            case rel => exact ⟨k + 1 + 1, y.2, by omega, by go_num, by first | go_num | (congr 1; omega), HE2, HXR.out.trans (Wb.Ext.trans (by (repeat' (first | (with_reducible assumption) | (with_reducible exact Wb.Ext.refl _) | (with_reducible refine Wb.Ext.drew ?_) | (with_reducible refine Wb.Ext.drewN ?_ _) | (with_reducible refine Wb.Ext.alloc ?_ _) | (with_reducible refine Wb.Ext.trans ?_ (by assumption))))) hb5)⟩
            case measure => simp [intOf]; omega
    · obtain rfl : k = m + 1 := by omega
      obtain rfl : ek = t := by
        have h2 := HEK.out
        rw [List.getElem?_append_right (by have := HM.out; omega), HM.out, Nat.sub_self] at h2
        simp at h2; exact h2.symm
      have z0 := hext.keep z0
      have z1 := hext.keep z1
      have HXR := Lib.hid hext
      clear hext
      go_wp2_with fail
      go_fit (length_any (f, ek) HB.out _); rintro e w5 ⟨rfl, hb5⟩
      rw [HLs.out]
      go_wp2
      go_ret
      exact ⟨rfl, HX1.out.trans (HXA.out.trans (HXR.out.trans (Wb.Ext.trans (by (repeat' (first | (with_reducible assumption) | (with_reducible exact Wb.Ext.refl _) | (with_reducible refine Wb.Ext.drew ?_) | (with_reducible refine Wb.Ext.drewN ?_ _) | (with_reducible refine Wb.Ext.alloc ?_ _) | (with_reducible refine Wb.Ext.trans ?_ (by assumption))))) hb5)))⟩

end Go.Proofs.Ytdckghdmopafpaa
