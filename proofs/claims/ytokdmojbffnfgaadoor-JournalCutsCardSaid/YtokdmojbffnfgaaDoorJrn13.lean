/- The reference's end, Read. -/
import Derived.Test.YtokdmojbffnfgaaDoorJrn12
import Derived.Test.YtokdmojbffnfgaaDoorPlain38c
namespace Go.Proofs.YtokdmojbffnfgaaDoor
open Go.RowKit
set_option maxRecDepth 8000

set_option maxRecDepth 100000 in
theorem rend_no (t : List UInt8) (h : (10 : UInt8) ∉ t) (hl : t.length ≤ 4611686018427387904) (w : World) :
    Calls Tryd.prog 35 #[.string (Wb.S t)] w fun e w' => e = .returned (.int .i64 0) ∧ w = w' := by
  have HN := Lib.hid h
  clear h
  go_enter Tryd.func35, Tryd.ntmps35
  go_wp2_with fail
  go_loop [3] (fun iv => ∃ k : Nat, k ≤ t.length ∧ iv = .int .i64 k) (fun iv => t.length - (intOf iv).toNat)
  case atStart => exact ⟨0, by omega, rfl⟩
  case round =>
    obtain ⟨k, hk, rfl⟩ := hrel
    by_cases hlt : k < t.length
    · have hne : Wb.byteAt t k ≠ 10 := fun e => HN.out (e ▸ Wb.byteAt_mem hlt)
      have hb : (((Wb.byteAt t k).toNat : Int) == 10) = false := by
        rw [Bool.eq_false_iff]; intro e
        have := beq_iff_eq.1 e
        exact hne (UInt8.toNat_inj.1 (by show _ = 10; omega))
      have hb2 : ((Wb.byteAt t k).toNat == 10) = false := by simp at hb; simp; omega
      clear hne
      go_wp2
      go_round
      case rel => exact ⟨k + 1, by omega, by go_num⟩
      case measure => simp [intOf]; omega
    · go_wp2
      go_ret
      exact ⟨rfl, rfl⟩
set_option maxRecDepth 100000 in
theorem rend_yes (ln u : List UInt8) (h : (10 : UInt8) ∉ ln) (hl : (ln ++ 10 :: u).length ≤ 4611686018427387904) (w : World) :
    Calls Tryd.prog 35 #[.string (Wb.S (ln ++ 10 :: u))] w fun e w' => e = .returned (.int .i64 ((ln.length : Int) + 1)) ∧ w = w' := by
  have HN := Lib.hid h
  obtain ⟨t, ht⟩ : ∃ t, ln ++ 10 :: u = t := ⟨_, rfl⟩
  have HT := Lib.hid ht
  have hlen : ln.length < t.length := by rw [← ht]; simp
  rw [ht] at hl ⊢
  clear h ht
  go_enter Tryd.func35, Tryd.ntmps35
  go_wp2_with fail
  go_loop [3] (fun iv => ∃ k : Nat, k ≤ ln.length ∧ iv = .int .i64 k) (fun iv => t.length - (intOf iv).toNat)
  case atStart => exact ⟨0, by omega, rfl⟩
  case round =>
    obtain ⟨k, hk, rfl⟩ := hrel
    have hlt2 : k < t.length := by omega
    by_cases hlt : k < ln.length
    · have hne : Wb.byteAt t k ≠ 10 := fun e => by
        rw [← HT.out, Wb.byteAt_left hlt] at e
        exact HN.out (e ▸ Wb.byteAt_mem hlt)
      have hb : (((Wb.byteAt t k).toNat : Int) == 10) = false := by
        rw [Bool.eq_false_iff]; intro e
        have := beq_iff_eq.1 e
        exact hne (UInt8.toNat_inj.1 (by show _ = 10; omega))
      have hb2 : ((Wb.byteAt t k).toNat == 10) = false := by simp at hb; simp; omega
      clear hne
      go_wp2
      go_round
      case rel => exact ⟨k + 1, by omega, by go_num⟩
      case measure => simp [intOf]; omega
    · obtain rfl : k = ln.length := by omega
      have hb : Wb.byteAt t ln.length = 10 := by rw [← HT.out, Wb.byteAt_right (Nat.le_refl _), Nat.sub_self, Wb.byteAt_cons0]
      have hb1 : (((Wb.byteAt t ln.length).toNat : Int) == 10) = true := by rw [hb]; rfl
      have hb2 : ((Wb.byteAt t ln.length).toNat == 10) = true := by rw [hb]; rfl
      clear hb
      go_wp2
      go_ret
      exact ⟨rfl, rfl⟩

/-- where the reference's reading stands -/
def RR (w wr : World) (s : List UInt8) (lv : Value) (A : List (List UInt8)) (M i : Nat) (t : List UInt8) : Prop :=
  Wb.okK 0 A ∧ s = Wb.textL A ++ t ∧ i = (Wb.textL A).length ∧ Wb.marksL Wb.mfirst A = M ∧ wr.ownsRow w.heap.size 9 1 lv A.length (rowsOf strc A) ∧ Wb.Ext w wr
/-- what a reading comes to -/
def ReadTo (w w' : World) (s : List UInt8) (e : Ending) : Prop :=
  ∃ (u : Value) (A : List (List UInt8)) (i : Nat), e = .returned (.tuple #[u, .int .i64 (i : Int)]) ∧ i = (Wb.textL A).length ∧ Strs1 w' u A ∧ Wb.IsRead s A ∧ Wb.Ext w w'
/-- the blanks so far -/
def BL (L : List UInt8) (j b : Nat) : Prop := (L.take j).count 32 = b ∧ (b = 3 → 0 < j ∧ L[j - 1]? = some 32)
def BI (L : List UInt8) (bv iv : Value) : Prop := ∃ j b : Nat, j ≤ L.length ∧ b ≤ 3 ∧ bv = .int .i64 (b : Int) ∧ iv = .int .i64 (j : Int) ∧ BL L j b
theorem BL.hit {L : List UInt8} {j b : Nat} (h : BL L j b) (hj : j < L.length) (hb : Wb.byteAt L j = 32) : BL L (j + 1) (b + 1) := by
  refine ⟨?_, fun _ => ⟨by omega, ?_⟩⟩
  · rw [Wb.take_byte hj, List.count_append, h.1, hb]; rfl
  · rw [Nat.add_sub_cancel, ← hb, Wb.byteAt_eq hj, List.getElem?_eq_getElem hj]
theorem BL.miss {L : List UInt8} {j b : Nat} (h : BL L j b) (hj : j < L.length) (hb : Wb.byteAt L j ≠ 32) (h3 : b < 3) : BL L (j + 1) b := by
  refine ⟨?_, fun e => by omega⟩
  rw [Wb.take_byte hj, List.count_append, h.1, List.count_eq_zero.2 (by simpa using fun e => hb e.symm)]; rfl
/-- behind the third blank of a line -/
theorem BL.done {ln L : List UInt8} {j : Nat} (hL : ln ++ [10] = L) (h : BL L j 3) (hj : j ≤ L.length) : j < L.length ∧ ∃ r, (L.drop j).take (L.length - 1 - j) = r ∧ Wb.cut3 ln = some r := by
  obtain ⟨h0, h1⟩ := h.2 rfl
  have hlen : L.length = ln.length + 1 := by rw [← hL]; simp
  have hlt : j ≤ ln.length := by
    rcases Nat.lt_or_ge (j - 1) ln.length with k | k
    · omega
    · have : j - 1 = ln.length := by omega
      rw [this, ← hL, List.getElem?_append_right (Nat.le_refl _), Nat.sub_self] at h1
      simp at h1
  have hc := Wb.cut3_count h0 hj h.1 h1
  rw [← hL] at hc
  obtain ⟨r, hr, hcr⟩ := Wb.cut3_end hc
  refine ⟨by omega, r, ?_, hcr⟩
  rw [← hL, hr]
  have := congrArg List.length hr
  simp at this
  rw [List.length_append, List.length_singleton, show ln.length + 1 - 1 - j = r.length by omega, List.take_left]
theorem BL.few {ln L : List UInt8} {b : Nat} (hL : ln ++ [10] = L) (h : BL L L.length b) (hb : b < 3) : Wb.cut3 ln = none := by
  refine Wb.cut3_few ?_
  have := h.1
  rw [List.take_length, ← hL, List.count_append] at this
  omega

set_option maxHeartbeats 8000000 in
theorem rread_any (s : List UInt8) (w : World) (hs : s.length ≤ 1000000) :
    Calls Tryd.prog 21 #[.string (Wb.S s)] w fun e w' => ReadTo w w' s e := by
  obtain ⟨i0, hi, hz0, hz1, hz2⟩ := info_parts infoStr
  have HIN := Lib.hid (show Tryd.prog.info? 9 = some i0 ∧ i0.zero = some (.string "".toUTF8) ∧ i0.size = 1 ∧ i0.bytes = 16 from ⟨hi, hz0, hz1, hz2⟩)
  clear hi hz0 hz1 hz2
  go_enter Tryd.func21, Tryd.ntmps21
  go_wp2_with fail
  go_fit (first_ref _); rintro e w' ⟨rfl, rfl⟩
  go_wp2_with fail
  go_loopw [4, 5, 6] (fun lv mv iv wr => ∃ (A : List (List UInt8)) (M i : Nat) (t : List UInt8), i ≤ s.length ∧ iv = .int .i64 (i : Int) ∧ mv = .int .u64 (M : Int) ∧ RR w wr s lv A M i t) (fun _ _ iv _ => s.length + 1 - (intOf iv).toNat)
  case atStart => exact ⟨[], 14695981039346656037, 0, s, by omega, rfl, rfl, trivial, by simp [Wb.textK_nil], by simp [Wb.textK_nil], rfl, World.ownsRow_nil _ _ _ _, by (repeat' (first | (with_reducible assumption) | (with_reducible exact Wb.Ext.refl _) | (with_reducible refine Wb.Ext.drew ?_) | (with_reducible refine Wb.Ext.drewN ?_ _) | (with_reducible refine Wb.Ext.alloc ?_ _) | (with_reducible refine Wb.Ext.trans ?_ (by assumption))))⟩
  case round =>
    obtain ⟨A, M, i, t, hil, rfl, rfl, hok, hst, hie, hM, hown, hext⟩ := hrel
    obtain ⟨aa, ac, rfl⟩ := row_shape hown
    have HOK := Lib.hid hok
    have HST := Lib.hid hst
    have HIE := Lib.hid hie
    have HM := Lib.hid hM
    have HOWN := Lib.hid hown
    have HML := Lib.hid (show M < Wb.MM by rw [← hM]; exact Wb.marksL_lt Wb.mfirst_lt _)
    have hAn := Wb.okK_le hok
    have hdt : (s.drop i).take (s.length - i) = t := by
      have : s.drop i = t := by rw [hst, hie, List.drop_left]
      rw [this]
      have : s.length - i = t.length := by rw [hst, hie, List.length_append]; omega
      rw [this, List.take_length]
    have htl : t.length + i = s.length := by rw [hst, hie, List.length_append]; omega
    clear hok hst hie hM hown
    have hi1 : (i : Int) ≤ s.length := by omega
    rcases Wb.first_of 10 t with h10 | ⟨ln, u, rfl, h10⟩
    · have HNX := Lib.hid (Wb.NoNext.none (A := A) h10)
      have H10 := Lib.hid h10
      clear h10
      go_wp2_with fail
      go_fit (rend_no t H10.out (by omega) _); rintro e w' ⟨rfl, rfl⟩
      go_wp2
      go_ret2
      exact ⟨_, A, i, rfl, HIE.out, row_tbl strc_len (by decide) HOWN.out, ⟨HOK.out, t, HST.out, HNX.out⟩, by (repeat' (first | (with_reducible assumption) | (with_reducible exact Wb.Ext.refl _) | (with_reducible refine Wb.Ext.drew ?_) | (with_reducible refine Wb.Ext.drewN ?_ _) | (with_reducible refine Wb.Ext.alloc ?_ _) | (with_reducible refine Wb.Ext.trans ?_ (by assumption))))⟩
    · have H10 := Lib.hid h10
      obtain ⟨L, hL⟩ : ∃ L, ln ++ [10] = L := ⟨_, rfl⟩
      have hLn : L.length = ln.length + 1 := by rw [← hL]; simp
      have hsl : (s.drop i).take (i + (ln.length + 1) - i) = L := by
        have h1 : s.drop i = L ++ u := by
          rw [HST.out, HIE.out, List.drop_left, ← hL]; simp
        rw [h1, show i + (ln.length + 1) - i = L.length by omega, List.take_left]
      have hsl2 : (s.drop i).take (ln.length + 1) = L := by
        rw [show ln.length + 1 = i + (ln.length + 1) - i by omega]; exact hsl
      have hlu : i + (ln.length + 1) + u.length = s.length := by rw [← htl]; simp; omega
      have HL := Lib.hid hL
      have HLN := Lib.hid hLn
      have hLi : (L.length : Int) ≤ s.length := by omega
      have hLn1 : ln.length + 1 ≤ L.length := by omega
      have hLn2 : L.length ≤ ln.length + 1 := by omega
      clear h10 htl hL hLn
      go_wp2_with fail
      go_fit (rend_yes ln u H10.out (by simp; omega) _); rintro e w' ⟨rfl, rfl⟩
      go_wp2_with fail
      go_loop [9, 10] (fun bv iv => BI L bv iv) (fun _ iv => L.length - (intOf iv).toNat)
      case atStart => exact ⟨0, 0, by omega, by omega, rfl, rfl, by simp [BL]⟩
      case round =>
        obtain ⟨j, b, hj, hb3, rfl, rfl, hbl⟩ := hrel
        have HBL := Lib.hid hbl
        clear hbl
        by_cases hb : b < 3
        · have dB : decide ((b : Int) < 3) = true := by simp; omega
          have dB' : decide (b < 3) = true := by simp; omega
          by_cases hjl : j < L.length
          · by_cases h32 : Wb.byteAt L j = 32
            · have HN := Lib.hid (HBL.out.hit hjl h32)
              have e1 : (((Wb.byteAt L j).toNat : Int) == 32) = true := by rw [h32]; rfl
              have e2 : ((Wb.byteAt L j).toNat == 32) = true := by rw [h32]; rfl
              clear h32
              go_wp2
              go_round
              case rel => exact ⟨j + 1, b + 1, by omega, by omega, by go_num, by go_num, HN.out⟩
              case measure => simp [intOf]; omega
            · have HN := Lib.hid (HBL.out.miss hjl h32 hb)
              have e1 : (((Wb.byteAt L j).toNat : Int) == 32) = false := by
                rw [Bool.eq_false_iff]; intro e
                have := beq_iff_eq.1 e
                exact h32 (UInt8.toNat_inj.1 (by show _ = 32; omega))
              have e2 : ((Wb.byteAt L j).toNat == 32) = false := by simp at e1; simp; omega
              clear h32
              go_wp2
              go_round
              case rel => exact ⟨j + 1, b, by omega, by omega, rfl, by go_num, HN.out⟩
              case measure => simp [intOf]; omega
          · obtain rfl : j = L.length := by omega
            have HC := Lib.hid (HBL.out.few HL.out hb)
            have HNX := Lib.hid (show Wb.NoNext A (ln ++ 10 :: u) from Wb.NoNext.line H10.out fun a _ e => by
              have := HC.out; rw [e, Wb.cut3_line] at this; cases this)
            go_wp2
            go_ret2
            exact ⟨_, A, i, rfl, HIE.out, row_tbl strc_len (by decide) HOWN.out, ⟨HOK.out, _, HST.out, HNX.out⟩, by (repeat' (first | (with_reducible assumption) | (with_reducible exact Wb.Ext.refl _) | (with_reducible refine Wb.Ext.drew ?_) | (with_reducible refine Wb.Ext.drewN ?_ _) | (with_reducible refine Wb.Ext.alloc ?_ _) | (with_reducible refine Wb.Ext.trans ?_ (by assumption))))⟩
        · obtain rfl : b = 3 := by omega
          obtain ⟨hjl, r, hr, hcr⟩ := HBL.out.done HL.out hj
          have HC := Lib.hid hcr
          have hrl : r.length ≤ L.length := by rw [← hr]; simp; omega
          have hji : (j : Int) < L.length := by omega
          have hjn : decide (L.length ≤ j) = false := by simp; omega
          have hjn2 : decide ((L.length : Int) ≤ j) = false := by simp; omega
          obtain ⟨q, hq⟩ : ∃ q, wrongOf A.length r = q := ⟨_, rfl⟩
          have HQ := Lib.hid hq
          clear hcr
          go_wp2_with fail
          go_fit (rwrong_any A.length r _ (by omega)); rintro e w' ⟨rfl, rfl⟩
          rw [HQ.out]
          by_cases hq0 : q = 0
          · subst hq0
            have HOA := Lib.hid (wrong_ok.1 hq)
            have hr4 : r.length ≤ 4096 := HOA.out.2.1
            obtain ⟨X, hX⟩ : ∃ X, Wb.lineN (A.length + 1) M r ++ [10] = X := ⟨_, rfl⟩
            have HX := Lib.hid hX
            clear hq hX
            go_wp2_with fail
            go_fit (rline_any A.length M r (by omega) (by omega) HML.out _); rintro e w2 ⟨rfl, hb2⟩
            rw [HX.out]
            have hx2 := hext.trans hb2
            have HO2 := Lib.hid (Wb.row_ext HOWN.out hb2)
            clear hb2
            cases hxl : (X == L)
            · have HNX := Lib.hid (show Wb.NoNext A (ln ++ 10 :: u) from Wb.NoNext.line H10.out fun a _ e => by
                have h1 := HC.out
                rw [e, Wb.cut3_line] at h1
                cases h1
                rw [HM.out] at e
                have : X = L := by rw [← HX.out, ← HL.out, e]
                simp [this] at hxl)
              go_wp2
              go_ret2
              exact ⟨_, A, i, rfl, HIE.out, row_tbl strc_len (by decide) HO2.out, ⟨HOK.out, _, HST.out, HNX.out⟩, hx2⟩
            · have hXL : L = X := by have : X = L := by simpa using hxl
                                     exact this.symm
              subst hXL
              obtain ⟨A2, hA2⟩ : ∃ A2, A ++ [r] = A2 := ⟨_, rfl⟩
              obtain ⟨M2, hM2⟩ : ∃ M2, Wb.mmark M r = M2 := ⟨_, rfl⟩
              have HA2 := Lib.hid hA2
              have HM2 := Lib.hid hM2
              have HM22 := Lib.hid (show Wb.marksL Wb.mfirst A2 = M2 by rw [← hA2, Wb.marksL_snoc, HM.out, hM2])
              have HTX := Lib.hid (show Wb.textL A2 = Wb.textL A ++ L by rw [← hA2, Wb.textL_snoc, HM.out, HX.out])
              clear hA2 hM2 hxl
              obtain ⟨hi, hz0, hz1', hz2⟩ := HIN.out
              go_wp2_with (at_builtin; go_loud (refine Wb.wpList_append_row rfl (.tmp 76) (.tmp 78) 22 rfl w.heap.size 9 i0 (.string "".toUTF8) 1 16 Tryd.underlying22 hi hz0 hz1' hz2 rfl (by decide) _ _ _ rfl (HO2.out.alloc _) (.slice (some ⟨w2.heap.size, 0, none⟩) 1 1) rfl 1 [.string (Wb.S r)] ?c1 ?c2 ?c3 ?c4 ?c5 ?_))
              case c1 => exact src_lit w2 _ rfl [.string (Wb.S r)] _ _
              case c2 => intro u hu; simp at hu; subst hu; rfl
              case c3 => unfold maxLen; omega
              case c4 => omega
              case c5 => have := hx2.size; simp; omega
              intro u2 w6 hown2 hg2 hnil2
              clear hi hz0 hz1' hz2 hnil2
              have he6 : Wb.Ext w w6 := Wb.Ext.grown (w' := w2.alloc (.cells #[.string (Wb.S r)] 9)) (hx2.alloc _) hg2 (fun k hk => (HO2.out.lt k hk).1)
              have HO6 := Lib.hid (show w6.ownsRow w.heap.size 9 1 u2 A2.length (rowsOf strc A2) by
                rw [← HA2.out, List.length_append, List.length_singleton, rowsOf_app, rowsOf_one]; exact hown2)
              clear hown2 hg2
              go_wp2_with fail
              go_fit (rmark_any M r HML.out (by omega) _); rintro e w' ⟨rfl, rfl⟩
              rw [HM2.out]
              go_wp2
              go_roundw
              case rel =>
                refine ⟨A2, M2, i + (ln.length + 1), u, by omega, by go_num, rfl, ?_, ?_, ?_, HM22.out, HO6.out, he6⟩
                · rw [← HA2.out]; exact Wb.okK_snoc HOK.out HOA.out
                · rw [HTX.out, HST.out, ← HL.out]; simp
                · rw [HTX.out, List.length_append, ← HIE.out, HLN.out]
              case measure => simp [intOf]; omega
          · have HNX := Lib.hid (show Wb.NoNext A (ln ++ 10 :: u) from Wb.NoNext.line H10.out fun a ha e => by
              have h1 := HC.out
              rw [e, Wb.cut3_line] at h1
              cases h1
              exact hq0 (hq.symm.trans (wrong_ok.2 ha)))
            have e0 : (q == 0) = false := by simpa using hq0
            have e1 : (q != 0) = true := by simpa using hq0
            clear hq hq0
            go_wp2
            go_ret2
            exact ⟨_, A, i, rfl, HIE.out, row_tbl strc_len (by decide) HOWN.out, ⟨HOK.out, _, HST.out, HNX.out⟩, by (repeat' (first | (with_reducible assumption) | (with_reducible exact Wb.Ext.refl _) | (with_reducible refine Wb.Ext.drew ?_) | (with_reducible refine Wb.Ext.drewN ?_ _) | (with_reducible refine Wb.Ext.alloc ?_ _) | (with_reducible refine Wb.Ext.trans ?_ (by assumption))))⟩

end Go.Proofs.YtokdmojbffnfgaaDoor
