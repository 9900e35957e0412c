/- Chapter 38: JournalAppends: the walk. -/
import Derived.Test.YtokdmojbffnfgaaDoorJrn11
import Derived.Deep.Cut
namespace Go.Proofs.YtokdmojbffnfgaaDoor
open Go.RowKit
set_option maxRecDepth 8000

theorem Row38.set2 {w : World} {v : Value} {l : List (List UInt8)} {N n c : Nat} {ao : Option Addr} (h : Row38 w v l) (h0 : w.cell? ⟨N, 0, none⟩ = some (.slice ao n c)) (u0 u1 : Value) : Row38 ((w.setCell ⟨N, 0, none⟩ u0).setCell ⟨N, 1, none⟩ u1) v l := by
  rcases h with h | ⟨b, c', h1, h2, h3⟩
  · exact .inl h
  · refine .inr ⟨b, c', h1, h2, fun j s hj => ?_⟩
    have hb : ¬ N = b := by
      rintro rfl
      have hl : 0 < l.length := by have := (List.getElem?_eq_some_iff.1 hj).1; omega
      obtain ⟨s0, hs0⟩ := Wb.get_ex hl
      have := h3 0 s0 hs0
      rw [h0] at this; cases this
    have h4 := h3 j s hj
    simp [go_sem, hb, h4]
theorem Row38.far {w w' : World} {v : Value} {l : List (List UInt8)} (h : Row38 w v l) (k : ∀ b j x, v.ownBlock = some b → w.cell? ⟨b, j, none⟩ = some x → w'.cell? ⟨b, j, none⟩ = some x) : Row38 w' v l := by
  rcases h with h | ⟨b, c, h1, h2, h3⟩
  · exact .inl h
  · exact .inr ⟨b, c, h1, h2, fun j s hj => k b j _ (by rw [h1]; rfl) (h3 j s hj)⟩
/-- what holds at the head of a round -/
def JI (w1 wr : World) (av : Value) (A : List (List UInt8)) (M mm c : Nat) (ao : Option Addr) : Prop :=
  Wb.marksL Wb.mfirst A = M ∧ wr.ownsRow (w1.heap.size + 1) 9 1 av A.length (rowsOf strc A) ∧ wr.cell? ⟨w1.heap.size, 0, none⟩ = some (.slice ao A.length c) ∧ wr.cell? ⟨w1.heap.size, 1, none⟩ = some (.int .u64 (mm : Int)) ∧ (∀ j, wr.frozen? ⟨w1.heap.size, j, none⟩ = false) ∧ LogV wr (.agg #[.slice ao A.length c, .int .u64 (mm : Int)]) A ∧ (∀ s ∈ A, s.length ≤ 5000) ∧ Wb.Ext w1 wr

set_option maxHeartbeats 8000000 in
theorem appends_walk (v : Value) (l : List (List UInt8)) (w : World) (hv : Strs1 w v l) (hl : l.length ≤ 9223372036854775807) (hs : ∀ s ∈ l, s.length ≤ 9223372036854775807) (ht : Tab10 w) :
    Calls Tryd.prog 3 #[v] w fun e w' => e = .returned (.bool true) ∧ Wb.Ext w w' := by
  obtain ⟨i0, hi, hz0, hz1, hz2⟩ := info_parts infoStr
  have HIN := Lib.hid (show Tryd.prog.info? 9 = some i0 ∧ i0.zero = some (.string "".toUTF8) ∧ i0.size = 1 ∧ i0.bytes = 16 from ⟨hi, hz0, hz1, hz2⟩)
  clear hi hz0 hz1 hz2
  obtain ⟨va, vc, rfl⟩ := hv.shape
  have HV := Lib.hid hv
  have HT := Lib.hid ht
  have HS := Lib.hid hs
  clear hv ht hs
  go_enter Tryd.func3, Tryd.ntmps3
  go_wp2_with fail
  go_fit (awake38_any _ HT.out); rintro e w1 ⟨rfl, hb1⟩
  go_wp2_with fail
  go_fit (few_any _ l _ (HV.out.ext hb1) hl HS.out); rintro e w' ⟨rfl, rfl⟩
  cases hf : fewB l
  case false =>
    go_wp2
    go_ret
    exact ⟨rfl, hb1⟩
  case true =>
    obtain ⟨hf1, hf2⟩ := fewB_ok hf
    have HF1 := Lib.hid hf1
    have HF := Lib.hid hf
    clear hf hf1 hl
    go_wp2_with fail
    go_fit (first_ref _); rintro e w' ⟨rfl, rfl⟩
    go_wp2_with fail
    go_loopw [4, 5, 20] (fun av mv iv wr => ∃ (k M mm c : Nat) (A : List (List UInt8)) (ao : Option Addr), k ≤ l.length ∧ A.length ≤ k ∧ iv = .int .i64 k ∧ mv = .int .u64 (M : Int) ∧ JI w1 wr av A M mm c ao) (fun _ _ iv _ => l.length - (intOf iv).toNat)
    case atStart => exact ⟨0, 14695981039346656037, 0, 0, [], none, by omega, by simp, rfl, rfl, rfl, World.ownsRow_nil _ _ _ _, by simp [go_sem], by simp [go_sem], fun j => by simp [go_sem], LogV.zero, by simp, by (repeat' (first | (with_reducible assumption) | (with_reducible exact Wb.Ext.refl _) | (with_reducible refine Wb.Ext.drew ?_) | (with_reducible refine Wb.Ext.drewN ?_ _) | (with_reducible refine Wb.Ext.alloc ?_ _) | (with_reducible refine Wb.Ext.trans ?_ (by assumption))))⟩
    case round =>
      obtain ⟨k, M, mm, c, A, ao, hk, hAk, rfl, rfl, hJ⟩ := hrel
      obtain ⟨hM, hown, q0, q1, qf, hlog, hA5, hx⟩ := hJ
      obtain ⟨aa, ac, rfl⟩ := row_shape hown
      have HM := Lib.hid hM
      have HML := Lib.hid (show M < Wb.MM by rw [← hM]; exact Wb.marksL_lt Wb.mfirst_lt _)
      have HOWN := Lib.hid hown
      have HL := Lib.hid hlog
      have HMA := Lib.hid (show A ≠ [] → mm = Wb.marksL Wb.mfirst A by
        obtain ⟨u, m, he, hr, hm⟩ := hlog
        cases he; exact hm)
      have HRW := Lib.hid (show Row38 wr (.slice ao A.length c) A by
        obtain ⟨u, m, he, hr, hm⟩ := hlog
        cases he; exact hr)
      have HA5 := Lib.hid hA5
      have HX := Lib.hid hx
      have hz := Wb.cell_size q0
      clear hM hown hlog hA5 hx
      by_cases hlt : k < l.length
      · obtain ⟨s, hs⟩ := Wb.get_ex hlt
        have hsl := HF1.out s (List.mem_of_getElem? hs)
        obtain ⟨b, off, rfl, hcells⟩ := ((HV.out.ext hb1).ext HX.out).opened (tne hlt)
        have hc0 := hcells k s hs 0 _ rfl
        simp only [Nat.mul_one, Nat.add_zero] at hc0
        have hki : (k : Int) < l.length := by omega
        clear hcells hs
        by_cases hok : wrongOf A.length s = 0
        · obtain ⟨A2, hA2⟩ : ∃ A2, A ++ [s] = A2 := ⟨_, rfl⟩
          have hA2l : A2.length = A.length + 1 := by rw [← hA2]; simp
          obtain ⟨M2, hM2⟩ : ∃ M2, Wb.mmark M s = M2 := ⟨_, rfl⟩
          have HM22 := Lib.hid (show Wb.marksL Wb.mfirst A2 = M2 by rw [← hA2, Wb.marksL_snoc, HM.out, hM2])
          have HA52 := Lib.hid (show ∀ x ∈ A2, x.length ≤ 5000 by
            intro x hx
            rw [← hA2] at hx
            rcases List.mem_append.1 hx with q | q
            · exact HA5.out x q
            · rw [List.mem_singleton.1 q]; exact hsl)
          have hb2 : A2.length ≤ 50 := by omega
          have hb3' : ((A.length : Int) != (A2.length : Int) - 1) = false := by simp; omega
          have HA2 := Lib.hid hA2
          have HA2L := Lib.hid hA2l
          have HM2 := Lib.hid hM2
          have HOK := Lib.hid hok
          clear hA2 hA2l hM2 hok
          go_wp2_with fail
          go_fit (append_ok2 _ A s _ (HL.out.ext (by (repeat' (first | (with_reducible assumption) | (with_reducible exact Wb.Ext.refl _) | (with_reducible refine Wb.Ext.drew ?_) | (with_reducible refine Wb.Ext.drewN ?_ _) | (with_reducible refine Wb.Ext.alloc ?_ _) | (with_reducible refine Wb.ext_set ?_ (by first | assumption | (simp; done) | (simp; omega) | omega) _) | (with_reducible refine Wb.Ext.trans ?_ (by assumption)))))) (by omega) (by omega) (wrong_ok.1 HOK.out)); rintro e w3 ⟨sv, m3, rfl, hu, hfr, hb3⟩
          rw [HA2.out] at hu
          obtain ⟨sv', m3', hee, hr3, hm3⟩ := hu
          obtain ⟨rfl, rfl⟩ : sv = sv' ∧ m3 = m3' := by simp at hee; exact ⟨hee.1, by omega⟩
          have HFR := Lib.hid (show ∀ k, sv.ownBlock = some k → wr.heap.size ≤ k from fun k hk => by have := hfr k hk; simp at this; omega)
          clear hee hfr
          obtain ⟨ao3, c3, rfl, _, _, _⟩ := hr3.shape
          have HR3 := Lib.hid hr3
          have HMK := Lib.hid (show (if A2 = [] then Wb.mfirst else m3 : Nat) = M2 by
            have hne : A2 ≠ [] := by rw [← HA2.out]; simp
            rw [if_neg hne, ← HM22.out]; exact hm3 hne)
          have HM3 := Lib.hid hm3
          clear hr3 hm3
          have hx3 : Wb.Ext wr w3 := by (repeat' (first | (with_reducible assumption) | (with_reducible exact Wb.Ext.refl _) | (with_reducible refine Wb.Ext.drew ?_) | (with_reducible refine Wb.Ext.drewN ?_ _) | (with_reducible refine Wb.Ext.alloc ?_ _) | (with_reducible refine Wb.ext_set ?_ (by first | assumption | (simp; done) | (simp; omega) | omega) _) | (with_reducible refine Wb.Ext.trans ?_ (by assumption))))
          have p0 : w3.cell? ⟨wr.heap.size, 0, none⟩ = some (.slice ao A.length c) := hb3.keep (by simp [go_sem])
          have p1 : w3.cell? ⟨wr.heap.size, 1, none⟩ = some (.int .u64 (mm : Int)) := hb3.keep (by simp [go_sem])
          have q0 := hx3.keep q0
          have q1 := hx3.keep q1
          have qf : ∀ j, w3.frozen? ⟨w1.heap.size, j, none⟩ = false := fun j => (Below.frozen hx3 hz).trans (qf j)
          have hz3 := Wb.cell_size p0
          clear hb3
          go_wp2_with fail
          go_fit (rwrong_any A.length s _ (by omega)); rintro e w' ⟨rfl, rfl⟩
          rw [HOK.out]
          go_upto_region 16 with (fail)
          refine Wb.wp_at fun w4 hw4 => ?_
          have he34 : Wb.Ext w3 w4 := by rw [hw4]; (repeat' (first | (with_reducible assumption) | (with_reducible exact Wb.Ext.refl _) | (with_reducible refine Wb.Ext.drew ?_) | (with_reducible refine Wb.Ext.drewN ?_ _) | (with_reducible refine Wb.Ext.alloc ?_ _) | (with_reducible refine Wb.ext_set ?_ (by first | assumption | (simp; done) | (simp; omega) | omega) _) | (with_reducible refine Wb.Ext.trans ?_ (by assumption))))
          have n0 : w4.cell? ⟨w3.heap.size, 0, none⟩ = some (.slice ao3 A2.length c3) := by rw [hw4]; simp [go_sem]
          have n1 : w4.cell? ⟨w3.heap.size, 1, none⟩ = some (.int .u64 (m3 : Int)) := by rw [hw4]; simp [go_sem]
          clear hw4
          have q0 := he34.keep q0
          have q1 := he34.keep q1
          have p0 := he34.keep p0
          have p1 := he34.keep p1
          have qf : ∀ j, w4.frozen? ⟨w1.heap.size, j, none⟩ = false := fun j => (Below.frozen he34 (by show w1.heap.size < w3.heap.size; omega)).trans (qf j)
          go_upto_region 17 with (fail)
          refine Wb.wp_at fun w5 hw5 => ?_
          have hne : ¬ w1.heap.size = wr.heap.size := by omega
          have q05 : w5.cell? ⟨w1.heap.size, 0, none⟩ = some (.slice ao3 A2.length c3) := by rw [hw5]; simp [go_sem, q0, q1, qf]
          have q15 : w5.cell? ⟨w1.heap.size, 1, none⟩ = some (.int .u64 (m3 : Int)) := by rw [hw5]; simp [go_sem, q0, q1, qf]
          have qf5 : ∀ j, w5.frozen? ⟨w1.heap.size, j, none⟩ = false := fun j => by rw [hw5]; simp [go_sem, qf]
          have p05 : w5.cell? ⟨wr.heap.size, 0, none⟩ = some (.slice ao A.length c) := by rw [hw5]; simp [go_sem, hne, p0]
          have p15 : w5.cell? ⟨wr.heap.size, 1, none⟩ = some (.int .u64 (mm : Int)) := by rw [hw5]; simp [go_sem, hne, p1]
          have HR5 := Lib.hid (show Row38 w5 (.slice ao3 A2.length c3) A2 by rw [hw5]; exact (HR3.out.ext he34).set2 q0 _ _)
          have HO5 := Lib.hid (show w5.ownsRow (w1.heap.size + 1) 9 1 (.slice aa A.length ac) A.length (rowsOf strc A) by
            rw [hw5]
            have h0 := Wb.row_ext (Wb.row_ext HOWN.out hx3) he34
            have hp : ∀ k, (Value.slice aa A.length ac).ownBlock = some k → k ≠ w1.heap.size := fun k hk => by have := (h0.lt k hk).1; omega
            exact Wb.row_set (Wb.row_set h0 hp _) hp _)
          have he5 : Wb.Ext w1 w5 := by rw [hw5]; exact Wb.ext_set (Wb.ext_set ((HX.out.trans hx3).trans he34) (Nat.le_refl _) _) (Nat.le_refl _) _
          have hz5 : w1.heap.size < w5.heap.size := Wb.cell_size q05
          clear hw5 n0 n1 q0 q1 qf p0 p1 he34
          obtain ⟨hi, hz0, hz1', hz2⟩ := HIN.out
          go_wp2_with (at_builtin; go_loud (refine Wb.wpList_append_row rfl (.tmp 41) (.tmp 43) 22 rfl (w1.heap.size + 1) 9 i0 (.string "".toUTF8) 1 16 Tryd.underlying22 hi hz0 hz1' hz2 rfl (by decide) _ _ _ rfl (HO5.out.alloc _) (.slice (some ⟨w5.heap.size, 0, none⟩) 1 1) rfl 1 [.string (Wb.S s)] ?c1 ?c2 ?c3 ?c4 ?c5 ?_))
          case c1 => exact src_lit w5 _ rfl [.string (Wb.S s)] _ _
          case c2 => intro u hu; simp at hu; subst hu; rfl
          case c3 => unfold maxLen; omega
          case c4 => omega
          case c5 => simp; omega
          intro u2 w6 hown2 hg2 hnil2
          clear hi hz0 hz1' hz2 hnil2
          have hrow : ∀ k, (Value.slice aa A.length ac).ownBlock = some k → w1.heap.size < k ∧ k < wr.heap.size := fun k hk => by have := HOWN.out.lt k hk; omega
          have he6 : Wb.Ext w1 w6 := Wb.Ext.grown (w' := w5.alloc (.cells #[.string (Wb.S s)] 9)) (he5.alloc _) hg2 (fun k hk => by have := hrow k hk; omega)
          have cfar : ∀ b j x, b < w5.heap.size → (b = w1.heap.size ∨ wr.heap.size ≤ b) → w5.cell? ⟨b, j, none⟩ = some x → w6.cell? ⟨b, j, none⟩ = some x := fun b j x hb ho hx => by
            rw [hg2.cell_far _ (by simp; omega) (fun e => by have := hrow _ e.symm; simp at this; omega)]
            exact (((Wb.Ext.refl w5).alloc _).keep hx)
          have q05 := cfar _ _ _ (Wb.cell_size q05) (.inl rfl) q05
          have q15 := cfar _ _ _ (Wb.cell_size q15) (.inl rfl) q15
          have p05 := cfar _ _ _ (Wb.cell_size p05) (.inr (Nat.le_refl _)) p05
          have p15 := cfar _ _ _ (Wb.cell_size p15) (.inr (Nat.le_refl _)) p15
          have qf6 : ∀ j, w6.frozen? ⟨w1.heap.size, j, none⟩ = false := fun j => by
            rw [hg2.frozen_far _ (by simp; omega) (fun e => by have := hrow _ e.symm; simp at this)]
            have := Below.frozen ((Wb.Ext.refl w5).alloc (.cells #[.string (Wb.S s)] 9)) (p := ⟨w1.heap.size, j, none⟩) hz5
            rw [this]; exact qf5 j
          have HR6 := Lib.hid (HR5.out.far (fun b j x hb hx => cfar b j x (Wb.cell_size hx) (.inr (HFR.out b hb)) hx))
          have hown3 : w6.ownsRow (w1.heap.size + 1) 9 1 u2 A2.length (rowsOf strc A2) := by
            rw [HA2L.out, ← HA2.out, rowsOf_app, rowsOf_one]; exact hown2
          obtain ⟨b2, c2, rfl⟩ := row_shape hown3
          have HO6 := Lib.hid hown3
          clear hown2 hown3 hg2
          have hz6 := Wb.cell_size q05
          clear qf5
          go_wp2_with fail
          go_fit (rmark_any M s HML.out (by omega) _); rintro e w' ⟨rfl, rfl⟩
          rw [HM2.out]
          go_wp2_with fail
          go_fit (lmark_any (.slice ao3 A2.length c3) A2 m3 _ HR6.out.strs.1); rintro e w7 ⟨rfl, hb7⟩
          rw [HMK.out]
          have q05 := hb7.keep q05
          have q15 := hb7.keep q15
          have p05 := hb7.keep p05
          have p15 := hb7.keep p15
          go_wp2_with fail
          go_fit (llen_any (.slice ao3 A2.length c3) A2 m3 _ (HR6.out.ext hb7).strs.1); rintro e w8 ⟨rfl, hb8⟩
          have q05 := hb8.keep q05
          have q15 := hb8.keep q15
          have p05 := hb8.keep p05
          have p15 := hb8.keep p15
          have hb68 := hb7.trans hb8
          go_wp2_with fail
          go_fit (acts_any (.slice ao3 A2.length c3) A2 m3 _ (HR6.out.ext hb68).strs (by omega)); rintro e w9 ⟨u9, rfl, hu9, hb9⟩
          have q05 := hb9.keep q05
          have q15 := hb9.keep q15
          have p05 := hb9.keep p05
          have p15 := hb9.keep p15
          have hb69 := hb68.trans hb9
          obtain ⟨a9, c9, rfl⟩ := hu9.shape
          have HU9 := Lib.hid hu9
          clear hu9 hb7 hb8 hb9 hb68
          go_wp2_with fail
          go_fit (same38_any _ (.slice b2 A2.length c2) A2 _ HU9.out (row_tbl strc_len (by decide) (Wb.row_ext HO6.out hb69)) (by omega)); rintro e w10 ⟨rfl, hb10⟩
          have q05 := hb10.keep q05
          have q15 := hb10.keep q15
          have p05 := hb10.keep p05
          have p15 := hb10.keep p15
          have hb610 := hb69.trans hb10
          go_wp2_with fail
          go_fit (llen_s ao A.length c mm _); rintro e w11 ⟨rfl, hb11⟩
          have q05 := hb11.keep q05
          have q15 := hb11.keep q15
          have hb6e := hb610.trans hb11
          have qfe : ∀ j, w11.frozen? ⟨w1.heap.size, j, none⟩ = false := fun j => (Below.frozen hb6e hz6).trans (qf6 j)
          go_wp2
          go_roundw
          case rel =>
            refine ⟨k + 1, M2, m3, c3, A2, ao3, by omega, by have := HA2L.out; omega, by go_num, rfl, ?_⟩
            exact ⟨HM22.out, Wb.row_ext HO6.out hb6e, q05, q15, qfe, ⟨_, _, rfl, HR6.out.ext hb6e, HM3.out⟩, HA52.out, he6.trans hb6e⟩
          case measure => simp [intOf]; omega

        · obtain ⟨q, hq⟩ : ∃ q, wrongOf A.length s = q := ⟨_, rfl⟩
          have HQ := Lib.hid hq
          have e0 : (q == 0) = false := by rw [← hq]; simpa using hok
          have HNO := Lib.hid hok
          have HMK := Lib.hid (show (if A = [] then Wb.mfirst else mm : Nat) = M by
            obtain ⟨u, m, he, hr, hm⟩ := HL.out
            cases he
            by_cases h0 : A = []
            · rw [if_pos h0, ← HM.out, h0, Wb.marksL, List.foldl_nil]
            · rw [if_neg h0, ← HM.out]; exact hm h0)
          clear hq hok
          go_wp2_with fail
          go_fit (append_no _ A s _ (HL.out.ext (by (repeat' (first | (with_reducible assumption) | (with_reducible exact Wb.Ext.refl _) | (with_reducible refine Wb.Ext.drew ?_) | (with_reducible refine Wb.Ext.drewN ?_ _) | (with_reducible refine Wb.Ext.alloc ?_ _) | (with_reducible refine Wb.ext_set ?_ (by first | assumption | (simp; done) | (simp; omega) | omega) _) | (with_reducible refine Wb.Ext.trans ?_ (by assumption)))))) (by omega) HNO.out); rintro e w3 ⟨rfl, hb3⟩
          rw [HQ.out]
          have HR3 := Lib.hid (show Row38 w3 (.slice ao A.length c) A by
            obtain ⟨u, m, he, hr, hm⟩ := HL.out
            cases he
            exact hr.ext (show Wb.Ext wr w3 from by (repeat' (first | (with_reducible assumption) | (with_reducible exact Wb.Ext.refl _) | (with_reducible refine Wb.Ext.drew ?_) | (with_reducible refine Wb.Ext.drewN ?_ _) | (with_reducible refine Wb.Ext.alloc ?_ _) | (with_reducible refine Wb.ext_set ?_ (by first | assumption | (simp; done) | (simp; omega) | omega) _) | (with_reducible refine Wb.Ext.trans ?_ (by assumption))))))
          have hx3 : Wb.Ext wr w3 := by (repeat' (first | (with_reducible assumption) | (with_reducible exact Wb.Ext.refl _) | (with_reducible refine Wb.Ext.drew ?_) | (with_reducible refine Wb.Ext.drewN ?_ _) | (with_reducible refine Wb.Ext.alloc ?_ _) | (with_reducible refine Wb.ext_set ?_ (by first | assumption | (simp; done) | (simp; omega) | omega) _) | (with_reducible refine Wb.Ext.trans ?_ (by assumption))))
          have p0 : w3.cell? ⟨wr.heap.size, 0, none⟩ = some (.slice ao A.length c) := hb3.keep (by simp [go_sem])
          have p1 : w3.cell? ⟨wr.heap.size, 1, none⟩ = some (.int .u64 (mm : Int)) := hb3.keep (by simp [go_sem])
          have q0 := hx3.keep q0
          have q1 := hx3.keep q1
          have qf : ∀ j, w3.frozen? ⟨w1.heap.size, j, none⟩ = false := fun j => (Below.frozen hx3 hz).trans (qf j)
          have hz3 := Wb.cell_size p0
          clear hb3
          go_wp2_with fail
          go_fit (rwrong_any A.length s _ (by omega)); rintro e w' ⟨rfl, rfl⟩
          rw [HQ.out]
          go_upto_region 16 with (fail)
          refine Wb.wp_at fun w4 hw4 => ?_
          have he34 : Wb.Ext w3 w4 := by rw [hw4]; (repeat' (first | (with_reducible assumption) | (with_reducible exact Wb.Ext.refl _) | (with_reducible refine Wb.Ext.drew ?_) | (with_reducible refine Wb.Ext.drewN ?_ _) | (with_reducible refine Wb.Ext.alloc ?_ _) | (with_reducible refine Wb.ext_set ?_ (by first | assumption | (simp; done) | (simp; omega) | omega) _) | (with_reducible refine Wb.Ext.trans ?_ (by assumption))))
          have n0 : w4.cell? ⟨w3.heap.size, 0, none⟩ = some (.slice ao A.length c) := by rw [hw4]; simp [go_sem]
          have n1 : w4.cell? ⟨w3.heap.size, 1, none⟩ = some (.int .u64 (mm : Int)) := by rw [hw4]; simp [go_sem]
          clear hw4
          have q0 := he34.keep q0
          have q1 := he34.keep q1
          have p0 := he34.keep p0
          have p1 := he34.keep p1
          have qf : ∀ j, w4.frozen? ⟨w1.heap.size, j, none⟩ = false := fun j => (Below.frozen he34 (by show w1.heap.size < w3.heap.size; omega)).trans (qf j)
          go_upto_region 17 with (fail)
          refine Wb.wp_at fun w5 hw5 => ?_
          have hne : ¬ w1.heap.size = wr.heap.size := by omega
          have q05 : w5.cell? ⟨w1.heap.size, 0, none⟩ = some (.slice ao A.length c) := by rw [hw5]; simp [go_sem, q0, q1, qf]
          have q15 : w5.cell? ⟨w1.heap.size, 1, none⟩ = some (.int .u64 (mm : Int)) := by rw [hw5]; simp [go_sem, q0, q1, qf]
          have qf5 : ∀ j, w5.frozen? ⟨w1.heap.size, j, none⟩ = false := fun j => by rw [hw5]; simp [go_sem, qf]
          have p05 : w5.cell? ⟨wr.heap.size, 0, none⟩ = some (.slice ao A.length c) := by rw [hw5]; simp [go_sem, hne, p0]
          have p15 : w5.cell? ⟨wr.heap.size, 1, none⟩ = some (.int .u64 (mm : Int)) := by rw [hw5]; simp [go_sem, hne, p1]
          have HR5 := Lib.hid (show Row38 w5 (.slice ao A.length c) A by rw [hw5]; exact (HR3.out.ext he34).set2 q0 _ _)
          have HO5 := Lib.hid (show w5.ownsRow (w1.heap.size + 1) 9 1 (.slice aa A.length ac) A.length (rowsOf strc A) by
            rw [hw5]
            have h0 := Wb.row_ext (Wb.row_ext HOWN.out hx3) he34
            have hp : ∀ k, (Value.slice aa A.length ac).ownBlock = some k → k ≠ w1.heap.size := fun k hk => by have := (h0.lt k hk).1; omega
            exact Wb.row_set (Wb.row_set h0 hp _) hp _)
          have he5 : Wb.Ext w1 w5 := by rw [hw5]; exact Wb.ext_set (Wb.ext_set ((HX.out.trans hx3).trans he34) (Nat.le_refl _) _) (Nat.le_refl _) _
          have hz5 : w1.heap.size < w5.heap.size := Wb.cell_size q05
          clear hw5 n0 n1 q0 q1 qf p0 p1 he34
          have HO6 := HO5
          have qf6 := qf5
          have HR6 := HR5
          have he6 := he5
          have hz6 := Wb.cell_size q05
          clear qf5
          go_wp2_with fail
          go_fit (lmark_any (.slice ao A.length c) A mm _ HR6.out.strs.1); rintro e w7 ⟨rfl, hb7⟩
          rw [HMK.out]
          have q05 := hb7.keep q05
          have q15 := hb7.keep q15
          have p05 := hb7.keep p05
          have p15 := hb7.keep p15
          go_wp2_with fail
          go_fit (llen_any (.slice ao A.length c) A mm _ (HR6.out.ext hb7).strs.1); rintro e w8 ⟨rfl, hb8⟩
          have q05 := hb8.keep q05
          have q15 := hb8.keep q15
          have p05 := hb8.keep p05
          have p15 := hb8.keep p15
          have hb68 := hb7.trans hb8
          go_wp2_with fail
          go_fit (acts_any (.slice ao A.length c) A mm _ (HR6.out.ext hb68).strs (by omega)); rintro e w9 ⟨u9, rfl, hu9, hb9⟩
          have q05 := hb9.keep q05
          have q15 := hb9.keep q15
          have p05 := hb9.keep p05
          have p15 := hb9.keep p15
          have hb69 := hb68.trans hb9
          obtain ⟨a9, c9, rfl⟩ := hu9.shape
          have HU9 := Lib.hid hu9
          clear hu9 hb7 hb8 hb9 hb68
          go_wp2_with fail
          go_fit (same38_any _ (.slice aa A.length ac) A _ HU9.out (row_tbl strc_len (by decide) (Wb.row_ext HO6.out hb69)) (by omega)); rintro e w10 ⟨rfl, hb10⟩
          have q05 := hb10.keep q05
          have q15 := hb10.keep q15
          have p05 := hb10.keep p05
          have p15 := hb10.keep p15
          have hb610 := hb69.trans hb10
          have hb6e := hb610
          have qfe : ∀ j, w10.frozen? ⟨w1.heap.size, j, none⟩ = false := fun j => (Below.frozen hb6e hz6).trans (qf6 j)
          go_wp2
          go_roundw
          case rel =>
            refine ⟨k + 1, M, mm, c, A, ao, by omega, by omega, by go_num, rfl, ?_⟩
            exact ⟨HM.out, Wb.row_ext HO6.out hb6e, q05, q15, qfe, ⟨_, _, rfl, HR6.out.ext hb6e, HMA.out⟩, HA5.out, he6.trans hb6e⟩
          case measure => simp [intOf]; omega

      · have HTL := Lib.hid (Wb.textL_len HA5.out (by omega))
        obtain ⟨t, htt⟩ : ∃ t, Wb.textL A = t := ⟨_, rfl⟩
        have HTT := Lib.hid htt
        clear htt
        go_wp2_with fail
        go_fit (text_any _ A _ HL.out (by omega) (fun s hs => Nat.le_trans (HA5.out s hs) (by omega)) (Nat.le_trans HTL.out (by omega)) ((HT.out.ext hb1).ext HX.out)); rintro e w3 ⟨rfl, hb3⟩
        rw [HTT.out]
        go_wp2_with fail
        go_fit (rtext_any (.slice aa A.length ac) A _ (row_tbl strc_len (by decide) (Wb.row_ext HOWN.out hb3)) (by omega) (fun s hs => Nat.le_trans (HA5.out s hs) (by omega)) (Nat.le_trans HTL.out (by omega))); rintro e w4 ⟨rfl, hb4⟩
        rw [HTT.out]
        have hxx := ((hb1.trans HX.out).trans hb3).trans hb4
        go_wp2
        go_ret
        exact ⟨rfl, hxx⟩

end Go.Proofs.YtokdmojbffnfgaaDoor

