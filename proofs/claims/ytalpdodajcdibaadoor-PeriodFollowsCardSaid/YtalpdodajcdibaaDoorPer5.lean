/- The walks of package period: Find. -/
import Derived.Test.YtalpdodajcdibaaDoorPer4
namespace Go.Proofs.YtalpdodajcdibaaDoor
open Go.RowKit
set_option maxRecDepth 4000

def zeroPer : Wb.Per := ⟨0, 0, 0, 0, 0, 0⟩
/-- what Find returns -/
noncomputable def findPer (c : Wb.Cal) (d : Int) : Wb.Per := if Wb.calErr c = 0 then (Wb.findOf c d).getD zeroPer else zeroPer
noncomputable def findErr (c : Wb.Cal) (d : Int) : Int := if Wb.calErr c = 0 then if d < -25567 ∨ 84006 ≤ d then 15 else match Wb.findOf c d with | some _ => 0 | none => 6 else Wb.calErr c

/-- a block of six cells that are 0, and may be written -/
def Zero6 (w : World) (b : Nat) : Prop :=
  (w.cell? ⟨b, 0, none⟩ = some (.int .i64 0) ∧ w.cell? ⟨b, 1, none⟩ = some (.int .i64 0) ∧ w.cell? ⟨b, 2, none⟩ = some (.int .i64 0) ∧ w.cell? ⟨b, 3, none⟩ = some (.int .i64 0) ∧ w.cell? ⟨b, 4, none⟩ = some (.int .i64 0) ∧ w.cell? ⟨b, 5, none⟩ = some (.int .i64 0)) ∧
    (∀ j, w.frozen? ⟨b, j, none⟩ = false) ∧ b < w.heap.size
theorem Zero6.ext {w w' : World} {b : Nat} (h : Zero6 w b) (k : Wb.Ext w w') : Zero6 w' b := by
  obtain ⟨⟨h0, h1, h2, h3, h4, h5⟩, hf, hz⟩ := h
  exact ⟨⟨k.keep h0, k.keep h1, k.keep h2, k.keep h3, k.keep h4, k.keep h5⟩, fun j => (k.cells.2 b j hz).trans (hf j), Nat.lt_of_lt_of_le hz k.size⟩
theorem zero6 {w w1 : World} {o : Obj} {T : TypeId} (h : Wb.Ext ((w.alloc o).alloc (.cells #[.int .i64 0, .int .i64 0, .int .i64 0, .int .i64 0, .int .i64 0, .int .i64 0] T)) w1) : Zero6 w1 (w.heap.size + 1) :=
  ⟨⟨h.keep (by simp [go_sem]), h.keep (by simp [go_sem]), h.keep (by simp [go_sem]), h.keep (by simp [go_sem]), h.keep (by simp [go_sem]), h.keep (by simp [go_sem])⟩,
   fun j => (Below.frozen h (by simp)).trans (by simp [go_sem]), by have := h.size; simp at this; omega⟩

theorem find_no (c : Wb.Cal) (d : Int) (hc : Wb.calErr c ≠ 0) (w : World) :
    Calls Tryd.prog 9 #[CalV c, .int .i64 d] w fun e w' => e = .returned (.tuple #[PerV zeroPer, .int .i64 (Wb.calErr c)]) ∧ Wb.Ext w w' := by
  obtain ⟨q, hq⟩ : ∃ q, Wb.calErr c = q := ⟨_, rfl⟩
  have HQ := Lib.hid hq
  rw [hq] at hc ⊢
  have hc' : (q != 0) = true := by simpa using hc
  clear hq hc
  go_enter Tryd.func9, Tryd.ntmps9
  go_wp2_with fail
  refine (pcheck_any c _).mono ?_; rintro e w1 ⟨rfl, hb1⟩
  rw [HQ.out]
  obtain ⟨⟨q0, q1, q2, q3, q4, q5⟩, qf, hz⟩ := zero6 hb1
  have he1 : Wb.Ext w w1 := by (repeat' (first | (with_reducible assumption) | (with_reducible exact Wb.Ext.refl _) | (with_reducible refine Wb.Ext.drew ?_) | (with_reducible refine Wb.Ext.drewN ?_ _) | (with_reducible refine Wb.Ext.alloc ?_ _) | (with_reducible refine Wb.Ext.trans ?_ (by assumption))))
  clear hb1
  go_wp2
  exact bodyPost_ret (v := .tuple #[PerV zeroPer, .int .i64 q]) (by simp [results, Tryd.results9, go_sem, zeroPer, q0, q1, q2, q3, q4, q5, hz]) rfl ⟨rfl, by (repeat' (first | (with_reducible assumption) | (with_reducible exact Wb.Ext.refl _) | (with_reducible refine Wb.Ext.drew ?_) | (with_reducible refine Wb.Ext.drewN ?_ _) | (with_reducible refine Wb.Ext.alloc ?_ _) | (with_reducible refine Wb.ext_set ?_ (by first | assumption | (simp; done) | (simp; omega) | omega) _) | (with_reducible refine Wb.Ext.trans ?_ (by assumption))))⟩

theorem find_day (c : Wb.Cal) (d : Int) (hc : Wb.calErr c = 0) (hd : d < -25567 ∨ 84006 ≤ d) (w : World) :
    Calls Tryd.prog 9 #[CalV c, .int .i64 d] w fun e w' => e = .returned (.tuple #[PerV zeroPer, .int .i64 15]) ∧ Wb.Ext w w' := by
  have HQ := Lib.hid hc
  have hb : (decide (-25567 ≤ d) && decide (d < 84006)) = false := by simp; omega
  have HB := Lib.hid hb
  clear hc hd hb
  go_enter Tryd.func9, Tryd.ntmps9
  go_wp2_with fail
  refine (pcheck_any c _).mono ?_; rintro e w1 ⟨rfl, hb1⟩
  rw [HQ.out]
  obtain ⟨⟨q0, q1, q2, q3, q4, q5⟩, qf, hz⟩ := zero6 hb1
  have he1 : Wb.Ext w w1 := by (repeat' (first | (with_reducible assumption) | (with_reducible exact Wb.Ext.refl _) | (with_reducible refine Wb.Ext.drew ?_) | (with_reducible refine Wb.Ext.drewN ?_ _) | (with_reducible refine Wb.Ext.alloc ?_ _) | (with_reducible refine Wb.Ext.trans ?_ (by assumption))))
  clear hb1
  go_wp2_with (go_at_call 25; refine (is_any _ _).mono ?_; rintro e w' ⟨rfl, rfl⟩; rw [HB.out])
  exact bodyPost_ret (v := .tuple #[PerV zeroPer, .int .i64 15]) (by simp [results, Tryd.results9, go_sem, zeroPer, q0, q1, q2, q3, q4, q5, hz]) rfl ⟨rfl, by (repeat' (first | (with_reducible assumption) | (with_reducible exact Wb.Ext.refl _) | (with_reducible refine Wb.Ext.drew ?_) | (with_reducible refine Wb.Ext.drewN ?_ _) | (with_reducible refine Wb.Ext.alloc ?_ _) | (with_reducible refine Wb.ext_set ?_ (by first | assumption | (simp; done) | (simp; omega) | omega) _) | (with_reducible refine Wb.Ext.trans ?_ (by assumption))))⟩

theorem field_year (y m k : Int) (w : World) : (Instr.field 64 (.agg #[.int .i64 y, .int .i64 m, .int .i64 k]) 0).run Tryd.prog w = .ok (.int .i64 y) w := by kernel_rfl
set_option maxHeartbeats 2000000 in
theorem find_ok (c : Wb.Cal) (d : Int) (hc : Wb.calErr c = 0) (h1 : -25567 ≤ d) (h2 : d < 84006) (w : World) (hw : LenC w) (hp : LenP w) :
    Calls Tryd.prog 9 #[CalV c, .int .i64 d] w fun e w' => e = .returned (.tuple #[PerV (findPer c d), .int .i64 (findErr c d)]) ∧ Wb.Ext w w' := by
  obtain ⟨_, _, _, _, lg1, lg2⟩ := Wb.calErr_ok hc
  have HC := Lib.hid hc
  have HW := Lib.hid hw
  have HP := Lib.hid hp
  clear hw hp
  have hb : (decide (-25567 ≤ d) && decide (d < 84006)) = true := by simp; omega
  have HB := Lib.hid hb
  obtain ⟨y, m, k, hd⟩ := Wb.date_ex h1 h2
  have HD := Lib.hid hd
  obtain ⟨⟨s1, s2⟩, hs⟩ : ∃ s, Wb.spanAt c d y m = s := ⟨_, rfl⟩
  have HS := Lib.hid hs
  have hin := Wb.spanAt_has hc hd
  rw [hs] at hin
  simp only at hin
  clear hb
  by_cases hwh : -25567 ≤ s1 ∧ s2 ≤ 84006
  · obtain ⟨yy, mm, kk, hdd⟩ := Wb.date_ex (d := s2 - 1) (by omega) (by omega)
    have HDD := Lib.hid hdd
    have hone := Wb.spanAt_one (y' := yy) hc hd (by rw [hs]; exact hwh.1) (by rw [hs]; exact hwh.2) (by rw [hs]; exact hdd.year.1) (by rw [hs]; exact hdd.year.2) ⟨hdd.1, hdd.2.1⟩
    rw [hs] at hone
    have hy1 := hdd.1
    have hy2 := hdd.2.1
    have HONE := Lib.hid hone
    have hlen := Wb.spans_len c yy
    obtain ⟨L, hL⟩ : ∃ L, Wb.spansOf c yy = L := ⟨_, rfl⟩
    have HL := Lib.hid hL
    rw [hL] at hlen
    have HWH := Lib.hid (show (decide (-25567 ≤ s1) && decide (s2 ≤ 84006)) = true by simp; omega)
    clear hc hd hs hone hL hdd
    go_enter Tryd.func9, Tryd.ntmps9
    have hfy := field_year yy mm kk
    go_wp2_with fail
    refine (pcheck_any c _).mono ?_; rintro e w1 ⟨rfl, hb1⟩
    rw [HC.out]
    have HZ := Lib.hid (zero6 hb1)
    have he1 : Wb.Ext w w1 := by (repeat' (first | (with_reducible assumption) | (with_reducible exact Wb.Ext.refl _) | (with_reducible refine Wb.Ext.drew ?_) | (with_reducible refine Wb.Ext.drewN ?_ _) | (with_reducible refine Wb.Ext.alloc ?_ _) | (with_reducible refine Wb.Ext.trans ?_ (by assumption))))
    obtain ⟨k0, k1, k2⟩ := cal_box (Wb.Ext.trans ((Wb.Ext.refl _).alloc _) hb1)
    have hz1 := Wb.cell_size k0
    clear hb1
    go_wp2_with (go_at_call 25; refine (is_any _ _).mono ?_; rintro e w' ⟨rfl, rfl⟩; rw [HB.out])
    refine (span_any c d y m k HC.out HD.out h1 h2 _ (HW.out.ext (by (repeat' (first | (with_reducible assumption) | (with_reducible exact Wb.Ext.refl _) | (with_reducible refine Wb.Ext.drew ?_) | (with_reducible refine Wb.Ext.drewN ?_ _) | (with_reducible refine Wb.Ext.alloc ?_ _) | (with_reducible refine Wb.Ext.trans ?_ (by assumption)))))) (HP.out.ext (by (repeat' (first | (with_reducible assumption) | (with_reducible exact Wb.Ext.refl _) | (with_reducible refine Wb.Ext.drew ?_) | (with_reducible refine Wb.Ext.drewN ?_ _) | (with_reducible refine Wb.Ext.alloc ?_ _) | (with_reducible refine Wb.Ext.trans ?_ (by assumption))))))).mono ?_; rintro e w2 ⟨rfl, hb2⟩
    rw [HS.out]
    have r0 := hb2.keep k0
    have r1 := hb2.keep k1
    have r2 := hb2.keep k2
    have he2 : Wb.Ext w w2 := by (repeat' (first | (with_reducible assumption) | (with_reducible exact Wb.Ext.refl _) | (with_reducible refine Wb.Ext.drew ?_) | (with_reducible refine Wb.Ext.drewN ?_ _) | (with_reducible refine Wb.Ext.alloc ?_ _) | (with_reducible refine Wb.Ext.trans ?_ (by assumption))))
    have HZ2 := Lib.hid (HZ.out.ext hb2)
    have hz2 := Wb.cell_size r0
    clear hb2 k0 k1 k2 hz1
    go_wp2_with fail
    refine (whole_any s1 s2 _).mono ?_; rintro e w3 ⟨rfl, hb3⟩
    rw [HWH.out]
    have g0 : w3.cell? ⟨w2.heap.size, 0, none⟩ = some (.int .i64 s1) := hb3.keep (by simp [go_sem])
    have g1 : w3.cell? ⟨w2.heap.size, 1, none⟩ = some (.int .i64 s2) := hb3.keep (by simp [go_sem])
    have he23 : Wb.Ext w2 w3 := by (repeat' (first | (with_reducible assumption) | (with_reducible exact Wb.Ext.refl _) | (with_reducible refine Wb.Ext.drew ?_) | (with_reducible refine Wb.Ext.drewN ?_ _) | (with_reducible refine Wb.Ext.alloc ?_ _) | (with_reducible refine Wb.Ext.trans ?_ (by assumption))))
    have he3 : Wb.Ext w w3 := by (repeat' (first | (with_reducible assumption) | (with_reducible exact Wb.Ext.refl _) | (with_reducible refine Wb.Ext.drew ?_) | (with_reducible refine Wb.Ext.drewN ?_ _) | (with_reducible refine Wb.Ext.alloc ?_ _) | (with_reducible refine Wb.Ext.trans ?_ (by assumption))))
    have hz3 := Wb.cell_size g0
    clear hb3
    go_wp2_with fail
    refine (to_any _ _ _ _ HDD.out _ (HW.out.ext (by (repeat' (first | (with_reducible assumption) | (with_reducible exact Wb.Ext.refl _) | (with_reducible refine Wb.Ext.drew ?_) | (with_reducible refine Wb.Ext.drewN ?_ _) | (with_reducible refine Wb.Ext.alloc ?_ _) | (with_reducible refine Wb.Ext.trans ?_ (by assumption))))))).mono ?_; rintro e w4 ⟨rfl, hb4⟩
    have j0 := hb4.keep (he23.keep r0)
    have j1 := hb4.keep (he23.keep r1)
    have j2 := hb4.keep (he23.keep r2)
    have he4 : Wb.Ext w w4 := by (repeat' (first | (with_reducible assumption) | (with_reducible exact Wb.Ext.refl _) | (with_reducible refine Wb.Ext.drew ?_) | (with_reducible refine Wb.Ext.drewN ?_ _) | (with_reducible refine Wb.Ext.alloc ?_ _) | (with_reducible refine Wb.Ext.trans ?_ (by assumption))))
    have he24 : Wb.Ext w2 w4 := he23.trans hb4
    have i0 := hb4.keep g0
    have i1 := hb4.keep g1
    have hz4 := Wb.cell_size j0
    clear hb4 g0 g1 r0 r1 r2
    go_wp2_with fail
    refine (spans_any c yy HC.out hy1 hy2 _ (HW.out.ext (by (repeat' (first | (with_reducible assumption) | (with_reducible exact Wb.Ext.refl _) | (with_reducible refine Wb.Ext.drew ?_) | (with_reducible refine Wb.Ext.drewN ?_ _) | (with_reducible refine Wb.Ext.alloc ?_ _) | (with_reducible refine Wb.Ext.trans ?_ (by assumption)))))) (HP.out.ext (by (repeat' (first | (with_reducible assumption) | (with_reducible exact Wb.Ext.refl _) | (with_reducible refine Wb.Ext.drew ?_) | (with_reducible refine Wb.Ext.drewN ?_ _) | (with_reducible refine Wb.Ext.alloc ?_ _) | (with_reducible refine Wb.Ext.trans ?_ (by assumption))))))).mono ?_; rintro e w5 ⟨v, rfl, hv, hb5⟩
    rw [HL.out] at hv
    have k0 := hb5.keep j0
    have k1 := hb5.keep j1
    have k2 := hb5.keep j2
    have g0 := hb5.keep i0
    have g1 := hb5.keep i1
    have he5 : Wb.Ext w w5 := by (repeat' (first | (with_reducible assumption) | (with_reducible exact Wb.Ext.refl _) | (with_reducible refine Wb.Ext.drew ?_) | (with_reducible refine Wb.Ext.drewN ?_ _) | (with_reducible refine Wb.Ext.alloc ?_ _) | (with_reducible refine Wb.Ext.trans ?_ (by assumption))))
    have he25 : Wb.Ext w2 w5 := he24.trans hb5
    obtain ⟨va, vc, rfl⟩ := hv.shape
    have HV := Lib.hid hv
    clear hv hb5 j0 j1 j2 i0 i1
    go_wp2_with fail
    go_loopw [39] (fun iv wr => ∃ k : Nat, k ≤ L.length ∧ iv = .int .i64 k ∧ (∀ j, j < k → L[j]? ≠ some (s1, s2)) ∧ Wb.Ext w5 wr) (fun iv _ => L.length - (intOf iv).toNat)
    case atStart => exact ⟨0, by omega, rfl, fun j hj => absurd hj (Nat.not_lt_zero _), by (repeat' (first | (with_reducible assumption) | (with_reducible exact Wb.Ext.refl _) | (with_reducible refine Wb.Ext.drew ?_) | (with_reducible refine Wb.Ext.drewN ?_ _) | (with_reducible refine Wb.Ext.alloc ?_ _) | (with_reducible refine Wb.Ext.trans ?_ (by assumption))))⟩
    case round =>
      obtain ⟨k, hk, rfl, hno, hext⟩ := hrel
      have HNO := Lib.hid hno; clear hno
      have r0 := hext.keep k0
      have r1 := hext.keep k1
      have r2 := hext.keep k2
      have i0 := hext.keep g0
      have i1 := hext.keep g1
      have hzr := Wb.cell_size r0
      have hzi := Wb.cell_size i0
      by_cases hlt : k < L.length
      · obtain ⟨s, hs⟩ := Wb.get_ex hlt
        obtain ⟨b, off, rfl, hcells⟩ := (HV.out.ext hext).opened (tne hlt)
        have hc0 := hcells k s hs 0 _ rfl
        have hc1 := hcells k s hs 1 _ rfl
        simp only [Nat.add_zero] at hc0
        have hbs := Wb.cell_size hc0
        have HSS := Lib.hid hs
        clear hcells hs
        obtain ⟨t1, t2⟩ := s
        simp only at hc0 hc1
        by_cases heq : t1 = s1 ∧ t2 = s2
        · obtain ⟨rfl, rfl⟩ := heq
          have HFI := Lib.hid (show Wb.findOf c d = some (Wb.perOf c yy L.length k (t1, t2)) from Wb.findOf_some HC.out ⟨yy, k, (t1, t2), ⟨hy1, hy2, by rw [HL.out]; exact HSS.out⟩, hin.1, hin.2, by rw [HL.out]⟩)
          have HFP := Lib.hid (show findPer c d = Wb.perOf c yy L.length k (t1, t2) by rw [findPer, if_pos HC.out, HFI.out]; rfl)
          have HFE := Lib.hid (show findErr c d = 0 by rw [findErr, if_pos HC.out, if_neg (by omega), HFI.out])
          go_wp2_with fail
          refine (period_any c yy k L.length (t1, t2) (by omega) (by simp only; omega) ⟨lg1, lg2⟩ _).mono ?_; rintro e w6 ⟨rfl, hb6⟩
          obtain ⟨p, hp⟩ : ∃ p, Wb.perOf c yy L.length k (t1, t2) = p := ⟨_, rfl⟩
          rw [hp]
          have HPP := Lib.hid hp
          clear hp
          obtain ⟨⟨q0, q1, q2, q3, q4, q5⟩, qf, hz⟩ := HZ2.out.ext (show Wb.Ext w2 w6 from (he25.trans hext).trans (Wb.Ext.trans ((Wb.Ext.refl _).alloc _) hb6))
          have he6 : Wb.Ext w w6 := (he5.trans hext).trans (Wb.Ext.trans ((Wb.Ext.refl _).alloc _) hb6)
          clear hb6
          go_wp2
          exact bodyPost_ret (v := .tuple #[PerV p, .int .i64 0]) (by simp [results, Tryd.results9, go_sem, q0, q1, q2, q3, q4, q5, hz]) rfl ⟨by rw [HFP.out, HFE.out, HPP.out], by (repeat' (first | (with_reducible assumption) | (with_reducible exact Wb.Ext.refl _) | (with_reducible refine Wb.Ext.drew ?_) | (with_reducible refine Wb.Ext.drewN ?_ _) | (with_reducible refine Wb.Ext.alloc ?_ _) | (with_reducible refine Wb.ext_set ?_ (by first | assumption | (simp; done) | (simp; omega) | omega) _) | (with_reducible refine Wb.Ext.trans ?_ (by assumption))))⟩
        · have HNE := Lib.hid (show (t1, t2) ≠ (s1, s2) by simpa using heq)
          have HNO2 := Lib.hid (show ∀ j, j < k + 1 → L[j]? ≠ some (s1, s2) from fun j hj => by
            rcases Nat.lt_succ_iff_lt_or_eq.1 hj with q | rfl
            · exact HNO.out j q
            · rw [HSS.out]; exact fun e => HNE.out (Option.some.inj e))
          cases e1 : (t1 == s1)
          · go_wp2
            go_roundw
            case rel => exact ⟨k + 1, by omega, by go_num, HNO2.out, by (repeat' (first | (with_reducible assumption) | (with_reducible exact Wb.Ext.refl _) | (with_reducible refine Wb.Ext.drew ?_) | (with_reducible refine Wb.Ext.drewN ?_ _) | (with_reducible refine Wb.Ext.alloc ?_ _) | (with_reducible refine Wb.Ext.trans ?_ (by assumption))))⟩
            case measure => simp [intOf]; omega
          · have e2 : (t2 == s2) = false := by simp at e1; simpa [e1] using heq
            go_wp2
            go_roundw
            case rel => exact ⟨k + 1, by omega, by go_num, HNO2.out, by (repeat' (first | (with_reducible assumption) | (with_reducible exact Wb.Ext.refl _) | (with_reducible refine Wb.Ext.drew ?_) | (with_reducible refine Wb.Ext.drewN ?_ _) | (with_reducible refine Wb.Ext.alloc ?_ _) | (with_reducible refine Wb.Ext.trans ?_ (by assumption))))⟩
            case measure => simp [intOf]; omega
      · exfalso
        obtain ⟨i, _, _, hi⟩ := HONE.out
        rw [HL.out] at hi
        exact HNO.out i (by have := (List.getElem?_eq_some_iff.1 hi).1; omega) hi
  · have HN := Lib.hid (Wb.spanAt_none hc hd (by rw [hs]; exact hwh))
    have HFP := Lib.hid (show findPer c d = zeroPer by rw [findPer, if_pos hc, HN.out]; rfl)
    have HFE := Lib.hid (show findErr c d = 6 by rw [findErr, if_pos hc, if_neg (by omega), HN.out])
    have HWH := Lib.hid (show (decide (-25567 ≤ s1) && decide (s2 ≤ 84006)) = false by simp; omega)
    rw [HFP.out, HFE.out]
    clear hc hd hs hwh
    go_enter Tryd.func9, Tryd.ntmps9
    go_wp2_with fail
    refine (pcheck_any c _).mono ?_; rintro e w1 ⟨rfl, hb1⟩
    rw [HC.out]
    have HZ := Lib.hid (zero6 hb1)
    have he1 : Wb.Ext w w1 := by (repeat' (first | (with_reducible assumption) | (with_reducible exact Wb.Ext.refl _) | (with_reducible refine Wb.Ext.drew ?_) | (with_reducible refine Wb.Ext.drewN ?_ _) | (with_reducible refine Wb.Ext.alloc ?_ _) | (with_reducible refine Wb.Ext.trans ?_ (by assumption))))
    obtain ⟨k0, k1, k2⟩ := cal_box (Wb.Ext.trans ((Wb.Ext.refl _).alloc _) hb1)
    have hz1 := Wb.cell_size k0
    clear hb1
    go_wp2_with (go_at_call 25; refine (is_any _ _).mono ?_; rintro e w' ⟨rfl, rfl⟩; rw [HB.out])
    refine (span_any c d y m k HC.out HD.out h1 h2 _ (HW.out.ext (by (repeat' (first | (with_reducible assumption) | (with_reducible exact Wb.Ext.refl _) | (with_reducible refine Wb.Ext.drew ?_) | (with_reducible refine Wb.Ext.drewN ?_ _) | (with_reducible refine Wb.Ext.alloc ?_ _) | (with_reducible refine Wb.Ext.trans ?_ (by assumption)))))) (HP.out.ext (by (repeat' (first | (with_reducible assumption) | (with_reducible exact Wb.Ext.refl _) | (with_reducible refine Wb.Ext.drew ?_) | (with_reducible refine Wb.Ext.drewN ?_ _) | (with_reducible refine Wb.Ext.alloc ?_ _) | (with_reducible refine Wb.Ext.trans ?_ (by assumption))))))).mono ?_; rintro e w2 ⟨rfl, hb2⟩
    rw [HS.out]
    have r0 := hb2.keep k0
    have r1 := hb2.keep k1
    have r2 := hb2.keep k2
    have he2 : Wb.Ext w w2 := by (repeat' (first | (with_reducible assumption) | (with_reducible exact Wb.Ext.refl _) | (with_reducible refine Wb.Ext.drew ?_) | (with_reducible refine Wb.Ext.drewN ?_ _) | (with_reducible refine Wb.Ext.alloc ?_ _) | (with_reducible refine Wb.Ext.trans ?_ (by assumption))))
    have HZ2 := Lib.hid (HZ.out.ext hb2)
    have hz2 := Wb.cell_size r0
    clear hb2 k0 k1 k2 hz1
    go_wp2_with fail
    refine (whole_any s1 s2 _).mono ?_; rintro e w3 ⟨rfl, hb3⟩
    rw [HWH.out]
    obtain ⟨⟨q0, q1, q2, q3, q4, q5⟩, qf, hz⟩ := HZ2.out.ext (show Wb.Ext w2 w3 by (repeat' (first | (with_reducible assumption) | (with_reducible exact Wb.Ext.refl _) | (with_reducible refine Wb.Ext.drew ?_) | (with_reducible refine Wb.Ext.drewN ?_ _) | (with_reducible refine Wb.Ext.alloc ?_ _) | (with_reducible refine Wb.Ext.trans ?_ (by assumption)))))
    have he3 : Wb.Ext w w3 := by (repeat' (first | (with_reducible assumption) | (with_reducible exact Wb.Ext.refl _) | (with_reducible refine Wb.Ext.drew ?_) | (with_reducible refine Wb.Ext.drewN ?_ _) | (with_reducible refine Wb.Ext.alloc ?_ _) | (with_reducible refine Wb.Ext.trans ?_ (by assumption))))
    clear hb3
    go_wp2
    exact bodyPost_ret (v := .tuple #[PerV zeroPer, .int .i64 6]) (by simp [results, Tryd.results9, go_sem, zeroPer, q0, q1, q2, q3, q4, q5, hz]) rfl ⟨rfl, by (repeat' (first | (with_reducible assumption) | (with_reducible exact Wb.Ext.refl _) | (with_reducible refine Wb.Ext.drew ?_) | (with_reducible refine Wb.Ext.drewN ?_ _) | (with_reducible refine Wb.Ext.alloc ?_ _) | (with_reducible refine Wb.ext_set ?_ (by first | assumption | (simp; done) | (simp; omega) | omega) _) | (with_reducible refine Wb.Ext.trans ?_ (by assumption))))⟩

end Go.Proofs.YtalpdodajcdibaaDoor
