/- The walks of package period: has, Next, Count, Less. -/
import Derived.Test.YtalpdodajcdibaaDoorPer5
import Derived.Deep.Cut
namespace Go.Proofs.YtalpdodajcdibaaDoor
open Go.RowKit
set_option maxRecDepth 4000

theorem find_any (c : Wb.Cal) (d : Int) (w : World) (hw : LenC w) (hp : LenP w) :
    Calls Tryd.prog 9 #[CalV c, .int .i64 d] w fun e w' => e = .returned (.tuple #[PerV (findPer c d), .int .i64 (findErr c d)]) ∧ Wb.Ext w w' := by
  by_cases hc : Wb.calErr c = 0
  · by_cases hd : d < -25567 ∨ 84006 ≤ d
    · have hn : Wb.findOf c d = none := Wb.findOf_none fun p ⟨y, i, s, h0, h1, h2, _⟩ => by
        have := h0.last hc; omega
      rw [show findPer c d = zeroPer by rw [findPer, if_pos hc, hn]; rfl, show findErr c d = 15 by rw [findErr, if_pos hc, if_pos hd]]
      exact find_day c d hc hd w
    · exact find_ok c d hc (by omega) (by omega) w hw hp
  · rw [show findPer c d = zeroPer by rw [findPer, if_neg hc], show findErr c d = Wb.calErr c by rw [findErr, if_neg hc]]
    exact find_no c d hc w

noncomputable def hasB (c : Wb.Cal) (p : Wb.Per) : Bool := decide (findErr c p.from_ = 0) && decide (findPer c p.from_ = p)

theorem has_any (c : Wb.Cal) (p : Wb.Per) (w : World) (hw : LenC w) (hp : LenP w) :
    Calls Tryd.prog 35 #[CalV c, PerV p] w fun e w' => e = .returned (.bool (hasB c p)) ∧ Wb.Ext w w' := by
  have HW := Lib.hid hw
  have HP := Lib.hid hp
  clear hw hp
  obtain ⟨q, hq⟩ : ∃ q, findPer c p.from_ = q := ⟨_, rfl⟩
  obtain ⟨r, hr⟩ : ∃ r, findErr c p.from_ = r := ⟨_, rfl⟩
  have HQ := Lib.hid hq
  have HR := Lib.hid hr
  clear hq hr
  cases he : (r == 0)
  · have H := Lib.hid (show hasB c p = false by simp at he; simp [hasB, HR.out, he])
    go_enter Tryd.func35, Tryd.ntmps35
    go_wp2_with fail
    refine (find_any c _ _ (HW.out.ext (by (repeat' (first | (with_reducible assumption) | (with_reducible exact Wb.Ext.refl _) | (with_reducible refine Wb.Ext.drew ?_) | (with_reducible refine Wb.Ext.drewN ?_ _) | (with_reducible refine Wb.Ext.alloc ?_ _) | (with_reducible refine Wb.Ext.trans ?_ (by assumption)))))) (HP.out.ext (by (repeat' (first | (with_reducible assumption) | (with_reducible exact Wb.Ext.refl _) | (with_reducible refine Wb.Ext.drew ?_) | (with_reducible refine Wb.Ext.drewN ?_ _) | (with_reducible refine Wb.Ext.alloc ?_ _) | (with_reducible refine Wb.Ext.trans ?_ (by assumption))))))).mono ?_; rintro e w1 ⟨rfl, hb1⟩
    rw [HQ.out, HR.out]
    go_wp2
    go_ret
    exact ⟨Wb.ret_bool H.out.symm, by (repeat' (first | (with_reducible assumption) | (with_reducible exact Wb.Ext.refl _) | (with_reducible refine Wb.Ext.drew ?_) | (with_reducible refine Wb.Ext.drewN ?_ _) | (with_reducible refine Wb.Ext.alloc ?_ _) | (with_reducible refine Wb.Ext.trans ?_ (by assumption))))⟩
  · have H := Lib.hid (show hasB c p = decide (q = p) by simp at he; simp [hasB, HR.out, he, HQ.out])
    go_enter Tryd.func35, Tryd.ntmps35
    go_wp2_with fail
    refine (find_any c _ _ (HW.out.ext (by (repeat' (first | (with_reducible assumption) | (with_reducible exact Wb.Ext.refl _) | (with_reducible refine Wb.Ext.drew ?_) | (with_reducible refine Wb.Ext.drewN ?_ _) | (with_reducible refine Wb.Ext.alloc ?_ _) | (with_reducible refine Wb.Ext.trans ?_ (by assumption)))))) (HP.out.ext (by (repeat' (first | (with_reducible assumption) | (with_reducible exact Wb.Ext.refl _) | (with_reducible refine Wb.Ext.drew ?_) | (with_reducible refine Wb.Ext.drewN ?_ _) | (with_reducible refine Wb.Ext.alloc ?_ _) | (with_reducible refine Wb.Ext.trans ?_ (by assumption))))))).mono ?_; rintro e w1 ⟨rfl, hb1⟩
    rw [HQ.out, HR.out]
    have g0 : w1.cell? ⟨w.heap.size + 1, 0, none⟩ = some (.int .i64 p.year) := hb1.keep (by simp [go_sem])
    have g1 : w1.cell? ⟨w.heap.size + 1, 1, none⟩ = some (.int .i64 p.index) := hb1.keep (by simp [go_sem])
    have g2 : w1.cell? ⟨w.heap.size + 1, 2, none⟩ = some (.int .i64 p.of) := hb1.keep (by simp [go_sem])
    have g3 : w1.cell? ⟨w.heap.size + 1, 3, none⟩ = some (.int .i64 p.from_) := hb1.keep (by simp [go_sem])
    have g4 : w1.cell? ⟨w.heap.size + 1, 4, none⟩ = some (.int .i64 p.to_) := hb1.keep (by simp [go_sem])
    have g5 : w1.cell? ⟨w.heap.size + 1, 5, none⟩ = some (.int .i64 p.pay) := hb1.keep (by simp [go_sem])
    have hz := Wb.cell_size g0
    have he1 : Wb.Ext w w1 := by (repeat' (first | (with_reducible assumption) | (with_reducible exact Wb.Ext.refl _) | (with_reducible refine Wb.Ext.drew ?_) | (with_reducible refine Wb.Ext.drewN ?_ _) | (with_reducible refine Wb.Ext.alloc ?_ _) | (with_reducible refine Wb.Ext.trans ?_ (by assumption))))
    clear hb1
    go_wp2
    all_goals
      go_ret
      refine ⟨Wb.ret_bool ?_, by (repeat' (first | (with_reducible assumption) | (with_reducible exact Wb.Ext.refl _) | (with_reducible refine Wb.Ext.drew ?_) | (with_reducible refine Wb.Ext.drewN ?_ _) | (with_reducible refine Wb.Ext.alloc ?_ _) | (with_reducible refine Wb.Ext.trans ?_ (by assumption))))⟩
      rw [H.out]
      clear H HQ HR HW HP he he1 hz g0 g1 g2 g3 g4 g5
      cases q
      cases p
      simp_all

theorem zero6g {W w1 : World} {n : Nat} {T : TypeId} (h : Wb.Ext (W.alloc (.cells #[.int .i64 0, .int .i64 0, .int .i64 0, .int .i64 0, .int .i64 0, .int .i64 0] T)) w1) (hn : W.heap.size = n) : Zero6 w1 n := by
  subst hn
  exact ⟨⟨h.keep (by simp [go_sem]), h.keep (by simp [go_sem]), h.keep (by simp [go_sem]), h.keep (by simp [go_sem]), h.keep (by simp [go_sem]), h.keep (by simp [go_sem])⟩,
   fun j => (Below.frozen h (by simp)).trans (by simp [go_sem]), by have := h.size; simp at this; omega⟩
/-- a period's block -/
def PerB (w : World) (b : Nat) (p : Wb.Per) : Prop :=
  w.cell? ⟨b, 0, none⟩ = some (.int .i64 p.year) ∧ w.cell? ⟨b, 1, none⟩ = some (.int .i64 p.index) ∧ w.cell? ⟨b, 2, none⟩ = some (.int .i64 p.of) ∧ w.cell? ⟨b, 3, none⟩ = some (.int .i64 p.from_) ∧ w.cell? ⟨b, 4, none⟩ = some (.int .i64 p.to_) ∧ w.cell? ⟨b, 5, none⟩ = some (.int .i64 p.pay)
theorem PerB.ext {w w' : World} {b : Nat} {p : Wb.Per} (h : PerB w b p) (k : Wb.Ext w w') : PerB w' b p :=
  ⟨k.keep h.1, k.keep h.2.1, k.keep h.2.2.1, k.keep h.2.2.2.1, k.keep h.2.2.2.2.1, k.keep h.2.2.2.2.2⟩
theorem PerB.new {W w1 : World} {n : Nat} {T : TypeId} {p : Wb.Per} (h : Wb.Ext (W.alloc (.cells #[.int .i64 p.year, .int .i64 p.index, .int .i64 p.of, .int .i64 p.from_, .int .i64 p.to_, .int .i64 p.pay] T)) w1) (hn : W.heap.size = n) : PerB w1 n p := by
  subst hn
  exact ⟨h.keep (by simp [go_sem]), h.keep (by simp [go_sem]), h.keep (by simp [go_sem]), h.keep (by simp [go_sem]), h.keep (by simp [go_sem]), h.keep (by simp [go_sem])⟩
/-- a calendar's block -/
def CalB (w : World) (b : Nat) (c : Wb.Cal) : Prop := w.cell? ⟨b, 0, none⟩ = some (.int .i64 c.kind) ∧ w.cell? ⟨b, 1, none⟩ = some (.int .i64 c.first) ∧ w.cell? ⟨b, 2, none⟩ = some (.int .i64 c.lag)
theorem CalB.ext {w w' : World} {b : Nat} {p : Wb.Cal} (h : CalB w b p) (k : Wb.Ext w w') : CalB w' b p := ⟨k.keep h.1, k.keep h.2.1, k.keep h.2.2⟩
theorem CalB.new {W w1 : World} {n : Nat} {T : TypeId} {c : Wb.Cal} (h : Wb.Ext (W.alloc (.cells #[.int .i64 c.kind, .int .i64 c.first, .int .i64 c.lag] T)) w1) (hn : W.heap.size = n) : CalB w1 n c := by
  subst hn
  exact ⟨h.keep (by simp [go_sem]), h.keep (by simp [go_sem]), h.keep (by simp [go_sem])⟩

/-- what Next returns -/
noncomputable def nextErr (c : Wb.Cal) (p : Wb.Per) : Int := if Wb.calErr c = 0 then if hasB c p = true ∧ findErr c p.to_ = 0 then 0 else 6 else Wb.calErr c
noncomputable def nextPer (c : Wb.Cal) (p : Wb.Per) : Wb.Per := if Wb.calErr c = 0 ∧ hasB c p = true ∧ findErr c p.to_ = 0 then findPer c p.to_ else zeroPer

theorem next_bad (c : Wb.Cal) (p : Wb.Per) (ce : Int) (HCE : Hid (Wb.calErr c = ce)) (h0 : (ce != 0) = true) (w : World) :
    Calls Tryd.prog 22 #[CalV c, PerV p] w fun e w' => e = .returned (.tuple #[PerV zeroPer, .int .i64 ce]) ∧ Wb.Ext w w' := by
  go_enter Tryd.func22, Tryd.ntmps22
  go_wp2_with fail
  refine (pcheck_any c _).mono ?_; rintro e w1 ⟨rfl, hb1⟩
  rw [HCE.out]
  obtain ⟨⟨q0, q1, q2, q3, q4, q5⟩, qf, hz⟩ := zero6g hb1 (n := w.heap.size + 1 + 1) (by simp)
  have he1 : Wb.Ext w w1 := by (repeat' (first | (with_reducible assumption) | (with_reducible exact Wb.Ext.refl _) | (with_reducible refine Wb.Ext.drew ?_) | (with_reducible refine Wb.Ext.drewN ?_ _) | (with_reducible refine Wb.Ext.alloc ?_ _) | (with_reducible refine Wb.Ext.trans ?_ (by assumption))))
  clear hb1
  go_wp2
  exact bodyPost_ret (v := .tuple #[PerV zeroPer, .int .i64 ce]) (by simp [results, Tryd.results22, go_sem, zeroPer, q0, q1, q2, q3, q4, q5, hz]) rfl ⟨rfl, by (repeat' (first | (with_reducible assumption) | (with_reducible exact Wb.Ext.refl _) | (with_reducible refine Wb.Ext.drew ?_) | (with_reducible refine Wb.Ext.drewN ?_ _) | (with_reducible refine Wb.Ext.alloc ?_ _) | (with_reducible refine Wb.ext_set ?_ (by first | assumption | (simp; done) | (simp; omega) | omega) _) | (with_reducible refine Wb.Ext.trans ?_ (by assumption))))⟩
theorem next_own (c : Wb.Cal) (p : Wb.Per) (HCE : Hid (Wb.calErr c = 0)) (HH : Hid (hasB c p = false)) (w : World) (HW : Hid (LenC w)) (HP : Hid (LenP w)) :
    Calls Tryd.prog 22 #[CalV c, PerV p] w fun e w' => e = .returned (.tuple #[PerV zeroPer, .int .i64 6]) ∧ Wb.Ext w w' := by
  go_enter Tryd.func22, Tryd.ntmps22
  go_wp2_with fail
  refine (pcheck_any c _).mono ?_; rintro e w1 ⟨rfl, hb1⟩
  rw [HCE.out]
  have HZ := Lib.hid (zero6g hb1 (n := w.heap.size + 1 + 1) (by simp))
  have HC := Lib.hid (CalB.new (c := c) (T := 24) (w1 := w1) (W := w) (Wb.Ext.trans (by (repeat' (first | (with_reducible assumption) | (with_reducible exact Wb.Ext.refl _) | (with_reducible refine Wb.Ext.drew ?_) | (with_reducible refine Wb.Ext.drewN ?_ _) | (with_reducible refine Wb.Ext.alloc ?_ _) | (with_reducible refine Wb.Ext.trans ?_ (by assumption))))) hb1) rfl)
  have HPB := Lib.hid (PerB.new (p := p) (T := 28) (w1 := w1) (W := w.alloc (.cells #[.int .i64 c.kind, .int .i64 c.first, .int .i64 c.lag] 24)) (n := w.heap.size + 1) (Wb.Ext.trans (by (repeat' (first | (with_reducible assumption) | (with_reducible exact Wb.Ext.refl _) | (with_reducible refine Wb.Ext.drew ?_) | (with_reducible refine Wb.Ext.drewN ?_ _) | (with_reducible refine Wb.Ext.alloc ?_ _) | (with_reducible refine Wb.Ext.trans ?_ (by assumption))))) hb1) (by simp))
  have he1 : Wb.Ext w w1 := by (repeat' (first | (with_reducible assumption) | (with_reducible exact Wb.Ext.refl _) | (with_reducible refine Wb.Ext.drew ?_) | (with_reducible refine Wb.Ext.drewN ?_ _) | (with_reducible refine Wb.Ext.alloc ?_ _) | (with_reducible refine Wb.Ext.trans ?_ (by assumption))))
  clear hb1
  obtain ⟨k0, k1, k2⟩ := HC.out
  obtain ⟨g0, g1, g2, g3, g4, g5⟩ := HPB.out
  go_wp2_with fail
  refine (has_any c p _ (HW.out.ext (by (repeat' (first | (with_reducible assumption) | (with_reducible exact Wb.Ext.refl _) | (with_reducible refine Wb.Ext.drew ?_) | (with_reducible refine Wb.Ext.drewN ?_ _) | (with_reducible refine Wb.Ext.alloc ?_ _) | (with_reducible refine Wb.Ext.trans ?_ (by assumption)))))) (HP.out.ext (by (repeat' (first | (with_reducible assumption) | (with_reducible exact Wb.Ext.refl _) | (with_reducible refine Wb.Ext.drew ?_) | (with_reducible refine Wb.Ext.drewN ?_ _) | (with_reducible refine Wb.Ext.alloc ?_ _) | (with_reducible refine Wb.Ext.trans ?_ (by assumption))))))).mono ?_; rintro e w2 ⟨rfl, hb2⟩
  rw [HH.out]
  obtain ⟨⟨q0, q1, q2, q3, q4, q5⟩, qf, hz⟩ := HZ.out.ext hb2
  have he2 : Wb.Ext w w2 := by (repeat' (first | (with_reducible assumption) | (with_reducible exact Wb.Ext.refl _) | (with_reducible refine Wb.Ext.drew ?_) | (with_reducible refine Wb.Ext.drewN ?_ _) | (with_reducible refine Wb.Ext.alloc ?_ _) | (with_reducible refine Wb.Ext.trans ?_ (by assumption))))
  clear hb2 k0 k1 k2 g0 g1 g2 g3 g4 g5
  go_wp2
  exact bodyPost_ret (v := .tuple #[PerV zeroPer, .int .i64 6]) (by simp [results, Tryd.results22, go_sem, zeroPer, q0, q1, q2, q3, q4, q5, hz]) rfl ⟨rfl, by (repeat' (first | (with_reducible assumption) | (with_reducible exact Wb.Ext.refl _) | (with_reducible refine Wb.Ext.drew ?_) | (with_reducible refine Wb.Ext.drewN ?_ _) | (with_reducible refine Wb.Ext.alloc ?_ _) | (with_reducible refine Wb.ext_set ?_ (by first | assumption | (simp; done) | (simp; omega) | omega) _) | (with_reducible refine Wb.Ext.trans ?_ (by assumption))))⟩
set_option maxHeartbeats 1000000 in
theorem next_ok (c : Wb.Cal) (p fp : Wb.Per) (fe : Int) (HCE : Hid (Wb.calErr c = 0)) (HH : Hid (hasB c p = true)) (HFP : Hid (findPer c p.to_ = fp)) (HFE : Hid (findErr c p.to_ = fe)) (HN : Hid (nextPer c p = (if fe = 0 then fp else zeroPer) ∧ nextErr c p = if fe = 0 then 0 else 6)) (w : World) (HW : Hid (LenC w)) (HP : Hid (LenP w)) :
    Calls Tryd.prog 22 #[CalV c, PerV p] w fun e w' => e = .returned (.tuple #[PerV (nextPer c p), .int .i64 (nextErr c p)]) ∧ Wb.Ext w w' := by
  go_enter Tryd.func22, Tryd.ntmps22
  go_wp2_with fail
  refine (pcheck_any c _).mono ?_; rintro e w1 ⟨rfl, hb1⟩
  rw [HCE.out]
  have HZ := Lib.hid (zero6g hb1 (n := w.heap.size + 1 + 1) (by simp))
  have HC := Lib.hid (CalB.new (c := c) (T := 24) (w1 := w1) (W := w) (Wb.Ext.trans (by (repeat' (first | (with_reducible assumption) | (with_reducible exact Wb.Ext.refl _) | (with_reducible refine Wb.Ext.drew ?_) | (with_reducible refine Wb.Ext.drewN ?_ _) | (with_reducible refine Wb.Ext.alloc ?_ _) | (with_reducible refine Wb.Ext.trans ?_ (by assumption))))) hb1) rfl)
  have HPB := Lib.hid (PerB.new (p := p) (T := 28) (w1 := w1) (W := w.alloc (.cells #[.int .i64 c.kind, .int .i64 c.first, .int .i64 c.lag] 24)) (n := w.heap.size + 1) (Wb.Ext.trans (by (repeat' (first | (with_reducible assumption) | (with_reducible exact Wb.Ext.refl _) | (with_reducible refine Wb.Ext.drew ?_) | (with_reducible refine Wb.Ext.drewN ?_ _) | (with_reducible refine Wb.Ext.alloc ?_ _) | (with_reducible refine Wb.Ext.trans ?_ (by assumption))))) hb1) (by simp))
  have he1 : Wb.Ext w w1 := by (repeat' (first | (with_reducible assumption) | (with_reducible exact Wb.Ext.refl _) | (with_reducible refine Wb.Ext.drew ?_) | (with_reducible refine Wb.Ext.drewN ?_ _) | (with_reducible refine Wb.Ext.alloc ?_ _) | (with_reducible refine Wb.Ext.trans ?_ (by assumption))))
  clear hb1
  obtain ⟨k0, k1, k2⟩ := HC.out
  obtain ⟨g0, g1, g2, g3, g4, g5⟩ := HPB.out
  go_wp2_with fail
  refine (has_any c p _ (HW.out.ext (by (repeat' (first | (with_reducible assumption) | (with_reducible exact Wb.Ext.refl _) | (with_reducible refine Wb.Ext.drew ?_) | (with_reducible refine Wb.Ext.drewN ?_ _) | (with_reducible refine Wb.Ext.alloc ?_ _) | (with_reducible refine Wb.Ext.trans ?_ (by assumption)))))) (HP.out.ext (by (repeat' (first | (with_reducible assumption) | (with_reducible exact Wb.Ext.refl _) | (with_reducible refine Wb.Ext.drew ?_) | (with_reducible refine Wb.Ext.drewN ?_ _) | (with_reducible refine Wb.Ext.alloc ?_ _) | (with_reducible refine Wb.Ext.trans ?_ (by assumption))))))).mono ?_; rintro e w2 ⟨rfl, hb2⟩
  rw [HH.out]
  have HZ2 := Lib.hid (HZ.out.ext hb2)
  have HC2 := Lib.hid (HC.out.ext hb2)
  have HPB2 := Lib.hid (HPB.out.ext hb2)
  have he2 : Wb.Ext w w2 := by (repeat' (first | (with_reducible assumption) | (with_reducible exact Wb.Ext.refl _) | (with_reducible refine Wb.Ext.drew ?_) | (with_reducible refine Wb.Ext.drewN ?_ _) | (with_reducible refine Wb.Ext.alloc ?_ _) | (with_reducible refine Wb.Ext.trans ?_ (by assumption))))
  clear hb2 k0 k1 k2 g0 g1 g2 g3 g4 g5
  obtain ⟨k0, k1, k2⟩ := HC2.out
  obtain ⟨g0, g1, g2, g3, g4, g5⟩ := HPB2.out
  go_wp2_with fail
  refine (find_any c p.to_ _ (HW.out.ext (by (repeat' (first | (with_reducible assumption) | (with_reducible exact Wb.Ext.refl _) | (with_reducible refine Wb.Ext.drew ?_) | (with_reducible refine Wb.Ext.drewN ?_ _) | (with_reducible refine Wb.Ext.alloc ?_ _) | (with_reducible refine Wb.Ext.trans ?_ (by assumption)))))) (HP.out.ext (by (repeat' (first | (with_reducible assumption) | (with_reducible exact Wb.Ext.refl _) | (with_reducible refine Wb.Ext.drew ?_) | (with_reducible refine Wb.Ext.drewN ?_ _) | (with_reducible refine Wb.Ext.alloc ?_ _) | (with_reducible refine Wb.Ext.trans ?_ (by assumption))))))).mono ?_; rintro e w3 ⟨rfl, hb3⟩
  rw [HFP.out, HFE.out]
  have HQ := Lib.hid (HZ2.out.ext hb3)
  obtain ⟨⟨q0, q1, q2, q3, q4, q5⟩, qf, hz⟩ := HZ2.out.ext hb3
  have he3 : Wb.Ext w w3 := by (repeat' (first | (with_reducible assumption) | (with_reducible exact Wb.Ext.refl _) | (with_reducible refine Wb.Ext.drew ?_) | (with_reducible refine Wb.Ext.drewN ?_ _) | (with_reducible refine Wb.Ext.alloc ?_ _) | (with_reducible refine Wb.Ext.trans ?_ (by assumption))))
  clear hb3 k0 k1 k2 g0 g1 g2 g3 g4 g5
  cases hf0 : (fe != 0)
  · have HF0 := Lib.hid (show fe = 0 by simpa using hf0)
    go_upto_region 9 with (fail)
    refine Wb.wp_at fun w4 hw4 => ?_
    have he34 : Wb.Ext (w3.alloc (.cells #[.int .i64 fp.year, .int .i64 fp.index, .int .i64 fp.of, .int .i64 fp.from_, .int .i64 fp.to_, .int .i64 fp.pay] 28)) w4 := by rw [hw4]; exact Wb.Ext.refl _
    clear hw4 q0 q1 q2 q3 q4 q5 qf
    have he4 : Wb.Ext w w4 := he3.trans (Wb.Ext.trans ((Wb.Ext.refl _).alloc _) he34)
    obtain ⟨⟨q0, q1, q2, q3, q4, q5⟩, qf, hz⟩ := HQ.out.ext (Wb.Ext.trans ((Wb.Ext.refl _).alloc _) he34)
    obtain ⟨p0, p1, p2, p3, p4, p5⟩ := PerB.new he34 rfl
    clear he34
    go_wp2
    exact bodyPost_ret (v := .tuple #[PerV fp, .int .i64 0]) (by simp [results, Tryd.results22, go_sem, q0, q1, q2, q3, q4, q5, hz]) rfl ⟨by rw [HN.out.1, HN.out.2, if_pos HF0.out, if_pos HF0.out], by (repeat' (first | (with_reducible assumption) | (with_reducible exact Wb.Ext.refl _) | (with_reducible refine Wb.Ext.drew ?_) | (with_reducible refine Wb.Ext.drewN ?_ _) | (with_reducible refine Wb.Ext.alloc ?_ _) | (with_reducible refine Wb.ext_set ?_ (by first | assumption | (simp; done) | (simp; omega) | omega) _) | (with_reducible refine Wb.Ext.trans ?_ (by assumption))))⟩
  · have HF0 := Lib.hid (show ¬ fe = 0 by simpa using hf0)
    go_upto_region 8 with (fail)
    refine Wb.wp_at fun w4 hw4 => ?_
    have he34 : Wb.Ext w3 w4 := by rw [hw4]; (repeat' (first | (with_reducible assumption) | (with_reducible exact Wb.Ext.refl _) | (with_reducible refine Wb.Ext.drew ?_) | (with_reducible refine Wb.Ext.drewN ?_ _) | (with_reducible refine Wb.Ext.alloc ?_ _) | (with_reducible refine Wb.Ext.trans ?_ (by assumption))))
    clear hw4 q0 q1 q2 q3 q4 q5 qf
    have he4 : Wb.Ext w w4 := he3.trans he34
    obtain ⟨⟨q0, q1, q2, q3, q4, q5⟩, qf, hz⟩ := HQ.out.ext he34
    clear he34
    go_wp2
    exact bodyPost_ret (v := .tuple #[PerV zeroPer, .int .i64 6]) (by simp [results, Tryd.results22, go_sem, zeroPer, q0, q1, q2, q3, q4, q5, hz]) rfl ⟨by rw [HN.out.1, HN.out.2, if_neg HF0.out, if_neg HF0.out], by (repeat' (first | (with_reducible assumption) | (with_reducible exact Wb.Ext.refl _) | (with_reducible refine Wb.Ext.drew ?_) | (with_reducible refine Wb.Ext.drewN ?_ _) | (with_reducible refine Wb.Ext.alloc ?_ _) | (with_reducible refine Wb.ext_set ?_ (by first | assumption | (simp; done) | (simp; omega) | omega) _) | (with_reducible refine Wb.Ext.trans ?_ (by assumption))))⟩

theorem next_any (c : Wb.Cal) (p : Wb.Per) (w : World) (hw : LenC w) (hp : LenP w) :
    Calls Tryd.prog 22 #[CalV c, PerV p] w fun e w' => e = .returned (.tuple #[PerV (nextPer c p), .int .i64 (nextErr c p)]) ∧ Wb.Ext w w' := by
  by_cases h0 : Wb.calErr c = 0
  · cases hh : hasB c p
    · rw [show nextPer c p = zeroPer by rw [nextPer, if_neg (by simp [hh])], show nextErr c p = 6 by rw [nextErr, if_pos h0, if_neg (by simp [hh])]]
      exact next_own c p (Lib.hid h0) (Lib.hid hh) w (Lib.hid hw) (Lib.hid hp)
    · refine next_ok c p _ _ (Lib.hid h0) (Lib.hid hh) (Lib.hid rfl) (Lib.hid rfl) (Lib.hid ⟨?_, ?_⟩) w (Lib.hid hw) (Lib.hid hp)
      · rw [nextPer]; simp only [h0, hh, true_and]
      · rw [nextErr, if_pos h0]; simp only [hh, true_and]
  · rw [show nextPer c p = zeroPer by rw [nextPer, if_neg (by simp [h0])], show nextErr c p = Wb.calErr c by rw [nextErr, if_neg h0]]
    exact next_bad c p _ (Lib.hid rfl) (by simpa using h0) w

end Go.Proofs.YtalpdodajcdibaaDoor
