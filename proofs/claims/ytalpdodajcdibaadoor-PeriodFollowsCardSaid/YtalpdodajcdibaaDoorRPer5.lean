/- The reference of chapter 6: Own, Next, Count. -/
import Derived.Test.YtalpdodajcdibaaDoorRPer4
import Derived.BigQuiet
namespace Go.Proofs.YtalpdodajcdibaaDoor
open Go.RowKit
set_option maxRecDepth 4000

theorem own_of {c : Wb.Cal} {p : Wb.Per} (hc : Wb.calErr c = 0) : hasB c p = true ↔ 1900 ≤ p.year ∧ p.year ≤ 2199 ∧ ∃ k : Nat, p.index = k + 1 ∧ (Wb.yearPers c p.year)[k]? = some p := by
  constructor
  · intro h
    obtain ⟨_, y, i, s, h0, h1, h2, e⟩ := hasB_is h
    have hy : p.year = y := by rw [e]; rfl
    have hi : p.index = i + 1 := by rw [e]; rfl
    have hg := Wb.persFrom_get (c := c) (y := y) (n := (Wb.spansOf c y).length) (i := 0) h0.2.2
    rw [← Wb.yearPers, Nat.zero_add, ← e, ← hy] at hg
    exact ⟨by rw [hy]; exact h0.1, by rw [hy]; exact h0.2.1, i, hi, hg⟩
  · rintro ⟨h1, h2, k, hk, hg⟩
    obtain ⟨s, hs, e⟩ := pers_get hg
    refine is_hasB hc ⟨p.year, k, s, ⟨h1, h2, hs⟩, ?_, ?_, e⟩
    · rw [e]; exact Int.le_refl _
    · have := Wb.OneOf.last hc (y := p.year) ⟨h1, h2, hs⟩
      have hf : p.from_ = s.1 := by rw [e]; rfl
      omega

theorem perEq (q p : Wb.Per) (w : World) : (binOp .eql 32 (PerV q) (PerV p)).run Tryd.prog w = .ok (.bool (decide (q = p))) w := by
  obtain ⟨a1, a2, a3, a4, a5, a6⟩ := q
  obtain ⟨b1, b2, b3, b4, b5, b6⟩ := p
  simp only [PerV]
  go_simp
  cases h1 : (a1 == b1) <;> cases h2 : (a2 == b2) <;> cases h3 : (a3 == b3) <;> cases h4 : (a4 == b4) <;> cases h5 : (a5 == b5) <;> cases h6 : (a6 == b6) <;> simp_all
set_option maxHeartbeats 2000000 in
theorem own_any (c : Wb.Cal) (p : Wb.Per) (hc : Wb.calErr c = 0) (w : World) :
    Calls Tryd.prog 36 #[CalV c, PerV p] w fun e w' => e = .returned (.bool (hasB c p)) ∧ Wb.Ext w w' := by
  have HO := Lib.hid (own_of (p := p) hc)
  have HC := Lib.hid hc
  clear hc
  by_cases h0 : p.year < 1900
  · have H := Lib.hid (show hasB c p = false by rw [Bool.eq_false_iff]; intro e; have := (HO.out.1 e).1; omega)
    go_enter Tryd.func36, Tryd.ntmps36
    go_wp2
    go_ret
    exact ⟨Wb.ret_bool H.out.symm, by (repeat' (first | (with_reducible assumption) | (with_reducible exact Wb.Ext.refl _) | (with_reducible refine Wb.Ext.drew ?_) | (with_reducible refine Wb.Ext.drewN ?_ _) | (with_reducible refine Wb.Ext.alloc ?_ _) | (with_reducible refine Wb.Ext.trans ?_ (by assumption))))⟩
  have d0 : decide (p.year < 1900) = false := by simpa using h0
  by_cases h1 : 2199 < p.year
  · have H := Lib.hid (show hasB c p = false by rw [Bool.eq_false_iff]; intro e; have := (HO.out.1 e).2.1; omega)
    go_enter Tryd.func36, Tryd.ntmps36
    go_wp2
    go_ret
    exact ⟨Wb.ret_bool H.out.symm, by (repeat' (first | (with_reducible assumption) | (with_reducible exact Wb.Ext.refl _) | (with_reducible refine Wb.Ext.drew ?_) | (with_reducible refine Wb.Ext.drewN ?_ _) | (with_reducible refine Wb.Ext.alloc ?_ _) | (with_reducible refine Wb.Ext.trans ?_ (by assumption))))⟩
  have d1 : decide (2199 < p.year) = false := by simpa using h1
  have hy1 : 1900 ≤ p.year := by omega
  have hy2 : p.year ≤ 2199 := by omega
  clear h0 h1
  obtain ⟨L, hL⟩ : ∃ L, Wb.yearPers c p.year = L := ⟨_, rfl⟩
  have HL := Lib.hid hL
  have hlen : L.length ≤ 366 := by rw [← hL, Wb.yearPers, Wb.persFrom_len]; exact Wb.spans_len c p.year
  clear hL
  obtain ⟨py, pi, po, pf, pt, pp⟩ := p
  simp only at hy1 hy2 d0 d1
  have HL2 : Hid (Wb.yearPers c py = L) := HL
  clear HL
  by_cases h2 : pi < 1
  · have H := Lib.hid (show hasB c ⟨py, pi, po, pf, pt, pp⟩ = false by rw [Bool.eq_false_iff]; intro e; obtain ⟨_, _, k, hk, _⟩ := HO.out.1 e; simp only at hk; omega)
    have d2 : decide (1 ≤ pi) = false := by simp; omega
    go_enter Tryd.func36, Tryd.ntmps36
    go_wp2_with fail
    refine (ryear_any c py HC.out hy1 hy2 _).mono ?_; rintro e w1 ⟨v, rfl, hv, hb1⟩
    have g1 : w1.cell? ⟨w.heap.size + 1, 1, none⟩ = some (.int .i64 pi) := hb1.keep (by simp [go_sem])
    have he1 : Wb.Ext w w1 := by (repeat' (first | (with_reducible assumption) | (with_reducible exact Wb.Ext.refl _) | (with_reducible refine Wb.Ext.drew ?_) | (with_reducible refine Wb.Ext.drewN ?_ _) | (with_reducible refine Wb.Ext.alloc ?_ _) | (with_reducible refine Wb.Ext.trans ?_ (by assumption))))
    clear hb1 hv
    go_wp2_with fail
    go_quiet (fail)
    go_wp2
    go_ret
    exact ⟨Wb.ret_bool H.out.symm, by (repeat' (first | (with_reducible assumption) | (with_reducible exact Wb.Ext.refl _) | (with_reducible refine Wb.Ext.drew ?_) | (with_reducible refine Wb.Ext.drewN ?_ _) | (with_reducible refine Wb.Ext.alloc ?_ _) | (with_reducible refine Wb.Ext.trans ?_ (by assumption))))⟩
  obtain ⟨k, rfl⟩ : ∃ k : Nat, pi = k + 1 := ⟨(pi - 1).toNat, by omega⟩
  clear h2
  have z1 : decide ((1 : Int) ≤ (k : Int) + 1) = true := by simp; omega
  have z2 : decide ((0 : Int) ≤ (k : Int)) = true := by simp
  by_cases h3 : k < L.length
  · obtain ⟨q, hq⟩ := Wb.get_ex h3
    have H := Lib.hid (show hasB c ⟨py, k + 1, po, pf, pt, pp⟩ = decide (q = ⟨py, k + 1, po, pf, pt, pp⟩) by
      rw [Bool.eq_iff_iff, HO.out, decide_eq_true_iff]
      constructor
      · rintro ⟨_, _, j, hj, hg⟩
        simp only at hj hg
        have : j = k := by omega
        subst this
        rw [HL2.out, hq] at hg; exact Option.some.inj hg
      · intro e
        subst e
        exact ⟨hy1, hy2, k, rfl, by simp only; rw [HL2.out]; exact hq⟩)
    have hki : (k : Int) < L.length := by omega
    have hki2 : (k : Int) + 1 ≤ L.length := by omega
    have e1 : IntKind.i64.wrap (k : Int) = k := IntWalk.i64_in _ (by omega)
    go_enter Tryd.func36, Tryd.ntmps36
    go_wp2_with fail
    refine (ryear_any c py HC.out hy1 hy2 _).mono ?_; rintro e w1 ⟨v, rfl, hv, hb1⟩
    rw [HL2.out] at hv
    obtain ⟨va, vc, rfl⟩ := hv.shape
    obtain ⟨b, off, rfl, hcells⟩ := hv.opened (tne h3)
    have hc0 := hcells k q hq 0 _ rfl
    have hc1 := hcells k q hq 1 _ rfl
    have hc2 := hcells k q hq 2 _ rfl
    have hc3 := hcells k q hq 3 _ rfl
    have hc4 := hcells k q hq 4 _ rfl
    have hc5 := hcells k q hq 5 _ rfl
    simp only [Nat.add_zero] at hc0
    obtain ⟨g0, g1, g2, g3, g4, g5⟩ := PerB.new (p := ⟨py, k + 1, po, pf, pt, pp⟩) (T := 32) (w1 := w1) (n := w.heap.size + 1) hb1 (by simp)
    simp only at g0 g1 g2 g3 g4 g5
    have he1 : Wb.Ext w w1 := by (repeat' (first | (with_reducible assumption) | (with_reducible exact Wb.Ext.refl _) | (with_reducible refine Wb.Ext.drew ?_) | (with_reducible refine Wb.Ext.drewN ?_ _) | (with_reducible refine Wb.Ext.alloc ?_ _) | (with_reducible refine Wb.Ext.trans ?_ (by assumption))))
    clear hb1 hv hcells hq
    have heq := perEq q ⟨py, k + 1, po, pf, pt, pp⟩
    simp only [PerV] at heq
    obtain ⟨bb, hbb⟩ : ∃ bb, decide (q = ⟨py, (k : Int) + 1, po, pf, pt, pp⟩) = bb := ⟨_, rfl⟩
    rw [hbb] at heq
    have HBB := Lib.hid hbb
    clear hbb
    go_wp2_with fail
    go_quiet (fail)
    go_wp2
    go_ret
    exact ⟨Wb.ret_bool (by rw [H.out, HBB.out]), by (repeat' (first | (with_reducible assumption) | (with_reducible exact Wb.Ext.refl _) | (with_reducible refine Wb.Ext.drew ?_) | (with_reducible refine Wb.Ext.drewN ?_ _) | (with_reducible refine Wb.Ext.alloc ?_ _) | (with_reducible refine Wb.Ext.trans ?_ (by assumption))))⟩
  · have H := Lib.hid (show hasB c ⟨py, k + 1, po, pf, pt, pp⟩ = false by
      rw [Bool.eq_false_iff]; intro e; obtain ⟨_, _, j, hj, hg⟩ := HO.out.1 e
      simp only at hj hg
      have := (List.getElem?_eq_some_iff.1 hg).1
      rw [HL2.out] at this
      omega)
    have d2 : decide ((k : Int) + 1 ≤ L.length) = false := by simp; omega
    have d3 : decide (k + 1 ≤ L.length) = false := by simp; omega
    go_enter Tryd.func36, Tryd.ntmps36
    go_wp2_with fail
    refine (ryear_any c py HC.out hy1 hy2 _).mono ?_; rintro e w1 ⟨v, rfl, hv, hb1⟩
    rw [HL2.out] at hv
    obtain ⟨va, vc, rfl⟩ := hv.shape
    have g1 : w1.cell? ⟨w.heap.size + 1, 1, none⟩ = some (.int .i64 (k + 1)) := hb1.keep (by simp [go_sem])
    have he1 : Wb.Ext w w1 := by (repeat' (first | (with_reducible assumption) | (with_reducible exact Wb.Ext.refl _) | (with_reducible refine Wb.Ext.drew ?_) | (with_reducible refine Wb.Ext.drewN ?_ _) | (with_reducible refine Wb.Ext.alloc ?_ _) | (with_reducible refine Wb.Ext.trans ?_ (by assumption))))
    clear hb1 hv
    go_wp2_with fail
    go_quiet (fail)
    go_wp2
    go_ret
    exact ⟨Wb.ret_bool H.out.symm, by (repeat' (first | (with_reducible assumption) | (with_reducible exact Wb.Ext.refl _) | (with_reducible refine Wb.Ext.drew ?_) | (with_reducible refine Wb.Ext.drewN ?_ _) | (with_reducible refine Wb.Ext.alloc ?_ _) | (with_reducible refine Wb.Ext.trans ?_ (by assumption))))⟩

theorem rnext_bad (c : Wb.Cal) (p : Wb.Per) (ce : Int) (HCE : Hid (Wb.calErr c = ce)) (h0 : (ce != 0) = true) (w : World) :
    Calls Tryd.prog 23 #[CalV c, PerV p] w fun e w' => e = .returned (.tuple #[PerV zeroPer, .int .i64 ce]) ∧ Wb.Ext w w' := by
  go_enter Tryd.func23, Tryd.ntmps23
  go_wp2_with fail
  refine (rcheck_any c _).mono ?_; rintro e w1 ⟨rfl, hb1⟩
  rw [HCE.out]
  obtain ⟨⟨q0, q1, q2, q3, q4, q5⟩, qf, hz⟩ := zero6g hb1 (n := w.heap.size + 1 + 1) (by simp)
  have he1 : Wb.Ext w w1 := by (repeat' (first | (with_reducible assumption) | (with_reducible exact Wb.Ext.refl _) | (with_reducible refine Wb.Ext.drew ?_) | (with_reducible refine Wb.Ext.drewN ?_ _) | (with_reducible refine Wb.Ext.alloc ?_ _) | (with_reducible refine Wb.Ext.trans ?_ (by assumption))))
  clear hb1
  go_wp2
  exact bodyPost_ret (v := .tuple #[PerV zeroPer, .int .i64 ce]) (by simp [results, Tryd.results23, go_sem, zeroPer, q0, q1, q2, q3, q4, q5, hz]) rfl ⟨rfl, by (repeat' (first | (with_reducible assumption) | (with_reducible exact Wb.Ext.refl _) | (with_reducible refine Wb.Ext.drew ?_) | (with_reducible refine Wb.Ext.drewN ?_ _) | (with_reducible refine Wb.Ext.alloc ?_ _) | (with_reducible refine Wb.ext_set ?_ (by first | assumption | (simp; done) | (simp; omega) | omega) _) | (with_reducible refine Wb.Ext.trans ?_ (by assumption))))⟩
theorem rnext_own (c : Wb.Cal) (p : Wb.Per) (HCE : Hid (Wb.calErr c = 0)) (HH : Hid (hasB c p = false)) (w : World) :
    Calls Tryd.prog 23 #[CalV c, PerV p] w fun e w' => e = .returned (.tuple #[PerV zeroPer, .int .i64 6]) ∧ Wb.Ext w w' := by
  go_enter Tryd.func23, Tryd.ntmps23
  go_wp2_with fail
  refine (rcheck_any c _).mono ?_; rintro e w1 ⟨rfl, hb1⟩
  rw [HCE.out]
  have HZ := Lib.hid (zero6g hb1 (n := w.heap.size + 1 + 1) (by simp))
  have HC := Lib.hid (CalB.new (c := c) (T := 35) (w1 := w1) (W := w) (Wb.Ext.trans (by (repeat' (first | (with_reducible assumption) | (with_reducible exact Wb.Ext.refl _) | (with_reducible refine Wb.Ext.drew ?_) | (with_reducible refine Wb.Ext.drewN ?_ _) | (with_reducible refine Wb.Ext.alloc ?_ _) | (with_reducible refine Wb.Ext.trans ?_ (by assumption))))) hb1) rfl)
  have HPB := Lib.hid (PerB.new (p := p) (T := 32) (w1 := w1) (W := w.alloc (.cells #[.int .i64 c.kind, .int .i64 c.first, .int .i64 c.lag] 35)) (n := w.heap.size + 1) (Wb.Ext.trans (by (repeat' (first | (with_reducible assumption) | (with_reducible exact Wb.Ext.refl _) | (with_reducible refine Wb.Ext.drew ?_) | (with_reducible refine Wb.Ext.drewN ?_ _) | (with_reducible refine Wb.Ext.alloc ?_ _) | (with_reducible refine Wb.Ext.trans ?_ (by assumption))))) hb1) (by simp))
  have he1 : Wb.Ext w w1 := by (repeat' (first | (with_reducible assumption) | (with_reducible exact Wb.Ext.refl _) | (with_reducible refine Wb.Ext.drew ?_) | (with_reducible refine Wb.Ext.drewN ?_ _) | (with_reducible refine Wb.Ext.alloc ?_ _) | (with_reducible refine Wb.Ext.trans ?_ (by assumption))))
  clear hb1
  obtain ⟨k0, k1, k2⟩ := HC.out
  obtain ⟨g0, g1, g2, g3, g4, g5⟩ := HPB.out
  go_wp2_with fail
  refine (own_any c p HCE.out _).mono ?_; rintro e w2 ⟨rfl, hb2⟩
  rw [HH.out]
  obtain ⟨⟨q0, q1, q2, q3, q4, q5⟩, qf, hz⟩ := HZ.out.ext hb2
  have he2 : Wb.Ext w w2 := by (repeat' (first | (with_reducible assumption) | (with_reducible exact Wb.Ext.refl _) | (with_reducible refine Wb.Ext.drew ?_) | (with_reducible refine Wb.Ext.drewN ?_ _) | (with_reducible refine Wb.Ext.alloc ?_ _) | (with_reducible refine Wb.Ext.trans ?_ (by assumption))))
  clear hb2 k0 k1 k2 g0 g1 g2 g3 g4 g5
  go_wp2
  exact bodyPost_ret (v := .tuple #[PerV zeroPer, .int .i64 6]) (by simp [results, Tryd.results23, go_sem, zeroPer, q0, q1, q2, q3, q4, q5, hz]) rfl ⟨rfl, by (repeat' (first | (with_reducible assumption) | (with_reducible exact Wb.Ext.refl _) | (with_reducible refine Wb.Ext.drew ?_) | (with_reducible refine Wb.Ext.drewN ?_ _) | (with_reducible refine Wb.Ext.alloc ?_ _) | (with_reducible refine Wb.ext_set ?_ (by first | assumption | (simp; done) | (simp; omega) | omega) _) | (with_reducible refine Wb.Ext.trans ?_ (by assumption))))⟩
theorem rnext_end (c : Wb.Cal) (p : Wb.Per) (HCE : Hid (Wb.calErr c = 0)) (HH : Hid (hasB c p = true)) (hto : 84006 ≤ p.to_) (w : World) :
    Calls Tryd.prog 23 #[CalV c, PerV p] w fun e w' => e = .returned (.tuple #[PerV zeroPer, .int .i64 6]) ∧ Wb.Ext w w' := by
  go_enter Tryd.func23, Tryd.ntmps23
  go_wp2_with fail
  refine (rcheck_any c _).mono ?_; rintro e w1 ⟨rfl, hb1⟩
  rw [HCE.out]
  have HZ := Lib.hid (zero6g hb1 (n := w.heap.size + 1 + 1) (by simp))
  have HC := Lib.hid (CalB.new (c := c) (T := 35) (w1 := w1) (W := w) (Wb.Ext.trans (by (repeat' (first | (with_reducible assumption) | (with_reducible exact Wb.Ext.refl _) | (with_reducible refine Wb.Ext.drew ?_) | (with_reducible refine Wb.Ext.drewN ?_ _) | (with_reducible refine Wb.Ext.alloc ?_ _) | (with_reducible refine Wb.Ext.trans ?_ (by assumption))))) hb1) rfl)
  have HPB := Lib.hid (PerB.new (p := p) (T := 32) (w1 := w1) (W := w.alloc (.cells #[.int .i64 c.kind, .int .i64 c.first, .int .i64 c.lag] 35)) (n := w.heap.size + 1) (Wb.Ext.trans (by (repeat' (first | (with_reducible assumption) | (with_reducible exact Wb.Ext.refl _) | (with_reducible refine Wb.Ext.drew ?_) | (with_reducible refine Wb.Ext.drewN ?_ _) | (with_reducible refine Wb.Ext.alloc ?_ _) | (with_reducible refine Wb.Ext.trans ?_ (by assumption))))) hb1) (by simp))
  have he1 : Wb.Ext w w1 := by (repeat' (first | (with_reducible assumption) | (with_reducible exact Wb.Ext.refl _) | (with_reducible refine Wb.Ext.drew ?_) | (with_reducible refine Wb.Ext.drewN ?_ _) | (with_reducible refine Wb.Ext.alloc ?_ _) | (with_reducible refine Wb.Ext.trans ?_ (by assumption))))
  clear hb1
  obtain ⟨k0, k1, k2⟩ := HC.out
  obtain ⟨g0, g1, g2, g3, g4, g5⟩ := HPB.out
  go_wp2_with fail
  refine (own_any c p HCE.out _).mono ?_; rintro e w2 ⟨rfl, hb2⟩
  rw [HH.out]
  obtain ⟨⟨q0, q1, q2, q3, q4, q5⟩, qf, hz⟩ := HZ.out.ext hb2
  have he2 : Wb.Ext w w2 := by (repeat' (first | (with_reducible assumption) | (with_reducible exact Wb.Ext.refl _) | (with_reducible refine Wb.Ext.drew ?_) | (with_reducible refine Wb.Ext.drewN ?_ _) | (with_reducible refine Wb.Ext.alloc ?_ _) | (with_reducible refine Wb.Ext.trans ?_ (by assumption))))
  have j4 := hb2.keep g4
  clear hb2 k0 k1 k2 g0 g1 g2 g3 g4 g5
  go_wp2
  exact bodyPost_ret (v := .tuple #[PerV zeroPer, .int .i64 6]) (by simp [results, Tryd.results23, go_sem, zeroPer, q0, q1, q2, q3, q4, q5, hz]) rfl ⟨rfl, by (repeat' (first | (with_reducible assumption) | (with_reducible exact Wb.Ext.refl _) | (with_reducible refine Wb.Ext.drew ?_) | (with_reducible refine Wb.Ext.drewN ?_ _) | (with_reducible refine Wb.Ext.alloc ?_ _) | (with_reducible refine Wb.ext_set ?_ (by first | assumption | (simp; done) | (simp; omega) | omega) _) | (with_reducible refine Wb.Ext.trans ?_ (by assumption))))⟩
set_option maxHeartbeats 1000000 in
theorem rnext_ok (c : Wb.Cal) (p fp : Wb.Per) (fe : Int) (HCE : Hid (Wb.calErr c = 0)) (HH : Hid (hasB c p = true)) (hto : decide (84006 ≤ p.to_) = false) (HFP : Hid (findPer c p.to_ = fp)) (HFE : Hid (findErr c p.to_ = fe)) (w : World) :
    Calls Tryd.prog 23 #[CalV c, PerV p] w fun e w' => e = .returned (.tuple #[PerV fp, .int .i64 fe]) ∧ Wb.Ext w w' := by
  go_enter Tryd.func23, Tryd.ntmps23
  go_wp2_with fail
  refine (rcheck_any c _).mono ?_; rintro e w1 ⟨rfl, hb1⟩
  rw [HCE.out]
  have HZ := Lib.hid (zero6g hb1 (n := w.heap.size + 1 + 1) (by simp))
  have HC := Lib.hid (CalB.new (c := c) (T := 35) (w1 := w1) (W := w) (Wb.Ext.trans (by (repeat' (first | (with_reducible assumption) | (with_reducible exact Wb.Ext.refl _) | (with_reducible refine Wb.Ext.drew ?_) | (with_reducible refine Wb.Ext.drewN ?_ _) | (with_reducible refine Wb.Ext.alloc ?_ _) | (with_reducible refine Wb.Ext.trans ?_ (by assumption))))) hb1) rfl)
  have HPB := Lib.hid (PerB.new (p := p) (T := 32) (w1 := w1) (W := w.alloc (.cells #[.int .i64 c.kind, .int .i64 c.first, .int .i64 c.lag] 35)) (n := w.heap.size + 1) (Wb.Ext.trans (by (repeat' (first | (with_reducible assumption) | (with_reducible exact Wb.Ext.refl _) | (with_reducible refine Wb.Ext.drew ?_) | (with_reducible refine Wb.Ext.drewN ?_ _) | (with_reducible refine Wb.Ext.alloc ?_ _) | (with_reducible refine Wb.Ext.trans ?_ (by assumption))))) hb1) (by simp))
  have he1 : Wb.Ext w w1 := by (repeat' (first | (with_reducible assumption) | (with_reducible exact Wb.Ext.refl _) | (with_reducible refine Wb.Ext.drew ?_) | (with_reducible refine Wb.Ext.drewN ?_ _) | (with_reducible refine Wb.Ext.alloc ?_ _) | (with_reducible refine Wb.Ext.trans ?_ (by assumption))))
  clear hb1
  obtain ⟨k0, k1, k2⟩ := HC.out
  obtain ⟨g0, g1, g2, g3, g4, g5⟩ := HPB.out
  go_wp2_with fail
  refine (own_any c p HCE.out _).mono ?_; rintro e w2 ⟨rfl, hb2⟩
  rw [HH.out]
  have HZ2 := Lib.hid (HZ.out.ext hb2)
  have HC2 := Lib.hid (HC.out.ext hb2)
  have HPB2 := Lib.hid (HPB.out.ext hb2)
  have he2 : Wb.Ext w w2 := by (repeat' (first | (with_reducible assumption) | (with_reducible exact Wb.Ext.refl _) | (with_reducible refine Wb.Ext.drew ?_) | (with_reducible refine Wb.Ext.drewN ?_ _) | (with_reducible refine Wb.Ext.alloc ?_ _) | (with_reducible refine Wb.Ext.trans ?_ (by assumption))))
  clear hb2 k0 k1 k2 g0 g1 g2 g3 g4 g5
  obtain ⟨k0, k1, k2⟩ := HC2.out
  obtain ⟨g0, g1, g2, g3, g4, g5⟩ := HPB2.out
  go_wp2_with fail
  refine (rfind_any c p.to_ _).mono ?_; rintro e w3 ⟨rfl, hb3⟩
  rw [HFP.out, HFE.out]
  obtain ⟨⟨q0, q1, q2, q3, q4, q5⟩, qf, hz⟩ := HZ2.out.ext hb3
  have he3 : Wb.Ext w w3 := by (repeat' (first | (with_reducible assumption) | (with_reducible exact Wb.Ext.refl _) | (with_reducible refine Wb.Ext.drew ?_) | (with_reducible refine Wb.Ext.drewN ?_ _) | (with_reducible refine Wb.Ext.alloc ?_ _) | (with_reducible refine Wb.Ext.trans ?_ (by assumption))))
  clear hb3 k0 k1 k2 g0 g1 g2 g3 g4 g5
  go_wp2
  exact bodyPost_ret (v := .tuple #[PerV fp, .int .i64 fe]) (by simp [results, Tryd.results23, go_sem, q0, q1, q2, q3, q4, q5, hz]) rfl ⟨rfl, by (repeat' (first | (with_reducible assumption) | (with_reducible exact Wb.Ext.refl _) | (with_reducible refine Wb.Ext.drew ?_) | (with_reducible refine Wb.Ext.drewN ?_ _) | (with_reducible refine Wb.Ext.alloc ?_ _) | (with_reducible refine Wb.ext_set ?_ (by first | assumption | (simp; done) | (simp; omega) | omega) _) | (with_reducible refine Wb.Ext.trans ?_ (by assumption))))⟩
theorem rnext_any (c : Wb.Cal) (p : Wb.Per) (w : World) :
    Calls Tryd.prog 23 #[CalV c, PerV p] w fun e w' => e = .returned (.tuple #[PerV (nextPer c p), .int .i64 (nextErr c p)]) ∧ Wb.Ext w w' := by
  by_cases h0 : Wb.calErr c = 0
  · cases hh : hasB c p
    · rw [show nextPer c p = zeroPer by rw [nextPer, if_neg (by simp [hh])], show nextErr c p = 6 by rw [nextErr, if_pos h0, if_neg (by simp [hh])]]
      exact rnext_own c p (Lib.hid h0) (Lib.hid hh) w
    · obtain ⟨_, hfi⟩ := hasB_is hh
      have hr := is_range h0 hfi
      by_cases hto : 84006 ≤ p.to_
      · have hf : findErr c p.to_ = 15 := by rw [findErr, if_pos h0, if_pos (by omega)]
        rw [show nextPer c p = zeroPer by rw [nextPer, if_neg (by simp [hf])], show nextErr c p = 6 by rw [nextErr, if_pos h0, if_neg (by simp [hf])]]
        exact rnext_end c p (Lib.hid h0) (Lib.hid hh) hto w
      · have hd : decide (84006 ≤ p.to_) = false := by simpa using hto
        have key : nextPer c p = findPer c p.to_ ∧ nextErr c p = findErr c p.to_ := by
          cases hfo : Wb.findOf c p.to_ with
          | none =>
            have e1 : findErr c p.to_ = 6 := by rw [findErr, if_pos h0, if_neg (by omega), hfo]
            have e2 : findPer c p.to_ = zeroPer := by rw [findPer, if_pos h0, hfo]; rfl
            exact ⟨by rw [nextPer, if_neg (by simp [e1]), e2], by rw [nextErr, if_pos h0, if_neg (by simp [e1]), e1]⟩
          | some q =>
            have e1 : findErr c p.to_ = 0 := by rw [findErr, if_pos h0, if_neg (by omega), hfo]
            exact ⟨by rw [nextPer, if_pos ⟨h0, hh, e1⟩], by rw [nextErr, if_pos h0, if_pos ⟨hh, e1⟩, e1]⟩
        rw [key.1, key.2]
        exact rnext_ok c p _ _ (Lib.hid h0) (Lib.hid hh) hd (Lib.hid rfl) (Lib.hid rfl) w
  · rw [show nextPer c p = zeroPer by rw [nextPer, if_neg (by simp [h0])], show nextErr c p = Wb.calErr c by rw [nextErr, if_neg h0]]
    exact rnext_bad c p _ (Lib.hid rfl) (by simpa using h0) w

set_option maxHeartbeats 1000000 in
theorem rcount_any (c : Wb.Cal) (f t : Wb.Per) (w : World) :
    Calls Tryd.prog 24 #[CalV c, PerV f, PerV t] w fun e w' => e = .returned (.int .i64 (countOf c f t)) ∧ Wb.Ext w w' := by
  by_cases hc0 : Wb.calErr c = 0
  case neg =>
    have H := Lib.hid (show countOf c f t = 0 by rw [countOf, if_neg (fun e => hc0 (hasB_is e.1).1)])
    obtain ⟨ce, hce⟩ : ∃ r, Wb.calErr c = r := ⟨_, rfl⟩
    have HCE := Lib.hid hce
    have h0 : (ce != 0) = true := by rw [← hce]; simpa using hc0
    clear hce hc0
    go_enter Tryd.func24, Tryd.ntmps24
    go_wp2_with fail
    refine (rcheck_any c _).mono ?_; rintro e w1 ⟨rfl, hb1⟩
    rw [HCE.out]
    go_wp2
    go_ret
    exact ⟨Wb.ret_int H.out.symm, by (repeat' (first | (with_reducible assumption) | (with_reducible exact Wb.Ext.refl _) | (with_reducible refine Wb.Ext.drew ?_) | (with_reducible refine Wb.Ext.drewN ?_ _) | (with_reducible refine Wb.Ext.alloc ?_ _) | (with_reducible refine Wb.Ext.trans ?_ (by assumption))))⟩
  have HCE := Lib.hid hc0
  clear hc0
  cases hf : hasB c f
  · have H := Lib.hid (show countOf c f t = 0 by rw [countOf, if_neg (by simp [hf])])
    have HF := Lib.hid hf
    clear hf
    go_enter Tryd.func24, Tryd.ntmps24
    go_wp2_with fail
    refine (rcheck_any c _).mono ?_; rintro e w1 ⟨rfl, hb1⟩
    rw [HCE.out]
    obtain ⟨k0, k1, k2⟩ := CalB.new (c := c) (T := 35) (w1 := w1) (W := w) (Wb.Ext.trans (by (repeat' (first | (with_reducible assumption) | (with_reducible exact Wb.Ext.refl _) | (with_reducible refine Wb.Ext.drew ?_) | (with_reducible refine Wb.Ext.drewN ?_ _) | (with_reducible refine Wb.Ext.alloc ?_ _) | (with_reducible refine Wb.Ext.trans ?_ (by assumption))))) hb1) rfl
    obtain ⟨g0, g1, g2, g3, g4, g5⟩ := PerB.new (p := f) (T := 32) (w1 := w1) (W := w.alloc (.cells #[.int .i64 c.kind, .int .i64 c.first, .int .i64 c.lag] 35)) (n := w.heap.size + 1) (Wb.Ext.trans (by (repeat' (first | (with_reducible assumption) | (with_reducible exact Wb.Ext.refl _) | (with_reducible refine Wb.Ext.drew ?_) | (with_reducible refine Wb.Ext.drewN ?_ _) | (with_reducible refine Wb.Ext.alloc ?_ _) | (with_reducible refine Wb.Ext.trans ?_ (by assumption))))) hb1) (by simp)
    have he1 : Wb.Ext w w1 := by (repeat' (first | (with_reducible assumption) | (with_reducible exact Wb.Ext.refl _) | (with_reducible refine Wb.Ext.drew ?_) | (with_reducible refine Wb.Ext.drewN ?_ _) | (with_reducible refine Wb.Ext.alloc ?_ _) | (with_reducible refine Wb.Ext.trans ?_ (by assumption))))
    clear hb1
    go_wp2_with fail
    refine (own_any c f HCE.out _).mono ?_; rintro e w2 ⟨rfl, hb2⟩
    rw [HF.out]
    go_wp2
    go_ret
    exact ⟨Wb.ret_int H.out.symm, by (repeat' (first | (with_reducible assumption) | (with_reducible exact Wb.Ext.refl _) | (with_reducible refine Wb.Ext.drew ?_) | (with_reducible refine Wb.Ext.drewN ?_ _) | (with_reducible refine Wb.Ext.alloc ?_ _) | (with_reducible refine Wb.Ext.trans ?_ (by assumption))))⟩
  cases ht : hasB c t
  · have H := Lib.hid (show countOf c f t = 0 by rw [countOf, if_neg (by simp [ht])])
    have HF := Lib.hid hf
    have HT := Lib.hid ht
    clear hf ht
    go_enter Tryd.func24, Tryd.ntmps24
    go_wp2_with fail
    refine (rcheck_any c _).mono ?_; rintro e w1 ⟨rfl, hb1⟩
    rw [HCE.out]
    have HC := Lib.hid (CalB.new (c := c) (T := 35) (w1 := w1) (W := w) (Wb.Ext.trans (by (repeat' (first | (with_reducible assumption) | (with_reducible exact Wb.Ext.refl _) | (with_reducible refine Wb.Ext.drew ?_) | (with_reducible refine Wb.Ext.drewN ?_ _) | (with_reducible refine Wb.Ext.alloc ?_ _) | (with_reducible refine Wb.Ext.trans ?_ (by assumption))))) hb1) rfl)
    have HPF := Lib.hid (PerB.new (p := f) (T := 32) (w1 := w1) (W := w.alloc (.cells #[.int .i64 c.kind, .int .i64 c.first, .int .i64 c.lag] 35)) (n := w.heap.size + 1) (Wb.Ext.trans (by (repeat' (first | (with_reducible assumption) | (with_reducible exact Wb.Ext.refl _) | (with_reducible refine Wb.Ext.drew ?_) | (with_reducible refine Wb.Ext.drewN ?_ _) | (with_reducible refine Wb.Ext.alloc ?_ _) | (with_reducible refine Wb.Ext.trans ?_ (by assumption))))) hb1) (by simp))
    have HPT := Lib.hid (PerB.new (p := t) (T := 32) (w1 := w1) (n := w.heap.size + 1 + 1) hb1 (by simp))
    have he1 : Wb.Ext w w1 := by (repeat' (first | (with_reducible assumption) | (with_reducible exact Wb.Ext.refl _) | (with_reducible refine Wb.Ext.drew ?_) | (with_reducible refine Wb.Ext.drewN ?_ _) | (with_reducible refine Wb.Ext.alloc ?_ _) | (with_reducible refine Wb.Ext.trans ?_ (by assumption))))
    clear hb1
    obtain ⟨k0, k1, k2⟩ := HC.out
    obtain ⟨g0, g1, g2, g3, g4, g5⟩ := HPF.out
    go_wp2_with fail
    refine (own_any c f HCE.out _).mono ?_; rintro e w2 ⟨rfl, hb2⟩
    rw [HF.out]
    have he2 : Wb.Ext w w2 := by (repeat' (first | (with_reducible assumption) | (with_reducible exact Wb.Ext.refl _) | (with_reducible refine Wb.Ext.drew ?_) | (with_reducible refine Wb.Ext.drewN ?_ _) | (with_reducible refine Wb.Ext.alloc ?_ _) | (with_reducible refine Wb.Ext.trans ?_ (by assumption))))
    clear k0 k1 k2 g0 g1 g2 g3 g4 g5
    obtain ⟨k0, k1, k2⟩ := HC.out.ext hb2
    obtain ⟨g0, g1, g2, g3, g4, g5⟩ := HPT.out.ext hb2
    clear hb2
    go_wp2_with fail
    refine (own_any c t HCE.out _).mono ?_; rintro e w3 ⟨rfl, hb3⟩
    rw [HT.out]
    go_wp2
    go_ret
    exact ⟨Wb.ret_int H.out.symm, by (repeat' (first | (with_reducible assumption) | (with_reducible exact Wb.Ext.refl _) | (with_reducible refine Wb.Ext.drew ?_) | (with_reducible refine Wb.Ext.drewN ?_ _) | (with_reducible refine Wb.Ext.alloc ?_ _) | (with_reducible refine Wb.Ext.trans ?_ (by assumption))))⟩
  obtain ⟨hc, hfi⟩ := hasB_is hf
  obtain ⟨_, hti⟩ := hasB_is ht
  obtain ⟨fr1, fr2, fr3, fr4, fr5, fr6, fr7, fr8, fr9, fr10⟩ := is_range hc hfi
  obtain ⟨tr1, tr2, tr3, tr4, tr5, tr6, tr7, tr8, tr9, tr10⟩ := is_range hc hti
  obtain ⟨c1, c2, c3, c4, c5, c6⟩ := Wb.calErr_ok hc
  have HF := Lib.hid hf
  have HT := Lib.hid ht
  have HFI := Lib.hid hfi
  have HTI := Lib.hid hti
  clear hf ht hc hfi hti
  obtain ⟨kd, fd, lg⟩ := c
  simp only at c1 c2 c3 c4 c5 c6
  have hk : kd = 0 ∨ kd = 1 ∨ kd = 2 := by omega
  clear c3 c4 c5 c6
  go_enter Tryd.func24, Tryd.ntmps24
  go_wp2_with fail
  refine (rcheck_any ⟨kd, fd, lg⟩ _).mono ?_; rintro e w0 ⟨rfl, hb0⟩
  rw [HCE.out]
  have HC := Lib.hid (CalB.new (c := ⟨kd, fd, lg⟩) (T := 35) (w1 := w0) (W := w) (Wb.Ext.trans (by (repeat' (first | (with_reducible assumption) | (with_reducible exact Wb.Ext.refl _) | (with_reducible refine Wb.Ext.drew ?_) | (with_reducible refine Wb.Ext.drewN ?_ _) | (with_reducible refine Wb.Ext.alloc ?_ _) | (with_reducible refine Wb.Ext.trans ?_ (by assumption))))) hb0) rfl)
  have HPF := Lib.hid (PerB.new (p := f) (T := 32) (w1 := w0) (W := w.alloc (.cells #[.int .i64 kd, .int .i64 fd, .int .i64 lg] 35)) (n := w.heap.size + 1) (Wb.Ext.trans (by (repeat' (first | (with_reducible assumption) | (with_reducible exact Wb.Ext.refl _) | (with_reducible refine Wb.Ext.drew ?_) | (with_reducible refine Wb.Ext.drewN ?_ _) | (with_reducible refine Wb.Ext.alloc ?_ _) | (with_reducible refine Wb.Ext.trans ?_ (by assumption))))) hb0) (by simp))
  have HPT := Lib.hid (PerB.new (p := t) (T := 32) (w1 := w0) (n := w.heap.size + 1 + 1) hb0 (by simp))
  have he0 : Wb.Ext w w0 := by (repeat' (first | (with_reducible assumption) | (with_reducible exact Wb.Ext.refl _) | (with_reducible refine Wb.Ext.drew ?_) | (with_reducible refine Wb.Ext.drewN ?_ _) | (with_reducible refine Wb.Ext.alloc ?_ _) | (with_reducible refine Wb.Ext.trans ?_ (by assumption))))
  clear hb0
  obtain ⟨k0, k1, k2⟩ := HC.out
  obtain ⟨g0, g1, g2, g3, g4, g5⟩ := HPF.out
  simp only at k0 k1 k2
  go_wp2_with fail
  refine (own_any ⟨kd, fd, lg⟩ f HCE.out _).mono ?_; rintro e w1 ⟨rfl, hb1⟩
  rw [HF.out]
  have he1 : Wb.Ext w w1 := by (repeat' (first | (with_reducible assumption) | (with_reducible exact Wb.Ext.refl _) | (with_reducible refine Wb.Ext.drew ?_) | (with_reducible refine Wb.Ext.drewN ?_ _) | (with_reducible refine Wb.Ext.alloc ?_ _) | (with_reducible refine Wb.Ext.trans ?_ (by assumption))))
  clear k0 k1 k2 g0 g1 g2 g3 g4 g5
  obtain ⟨k0, k1, k2⟩ := HC.out.ext hb1
  obtain ⟨g0, g1, g2, g3, g4, g5⟩ := HPT.out.ext hb1
  simp only at k0 k1 k2
  go_wp2_with fail
  refine (own_any ⟨kd, fd, lg⟩ t HCE.out _).mono ?_; rintro e w2 ⟨rfl, hb2⟩
  rw [HT.out]
  have he2 : Wb.Ext w w2 := by (repeat' (first | (with_reducible assumption) | (with_reducible exact Wb.Ext.refl _) | (with_reducible refine Wb.Ext.drew ?_) | (with_reducible refine Wb.Ext.drewN ?_ _) | (with_reducible refine Wb.Ext.alloc ?_ _) | (with_reducible refine Wb.Ext.trans ?_ (by assumption))))
  clear k0 k1 k2 g0 g1 g2 g3 g4 g5
  obtain ⟨k0, k1, k2⟩ := HC.out.ext (hb1.trans hb2)
  obtain ⟨g0, g1, g2, g3, g4, g5⟩ := HPT.out.ext (hb1.trans hb2)
  obtain ⟨f0, f1, f2, f3, f4, f5⟩ := HPF.out.ext (hb1.trans hb2)
  simp only at k0 k1 k2
  clear hb1 hb2
  rcases hk with rfl | rfl | rfl
  · go_wp2
    go_ret
    exact ⟨Wb.ret_int (by rw [countOf, if_pos ⟨HF.out, HT.out⟩, if_pos rfl]; omega), he2⟩
  · have ha := diff_exact (is_aligned HCE.out (show (0 : Int) < 1 by decide) HFI.out).2 (is_aligned HCE.out (show (0 : Int) < 1 by decide) HTI.out).2
    simp only at ha
    obtain ⟨m, hm⟩ : ∃ m, (t.from_ - f.from_) / (14 * 1) = m := ⟨_, rfl⟩
    rw [hm] at ha
    have HM := Lib.hid hm
    have m1 : -200000 ≤ m := by omega
    have m2 : m ≤ 200000 := by omega
    have e1 : t.from_ - f.from_ = m * 14 := by omega
    have e3 : (m * 14).tdiv 14 = m := Int.mul_tdiv_cancel _ (by decide)
    clear hm ha
    go_wp2
    go_ret
    exact ⟨Wb.ret_int (by rw [countOf, if_pos ⟨HF.out, HT.out⟩, if_neg (by simp)]; exact HM.out.symm), he2⟩
  · have ha := diff_exact (is_aligned HCE.out (show (0 : Int) < 2 by decide) HFI.out).2 (is_aligned HCE.out (show (0 : Int) < 2 by decide) HTI.out).2
    simp only at ha
    obtain ⟨m, hm⟩ : ∃ m, (t.from_ - f.from_) / (14 * 2) = m := ⟨_, rfl⟩
    rw [hm] at ha
    have HM := Lib.hid hm
    have m1 : -200000 ≤ m := by omega
    have m2 : m ≤ 200000 := by omega
    have e1 : t.from_ - f.from_ = m * 28 := by omega
    have e3 : (m * 28).tdiv 28 = m := Int.mul_tdiv_cancel _ (by decide)
    clear hm ha
    go_wp2
    go_ret
    exact ⟨Wb.ret_int (by rw [countOf, if_pos ⟨HF.out, HT.out⟩, if_neg (by simp)]; exact HM.out.symm), he2⟩

end Go.Proofs.YtalpdodajcdibaaDoor
