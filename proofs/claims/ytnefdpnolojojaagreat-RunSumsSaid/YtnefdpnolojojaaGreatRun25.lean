/- The walk of RunSums. -/
import Derived.Test.YtnefdpnolojojaaGreatMRd
import Derived.Test.YtnefdpnolojojaaGreatMAw
import Derived.Deep.RegionHeldLaw
namespace Go.Proofs.YtnefdpnolojojaaGreat
open Go.RowKit Go.Sort Go.Lib Go.Maps
set_option maxRecDepth 8000
attribute [local go_sem ↓] Go.wp_at_zero Go.wp_at_succ

set_option maxHeartbeats 16000000 in
theorem sums31_any (v : Value) (al : List AcM) (w : World) (h : ActsM w v al) (hz : FitA al) :
    Calls Tryz.prog 6 #[v] w fun e w' => e = .returned (.bool true) ∧ Wb.Ext w w' := by
  obtain ⟨va, vc, rfl⟩ := h.tab.shape
  have HA := Lib.hid h
  have HZ := Lib.hid hz
  clear h hz
  have hmm := @run_makeMap Tryz.prog
  go_enter Tryz.func6, Tryz.ntmps6
  go_wp2_with fail
  go_fit (great31_any _ al _ (HA.out.ext (by (repeat' (first | (with_reducible assumption) | (with_reducible exact Wb.Ext.refl _) | (with_reducible refine Wb.Ext.drew ?_) | (with_reducible refine Wb.Ext.drewN ?_ _) | (with_reducible refine Wb.Ext.alloc ?_ _) | (with_reducible refine Wb.Ext.trans ?_ (by assumption)))))) HZ.out); rintro e w1 ⟨g, rfl, hg, hx1⟩
  have HX1 := Lib.hid (show Wb.Ext w w1 by (repeat' (first | (with_reducible assumption) | (with_reducible exact Wb.Ext.refl _) | (with_reducible refine Wb.Ext.drew ?_) | (with_reducible refine Wb.Ext.drewN ?_ _) | (with_reducible refine Wb.Ext.alloc ?_ _) | (with_reducible refine Wb.Ext.trans ?_ (by assumption)))))
  clear hx1
  cases g
  case true =>
    clear hg
    go_wp2_with fail
    go_fit (awake31_any _); rintro e w2 ⟨rfl, hx2⟩
    have HX2 := Lib.hid (HX1.out.trans hx2)
    clear hx2
    go_wp2
    exact bodyPost_ret (v := .bool true) (by simp [results, Tryz.results6, go_sem]) rfl ⟨rfl, HX2.out⟩
  case false =>
  have HSM := Lib.hid (hg rfl)
  clear hg
  go_upto_region 5 with (fail)
  refine Wb.wp_at fun WB hWB => ?_
  obtain ⟨A, hA⟩ : ∃ A, w1.heap.size = A := ⟨_, rfl⟩
  have HI : Hid (SumI w A (A + 1) 0 WB none 0 0 none none Wb.noBk [] 0 (fun _ => 0)) := Lib.hid (by
    have hs := HX1.out.size
    refine ⟨by rw [hWB, ← hA]; simp [go_sem], by rw [hWB, ← hA]; simp [go_sem], by rw [hWB, ← hA]; simp [go_sem], fun j => by rw [hWB, ← hA]; simp [go_sem], bk_none _ _, bki_none, ⟨fun _ => none, ?_, fun p hp => rfl⟩, (fun p => rfl), (fun p => ⟨Int.le_refl _, by simp⟩), ⟨by rw [hWB, ← hA]; simp <;> omega, by rw [hWB, ← hA]; simp, by omega, by omega⟩, HX1.out.trans (by rw [hWB]; (repeat' (first | (with_reducible assumption) | (with_reducible exact Wb.Ext.refl _) | (with_reducible refine Wb.Ext.drew ?_) | (with_reducible refine Wb.Ext.drewN ?_ _) | (with_reducible refine Wb.Ext.alloc ?_ _) | (with_reducible refine Wb.Ext.trans ?_ (by assumption)))))⟩
    rw [hWB]
    exact kmap_made kU32 (w1.alloc _) (.int .i64 0) (A + 1) (by simp [← hA]))
  rw [hA]
  clear hWB hA hmm
  go_wp2_with fail
  go_loopw [5] (fun iv wr => ∃ (j : Nat) (ra : Option Addr) (rl rc : Nat) (mp mo : Option Nat) (B : Wb.Bk) (ks : List Int) (N : Nat) (sum : Int → Int), j ≤ al.length ∧ iv = .int .i64 j ∧ Hid (SumI w A (A + 1) j wr ra rl rc mp mo B ks N sum)) (fun iv _ => al.length - (intOf iv).toNat)
  case atStart => exact ⟨0, none, 0, 0, none, none, Wb.noBk, [], 0, fun _ => 0, Nat.zero_le _, rfl, HI⟩
  case round =>
    clear HI
    obtain ⟨j, ra, rl, rc, mp, mo, B, ks, N, sum, hj, rfl, HI⟩ := hrel
    obtain ⟨wO, hwz⟩ : ∃ z, z = wr := ⟨_, rfl⟩
    subst hwz
    by_cases hlt : j < al.length
    case neg =>
      have d1 : decide ((j : Int) < (al.length : Int)) = false := by simp; omega
      have n1 : ¬ (j : Int) < (al.length : Int) := by omega
      clear hlt
      go_wp2_with fail
      go_fit (awake31_any _); rintro e w2 ⟨rfl, hx2⟩
      have HX2 := Lib.hid (show Wb.Ext w w2 from HI.out.ext.trans (by (repeat' (first | (with_reducible assumption) | (with_reducible exact Wb.Ext.refl _) | (with_reducible refine Wb.Ext.drew ?_) | (with_reducible refine Wb.Ext.drewN ?_ _) | (with_reducible refine Wb.Ext.alloc ?_ _) | (with_reducible refine Wb.Ext.trans ?_ (by assumption))))))
      clear hx2
      go_wp2
      exact bodyPost_ret (v := .bool true) (by simp [results, Tryz.results6, go_sem]) rfl ⟨rfl, HX2.out⟩
    obtain ⟨a, ha⟩ := Wb.get_ex hlt
    have hmem := List.mem_of_getElem? ha
    have hHW := HA.out.each a hmem
    obtain ⟨xa, xc, hav⟩ := hHW.tab.shape
    obtain ⟨b, off, hb, hc⟩ := HA.out.tab.opened (by rintro rfl; simp at ha)
    obtain rfl : va = some ⟨b, off, none⟩ := hb
    have c0 := hc j a ha 0 _ rfl
    have c1 := hc j a ha 1 _ rfl
    have c2 := hc j a ha 2 _ rfl
    have c3 := hc j a ha 3 (.slice xa a.hs.length xc) (by rw [← hav]; rfl)
    rw [Nat.add_zero] at c0
    have l0 : ∀ w2, Wb.Ext wO w2 → w2.cell? ⟨b, off + j * 4, none⟩ = some (.int .i64 a.y) := fun w2 k => (HI.out.ext.trans k).keep c0
    have l1 : ∀ w2, Wb.Ext wO w2 → w2.cell? ⟨b, off + j * 4 + 1, none⟩ = some (.int .i64 a.i) := fun w2 k => (HI.out.ext.trans k).keep c1
    have l2 : ∀ w2, Wb.Ext wO w2 → w2.cell? ⟨b, off + j * 4 + 2, none⟩ = some (.int .i64 a.k) := fun w2 k => (HI.out.ext.trans k).keep c2
    have l3 : ∀ w2, Wb.Ext wO w2 → w2.cell? ⟨b, off + j * 4 + 3, none⟩ = some (.slice xa a.hs.length xc) := fun w2 k => (HI.out.ext.trans k).keep c3
    have k0 : ∀ w2, Wb.Ext wO w2 → w2.cell? ⟨A, 0, none⟩ = some (.slice ra rl rc) := fun w2 k => k.keep HI.out.a0
    have k1 : ∀ w2, Wb.Ext wO w2 → w2.cell? ⟨A, 1, none⟩ = some (.map mp) := fun w2 k => k.keep HI.out.a1
    have k2 : ∀ w2, Wb.Ext wO w2 → w2.cell? ⟨A, 2, none⟩ = some (.map mo) := fun w2 k => k.keep HI.out.a2
    have hji : (j : Int) < al.length := by omega
    have d1 : decide ((j : Int) < (al.length : Int)) = true := by simp; omega
    have hal := HSM.out.1
    have hsa := HSM.out.2 a hmem
    have HSA := Lib.hid hsa.2
    have hsl := hsa.1
    have HH := Lib.hid (show HdsM w (.slice xa a.hs.length xc) a.hs by rw [← hav]; exact hds_small hHW hsa.2)
    obtain ⟨hs, hk1, hk2, hk3⟩ := keysH_of (fun x hx => (hHW.each x hx).2)
    have hlow := HI.out.lt
    have HT := Lib.hid (show ∀ W, Wb.Ext wO W → Calls Tryz.prog 20 #[.slice xa a.hs.length xc] W fun e w' => ∃ M lo, e = .returned (.map (some M)) ∧ lo = W.heap.size ∧ Hid (TabH w lo w' M a.hs) ∧ wO.heap.size ≤ lo ∧ lo ≤ M ∧ M < w'.heap.size ∧ Wb.Ext W w' from fun W k => by
      refine (tab_law HH.out hsl (HI.out.ext.trans k)).mono ?_
      rintro e w' ⟨M, rfl, h1, h2, h3, h4⟩
      exact ⟨M, W.heap.size, rfl, rfl, Lib.hid h1, k.size, h2, h3, h4⟩)
    have HDO := Lib.hid (show ∀ W' W lo M, Hid (TabH w lo W' M a.hs) → wO.heap.size ≤ lo → Wb.Ext wO W → Wb.Ext W' W → Calls Tryz.prog 12 #[.agg #[.slice ra rl rc, .map mp, .map mo], .int .i64 a.y, .int .i64 a.i, .int .i64 a.k, .map (some M)] W fun e w' => ∃ (ra' : Option Addr) (rl' rc' : Nat) (mp' mo' : Option Nat) (B' : Wb.Bk) (n1 y1 i1 k1 : Int) (qa : Option Addr) (qc : Nat) (rows : List RwM) (E : Int) (nW : Nat), e = .returned (.tuple #[.agg #[.slice ra' rl' rc', .map mp', .map mo'], .agg #[.int .i64 n1, .int .i64 y1, .int .i64 i1, .int .i64 k1, .slice qa rows.length qc], .int .i64 E]) ∧
      nW = W.heap.size ∧ wO.heap.size ≤ nW ∧ Hid (DidF (fun q => q < nW → Ok0 (fun q => q = A ∨ q = A + 1) wO.heap.size lo W'.heap.size q) w' (.slice ra' rl' rc') mp' mo' B B' a.y a.i a.k (SH a.hs) hs ks N ⟨n1, y1, i1, k1, .slice qa rows.length qc, rows⟩ E) ∧ Hid (BkI (j + 1) B' (ks ++ hs) (N + ks.length + hs.length)) ∧ Wb.Ext W w' from fun W' W lo M h1 h2 h3 h4 => by
      refine (did_law (P := fun q => q = A ∨ q = A + 1) (j := j) HI.out.book HI.out.ok (by omega) h1.out HI.out.ext.size (fun q hq => by omega) h2 h3 h4 hk1 hk2 hsl hk3 (fun p => sh_few HSA.out p)).mono ?_
      rintro e w' ⟨ra', rl', rc', mp', mo', B', n1, y1, i1, k1, qa, qc, rows, E, rfl, h5, h6, h7⟩
      exact ⟨ra', rl', rc', mp', mo', B', n1, y1, i1, k1, qa, qc, rows, E, W.heap.size, rfl, rfl, h3.size, Lib.hid h5, Lib.hid h6, h7⟩)
    clear ha hmem hHW hav hc c0 c1 c2 c3 hsa hk1 hk2 hlt
    go_upto_region 8 with (fail)
    go_cut [6, 7, 8] (fun c r e wx => ∃ (C R : Nat) (ra' : Option Addr) (rl' rc' : Nat) (mp' mo' : Option Nat) (B' : Wb.Bk) (n1 y1 i1 k1 : Int) (qa : Option Addr) (qc : Nat) (rows : List RwM) (E : Int), c = .pointer (some ⟨C, 0, none⟩) ∧ r = .pointer (some ⟨R, 0, none⟩) ∧ e = .int .i64 E ∧ wO.heap.size ≤ C ∧ wO.heap.size ≤ R ∧ Hid (BkI (j + 1) B' (ks ++ hs) (N + ks.length + hs.length)) ∧
      (DidF (fun q => ¬ (q = A ∨ q = A + 1)) wx (.slice ra' rl' rc') mp' mo' B B' a.y a.i a.k (SH a.hs) hs ks N ⟨n1, y1, i1, k1, .slice qa rows.length qc, rows⟩ E ∧ wx.cell? ⟨C, 0, none⟩ = some (.slice ra' rl' rc') ∧ wx.cell? ⟨C, 1, none⟩ = some (.map mp') ∧ wx.cell? ⟨C, 2, none⟩ = some (.map mo') ∧ wx.cell? ⟨R, 4, none⟩ = some (.slice qa rows.length qc) ∧ Wb.Ext wO wx))
    case first =>
      go_wp2_with fail
      go_region_held_law (fun w2 => Wb.Ext wO w2) ((repeat' (first | (with_reducible assumption) | (with_reducible exact Wb.Ext.refl _) | (with_reducible refine Wb.Ext.drew ?_) | (with_reducible refine Wb.Ext.drewN ?_ _) | (with_reducible refine Wb.Ext.alloc ?_ _) | (with_reducible refine Wb.ext_set ?_ (by first | assumption | (simp; done) | (simp; omega) | omega) _) | (with_reducible refine Wb.Ext.trans ?_ (by assumption))))) (first
        | (go_at_call 20; refine (HT.out _ (by (repeat' (first | (with_reducible assumption) | (with_reducible exact Wb.Ext.refl _) | (with_reducible refine Wb.Ext.drew ?_) | (with_reducible refine Wb.Ext.drewN ?_ _) | (with_reducible refine Wb.Ext.alloc ?_ _) | (with_reducible refine Wb.Ext.trans ?_ (by assumption)))))).mono ?_; rintro e w' ⟨M, lo, rfl, hlw, hT, hlo, hM1, hM2, hx⟩
           (try simp at hlw)
           (try (refine boxz_cut (X := wO.heap.size) hx ?_ ?_; (focus ((simp [BoxZ, go_sem]; done))); intro rz; have bz2 := rz; have lrz := rz.lt; have nrz := Nat.ne_of_lt rz.lt; have mrz := (Nat.ne_of_lt rz.lt).symm; obtain ⟨q0, q1, q2, q3, q4, qf⟩ := bz2))
           (try (refine boxz_cut (X := wO.heap.size + 1) hx ?_ ?_; (focus ((simp [BoxZ, go_sem]; done))); intro rz; have bz2 := rz; have lrz := rz.lt; have nrz := Nat.ne_of_lt rz.lt; have mrz := (Nat.ne_of_lt rz.lt).symm; obtain ⟨q0, q1, q2, q3, q4, qf⟩ := bz2))
           (try (refine bokz_cut (X := wO.heap.size) hx ?_ ?_; (focus ((simp [BokZ, go_sem]; done))); intro cz; have cz2 := cz; have lcz := cz.lt; have ncz := Nat.ne_of_lt cz.lt; have mcz := (Nat.ne_of_lt cz.lt).symm; obtain ⟨s0, s1, s2, sf⟩ := cz2))
           (try (refine bokz_cut (X := wO.heap.size + 1) hx ?_ ?_; (focus ((simp [BokZ, go_sem]; done))); intro cz; have cz2 := cz; have lcz := cz.lt; have ncz := Nat.ne_of_lt cz.lt; have mcz := (Nat.ne_of_lt cz.lt).symm; obtain ⟨s0, s1, s2, sf⟩ := cz2)))
        | (go_at_call 12; refine (HDO.out _ _ _ _ hT hlo (by (repeat' (first | (with_reducible assumption) | (with_reducible exact Wb.Ext.refl _) | (with_reducible refine Wb.Ext.drew ?_) | (with_reducible refine Wb.Ext.drewN ?_ _) | (with_reducible refine Wb.Ext.alloc ?_ _) | (with_reducible refine Wb.Ext.trans ?_ (by assumption))))) (by (repeat' (first | (with_reducible assumption) | (with_reducible exact Wb.Ext.refl _) | (with_reducible refine Wb.Ext.drew ?_) | (with_reducible refine Wb.Ext.drewN ?_ _) | (with_reducible refine Wb.Ext.alloc ?_ _) | (with_reducible refine Wb.Ext.trans ?_ (by assumption)))))).mono ?_; rintro e w9 ⟨ra', rl', rc', mp', mo', B', n1, y1, i1, k1, qa, qc, rows, E, nW, rfl, hnW, hnO, hD9, hI9, hx9⟩
           have hsz9 := hx9.size
           (try simp at hnW)
           (try simp at hsz9)
           (try (have rz9 := BoxZ.ext rz (show Wb.Ext w' w9 by (repeat' (first | (with_reducible assumption) | (with_reducible exact Wb.Ext.refl _) | (with_reducible refine Wb.Ext.drew ?_) | (with_reducible refine Wb.Ext.drewN ?_ _) | (with_reducible refine Wb.Ext.alloc ?_ _) | (with_reducible refine Wb.Ext.trans ?_ (by assumption))))); have rz2 := rz9; have lrz9 := rz9.lt; have nrz9 := Nat.ne_of_lt rz9.lt; have mrz9 := (Nat.ne_of_lt rz9.lt).symm; obtain ⟨q0, q1, q2, q3, q4, qf⟩ := rz2))
           (try (have cz9 := BokZ.ext cz (show Wb.Ext w' w9 by (repeat' (first | (with_reducible assumption) | (with_reducible exact Wb.Ext.refl _) | (with_reducible refine Wb.Ext.drew ?_) | (with_reducible refine Wb.Ext.drewN ?_ _) | (with_reducible refine Wb.Ext.alloc ?_ _) | (with_reducible refine Wb.Ext.trans ?_ (by assumption))))); have cz2 := cz9; have lcz9 := cz9.lt; have ncz9 := Nat.ne_of_lt cz9.lt; have mcz9 := (Nat.ne_of_lt cz9.lt).symm; obtain ⟨s0, s1, s2, sf⟩ := cz2))
           (try (refine boxz_cut (X := w'.heap.size) hx9 ?_ ?_; (focus ((simp [BoxZ, go_sem]; done))); intro rz9; have bz2 := rz9; have lrz9 := rz9.lt; have nrz9 := Nat.ne_of_lt rz9.lt; have mrz9 := (Nat.ne_of_lt rz9.lt).symm; obtain ⟨q0, q1, q2, q3, q4, qf⟩ := bz2))
           (try (refine boxz_cut (X := w'.heap.size + 1) hx9 ?_ ?_; (focus ((simp [BoxZ, go_sem]; done))); intro rz9; have bz2 := rz9; have lrz9 := rz9.lt; have nrz9 := Nat.ne_of_lt rz9.lt; have mrz9 := (Nat.ne_of_lt rz9.lt).symm; obtain ⟨q0, q1, q2, q3, q4, qf⟩ := bz2))
           (try (refine bokz_cut (X := w'.heap.size) hx9 ?_ ?_; (focus ((simp [BokZ, go_sem]; done))); intro cz9; have cz2 := cz9; have lcz9 := cz9.lt; have ncz9 := Nat.ne_of_lt cz9.lt; have mcz9 := (Nat.ne_of_lt cz9.lt).symm; obtain ⟨s0, s1, s2, sf⟩ := cz2))
           (try (refine bokz_cut (X := w'.heap.size + 1) hx9 ?_ ?_; (focus ((simp [BokZ, go_sem]; done))); intro cz9; have cz2 := cz9; have lcz9 := cz9.lt; have ncz9 := Nat.ne_of_lt cz9.lt; have mcz9 := (Nat.ne_of_lt cz9.lt).symm; obtain ⟨s0, s1, s2, sf⟩ := cz2))))
      all_goals go_wp2_with fail
      all_goals go_meet
      all_goals exact ⟨_, _, ra', rl', rc', mp', mo', B', n1, y1, i1, k1, qa, qc, rows, E, rfl, rfl, rfl, by omega, by omega, hI9, did_at hD9.out (by (repeat' (first | (with_reducible exact Kept.refl) | (with_reducible refine Kept.alloc' ?_ _) | (with_reducible refine Kept.setj ?_ ?_) | (dsimp only [Ok0]; omega)))) (fun q hq => by omega) hlo hnO, by go_simp, by go_simp, by go_simp, by go_simp, by (repeat' (first | (with_reducible assumption) | (with_reducible exact Wb.Ext.refl _) | (with_reducible refine Wb.Ext.drew ?_) | (with_reducible refine Wb.Ext.drewN ?_ _) | (with_reducible refine Wb.Ext.alloc ?_ _) | (with_reducible refine Wb.ext_set ?_ (by first | assumption | (simp; done) | (simp; omega) | omega) _) | (with_reducible refine Wb.Ext.trans ?_ (by assumption))))⟩
    case rest =>
      obtain ⟨C, R, ra', rl', rc', mp', mo', B', n1, y1, i1, k9, qa, qc, rows, E, rfl, rfl, rfl, nC, nR, hI9, hD, e0, e1, e2, r4, hxO⟩ := hcut
      obtain ⟨wD, hwz⟩ : ∃ z, z = wc := ⟨_, rfl⟩
      subst hwz
      have HD := Lib.hid hD
      have HXO := Lib.hid hxO
      clear hD HT HDO
      by_cases hE : E = 0
      case neg =>
        have g1 : (E == 0) = false := by simpa using hE
        have g2 : (E != 0) = true := by simpa using hE
        have HN := Lib.hid (HI.out.skip hxO)
        clear l0 l1 l2 l3 k0 k1 k2 hxO hE
        go_wp2
        go_roundw
        case rel => exact ⟨j + 1, ra, rl, rc, mp, mo, B, ks, N, sum, by omega, by go_num, HN⟩
        case measure => first | (simp [intOf]; done) | (simp [intOf]; omega)
      subst hE
      replace k0 := k0 _ hxO
      replace k1 := k1 _ hxO
      replace k2 := k2 _ hxO
      have af : ∀ i, wD.frozen? ⟨A, i, none⟩ = false := fun i => (hxO.cells.2 _ _ hlow.1).trans (HI.out.af i)
      have hCA : ¬ C = A := by omega
      have hAC : ¬ A = C := by omega
      have hRA : ¬ R = A := by omega
      have hAR : ¬ A = R := by omega
      clear l0 l1 l2 l3 hxO
      go_upto_region 11 with (fail)
      refine Wb.wp_at fun wA hwA => ?_
      have hkA : Kept (fun q => q ≠ A) wD wA := by
        rw [hwA]
        exact ((Kept.refl.setj (fun h => h rfl)).setj (fun h => h rfl)).setj (fun h => h rfl)
      have hxA : Wb.Ext w wA := by
        have h1 : Wb.Ext w wD := HI.out.ext.trans HXO.out
        have h2 := hlow.2.2.1
        rw [hwA]; (repeat' (first | (with_reducible assumption) | (with_reducible exact Wb.Ext.refl _) | (with_reducible refine Wb.Ext.drew ?_) | (with_reducible refine Wb.Ext.drewN ?_ _) | (with_reducible refine Wb.Ext.alloc ?_ _) | (with_reducible refine Wb.ext_set ?_ (by first | assumption | (simp; done) | (simp; omega) | omega) _) | (with_reducible refine Wb.Ext.trans ?_ (by assumption))))
      replace k0 : wA.cell? ⟨A, 0, none⟩ = some (.slice ra' rl' rc') := by rw [hwA]; simp [go_sem, k0, k1, k2]
      replace k1 : wA.cell? ⟨A, 1, none⟩ = some (.map mp') := by rw [hwA]; simp [go_sem, k0, k1, k2]
      replace k2 : wA.cell? ⟨A, 2, none⟩ = some (.map mo') := by rw [hwA]; simp [go_sem, k0, k1, k2]
      replace r4 : wA.cell? ⟨R, 4, none⟩ = some (.slice qa rows.length qc) := hkA.cell (fun h => hRA h) r4
      replace af : ∀ i, wA.frozen? ⟨A, i, none⟩ = false := fun i => by rw [hwA]; simp [go_sem, af]
      have hsA : wD.heap.size ≤ wA.heap.size := hkA.size
      have hsD : wO.heap.size ≤ wD.heap.size := HXO.out.size
      have HKA := Lib.hid hkA
      have HXA := Lib.hid hxA
      have HBH := Lib.hid (did_ok HD.out HI.out.ok)
      have HOKP := Lib.hid (row_ok HI.out.book (fun x hx => (HH.out.each x hx).2) HBH.out)
      have hrl := ((HD.out.rows wD .refl).many : rows.length ≤ 100000)
      have HS0 : Hid (SumK wA (A + 1) j wA sum (rows.map RwM.c) 0) := Lib.hid (by
        obtain ⟨f, h1, h2⟩ := HI.out.map
        exact ⟨⟨f, (KMap.ext h1 HXO.out).keptF hkA (by omega), h2⟩, .refl, Nat.le_refl _⟩)
      have HBK := Lib.hid (HD.out.book.kept (hkA.mono fun q _ h e => h (.inl e)))
      clear hwA hkA hxA e0 e1 e2 HX1 HSM HZ
      go_wp2_with fail
      go_loopw [9] (fun iv wr => ∃ k : Nat, k ≤ rows.length ∧ iv = .int .i64 k ∧ Hid (SumK wA (A + 1) j wr sum (rows.map RwM.c) k)) (fun iv _ => rows.length - (intOf iv).toNat)
      case atStart => exact ⟨0, Nat.zero_le _, rfl, HS0⟩
      case round =>
        clear HS0
        obtain ⟨k, hk, rfl, HS⟩ := hrel
        obtain ⟨wK, hwz⟩ : ∃ z, z = wr := ⟨_, rfl⟩
        subst hwz
        replace k0 := HS.out.kept.cell (by omega) k0
        replace k1 := HS.out.kept.cell (by omega) k1
        replace k2 := HS.out.kept.cell (by omega) k2
        replace r4 := HS.out.kept.cell (by omega) r4
        have hkl : (rows.map RwM.c).length = rows.length := by rw [List.length_map]
        by_cases hlk9 : k < rows.length
        case neg =>
          obtain rfl : k = rows.length := by omega
          have d2 : decide ((rows.length : Int) < (rows.length : Int)) = false := by simp
          have HN : Hid (SumI w A (A + 1) (j + 1) wK ra' rl' rc' mp' mo' B' (ks ++ hs) (N + ks.length + hs.length) (Wb.addR sum (rows.map RwM.c))) := Lib.hid (by
            have hf := HS.out.kept
            have hz := HS.out.size
            refine ⟨k0, k1, k2, fun i => hf.frozen (by omega) (by omega) (af i), HBK.out.kept (hf.mono fun q _ h e => h (.inr e)), hI9.out, ?_, fun p => Wb.sum_addR HBH.out HI.out.eq p, fun p => ?_, ⟨by omega, by omega, hlow.2.2.1, hlow.2.2.2⟩, hf.old HXA.out (fun i hi => by omega)⟩
            · obtain ⟨f, h1, h2⟩ := HS.out.map
              rw [← hkl, List.take_length] at h2
              exact ⟨f, h1.mono (by omega), h2⟩
            · have := HI.out.low p
              have h2 := Wb.addR_bound (b := 1125899906842624) (c := 1125899906842624 * j) (s := sum) (p := p) HBH.out.one (fun r hr => (HBH.out.rows r hr).1.paid) (by omega) this.1 this.2
              have h3 : (RnM.c ⟨n1, y1, i1, k9, .slice qa rows.length qc, rows⟩).rows = rows.map RwM.c := rfl
              rw [h3] at h2
              omega)
          clear hlk9 hk
          go_wp2
          go_roundw
          case rel => exact ⟨j + 1, ra', rl', rc', mp', mo', B', ks ++ hs, N + ks.length + hs.length, Wb.addR sum (rows.map RwM.c), by omega, by go_num, HN⟩
          case measure => first | (simp [intOf]; done) | (simp [intOf]; omega)
        obtain ⟨r, hr⟩ := Wb.get_ex hlk9
        have hmem := List.mem_of_getElem? hr
        have hkM : Kept (fun q => ¬ (q = A ∨ q = A + 1)) wD wK := (HKA.out.mono fun q _ h e => h (.inl e)).trans (HS.out.kept.mono fun q _ h e => h (.inr e))
        obtain ⟨rb, roff, hrb, hrc⟩ := (HD.out.rows wK hkM).tab.opened (by rintro rfl; simp at hr)
        obtain rfl : qa = some ⟨rb, roff, none⟩ := hrb
        have p0 := hrc k r hr 0 _ rfl
        have p6 := hrc k r hr 6 _ rfl
        have p7 := hrc k r hr 7 _ rfl
        rw [Nat.add_zero] at p0
        have hcm : r.c ∈ rows.map RwM.c := List.mem_map_of_mem hmem
        have hck : (rows.map RwM.c)[k]? = some r.c := by rw [List.getElem?_map, hr]; rfl
        have hok : kU32.ok r.p := HOKP.out r.c hcm
        obtain ⟨hro, hpo⟩ := HBH.out.rows r.c hcm
        have hpb : 0 ≤ r.paid ∧ r.paid ≤ 1125899906842624 := hro.paid
        have hob : 0 ≤ r.owed ∧ r.owed ≤ 1125899906842624 := hro.owed
        have hlowp := HI.out.low r.p
        have s1 : Wb.addR sum ((rows.map RwM.c).take k) r.p = sum r.p := Wb.addR_at (r := r.c) HBH.out.one hck
        have s2 : Wb.addR sum (rows.map RwM.c) r.p = sum r.p + r.paid := Wb.addR_row (r := r.c) HBH.out.one hcm
        have heq : sum r.p + r.paid - B'.owed r.p = Wb.nlC (B'.paid r.p) := by rw [← s2]; exact Wb.sum_addR HBH.out HI.out.eq r.p
        have hpo2 : B'.owed r.p = r.owed := hpo
        obtain ⟨V, hV⟩ : ∃ V, sum r.p = V := ⟨_, rfl⟩
        rw [hV] at s1 s2 heq hlowp
        obtain ⟨f, hm1, hm2⟩ := HS.out.map
        have hlk : (Instr.lookup 25 (.map (some (A + 1))) (.int .u32 r.p) false).run Tryz.prog wK.drew = .ok (.int .i64 V) wK.drew := by
          have := KMapO.look (p := r.p) (KMap.opt (hm1.ext (Wb.Ext.drew (.refl wK)))) Tryz.underlying25 zeroCents hok
          rw [hm2 r.p hok, s1] at this; exact this
        obtain ⟨w2, hrun, hm3, hg⟩ := KMap.update (hm1.ext (Wb.Ext.drew (.refl wK))) Tryz.underlying25 (by unfold maxLen; omega) hok (.int .i64 (V + r.paid))
        have hrun : (Instr.mapUpdate 25 (.map (some (A + 1))) (.int .u32 r.p) (.int .i64 (V + r.paid))).run Tryz.prog wK.drew = .ok () w2 := hrun
        have hwv : IntKind.i64.wrap (V + r.paid) = V + r.paid := IntWalk.i64_in _ (by omega)
        have hk2 : Kept (fun q => q ≠ A + 1) wK w2 := .trans (.ext (Wb.Ext.drew (.refl wK))) (.grown hg (fun q e _ h => by cases e; exact h rfl))
        have HS2 : Hid (SumK wA (A + 1) j w2 sum (rows.map RwM.c) (k + 1)) := Lib.hid ⟨⟨_, hm3, fun q hq => by
            have e3 : r.c.p = r.p := rfl
            have e4 : r.c.paid = r.paid := rfl
            rw [take_snoc hck, Wb.addR_snoc, e3, e4]
            by_cases e : r.p = q
            · subst e
              rw [if_pos rfl, if_pos rfl, s1]; rfl
            · rw [if_neg e, if_neg e]; exact hm2 q hq⟩, HS.out.kept.trans hk2, Nat.le_trans HS.out.size hk2.size⟩
        have HSK := Lib.hid (show Wb.addR sum ((rows.map RwM.c).take (k + 1)) r.p = V + r.paid by
          have e3 : r.c.p = r.p := rfl
          have e4 : r.c.paid = r.paid := rfl
          rw [take_snoc hck, Wb.addR_snoc, e3, e4, if_pos rfl, s1])
        have rA : ∀ x, Kept (fun q => q ≠ A + 1) wK x → x.cell? ⟨R, 4, none⟩ = some (.slice (some ⟨rb, roff, none⟩) rows.length qc) := fun x h => h.cell (by omega) r4
        have rX : ∀ x, Kept (fun q => q ≠ A + 1) wK x → ∀ (t : Nat) (u : Value), (rwc r)[t]? = some u → x.cell? ⟨rb, roff + k * 8 + t, none⟩ = some u := fun x h t u hu => by
          obtain ⟨b2, o2, e2, c2⟩ := (HD.out.rows x (hkM.trans (h.mono fun q _ h e => h (.inr e)))).tab.opened (by rintro rfl; simp at hr)
          simp only [Value.slice.injEq, Option.some.injEq, Addr.mk.injEq] at e2
          obtain ⟨rfl, rfl, -⟩ := e2
          exact c2 k r hr t u hu
        have rB : ∀ x, Kept (fun q => q ≠ A + 1) wK x → x.cell? ⟨rb, roff + k * 8, none⟩ = some (.int .u32 r.p) := fun x h => rX x h 0 _ rfl
        have rC : ∀ x, Kept (fun q => q ≠ A + 1) wK x → x.cell? ⟨rb, roff + k * 8 + 6, none⟩ = some (.int .i64 r.paid) := fun x h => rX x h 6 _ rfl
        have rD : ∀ x, Kept (fun q => q ≠ A + 1) wK x → x.cell? ⟨rb, roff + k * 8 + 7, none⟩ = some (.int .i64 r.owed) := fun x h => rX x h 7 _ rfl
        have HXw : Hid (Wb.Ext w w2) := Lib.hid ((HS.out.kept.trans hk2).old HXA.out (fun i hi => by omega))
        have d2 : decide ((k : Int) < (rows.length : Int)) = true := by simp; omega
        have hki : (k : Int) < (rows.length : Int) := by omega
        have HHR := Lib.hid hr
        clear p6 p7 rX hrc hmem hcm hck HBH HOKP hr hm1 hm2 hm3 hg s1 s2 hro hpo hlk9
        go_upto_region 15 with (fail)
        go_region_held_law (fun x => Kept (fun q => q ≠ A + 1) wK x) (first | assumption | exact .ext (.drew (.refl _))) (fail)
        replace k0 := hk2.cell (by omega) k0
        replace k1 := hk2.cell (by omega) k1
        replace k2 := hk2.cell (by omega) k2
        replace r4 := rA _ hk2
        have q6 := rC _ hk2
        have q7 := rD _ hk2
        have HBK2 := Lib.hid (HBK.out.kept ((HS.out.kept.trans hk2).mono fun q _ h e => h (.inr e)))
        clear rA rB rC rD p0 hlk hrun hwv hkM
        go_wp2_with fail
        go_fit (paid31_any _ mp' mo' B' (ks ++ hs) (N + ks.length + hs.length) r.p hok _ HBK2.out.now); rintro e w3 ⟨u, L, rfl, hL, hLc, -, hx3⟩
        obtain ⟨ua, uc, rfl⟩ := hL.shape
        have HL := Lib.hid hL.sls
        have HLC := Lib.hid hLc
        have hll : L.length ≤ 60 := by have := hI9.out.few r.p; rw [← hLc, List.length_map] at this; exact this
        have HX3 := Lib.hid hx3
        clear hL hLc hx3
        go_wp2_with fail
        go_loopw [13, 11] (fun tv nv wr => ∃ t : Nat, t ≤ L.length ∧ tv = .int .i64 t ∧ nv = .int .i64 (Wb.nlS (L.take t)) ∧ Hid (∀ s ∈ L.take t, (Wb.sums s.y s.i s.l).2.2.2.2 = 0) ∧ Hid (Wb.Ext w3 wr)) (fun tv _ _ => L.length - (intOf tv).toNat)
        case atStart => exact ⟨0, Nat.zero_le _, rfl, rfl, Lib.hid (fun s hs => by cases hs), Lib.hid (.refl _)⟩
        case round =>
          obtain ⟨t, ht, rfl, rfl, HZ, HXT⟩ := hrel
          obtain ⟨wT, hwz⟩ : ∃ z, z = wr := ⟨_, rfl⟩
          subst hwz
          by_cases hlt : t < L.length
          · obtain ⟨s, hs9⟩ := Wb.get_ex hlt
            have hsm := List.mem_of_getElem? hs9
            obtain ⟨hsv, hsz⟩ := HL.out.2 s hsm
            obtain ⟨sb, so, hsb, z0, z1, z2⟩ := (HL.out.ext HXT.out).cells hs9
            obtain rfl : ua = some ⟨sb, so, none⟩ := hsb
            have HSV := Lib.hid (hsv.1.ext HXT.out)
            have HSZ := Lib.hid hsz
            have d3 : decide ((t : Int) < (L.length : Int)) = true := by simp; omega
            have hti : (t : Int) < (L.length : Int) := by omega
            obtain ⟨E, hE⟩ : ∃ E, (Wb.sums s.y s.i s.l).2.2.2.2 = E := ⟨_, rfl⟩
            obtain ⟨x1, hx1⟩ : ∃ E, (Wb.sums s.y s.i s.l).1 = E := ⟨_, rfl⟩
            obtain ⟨x2, hx2⟩ : ∃ E, (Wb.sums s.y s.i s.l).2.1 = E := ⟨_, rfl⟩
            obtain ⟨x3, hx3⟩ : ∃ E, (Wb.sums s.y s.i s.l).2.2.1 = E := ⟨_, rfl⟩
            obtain ⟨x4, hx4⟩ : ∃ E, (Wb.sums s.y s.i s.l).2.2.2.1 = E := ⟨_, rfl⟩
            have HE := Lib.hid hE
            have HE3 := Lib.hid hx3
            have HS9 := Lib.hid hs9
            have HSU := Lib.hid (show ∀ W, Lns W s.v s.l → Sized s.l → Calls Tryz.prog 23 #[.agg #[.int .i64 s.y, .int .i64 s.i, s.v]] W fun e w' => e = .returned (.tuple #[.int .i64 x1, .int .i64 x2, .int .i64 x3, .int .i64 x4, .int .i64 E]) ∧ Wb.Ext W w' by
              subst hE hx1 hx2 hx3 hx4
              exact sums_any s.y s.i s.v s.l)
            clear hE hx1 hx2 hx3 hx4 hsm hsv hsz hs9 hlt
            go_wp2_with fail
            go_fit (HSU.out _ (HSV.out.ext (by (repeat' (first | (with_reducible assumption) | (with_reducible exact Wb.Ext.refl _) | (with_reducible refine Wb.Ext.drew ?_) | (with_reducible refine Wb.Ext.drewN ?_ _) | (with_reducible refine Wb.Ext.alloc ?_ _) | (with_reducible refine Wb.Ext.trans ?_ (by assumption)))))) HSZ.out); rintro e w5 ⟨rfl, hx5⟩
            have HX5 := Lib.hid (show Wb.Ext w3 w5 from HXT.out.trans (by (repeat' (first | (with_reducible assumption) | (with_reducible exact Wb.Ext.refl _) | (with_reducible refine Wb.Ext.drew ?_) | (with_reducible refine Wb.Ext.drewN ?_ _) | (with_reducible refine Wb.Ext.alloc ?_ _) | (with_reducible refine Wb.Ext.trans ?_ (by assumption))))))
            clear hx5
            by_cases he : E = 0
            · subst he
              obtain rfl : x3 = Wb.nl s.l := by rw [← HE3.out]; exact Wb.sums_net HE.out
              have hzn : ∀ x ∈ L.take (t + 1), (Wb.sums x.y x.i x.l).2.2.2.2 = 0 := fun x hx => by
                rw [take_snoc HS9.out] at hx
                rcases List.mem_append.1 hx with h | h
                · exact HZ.out x h
                · obtain rfl : x = s := by simpa using h
                  exact HE.out
              have hw9 : IntKind.i64.wrap (Wb.nlS (L.take t) + Wb.nl s.l) = Wb.nlS (L.take (t + 1)) := by
                have hb := nlS_bound hzn
                have hlen : (L.take (t + 1)).length ≤ 60 := by rw [List.length_take]; omega
                rw [nl_take HS9.out] at hb ⊢
                exact IntWalk.i64_in _ (by omega)
              have HZN := Lib.hid hzn
              clear hzn
              go_wp2
              go_roundw
              case rel => exact ⟨t + 1, by omega, by go_num, rfl, HZN, HX5⟩
              case measure => first | (simp [intOf]; done) | (simp [intOf]; omega)
            · have g1 : (E == 0) = false := by simpa using he
              have g2 : (E != 0) = true := by simpa using he
              clear he
              go_wp2_with fail
              go_fit (awake31_any _); rintro e w6 ⟨rfl, hx6⟩
              have HX6 := Lib.hid (show Wb.Ext w w6 from HXw.out.trans (HX3.out.trans (HX5.out.trans (by (repeat' (first | (with_reducible assumption) | (with_reducible exact Wb.Ext.refl _) | (with_reducible refine Wb.Ext.drew ?_) | (with_reducible refine Wb.Ext.drewN ?_ _) | (with_reducible refine Wb.Ext.alloc ?_ _) | (with_reducible refine Wb.Ext.trans ?_ (by assumption))))))))
              clear hx6
              go_wp2
              exact bodyPost_ret (v := .bool true) (by simp [results, Tryz.results6, go_sem]) rfl ⟨rfl, HX6.out⟩
          · obtain rfl : t = L.length := by omega
            have d3 : decide ((L.length : Int) < (L.length : Int)) = false := by simp
            have en : Wb.nlS (L.take L.length) = Wb.nlC (B'.paid r.p) := by rw [List.take_length, nlS_ct, HLC.out]
            rw [en]
            have HXQ := Lib.hid (HX3.out.trans HXT.out)
            have y0 : ∀ x, Wb.Ext wT x → x.cell? ⟨A, 0, none⟩ = some (.slice ra' rl' rc') := fun x h => (HXQ.out.trans h).keep k0
            have y1 : ∀ x, Wb.Ext wT x → x.cell? ⟨A, 1, none⟩ = some (.map mp') := fun x h => (HXQ.out.trans h).keep k1
            have y2 : ∀ x, Wb.Ext wT x → x.cell? ⟨A, 2, none⟩ = some (.map mo') := fun x h => (HXQ.out.trans h).keep k2
            have y4 : ∀ x, Wb.Ext wT x → x.cell? ⟨R, 4, none⟩ = some (.slice (some ⟨rb, roff, none⟩) rows.length qc) := fun x h => (HXQ.out.trans h).keep r4
            have y6 : ∀ x, Wb.Ext wT x → x.cell? ⟨rb, roff + k * 8 + 6, none⟩ = some (.int .i64 r.paid) := fun x h => (HXQ.out.trans h).keep q6
            have y7 : ∀ x, Wb.Ext wT x → x.cell? ⟨rb, roff + k * 8 + 7, none⟩ = some (.int .i64 r.owed) := fun x h => (HXQ.out.trans h).keep q7
            have yl : ∀ x, Wb.Ext wT x → (Instr.lookup 25 (.map (some (A + 1))) (.int .u32 r.p) false).run Tryz.prog x = .ok (.int .i64 (V + r.paid)) x := fun x h => by
              obtain ⟨f2, hm5, hm6⟩ := HS2.out.map
              have := KMapO.look (p := r.p) (KMap.opt (hm5.ext (HXQ.out.trans h))) Tryz.underlying25 zeroCents hok
              rw [hm6 r.p hok, HSK.out] at this; exact this
            have HOW := Lib.hid (show ∀ W, Wb.Ext wT W → Calls Tryz.prog 13 #[.agg #[.slice ra' rl' rc', .map mp', .map mo'], .int .u32 r.p] W fun e w' => e = .returned (.int .i64 r.owed) ∧ Wb.Ext W w' from fun W h => by
              have := owed31_any _ mp' mo' B' (ks ++ hs) (N + ks.length + hs.length) r.p hok _ (HBK2.out.now.ext (HXQ.out.trans h))
              rw [hpo2] at this; exact this)
            have hsub : IntKind.i64.wrap (V + r.paid - r.owed) = Wb.nlC (B'.paid r.p) := by rw [← heq, hpo2]; exact IntWalk.i64_in _ (by omega)
            have g6 : decide (r.paid < 0) = false := by simp; omega
            have g7 : decide (r.owed < 0) = false := by simp; omega
            clear k0 k1 k2 r4 q6 q7 heq hpo2
            go_wp2_with fail
            go_region_held_law (fun x => Wb.Ext wT x) ((repeat' (first | (with_reducible assumption) | (with_reducible exact Wb.Ext.refl _) | (with_reducible refine Wb.Ext.drew ?_) | (with_reducible refine Wb.Ext.drewN ?_ _) | (with_reducible refine Wb.Ext.alloc ?_ _) | (with_reducible refine Wb.Ext.trans ?_ (by assumption))))) ((go_at_call 13; refine (HOW.out _ (by (repeat' (first | (with_reducible assumption) | (with_reducible exact Wb.Ext.refl _) | (with_reducible refine Wb.Ext.drew ?_) | (with_reducible refine Wb.Ext.drewN ?_ _) | (with_reducible refine Wb.Ext.alloc ?_ _) | (with_reducible refine Wb.Ext.trans ?_ (by assumption)))))).mono ?_; rintro e w7 ⟨rfl, hx7⟩))
            all_goals
              go_wp2
              go_roundw
              case rel => exact ⟨k + 1, by omega, by go_num, Lib.hid (HS2.out.ext (HXQ.out.trans (by (repeat' (first | (with_reducible assumption) | (with_reducible exact Wb.Ext.refl _) | (with_reducible refine Wb.Ext.drew ?_) | (with_reducible refine Wb.Ext.drewN ?_ _) | (with_reducible refine Wb.Ext.alloc ?_ _) | (with_reducible refine Wb.Ext.trans ?_ (by assumption)))))))⟩
              case measure => first | (simp [intOf]; done) | (simp [intOf]; omega)
end Go.Proofs.YtnefdpnolojojaaGreat
