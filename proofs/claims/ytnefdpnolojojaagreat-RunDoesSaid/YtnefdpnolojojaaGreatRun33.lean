/- Run33 -/
import Derived.Test.YtnefdpnolojojaaGreatDs8
import Derived.Test.YtnefdpnolojojaaGreatMod9
import Derived.Test.YtnefdpnolojojaaGreatMRf
import Derived.Test.YtnefdpnolojojaaGreatMRd
import Derived.Test.YtnefdpnolojojaaGreatMAw
import Derived.Deep.RegionHeldLaw
namespace Go.Proofs.YtnefdpnolojojaaGreat
open Go.RowKit Go.Sort Go.Lib Go.Maps
set_option maxRecDepth 8000
attribute [local go_sem ↓] Go.wp_at_zero Go.wp_at_succ
set_option maxHeartbeats 100000000 in
theorem does31_any (v : Value) (al : List AcM) (w : World) (h : ActsM w v al) (hz : FitA al) :
  Calls Tryz.prog 4 #[v] w fun e w' => e = .returned (.bool true) ∧ Wb.Ext w w' := by
 obtain ⟨va, vc, rfl⟩ := h.tab.shape
 have HA := Lib.hid h
 have HZ := Lib.hid hz
 clear h hz
 go_enter Tryz.func4, Tryz.ntmps4
 go_wp2_with fail
 go_fit (great31_any _ al _ (HA.out.ext (by (repeat' (first | (with_reducible assumption) | (with_reducible exact Wb.Ext.refl _) | (with_reducible refine Wb.Ext.drew ?_) | (with_reducible refine Wb.Ext.drewN ?_ _) | (with_reducible refine Wb.Ext.alloc ?_ _) | (with_reducible refine Wb.Ext.trans ?_ (by assumption)))))) HZ.out); rintro e w1 ⟨g, rfl, hg, hx1⟩
 have HX1 := Lib.hid (show Wb.Ext w w1 by (repeat' (first | (with_reducible assumption) | (with_reducible exact Wb.Ext.refl _) | (with_reducible refine Wb.Ext.drew ?_) | (with_reducible refine Wb.Ext.drewN ?_ _) | (with_reducible refine Wb.Ext.alloc ?_ _) | (with_reducible refine Wb.Ext.trans ?_ (by assumption)))))
 clear hx1
 cases g
 case true =>
  clear hg
  go_wp2_with fail
  go_fit (awake31_any _); rintro e wz2 ⟨rfl, hz2⟩
  have HZ2 := Lib.hid (show Wb.Ext w wz2 from HX1.out.trans (by (repeat' (first | (with_reducible assumption) | (with_reducible exact Wb.Ext.refl _) | (with_reducible refine Wb.Ext.drew ?_) | (with_reducible refine Wb.Ext.drewN ?_ _) | (with_reducible refine Wb.Ext.alloc ?_ _) | (with_reducible refine Wb.Ext.trans ?_ (by assumption))))))
  clear hz2
  go_wp2
  exact bodyPost_ret (v := .bool true) (by simp [results, Tryz.results4, go_sem]) rfl ⟨rfl, HZ2.out⟩
 case false =>
 have HSM := Lib.hid (hg rfl)
 clear hg
 have hal := HSM.out.1
 go_upto_region 5 with (fail)
 refine Wb.wp_at fun WB hWB => ?_
 obtain ⟨A, hA⟩ : ∃ A, w1.heap.size = A := ⟨_, rfl⟩
 obtain ⟨Q, hQ⟩ : ∃ Q, A + 1 = Q := ⟨_, rfl⟩
 have hAQ : A < Q := by omega
 have HI : Hid (ApI w (fun q => q = A ∨ q = Q) A 0 WB none 0 0 none none Wb.noBk [] 0) := Lib.hid (by
  have hs := HX1.out.size
  exact ⟨by rw [hWB, ← hA]; simp [go_sem], by rw [hWB, ← hA]; simp [go_sem], by rw [hWB, ← hA]; simp [go_sem], fun j => by rw [hWB, ← hA]; simp [go_sem], bk_none _ _, bki_none, ⟨by rw [hWB, ← hA]; simp; omega, by omega⟩, HX1.out.trans (by rw [hWB]; (repeat' (first | (with_reducible assumption) | (with_reducible exact Wb.Ext.refl _) | (with_reducible refine Wb.Ext.drew ?_) | (with_reducible refine Wb.Ext.drewN ?_ _) | (with_reducible refine Wb.Ext.alloc ?_ _) | (with_reducible refine Wb.Ext.trans ?_ (by assumption)))))⟩)
 have HC : Hid (ApI w (fun q => q = A ∨ q = Q) Q 0 WB none 0 0 none none Wb.noBk [] 0) := Lib.hid (by
  have hs := HX1.out.size
  exact ⟨by rw [hWB, ← hQ, ← hA]; simp [go_sem], by rw [hWB, ← hQ, ← hA]; simp [go_sem], by rw [hWB, ← hQ, ← hA]; simp [go_sem], fun j => by rw [hWB, ← hQ, ← hA]; simp [go_sem], bk_none _ _, bki_none, ⟨by rw [hWB, ← hQ, ← hA]; simp, by omega⟩, HX1.out.trans (by rw [hWB]; (repeat' (first | (with_reducible assumption) | (with_reducible exact Wb.Ext.refl _) | (with_reducible refine Wb.Ext.drew ?_) | (with_reducible refine Wb.Ext.drewN ?_ _) | (with_reducible refine Wb.Ext.alloc ?_ _) | (with_reducible refine Wb.Ext.trans ?_ (by assumption)))))⟩)
 simp only [hA, hQ]
 clear hWB hA hQ
 go_wp2_with fail
 go_loopw [5] (fun iv wr => ∃ (j : Nat) (ra : Option Addr) (rl rc : Nat) (mp mo : Option Nat) (B : Wb.Bk) (ks : List Int) (N : Nat) (rb : Option Addr) (sl sc : Nat) (np no : Option Nat) (is : List Int) (N2 : Nat), j ≤ al.length ∧ iv = .int .i64 j ∧ Hid (ApI w (fun q => q = A ∨ q = Q) A j wr ra rl rc mp mo B ks N) ∧ Hid (ApI w (fun q => q = A ∨ q = Q) Q j wr rb sl sc np no B is N2)) (fun iv _ => al.length - (intOf iv).toNat)
 case atStart => exact ⟨0, none, 0, 0, none, none, Wb.noBk, [], 0, none, 0, 0, none, none, [], 0, Nat.zero_le _, rfl, HI, HC⟩
 case round =>
  clear HI HC
  obtain ⟨j, ra, rl, rc, mp, mo, B, ks, N, rb, sl, sc, np, no, is, N2, hj, rfl, HI, HC⟩ := hrel
  obtain ⟨wO, hwz⟩ : ∃ z, z = wr := ⟨_, rfl⟩
  subst hwz
  have hlow := HI.out.lt
  have hlow2 := HC.out.lt
  by_cases hlt : j < al.length
  case neg =>
   have d1 : decide ((j : Int) < (al.length : Int)) = false := by simp; omega
   have n1 : ¬ (j : Int) < (al.length : Int) := by omega
   clear hlt
   go_wp2_with fail
   go_fit (awake31_any _); rintro e wz3 ⟨rfl, hz3⟩
   have HZ3 := Lib.hid (show Wb.Ext w wz3 from HI.out.ext.trans (by (repeat' (first | (with_reducible assumption) | (with_reducible exact Wb.Ext.refl _) | (with_reducible refine Wb.Ext.drew ?_) | (with_reducible refine Wb.Ext.drewN ?_ _) | (with_reducible refine Wb.Ext.alloc ?_ _) | (with_reducible refine Wb.Ext.trans ?_ (by assumption))))))
   clear hz3
   go_wp2
   exact bodyPost_ret (v := .bool true) (by simp [results, Tryz.results4, go_sem]) rfl ⟨rfl, HZ3.out⟩
  obtain ⟨a, ha⟩ := Wb.get_ex hlt
  have hmem := List.mem_of_getElem? ha
  have hHW := HA.out.each a hmem
  obtain ⟨xa, xc, hav⟩ := hHW.tab.shape
  obtain ⟨b, off, hb, hc⟩ := HA.out.tab.opened (by rintro rfl; simp at ha)
  obtain rfl : va = some ⟨b, off, none⟩ := hb
  have HIC : Hid (w.cell? ⟨b, off + j * 4, none⟩ = some (.int .i64 a.y) ∧ w.cell? ⟨b, off + j * 4 + 1, none⟩ = some (.int .i64 a.i) ∧ w.cell? ⟨b, off + j * 4 + 2, none⟩ = some (.int .i64 a.k) ∧ w.cell? ⟨b, off + j * 4 + 3, none⟩ = some (.slice xa a.hs.length xc)) := Lib.hid ⟨by have := hc j a ha 0 _ rfl; rwa [Nat.add_zero] at this, hc j a ha 1 _ rfl, hc j a ha 2 _ rfl, hc j a ha 3 (.slice xa a.hs.length xc) (by rw [← hav]; rfl)⟩
  have hji : (j : Int) < al.length := by omega
  have d1 : decide ((j : Int) < (al.length : Int)) = true := by simp; omega
  have hsa := HSM.out.2 a hmem
  have HSA := Lib.hid hsa.2
  have hsl := hsa.1
  have HH := Lib.hid (show HdsM w (.slice xa a.hs.length xc) a.hs by rw [← hav]; exact hds_small hHW hsa.2)
  obtain ⟨hs, hk1, hk2, hk3⟩ := keysH_of (fun x hx => (hHW.each x hx).2)
  have HK1 := Lib.hid hk1
  have HK2 := Lib.hid hk2
  have l0 : ∀ x, Wb.Ext wO x → x.cell? ⟨b, off + j * 4, none⟩ = some (.int .i64 a.y) := fun x k => (HI.out.ext.trans k).keep HIC.out.1
  have l1 : ∀ x, Wb.Ext wO x → x.cell? ⟨b, off + j * 4 + 1, none⟩ = some (.int .i64 a.i) := fun x k => (HI.out.ext.trans k).keep HIC.out.2.1
  have l2 : ∀ x, Wb.Ext wO x → x.cell? ⟨b, off + j * 4 + 2, none⟩ = some (.int .i64 a.k) := fun x k => (HI.out.ext.trans k).keep HIC.out.2.2.1
  have l3 : ∀ x, Wb.Ext wO x → x.cell? ⟨b, off + j * 4 + 3, none⟩ = some (.slice xa a.hs.length xc) := fun x k => (HI.out.ext.trans k).keep HIC.out.2.2.2
  have k0 : ∀ x, Wb.Ext wO x → x.cell? ⟨A, 0, none⟩ = some (.slice ra rl rc) := fun x k => k.keep HI.out.a0
  have k1 : ∀ x, Wb.Ext wO x → x.cell? ⟨A, 1, none⟩ = some (.map mp) := fun x k => k.keep HI.out.a1
  have k2 : ∀ x, Wb.Ext wO x → x.cell? ⟨A, 2, none⟩ = some (.map mo) := fun x k => k.keep HI.out.a2
  clear ha hmem hHW hav hc hsa hlt
  have HT := Lib.hid (show ∀ W, Wb.Ext wO W → Calls Tryz.prog 20 #[.slice xa a.hs.length xc] W fun e w' => ∃ M lo, e = .returned (.map (some M)) ∧ lo = W.heap.size ∧ Hid (TabH w lo w' M a.hs) ∧ wO.heap.size ≤ lo ∧ lo ≤ M ∧ M < w'.heap.size ∧ Wb.Ext W w' from fun W k => by
   refine (tab_law HH.out hsl (HI.out.ext.trans k)).mono ?_
   rintro e w' ⟨M, rfl, h1, h2, h3, h4⟩
   exact ⟨M, W.heap.size, rfl, rfl, Lib.hid h1, k.size, h2, h3, h4⟩)
  have HDO := Lib.hid (show ∀ W' W lo M, Hid (TabH w lo W' M a.hs) → wO.heap.size ≤ lo → Wb.Ext wO W → Wb.Ext W' W → Calls Tryz.prog 12 #[.agg #[.slice ra rl rc, .map mp, .map mo], .int .i64 a.y, .int .i64 a.i, .int .i64 a.k, .map (some M)] W fun e w' => ∃ (ra' : Option Addr) (rl' rc' : Nat) (mp' mo' : Option Nat) (B' : Wb.Bk) (n1 y1 i1 k1 : Int) (qa : Option Addr) (qc : Nat) (rows : List RwM) (E : Int) (nW : Nat), e = .returned (.tuple #[.agg #[.slice ra' rl' rc', .map mp', .map mo'], .agg #[.int .i64 n1, .int .i64 y1, .int .i64 i1, .int .i64 k1, .slice qa rows.length qc], .int .i64 E]) ∧
    nW = W.heap.size ∧ wO.heap.size ≤ nW ∧ Hid (DidF (fun q => q < nW → Ok0 (fun q => q = A ∨ q = Q) wO.heap.size lo W'.heap.size q) w' (.slice ra' rl' rc') mp' mo' B B' a.y a.i a.k (SH a.hs) hs ks N ⟨n1, y1, i1, k1, .slice qa rows.length qc, rows⟩ E) ∧ Hid (BkI (j + 1) B' (ks ++ hs) (N + (ks).length + hs.length)) ∧ Wb.Ext W w' from fun W' W lo M h1 h2 h3 h4 => by
   refine (did_law (P := fun q => q = A ∨ q = Q) (j := j) HI.out.book HI.out.ok (by omega) h1.out HI.out.ext.size (fun q hq => by omega) h2 h3 h4 hk1 hk2 hsl hk3 (fun p => sh_few HSA.out p)).mono ?_
   rintro e w' ⟨ra', rl', rc', mp', mo', B', n1, y1, i1, k1, qa, qc, rows, E, rfl, h5, h6, h7⟩
   exact ⟨ra', rl', rc', mp', mo', B', n1, y1, i1, k1, qa, qc, rows, E, W.heap.size, rfl, rfl, h3.size, Lib.hid h5, Lib.hid h6, h7⟩)
  go_upto_region 8 with (fail)
  refine Code.wp_mono (OnEnd.imp ?_) (ds8 _ _ _ _ _ _ _ _ _ _ _ _ _ _ _ _ _ _ _ _ _ _ _ _ _ _ _ _ _ _ _ _ _ _ _ _ _ _ _ _ _ _ _ _ _ _ _ _ _ _ _ _ _ _ _ _ _ _ _ _ _ _ _ _ _ _ _ _ w wO b off vc j al.length xa ra xc rl rc N mp mo B ks hs a A Q hji ⟨hlow.1, hlow2.1⟩ l0 l1 l2 l3 k0 k1 k2 HT.out HDO.out)
  rintro a' wc ⟨X, R, ra', rl', rc', mp', mo', B', n1, y1, i1, k9, qa, qc, rows, E, u22, u23, u24, u25, u26, u27, u28, u29, u30, u31, u32, u33, u34, u35, u36, u37, u38, u39, u40, u41, u42, u43, u44, u45, u46, u47, u48, rfl, nX, nR, hI9, hD, e0, e1, e2, r0, r1, r2, r3, r4, hxD⟩
  (try dsimp only)
  obtain ⟨wD, hwz⟩ : ∃ z, z = wc := ⟨_, rfl⟩
  subst hwz
  have HD := Lib.hid hD
  have HXD := Lib.hid hxD
  have HRC : Hid (wD.cell? ⟨X, 0, none⟩ = some (.slice ra' rl' rc') ∧ wD.cell? ⟨X, 1, none⟩ = some (.map mp') ∧ wD.cell? ⟨X, 2, none⟩ = some (.map mo') ∧ wD.cell? ⟨R, 0, none⟩ = some (.int .i64 n1) ∧ wD.cell? ⟨R, 1, none⟩ = some (.int .i64 y1) ∧ wD.cell? ⟨R, 2, none⟩ = some (.int .i64 i1) ∧ wD.cell? ⟨R, 3, none⟩ = some (.int .i64 k9) ∧ wD.cell? ⟨R, 4, none⟩ = some (.slice qa rows.length qc)) := Lib.hid ⟨e0, e1, e2, r0, r1, r2, r3, r4⟩
  clear hD HDO HT l0 l1 l2 l3 k0 k1 k2 e0 e1 e2 r0 r1 r2 r3 r4 hk1 hk2
  have hsD : wO.heap.size ≤ wD.heap.size := hxD.size
  have l0 : ∀ x, Wb.Ext wD x → x.cell? ⟨b, off + j * 4, none⟩ = some (.int .i64 a.y) := fun x k => (HI.out.ext.trans (HXD.out.trans k)).keep HIC.out.1
  have l1 : ∀ x, Wb.Ext wD x → x.cell? ⟨b, off + j * 4 + 1, none⟩ = some (.int .i64 a.i) := fun x k => (HI.out.ext.trans (HXD.out.trans k)).keep HIC.out.2.1
  have l2 : ∀ x, Wb.Ext wD x → x.cell? ⟨b, off + j * 4 + 2, none⟩ = some (.int .i64 a.k) := fun x k => (HI.out.ext.trans (HXD.out.trans k)).keep HIC.out.2.2.1
  have l3 : ∀ x, Wb.Ext wD x → x.cell? ⟨b, off + j * 4 + 3, none⟩ = some (.slice xa a.hs.length xc) := fun x k => (HI.out.ext.trans (HXD.out.trans k)).keep HIC.out.2.2.2
  have k0 : ∀ x, Wb.Ext wD x → x.cell? ⟨Q, 0, none⟩ = some (.slice rb sl sc) := fun x k => (HXD.out.trans k).keep HC.out.a0
  have k1 : ∀ x, Wb.Ext wD x → x.cell? ⟨Q, 1, none⟩ = some (.map np) := fun x k => (HXD.out.trans k).keep HC.out.a1
  have k2 : ∀ x, Wb.Ext wD x → x.cell? ⟨Q, 2, none⟩ = some (.map no) := fun x k => (HXD.out.trans k).keep HC.out.a2
  have HDO := Lib.hid (show ∀ W, Wb.Ext wD W → Calls Tryz.prog 21 #[.agg #[.slice rb sl sc, .map np, .map no], .agg #[.int .i64 a.y, .int .i64 a.i, .int .i64 a.k, .slice xa a.hs.length xc]] W fun e w' => ∃ (ra' : Option Addr) (rl' rc' : Nat) (mp' mo' : Option Nat) (B' : Wb.Bk) (n1 y1 i1 k1 : Int) (qa : Option Addr) (qc : Nat) (rows : List RwM) (E : Int) (nW : Nat), e = .returned (.tuple #[.agg #[.slice ra' rl' rc', .map mp', .map mo'], .agg #[.int .i64 n1, .int .i64 y1, .int .i64 i1, .int .i64 k1, .slice qa rows.length qc], .int .i64 E]) ∧
  nW = W.heap.size ∧ wO.heap.size ≤ nW ∧ Hid (DidF (fun q => q < nW → Ok0 (fun q => q = A ∨ q = Q) wO.heap.size wO.heap.size wO.heap.size q) w' (.slice ra' rl' rc') mp' mo' B B' a.y a.i a.k (SH a.hs) hs is N2 ⟨n1, y1, i1, k1, .slice qa rows.length qc, rows⟩ E) ∧ Hid (BkI (j + 1) B' (is ++ hs) (N2 + (is).length + hs.length)) ∧ Wb.Ext W w' from fun W k =>
   mdid_law (P := fun q => q = A ∨ q = Q) (j := j) HC.out.book HC.out.ok (by omega) HH.out HC.out.ext (fun q hq => by rcases hq with rfl | rfl <;> omega) (HXD.out.trans k) HK1.out HK2.out hsl hk3 (fun p => sh_few HSA.out p))
  clear hxD
  go_upto_region 9 with (fail)
  refine Code.wp_mono (OnEnd.imp ?_) (ds9 _ _ _ _ _ _ _ _ _ _ _ _ _ _ _ _ _ _ _ _ _ _ _ _ _ _ _ _ _ _ _ _ _ _ _ _ _ _ _ _ _ _ _ _ _ _ _ _ _ _ _ _ _ _ _ _ _ _ _ _ _ _ _ _ _ _ _ _ _ w wD wO.heap.size wO.heap.size wO.heap.size b off vc j al.length A Q xa rb xc sl sc N2 np no B is hs a hlow.1 hsD hsD (Nat.le_refl _) hji ⟨hlow.1, hlow2.1, hlow2.1⟩ l0 l1 l2 l3 k0 k1 k2 HDO.out)
  rintro a' wc ⟨Y, T, rb', sl', sc', np', no', C', n2, y2, i2, k8, ta, tc, rows2, F, u49, u50, u51, u52, u53, u54, u55, u56, u57, u58, rfl, nY, nT, hI2, hD2, e0, e1, e2, r0, r1, r2, r3, r4, hxE⟩
  (try dsimp only)
  obtain ⟨wE, hwz⟩ : ∃ z, z = wc := ⟨_, rfl⟩
  subst hwz
  have HD2 := Lib.hid hD2
  have HXE := Lib.hid hxE
  have HXO : Hid (Wb.Ext wO wE) := Lib.hid (HXD.out.trans HXE.out)
  have HLW := Lib.hid (two_law HD.out HD2.out rfl)
  have hF := HLW.out.1
  have hC := HLW.out.2.1
  have hRR := HLW.out.2.2
  unfold RnM.c at hRR
  injection hRR with q1 q2 q3 q4 q5
  simp only at q1 q2 q3 q4
  subst hF hC q1 q2 q3 q4
  have HQ5 := Lib.hid q5
  have HRC2 : Hid (wE.cell? ⟨Y, 0, none⟩ = some (.slice rb' sl' sc') ∧ wE.cell? ⟨Y, 1, none⟩ = some (.map np') ∧ wE.cell? ⟨Y, 2, none⟩ = some (.map no')) := Lib.hid ⟨e0, e1, e2⟩
  clear hD2 HDO l0 l1 l2 l3 k0 k1 k2 e0 e1 e2 hxE q5 HLW
  have t0 := r0
  have t1 := r1
  have t2 := r2
  have t3 := r3
  have t4 := r4
  clear r0 r1 r2 r3 r4
  have r0 := HXE.out.keep HRC.out.2.2.2.1
  have r1 := HXE.out.keep HRC.out.2.2.2.2.1
  have r2 := HXE.out.keep HRC.out.2.2.2.2.2.1
  have r3 := HXE.out.keep HRC.out.2.2.2.2.2.2.1
  have r4 := HXE.out.keep HRC.out.2.2.2.2.2.2.2
  have hEE : ((F : Int) != F) = false := by simp
  have HSM9 := Lib.hid (same31r_eq n1 y1 i1 k9 (.slice qa rows.length qc) (.slice ta rows2.length tc) rows rows2 wE (HD.out.rows wE (.ext HXE.out)) (HD2.out.rows wE .refl) HQ5.out)
  unfold RnV at HSM9
  go_wp2_with fail
  go_fit HSM9.out; rintro e wS ⟨rfl, hxS⟩
  have HXS := Lib.hid hxS
  clear hxS r0 r1 r2 r3 r4 t0 t1 t2 t3 t4 HSM9
  have HXW : Hid (Wb.Ext wO wS) := Lib.hid (HXO.out.trans HXS.out)
  have e0 := (HXE.out.trans HXS.out).keep HRC.out.1
  have e1 := (HXE.out.trans HXS.out).keep HRC.out.2.1
  have e2 := (HXE.out.trans HXS.out).keep HRC.out.2.2.1
  have f0 := HXS.out.keep HRC2.out.1
  have f1 := HXS.out.keep HRC2.out.2.1
  have f2 := HXS.out.keep HRC2.out.2.2
  have a0 := HXW.out.keep HI.out.a0
  have a1 := HXW.out.keep HI.out.a1
  have a2 := HXW.out.keep HI.out.a2
  have q0 := HXW.out.keep HC.out.a0
  have q1 := HXW.out.keep HC.out.a1
  have q2 := HXW.out.keep HC.out.a2
  have af : ∀ i, wS.frozen? ⟨A, i, none⟩ = false := fun i => (HXW.out.cells.2 _ _ hlow.1).trans (HI.out.af i)
  have qf : ∀ i, wS.frozen? ⟨Q, i, none⟩ = false := fun i => (HXW.out.cells.2 _ _ hlow2.1).trans (HC.out.af i)
  have hsE : wO.heap.size ≤ wS.heap.size := HXW.out.size
  have hsE2 : wO.heap.size ≤ wE.heap.size := HXO.out.size
  have h1A : ¬ X = A := by omega
  have h2A : ¬ A = X := by omega
  have h1Q : ¬ X = Q := by omega
  have h2Q : ¬ Q = X := by omega
  have h3A : ¬ Y = A := by omega
  have h4A : ¬ A = Y := by omega
  have h3Q : ¬ Y = Q := by omega
  have h4Q : ¬ Q = Y := by omega
  have h7 : ¬ A = Q := by omega
  have h8 : ¬ Q = A := by omega
  go_upto_region 12 with (fail)
  go_wp2_with fail
  go_region
  all_goals go_wp2_with fail
  obtain ⟨wA, hWA⟩ : ∃ z, z = ((((((wS.setCell ⟨A, 0, none⟩ (.slice ra' rl' rc')).setCell ⟨A, 1, none⟩ (.map mp')).setCell ⟨A, 2, none⟩ (.map mo')).setCell ⟨Q, 0, none⟩ (.slice rb' sl' sc')).setCell ⟨Q, 1, none⟩ (.map np')).setCell ⟨Q, 2, none⟩ (.map no')).drew := ⟨_, rfl⟩
  rw [← hWA]
  have hcut : Hid ((wA.cell? ⟨A, 0, none⟩ = some (.slice ra' rl' rc') ∧ wA.cell? ⟨A, 1, none⟩ = some (.map mp') ∧ wA.cell? ⟨A, 2, none⟩ = some (.map mo') ∧ ∀ i, wA.frozen? ⟨A, i, none⟩ = false) ∧ (wA.cell? ⟨Q, 0, none⟩ = some (.slice rb' sl' sc') ∧ wA.cell? ⟨Q, 1, none⟩ = some (.map np') ∧ wA.cell? ⟨Q, 2, none⟩ = some (.map no') ∧ ∀ i, wA.frozen? ⟨Q, i, none⟩ = false) ∧ Kept (fun q => q ≠ A ∧ q ≠ Q) wS wA) := Lib.hid (by
   rw [hWA]
   exact ⟨⟨by simp [go_sem, *], by simp [go_sem, *], by simp [go_sem, *], fun i => by simp [go_sem, af]⟩, ⟨by simp [go_sem, *], by simp [go_sem, *], by simp [go_sem, *], fun i => by simp [go_sem, qf]⟩, by (repeat' (first | (with_reducible exact Kept.refl) | (with_reducible refine Kept.drewR ?_) | (with_reducible refine Kept.setj ?_ ?_) | (exact fun h => h.1 rfl) | (exact fun h => h.2 rfl)))⟩)
  clear hWA
  have HCU := Lib.hid hcut.out
  have HKA := Lib.hid hcut.out.2.2
  clear hcut a0 a1 a2 q0 q1 q2 af qf e0 e1 e2 f0 f1 f2
  have hsA : wS.heap.size ≤ wA.heap.size := HKA.out.size
  have HXA : Hid (Wb.Ext w wA) := Lib.hid (HKA.out.old (HI.out.ext.trans HXW.out) (fun i hi => by omega))
  have HKE : Hid (Kept (fun q => ¬ (q = A ∨ q = Q)) wE wA) := Lib.hid ((Kept.ext HXS.out).trans (HKA.out.mono (fun q _ h => ⟨fun e => h (.inl e), fun e => h (.inr e)⟩)))
  have HKD : Hid (Kept (fun q => ¬ (q = A ∨ q = Q)) wD wA) := Lib.hid ((Kept.ext HXE.out).trans HKE.out)
  have HB1 : Hid (ApI w (fun q => q = A ∨ q = Q) A (j + 1) wA ra' rl' rc' mp' mo' C' (ks ++ hs) (N + ks.length + hs.length)) := Lib.hid
   ⟨HCU.out.1.1, HCU.out.1.2.1, HCU.out.1.2.2.1, HCU.out.1.2.2.2, HD.out.book.kept HKD.out, hI9.out, ⟨by omega, hlow.2⟩, HXA.out⟩
  have HB2 : Hid (ApI w (fun q => q = A ∨ q = Q) Q (j + 1) wA rb' sl' sc' np' no' C' (is ++ hs) (N2 + is.length + hs.length)) := Lib.hid
   ⟨HCU.out.2.1.1, HCU.out.2.1.2.1, HCU.out.2.1.2.2.1, HCU.out.2.1.2.2.2, HD2.out.book.kept HKE.out, hI2.out, ⟨by omega, hlow2.2⟩, HXA.out⟩
  refine ⟨⟨j + 1, ra', rl', rc', mp', mo', C', ks ++ hs, N + ks.length + hs.length, rb', sl', sc', np', no', is ++ hs, N2 + is.length + hs.length, by omega, by go_num, HB1, HB2⟩, ?_⟩
  first | (simp [intOf]; done) | (simp [intOf]; omega)
end Go.Proofs.YtnefdpnolojojaaGreat
