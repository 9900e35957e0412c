/- The walk of RunApart. -/
import Derived.Test.YtnefdpnolojojaaGreatAp12
import Derived.Test.YtnefdpnolojojaaGreatAp17
import Derived.Test.YtnefdpnolojojaaGreatMRf
import Derived.Test.YtnefdpnolojojaaGreatMAw
import Derived.Deep.RegionHeldLaw
namespace Go.Proofs.YtnefdpnolojojaaGreat
open Go.RowKit Go.Sort Go.Lib Go.Maps
set_option maxRecDepth 8000
attribute [local go_sem ↓] Go.wp_at_zero Go.wp_at_succ


set_option maxHeartbeats 100000000 in
theorem apart31_any (v : Value) (al : List AcM) (p0 : Int) (w : World) (h : ActsM w v al) (hz : FitA al) (hp : kU32.ok p0) :
    Calls Tryz.prog 8 #[v, .int .u32 p0] w fun e w' => e = .returned (.bool true) ∧ Wb.Ext w w' := by
  obtain ⟨va, vc, rfl⟩ := h.tab.shape
  have HA := Lib.hid h
  have HZ := Lib.hid hz
  have HP := Lib.hid hp
  clear h hz hp
  go_enter Tryz.func8, Tryz.ntmps8
  go_wp2_with fail
  go_fit (great31_any _ al _ (HA.out.ext (by (repeat' (first | (with_reducible assumption) | (with_reducible exact Wb.Ext.refl _) | (with_reducible refine Wb.Ext.drew ?_) | (with_reducible refine Wb.Ext.drewN ?_ _) | (with_reducible refine Wb.Ext.alloc ?_ _) | (with_reducible refine Wb.Ext.trans ?_ (by assumption)))))) HZ.out); rintro e w1 ⟨g, rfl, hg, hx1⟩
  have HX1 := Lib.hid (show Wb.Ext w w1 by (repeat' (first | (with_reducible assumption) | (with_reducible exact Wb.Ext.refl _) | (with_reducible refine Wb.Ext.drew ?_) | (with_reducible refine Wb.Ext.drewN ?_ _) | (with_reducible refine Wb.Ext.alloc ?_ _) | (with_reducible refine Wb.Ext.trans ?_ (by assumption)))))
  clear hx1
  cases g
  case true =>
    clear hg
    go_wp2_with fail
    go_fit (awake31_any _); rintro e wz2 ⟨rfl, hz2⟩
    have HZ2 := Lib.hid (show Wb.Ext w wz2 from HX1.out.trans (by (repeat' (first | (with_reducible assumption) | (with_reducible exact Wb.Ext.refl _) | (with_reducible refine Wb.Ext.drew ?_) | (with_reducible refine Wb.Ext.drewN ?_ _) | (with_reducible refine Wb.Ext.alloc ?_ _) | (with_reducible refine Wb.Ext.trans ?_ (by assumption))))))
    clear hz2
    go_wp2
    exact bodyPost_ret (v := .bool true) (by simp [results, Tryz.results8, go_sem]) rfl ⟨rfl, HZ2.out⟩

  case false =>
  have HSM := Lib.hid (hg rfl)
  clear hg
  have hal := HSM.out.1
  go_upto_region 4 with (fail)
  refine Wb.wp_at fun WB hWB => ?_
  obtain ⟨A, hA⟩ : ∃ A, w1.heap.size = A := ⟨_, rfl⟩
  obtain ⟨Q, hQ⟩ : ∃ Q, A + 1 = Q := ⟨_, rfl⟩
  have hAQ : A < Q := by omega
  have HI : Hid (ApI w (fun q => q = A ∨ q = Q) A 0 WB none 0 0 none none Wb.noBk [] 0) := Lib.hid (by
    have hs := HX1.out.size
    exact ⟨by rw [hWB, ← hA]; simp [go_sem], by rw [hWB, ← hA]; simp [go_sem], by rw [hWB, ← hA]; simp [go_sem], fun j => by rw [hWB, ← hA]; simp [go_sem], bk_none _ _, bki_none, ⟨by rw [hWB, ← hA]; simp; omega, by omega⟩, HX1.out.trans (by rw [hWB]; (repeat' (first | (with_reducible assumption) | (with_reducible exact Wb.Ext.refl _) | (with_reducible refine Wb.Ext.drew ?_) | (with_reducible refine Wb.Ext.drewN ?_ _) | (with_reducible refine Wb.Ext.alloc ?_ _) | (with_reducible refine Wb.Ext.trans ?_ (by assumption)))))⟩)
  have HC : Hid (ApI w (fun q => q = A ∨ q = Q) Q 0 WB none 0 0 none none Wb.noBk [] 0) := Lib.hid (by
    have hs := HX1.out.size
    exact ⟨by rw [hWB, ← hQ, ← hA]; simp [go_sem], by rw [hWB, ← hQ, ← hA]; simp [go_sem], by rw [hWB, ← hQ, ← hA]; simp [go_sem], fun j => by rw [hWB, ← hQ, ← hA]; simp [go_sem], bk_none _ _, bki_none, ⟨by rw [hWB, ← hQ, ← hA]; simp, by omega⟩, HX1.out.trans (by rw [hWB]; (repeat' (first | (with_reducible assumption) | (with_reducible exact Wb.Ext.refl _) | (with_reducible refine Wb.Ext.drew ?_) | (with_reducible refine Wb.Ext.drewN ?_ _) | (with_reducible refine Wb.Ext.alloc ?_ _) | (with_reducible refine Wb.Ext.trans ?_ (by assumption)))))⟩)
  have HAP : Hid (Wb.Apart p0 Wb.noBk Wb.noBk) := Lib.hid (Wb.apart_none p0)
  simp only [hA, hQ]
  clear hWB hA hQ
  go_wp2_with fail
  go_loopw [7] (fun iv wr => ∃ (j : Nat) (ra : Option Addr) (rl rc : Nat) (mp mo : Option Nat) (B : Wb.Bk) (ks : List Int) (N : Nat) (rb : Option Addr) (sl sc : Nat) (np no : Option Nat) (C : Wb.Bk) (is : List Int) (N2 : Nat), j ≤ al.length ∧ iv = .int .i64 j ∧ Hid (ApI w (fun q => q = A ∨ q = Q) A j wr ra rl rc mp mo B ks N) ∧ Hid (ApI w (fun q => q = A ∨ q = Q) Q j wr rb sl sc np no C is N2) ∧ Hid (Wb.Apart p0 B C)) (fun iv _ => al.length - (intOf iv).toNat)
  case atStart => exact ⟨0, none, 0, 0, none, none, Wb.noBk, [], 0, none, 0, 0, none, none, Wb.noBk, [], 0, Nat.zero_le _, rfl, HI, HC, HAP⟩
  case round =>
    clear HI HC HAP
    obtain ⟨j, ra, rl, rc, mp, mo, B, ks, N, rb, sl, sc, np, no, C, is, N2, hj, rfl, HI, HC, HAP⟩ := hrel
    obtain ⟨wO, hwz⟩ : ∃ z, z = wr := ⟨_, rfl⟩
    subst hwz
    have hlow := HI.out.lt
    have hlow2 := HC.out.lt
    by_cases hlt : j < al.length
    case neg =>
      have d1 : decide ((j : Int) < (al.length : Int)) = false := by simp; omega
      have n1 : ¬ (j : Int) < (al.length : Int) := by omega
      clear hlt
      go_wp2_with fail
      go_fit (awake31_any _); rintro e wz3 ⟨rfl, hz3⟩
      have HZ3 := Lib.hid (show Wb.Ext w wz3 from HI.out.ext.trans (by (repeat' (first | (with_reducible assumption) | (with_reducible exact Wb.Ext.refl _) | (with_reducible refine Wb.Ext.drew ?_) | (with_reducible refine Wb.Ext.drewN ?_ _) | (with_reducible refine Wb.Ext.alloc ?_ _) | (with_reducible refine Wb.Ext.trans ?_ (by assumption))))))
      clear hz3
      go_wp2
      exact bodyPost_ret (v := .bool true) (by simp [results, Tryz.results8, go_sem]) rfl ⟨rfl, HZ3.out⟩
    obtain ⟨a, ha⟩ := Wb.get_ex hlt
    have hmem := List.mem_of_getElem? ha
    have hHW := HA.out.each a hmem
    obtain ⟨xa, xc, hav⟩ := hHW.tab.shape
    obtain ⟨b, off, hb, hc⟩ := HA.out.tab.opened (by rintro rfl; simp at ha)
    obtain rfl : va = some ⟨b, off, none⟩ := hb
    have c0 := HI.out.ext.keep (hc j a ha 0 _ rfl)
    have c1 := HI.out.ext.keep (hc j a ha 1 _ rfl)
    have c2 := HI.out.ext.keep (hc j a ha 2 _ rfl)
    have c3 := HI.out.ext.keep (hc j a ha 3 (.slice xa a.hs.length xc) (by rw [← hav]; rfl))
    rw [Nat.add_zero] at c0
    have hbA : b < w.heap.size := Wb.cell_size (hc j a ha 0 _ rfl)
    have HIC : Hid (w.cell? ⟨b, off + j * 4, none⟩ = some (.int .i64 a.y) ∧ w.cell? ⟨b, off + j * 4 + 1, none⟩ = some (.int .i64 a.i) ∧ w.cell? ⟨b, off + j * 4 + 2, none⟩ = some (.int .i64 a.k)) := Lib.hid ⟨by have := hc j a ha 0 _ rfl; rwa [Nat.add_zero] at this, hc j a ha 1 _ rfl, hc j a ha 2 _ rfl⟩
    have hji : (j : Int) < al.length := by omega
    have d1 : decide ((j : Int) < (al.length : Int)) = true := by simp; omega
    have hsa := HSM.out.2 a hmem
    have HSA := Lib.hid hsa.2
    have hsl := hsa.1
    have HH := Lib.hid (show HdsM w (.slice xa a.hs.length xc) a.hs by rw [← hav]; exact hds_small hHW hsa.2)
    obtain ⟨hs, hk1, hk2, hk3⟩ := keysH_of (fun x hx => (hHW.each x hx).2)
    have HK1 := Lib.hid hk1
    have HK2 := Lib.hid hk2
    clear ha hmem hHW hav hc hsa hlt hk1 hk2
    go_wp2_with fail
    go_fit (tab_law HH.out hsl HI.out.ext); rintro e w6 ⟨M, rfl, hT, hM1, hM2, hx6⟩
    have HT6 := Lib.hid hT
    have hs6 := hx6.size
    have HX6 := Lib.hid hx6
    replace c0 := hx6.keep c0
    replace c1 := hx6.keep c1
    replace c2 := hx6.keep c2
    clear hT hx6 c3
    have hmm := @run_makeMap Tryz.prog
    go_upto_region 9 with (fail)
    refine Wb.wp_at fun w7 hw7 => ?_
    obtain ⟨M2, hM9⟩ : ∃ M2, w6.heap.size = M2 := ⟨_, rfl⟩
    have HMB : Hid (KMap kU32 w7 M2 0 (.slice none 0 0) (fun _ => none)) := Lib.hid (by rw [hw7]; exact kmap_made kU32 w6 (.slice none 0 0) M2 hM9.symm)
    have hx7 : Wb.Ext w6 w7 := by rw [hw7]; (repeat' (first | (with_reducible assumption) | (with_reducible exact Wb.Ext.refl _) | (with_reducible refine Wb.Ext.drew ?_) | (with_reducible refine Wb.Ext.drewN ?_ _) | (with_reducible refine Wb.Ext.alloc ?_ _) | (with_reducible refine Wb.Ext.trans ?_ (by assumption))))
    have HT7 := Lib.hid (HT6.out.kept (.ext hx7))
    have HX7 := Lib.hid hx7
    replace c0 := hx7.keep c0
    replace c1 := hx7.keep c1
    replace c2 := hx7.keep c2
    have hs7 := hx7.size
    have hMO : wO.heap.size ≤ M2 := by omega
    rw [hM9]
    clear hw7 hmm hx7
    obtain ⟨V, hV⟩ : ∃ V, (fH a.hs p0).getD (.slice none 0 0) = V := ⟨_, rfl⟩
    obtain ⟨g, hg⟩ : ∃ g, (fH a.hs p0).isSome = g := ⟨_, rfl⟩
    have hlk := KMapO.look_ok (p := p0) (HT7.out.now).map Tryz.underlying24 zeroSlips HP.out
    rw [hV, hg] at hlk
    replace hlk : (Instr.lookup 24 (.map (some M)) (.int .u32 p0) true).run Tryz.prog w7 = .ok (.tuple #[V, .bool g]) w7 := hlk
    have HVG : Hid ((g = false → findH a.hs p0 = none) ∧ (g = true → ∃ x, findH a.hs p0 = some x ∧ V = x.v)) := Lib.hid (by
      subst hV hg
      unfold fH
      rcases hf : findH a.hs p0 with _ | x
      · exact ⟨fun _ => rfl, fun h => by cases h⟩
      · exact ⟨(fun h => by cases h), fun _ => ⟨x, rfl, rfl⟩⟩)
    clear hV hg
    go_upto_if 40 with (fail)
    clear hlk
    go_cut [] (fun wx => ∃ O, Hid (TabH w wO.heap.size wx M2 O) ∧ Hid (OwnIs a.hs p0 O) ∧ Wb.Ext w6 wx)
    case first =>
      cases g
      case false =>
        have hf := HVG.out.1 rfl
        have HH1 := Lib.hid (own_is_nil hf)
        clear hf
        go_wp2_with fail
        go_meet
        exact ⟨[], Lib.hid (own_nothing hMO HMB.out), HH1, HX7.out⟩
      case true =>
        obtain ⟨x, hf, rfl⟩ := HVG.out.2 rfl
        obtain ⟨w8, hrun, hm8, hg8⟩ := HMB.out.update Tryz.underlying24 (by unfold maxLen; omega) HP.out x.v
        replace hrun : (Instr.mapUpdate 24 (.map (some M2)) (.int .u32 p0) x.v).run Tryz.prog w7 = .ok () w8 := hrun
        have HX8 : Hid (Wb.Ext w6 w8) := Lib.hid (HX7.out.grown hg8 (fun k e => by cases e; omega))
        have HT8 : Hid (TabH w wO.heap.size w8 M2 [x]) := Lib.hid (own_one HH.out hf hMO (HI.out.ext.trans (HX6.out.trans HX8.out)) HP.out hm8)
        have HO8 := Lib.hid (own_is_one hf HP.out)
        clear hf hm8 hg8
        go_wp2_with fail
        go_meet
        exact ⟨[x], HT8, HO8, HX8.out⟩
    case rest =>
    obtain ⟨O, HTO, HOI, hx8⟩ := hcut
    obtain ⟨w8, hwz⟩ : ∃ z, z = wc := ⟨_, rfl⟩
    subst hwz
    obtain ⟨os, hq1, hq2, hq3⟩ := keysH_of HOI.out.ok
    have HQ1 := Lib.hid hq1
    have HQ2 := Lib.hid hq2
    have hol := HOI.out.len
    have hs8 : w6.heap.size ≤ w8.heap.size := hx8.size
    have HX8 : Hid (Wb.Ext wO w8) := Lib.hid (HX6.out.trans hx8)
    have HT8 := Lib.hid (HT6.out.kept (.ext hx8))
    have l0 : ∀ x, Wb.Ext w8 x → x.cell? ⟨b, off + j * 4, none⟩ = some (.int .i64 a.y) := fun x k => (HX8.out.trans k).keep (HI.out.ext.keep (HIC.out.1))
    have l1 : ∀ x, Wb.Ext w8 x → x.cell? ⟨b, off + j * 4 + 1, none⟩ = some (.int .i64 a.i) := fun x k => (HX8.out.trans k).keep (HI.out.ext.keep (HIC.out.2.1))
    have l2 : ∀ x, Wb.Ext w8 x → x.cell? ⟨b, off + j * 4 + 2, none⟩ = some (.int .i64 a.k) := fun x k => (HX8.out.trans k).keep (HI.out.ext.keep (HIC.out.2.2))
    have k0 : ∀ x, Wb.Ext w8 x → x.cell? ⟨A, 0, none⟩ = some (.slice ra rl rc) := fun x k => (HX8.out.trans k).keep HI.out.a0
    have k1 : ∀ x, Wb.Ext w8 x → x.cell? ⟨A, 1, none⟩ = some (.map mp) := fun x k => (HX8.out.trans k).keep HI.out.a1
    have k2 : ∀ x, Wb.Ext w8 x → x.cell? ⟨A, 2, none⟩ = some (.map mo) := fun x k => (HX8.out.trans k).keep HI.out.a2
    have HDO := Lib.hid (show ∀ W, Wb.Ext w8 W → Calls Tryz.prog 12 #[.agg #[.slice ra rl rc, .map mp, .map mo], .int .i64 a.y, .int .i64 a.i, .int .i64 a.k, .map (some M)] W fun e w' => ∃ (ra' : Option Addr) (rl' rc' : Nat) (mp' mo' : Option Nat) (B' : Wb.Bk) (n1 y1 i1 k1 : Int) (qa : Option Addr) (qc : Nat) (rows : List RwM) (E : Int) (nW : Nat), e = .returned (.tuple #[.agg #[.slice ra' rl' rc', .map mp', .map mo'], .agg #[.int .i64 n1, .int .i64 y1, .int .i64 i1, .int .i64 k1, .slice qa rows.length qc], .int .i64 E]) ∧
    nW = W.heap.size ∧ wO.heap.size ≤ nW ∧ Hid (DidF (fun q => q < nW → Ok0 (fun q => q = A ∨ q = Q) wO.heap.size wO.heap.size w8.heap.size q) w' (.slice ra' rl' rc') mp' mo' B B' a.y a.i a.k (SH a.hs) hs ks N ⟨n1, y1, i1, k1, .slice qa rows.length qc, rows⟩ E) ∧ Hid (BkI (j + 1) B' (ks ++ hs) (N + (ks).length + hs.length)) ∧ Wb.Ext W w' from fun W k =>
      did_law3 (P := fun q => q = A ∨ q = Q) (j := j) HI.out.book HI.out.ok (by omega) HT8.out HI.out.ext.size (fun q hq => by rcases hq with rfl | rfl <;> omega) (Nat.le_refl _) (HX8.out.trans k) k HK1.out HK2.out hsl hk3 (fun p => sh_few HSA.out p))
    clear hq1 hq2 hx8 c0 c1 c2
    go_upto_region 12 with (fail)
    refine Code.wp_mono (OnEnd.imp ?_) (ap12 _ _ _ _ _ _ _ _ _ _ _ _ _ _ _ _ _ _ _ _ _ _ _ _ _ _ _ _ _ _ _ _ _ _ _ _ _ _ _ _ _ _ _ _ _ _ _ _ _ _ _ _ _ _ _ _ _ _ _ _ _ _ _ _ _ _ _ _ _ _ _ _ _ _ _ _ _ _ _ _ _ _ _ _ _ _ _ _ _ _ _ _ _ _ _ _ _ _ _ _ _ _ _ _ _ _ _ _ _ _ _ _ _ _ _ _ _ _ _ _ _ _ _ _ _ _ _ _ _ _ _ _ w w8 wO.heap.size wO.heap.size w8.heap.size M b off vc j al.length A Q ra rl rc N mp mo B ks hs a a.hs hlow.1 (by omega) (Nat.le_refl _) (by omega) hji ⟨hlow.1, hlow2.1, hlow2.1⟩ l0 l1 l2 k0 k1 k2 HDO.out)
    rintro a' wc ⟨X, R, ra', rl', rc', mp', mo', B', n1, y1, i1, k9, qa, qc, rows, E, u44, u45, u46, u47, u48, u49, u50, u51, u52, u53, u54, u55, u56, u57, u58, u59, u60, u61, u62, u63, u64, u65, rfl, nX, nR, hI9, hD, e0, e1, e2, r0, r1, r2, r3, r4, hxD⟩
    (try dsimp only)
    obtain ⟨wD, hwz⟩ : ∃ z, z = wc := ⟨_, rfl⟩
    subst hwz
    have HD := Lib.hid hD
    have HXD := Lib.hid hxD
    have HRC : Hid (wD.cell? ⟨X, 0, none⟩ = some (.slice ra' rl' rc') ∧ wD.cell? ⟨X, 1, none⟩ = some (.map mp') ∧ wD.cell? ⟨X, 2, none⟩ = some (.map mo') ∧ wD.cell? ⟨R, 0, none⟩ = some (.int .i64 n1) ∧ wD.cell? ⟨R, 1, none⟩ = some (.int .i64 y1) ∧ wD.cell? ⟨R, 2, none⟩ = some (.int .i64 i1) ∧ wD.cell? ⟨R, 3, none⟩ = some (.int .i64 k9) ∧ wD.cell? ⟨R, 4, none⟩ = some (.slice qa rows.length qc)) := Lib.hid ⟨e0, e1, e2, r0, r1, r2, r3, r4⟩
    clear hD HDO l0 l1 l2 k0 k1 k2 e0 e1 e2 r0 r1 r2 r3 r4
    have hsD : w8.heap.size ≤ wD.heap.size := hxD.size
    have l0 : ∀ x, Wb.Ext wD x → x.cell? ⟨b, off + j * 4, none⟩ = some (.int .i64 a.y) := fun x k => (HX8.out.trans (HXD.out.trans k)).keep (HI.out.ext.keep (HIC.out.1))
    have l1 : ∀ x, Wb.Ext wD x → x.cell? ⟨b, off + j * 4 + 1, none⟩ = some (.int .i64 a.i) := fun x k => (HX8.out.trans (HXD.out.trans k)).keep (HI.out.ext.keep (HIC.out.2.1))
    have l2 : ∀ x, Wb.Ext wD x → x.cell? ⟨b, off + j * 4 + 2, none⟩ = some (.int .i64 a.k) := fun x k => (HX8.out.trans (HXD.out.trans k)).keep (HI.out.ext.keep (HIC.out.2.2))
    have k0 : ∀ x, Wb.Ext wD x → x.cell? ⟨Q, 0, none⟩ = some (.slice rb sl sc) := fun x k => (HX8.out.trans (HXD.out.trans k)).keep HC.out.a0
    have k1 : ∀ x, Wb.Ext wD x → x.cell? ⟨Q, 1, none⟩ = some (.map np) := fun x k => (HX8.out.trans (HXD.out.trans k)).keep HC.out.a1
    have k2 : ∀ x, Wb.Ext wD x → x.cell? ⟨Q, 2, none⟩ = some (.map no) := fun x k => (HX8.out.trans (HXD.out.trans k)).keep HC.out.a2
    have HDO := Lib.hid (show ∀ W, Wb.Ext wD W → Calls Tryz.prog 12 #[.agg #[.slice rb sl sc, .map np, .map no], .int .i64 a.y, .int .i64 a.i, .int .i64 a.k, .map (some M2)] W fun e w' => ∃ (ra' : Option Addr) (rl' rc' : Nat) (mp' mo' : Option Nat) (B' : Wb.Bk) (n1 y1 i1 k1 : Int) (qa : Option Addr) (qc : Nat) (rows : List RwM) (E : Int) (nW : Nat), e = .returned (.tuple #[.agg #[.slice ra' rl' rc', .map mp', .map mo'], .agg #[.int .i64 n1, .int .i64 y1, .int .i64 i1, .int .i64 k1, .slice qa rows.length qc], .int .i64 E]) ∧
    nW = W.heap.size ∧ wO.heap.size ≤ nW ∧ Hid (DidF (fun q => q < nW → Ok0 (fun q => q = A ∨ q = Q) wO.heap.size wO.heap.size w8.heap.size q) w' (.slice ra' rl' rc') mp' mo' C B' a.y a.i a.k (SH O) os is N2 ⟨n1, y1, i1, k1, .slice qa rows.length qc, rows⟩ E) ∧ Hid (BkI (j + 1) B' (is ++ os) (N2 + (is).length + os.length)) ∧ Wb.Ext W w' from fun W k =>
      did_law3 (P := fun q => q = A ∨ q = Q) (j := j) HC.out.book HC.out.ok (by omega) HTO.out HC.out.ext.size (fun q hq => by rcases hq with rfl | rfl <;> omega) (Nat.le_refl _) (HX8.out.trans (HXD.out.trans k)) (HXD.out.trans k) HQ1.out HQ2.out (by omega) hq3 (HOI.out.few fun p => sh_few HSA.out p))
    clear hxD
    go_upto_region 13 with (fail)
    refine Code.wp_mono (OnEnd.imp ?_) (ap13 _ _ _ _ _ _ _ _ _ _ _ _ _ _ _ _ _ _ _ _ _ _ _ _ _ _ _ _ _ _ _ _ _ _ _ _ _ _ _ _ _ _ _ _ _ _ _ _ _ _ _ _ _ _ _ _ _ _ _ _ _ _ _ _ _ _ _ _ _ _ _ _ _ _ _ _ _ _ _ _ _ _ _ _ _ _ _ _ _ _ _ _ _ _ _ _ _ _ _ _ _ _ _ _ _ _ _ _ _ _ _ _ _ _ _ _ _ _ _ _ _ _ _ _ _ _ _ _ _ _ _ _ w wD wO.heap.size wO.heap.size w8.heap.size M2 b off vc j al.length A Q rb sl sc N2 np no C is os a O hlow.1 (by omega) hsD (by omega) hji ⟨hlow.1, hlow2.1, hlow2.1⟩ l0 l1 l2 k0 k1 k2 HDO.out)
    rintro a' wc ⟨Y, T, rb', sl', sc', np', no', C', n2, y2, i2, k8, ta, tc, rows2, F, u66, u67, u68, u69, u70, u71, u72, u73, u74, u75, u76, u77, u78, u79, u80, u81, u82, u83, u84, u85, u86, u87, rfl, nY, nT, hI2, hD2, e0, e1, e2, r0, r1, r2, r3, r4, hxE⟩
    (try dsimp only)
    obtain ⟨wE, hwz⟩ : ∃ z, z = wc := ⟨_, rfl⟩
    subst hwz
    have HD2 := Lib.hid hD2
    have HXE := Lib.hid hxE
    have HXO : Hid (Wb.Ext wO wE) := Lib.hid (HX8.out.trans (HXD.out.trans hxE))
    have HRC2 : Hid (wE.cell? ⟨Y, 0, none⟩ = some (.slice rb' sl' sc') ∧ wE.cell? ⟨Y, 1, none⟩ = some (.map np') ∧ wE.cell? ⟨Y, 2, none⟩ = some (.map no') ∧ wE.cell? ⟨T, 0, none⟩ = some (.int .i64 n2) ∧ wE.cell? ⟨T, 1, none⟩ = some (.int .i64 y2) ∧ wE.cell? ⟨T, 2, none⟩ = some (.int .i64 i2) ∧ wE.cell? ⟨T, 3, none⟩ = some (.int .i64 k8) ∧ wE.cell? ⟨T, 4, none⟩ = some (.slice ta rows2.length tc)) := Lib.hid ⟨e0, e1, e2, r0, r1, r2, r3, r4⟩
    clear hD2 HDO l0 l1 l2 k0 k1 k2 e0 e1 e2 r0 r1 r2 r3 r4 hxE
    by_cases hE : E = 0
    case neg =>
      have g1 : (E == 0) = false := by simpa using hE
      have g2 : (E != 0) = true := by simpa using hE
      clear hE
      go_wp2_with fail
      go_fit (awake31_any _); rintro e wz3 ⟨rfl, hz3⟩
      have HZ3 := Lib.hid (show Wb.Ext w wz3 from HI.out.ext.trans (HXO.out.trans (by (repeat' (first | (with_reducible assumption) | (with_reducible exact Wb.Ext.refl _) | (with_reducible refine Wb.Ext.drew ?_) | (with_reducible refine Wb.Ext.drewN ?_ _) | (with_reducible refine Wb.Ext.alloc ?_ _) | (with_reducible refine Wb.Ext.trans ?_ (by assumption)))))))
      clear hz3
      go_wp2
      exact bodyPost_ret (v := .bool true) (by simp [results, Tryz.results8, go_sem]) rfl ⟨rfl, HZ3.out⟩
    subst hE
    have HLW := Lib.hid (apart_law HD.out HD2.out HI.out.ok.ok HAP.out HOI.out.here HOI.out.off)
    have hF := HLW.out.1
    subst hF
    have HAN := Lib.hid HLW.out.2.1
    have hone := HLW.out.2.2.1
    have HEQ := Lib.hid HLW.out.2.2.2
    obtain ⟨e0, e1, e2, r0, r1, r2, r3, r4⟩ := HRC.out
    obtain ⟨f0, f1, f2, t0, t1, t2, t3, t4⟩ := HRC2.out
    have e0 := HXE.out.keep e0
    have e1 := HXE.out.keep e1
    have e2 := HXE.out.keep e2
    have r0 := HXE.out.keep r0
    have r1 := HXE.out.keep r1
    have r2 := HXE.out.keep r2
    have r3 := HXE.out.keep r3
    have r4 := HXE.out.keep r4
    have a0 := HXO.out.keep HI.out.a0
    have a1 := HXO.out.keep HI.out.a1
    have a2 := HXO.out.keep HI.out.a2
    have q0 := HXO.out.keep HC.out.a0
    have q1 := HXO.out.keep HC.out.a1
    have q2 := HXO.out.keep HC.out.a2
    have af : ∀ i, wE.frozen? ⟨A, i, none⟩ = false := fun i => (HXO.out.cells.2 _ _ hlow.1).trans (HI.out.af i)
    have qf : ∀ i, wE.frozen? ⟨Q, i, none⟩ = false := fun i => (HXO.out.cells.2 _ _ hlow2.1).trans (HC.out.af i)
    have hsE : wO.heap.size ≤ wE.heap.size := HXO.out.size
    have h1A : ¬ X = A := by omega
    have h2A : ¬ A = X := by omega
    have h1Q : ¬ X = Q := by omega
    have h2Q : ¬ Q = X := by omega
    have h3A : ¬ Y = A := by omega
    have h4A : ¬ A = Y := by omega
    have h3Q : ¬ Y = Q := by omega
    have h4Q : ¬ Q = Y := by omega
    have h5A : ¬ R = A := by omega
    have h5Q : ¬ R = Q := by omega
    have h6A : ¬ T = A := by omega
    have h6Q : ¬ T = Q := by omega
    have h7 : ¬ A = Q := by omega
    have h8 : ¬ Q = A := by omega
    go_upto_region 16 with (fail)
    go_cut [] (fun wx => Hid ((wx.cell? ⟨A, 0, none⟩ = some (.slice ra' rl' rc') ∧ wx.cell? ⟨A, 1, none⟩ = some (.map mp') ∧ wx.cell? ⟨A, 2, none⟩ = some (.map mo') ∧ ∀ i, wx.frozen? ⟨A, i, none⟩ = false) ∧ (wx.cell? ⟨Q, 0, none⟩ = some (.slice rb' sl' sc') ∧ wx.cell? ⟨Q, 1, none⟩ = some (.map np') ∧ wx.cell? ⟨Q, 2, none⟩ = some (.map no') ∧ ∀ i, wx.frozen? ⟨Q, i, none⟩ = false) ∧ Kept (fun q => q ≠ A ∧ q ≠ Q) wE wx))
    case first =>
      go_wp2_with fail
      go_region
      all_goals go_wp2_with fail
      all_goals go_meet
      all_goals exact Lib.hid ⟨⟨by simp [go_sem, *], by simp [go_sem, *], by simp [go_sem, *], fun i => by simp [go_sem, af]⟩, ⟨by simp [go_sem, *], by simp [go_sem, *], by simp [go_sem, *], fun i => by simp [go_sem, qf]⟩, by (repeat' (first | (with_reducible exact Kept.refl) | (with_reducible refine Kept.drewR ?_) | (with_reducible refine Kept.setj ?_ ?_) | (exact fun h => h.1 rfl) | (exact fun h => h.2 rfl)))⟩
    case rest =>
    obtain ⟨wA, hwz⟩ : ∃ z, z = wc := ⟨_, rfl⟩
    subst hwz
    have HCU := Lib.hid hcut.out
    have HKA := Lib.hid hcut.out.2.2
    clear hcut a0 a1 a2 q0 q1 q2 af qf e0 e1 e2 f0 f1 f2
    have hsA : wE.heap.size ≤ wA.heap.size := HKA.out.size
    replace r0 := HKA.out.cell ⟨h5A, h5Q⟩ r0
    replace r1 := HKA.out.cell ⟨h5A, h5Q⟩ r1
    replace r2 := HKA.out.cell ⟨h5A, h5Q⟩ r2
    replace r3 := HKA.out.cell ⟨h5A, h5Q⟩ r3
    replace r4 := HKA.out.cell ⟨h5A, h5Q⟩ r4
    replace t0 := HKA.out.cell ⟨h6A, h6Q⟩ t0
    replace t1 := HKA.out.cell ⟨h6A, h6Q⟩ t1
    replace t2 := HKA.out.cell ⟨h6A, h6Q⟩ t2
    replace t3 := HKA.out.cell ⟨h6A, h6Q⟩ t3
    replace t4 := HKA.out.cell ⟨h6A, h6Q⟩ t4
    have HXA : Hid (Wb.Ext w wA) := Lib.hid (HKA.out.old (HI.out.ext.trans HXO.out) (fun i hi => by omega))
    have HKD : Hid (Kept (fun q => ¬ (q = A ∨ q = Q)) wD wA) := Lib.hid ((Kept.ext HXE.out).trans (HKA.out.mono (fun q _ h => ⟨fun e => h (.inl e), fun e => h (.inr e)⟩)))
    have HKE : Hid (Kept (fun q => ¬ (q = A ∨ q = Q)) wE wA) := Lib.hid (HKA.out.mono (fun q _ h => ⟨fun e => h (.inl e), fun e => h (.inr e)⟩))
    have HB1 : Hid (ApI w (fun q => q = A ∨ q = Q) A (j + 1) wA ra' rl' rc' mp' mo' B' (ks ++ hs) (N + ks.length + hs.length)) := Lib.hid
      ⟨HCU.out.1.1, HCU.out.1.2.1, HCU.out.1.2.2.1, HCU.out.1.2.2.2, HD.out.book.kept HKD.out, hI9.out, ⟨by omega, hlow.2⟩, HXA.out⟩
    have HB2 : Hid (ApI w (fun q => q = A ∨ q = Q) Q (j + 1) wA rb' sl' sc' np' no' C' (is ++ os) (N2 + is.length + os.length)) := Lib.hid
      ⟨HCU.out.2.1.1, HCU.out.2.1.2.1, HCU.out.2.1.2.2.1, HCU.out.2.1.2.2.2, HD2.out.book.kept HKE.out, hI2.out, ⟨by omega, hlow2.2⟩, HXA.out⟩
    have HR1 := Lib.hid (show ∀ W, Wb.Ext wA W → Calls Tryz.prog 27 #[.agg #[.int .i64 n1, .int .i64 y1, .int .i64 i1, .int .i64 k9, .slice qa rows.length qc], .int .u32 p0] W fun e w' => ∃ (ua : Option Addr) (un uc : Nat), e = .returned (.slice ua un uc) ∧ Hid (RowsM w' (.slice ua un uc) (ofP p0 rows)) ∧ Wb.Ext W w' from fun W k => by
      refine (rowsp31_any n1 y1 i1 k9 _ rows p0 W (HD.out.rows W (HKD.out.trans (.ext k)))).mono ?_
      rintro e w' ⟨u, rfl, h1, h2⟩
      obtain ⟨ua, uc, rfl⟩ := h1.tab.shape
      exact ⟨ua, _, uc, rfl, Lib.hid h1, h2⟩)
    have HR2 := Lib.hid (show ∀ W, Wb.Ext wA W → Calls Tryz.prog 27 #[.agg #[.int .i64 n2, .int .i64 y2, .int .i64 i2, .int .i64 k8, .slice ta rows2.length tc], .int .u32 p0] W fun e w' => ∃ (ua : Option Addr) (un uc : Nat), e = .returned (.slice ua un uc) ∧ Hid (RowsM w' (.slice ua un uc) (ofP p0 rows2)) ∧ Wb.Ext W w' from fun W k => by
      refine (rowsp31_any n2 y2 i2 k8 _ rows2 p0 W (HD2.out.rows W (HKE.out.trans (.ext k)))).mono ?_
      rintro e w' ⟨u, rfl, h1, h2⟩
      obtain ⟨ua, uc, rfl⟩ := h1.tab.shape
      exact ⟨ua, _, uc, rfl, Lib.hid h1, h2⟩)
    obtain ⟨OW, hO⟩ : ∃ OW, B'.owed p0 = OW := ⟨_, rfl⟩
    have HO2 : Hid (C'.owed p0 = OW) := Lib.hid (HAN.out.owed.trans hO)
    have HO1 := Lib.hid hO
    have hnO : ((OW : Int) != OW) = false := by simp
    have HOA := Lib.hid (show ∀ W, Wb.Ext wA W → Calls Tryz.prog 13 #[.agg #[.slice ra' rl' rc', .map mp', .map mo'], .int .u32 p0] W fun e w' => e = .returned (.int .i64 OW) ∧ Wb.Ext W w' from fun W k => by
      have := owed31_any _ mp' mo' B' (ks ++ hs) (N + ks.length + hs.length) p0 HP.out _ (HB1.out.book.now.ext k)
      rw [HO1.out] at this; exact this)
    have HOB := Lib.hid (show ∀ W, Wb.Ext wA W → Calls Tryz.prog 13 #[.agg #[.slice rb' sl' sc', .map np', .map no'], .int .u32 p0] W fun e w' => e = .returned (.int .i64 OW) ∧ Wb.Ext W w' from fun W k => by
      have := owed31_any _ np' no' C' (is ++ os) (N2 + is.length + os.length) p0 HP.out _ (HB2.out.book.now.ext k)
      rw [HO2.out] at this; exact this)
    have hfew : (B'.paid p0).length ≤ 60 := HB1.out.ok.few p0
    have HPA := Lib.hid (show ∀ W, Wb.Ext wA W → Calls Tryz.prog 15 #[.agg #[.slice ra' rl' rc', .map mp', .map mo'], .int .u32 p0] W fun e w' => ∃ (ua : Option Addr) (uc : Nat) (D : List Wb.Sl), e = .returned (.slice ua D.length uc) ∧ Hid (Sls w' (.slice ua D.length uc) D ∧ D.map Wb.ct = B'.paid p0) ∧ Wb.Ext W w' from fun W k => by
      refine (paid31_any _ mp' mo' B' (ks ++ hs) (N + ks.length + hs.length) p0 HP.out _ (HB1.out.book.now.ext k)).mono ?_
      rintro e w' ⟨u, D, rfl, h1, h2, -, h3⟩
      obtain ⟨ua, uc, rfl⟩ := h1.shape
      exact ⟨ua, uc, D, rfl, Lib.hid ⟨h1.sls, h2⟩, h3⟩)
    have HPC := Lib.hid (show ∀ W, Wb.Ext wA W → Calls Tryz.prog 15 #[.agg #[.slice rb' sl' sc', .map np', .map no'], .int .u32 p0] W fun e w' => ∃ (ua : Option Addr) (uc : Nat) (D : List Wb.Sl), e = .returned (.slice ua D.length uc) ∧ Hid (Sls w' (.slice ua D.length uc) D ∧ D.map Wb.ct = B'.paid p0) ∧ Wb.Ext W w' from fun W k => by
      refine (paid31_any _ np' no' C' (is ++ os) (N2 + is.length + os.length) p0 HP.out _ (HB2.out.book.now.ext k)).mono ?_
      rintro e w' ⟨u, D, rfl, h1, h2, -, h3⟩
      obtain ⟨ua, uc, rfl⟩ := h1.shape
      exact ⟨ua, uc, D, rfl, Lib.hid ⟨h1.sls, h2.trans HAN.out.paid⟩, h3⟩)
    have g1 : decide ((1 : Int) < (rows2.length : Int)) = false := by simp; omega
    have v0 : ∀ x, Wb.Ext wA x → x.cell? ⟨A, 0, none⟩ = some (.slice ra' rl' rc') := fun x h => h.keep HB1.out.a0
    have v1 : ∀ x, Wb.Ext wA x → x.cell? ⟨A, 1, none⟩ = some (.map mp') := fun x h => h.keep HB1.out.a1
    have v2 : ∀ x, Wb.Ext wA x → x.cell? ⟨A, 2, none⟩ = some (.map mo') := fun x h => h.keep HB1.out.a2
    have z0 : ∀ x, Wb.Ext wA x → x.cell? ⟨Q, 0, none⟩ = some (.slice rb' sl' sc') := fun x h => h.keep HB2.out.a0
    have z1 : ∀ x, Wb.Ext wA x → x.cell? ⟨Q, 1, none⟩ = some (.map np') := fun x h => h.keep HB2.out.a1
    have z2 : ∀ x, Wb.Ext wA x → x.cell? ⟨Q, 2, none⟩ = some (.map no') := fun x h => h.keep HB2.out.a2
    have p0' : ∀ x, Wb.Ext wA x → x.cell? ⟨R, 0, none⟩ = some (.int .i64 n1) := fun x h => h.keep r0
    have p1' : ∀ x, Wb.Ext wA x → x.cell? ⟨R, 1, none⟩ = some (.int .i64 y1) := fun x h => h.keep r1
    have p2' : ∀ x, Wb.Ext wA x → x.cell? ⟨R, 2, none⟩ = some (.int .i64 i1) := fun x h => h.keep r2
    have p3' : ∀ x, Wb.Ext wA x → x.cell? ⟨R, 3, none⟩ = some (.int .i64 k9) := fun x h => h.keep r3
    have p4' : ∀ x, Wb.Ext wA x → x.cell? ⟨R, 4, none⟩ = some (.slice qa rows.length qc) := fun x h => h.keep r4
    have s0' : ∀ x, Wb.Ext wA x → x.cell? ⟨T, 0, none⟩ = some (.int .i64 n2) := fun x h => h.keep t0
    have s1' : ∀ x, Wb.Ext wA x → x.cell? ⟨T, 1, none⟩ = some (.int .i64 y2) := fun x h => h.keep t1
    have s2' : ∀ x, Wb.Ext wA x → x.cell? ⟨T, 2, none⟩ = some (.int .i64 i2) := fun x h => h.keep t2
    have s3' : ∀ x, Wb.Ext wA x → x.cell? ⟨T, 3, none⟩ = some (.int .i64 k8) := fun x h => h.keep t3
    have s4' : ∀ x, Wb.Ext wA x → x.cell? ⟨T, 4, none⟩ = some (.slice ta rows2.length tc) := fun x h => h.keep t4
    clear hO r0 r1 r2 r3 r4 t0 t1 t2 t3 t4
    go_upto_region 17 with (fail)
    refine Code.wp_mono (OnEnd.imp ?_) (ap17 _ _ _ _ _ _ _ _ _ _ _ _ _ _ _ _ _ _ _ _ _ _ _ _ _ _ _ _ _ _ _ _ _ _ _ _ _ _ _ _ _ _ _ _ _ _ _ _ _ _ _ _ _ _ _ _ _ _ _ _ _ _ _ _ _ _ _ _ _ _ _ _ _ _ _ _ _ _ _ _ _ _ _ _ _ _ _ _ _ _ _ _ _ _ _ _ _ _ _ _ _ _ _ _ _ _ _ _ _ _ _ _ _ _ _ _ _ _ _ _ _ _ _ _ _ _ _ _ _ _ _ wA p0 A Q R T ra' rb' qa ta rl' rc' sl' sc' qc tc rows.length rows2.length mp' mo' np' no' n1 y1 i1 k9 n2 y2 i2 k8 OW (ofP p0 rows) (ofP p0 rows2) (B'.paid p0) v0 v1 v2 z0 z1 z2 p0' p1' p2' p3' p4' s0' s1' s2' s3' s4' g1 hfew HEQ.out HR1.out HR2.out HOA.out HOB.out HPA.out HPC.out)
    rintro a' wx ⟨u101, u102, u103, u104, u105, u106, u107, u108, u109, u110, u111, u112, u113, u114, u115, u116, u117, u118, u119, u120, u121, u122, u123, u124, u125, u126, u127, u128, u129, u130, u131, u132, rfl, hxx⟩
    (try dsimp only)
    have HXX := Lib.hid hxx
    clear v0 v1 v2 z0 z1 z2 p0' p1' p2' p3' p4' s0' s1' s2' s3' s4' HR1 HR2 HOA HOB HPA HPC hxx
    all_goals
      go_wp2
      go_roundw
      case rel => exact ⟨j + 1, ra', rl', rc', mp', mo', B', ks ++ hs, N + ks.length + hs.length, rb', sl', sc', np', no', C', is ++ os, N2 + is.length + os.length, by omega, by go_num, Lib.hid (HB1.out.ext' HXX.out), Lib.hid (HB2.out.ext' HXX.out), HAN⟩
      case measure => first | (simp [intOf]; done) | (simp [intOf]; omega)
end Go.Proofs.YtnefdpnolojojaaGreat
