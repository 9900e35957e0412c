/- Tc -/
import Derived.Test.YtnefdpnolojojaaGreatDoorTc9
import Derived.Test.YtnefdpnolojojaaGreatDoorTc10
import Derived.Test.YtnefdpnolojojaaGreatDoorMTc
namespace Go.Proofs.YtnefdpnolojojaaGreatDoor
open Go.RowKit Go.Sort Go.Lib Go.Maps
set_option maxRecDepth 8000
attribute [local go_sem ↓] Go.wp_at_zero Go.wp_at_succ
set_option maxHeartbeats 100000000 in
theorem topclosed_any (v u : Value) (L O : List Wb.Cl) (n : Nat) (hn : n < 256) (w : World) (h : ClsM w v L) (h2 : ClsM w u O) (ht : Tab10 w) :
  Calls Tryz.prog 3 #[v, u, .int .u8 n] w fun e w' => e = .returned (.bool true) ∧ Wb.Ext w w' := by
 obtain ⟨va, vc, rfl⟩ := h.tab.shape
 obtain ⟨ua, uc, rfl⟩ := h2.tab.shape
 have HL := Lib.hid h
 have HO := Lib.hid h2
 have HT := Lib.hid ht
 clear h h2 ht
 by_cases hl : L.length ≤ 60
 case neg =>
  have d0 : decide ((60 : Int) < (L.length : Int)) = true := decide_eq_true (by omega)
  clear hl
  go_enter Tryz.func3, Tryz.ntmps3
  go_wp2
  exact bodyPost_ret (v := .bool true) (by simp [results, Tryz.results3, go_sem]) rfl ⟨rfl, by (repeat' (first | (with_reducible assumption) | (with_reducible exact Wb.Ext.refl _) | (with_reducible refine Wb.Ext.drew ?_) | (with_reducible refine Wb.Ext.drewN ?_ _) | (with_reducible refine Wb.Ext.alloc ?_ _) | (with_reducible refine Wb.Ext.trans ?_ (by assumption))))⟩
 have d0 : decide ((60 : Int) < (L.length : Int)) = false := decide_eq_false (by omega)
 have d0n : ¬ (60 : Int) < (L.length : Int) := by omega
 by_cases hl2 : O.length ≤ 60
 case neg =>
  have d1 : decide ((60 : Int) < (O.length : Int)) = true := decide_eq_true (by omega)
  clear hl2
  go_enter Tryz.func3, Tryz.ntmps3
  go_wp2
  exact bodyPost_ret (v := .bool true) (by simp [results, Tryz.results3, go_sem]) rfl ⟨rfl, by (repeat' (first | (with_reducible assumption) | (with_reducible exact Wb.Ext.refl _) | (with_reducible refine Wb.Ext.drew ?_) | (with_reducible refine Wb.Ext.drewN ?_ _) | (with_reducible refine Wb.Ext.alloc ?_ _) | (with_reducible refine Wb.Ext.trans ?_ (by assumption))))⟩
 have d1 : decide ((60 : Int) < (O.length : Int)) = false := decide_eq_false (by omega)
 have d1n : ¬ (60 : Int) < (O.length : Int) := by omega
 go_enter Tryz.func3, Tryz.ntmps3
 go_upto_region 4 with (fail)
 refine Wb.wp_at fun WB hWB => ?_
 obtain ⟨A, hA⟩ : ∃ A, w.heap.size = A := ⟨_, rfl⟩
 have HI : Hid (TcJ w A 0 (fun q => q = A) WB none 0 0 none none Wb.noBk [] 0 (.slice none 0 0) L (fun _ => 0)) := Lib.hid (by
  have hAs : A < WB.heap.size := by rw [hWB, ← hA]; simp
  refine ⟨⟨by rw [hWB, ← hA]; simp [go_sem], by rw [hWB, ← hA]; simp [go_sem], by rw [hWB, ← hA]; simp [go_sem], fun j => by rw [hWB, ← hA]; simp [go_sem], bk_none _ _, bki_none, ⟨hAs, by omega⟩, by rw [hWB]; (repeat' (first | (with_reducible assumption) | (with_reducible exact Wb.Ext.refl _) | (with_reducible refine Wb.Ext.drew ?_) | (with_reducible refine Wb.Ext.drewN ?_ _) | (with_reducible refine Wb.Ext.alloc ?_ _) | (with_reducible refine Wb.Ext.trans ?_ (by assumption))))⟩, Wb.topI_none L, Wb.paid_no, (fun x hx => by cases hx), own_none, rfl, (fun q e => by cases e), fun q e => by subst e; exact ⟨Nat.le_refl _, hAs⟩⟩)
 rw [hA]
 clear hWB hA d0 d0n d1 d1n
 obtain ⟨m6, hm6⟩ : ∃ m6, n % 6 = m6 := ⟨_, rfl⟩
 have hmi : (n : Int) % 6 = (m6 : Int) := by omega
 have hm5 : m6 ≤ 5 := by omega
 clear hm6
 go_wp2_with fail
 go_loopw [8, 9] (fun tv iv wr => ∃ (j t : Nat) (P0 : Nat → Prop) (ra : Option Addr) (rl rc : Nat) (mp mo : Option Nat) (B : Wb.Bk) (ks : List Int) (N : Nat) (sum : Int → Int), j + 1 = t ∧ j ≤ m6 + 1 ∧ iv = .int .i64 t ∧ Hid (TcJ w A j P0 wr ra rl rc mp mo B ks N tv L sum)) (fun _ iv _ => 10 - (intOf iv).toNat)
 case atStart => exact ⟨0, 1, fun q => q = A, none, 0, 0, none, none, Wb.noBk, [], 0, fun _ => 0, rfl, by omega, rfl, HI⟩
 case round =>
  clear HI
  obtain ⟨j, t, P0, ra, rl, rc, mp, mo, B, ks, N, sum, hjt, hj, rfl, HI⟩ := hrel
  obtain ⟨wO, hwz⟩ : ∃ z, z = wr := ⟨_, rfl⟩
  subst hwz
  obtain ⟨tv, htv⟩ : ∃ z, z = u8 := ⟨_, rfl⟩
  subst htv
  by_cases hlt : t ≤ m6 + 1
  case neg =>
   have d1 : decide ((t : Int) ≤ (m6 : Int) + 1) = false := decide_eq_false (by omega)
   have d1n : ¬ (t : Int) ≤ (m6 : Int) + 1 := by omega
   have hxE := HI.out.book.ext
   clear hlt
   go_wp2
   exact bodyPost_ret (v := .bool true) (by simp [results, Tryz.results3, go_sem]) rfl ⟨rfl, hxE⟩
  have d1 : decide ((t : Int) ≤ (m6 : Int) + 1) = true := decide_eq_true (by omega)
  have d1n : (t : Int) ≤ (m6 : Int) + 1 := by omega
  have ht6 : t ≤ 6 := by omega
  have hlow := HI.out.book.lt
  have a0 := HI.out.book.a0
  have a1 := HI.out.book.a1
  have a2 := HI.out.book.a2
  go_upto_region 9 with (fail)
  refine Wb.wp_at fun wS hwS => ?_
  obtain ⟨X, hX⟩ : ∃ X, wO.heap.size = X := ⟨_, rfl⟩
  have b0 : wS.cell? ⟨X, 0, none⟩ = some (.slice ra rl rc) := by rw [hwS, ← hX]; simp [go_sem]
  have b1 : wS.cell? ⟨X, 1, none⟩ = some (.map mp) := by rw [hwS, ← hX]; simp [go_sem]
  have b2 : wS.cell? ⟨X, 2, none⟩ = some (.map mo) := by rw [hwS, ← hX]; simp [go_sem]
  have hxS : Wb.Ext wO wS := by rw [hwS]; (repeat' (first | (with_reducible assumption) | (with_reducible exact Wb.Ext.refl _) | (with_reducible refine Wb.Ext.drew ?_) | (with_reducible refine Wb.Ext.drewN ?_ _) | (with_reducible refine Wb.Ext.alloc ?_ _) | (with_reducible refine Wb.ext_set ?_ (by first | assumption | (simp; done) | (simp; omega) | omega) _) | (with_reducible refine Wb.Ext.trans ?_ (by assumption))))
  have hXs : X < wS.heap.size := by rw [hwS, ← hX]; simp
  have HI2 := Lib.hid (HI.out.ext hxS)
  have HXS := Lib.hid hxS
  simp only [hX]
  clear hwS a0 a1 a2
  have s0 : ∀ x, Wb.Ext wS x → x.cell? ⟨A, 0, none⟩ = some (.slice ra rl rc) := fun x k => k.keep HI2.out.book.a0
  have s1 : ∀ x, Wb.Ext wS x → x.cell? ⟨A, 1, none⟩ = some (.map mp) := fun x k => k.keep HI2.out.book.a1
  have s2 : ∀ x, Wb.Ext wS x → x.cell? ⟨A, 2, none⟩ = some (.map mo) := fun x k => k.keep HI2.out.book.a2
  have hn0 : w.heap.size ≤ wS.heap.size := HI2.out.book.ext.size
  have hP0 : ∀ q, P0 q → w.heap.size ≤ q ∧ q < wS.heap.size := fun q e => by have := HI2.out.new q e; omega
  refine Code.wp_mono (OnEnd.imp ?_) (tc9 _ _ _ _ _ _ _ _ _ _ _ _ _ _ _ _ _ _ _ _ _ _ _ _ _ _ _ _ _ _ _ _ _ _ _ _ _ _ _ _ _ _ _ _ _ _ _ _ _ _ _ _ _ _ _ _ _ _ _ _ _ _ _ _ _ _ _ _ _ _ _ _ _ _ _ _ _ _ _ _ _ _ _ _ _ _ _ _ _ _ _ _ _ _ _ _ _ w wS va ra vc rl rc N j t A mp mo B ks L P0 (fun q e => (hP0 q e).2) HI2.out.book.lt.1 s0 s1 s2 (hand_law HL.out hl ht6 HI2.out.book.ext) (top_did HL.out.small hl ht6 HI2.out.book.book HI2.out.book.ok (by omega) hn0 hP0))
  rintro a' wc ⟨C, R, ra', rl', rc', mp', mo', B', n1, y1, i1, k9, qa, qc, rows, E, hs, zt36, zt37, zt38, zt39, zt40, zt41, zt42, zt43, zt44, zt45, zt46, rfl, nC, nR, hI9, hD, e0, e1, e2, r0, r1, r2, r3, r4, hxD⟩
  (try dsimp only)
  ·skip
   obtain ⟨wD, hwz⟩ : ∃ z, z = wc := ⟨_, rfl⟩
   subst hwz
   obtain ⟨ps, hw9, hd9⟩ := hD.did
   obtain ⟨hE, -, -, -, -⟩ := top_runT HL.out.small hl (show j < 6 by omega) HI2.out.law hjt hw9 hd9
   subst hE
   have hruns : B'.runs = B.runs ++ [RnM.c ⟨n1, y1, i1, k9, .slice qa rows.length qc, rows⟩] := (Wb.do_ok hd9).runs
   have HRUNS := Lib.hid hruns
   have HI3 := Lib.hid (HI2.out.ext hxD)
   have HD := Lib.hid hD
   have HXD := Lib.hid hxD
   have f0 : ∀ x, Wb.Ext wD x → x.cell? ⟨X, 0, none⟩ = some (.slice ra rl rc) := fun x k => (hxD.trans k).keep b0
   have f1 : ∀ x, Wb.Ext wD x → x.cell? ⟨X, 1, none⟩ = some (.map mp) := fun x k => (hxD.trans k).keep b1
   have f2 : ∀ x, Wb.Ext wD x → x.cell? ⟨X, 2, none⟩ = some (.map mo) := fun x k => (hxD.trans k).keep b2
   have hn3 : w.heap.size ≤ wD.heap.size := HI3.out.book.ext.size
   have hP3 : ∀ q, P0 q → w.heap.size ≤ q ∧ q < wD.heap.size := fun q e => by have := HI3.out.new q e; omega
   have hXD : X < wD.heap.size := Nat.lt_of_lt_of_le hXs hxD.size
   clear hD hxD hw9 hd9 hruns s0 s1 s2 hn0 hP0 b0 b1 b2
   go_upto_region 10 with (fail)
   refine Code.wp_mono (OnEnd.imp ?_) (tc10 _ _ _ _ _ _ _ _ _ _ _ _ _ _ _ _ _ _ _ _ _ _ _ _ _ _ _ _ _ _ _ _ _ _ _ _ _ _ _ _ _ _ _ _ _ _ _ _ _ _ _ _ _ _ _ _ _ _ _ _ _ _ _ _ _ _ _ _ _ _ _ _ _ _ _ _ _ _ _ _ _ _ _ _ _ _ _ _ _ _ _ _ _ _ _ _ _ w wD ua ra uc rl rc N j t X mp mo B ks O P0 (fun q e => (hP3 q e).2) hXD f0 f1 f2 (hand_law HO.out hl2 ht6 HI3.out.book.ext) (top_did HO.out.small hl2 ht6 HI3.out.book.book HI3.out.book.ok (by omega) hn3 hP3))
   rintro a' wc ⟨C2, R2, ra2, rl2, rc2, mp2, mo2, B2, n2, y2, i2, k2, qa2, qc2, rows2, E2, hs2, zt47, zt48, zt49, zt50, zt51, zt52, zt53, zt54, zt55, zt56, zt57, rfl, -, -, -, hD2, -, -, -, -, -, -, -, -, hxE⟩
   (try dsimp only)
   ·skip
    obtain ⟨wE, hwz⟩ : ∃ z, z = wc := ⟨_, rfl⟩
    subst hwz
    obtain ⟨ps2, -, hd2⟩ := hD2.did
    obtain rfl := top_other HL.out.small hl HO.out.small hl2 (show j < 6 by omega) HI3.out.law hjt hd2
    have HI4 := Lib.hid (HI3.out.ext hxE)
    have HDE := Lib.hid (HD.out.kept (.ext hxE))
    have HXE := Lib.hid (HXD.out.trans hxE)
    have hnP : ∀ q, X ≤ q → q < wE.heap.size → ¬ P0 q := fun q hq _ e => by have := HI.out.new q e; omega
    have hCP : ¬ P0 C := fun e => by have := HI2.out.new C e; omega
    have hRP : ¬ P0 R := fun e => by have := HI2.out.new R e; omega
    have hXP : ¬ P0 X := fun e => by have := HI.out.new X e; omega
    have g0 : ∀ x, Kept (fun q => ¬ P0 q) wE x → x.cell? ⟨C, 0, none⟩ = some (.slice ra' rl' rc') := fun x k => k.cell hCP (hxE.keep e0)
    have g1 : ∀ x, Kept (fun q => ¬ P0 q) wE x → x.cell? ⟨C, 1, none⟩ = some (.map mp') := fun x k => k.cell hCP (hxE.keep e1)
    have g2 : ∀ x, Kept (fun q => ¬ P0 q) wE x → x.cell? ⟨C, 2, none⟩ = some (.map mo') := fun x k => k.cell hCP (hxE.keep e2)
    have p0 : ∀ x, Kept (fun q => ¬ P0 q) wE x → x.cell? ⟨R, 0, none⟩ = some (.int .i64 n1) := fun x k => k.cell hRP (hxE.keep r0)
    have p1 : ∀ x, Kept (fun q => ¬ P0 q) wE x → x.cell? ⟨R, 1, none⟩ = some (.int .i64 y1) := fun x k => k.cell hRP (hxE.keep r1)
    have p2 : ∀ x, Kept (fun q => ¬ P0 q) wE x → x.cell? ⟨R, 2, none⟩ = some (.int .i64 i1) := fun x k => k.cell hRP (hxE.keep r2)
    have p3 : ∀ x, Kept (fun q => ¬ P0 q) wE x → x.cell? ⟨R, 3, none⟩ = some (.int .i64 k9) := fun x k => k.cell hRP (hxE.keep r3)
    have p4 : ∀ x, Kept (fun q => ¬ P0 q) wE x → x.cell? ⟨R, 4, none⟩ = some (.slice qa rows.length qc) := fun x k => k.cell hRP (hxE.keep r4)
    have h0 := f0 _ hxE
    have h1 := f1 _ hxE
    have h2 := f2 _ hxE
    have hRN : Wb.RnOk (RnM.c ⟨n1, y1, i1, k9, .slice qa rows.length qc, rows⟩) := tc_rn HI2.out HL.out.small hl hjt (by omega) HD.out
    have HTX := Lib.hid (show ∀ x, Wb.Ext wE x → Calls Tryz.prog 7 #[.agg #[.int .i64 n1, .int .i64 y1, .int .i64 i1, .int .i64 k9, .slice qa rows.length qc]] x fun e w' => e = .returned (.string (Wb.S (Wb.runT (RnM.c ⟨n1, y1, i1, k9, .slice qa rows.length qc, rows⟩)))) ∧ Wb.Ext x w' from fun x e =>
     text31_any ⟨n1, y1, i1, k9, .slice qa rows.length qc, rows⟩ x (HDE.out.rows x (.ext e)) hRN (HT.out.ext (HI4.out.book.ext.trans e)))
    have hAT : tv.ownBlock ≠ some A := fun e => by have := HI4.out.texts.lt A e; omega
    clear hD2 hd2 hxE e0 e1 e2 r0 r1 r2 r3 r4 f0 f1 f2 hn3 hP3 hRN
    go_upto_region 13 with (fail)
    refine Code.wp_mono (OnEndX.imp ?_) (tc13 _ _ _ _ _ _ _ _ _ _ _ _ _ _ _ _ _ _ _ _ _ _ _ _ _ _ _ _ _ _ _ _ _ _ _ _ _ _ _ _ _ _ _ _ _ _ _ _ _ _ _ _ _ _ _ _ _ _ _ _ _ _ _ _ _ _ _ _ _ _ _ _ _ _ _ _ _ _ _ _ _ _ _ _ _ _ _ _ _ _ _ _ _ _ _ _ wE A C R j P0 tv ra' qa rl' rc' qc rows.length mp' mo' n1 y1 i1 k9 (Wb.runT (RnM.c ⟨n1, y1, i1, k9, .slice qa rows.length qc, rows⟩)) (B.runs.map Wb.runT) HI4.out.isA HI4.out.book.lt.1 hAT HI4.out.own (by omega) HI4.out.book.af _ _ _ HI4.out.book.a0 HI4.out.book.a1 HI4.out.book.a2 HI4.out.texts g0 g1 g2 p0 p1 p2 p3 p4 HTX.out)
    rintro a' wF ⟨zt64, zt65, zt66, zt67, zt68, zt69, rfl, hTc⟩
    have HN := Lib.hid (TcJ.step HI2.out HL.out.small hl hjt (by omega) HXE.out HDE.out hI9.out hTc)
    have q0 := hTc.kept.cell hXP h0
    have q1 := hTc.kept.cell hXP h1
    have q2 := hTc.kept.cell hXP h2
    have HOB := Lib.hid (HI4.out.book.book.kept hTc.kept)
    have hb1 : B.runs.length = j := HI4.out.law.runs
    have hb2 : B'.runs.length = t := HN.out.law.runs
    clear hTc g0 g1 g2 p0 p1 p2 p3 p4 h0 h1 h2 HTX
    obtain ⟨L0, hL0, hL0c⟩ := HOB.out.runs
    obtain ⟨L1, hL1, hL1c⟩ := HN.out.book.book.runs
    have hl0 : L0.length = j := by rw [← hb1, ← hL0c, List.length_map]
    have hl1 : L1.length = t := by rw [← hb2, ← hL1c, List.length_map]
    have HRO := Lib.hid (show ∀ x, Wb.Ext wF x → Calls Tryz.prog 8 #[.agg #[.slice ra rl rc, .map mp, .map mo]] x fun e w' => ∃ (za : Option Addr) (zc : Nat), e = .returned (.slice za j zc) ∧ Wb.Ext x w' from fun x e => by
     refine (runs31_any _ mp mo L0 x (hL0 x (.ext e)) (by omega)).mono ?_
     rintro e' w' ⟨z, L', rfl, k1, k2, k3⟩
     obtain ⟨za, zc, rfl⟩ := (k1 w' .refl).tab.shape
     have hlen : L'.length = j := by rw [← hl0, ← List.length_map (f := RnM.c), k2, List.length_map]
     rw [hlen]
     exact ⟨za, zc, rfl, k3⟩)
    have HRB := Lib.hid (show ∀ x, Wb.Ext wF x → Calls Tryz.prog 8 #[.agg #[.slice ra' rl' rc', .map mp', .map mo']] x fun e w' => ∃ (za : Option Addr) (zc : Nat) (L' : List RnM), e = .returned (.slice za t zc) ∧ Hid (∀ w2, Kept (fun q => x.heap.size ≤ q) w' w2 → RunsM w2 (.slice za t zc) L') ∧ Hid (L'.map RnM.c = B'.runs) ∧ Wb.Ext x w' from fun x e => by
     refine (runs31_any _ mp' mo' L1 x (hL1 x (.ext e)) (by omega)).mono ?_
     rintro e' w' ⟨z, L', rfl, k1, k2, k3⟩
     obtain ⟨za, zc, rfl⟩ := (k1 w' .refl).tab.shape
     have hlen : L'.length = t := by rw [← hl1, ← List.length_map (f := RnM.c), k2, List.length_map]
     rw [hlen] at k1
     rw [hlen]
     exact ⟨za, zc, L', rfl, Lib.hid k1, Lib.hid (k2.trans hL1c), k3⟩)
    have qj : ((j : Int) != (t : Int) - 1) = false := by
     have : (j : Int) = (t : Int) - 1 := by omega
     simp [this]
    have qt : ((t : Int) != (t : Int)) = false := by simp
    have n0 := HN.out.book.a0
    have n1' := HN.out.book.a1
    have n2' := HN.out.book.a2
    clear hL0 hL0c hL1 hL1c
    obtain ⟨g, cc, hgv, -, -, hgl, hgw⟩ := own_words HN.out.texts (by intro e; have := congrArg List.length e; rw [List.length_map, List.length_nil] at this; omega)
    rw [List.length_map, hb2] at hgv
    subst hgv
    have HGW := Lib.hid hgw
    clear hgw hgl
    (try dsimp only)
    go_wp2_with fail
    go_fit (HRO.out _ (by (repeat' (first | (with_reducible assumption) | (with_reducible exact Wb.Ext.refl _) | (with_reducible refine Wb.Ext.drew ?_) | (with_reducible refine Wb.Ext.drewN ?_ _) | (with_reducible refine Wb.Ext.alloc ?_ _) | (with_reducible refine Wb.Ext.trans ?_ (by assumption)))))); rintro e w1 ⟨za, zc, rfl, hx1⟩
    have HX1 := Lib.hid (show Wb.Ext wF w1 by (repeat' (first | (with_reducible assumption) | (with_reducible exact Wb.Ext.refl _) | (with_reducible refine Wb.Ext.drew ?_) | (with_reducible refine Wb.Ext.drewN ?_ _) | (with_reducible refine Wb.Ext.alloc ?_ _) | (with_reducible refine Wb.Ext.trans ?_ (by assumption)))))
    replace n0 := hx1.keep n0
    replace n1' := hx1.keep n1'
    replace n2' := hx1.keep n2'
    clear hx1 HRO q0 q1 q2
    go_wp2_with fail
    go_fit (HRB.out _ (HX1.out.trans (by (repeat' (first | (with_reducible assumption) | (with_reducible exact Wb.Ext.refl _) | (with_reducible refine Wb.Ext.drew ?_) | (with_reducible refine Wb.Ext.drewN ?_ _) | (with_reducible refine Wb.Ext.alloc ?_ _) | (with_reducible refine Wb.Ext.trans ?_ (by assumption))))))); rintro e w2 ⟨ya, yc, L2, rfl, -, -, hx2⟩
    have HX2 := Lib.hid (HX1.out.trans (show Wb.Ext w1 w2 by (repeat' (first | (with_reducible assumption) | (with_reducible exact Wb.Ext.refl _) | (with_reducible refine Wb.Ext.drew ?_) | (with_reducible refine Wb.Ext.drewN ?_ _) | (with_reducible refine Wb.Ext.alloc ?_ _) | (with_reducible refine Wb.Ext.trans ?_ (by assumption))))))
    replace n0 := (show Wb.Ext w1 w2 by (repeat' (first | (with_reducible assumption) | (with_reducible exact Wb.Ext.refl _) | (with_reducible refine Wb.Ext.drew ?_) | (with_reducible refine Wb.Ext.drewN ?_ _) | (with_reducible refine Wb.Ext.alloc ?_ _) | (with_reducible refine Wb.Ext.trans ?_ (by assumption))))).keep n0
    replace n1' := (show Wb.Ext w1 w2 by (repeat' (first | (with_reducible assumption) | (with_reducible exact Wb.Ext.refl _) | (with_reducible refine Wb.Ext.drew ?_) | (with_reducible refine Wb.Ext.drewN ?_ _) | (with_reducible refine Wb.Ext.alloc ?_ _) | (with_reducible refine Wb.Ext.trans ?_ (by assumption))))).keep n1'
    replace n2' := (show Wb.Ext w1 w2 by (repeat' (first | (with_reducible assumption) | (with_reducible exact Wb.Ext.refl _) | (with_reducible refine Wb.Ext.drew ?_) | (with_reducible refine Wb.Ext.drewN ?_ _) | (with_reducible refine Wb.Ext.alloc ?_ _) | (with_reducible refine Wb.Ext.trans ?_ (by assumption))))).keep n2'
    clear hx2
    go_wp2_with fail
    go_fit (HRB.out _ (HX2.out.trans (by (repeat' (first | (with_reducible assumption) | (with_reducible exact Wb.Ext.refl _) | (with_reducible refine Wb.Ext.drew ?_) | (with_reducible refine Wb.Ext.drewN ?_ _) | (with_reducible refine Wb.Ext.alloc ?_ _) | (with_reducible refine Wb.Ext.trans ?_ (by assumption))))))); rintro e w3 ⟨xa, xc, L3, rfl, HR3, HC3, hx3⟩
    have HX3 := Lib.hid (HX2.out.trans (show Wb.Ext w2 w3 by (repeat' (first | (with_reducible assumption) | (with_reducible exact Wb.Ext.refl _) | (with_reducible refine Wb.Ext.drew ?_) | (with_reducible refine Wb.Ext.drewN ?_ _) | (with_reducible refine Wb.Ext.alloc ?_ _) | (with_reducible refine Wb.Ext.trans ?_ (by assumption))))))
    have hl3 : L3.length = t := by rw [← hb2, ← HC3.out, List.length_map]
    clear hx3 n0 n1' n2' HRB qj qt
    go_wp2_with fail
    go_loopw [86] (fun iv wr => ∃ i : Nat, i ≤ t ∧ iv = .int .i64 i ∧ Hid (Wb.Ext w3 wr)) (fun iv _ => t - (intOf iv).toNat)
    case atStart => exact ⟨0, Nat.zero_le _, rfl, Lib.hid (.refl _)⟩
    case round =>
     obtain ⟨i, hi, rfl, HXI⟩ := hrel
     obtain ⟨wI, hwz⟩ : ∃ z, z = wr := ⟨_, rfl⟩
     subst hwz
     by_cases hli : i < t
     case neg =>
      obtain rfl : i = t := by omega
      have d4 : decide ((i : Int) < (i : Int)) = false := by simp
      have n4 : ¬ (i : Int) < (i : Int) := by omega
      have HNX := Lib.hid (HN.out.ext (HX3.out.trans HXI.out))
      clear hli hi
      go_wp2
      go_roundw
      case rel => exact ⟨i, i + 1, _, ra', rl', rc', mp', mo', B', ks ++ hs, N + ks.length + hs.length, _, rfl, by omega, by go_num, HNX⟩
      case measure => first | (simp [intOf]; done) | (simp [intOf]; omega)
     obtain ⟨y, hy⟩ := Wb.get_ex (show i < L3.length by omega)
     have hmem := List.mem_of_getElem? hy
     have HRM := Lib.hid (HR3.out wI (.ext HXI.out))
     obtain ⟨yb, yo, hyb, hyc⟩ := HRM.out.tab.opened (by rintro rfl; simp at hy)
     obtain rfl : xa = some ⟨yb, yo, none⟩ := hyb
     obtain ⟨va2, vn2, vc2, hyv⟩ := HRM.out.one y hmem
     have c0 := hyc i y hy 0 _ rfl
     have c1 := hyc i y hy 1 _ rfl
     have c2 := hyc i y hy 2 _ rfl
     have c3 := hyc i y hy 3 _ rfl
     have c4 := hyc i y hy 4 (.slice va2 vn2 vc2) (by rw [← hyv]; rfl)
     rw [Nat.add_zero] at c0
     have hbi : B'.runs[i]? = some y.c := by rw [← HC3.out, List.getElem?_map, hy]; rfl
     have HYO := Lib.hid (HN.out.runs y.c (List.mem_of_getElem? hbi))
     have HTI := Lib.hid (show wF.cell? ⟨g, i, none⟩ = some (.string (Wb.S (Wb.runT y.c))) by
      have := HGW.out i (Wb.runT y.c) (by rw [List.getElem?_map, hbi]; rfl)
      rwa [Nat.zero_add] at this)
     have HTX := Lib.hid (show ∀ x, Wb.Ext wI x → Calls Tryz.prog 7 #[.agg #[.int .i64 y.n, .int .i64 y.y, .int .i64 y.i, .int .i64 y.k, .slice va2 vn2 vc2]] x fun e w' => e = .returned (.string (Wb.S (Wb.runT y.c))) ∧ Wb.Ext x w' from fun x e => by
      have := text31_any y x ((HRM.out.each y hmem).ext e) HYO.out (HT.out.ext (HN.out.book.ext.trans (HX3.out.trans (HXI.out.trans e))))
      rwa [hyv] at this)
     have hii : (i : Int) < (t : Int) := by omega
     have d4 : decide ((i : Int) < (t : Int)) = true := decide_eq_true hii
     clear hy hmem hyc hyv hli hbi
     go_upto_region 19 with (fail)
     refine Wb.wp_at fun wY hwY => ?_
     obtain ⟨Y, hY⟩ : ∃ Y, wI.heap.size = Y := ⟨_, rfl⟩
     have y0 : ∀ x, Wb.Ext wY x → x.cell? ⟨Y, 0, none⟩ = some (.int .i64 y.n) := fun x e => e.keep (by rw [hwY, ← hY]; simp [go_sem])
     have y1 : ∀ x, Wb.Ext wY x → x.cell? ⟨Y, 1, none⟩ = some (.int .i64 y.y) := fun x e => e.keep (by rw [hwY, ← hY]; simp [go_sem])
     have y2 : ∀ x, Wb.Ext wY x → x.cell? ⟨Y, 2, none⟩ = some (.int .i64 y.i) := fun x e => e.keep (by rw [hwY, ← hY]; simp [go_sem])
     have y3 : ∀ x, Wb.Ext wY x → x.cell? ⟨Y, 3, none⟩ = some (.int .i64 y.k) := fun x e => e.keep (by rw [hwY, ← hY]; simp [go_sem])
     have y4 : ∀ x, Wb.Ext wY x → x.cell? ⟨Y, 4, none⟩ = some (.slice va2 vn2 vc2) := fun x e => e.keep (by rw [hwY, ← hY]; simp [go_sem])
     have HXY := Lib.hid (show Wb.Ext wI wY by rw [hwY]; (repeat' (first | (with_reducible assumption) | (with_reducible exact Wb.Ext.refl _) | (with_reducible refine Wb.Ext.drew ?_) | (with_reducible refine Wb.Ext.drewN ?_ _) | (with_reducible refine Wb.Ext.alloc ?_ _) | (with_reducible refine Wb.ext_set ?_ (by first | assumption | (simp; done) | (simp; omega) | omega) _) | (with_reducible refine Wb.Ext.trans ?_ (by assumption)))))
     simp only [hY]
     clear hwY hY c0 c1 c2 c3 c4
     refine Code.wp_mono (OnEndX.imp ?_) (tc19 _ _ _ _ _ _ _ _ _ _ _ _ _ _ _ _ _ _ _ _ _ _ _ _ _ _ _ _ _ _ _ _ _ _ _ _ _ _ _ _ _ _ _ _ _ _ _ _ _ _ _ _ _ _ _ _ _ _ _ _ _ _ _ _ _ _ _ _ _ _ _ _ _ _ _ _ _ _ _ _ _ _ _ _ _ _ _ _ _ _ _ _ _ _ _ _ _ wY Y g t cc i vn2 vc2 va2 y.n y.y y.i y.k (Wb.runT y.c) y0 y1 y2 y3 y4 (fun x e => (HX3.out.trans (HXI.out.trans (HXY.out.trans e))).keep HTI.out) hii (fun x e => HTX.out x (HXY.out.trans e)))
     rintro a' wZ ⟨zt91, zt92, zt93, zt94, zt95, zt96, rfl, hxZ⟩
     have HXZ := Lib.hid (HXI.out.trans (HXY.out.trans hxZ))
     clear hxZ y0 y1 y2 y3 y4
     (try dsimp only)
     go_wp2
     go_roundw
     case rel => exact ⟨i + 1, by omega, by go_num, HXZ⟩
     case measure => first | (simp [intOf]; done) | (simp [intOf]; omega)
end Go.Proofs.YtnefdpnolojojaaGreatDoor
