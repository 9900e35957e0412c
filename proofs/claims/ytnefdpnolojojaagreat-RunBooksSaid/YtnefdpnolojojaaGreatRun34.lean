/- Run34 -/
import Derived.Test.YtnefdpnolojojaaGreatBk12
import Derived.Test.YtnefdpnolojojaaGreatMod9
import Derived.Test.YtnefdpnolojojaaGreatRun32
import Derived.Deep.RegionHeldLaw
namespace Go.Proofs.YtnefdpnolojojaaGreat
open Go.RowKit Go.Sort Go.Lib Go.Maps
set_option maxRecDepth 8000
attribute [local go_sem ↓] Go.wp_at_zero Go.wp_at_succ
theorem last_law {F : Nat → Prop} {w W : World} {ra : Option Addr} {rl rc : Nat} {mp mo : Option Nat} {B : Wb.Bk} {ks : List Int} {N : Nat} (h : BkF F w (.slice ra rl rc) mp mo B ks N) (hx : Wb.Ext w W) :
  Calls Tryz.prog 29 #[.agg #[.slice ra rl rc, .map mp, .map mo]] W fun e w' => ∃ (x : RnM) (za : Option Addr) (zc : Nat) (ok : Bool), e = .returned (.tuple #[.agg #[.int .i64 x.n, .int .i64 x.y, .int .i64 x.i, .int .i64 x.k, .slice za x.rows.length zc], .bool ok]) ∧ Hid ((ok = true ↔ B.runs ≠ []) ∧ x.rv = .slice za x.rows.length zc ∧ RowsM w' x.rv x.rows ∧ x.c = B.runs.getLast?.getD Wb.noRn) ∧ Wb.Ext W w' := by
 obtain ⟨RL, h1, h2⟩ := h.runs
 refine (last31_any _ mp mo RL W (h1 W (.ext hx))).mono ?_
 rintro e w' ⟨x, rfl, k1, k2, -, -, k3⟩
 obtain ⟨za, zc, hv⟩ := k1.tab.shape
 refine ⟨x, za, zc, !RL.isEmpty, ?_, Lib.hid ⟨?_, hv, k1, ?_⟩, k3⟩
 ·unfold RnV
  rw [hv]
 ·rw [← h2]
  cases RL <;> simp
 ·rw [k2, ← h2]
  unfold lastC
  rw [List.getLast?_map]
  cases RL.getLast? <;> rfl
set_option maxHeartbeats 100000000 in
theorem books31_any (v : Value) (al : List AcM) (p0 : Int) (w : World) (h : ActsM w v al) (hz : FitA al) (hp0 : kU32.ok p0) :
  Calls Tryz.prog 9 #[v, .int .u32 p0] w fun e w' => e = .returned (.bool true) ∧ Wb.Ext w w' := by
 obtain ⟨va, vc, rfl⟩ := h.tab.shape
 have HA := Lib.hid h
 have HZ := Lib.hid hz
 have HP0 := Lib.hid hp0
 clear h hz hp0
 go_enter Tryz.func9, Tryz.ntmps9
 go_wp2_with fail
 go_fit (great31_any _ al _ (HA.out.ext (by (repeat' (first | (with_reducible assumption) | (with_reducible exact Wb.Ext.refl _) | (with_reducible refine Wb.Ext.drew ?_) | (with_reducible refine Wb.Ext.drewN ?_ _) | (with_reducible refine Wb.Ext.alloc ?_ _) | (with_reducible refine Wb.Ext.trans ?_ (by assumption)))))) HZ.out); rintro e w1 ⟨g, rfl, hg, hx1⟩
 have HX1 := Lib.hid (show Wb.Ext w w1 by (repeat' (first | (with_reducible assumption) | (with_reducible exact Wb.Ext.refl _) | (with_reducible refine Wb.Ext.drew ?_) | (with_reducible refine Wb.Ext.drewN ?_ _) | (with_reducible refine Wb.Ext.alloc ?_ _) | (with_reducible refine Wb.Ext.trans ?_ (by assumption)))))
 clear hx1
 cases g
 case true =>
  clear hg
  go_wp2_with fail
  go_fit (awake31_any _); rintro e wz2 ⟨rfl, hz2⟩
  have HZ2 := Lib.hid (show Wb.Ext w wz2 from HX1.out.trans (by (repeat' (first | (with_reducible assumption) | (with_reducible exact Wb.Ext.refl _) | (with_reducible refine Wb.Ext.drew ?_) | (with_reducible refine Wb.Ext.drewN ?_ _) | (with_reducible refine Wb.Ext.alloc ?_ _) | (with_reducible refine Wb.Ext.trans ?_ (by assumption))))))
  clear hz2
  go_wp2
  exact bodyPost_ret (v := .bool true) (by simp [results, Tryz.results9, go_sem]) rfl ⟨rfl, HZ2.out⟩
 case false =>
 have HSM := Lib.hid (hg rfl)
 clear hg
 have hal := HSM.out.1
 go_upto_region 5 with (fail)
 refine Wb.wp_at fun WB hWB => ?_
 obtain ⟨A, hA⟩ : ∃ A, w1.heap.size = A := ⟨_, rfl⟩
 obtain ⟨Q, hQ⟩ : ∃ Q, A + 1 = Q := ⟨_, rfl⟩
 have hAQ : A < Q := by omega
 have HI : Hid (ApI w (fun q => q = A ∨ q = Q) A 0 WB none 0 0 none none Wb.noBk [] 0) := Lib.hid (by
  have hs := HX1.out.size
  exact ⟨by rw [hWB, ← hA]; simp [go_sem], by rw [hWB, ← hA]; simp [go_sem], by rw [hWB, ← hA]; simp [go_sem], fun j => by rw [hWB, ← hA]; simp [go_sem], bk_none _ _, bki_none, ⟨by rw [hWB, ← hA]; simp; omega, by omega⟩, HX1.out.trans (by rw [hWB]; (repeat' (first | (with_reducible assumption) | (with_reducible exact Wb.Ext.refl _) | (with_reducible refine Wb.Ext.drew ?_) | (with_reducible refine Wb.Ext.drewN ?_ _) | (with_reducible refine Wb.Ext.alloc ?_ _) | (with_reducible refine Wb.Ext.trans ?_ (by assumption)))))⟩)
 have HC : Hid (ApI w (fun q => q = A ∨ q = Q) Q 0 WB none 0 0 none none Wb.noBk [] 0) := Lib.hid (by
  have hs := HX1.out.size
  exact ⟨by rw [hWB, ← hQ, ← hA]; simp [go_sem], by rw [hWB, ← hQ, ← hA]; simp [go_sem], by rw [hWB, ← hQ, ← hA]; simp [go_sem], fun j => by rw [hWB, ← hQ, ← hA]; simp [go_sem], bk_none _ _, bki_none, ⟨by rw [hWB, ← hQ, ← hA]; simp, by omega⟩, HX1.out.trans (by rw [hWB]; (repeat' (first | (with_reducible assumption) | (with_reducible exact Wb.Ext.refl _) | (with_reducible refine Wb.Ext.drew ?_) | (with_reducible refine Wb.Ext.drewN ?_ _) | (with_reducible refine Wb.Ext.alloc ?_ _) | (with_reducible refine Wb.Ext.trans ?_ (by assumption)))))⟩)
 simp only [hA, hQ]
 clear hWB hA hQ
 go_wp2_with fail
 go_loopw [7] (fun iv wr => ∃ (j : Nat) (ra : Option Addr) (rl rc : Nat) (mp mo : Option Nat) (B : Wb.Bk) (ks : List Int) (N : Nat) (rb : Option Addr) (sl sc : Nat) (np no : Option Nat) (is : List Int) (N2 : Nat), j ≤ al.length ∧ iv = .int .i64 j ∧ Hid (ApI w (fun q => q = A ∨ q = Q) A j wr ra rl rc mp mo B ks N) ∧ Hid (ApI w (fun q => q = A ∨ q = Q) Q j wr rb sl sc np no B is N2)) (fun iv _ => al.length - (intOf iv).toNat)
 case atStart => exact ⟨0, none, 0, 0, none, none, Wb.noBk, [], 0, none, 0, 0, none, none, [], 0, Nat.zero_le _, rfl, HI, HC⟩
 case round =>
  clear HI HC
  obtain ⟨j, ra, rl, rc, mp, mo, B, ks, N, rb, sl, sc, np, no, is, N2, hj, rfl, HI, HC⟩ := hrel
  obtain ⟨wO, hwz⟩ : ∃ z, z = wr := ⟨_, rfl⟩
  subst hwz
  have hlow := HI.out.lt
  have hlow2 := HC.out.lt
  by_cases hlt : j < al.length
  case neg =>
   obtain rfl : j = al.length := by omega
   have d1 : decide ((al.length : Int) < (al.length : Int)) = false := by simp
   have n1 : ¬ (al.length : Int) < (al.length : Int) := by omega
   clear hlt
   have hBl := HI.out.ok.len
   have hN2 := HC.out.ok.many
   have HRU := Lib.hid (show ∀ W, Wb.Ext wO W → Calls Tryz.prog 28 #[.agg #[.slice ra rl rc, .map mp, .map mo]] W fun e w' => ∃ (ua : Option Addr) (uc : Nat) (LR : List RnM), e = .returned (.slice ua B.runs.length uc) ∧ Hid (LR.map RnM.c = B.runs ∧ RunsM w' (.slice ua B.runs.length uc) LR) ∧ Wb.Ext W w' from fun W k => runs_law HI.out.book (by omega) k)
   have HLA := Lib.hid (show ∀ W, Wb.Ext wO W → Calls Tryz.prog 29 #[.agg #[.slice ra rl rc, .map mp, .map mo]] W fun e w' => ∃ (x : RnM) (za : Option Addr) (zc : Nat) (ok : Bool), e = .returned (.tuple #[.agg #[.int .i64 x.n, .int .i64 x.y, .int .i64 x.i, .int .i64 x.k, .slice za x.rows.length zc], .bool ok]) ∧ Hid ((ok = true ↔ B.runs ≠ []) ∧ x.rv = .slice za x.rows.length zc ∧ RowsM w' x.rv x.rows ∧ x.c = B.runs.getLast?.getD Wb.noRn) ∧ Wb.Ext W w' from fun W k => last_law HI.out.book k)
   obtain ⟨LM, hLM, hLMc⟩ := HC.out.book.runs
   have HLM := Lib.hid hLM
   have HLMC := Lib.hid hLMc
   have hLMl : LM.length = B.runs.length := by rw [← hLMc, List.length_map]
   obtain rfl : sl = B.runs.length := by
    obtain ⟨xa, xc, hx⟩ := (hLM wO .refl).tab.shape
    injection hx with _ h2 _
    omega
   have a0 := HI.out.a0
   have a1 := HI.out.a1
   have a2 := HI.out.a2
   clear hLM hLMc
   go_wp2_with fail
   go_fit (HRU.out _ (by (repeat' (first | (with_reducible assumption) | (with_reducible exact Wb.Ext.refl _) | (with_reducible refine Wb.Ext.drew ?_) | (with_reducible refine Wb.Ext.drewN ?_ _) | (with_reducible refine Wb.Ext.alloc ?_ _) | (with_reducible refine Wb.Ext.trans ?_ (by assumption)))))); rintro e wS ⟨sa, sd, WL, rfl, hWL, hxS⟩
   have HXS := Lib.hid (show Wb.Ext wO wS by (repeat' (first | (with_reducible assumption) | (with_reducible exact Wb.Ext.refl _) | (with_reducible refine Wb.Ext.drew ?_) | (with_reducible refine Wb.Ext.drewN ?_ _) | (with_reducible refine Wb.Ext.alloc ?_ _) | (with_reducible refine Wb.Ext.trans ?_ (by assumption)))))
   clear hxS d1 n1
   replace a0 := HXS.out.keep a0
   replace a1 := HXS.out.keep a1
   replace a2 := HXS.out.keep a2
   go_wp2_with fail
   go_fit (HLA.out _ (HXS.out.trans (by (repeat' (first | (with_reducible assumption) | (with_reducible exact Wb.Ext.refl _) | (with_reducible refine Wb.Ext.drew ?_) | (with_reducible refine Wb.Ext.drewN ?_ _) | (with_reducible refine Wb.Ext.alloc ?_ _) | (with_reducible refine Wb.Ext.trans ?_ (by assumption))))))); rintro e wT ⟨r, za, zc, ok, rfl, hr, hxT⟩
   have HXT := Lib.hid (show Wb.Ext wS wT by (repeat' (first | (with_reducible assumption) | (with_reducible exact Wb.Ext.refl _) | (with_reducible refine Wb.Ext.drew ?_) | (with_reducible refine Wb.Ext.drewN ?_ _) | (with_reducible refine Wb.Ext.alloc ?_ _) | (with_reducible refine Wb.Ext.trans ?_ (by assumption)))))
   clear hxT a0 a1 a2
   go_upto_region 12 with (fail)
   refine Wb.wp_at fun W2 hW2 => ?_
   obtain ⟨Z, hZ⟩ : ∃ Z, wT.heap.size = Z := ⟨_, rfl⟩
   have z0 : W2.cell? ⟨Z, 0, none⟩ = some (.int .i64 r.n) := by rw [hW2, ← hZ]; simp [go_sem]
   have z1 : W2.cell? ⟨Z, 1, none⟩ = some (.int .i64 r.y) := by rw [hW2, ← hZ]; simp [go_sem]
   have z2 : W2.cell? ⟨Z, 2, none⟩ = some (.int .i64 r.i) := by rw [hW2, ← hZ]; simp [go_sem]
   have z3 : W2.cell? ⟨Z, 3, none⟩ = some (.int .i64 r.k) := by rw [hW2, ← hZ]; simp [go_sem]
   have z4 : W2.cell? ⟨Z, 4, none⟩ = some (.slice za r.rows.length zc) := by rw [hW2, ← hZ]; simp [go_sem]
   have hx2 : Wb.Ext wT W2 := by rw [hW2]; (repeat' (first | (with_reducible assumption) | (with_reducible exact Wb.Ext.refl _) | (with_reducible refine Wb.Ext.drew ?_) | (with_reducible refine Wb.Ext.drewN ?_ _) | (with_reducible refine Wb.Ext.alloc ?_ _) | (with_reducible refine Wb.Ext.trans ?_ (by assumption))))
   have HXS2 := Lib.hid (HXT.out.trans hx2)
   have HX2 := Lib.hid (HXS.out.trans HXS2.out)
   have HRR := Lib.hid (hr.out.2.2.1.ext hx2)
   rw [hZ]
   have y0 : ∀ x, Wb.Ext W2 x → x.cell? ⟨Z, 0, none⟩ = some (.int .i64 r.n) := fun x e => e.keep z0
   have y1 : ∀ x, Wb.Ext W2 x → x.cell? ⟨Z, 1, none⟩ = some (.int .i64 r.y) := fun x e => e.keep z1
   have y2 : ∀ x, Wb.Ext W2 x → x.cell? ⟨Z, 2, none⟩ = some (.int .i64 r.i) := fun x e => e.keep z2
   have y3 : ∀ x, Wb.Ext W2 x → x.cell? ⟨Z, 3, none⟩ = some (.int .i64 r.k) := fun x e => e.keep z3
   have y4 : ∀ x, Wb.Ext W2 x → x.cell? ⟨Z, 4, none⟩ = some (.slice za r.rows.length zc) := fun x e => e.keep z4
   have g0 : ∀ x, Wb.Ext W2 x → x.cell? ⟨Q, 0, none⟩ = some (.slice rb B.runs.length sc) := fun x e => (HX2.out.trans e).keep HC.out.a0
   have HCOND : Hid (BkCond W2 ok B.runs.length sa r.n r.y r.i r.k za r.rows.length zc) := Lib.hid (by
    refine cond_of (sd := sd) hr.out.1 hr.out.2.1 HRR.out hr.out.2.2.2 ?_ (by omega) hWL.out.1
    have := hWL.out.2.ext HXS2.out
    exact this)
   clear hW2 hZ hx2 z0 z1 z2 z3 z4
   refine Code.wp_mono (OnEnd.imp ?_) (bk12 _ _ _ _ _ _ _ _ _ _ _ _ _ _ _ _ _ _ _ _ _ _ _ _ _ _ _ _ _ _ _ _ _ _ _ _ _ _ _ _ _ _ _ _ _ _ _ _ _ _ _ _ _ _ _ _ _ _ _ _ _ _ _ _ _ _ _ _ _ _ _ _ _ _ _ _ _ _ _ _ _ _ _ _ _ _ _ _ _ _ _ _ _ _ _ _ _ _ _ _ _ _ _ _ _ _ _ _ _ _ _ _ _ _ _ _ _ _ _ _ _ _ _ _ _ _ _ _ _ _ _ _ _ _ _ _ _ _ _ _ _ _ _ _ _ _ _ _ _ _ _ _ _ _ _ _ _ _ _ _ _ _ _ _ _ _ _ _ _ _ _ _ _ W2 ok Q Z B.runs.length sd sc r.rows.length zc sa rb za r.n r.y r.i r.k g0 y0 y1 y2 y3 y4 HCOND.out)
   rintro a' wc ⟨u69, u70, u71, u72, u73, u74, u75, u76, u77, u78, u79, u80, u81, u82, u83, u84, u85, u86, u87, u88, u89, u90, u91, u92, u93, u94, u95, u96, u97, u98, u99, u100, u101, u102, u103, u104, rfl, hx3⟩
   (try dsimp only)
   obtain ⟨W3, hwz⟩ : ∃ z, z = wc := ⟨_, rfl⟩
   subst hwz
   have HXS3 := Lib.hid (HXS2.out.trans hx3)
   have HX3 := Lib.hid (HXS.out.trans HXS3.out)
   clear hx3 g0 y0 y1 y2 y3 y4 HCOND
   go_wp2_with fail
   go_loopw [11] (fun iv wr => ∃ k : Nat, k ≤ B.runs.length ∧ iv = .int .i64 k ∧ Hid (Wb.Ext W3 wr)) (fun iv _ => B.runs.length - (intOf iv).toNat)
   case atStart => exact ⟨0, Nat.zero_le _, rfl, Lib.hid (.refl _)⟩
   case round =>
    obtain ⟨k, hk, rfl, HXK⟩ := hrel
    obtain ⟨wK, hwz⟩ : ∃ z, z = wr := ⟨_, rfl⟩
    subst hwz
    by_cases hks : k < B.runs.length
    case pos =>
     have hWLl : WL.length = B.runs.length := by rw [← hWL.out.1, List.length_map]
     obtain ⟨x, hx⟩ := Wb.get_ex (show k < WL.length by omega)
     obtain ⟨z, hz, hxz⟩ := rn_at (R := WL) (T := LM) (fun j _ => by rw [hWL.out.1, HLMC.out]) hx
     have hWT := hWL.out.2.tab.ext (HXS3.out.trans HXK.out)
     have hNM := HLM.out wK (.ext (HX3.out.trans HXK.out))
     have hNT := hNM.tab
     rw [← hWLl] at hWT
     rw [← hLMl] at hNT
     obtain ⟨b, off, hb9, hc9⟩ := hWT.opened (by rintro rfl; simp at hx)
     obtain rfl : sa = some ⟨b, off, none⟩ := hb9
     obtain ⟨d, eo, hd9, hf9⟩ := hNT.opened (by rintro rfl; simp at hz)
     obtain rfl : rb = some ⟨d, eo, none⟩ := hd9
     have hxr := (hWL.out.2.each x (List.mem_of_getElem? hx)).ext (HXS3.out.trans HXK.out)
     have hzr := hNM.each z (List.mem_of_getElem? hz)
     obtain ⟨xa, xc, hxv⟩ := hxr.tab.shape
     obtain ⟨ya, yc, hzv⟩ := hzr.tab.shape
     obtain ⟨q1, q2, q3, q4, -⟩ := same_run hxr hzr hxz
     have HXR := Lib.hid hxr
     have HZR := Lib.hid hzr
     have HXZ := Lib.hid hxz
     have HXV := Lib.hid hxv
     have HZV := Lib.hid hzv
     have p0 := hc9 k x hx 0 _ rfl
     have p1 := hc9 k x hx 1 _ rfl
     have p2 := hc9 k x hx 2 _ rfl
     have p3 := hc9 k x hx 3 _ rfl
     have p4 := hc9 k x hx 4 (.slice xa x.rows.length xc) (by rw [← hxv]; rfl)
     have t0 := hf9 k z hz 0 (.int .i64 x.n) (by rw [← q1]; rfl)
     have t1 := hf9 k z hz 1 (.int .i64 x.y) (by rw [← q2]; rfl)
     have t2 := hf9 k z hz 2 (.int .i64 x.i) (by rw [← q3]; rfl)
     have t3 := hf9 k z hz 3 (.int .i64 x.k) (by rw [← q4]; rfl)
     have t4 := hf9 k z hz 4 (.slice ya z.rows.length yc) (by rw [← hzv]; rfl)
     rw [Nat.add_zero] at p0 t0
     have l0 : ∀ x9, Wb.Ext wK x9 → x9.cell? ⟨b, off + k * 5, none⟩ = some (.int .i64 x.n) := fun x9 e => e.keep p0
     have l1 : ∀ x9, Wb.Ext wK x9 → x9.cell? ⟨b, off + k * 5 + 1, none⟩ = some (.int .i64 x.y) := fun x9 e => e.keep p1
     have l2 : ∀ x9, Wb.Ext wK x9 → x9.cell? ⟨b, off + k * 5 + 2, none⟩ = some (.int .i64 x.i) := fun x9 e => e.keep p2
     have l3 : ∀ x9, Wb.Ext wK x9 → x9.cell? ⟨b, off + k * 5 + 3, none⟩ = some (.int .i64 x.k) := fun x9 e => e.keep p3
     have l4 : ∀ x9, Wb.Ext wK x9 → x9.cell? ⟨b, off + k * 5 + 4, none⟩ = some (.slice xa x.rows.length xc) := fun x9 e => e.keep p4
     have m0 : ∀ x9, Wb.Ext wK x9 → x9.cell? ⟨d, eo + k * 5, none⟩ = some (.int .i64 x.n) := fun x9 e => e.keep t0
     have m1 : ∀ x9, Wb.Ext wK x9 → x9.cell? ⟨d, eo + k * 5 + 1, none⟩ = some (.int .i64 x.y) := fun x9 e => e.keep t1
     have m2 : ∀ x9, Wb.Ext wK x9 → x9.cell? ⟨d, eo + k * 5 + 2, none⟩ = some (.int .i64 x.i) := fun x9 e => e.keep t2
     have m3 : ∀ x9, Wb.Ext wK x9 → x9.cell? ⟨d, eo + k * 5 + 3, none⟩ = some (.int .i64 x.k) := fun x9 e => e.keep t3
     have m4 : ∀ x9, Wb.Ext wK x9 → x9.cell? ⟨d, eo + k * 5 + 4, none⟩ = some (.slice ya z.rows.length yc) := fun x9 e => e.keep t4
     have g0 : ∀ x9, Wb.Ext wK x9 → x9.cell? ⟨Q, 0, none⟩ = some (.slice (some ⟨d, eo, none⟩) B.runs.length sc) := fun x9 e => (HX3.out.trans (HXK.out.trans e)).keep HC.out.a0
     have HS1 := Lib.hid (show ∀ W, Wb.Ext wK W → Calls Tryz.prog 22 #[.agg #[.int .i64 x.n, .int .i64 x.y, .int .i64 x.i, .int .i64 x.k, .slice xa x.rows.length xc], .agg #[.int .i64 x.n, .int .i64 x.y, .int .i64 x.i, .int .i64 x.k, .slice ya z.rows.length yc]] W fun e w' => e = .returned (.bool true) ∧ Wb.Ext W w' from fun W e => by
      rw [← HXV.out, ← HZV.out]; exact (same_run (HXR.out.ext e) (HZR.out.ext e) HXZ.out).2.2.2.2)
     have hki : (k : Int) < (B.runs.length : Int) := by omega
     have d4 : decide ((k : Int) < (B.runs.length : Int)) = true := by simp; omega
     clear hc9 hf9 hWT hNT hNM hxr hzr hxv hzv q1 q2 q3 q4 hx hz hxz p0 p1 p2 p3 p4 t0 t1 t2 t3 t4
     go_wp2_with fail
     go_region_held_law (fun x => Wb.Ext wK x) ((repeat' (first | (with_reducible assumption) | (with_reducible exact Wb.Ext.refl _) | (with_reducible refine Wb.Ext.drew ?_) | (with_reducible refine Wb.Ext.drewN ?_ _) | (with_reducible refine Wb.Ext.alloc ?_ _) | (with_reducible refine Wb.Ext.trans ?_ (by assumption))))) (first
      | (go_at_call 22; refine (HS1.out _ (by (repeat' (first | (with_reducible assumption) | (with_reducible exact Wb.Ext.refl _) | (with_reducible refine Wb.Ext.drew ?_) | (with_reducible refine Wb.Ext.drewN ?_ _) | (with_reducible refine Wb.Ext.alloc ?_ _) | (with_reducible refine Wb.Ext.trans ?_ (by assumption)))))).mono ?_; rintro e ws ⟨rfl, hxs⟩))
     all_goals
      go_wp2
      go_roundw
      case rel => exact ⟨k + 1, by omega, by go_num, Lib.hid (HXK.out.trans (by (repeat' (first | (with_reducible assumption) | (with_reducible exact Wb.Ext.refl _) | (with_reducible refine Wb.Ext.drew ?_) | (with_reducible refine Wb.Ext.drewN ?_ _) | (with_reducible refine Wb.Ext.alloc ?_ _) | (with_reducible refine Wb.Ext.trans ?_ (by assumption))))))⟩
      case measure => first | (simp [intOf]; done) | (simp [intOf]; omega)
    obtain rfl : k = B.runs.length := by omega
    have d4 : decide ((B.runs.length : Int) < (B.runs.length : Int)) = false := by simp
    have n4 : ¬ (B.runs.length : Int) < (B.runs.length : Int) := by omega
    have HXG := Lib.hid (HX3.out.trans HXK.out)
    clear hks hk
    obtain ⟨npn, fp, hfp, hnp, -⟩ := HC.out.book.paid
    obtain ⟨non, fo, hfo, hno, hfv, -⟩ := HC.out.book.owed
    have HFP := Lib.hid hfp
    have HFO := Lib.hid hfo
    have HFV := Lib.hid hfv
    have HPM : Hid (KMapO kU32 wK np npn (.slice none 0 0) fp) := Lib.hid (hfp.map wK (.ext HXG.out))
    have g1 := HXG.out.keep HC.out.a1
    clear hfp hfo hfv
    go_wp2_with fail
    go_fit (persons31_any np none npn 0 (.slice none 0 0) (.slice none 0 0) fp (fun _ => none) _ (HPM.out.ext (by (repeat' (first | (with_reducible assumption) | (with_reducible exact Wb.Ext.refl _) | (with_reducible refine Wb.Ext.drew ?_) | (with_reducible refine Wb.Ext.drewN ?_ _) | (with_reducible refine Wb.Ext.alloc ?_ _) | (with_reducible refine Wb.Ext.trans ?_ (by assumption)))))) (fun _ => rfl) (by omega) (by omega)); rintro e wP ⟨pv, ss, rfl, hss, hsr, hsm, hsl, hxP⟩
    obtain ⟨za9, zc9, rfl⟩ := hss.shape
    have HXP := Lib.hid (show Wb.Ext wK wP by (repeat' (first | (with_reducible assumption) | (with_reducible exact Wb.Ext.refl _) | (with_reducible refine Wb.Ext.drew ?_) | (with_reducible refine Wb.Ext.drewN ?_ _) | (with_reducible refine Wb.Ext.alloc ?_ _) | (with_reducible refine Wb.Ext.trans ?_ (by assumption)))))
    have hsP := hxP.size
    have HSM9 := Lib.hid hsm
    clear hxP g1 d4 n4
    obtain ⟨n0, hn0⟩ : ∃ n0, wK.heap.size = n0 := ⟨_, rfl⟩
    rw [hn0] at hss hsP
    have HSS := Lib.hid hss
    have HSR := Lib.hid hsr
    clear hss hsr hsm
    go_wp2_with fail
    go_fit (put31_any n0 _ ss p0 _ (HSS.out.ext (by (repeat' (first | (with_reducible assumption) | (with_reducible exact Wb.Ext.refl _) | (with_reducible refine Wb.Ext.drew ?_) | (with_reducible refine Wb.Ext.drewN ?_ _) | (with_reducible refine Wb.Ext.alloc ?_ _) | (with_reducible refine Wb.Ext.trans ?_ (by assumption)))))) (by omega) HSR.out (by omega)); rintro e wQ ⟨v3, rfl, hn3, -, hx3⟩
    obtain ⟨ua, uc, rfl⟩ := hn3.shape
    have hpl := Wb.putU_len (l := ss) (p := p0)
    have HL0 : Hid (PsAt wK wQ (.slice ua (Wb.putU ss p0).length uc) (Wb.putU ss p0) (Wb.putU ss p0) []) := Lib.hid
     ⟨by rw [hn0]; exact hn3, Wb.putU_rise HSR.out, (fun p => by simp), by simp, HXP.out.trans (by (repeat' (first | (with_reducible assumption) | (with_reducible exact Wb.Ext.refl _) | (with_reducible refine Wb.Ext.drew ?_) | (with_reducible refine Wb.Ext.drewN ?_ _) | (with_reducible refine Wb.Ext.alloc ?_ _) | (with_reducible refine Wb.Ext.trans ?_ (by assumption)))))⟩
    have HOK0 : Hid (∀ p ∈ Wb.putU ss p0, kU32.ok p) := Lib.hid (fun p hp => by
     rcases Wb.putU_mem.1 hp with rfl | hp
     ·exact HP0.out
     ·exact ((HSM9.out p).1 hp).1)
    obtain ⟨l0, hl0⟩ : ∃ l0, Wb.putU ss p0 = l0 := ⟨_, rfl⟩
    rw [hl0] at HL0 HOK0 hpl ⊢
    clear hn3 hx3 hl0
    have HXQ := Lib.hid (HXG.out.trans HL0.out.ext)
    have hso : KMapO kU32 wQ no non (.int .i64 0) fo := HFO.out wQ (.ext HXQ.out)
    have g2 := HXQ.out.keep HC.out.a2
    go_wp2_with (first
     | (at_range; refine wpList_range_km (K := kU32) rfl _ 25 40 rfl Tryz.underlying25 no non (.int .i64 0) fo rfl hso ?_; intro w6 cnt0 hrg0 hc0 hg0 hs0)
     | go_in)
    (try go_frame)
    have hx6 := Wb.Ext.grown (.refl wQ) hg0 (fun k h => by cases h)
    obtain ⟨X, hX⟩ : ∃ X, wQ.heap.size = X := ⟨_, rfl⟩
    have HRG0 := Lib.hid hrg0
    rw [hX] at HRG0 ⊢
    have hXs : wK.heap.size ≤ X := by have := HL0.out.ext.size; omega
    have HL1 : Hid (PsAt wK w6 (.slice ua l0.length uc) l0 l0 []) := Lib.hid ⟨HL0.out.row.ext hx6, HL0.out.rise, (fun p => by simp), by simp, HL0.out.ext.trans hx6⟩
    clear hso hg0 hs0 hrg0 hX hx6 g2 HL0
    go_loopw [12] (fun ov wr => ∃ (cnt : Nat) (ss m : List Int) (oa : Option Addr) (oc : Nat), ov = .slice oa m.length oc ∧ Hid (KRng kU32 wr no X non (.int .i64 0) fo ss cnt) ∧ ss.length + cnt ≤ non ∧ Hid (PsAt wK wr (.slice oa m.length oc) m l0 ss)) (fun _ wr => kLeft no X wr)
    case atStart => exact ⟨cnt0, [], l0, ua, uc, rfl, HRG0, by simpa using hc0, HL1⟩
    case round =>
     clear HRG0 HL1
     obtain ⟨cnt, ss9, m, oa, oc, rfl, HRG, hcs, HPA⟩ := hrel
     obtain ⟨wR, hwz⟩ : ∃ z, z = wr := ⟨_, rfl⟩
     subst hwz
     have hrg := HRG.out
     go_wp2_with (first
      | (at_next; refine wpList_next_km (K := kU32) rfl _ rfl rfl hrg ?_ ?_)
      | go_in)
     ·intro hall
      have HMO : Hid (∀ p ∈ m, kU32.ok p) := Lib.hid (fun p hp => ((HPA.out.mem p).1 hp).elim (fun h => HOK0.out p h) (fun h => (HRG.out.ok p h).1))
      have HMT : Hid (Tbl 1 u32c wR (.slice oa m.length oc) m) := Lib.hid HPA.out.row.tbl
      have HXR : Hid (Wb.Ext wO wR) := Lib.hid (HXG.out.trans HPA.out.ext)
      have hml : m.length ≤ l0.length + non := by have := HPA.out.len; omega
      clear hall hrg HRG hcs HPA
      go_wp2_with fail
      go_loopw [14] (fun iv wr => ∃ k : Nat, k ≤ m.length ∧ iv = .int .i64 k ∧ Hid (Wb.Ext wR wr)) (fun iv _ => m.length - (intOf iv).toNat)
      case atStart => exact ⟨0, Nat.zero_le _, rfl, Lib.hid (.refl _)⟩
      case round =>
       obtain ⟨k, hk, rfl, HXM⟩ := hrel
       obtain ⟨wL, hwz⟩ : ∃ z, z = wr := ⟨_, rfl⟩
       subst hwz
       have HXL : Hid (Wb.Ext wO wL) := Lib.hid (HXR.out.trans HXM.out)
       by_cases hks : k < m.length
       case neg =>
        obtain rfl : k = m.length := by omega
        have d5 : decide ((m.length : Int) < (m.length : Int)) = false := by simp
        have n5 : ¬ (m.length : Int) < (m.length : Int) := by omega
        clear hks hk
        go_wp2_with fail
        go_fit (awake31_any _); rintro e wz5 ⟨rfl, hz5⟩
        have HZ5 := Lib.hid (show Wb.Ext w wz5 from HI.out.ext.trans (HXL.out.trans (by (repeat' (first | (with_reducible assumption) | (with_reducible exact Wb.Ext.refl _) | (with_reducible refine Wb.Ext.drew ?_) | (with_reducible refine Wb.Ext.drewN ?_ _) | (with_reducible refine Wb.Ext.alloc ?_ _) | (with_reducible refine Wb.Ext.trans ?_ (by assumption)))))))
        clear hz5
        go_wp2
        exact bodyPost_ret (v := .bool true) (by simp [results, Tryz.results9, go_sem]) rfl ⟨rfl, HZ5.out⟩
       obtain ⟨p, hp⟩ := Wb.get_ex hks
       have hpo : kU32.ok p := HMO.out p (List.mem_of_getElem? hp)
       obtain ⟨b, off, cap, hvv, hc⟩ := look_tbl (HMT.out.ext HXM.out) hp
       cases hvv
       obtain ⟨G, hG, hGc⟩ := HFP.out.each p
       have HGK := hG wL (.ext HXL.out)
       obtain ⟨ya, yc, hyv⟩ := slsK_shape HGK
       have hfew : (B.paid p).length ≤ 60 := HI.out.ok.few p
       have HPA := Lib.hid (show ∀ W, Wb.Ext wL W → Calls Tryz.prog 15 #[.agg #[.slice ra rl rc, .map mp, .map mo], .int .u32 p] W fun e w' => ∃ (ua : Option Addr) (uc : Nat) (D : List Wb.Sl), e = .returned (.slice ua D.length uc) ∧ Hid (Sls w' (.slice ua D.length uc) D ∧ D.map Wb.ct = B.paid p) ∧ Wb.Ext W w' from fun W e => by
        refine (paid31_any _ mp mo B ks N p hpo W (HI.out.book.now.ext (HXL.out.trans e))).mono ?_
        rintro e w' ⟨u, D, rfl, h1, h2, -, h4⟩
        obtain ⟨ua, uc, rfl⟩ := h1.shape
        exact ⟨ua, uc, D, rfl, Lib.hid ⟨h1.sls, h2⟩, h4⟩)
       have HOA := Lib.hid (show ∀ W, Wb.Ext wL W → Calls Tryz.prog 13 #[.agg #[.slice ra rl rc, .map mp, .map mo], .int .u32 p] W fun e w' => e = .returned (.int .i64 (B.owed p)) ∧ Wb.Ext W w' from fun W e =>
        owed31_any _ mp mo B ks N p hpo _ (HI.out.book.now.ext (HXL.out.trans e)))
       have hk1 : ∀ x, Wb.Ext wL x → (Instr.lookup 24 (.map np) (.int .u32 p) false).run Tryz.prog x = .ok (.slice ya G.length yc) x := fun x e => by
        have := KMapO.look (p := p) (HFP.out.map x (.ext (HXL.out.trans e))) Tryz.underlying24 zeroSlips hpo
        rw [hyv] at this; exact this
       have hk2 : ∀ x, Wb.Ext wL x → (Instr.lookup 25 (.map no) (.int .u32 p) false).run Tryz.prog x = .ok (.int .i64 (B.owed p)) x := fun x e => by
        have := KMapO.look (p := p) (HFO.out x (.ext (HXL.out.trans e))) Tryz.underlying25 zeroCents hpo
        rw [HFV.out p] at this; exact this
       have e0 : ∀ x, Wb.Ext wL x → x.cell? ⟨A, 0, none⟩ = some (.slice ra rl rc) := fun x e => (HXL.out.trans e).keep HI.out.a0
       have e1 : ∀ x, Wb.Ext wL x → x.cell? ⟨A, 1, none⟩ = some (.map mp) := fun x e => (HXL.out.trans e).keep HI.out.a1
       have e2 : ∀ x, Wb.Ext wL x → x.cell? ⟨A, 2, none⟩ = some (.map mo) := fun x e => (HXL.out.trans e).keep HI.out.a2
       have g1 : ∀ x, Wb.Ext wL x → x.cell? ⟨Q, 1, none⟩ = some (.map np) := fun x e => (HXL.out.trans e).keep HC.out.a1
       have g2 : ∀ x, Wb.Ext wL x → x.cell? ⟨Q, 2, none⟩ = some (.map no) := fun x e => (HXL.out.trans e).keep HC.out.a2
       have l9 : ∀ x, Wb.Ext wL x → x.cell? ⟨b, off + k, none⟩ = some (.int .u32 p) := fun x e => e.keep hc
       have HYV := Lib.hid (show Sls wL (.slice ya G.length yc) G by rw [← hyv]; exact HGK.sls)
       have hki : (k : Int) < (m.length : Int) := by omega
       have d5 : decide ((k : Int) < (m.length : Int)) = true := by simp; omega
       have HGC := Lib.hid hGc
       clear hG HGK hyv hc hp hGc
       go_upto_region 27 with (fail)
       refine Code.wp_mono (OnEnd.imp ?_) (bk27 _ _ _ _ _ _ _ _ _ _ _ _ _ _ _ _ _ _ _ _ _ _ _ _ _ _ _ _ _ _ _ _ _ _ _ _ _ _ _ _ _ _ _ _ _ _ _ _ _ _ _ _ _ _ _ _ _ _ _ _ _ _ _ _ _ _ _ _ _ _ _ _ _ _ _ _ _ _ _ _ _ _ _ _ _ _ _ _ _ _ _ _ _ _ _ _ _ _ _ _ _ _ _ _ _ _ _ _ _ _ _ _ _ _ _ _ _ _ _ _ _ _ _ _ _ _ _ _ _ _ _ _ _ _ _ _ _ _ _ _ _ _ _ _ _ _ _ _ _ _ _ _ _ _ _ _ _ _ _ _ _ _ _ _ _ _ _ _ _ _ _ _ _ wL p (B.owed p) A Q b off m.length _ k rl rc yc ra ya mp mo np no G (B.paid p) e0 e1 e2 g1 g2 l9 hki hfew HGC.out HYV.out hk1 hk2 HOA.out HPA.out)
       rintro a' wx ⟨u144, u145, u146, u147, u148, u149, u150, u151, u152, u153, u154, u155, u156, u157, u158, u159, u160, u161, u162, u163, u164, u165, u166, u167, u168, u169, u170, u171, u172, u173, rfl, hxx⟩
       (try dsimp only)
       have HXX := Lib.hid hxx
       clear e0 e1 e2 g1 g2 l9 hk1 hk2 HPA HOA hxx HYV HGC
       go_wp2
       go_roundw
       case rel => exact ⟨k + 1, by omega, by go_num, Lib.hid (HXM.out.trans HXX.out)⟩
       case measure => first | (simp [intOf]; done) | (simp [intOf]; omega)
     ·intro x v w2 cnt2 hok hfx hnr hrg2 hlt hg2 hs2 hen
      replace hg2 : wR.grownBy w2 (some X) := hg2
      replace hen : (Instr.entry (.pointer (some ⟨X, 0, none⟩))).run Tryz.prog w2 = .ok (.tuple #[.int .u32 x, v]) w2 := hen
      have HN2 := Lib.hid (show NumR wK.heap.size w2 (.slice oa m.length oc) m from row_abides HPA.out.row hg2 (fun r hr => by cases hr; exact HRG.out.walk))
      have hx2 : Wb.Ext wK w2 := Wb.Ext.grown HPA.out.ext hg2 (fun k h => by cases h; exact hXs)
      have HP2 : Hid (PsAt wK w2 (.slice oa m.length oc) m l0 ss9) := Lib.hid ⟨HN2.out, HPA.out.rise, HPA.out.mem, HPA.out.len, hx2⟩
      have HRG2 := Lib.hid hrg2
      have hlf : kLeft no X wR = cnt := HRG.out.left
      have hlen : m.length ≤ 1000000 := by have := HPA.out.len; omega
      have hsx2 := hx2.size
      clear hg2 hs2 hrg2 hfx hnr hok hrg HN2 hx2
      (try go_frame)
      go_wp2_with fail
      go_fit (put31_any wK.heap.size _ m x _ HP2.out.row hsx2 HP2.out.rise hlen); rintro e w3 ⟨v3, rfl, hn3, -, hx3⟩
      obtain ⟨ua9, uc9, rfl⟩ := hn3.shape
      have HP3 := Lib.hid (HP2.out.put hn3 hx3)
      have HRG3 := Lib.hid (HRG2.out.ext hx3)
      clear hn3 hx3
      go_wp2
      go_roundw
      case rel => exact ⟨cnt2, ss9 ++ [x], Wb.putU m x, ua9, uc9, rfl, HRG3, by simp; omega, HP3⟩
      case measure => rw [HRG3.out.left, hlf]; exact hlt
  obtain ⟨a, ha⟩ := Wb.get_ex hlt
  have hmem := List.mem_of_getElem? ha
  have hHW := HA.out.each a hmem
  obtain ⟨xa, xc, hav⟩ := hHW.tab.shape
  obtain ⟨b, off, hb, hc⟩ := HA.out.tab.opened (by rintro rfl; simp at ha)
  obtain rfl : va = some ⟨b, off, none⟩ := hb
  have HIC : Hid (w.cell? ⟨b, off + j * 4, none⟩ = some (.int .i64 a.y) ∧ w.cell? ⟨b, off + j * 4 + 1, none⟩ = some (.int .i64 a.i) ∧ w.cell? ⟨b, off + j * 4 + 2, none⟩ = some (.int .i64 a.k) ∧ w.cell? ⟨b, off + j * 4 + 3, none⟩ = some (.slice xa a.hs.length xc)) := Lib.hid ⟨by have := hc j a ha 0 _ rfl; rwa [Nat.add_zero] at this, hc j a ha 1 _ rfl, hc j a ha 2 _ rfl, hc j a ha 3 (.slice xa a.hs.length xc) (by rw [← hav]; rfl)⟩
  have hji : (j : Int) < al.length := by omega
  have d1 : decide ((j : Int) < (al.length : Int)) = true := by simp; omega
  have hsa := HSM.out.2 a hmem
  have HSA := Lib.hid hsa.2
  have hsl := hsa.1
  have HH := Lib.hid (show HdsM w (.slice xa a.hs.length xc) a.hs by rw [← hav]; exact hds_small hHW hsa.2)
  obtain ⟨hs, hk1, hk2, hk3⟩ := keysH_of (fun x hx => (hHW.each x hx).2)
  have HK1 := Lib.hid hk1
  have HK2 := Lib.hid hk2
  have l0 : ∀ x, Wb.Ext wO x → x.cell? ⟨b, off + j * 4, none⟩ = some (.int .i64 a.y) := fun x k => (HI.out.ext.trans k).keep HIC.out.1
  have l1 : ∀ x, Wb.Ext wO x → x.cell? ⟨b, off + j * 4 + 1, none⟩ = some (.int .i64 a.i) := fun x k => (HI.out.ext.trans k).keep HIC.out.2.1
  have l2 : ∀ x, Wb.Ext wO x → x.cell? ⟨b, off + j * 4 + 2, none⟩ = some (.int .i64 a.k) := fun x k => (HI.out.ext.trans k).keep HIC.out.2.2.1
  have l3 : ∀ x, Wb.Ext wO x → x.cell? ⟨b, off + j * 4 + 3, none⟩ = some (.slice xa a.hs.length xc) := fun x k => (HI.out.ext.trans k).keep HIC.out.2.2.2
  have k0 : ∀ x, Wb.Ext wO x → x.cell? ⟨A, 0, none⟩ = some (.slice ra rl rc) := fun x k => k.keep HI.out.a0
  have k1 : ∀ x, Wb.Ext wO x → x.cell? ⟨A, 1, none⟩ = some (.map mp) := fun x k => k.keep HI.out.a1
  have k2 : ∀ x, Wb.Ext wO x → x.cell? ⟨A, 2, none⟩ = some (.map mo) := fun x k => k.keep HI.out.a2
  have kf : ∀ x, Wb.Ext wO x → ∀ i, x.frozen? ⟨A, i, none⟩ = false := fun x k i => (k.cells.2 _ _ hlow.1).trans (HI.out.af i)
  clear ha hmem hHW hav hc hsa hlt
  have HT := Lib.hid (show ∀ W, Wb.Ext wO W → Calls Tryz.prog 20 #[.slice xa a.hs.length xc] W fun e w' => ∃ M lo, e = .returned (.map (some M)) ∧ lo = W.heap.size ∧ Hid (TabH w lo w' M a.hs) ∧ wO.heap.size ≤ lo ∧ lo ≤ M ∧ M < w'.heap.size ∧ Wb.Ext W w' from fun W k => by
   refine (tab_law HH.out hsl (HI.out.ext.trans k)).mono ?_
   rintro e w' ⟨M, rfl, h1, h2, h3, h4⟩
   exact ⟨M, W.heap.size, rfl, rfl, Lib.hid h1, k.size, h2, h3, h4⟩)
  have HDO := Lib.hid (show ∀ W' W lo M, Hid (TabH w lo W' M a.hs) → wO.heap.size ≤ lo → Wb.Ext wO W → Wb.Ext W' W → Calls Tryz.prog 12 #[.agg #[.slice ra rl rc, .map mp, .map mo], .int .i64 a.y, .int .i64 a.i, .int .i64 a.k, .map (some M)] W fun e w' => ∃ (ra' : Option Addr) (rl' rc' : Nat) (mp' mo' : Option Nat) (B' : Wb.Bk) (n1 y1 i1 k1 : Int) (qa : Option Addr) (qc : Nat) (rows : List RwM) (E : Int) (nW : Nat), e = .returned (.tuple #[.agg #[.slice ra' rl' rc', .map mp', .map mo'], .agg #[.int .i64 n1, .int .i64 y1, .int .i64 i1, .int .i64 k1, .slice qa rows.length qc], .int .i64 E]) ∧
    nW = W.heap.size ∧ wO.heap.size ≤ nW ∧ Hid (DidF (fun q => q < nW → Ok0 (fun q => q = A ∨ q = Q) wO.heap.size lo W'.heap.size q) w' (.slice ra' rl' rc') mp' mo' B B' a.y a.i a.k (SH a.hs) hs ks N ⟨n1, y1, i1, k1, .slice qa rows.length qc, rows⟩ E) ∧ Hid (BkI (j + 1) B' (ks ++ hs) (N + (ks).length + hs.length)) ∧ Wb.Ext W w' from fun W' W lo M h1 h2 h3 h4 => by
   refine (did_law (P := fun q => q = A ∨ q = Q) (j := j) HI.out.book HI.out.ok (by omega) h1.out HI.out.ext.size (fun q hq => by omega) h2 h3 h4 hk1 hk2 hsl hk3 (fun p => sh_few HSA.out p)).mono ?_
   rintro e w' ⟨ra', rl', rc', mp', mo', B', n1, y1, i1, k1, qa, qc, rows, E, rfl, h5, h6, h7⟩
   exact ⟨ra', rl', rc', mp', mo', B', n1, y1, i1, k1, qa, qc, rows, E, W.heap.size, rfl, rfl, h3.size, Lib.hid h5, Lib.hid h6, h7⟩)
  clear hk1 hk2
  go_upto_region 8 with (fail)
  refine Code.wp_mono (OnEnd.imp ?_) (bk8 _ _ _ _ _ _ _ _ _ _ _ _ _ _ _ _ _ _ _ _ _ _ _ _ _ _ _ _ _ _ _ _ _ _ _ _ _ _ _ _ _ _ _ _ _ _ _ _ _ _ _ _ _ _ _ _ _ _ _ _ _ _ _ _ _ _ _ _ _ _ _ _ _ _ _ _ _ _ _ _ _ _ _ _ _ _ _ _ _ _ _ _ _ _ _ _ _ _ _ _ _ _ _ _ _ _ _ _ _ _ _ _ _ _ _ _ _ _ _ _ _ _ _ _ _ _ _ _ _ _ _ _ _ _ _ _ _ _ _ _ _ _ _ _ _ _ _ _ _ _ _ _ _ _ _ _ _ _ _ _ _ _ _ _ _ _ _ _ _ _ _ _ _ _ w wO b off vc j al.length xa ra xc rl rc N mp mo B ks hs a A Q hji hlow.1 (fun q hq => by rcases hq with rfl | rfl; exact hlow.1; exact hlow2.1) l0 l1 l2 l3 k0 k1 k2 kf HT.out HDO.out)
  rintro a' wc ⟨ra', rl', rc', mp', mo', B', n1, y1, i1, k9, qa, qc, rows, E, u25, u26, u27, u28, u29, u30, u31, u32, u33, u34, u35, u36, u37, u38, u39, u40, u41, u42, u43, u44, u45, u46, u47, u48, u49, u50, u51, rfl, hI9, hD, e0, e1, e2, ef, hkA⟩
  (try dsimp only)
  obtain ⟨wD, hwz⟩ : ∃ z, z = wc := ⟨_, rfl⟩
  subst hwz
  have HD := Lib.hid hD
  have HKA := Lib.hid hkA
  have HAC : Hid (wD.cell? ⟨A, 0, none⟩ = some (.slice ra' rl' rc') ∧ wD.cell? ⟨A, 1, none⟩ = some (.map mp') ∧ wD.cell? ⟨A, 2, none⟩ = some (.map mo') ∧ ∀ i, wD.frozen? ⟨A, i, none⟩ = false) := Lib.hid ⟨e0, e1, e2, ef⟩
  have HXD : Hid (Wb.Ext w wD) := Lib.hid (hkA.old HI.out.ext (fun i hi => by omega))
  have hsD : wO.heap.size ≤ wD.heap.size := hkA.size
  clear hD HDO HT l0 l1 l2 l3 k0 k1 k2 kf e0 e1 e2 ef hkA
  have l0 : ∀ x, Wb.Ext wD x → x.cell? ⟨b, off + j * 4, none⟩ = some (.int .i64 a.y) := fun x k => (HXD.out.trans k).keep HIC.out.1
  have l1 : ∀ x, Wb.Ext wD x → x.cell? ⟨b, off + j * 4 + 1, none⟩ = some (.int .i64 a.i) := fun x k => (HXD.out.trans k).keep HIC.out.2.1
  have l2 : ∀ x, Wb.Ext wD x → x.cell? ⟨b, off + j * 4 + 2, none⟩ = some (.int .i64 a.k) := fun x k => (HXD.out.trans k).keep HIC.out.2.2.1
  have l3 : ∀ x, Wb.Ext wD x → x.cell? ⟨b, off + j * 4 + 3, none⟩ = some (.slice xa a.hs.length xc) := fun x k => (HXD.out.trans k).keep HIC.out.2.2.2
  have hQA : Q ≠ A := by omega
  have k0 : ∀ x, Wb.Ext wD x → x.cell? ⟨Q, 0, none⟩ = some (.slice rb sl sc) := fun x k => k.keep (HKA.out.cell hQA HC.out.a0)
  have k1 : ∀ x, Wb.Ext wD x → x.cell? ⟨Q, 1, none⟩ = some (.map np) := fun x k => k.keep (HKA.out.cell hQA HC.out.a1)
  have k2 : ∀ x, Wb.Ext wD x → x.cell? ⟨Q, 2, none⟩ = some (.map no) := fun x k => k.keep (HKA.out.cell hQA HC.out.a2)
  have hQD : Q < wD.heap.size := by omega
  have hAD : A < wD.heap.size := by omega
  have kf : ∀ x, Wb.Ext wD x → ∀ i, x.frozen? ⟨Q, i, none⟩ = false := fun x k i => (k.cells.2 _ _ hQD).trans (HKA.out.frozen hQA hlow2.1 (HC.out.af i))
  have HCB := Lib.hid (HC.out.book.kept (HKA.out.mono (fun q _ h e => h (.inl e))))
  have HDO := Lib.hid (show ∀ W', Wb.Ext wD W' → Calls Tryz.prog 21 #[.agg #[.slice rb sl sc, .map np, .map no], .agg #[.int .i64 a.y, .int .i64 a.i, .int .i64 a.k, .slice xa a.hs.length xc]] W' fun e w' => ∃ (ra' : Option Addr) (rl' rc' : Nat) (mp' mo' : Option Nat) (B' : Wb.Bk) (n1 y1 i1 k1 : Int) (qa : Option Addr) (qc : Nat) (rows : List RwM) (E : Int) (nW : Nat), e = .returned (.tuple #[.agg #[.slice ra' rl' rc', .map mp', .map mo'], .agg #[.int .i64 n1, .int .i64 y1, .int .i64 i1, .int .i64 k1, .slice qa rows.length qc], .int .i64 E]) ∧
  nW = W'.heap.size ∧ wD.heap.size ≤ nW ∧ Hid (DidF (fun q => q < nW → Ok0 (fun q => q = A ∨ q = Q) wD.heap.size wD.heap.size wD.heap.size q) w' (.slice ra' rl' rc') mp' mo' B B' a.y a.i a.k (SH a.hs) hs is N2 ⟨n1, y1, i1, k1, .slice qa rows.length qc, rows⟩ E) ∧ Hid (BkI (j + 1) B' (is ++ hs) (N2 + (is).length + hs.length)) ∧ Wb.Ext W' w' from fun W k =>
   mdid_law (P := fun q => q = A ∨ q = Q) (j := j) HCB.out HC.out.ok (by omega) HH.out HXD.out (fun q hq => by rcases hq with rfl | rfl <;> omega) k HK1.out HK2.out hsl hk3 (fun p => sh_few HSA.out p))
  go_upto_region 9 with (fail)
  refine Code.wp_mono (OnEnd.imp ?_) (bk9 _ _ _ _ _ _ _ _ _ _ _ _ _ _ _ _ _ _ _ _ _ _ _ _ _ _ _ _ _ _ _ _ _ _ _ _ _ _ _ _ _ _ _ _ _ _ _ _ _ _ _ _ _ _ _ _ _ _ _ _ _ _ _ _ _ _ _ _ _ _ _ _ _ _ _ _ _ _ _ _ _ _ _ _ _ _ _ _ _ _ _ _ _ _ _ _ _ _ _ _ _ _ _ _ _ _ _ _ _ _ _ _ _ _ _ _ _ _ _ _ _ _ _ _ _ _ _ _ _ _ _ _ _ _ _ _ _ _ _ _ _ _ _ _ _ _ _ _ _ _ _ _ _ _ _ _ _ _ _ _ _ _ _ _ _ _ _ _ _ _ _ _ _ _ w wD b off vc j al.length xa rb xc sl sc N2 np no B is hs a Q A hji hQD (fun q hq => by rcases hq with rfl | rfl; exact hAD; exact hQD) l0 l1 l2 l3 k0 k1 k2 kf HDO.out)
  rintro a' wc ⟨rb', sl', sc', np', no', C', n2, y2, i2, k8, ta, tc, rows2, F, u52, u53, u54, u55, u56, u57, u58, u59, u60, u61, rfl, hI2, hD2, e0, e1, e2, ef, hkQ⟩
  (try dsimp only)
  obtain ⟨wE, hwz⟩ : ∃ z, z = wc := ⟨_, rfl⟩
  subst hwz
  have HD2 := Lib.hid hD2
  have HLW := Lib.hid (two_law HD.out HD2.out rfl)
  have hC := HLW.out.2.1
  subst hC
  have HXE : Hid (Wb.Ext w wE) := Lib.hid (hkQ.old HXD.out (fun i hi => by omega))
  have hAQ9 : A ≠ Q := by omega
  have hsE : wD.heap.size ≤ wE.heap.size := hkQ.size
  have HB1 : Hid (ApI w (fun q => q = A ∨ q = Q) A (j + 1) wE ra' rl' rc' mp' mo' C' (ks ++ hs) (N + ks.length + hs.length)) := Lib.hid
   ⟨hkQ.cell hAQ9 HAC.out.1, hkQ.cell hAQ9 HAC.out.2.1, hkQ.cell hAQ9 HAC.out.2.2.1, fun i => hkQ.frozen hAQ9 hAD (HAC.out.2.2.2 i), HD.out.book.kept (hkQ.mono (fun q _ h e => h (.inr e))), hI9.out, ⟨by omega, hlow.2⟩, HXE.out⟩
  have HB2 : Hid (ApI w (fun q => q = A ∨ q = Q) Q (j + 1) wE rb' sl' sc' np' no' C' (is ++ hs) (N2 + is.length + hs.length)) := Lib.hid
   ⟨e0, e1, e2, ef, HD2.out.book, hI2.out, ⟨by omega, hlow2.2⟩, HXE.out⟩
  clear hD2 HDO l0 l1 l2 l3 k0 k1 k2 kf e0 e1 e2 ef hkQ HLW HCB HKA HAC
  go_wp2
  go_roundw
  case rel => exact ⟨j + 1, ra', rl', rc', mp', mo', C', ks ++ hs, N + ks.length + hs.length, rb', sl', sc', np', no', is ++ hs, N2 + is.length + hs.length, by omega, by go_num, HB1, HB2⟩
  case measure => first | (simp [intOf]; done) | (simp [intOf]; omega)
end Go.Proofs.YtnefdpnolojojaaGreat
