/- Run35 -/
import Derived.Test.YtnefdpnolojojaaGreatDoorTxr7
import Derived.Test.YtnefdpnolojojaaGreatDoorMRd
import Derived.Test.YtnefdpnolojojaaGreatDoorMAw
import Derived.Test.YtnefdpnolojojaaGreatDoorMRf
import Derived.Test.YtnefdpnolojojaaGreatDoorMTl
import Derived.Test.YtnefdpnolojojaaGreatDoorTln
import Derived.Test.YtnefdpnolojojaaGreatDoorTxT
import Derived.Test.YtnefdpnolojojaaGreatDoorMPx
import Derived.Deep.RegionHeldLaw
namespace Go.Proofs.YtnefdpnolojojaaGreatDoor
open Go.RowKit Go.Sort Go.Lib Go.Maps
set_option maxRecDepth 8000
attribute [local go_sem ↓] Go.wp_at_zero Go.wp_at_succ
theorem u32_okX {p : Int} (h : kU32.ok p) : 0 ≤ p ∧ p ≤ 4294967295 := by
 have h2 : (Lit.int .u32 p).wf = true := h
 simp [Lit.wf, IntKind.min, IntKind.max, IntKind.signed, IntKind.bits] at h2
 omega
theorem sh_okX {HS : List HdM} {hs : List Int} (hk : KeysAre kU32 (fH HS) hs) (hH : ∀ x ∈ HS, kU32.ok x.p) : ∀ p, p ∉ hs → SH HS p = [] := by
 intro p hp
 unfold SH
 rcases hf : findH HS p with _ | x
 ·rfl
 ·obtain ⟨a, b⟩ := find_in hf
  refine absurd ((hk.2 p).2 ⟨b ▸ hH x a, ?_⟩) hp
  unfold fH; rw [hf]; rfl
theorem did_okX {F : Nat → Prop} {w wB : World} {rv rv0 : Value} {mp mo mp0 mo0 : Option Nat} {B B' : Wb.Bk} {y i k : Int} {HS : List HdM} {hs ks ks0 : List Int} {N N0 j : Nat} {r : RnM} (h : DidF F w rv mp mo B B' y i k (SH HS) hs ks N r 0) (hj : BkI j B ks0 N0) (hj9 : j ≤ 40) {G : Nat → Prop} (hB0 : BkF G wB rv0 mp0 mo0 B ks0 N0)
  (hk9 : k ≤ 9223372036854775807) (hB : Wb.PaidOk B) (hk : KeysAre kU32 (fH HS) hs) (hH : ∀ x ∈ HS, kU32.ok x.p) (hS : ∀ p, (SH HS p).length ≤ 60) : Wb.PaidOk B' ∧ Wb.RnOk r.c := by
 obtain ⟨ps, h1, h2⟩ := h.did
 refine Wb.do_okX h2 hk9 hB (by have := hj.len; omega) (fun p => by have := hS p; omega) (sh_okX hk hH) (fun p hp => u32_okX ?_)
 by_cases e : SH HS p = []
 ·obtain ⟨n, f, hm, -, -⟩ := hB0.paid
  exact (hm.full p (fun e2 => hp ⟨e, e2⟩)).1
 ·unfold SH at e
  rcases hf : findH HS p with _ | x
  ·rw [hf] at e; exact absurd rfl e
  ·obtain ⟨a, b⟩ := find_in hf
   rw [← b]; exact hH x a
theorem runsT_le {R : List Wb.Rw} (h : ∀ r ∈ R, Wb.RwOk r) (hl : R.length ≤ 100000) (k : Nat) : (Wb.rowsT (R.take k)).length ≤ 20000000000000 := by
 have h1 := Wb.rowsT_le (R := R.take k) (fun r hr => h r (List.mem_of_mem_take hr))
 have h2 := List.length_take_le' k R
 have h3 : (R.take k).length * 200000000 ≤ 100000 * 200000000 := Nat.mul_le_mul_right _ (by omega)
 omega
theorem runH_le {r : Wb.Rn} (h : Wb.RnOk r) : (Wb.runH r).length ≤ 200 := by
 have h1 := Wb.itoaZ_len r.n h.n
 have h2 := Wb.itoaZ_len r.y h.y
 have h3 := Wb.itoaZ_len r.i h.i
 have h4 := Wb.itoaZ_len r.k h.k
 unfold Wb.runH; simp; omega
theorem personT_le {r : Wb.Rw} (h : Wb.RwOk r) : (Wb.personT r).length ≤ 200 := by
 have h3 := Wb.text_le r.due
 have h4 := Wb.text_le r.paid
 have h5 := Wb.text_le r.owed
 have h6 := Wb.itoaZ_len r.p (by have := h.p; omega)
 unfold Wb.personT; simp; omega
set_option maxHeartbeats 100000000 in
theorem texts31_any (v : Value) (al : List AcM) (w : World) (h : ActsM w v al) (hz : FitA al) (hkk : ∀ a ∈ al, a.k ≤ 9223372036854775807) (ht : Tab10 w) :
  Calls Tryz.prog 4 #[v] w fun e w' => e = .returned (.bool true) ∧ Wb.Ext w w' := by
 obtain ⟨va, vc, rfl⟩ := h.tab.shape
 have HA := Lib.hid h
 have HZ := Lib.hid hz
 have HKK := Lib.hid hkk
 have HT := Lib.hid ht
 clear h hz hkk ht
 go_enter Tryz.func4, Tryz.ntmps4
 go_wp2_with fail
 go_fit (great31_any _ al _ (HA.out.ext (by (repeat' (first | (with_reducible assumption) | (with_reducible exact Wb.Ext.refl _) | (with_reducible refine Wb.Ext.drew ?_) | (with_reducible refine Wb.Ext.drewN ?_ _) | (with_reducible refine Wb.Ext.alloc ?_ _) | (with_reducible refine Wb.Ext.trans ?_ (by assumption)))))) HZ.out); rintro e w1 ⟨g, rfl, hg, hx1⟩
 have HX1 := Lib.hid (show Wb.Ext w w1 by (repeat' (first | (with_reducible assumption) | (with_reducible exact Wb.Ext.refl _) | (with_reducible refine Wb.Ext.drew ?_) | (with_reducible refine Wb.Ext.drewN ?_ _) | (with_reducible refine Wb.Ext.alloc ?_ _) | (with_reducible refine Wb.Ext.trans ?_ (by assumption)))))
 clear hx1
 cases g
 case true =>
  clear hg
  go_wp2_with fail
  go_fit (awake31_any _); rintro e w2 ⟨rfl, hx2⟩
  have HX2 := Lib.hid (HX1.out.trans hx2)
  clear hx2
  go_wp2
  exact bodyPost_ret (v := .bool true) (by simp [results, Tryz.results4, go_sem]) rfl ⟨rfl, HX2.out⟩
 case false =>
 have HSM := Lib.hid (hg rfl)
 clear hg
 go_upto_region 4 with (fail)
 refine Wb.wp_at fun WB hWB => ?_
 obtain ⟨A, hA⟩ : ∃ A, w1.heap.size = A := ⟨_, rfl⟩
 have HI : Hid (ApI w (fun q => q = A) A 0 WB none 0 0 none none Wb.noBk [] 0) := Lib.hid (by
  have hs := HX1.out.size
  exact ⟨by rw [hWB, ← hA]; simp [go_sem], by rw [hWB, ← hA]; simp [go_sem], by rw [hWB, ← hA]; simp [go_sem], fun j => by rw [hWB, ← hA]; simp [go_sem], bk_none _ _, bki_none, ⟨by rw [hWB, ← hA]; simp, by omega⟩, HX1.out.trans (by rw [hWB]; (repeat' (first | (with_reducible assumption) | (with_reducible exact Wb.Ext.refl _) | (with_reducible refine Wb.Ext.drew ?_) | (with_reducible refine Wb.Ext.drewN ?_ _) | (with_reducible refine Wb.Ext.alloc ?_ _) | (with_reducible refine Wb.Ext.trans ?_ (by assumption)))))⟩)
 have HPK := Lib.hid Wb.paid_no
 rw [hA]
 clear hWB hA
 go_wp2_with fail
 go_loopw [4] (fun iv wr => ∃ (j : Nat) (ra : Option Addr) (rl rc : Nat) (mp mo : Option Nat) (B : Wb.Bk) (ks : List Int) (N : Nat), j ≤ al.length ∧ iv = .int .i64 j ∧ Hid (ApI w (fun q => q = A) A j wr ra rl rc mp mo B ks N) ∧ Hid (Wb.PaidOk B)) (fun iv _ => al.length - (intOf iv).toNat)
 case atStart => exact ⟨0, none, 0, 0, none, none, Wb.noBk, [], 0, Nat.zero_le _, rfl, HI, HPK⟩
 case round =>
  clear HI HPK
  obtain ⟨j, ra, rl, rc, mp, mo, B, ks, N, hj, rfl, HI, HPK⟩ := hrel
  obtain ⟨wO, hwz⟩ : ∃ z, z = wr := ⟨_, rfl⟩
  subst hwz
  by_cases hlt : j < al.length
  case neg =>
   have d1 : decide ((j : Int) < (al.length : Int)) = false := by simp; omega
   have n1 : ¬ (j : Int) < (al.length : Int) := by omega
   clear hlt
   go_wp2_with fail
   go_fit (awake31_any _); rintro e w2 ⟨rfl, hx2⟩
   have HX2 := Lib.hid (show Wb.Ext w w2 from HI.out.ext.trans (by (repeat' (first | (with_reducible assumption) | (with_reducible exact Wb.Ext.refl _) | (with_reducible refine Wb.Ext.drew ?_) | (with_reducible refine Wb.Ext.drewN ?_ _) | (with_reducible refine Wb.Ext.alloc ?_ _) | (with_reducible refine Wb.Ext.trans ?_ (by assumption))))))
   clear hx2
   go_wp2
   exact bodyPost_ret (v := .bool true) (by simp [results, Tryz.results4, go_sem]) rfl ⟨rfl, HX2.out⟩
  obtain ⟨a, ha⟩ := Wb.get_ex hlt
  have hmem := List.mem_of_getElem? ha
  have hkb := HKK.out a hmem
  have hHW := HA.out.each a hmem
  obtain ⟨xa, xc, hav⟩ := hHW.tab.shape
  obtain ⟨b, off, hb, hc⟩ := HA.out.tab.opened (by rintro rfl; simp at ha)
  obtain rfl : va = some ⟨b, off, none⟩ := hb
  have c0 := hc j a ha 0 _ rfl
  have c1 := hc j a ha 1 _ rfl
  have c2 := hc j a ha 2 _ rfl
  have c3 := hc j a ha 3 (.slice xa a.hs.length xc) (by rw [← hav]; rfl)
  rw [Nat.add_zero] at c0
  have l0 : ∀ w2, Wb.Ext wO w2 → w2.cell? ⟨b, off + j * 4, none⟩ = some (.int .i64 a.y) := fun w2 k => (HI.out.ext.trans k).keep c0
  have l1 : ∀ w2, Wb.Ext wO w2 → w2.cell? ⟨b, off + j * 4 + 1, none⟩ = some (.int .i64 a.i) := fun w2 k => (HI.out.ext.trans k).keep c1
  have l2 : ∀ w2, Wb.Ext wO w2 → w2.cell? ⟨b, off + j * 4 + 2, none⟩ = some (.int .i64 a.k) := fun w2 k => (HI.out.ext.trans k).keep c2
  have l3 : ∀ w2, Wb.Ext wO w2 → w2.cell? ⟨b, off + j * 4 + 3, none⟩ = some (.slice xa a.hs.length xc) := fun w2 k => (HI.out.ext.trans k).keep c3
  have k0 : ∀ w2, Wb.Ext wO w2 → w2.cell? ⟨A, 0, none⟩ = some (.slice ra rl rc) := fun w2 k => k.keep HI.out.a0
  have k1 : ∀ w2, Wb.Ext wO w2 → w2.cell? ⟨A, 1, none⟩ = some (.map mp) := fun w2 k => k.keep HI.out.a1
  have k2 : ∀ w2, Wb.Ext wO w2 → w2.cell? ⟨A, 2, none⟩ = some (.map mo) := fun w2 k => k.keep HI.out.a2
  have hji : (j : Int) < al.length := by omega
  have d1 : decide ((j : Int) < (al.length : Int)) = true := by simp; omega
  have hal := HSM.out.1
  have hsa := HSM.out.2 a hmem
  have HSA := Lib.hid hsa.2
  have hsl := hsa.1
  have HH := Lib.hid (show HdsM w (.slice xa a.hs.length xc) a.hs by rw [← hav]; exact hds_small hHW hsa.2)
  obtain ⟨hs, hk1, hk2, hk3⟩ := keysH_of (fun x hx => (hHW.each x hx).2)
  have HKA := Lib.hid hk1
  have HOKH := Lib.hid (show ∀ x ∈ a.hs, kU32.ok x.p from fun x hx => (hHW.each x hx).2)
  have hlow := HI.out.lt
  have HT' := Lib.hid (show ∀ W, Wb.Ext wO W → Calls Tryz.prog 11 #[.slice xa a.hs.length xc] W fun e w' => ∃ M lo, e = .returned (.map (some M)) ∧ lo = W.heap.size ∧ Hid (TabH w lo w' M a.hs) ∧ wO.heap.size ≤ lo ∧ lo ≤ M ∧ M < w'.heap.size ∧ Wb.Ext W w' from fun W k => by
   refine (tab_law HH.out hsl (HI.out.ext.trans k)).mono ?_
   rintro e w' ⟨M, rfl, h1, h2, h3, h4⟩
   exact ⟨M, W.heap.size, rfl, rfl, Lib.hid h1, k.size, h2, h3, h4⟩)
  have HDO := Lib.hid (show ∀ W' W lo M, Hid (TabH w lo W' M a.hs) → wO.heap.size ≤ lo → Wb.Ext wO W → Wb.Ext W' W → Calls Tryz.prog 5 #[.agg #[.slice ra rl rc, .map mp, .map mo], .int .i64 a.y, .int .i64 a.i, .int .i64 a.k, .map (some M)] W fun e w' => ∃ (ra' : Option Addr) (rl' rc' : Nat) (mp' mo' : Option Nat) (B' : Wb.Bk) (n1 y1 i1 k1 : Int) (qa : Option Addr) (qc : Nat) (rows : List RwM) (E : Int) (nW : Nat), e = .returned (.tuple #[.agg #[.slice ra' rl' rc', .map mp', .map mo'], .agg #[.int .i64 n1, .int .i64 y1, .int .i64 i1, .int .i64 k1, .slice qa rows.length qc], .int .i64 E]) ∧
    nW = W.heap.size ∧ wO.heap.size ≤ nW ∧ Hid (DidF (fun q => q < nW → Ok0 (fun q => q = A) wO.heap.size lo W'.heap.size q) w' (.slice ra' rl' rc') mp' mo' B B' a.y a.i a.k (SH a.hs) hs ks N ⟨n1, y1, i1, k1, .slice qa rows.length qc, rows⟩ E) ∧ Hid (BkI (j + 1) B' (ks ++ hs) (N + (ks).length + hs.length)) ∧ Wb.Ext W w' from fun W' W lo M h1 h2 h3 h4 => by
   refine (did_law (P := fun q => q = A) (j := j) HI.out.book HI.out.ok (by omega) h1.out HI.out.ext.size (fun q hq => by omega) h2 h3 h4 hk1 hk2 hsl hk3 (fun p => sh_few HSA.out p)).mono ?_
   rintro e w' ⟨ra', rl', rc', mp', mo', B', n1, y1, i1, k1, qa, qc, rows, E, rfl, h5, h6, h7⟩
   exact ⟨ra', rl', rc', mp', mo', B', n1, y1, i1, k1, qa, qc, rows, E, W.heap.size, rfl, rfl, h3.size, Lib.hid h5, Lib.hid h6, h7⟩)
  clear ha hmem hHW hav hc c0 c1 c2 c3 hsa hk1 hk2 hlt
  go_upto_region 7 with (fail)
  refine Code.wp_mono (OnEnd.imp ?_) (txr7 _ _ _ _ _ _ _ _ _ _ _ _ _ _ _ _ _ _ _ _ _ _ _ _ _ _ _ _ _ _ _ _ _ _ _ _ _ _ _ _ _ _ _ _ _ _ _ _ _ _ _ _ _ _ _ _ _ _ _ _ _ _ _ _ _ _ _ _ _ _ _ _ _ _ _ _ _ _ _ _ _ _ _ _ _ _ _ _ _ _ _ _ _ _ _ _ _ _ _ _ _ _ _ _ _ _ _ _ _ _ _ _ _ _ _ _ _ _ _ _ _ _ _ _ _ _ _ _ _ _ _ _ _ _ _ _ _ _ _ _ _ _ _ _ _ w wO b off vc j al.length xa ra xc rl rc N mp mo B ks hs a A hji hlow.1 l0 l1 l2 l3 k0 k1 k2 HT'.out HDO.out)
  rintro a' wc ⟨C, R, ra', rl', rc', mp', mo', B', n1, y1, i1, k9, qa, qc, rows, E, zt21, zt22, zt23, zt24, zt25, zt26, zt27, zt28, zt29, zt30, zt31, zt32, zt33, zt34, zt35, zt36, zt37, zt38, zt39, zt40, zt41, zt42, zt43, zt44, zt45, zt46, zt47, rfl, nC, nR, hI9, hD, e0, e1, e2, r0, r1, r2, r3, r4, hxO⟩
  (try dsimp only)
  ·skip
   obtain ⟨wD, hwz⟩ : ∃ z, z = wc := ⟨_, rfl⟩
   subst hwz
   have HD := Lib.hid hD
   have HXO := Lib.hid hxO
   clear hD HT' HDO
   by_cases hE : E = 0
   case neg =>
    have g1 : (E == 0) = false := by simpa using hE
    have g2 : (E != 0) = true := by simpa using hE
    have HN := Lib.hid (show ApI w (fun q => q = A) A (j + 1) wD ra rl rc mp mo B ks N from by
     have h9 := HI.out.ext' HXO.out
     exact ⟨h9.a0, h9.a1, h9.a2, h9.af, h9.book, h9.ok.up, h9.lt, h9.ext⟩)
    clear l0 l1 l2 l3 k0 k1 k2 hxO hE r0 r1 r2 r3 r4 e0 e1 e2
    go_wp2
    go_roundw
    case rel => exact ⟨j + 1, ra, rl, rc, mp, mo, B, ks, N, by omega, by go_num, HN, HPK⟩
    case measure => first | (simp [intOf]; done) | (simp [intOf]; omega)
   subst hE
   obtain ⟨hp9, hr9⟩ := did_okX HD.out HI.out.ok (by omega) HI.out.book hkb HPK.out HKA.out HOKH.out (fun p => sh_few HSA.out p)
   have HPK2 := Lib.hid hp9
   have HRN := Lib.hid hr9
   clear hp9 hr9
   have a0 := hxO.keep HI.out.a0
   have a1 := hxO.keep HI.out.a1
   have a2 := hxO.keep HI.out.a2
   have af : ∀ i, wD.frozen? ⟨A, i, none⟩ = false := fun i => (hxO.cells.2 _ _ hlow.1).trans (HI.out.af i)
   have hCA : ¬ C = A := by omega
   have hAC : ¬ A = C := by omega
   have hRA : ¬ R = A := by omega
   have hAR : ¬ A = R := by omega
   clear l0 l1 l2 l3 k0 k1 k2 hxO
   go_upto_region 10 with (fail)
   refine Wb.wp_at fun wA hwA => ?_
   have hkA : Kept (fun q => q ≠ A) wD wA := by
    rw [hwA]
    exact ((Kept.refl.setj (fun h => h rfl)).setj (fun h => h rfl)).setj (fun h => h rfl)
   have hxA : Wb.Ext w wA := by
    have h1 : Wb.Ext w wD := HI.out.ext.trans HXO.out
    have h2 := hlow.2
    rw [hwA]; (repeat' (first | (with_reducible assumption) | (with_reducible exact Wb.Ext.refl _) | (with_reducible refine Wb.Ext.drew ?_) | (with_reducible refine Wb.Ext.drewN ?_ _) | (with_reducible refine Wb.Ext.alloc ?_ _) | (with_reducible refine Wb.ext_set ?_ (by first | assumption | (simp; done) | (simp; omega) | omega) _) | (with_reducible refine Wb.Ext.trans ?_ (by assumption))))
   have HAP : Hid (ApI w (fun q => q = A) A (j + 1) wA ra' rl' rc' mp' mo' B' (ks ++ hs) (N + ks.length + hs.length)) := Lib.hid (by
    refine ⟨by rw [hwA]; simp [go_sem, a0], by rw [hwA]; simp [go_sem, a1], by rw [hwA]; simp [go_sem, a2], fun i => by rw [hwA]; simp [go_sem, af], HD.out.book.kept hkA, hI9.out, ⟨?_, hlow.2⟩, hxA⟩
    have h1 := hkA.size
    have h2 := HXO.out.size
    omega)
   have q0 : ∀ x, Wb.Ext wA x → x.cell? ⟨R, 0, none⟩ = some (.int .i64 n1) := fun x e => e.keep (hkA.cell (fun h => hRA h) r0)
   have q1 : ∀ x, Wb.Ext wA x → x.cell? ⟨R, 1, none⟩ = some (.int .i64 y1) := fun x e => e.keep (hkA.cell (fun h => hRA h) r1)
   have q2 : ∀ x, Wb.Ext wA x → x.cell? ⟨R, 2, none⟩ = some (.int .i64 i1) := fun x e => e.keep (hkA.cell (fun h => hRA h) r2)
   have q3 : ∀ x, Wb.Ext wA x → x.cell? ⟨R, 3, none⟩ = some (.int .i64 k9) := fun x e => e.keep (hkA.cell (fun h => hRA h) r3)
   have q4 : ∀ x, Wb.Ext wA x → x.cell? ⟨R, 4, none⟩ = some (.slice qa rows.length qc) := fun x e => e.keep (hkA.cell (fun h => hRA h) r4)
   have HRW := Lib.hid (show RowsM wA (.slice qa rows.length qc) rows from HD.out.rows wA hkA)
   have HXA := Lib.hid hxA
   have hrl : rows.length ≤ 100000 := HRW.out.many
   have HRO := Lib.hid HRN.out.rows
   have hRn : Wb.runT (RnM.c ⟨n1, y1, i1, k9, .slice qa rows.length qc, rows⟩) = Wb.runH ⟨n1, y1, i1, k9, []⟩ ++ Wb.rowsT (rows.map RwM.c) := rfl
   have hrh : (Wb.runH ⟨n1, y1, i1, k9, []⟩).length ≤ 200 := runH_le (r := ⟨n1, y1, i1, k9, []⟩) ⟨HRN.out.n, HRN.out.y, HRN.out.i, HRN.out.k, fun w hw => by cases hw⟩
   have HTX := Lib.hid (show ∀ x, Wb.Ext wA x → Calls Tryz.prog 7 #[.agg #[.int .i64 n1, .int .i64 y1, .int .i64 i1, .int .i64 k9, .slice qa rows.length qc]] x fun e w' => e = .returned (.string (Wb.S (Wb.runH ⟨n1, y1, i1, k9, []⟩ ++ Wb.rowsT (rows.map RwM.c)))) ∧ Wb.Ext x w' from fun x e => by
    rw [← hRn]
    exact text31_any ⟨n1, y1, i1, k9, .slice qa rows.length qc, rows⟩ x (HRW.out.ext e) HRN.out (HT.out.ext (HXA.out.trans e)))
   obtain ⟨PH, hPH⟩ : ∃ PH, Wb.runH ⟨n1, y1, i1, k9, []⟩ = PH := ⟨_, rfl⟩
   have HPH := Lib.hid hPH
   rw [hPH] at HTX hrh
   clear hwA hkA hxA e0 e1 e2 r0 r1 r2 r3 r4 a0 a1 a2 af HX1 HSM HZ hRn hPH
   refine Code.wp_mono (OnEndX.imp ?_) (tl10 _ _ _ _ _ _ _ _ _ _ _ _ _ _ _ _ _ _ _ _ _ _ _ _ _ _ _ _ _ _ _ _ _ _ _ _ _ _ _ _ _ _ _ _ _ _ _ _ _ _ _ _ _ _ _ _ _ _ _ _ _ _ _ _ _ _ _ _ _ _ _ _ _ _ _ _ _ _ _ _ _ _ _ _ _ _ _ _ _ _ _ _ _ _ _ _ _ _ _ _ _ _ _ _ _ _ _ _ _ _ _ _ _ _ _ _ _ _ _ _ _ _ _ _ _ _ _ _ _ _ _ _ _ _ _ _ _ _ _ _ _ _ _ _ _ _ _ wA R n1 y1 i1 k9 q0 q1 q2 q3 HRN.out.n HRN.out.y HRN.out.i HRN.out.k)
   rintro a' wE ⟨zt51, zt52, zt53, zt54, zt55, zt56, zt57, zt58, zt59, zt60, zt61, zt62, zt63, zt64, zt65, zt66, zt67, zt68, zt69, zt70, rfl, hxE⟩
   rw [show 114 :: 117 :: 110 :: 32 :: (Wb.itoaZ n1 ++ 32 :: (Wb.itoaZ y1 ++ 32 :: (Wb.itoaZ i1 ++ 32 :: (Wb.itoaZ k9 ++ [10])))) = PH from HPH.out]
   have HXE := Lib.hid hxE
   clear hxE HPH
   (try dsimp only)
   go_wp2_with fail
   go_loopw [8, 9] (fun ov iv wr => ∃ k : Nat, k ≤ rows.length ∧ ov = .string (Wb.S (PH ++ Wb.rowsT ((rows.map RwM.c).take k))) ∧ iv = .int .i64 k ∧ Hid (Wb.Ext wA wr)) (fun _ iv _ => rows.length - (intOf iv).toNat)
   case atStart => exact ⟨0, Nat.zero_le _, by simp [Wb.rowsT], rfl, HXE⟩
   case round =>
    clear HXE
    obtain ⟨k, hk, rfl, rfl, HXK⟩ := hrel
    obtain ⟨wK, hwz⟩ : ∃ z, z = wr := ⟨_, rfl⟩
    subst hwz
    have s4 := q4 _ HXK.out
    by_cases hlk : k < rows.length
    case neg =>
     obtain rfl : k = rows.length := by omega
     have d2 : decide ((rows.length : Int) < (rows.length : Int)) = false := by simp
     have n2 : ¬ (rows.length : Int) < (rows.length : Int) := by omega
     have s0 := q0 _ HXK.out
     have s1 := q1 _ HXK.out
     have s2 := q2 _ HXK.out
     have s3 := q3 _ HXK.out
     rw [List.take_of_length_le (by simp)]
     obtain ⟨TT, hTT⟩ : ∃ TT, PH ++ Wb.rowsT (rows.map RwM.c) = TT := ⟨_, rfl⟩
     rw [hTT] at HTX ⊢
     clear hlk hk hTT q0 q1 q2 q3 q4
     go_wp2_with fail
     go_fit (HTX.out _ (HXK.out.trans (by (repeat' (first | (with_reducible assumption) | (with_reducible exact Wb.Ext.refl _) | (with_reducible refine Wb.Ext.drew ?_) | (with_reducible refine Wb.Ext.drewN ?_ _) | (with_reducible refine Wb.Ext.alloc ?_ _) | (with_reducible refine Wb.Ext.trans ?_ (by assumption))))))); rintro e wz ⟨rfl, hxz⟩
     have HN := Lib.hid (HAP.out.ext' (HXK.out.trans (show Wb.Ext wK wz by (repeat' (first | (with_reducible assumption) | (with_reducible exact Wb.Ext.refl _) | (with_reducible refine Wb.Ext.drew ?_) | (with_reducible refine Wb.Ext.drewN ?_ _) | (with_reducible refine Wb.Ext.alloc ?_ _) | (with_reducible refine Wb.Ext.trans ?_ (by assumption)))))))
     clear hxz s0 s1 s2 s3 s4
     go_wp2
     go_roundw
     case rel => exact ⟨j + 1, ra', rl', rc', mp', mo', B', ks ++ hs, N + ks.length + hs.length, by omega, by go_num, HN, HPK2⟩
     case measure => first | (simp [intOf]; done) | (simp [intOf]; omega)
    obtain ⟨r, hrk⟩ := Wb.get_ex hlk
    have hmem := List.mem_of_getElem? hrk
    have HRI := Lib.hid ((HRW.out.each r hmem).ext HXK.out)
    have HRO1 := Lib.hid (HRO.out r.c (List.mem_map_of_mem hmem))
    have HCK := Lib.hid (show (rows.map RwM.c)[k]? = some r.c by rw [List.getElem?_map, hrk]; rfl)
    obtain ⟨rb, roff, hrb, hrc⟩ := (HRW.out.ext HXK.out).tab.opened (by rintro rfl; simp at hrk)
    obtain rfl : qa = some ⟨rb, roff, none⟩ := hrb
    obtain ⟨na, nn, nc, ba, bn, bc, hnv, hbv⟩ := HRW.out.one r hmem
    obtain ⟨na', nc', hnv'⟩ := HRI.out.now.1.shape
    obtain ⟨ba', bc', hbv'⟩ := HRI.out.back.1.shape
    rw [hnv] at hnv'
    rw [hbv] at hbv'
    injection hnv' with e1 e2 e3
    subst e1 e2 e3
    injection hbv' with e1 e2 e3
    subst e1 e2 e3
    have HNL := Lib.hid (show Lns wK (.slice na r.now.l.length nc) r.now.l from hnv ▸ HRI.out.now.1)
    have HBL := Lib.hid (show Sls wK (.slice ba r.back.length bc) r.back from hbv ▸ HRI.out.back)
    have p0 := hrc k r hrk 0 _ rfl
    have p1 := hrc k r hrk 1 _ rfl
    have p2 := hrc k r hrk 2 _ rfl
    have p3 := hrc k r hrk 3 (.slice na r.now.l.length nc) (by rw [← hnv]; rfl)
    have p4 := hrc k r hrk 4 (.slice ba r.back.length bc) (by rw [← hbv]; rfl)
    have p5 := hrc k r hrk 5 _ rfl
    have p6 := hrc k r hrk 6 _ rfl
    have p7 := hrc k r hrk 7 _ rfl
    rw [Nat.add_zero] at p0
    have hp9 : 0 ≤ r.p ∧ r.p ≤ 4294967295 := HRO1.out.p
    have hki : (k : Int) < (rows.length : Int) := by omega
    have d2 : decide ((k : Int) < (rows.length : Int)) = true := decide_eq_true hki
    obtain ⟨P0, hP0⟩ : ∃ P0, PH ++ Wb.rowsT ((rows.map RwM.c).take k) = P0 := ⟨_, rfl⟩
    have hl0 : P0.length ≤ 30000000000000 := by
     have := runsT_le HRO.out (by simpa [RnM.c] using hrl) k
     rw [← hP0, List.length_append]
     simp only [RnM.c] at this
     omega
    rw [hP0]
    have HP0 := Lib.hid hP0
    clear hmem hrk hrc hnv hbv hlk hP0
    go_upto_region 15 with (fail)
    refine Wb.wp_at fun wF hwF => ?_
    obtain ⟨X, hX⟩ : ∃ X, wK.heap.size = X := ⟨_, rfl⟩
    have x0 : ∀ x, Wb.Ext wF x → x.cell? ⟨X, 0, none⟩ = some (.int .u32 r.p) := fun x e => e.keep (by rw [hwF, ← hX]; simp [go_sem])
    have x1 : ∀ x, Wb.Ext wF x → x.cell? ⟨X, 1, none⟩ = some (.int .i64 r.now.y) := fun x e => e.keep (by rw [hwF, ← hX]; simp [go_sem])
    have x2 : ∀ x, Wb.Ext wF x → x.cell? ⟨X, 2, none⟩ = some (.int .i64 r.now.i) := fun x e => e.keep (by rw [hwF, ← hX]; simp [go_sem])
    have x3 : ∀ x, Wb.Ext wF x → x.cell? ⟨X, 3, none⟩ = some (.slice na r.now.l.length nc) := fun x e => e.keep (by rw [hwF, ← hX]; simp [go_sem])
    have x4 : ∀ x, Wb.Ext wF x → x.cell? ⟨X, 4, none⟩ = some (.slice ba r.back.length bc) := fun x e => e.keep (by rw [hwF, ← hX]; simp [go_sem])
    have x5 : ∀ x, Wb.Ext wF x → x.cell? ⟨X, 5, none⟩ = some (.int .i64 r.due) := fun x e => e.keep (by rw [hwF, ← hX]; simp [go_sem])
    have x6 : ∀ x, Wb.Ext wF x → x.cell? ⟨X, 6, none⟩ = some (.int .i64 r.paid) := fun x e => e.keep (by rw [hwF, ← hX]; simp [go_sem])
    have x7 : ∀ x, Wb.Ext wF x → x.cell? ⟨X, 7, none⟩ = some (.int .i64 r.owed) := fun x e => e.keep (by rw [hwF, ← hX]; simp [go_sem])
    have HXF := Lib.hid (show Wb.Ext wK wF by rw [hwF]; (repeat' (first | (with_reducible assumption) | (with_reducible exact Wb.Ext.refl _) | (with_reducible refine Wb.Ext.drew ?_) | (with_reducible refine Wb.Ext.drewN ?_ _) | (with_reducible refine Wb.Ext.alloc ?_ _) | (with_reducible refine Wb.ext_set ?_ (by first | assumption | (simp; done) | (simp; omega) | omega) _) | (with_reducible refine Wb.Ext.trans ?_ (by assumption)))))
    simp only [hX]
    clear hwF hX p0 p1 p2 p3 p4 p5 p6 p7 s4
    have HLN := Lib.hid (show ∀ x, Wb.Ext wF x → Calls Tryz.prog 14 #[.string (Wb.S [110, 111, 119]), .agg #[.int .i64 r.now.y, .int .i64 r.now.i, .slice na r.now.l.length nc]] x fun e w' => e = .returned (.string (Wb.S (Wb.linesT Wb.headN r.now.l))) ∧ Wb.Ext x w' from fun x e => lines31_any Wb.headN r.now.y r.now.i _ r.now.l x (HNL.out.ext (HXF.out.trans e)) HRO1.out.now.ln HRO1.out.now.few (by decide))
    have hnt : (Wb.linesT Wb.headN r.now.l).length ≤ 1000000000 := by
     have h1 := linesT_take (hd := Wb.headN) (by decide) HRO1.out.now.ln HRO1.out.now.few r.now.l.length
     have e : r.c.now.2.2 = r.now.l := rfl
     rw [e, List.take_of_length_le (Nat.le_refl _)] at h1
     omega
    refine Code.wp_mono (OnEndX.imp ?_) (tl15 _ _ _ _ _ _ _ _ _ _ _ _ _ _ _ _ _ _ _ _ _ _ _ _ _ _ _ _ _ _ _ _ _ _ _ _ _ _ _ _ _ _ _ _ _ _ _ _ _ _ _ _ _ _ _ _ _ _ _ _ _ _ _ _ _ _ _ _ _ _ _ _ _ _ _ _ _ _ _ _ _ _ _ _ _ _ _ _ _ _ _ _ _ _ _ _ _ _ _ _ _ _ _ _ _ _ _ _ _ _ _ _ _ _ _ _ _ _ _ _ _ _ _ _ _ _ _ _ _ _ _ _ _ _ _ _ _ _ _ _ _ _ _ _ _ _ wF X r.p r.due r.paid r.owed r.now.y r.now.i (.slice na r.now.l.length nc) P0 (Wb.linesT Wb.headN r.now.l) x0 x1 x2 x3 x5 x6 x7 hp9 (by omega) hnt HLN.out)
    rintro a' wG ⟨zt83, zt84, zt85, zt86, zt87, zt88, zt89, zt90, zt91, zt92, zt93, zt94, zt95, zt96, zt97, zt98, zt99, zt100, zt101, zt102, zt103, zt104, zt105, zt106, zt107, zt108, zt109, rfl, hxG⟩
    obtain ⟨P1, hP1⟩ : ∃ P1, P0 ++ ([112, 101, 114, 115, 111, 110, 32] ++ (Wb.itoaZ r.p ++ 32 :: (Wb.text r.due ++ 32 :: (Wb.text r.paid ++ 32 :: (Wb.text r.owed ++ 10 :: Wb.linesT Wb.headN r.now.l))))) = P1 := ⟨_, rfl⟩
    rw [hP1]
    have HP1 := Lib.hid (show P0 ++ (Wb.personT r.c ++ Wb.linesT Wb.headN r.now.l) = P1 by rw [← hP1]; simp [Wb.personT, RwM.c])
    have hl1 : P1.length ≤ 30000001001000 := by
     have h1 := personT_le HRO1.out
     rw [← HP1.out, List.length_append, List.length_append]
     have h2 := linesT_take (hd := Wb.headN) (by decide) HRO1.out.now.ln HRO1.out.now.few r.now.l.length
     have e : r.c.now.2.2 = r.now.l := rfl
     rw [e, List.take_of_length_le (Nat.le_refl _)] at h2
     omega
    have HXG := Lib.hid hxG
    have HNB := Lib.hid HRO1.out.back
    have hfew : r.back.length ≤ 1000 := by have := HRO1.out.few; simpa [RwM.c] using this
    clear hxG hP1 hl0 hnt HLN x0 x1 x2 x3 x5 x6 x7
    (try dsimp only)
    go_wp2_with fail
    go_loopw [8, 11] (fun ov iv wr => ∃ m : Nat, m ≤ r.back.length ∧ ov = .string (Wb.S (P1 ++ Wb.backT ((r.back.map Wb.ct).take m))) ∧ iv = .int .i64 m ∧ Hid (Wb.Ext wF wr)) (fun _ iv _ => r.back.length - (intOf iv).toNat)
    case atStart => exact ⟨0, Nat.zero_le _, by simp [Wb.backT], rfl, HXG⟩
    case round =>
     clear HXG
     obtain ⟨m, hm, rfl, rfl, HXM⟩ := hrel
     obtain ⟨wM, hwz⟩ : ∃ z, z = wr := ⟨_, rfl⟩
     subst hwz
     have y4 := x4 _ HXM.out
     by_cases hlm : m < r.back.length
     case neg =>
      obtain rfl : m = r.back.length := by omega
      have d3 : decide ((r.back.length : Int) < (r.back.length : Int)) = false := by simp
      have n3 : ¬ (r.back.length : Int) < (r.back.length : Int) := by omega
      have HXN := Lib.hid (HXK.out.trans (HXF.out.trans HXM.out))
      rw [List.take_of_length_le (by simp), ← HP1.out, ← HP0.out, show PH ++ Wb.rowsT ((rows.map RwM.c).take k) ++ (Wb.personT r.c ++ Wb.linesT Wb.headN r.now.l) ++ Wb.backT (r.back.map Wb.ct) = PH ++ Wb.rowsT ((rows.map RwM.c).take (k + 1)) by
       rw [Wb.rowsT_snoc HCK.out]
       simp [Wb.rowT, RwM.c, List.append_assoc, Wb.ct]]
      clear hlm hm
      go_wp2
      go_roundw
      case rel => exact ⟨k + 1, by omega, rfl, by go_num, HXN⟩
      case measure => first | (simp [intOf]; done) | (simp [intOf]; omega)
     obtain ⟨s, hs9⟩ := Wb.get_ex hlm
     obtain ⟨sb, so, hsb, z0, z1, z2⟩ := HBL.out.cells hs9
     obtain rfl : ba = some ⟨sb, so, none⟩ := hsb
     have hsm := List.mem_of_getElem? hs9
     have HSL := Lib.hid ((HBL.out.2 s hsm).1.1)
     have HSO := Lib.hid (HNB.out (Wb.ct s) (List.mem_map_of_mem hsm))
     have HSK := Lib.hid (show (r.back.map Wb.ct)[m]? = some (Wb.ct s) by rw [List.getElem?_map, hs9]; rfl)
     have hmi : (m : Int) < (r.back.length : Int) := by omega
     have d3 : decide ((m : Int) < (r.back.length : Int)) = true := decide_eq_true hmi
     have t0 : ∀ x, Wb.Ext wM x → x.cell? ⟨sb, so + m * 3, none⟩ = some (.int .i64 s.y) := fun x e => (HXF.out.trans (HXM.out.trans e)).keep z0
     have t1 : ∀ x, Wb.Ext wM x → x.cell? ⟨sb, so + m * 3 + 1, none⟩ = some (.int .i64 s.i) := fun x e => (HXF.out.trans (HXM.out.trans e)).keep z1
     have t2 : ∀ x, Wb.Ext wM x → x.cell? ⟨sb, so + m * 3 + 2, none⟩ = some s.v := fun x e => (HXF.out.trans (HXM.out.trans e)).keep z2
     have t4 : ∀ x, Wb.Ext wM x → x.cell? ⟨X, 4, none⟩ = some (.slice (some ⟨sb, so, none⟩) r.back.length bc) := fun x e => x4 _ (HXM.out.trans e)
     have by1 : -9223372036854775807 ≤ s.y ∧ s.y ≤ 9223372036854775807 := HSO.out.y
     have bi1 : -9223372036854775807 ≤ s.i ∧ s.i ≤ 9223372036854775807 := HSO.out.i
     obtain ⟨P2, hP2⟩ : ∃ P2, P1 ++ Wb.backT ((r.back.map Wb.ct).take m) = P2 := ⟨_, rfl⟩
     have hl2 : P2.length ≤ 100000000000000 := by
      have h1 := backT_take (B := r.back.map Wb.ct) HNB.out (by simpa using hfew) m
      rw [← hP2, List.length_append]
      omega
     have hbt : (Wb.linesT (Wb.headB s.y s.i) s.l).length ≤ 1000000000 := by
      have h1 := linesT_take (hd := Wb.headB s.y s.i) (Wb.headB_le HSO.out) HSO.out.ln HSO.out.few s.l.length
      have e : (Wb.ct s).2.2 = s.l := rfl
      rw [e, List.take_of_length_le (Nat.le_refl _)] at h1
      omega
     have HLB := Lib.hid (show ∀ x, Wb.Ext wM x → Calls Tryz.prog 14 #[.string (Wb.S (98 :: 97 :: 99 :: 107 :: 32 :: (Wb.itoaZ s.y ++ 32 :: Wb.itoaZ s.i))), .agg #[.int .i64 s.y, .int .i64 s.i, s.v]] x fun e w' => e = .returned (.string (Wb.S (Wb.linesT (Wb.headB s.y s.i) s.l))) ∧ Wb.Ext x w' from fun x e => lines31_any (Wb.headB s.y s.i) s.y s.i _ s.l x (HSL.out.ext (HXF.out.trans (HXM.out.trans e))) HSO.out.ln HSO.out.few (Wb.headB_le HSO.out))
     rw [hP2]
     have HP2 := Lib.hid hP2
     clear hsm hs9 hlm z0 z1 z2 hP2
     go_upto_region 19 with (fail)
     refine Code.wp_mono (OnEndX.imp ?_) (tl19 _ _ _ _ _ _ _ _ _ _ _ _ _ _ _ _ _ _ _ _ _ _ _ _ _ _ _ _ _ _ _ _ _ _ _ _ _ _ _ _ _ _ _ _ _ _ _ _ _ _ _ _ _ _ _ _ _ _ _ _ _ _ _ _ _ _ _ _ _ _ _ _ _ _ _ _ _ _ _ _ _ _ _ _ _ _ _ _ _ _ _ _ _ _ _ _ _ _ _ _ _ _ _ _ _ _ _ _ _ _ _ _ _ _ _ _ _ _ _ _ _ _ _ _ _ _ _ _ _ _ _ _ _ _ _ _ _ _ _ _ _ _ _ _ _ wM X sb so bc m r.back.length s.y s.i s.v P2 (Wb.linesT (Wb.headB s.y s.i) s.l) t4 t0 t1 t2 hmi by1 bi1 hl2 hbt HLB.out)
     rintro a' wN ⟨zt117, zt118, zt119, zt120, zt121, zt122, zt123, zt124, zt125, zt126, zt127, zt128, zt129, zt130, zt131, zt132, zt133, zt134, zt135, zt136, zt137, zt138, zt139, zt140, zt141, rfl, hxN⟩
     rw [← HP2.out, List.append_assoc, show Wb.backT ((r.back.map Wb.ct).take m) ++ Wb.linesT (Wb.headB s.y s.i) s.l = Wb.backT ((r.back.map Wb.ct).take (m + 1)) from (Wb.backT_snoc HSK.out).symm]
     have HXN := Lib.hid (HXM.out.trans hxN)
     clear hxN t0 t1 t2 t4 HLB hbt hl2 by1 bi1
     (try dsimp only)
     go_wp2
     go_roundw
     case rel => exact ⟨m + 1, by omega, rfl, by go_num, HXN⟩
     case measure => first | (simp [intOf]; done) | (simp [intOf]; omega)
end Go.Proofs.YtnefdpnolojojaaGreatDoor
