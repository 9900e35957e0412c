/- The walk of RunAgain. -/
import Derived.Test.YtnefdpnolojojaaGreatAg8
import Derived.Test.YtnefdpnolojojaaGreatMAw
import Derived.Test.YtnefdpnolojojaaGreatMRf
import Derived.Test.YtnefdpnolojojaaGreatMRd
import Derived.Deep.RegionHeldLaw
namespace Go.Proofs.YtnefdpnolojojaaGreat
open Go.RowKit Go.Sort Go.Lib Go.Maps
set_option maxRecDepth 8000
attribute [local go_sem ↓] Go.wp_at_zero Go.wp_at_succ

/-- what stands at a round of the runs' loop: a book in box A -/
structure AgI (w : World) (A j : Nat) (wr : World) (ra : Option Addr) (rl rc : Nat) (mp mo : Option Nat) (B : Wb.Bk) (ks : List Int) (N : Nat) : Prop where
  a0 : wr.cell? ⟨A, 0, none⟩ = some (.slice ra rl rc)
  a1 : wr.cell? ⟨A, 1, none⟩ = some (.map mp)
  a2 : wr.cell? ⟨A, 2, none⟩ = some (.map mo)
  af : ∀ j, wr.frozen? ⟨A, j, none⟩ = false
  book : BkF (fun q => ¬ (q = A)) wr (.slice ra rl rc) mp mo B ks N
  ok : BkI j B ks N
  lt : A < wr.heap.size ∧ w.heap.size ≤ A
  ext : Wb.Ext w wr
theorem AgI.ext' {w : World} {A j : Nat} {wr w2 : World} {ra : Option Addr} {rl rc : Nat} {mp mo : Option Nat} {B : Wb.Bk} {ks : List Int} {N : Nat} (h : AgI w A j wr ra rl rc mp mo B ks N) (k : Wb.Ext wr w2) : AgI w A j w2 ra rl rc mp mo B ks N :=
  ⟨k.keep h.a0, k.keep h.a1, k.keep h.a2, (fun i => (k.cells.2 _ _ h.lt.1).trans (h.af i)), h.book.kept (.ext k), h.ok, ⟨Nat.lt_of_lt_of_le h.lt.1 k.size, h.lt.2⟩, h.ext.trans k⟩
theorem AgI.up {w : World} {A j : Nat} {wr : World} {ra : Option Addr} {rl rc : Nat} {mp mo : Option Nat} {B : Wb.Bk} {ks : List Int} {N : Nat} (h : AgI w A j wr ra rl rc mp mo B ks N) : AgI w A (j + 1) wr ra rl rc mp mo B ks N :=
  ⟨h.a0, h.a1, h.a2, h.af, h.book, h.ok.up, h.lt, h.ext⟩
theorem did_law2 {P : Nat → Prop} {w0 WR W' W : World} {lo M j : Nat} {rv : Value} {mp mo : Option Nat} {B : Wb.Bk} {ks hs : List Int} {N : Nat} {HS : List HdM} {y i k : Int}
    (hb : BkF (fun q => ¬ P q) WR rv mp mo B ks N) (hi : BkI j B ks N) (hj : j ≤ 40) (hT : TabH w0 lo W' M HS) (h0R : w0.heap.size ≤ WR.heap.size) (hP : ∀ q, P q → w0.heap.size ≤ q ∧ q < WR.heap.size)
    (hRW : Wb.Ext WR W) (hTW : Wb.Ext W' W) (hk : KeysAre kU32 (fH HS) hs) (hr : hs.Pairwise (· ≤ ·)) (hl : HS.length ≤ 20) (hhl : hs.length ≤ HS.length) (hS : ∀ p, (SH HS p).length ≤ 60) :
    Calls Tryz.prog 12 #[BkV rv mp mo, .int .i64 y, .int .i64 i, .int .i64 k, .map (some M)] W fun e w' => ∃ (ra : Option Addr) (rl rc : Nat) (mp' mo' : Option Nat) (B' : Wb.Bk) (n1 y1 i1 k1 : Int) (qa : Option Addr) (qc : Nat) (rows : List RwM) (E : Int), e = .returned (.tuple #[BkV (.slice ra rl rc) mp' mo', RnV n1 y1 i1 k1 (.slice qa rows.length qc), .int .i64 E]) ∧
      DidF (fun q => q < W.heap.size → Ok0 P WR.heap.size lo W'.heap.size q) w' (.slice ra rl rc) mp' mo' B B' y i k (SH HS) hs ks N ⟨n1, y1, i1, k1, .slice qa rows.length qc, rows⟩ E ∧ BkI (j + 1) B' (ks ++ hs) (N + ks.length + hs.length) ∧ Wb.Ext W w' := by
  have h1 : BkF (Ok0 P WR.heap.size lo W'.heap.size) W rv mp mo B ks N := (hb.mono (fun q h1 h2 => .inl ⟨h2, h1⟩)).kept (.ext hRW)
  have h2 : SMapF (Ok0 P WR.heap.size lo W'.heap.size) W (some M) HS.length (fH HS) (SH HS) := (SMapF.mono hT (fun q h1 h2 => by
    by_cases e : q < lo
    · have := h2 e
      refine .inl ⟨fun h => ?_, by omega⟩
      have := hP q h; omega
    · exact .inr ⟨by omega, h1⟩)).kept (.ext hTW)
  have hlen := hi.len
  have hmany := hi.many
  have hkeys := hi.keys
  refine (do31_any (Ok0 P WR.heap.size lo W'.heap.size) rv mp mo (some M) HS.length (fH HS) (SH HS) B ks hs N y i k W h1 hi.ok hi.runs (by omega) (fun p => by have := hi.few p; omega) (by omega) (by omega) h2 (by omega) (by omega) hk hr (fun p => by have := hS p; omega)).mono ?_
  rintro e w' ⟨ps, rv', mp', mo', r, B', E, hw, hd, rfl, hb', hr', hx⟩
  obtain ⟨ra, rc, rfl⟩ := hb'.now.shape
  obtain ⟨qa, qc, hq⟩ := (hr' w' .refl).tab.shape
  obtain ⟨n1, y1, i1, k1, rv1, rows⟩ := r
  simp only at hq
  subst hq
  exact ⟨ra, _, rc, mp', mo', B', n1, y1, i1, k1, qa, qc, rows, E, rfl, ⟨⟨ps, hw, hd⟩, hb', hr'⟩, hi.step hj hw hd (by omega) hS, hx⟩
theorem TabH.kept {w0 W W2 : World} {lo M : Nat} {hs : List HdM} (h : TabH w0 lo W M hs) (k : Kept (fun q => q < lo → q < w0.heap.size) W W2) : TabH w0 lo W2 M hs := SMapF.kept h k
set_option maxHeartbeats 100000000 in
theorem again31_any (v : Value) (al : List AcM) (w : World) (h : ActsM w v al) (hz : FitA al) :
    Calls Tryz.prog 7 #[v] w fun e w' => e = .returned (.bool true) ∧ Wb.Ext w w' := by
  obtain ⟨va, vc, rfl⟩ := h.tab.shape
  have HA := Lib.hid h
  have HZ := Lib.hid hz
  clear h hz
  go_enter Tryz.func7, Tryz.ntmps7
  go_wp2_with fail
  go_fit (great31_any _ al _ (HA.out.ext (by (repeat' (first | (with_reducible assumption) | (with_reducible exact Wb.Ext.refl _) | (with_reducible refine Wb.Ext.drew ?_) | (with_reducible refine Wb.Ext.drewN ?_ _) | (with_reducible refine Wb.Ext.alloc ?_ _) | (with_reducible refine Wb.Ext.trans ?_ (by assumption)))))) HZ.out); rintro e w1 ⟨g, rfl, hg, hx1⟩
  have HX1 := Lib.hid (show Wb.Ext w w1 by (repeat' (first | (with_reducible assumption) | (with_reducible exact Wb.Ext.refl _) | (with_reducible refine Wb.Ext.drew ?_) | (with_reducible refine Wb.Ext.drewN ?_ _) | (with_reducible refine Wb.Ext.alloc ?_ _) | (with_reducible refine Wb.Ext.trans ?_ (by assumption)))))
  clear hx1
  cases g
  case true =>
    clear hg
    go_wp2_with fail
    go_fit (awake31_any _); rintro e wz2 ⟨rfl, hz2⟩
    have HZ2 := Lib.hid (show Wb.Ext w wz2 from HX1.out.trans (by (repeat' (first | (with_reducible assumption) | (with_reducible exact Wb.Ext.refl _) | (with_reducible refine Wb.Ext.drew ?_) | (with_reducible refine Wb.Ext.drewN ?_ _) | (with_reducible refine Wb.Ext.alloc ?_ _) | (with_reducible refine Wb.Ext.trans ?_ (by assumption))))))
    clear hz2
    go_wp2
    exact bodyPost_ret (v := .bool true) (by simp [results, Tryz.results7, go_sem]) rfl ⟨rfl, HZ2.out⟩

  case false =>
  have HSM := Lib.hid (hg rfl)
  clear hg
  have hal := HSM.out.1
  go_upto_region 4 with (fail)
  refine Wb.wp_at fun WB hWB => ?_
  obtain ⟨A, hA⟩ : ∃ A, w1.heap.size = A := ⟨_, rfl⟩
  have HI : Hid (AgI w A 0 WB none 0 0 none none Wb.noBk [] 0) := Lib.hid (by
    have hs := HX1.out.size
    exact ⟨by rw [hWB, ← hA]; simp [go_sem], by rw [hWB, ← hA]; simp [go_sem], by rw [hWB, ← hA]; simp [go_sem], fun j => by rw [hWB, ← hA]; simp [go_sem], bk_none _ _, bki_none, ⟨by rw [hWB, ← hA]; simp, by omega⟩, HX1.out.trans (by rw [hWB]; (repeat' (first | (with_reducible assumption) | (with_reducible exact Wb.Ext.refl _) | (with_reducible refine Wb.Ext.drew ?_) | (with_reducible refine Wb.Ext.drewN ?_ _) | (with_reducible refine Wb.Ext.alloc ?_ _) | (with_reducible refine Wb.Ext.trans ?_ (by assumption)))))⟩)
  rw [hA]
  clear hWB hA
  go_wp2_with fail
  go_loopw [4] (fun iv wr => ∃ (j : Nat) (ra : Option Addr) (rl rc : Nat) (mp mo : Option Nat) (B : Wb.Bk) (ks : List Int) (N : Nat), j ≤ al.length ∧ iv = .int .i64 j ∧ Hid (AgI w A j wr ra rl rc mp mo B ks N)) (fun iv _ => al.length - (intOf iv).toNat)
  case atStart => exact ⟨0, none, 0, 0, none, none, Wb.noBk, [], 0, Nat.zero_le _, rfl, HI⟩
  case round =>
    clear HI
    obtain ⟨j, ra, rl, rc, mp, mo, B, ks, N, hj, rfl, HI⟩ := hrel
    obtain ⟨wO, hwz⟩ : ∃ z, z = wr := ⟨_, rfl⟩
    subst hwz
    have hlow := HI.out.lt
    by_cases hlt : j < al.length
    case neg =>
      have d1 : decide ((j : Int) < (al.length : Int)) = false := by simp; omega
      have n1 : ¬ (j : Int) < (al.length : Int) := by omega
      clear hlt
      go_wp2_with fail
      go_fit (awake31_any _); rintro e wz3 ⟨rfl, hz3⟩
      have HZ3 := Lib.hid (show Wb.Ext w wz3 from HI.out.ext.trans (by (repeat' (first | (with_reducible assumption) | (with_reducible exact Wb.Ext.refl _) | (with_reducible refine Wb.Ext.drew ?_) | (with_reducible refine Wb.Ext.drewN ?_ _) | (with_reducible refine Wb.Ext.alloc ?_ _) | (with_reducible refine Wb.Ext.trans ?_ (by assumption))))))
      clear hz3
      go_wp2
      exact bodyPost_ret (v := .bool true) (by simp [results, Tryz.results7, go_sem]) rfl ⟨rfl, HZ3.out⟩
    obtain ⟨a, ha⟩ := Wb.get_ex hlt
    have hmem := List.mem_of_getElem? ha
    have hHW := HA.out.each a hmem
    obtain ⟨xa, xc, hav⟩ := hHW.tab.shape
    obtain ⟨b, off, hb, hc⟩ := HA.out.tab.opened (by rintro rfl; simp at ha)
    obtain rfl : va = some ⟨b, off, none⟩ := hb
    have c0 := HI.out.ext.keep (hc j a ha 0 _ rfl)
    have c1 := HI.out.ext.keep (hc j a ha 1 _ rfl)
    have c2 := HI.out.ext.keep (hc j a ha 2 _ rfl)
    have c3 := HI.out.ext.keep (hc j a ha 3 (.slice xa a.hs.length xc) (by rw [← hav]; rfl))
    rw [Nat.add_zero] at c0
    have hbA : b ≠ A := by
      have h1 := Wb.cell_size (hc j a ha 0 _ rfl)
      have h2 : b < w.heap.size := h1
      omega
    have hji : (j : Int) < al.length := by omega
    have d1 : decide ((j : Int) < (al.length : Int)) = true := by simp; omega
    have hsa := HSM.out.2 a hmem
    have HSA := Lib.hid hsa.2
    have hsl := hsa.1
    have HH := Lib.hid (show HdsM w (.slice xa a.hs.length xc) a.hs by rw [← hav]; exact hds_small hHW hsa.2)
    obtain ⟨hs, hk1, hk2, hk3⟩ := keysH_of (fun x hx => (hHW.each x hx).2)
    have HK1 := Lib.hid hk1
    clear ha hmem hHW hav hc hsa hlt
    go_wp2_with fail
    go_fit (tab_law HH.out hsl HI.out.ext); rintro e w7 ⟨M, rfl, hT, hM1, hM2, hx7⟩
    have HT7 := Lib.hid hT
    have hs7 := hx7.size
    have l0 : ∀ x, Wb.Ext w7 x → x.cell? ⟨b, off + j * 4, none⟩ = some (.int .i64 a.y) := fun x k => (hx7.trans k).keep c0
    have l1 : ∀ x, Wb.Ext w7 x → x.cell? ⟨b, off + j * 4 + 1, none⟩ = some (.int .i64 a.i) := fun x k => (hx7.trans k).keep c1
    have l2 : ∀ x, Wb.Ext w7 x → x.cell? ⟨b, off + j * 4 + 2, none⟩ = some (.int .i64 a.k) := fun x k => (hx7.trans k).keep c2
    have k0 : ∀ x, Wb.Ext w7 x → x.cell? ⟨A, 0, none⟩ = some (.slice ra rl rc) := fun x k => (hx7.trans k).keep HI.out.a0
    have k1 : ∀ x, Wb.Ext w7 x → x.cell? ⟨A, 1, none⟩ = some (.map mp) := fun x k => (hx7.trans k).keep HI.out.a1
    have k2 : ∀ x, Wb.Ext w7 x → x.cell? ⟨A, 2, none⟩ = some (.map mo) := fun x k => (hx7.trans k).keep HI.out.a2
    have HX7 := Lib.hid hx7
    have HDO := Lib.hid (show ∀ W, Wb.Ext w7 W → Calls Tryz.prog 12 #[.agg #[.slice ra rl rc, .map mp, .map mo], .int .i64 a.y, .int .i64 a.i, .int .i64 a.k, .map (some M)] W fun e w' => ∃ (ra' : Option Addr) (rl' rc' : Nat) (mp' mo' : Option Nat) (B' : Wb.Bk) (n1 y1 i1 k1 : Int) (qa : Option Addr) (qc : Nat) (rows : List RwM) (E : Int) (nW : Nat), e = .returned (.tuple #[.agg #[.slice ra' rl' rc', .map mp', .map mo'], .agg #[.int .i64 n1, .int .i64 y1, .int .i64 i1, .int .i64 k1, .slice qa rows.length qc], .int .i64 E]) ∧
    nW = W.heap.size ∧ wO.heap.size ≤ nW ∧ Hid (DidF (fun q => q < nW → Ok0 (fun q => q = A) wO.heap.size wO.heap.size w7.heap.size q) w' (.slice ra' rl' rc') mp' mo' B B' a.y a.i a.k (SH a.hs) hs ks N ⟨n1, y1, i1, k1, .slice qa rows.length qc, rows⟩ E) ∧ Hid (BkI (j + 1) B' (ks ++ hs) (N + (ks).length + hs.length)) ∧ Wb.Ext W w' from fun W k => by
      refine (did_law (P := fun q => q = A) (j := j) HI.out.book HI.out.ok (by omega) HT7.out HI.out.ext.size (fun q hq => by omega) (Nat.le_refl _) (HX7.out.trans k) k HK1.out hk2 hsl hk3 (fun p => sh_few HSA.out p)).mono ?_
      rintro e w' ⟨ra', rl', rc', mp', mo', B', n1, y1, i1, k1, qa, qc, rows, E, rfl, h5, h6, h7⟩
      exact ⟨ra', rl', rc', mp', mo', B', n1, y1, i1, k1, qa, qc, rows, E, W.heap.size, rfl, rfl, (HX7.out.trans k).size, Lib.hid h5, Lib.hid h6, h7⟩)
    clear hT hx7
    go_upto_region 8 with (fail)
    refine Code.wp_mono (OnEnd.imp ?_) (ag8 _ _ _ _ _ _ _ _ _ _ _ _ _ _ _ _ _ _ _ _ _ _ _ _ _ _ _ _ _ _ _ _ _ _ _ _ _ _ _ _ _ _ _ _ _ _ _ _ _ _ _ _ _ _ _ _ _ _ _ _ _ _ _ _ _ _ _ _ _ _ _ _ _ _ _ _ _ _ _ _ _ _ _ _ _ _ _ _ _ _ _ _ _ _ _ _ _ _ _ _ _ _ _ _ _ _ _ _ _ _ _ _ _ _ _ _ _ _ _ _ _ _ _ _ _ _ _ _ _ _ _ _ _ _ _ _ _ _ _ _ _ _ _ _ _ _ _ _ _ _ _ _ _ w w7 wO.heap.size wO.heap.size w7.heap.size M b off vc j al.length A ra rl rc N mp mo B ks hs a hlow.1 hs7 (Nat.le_refl _) hs7 hji hlow.1 l0 l1 l2 k0 k1 k2 HDO.out)
    rintro a' wc ⟨C, R, ra', rl', rc', mp', mo', Bq, n1, y1, i1, k9, qa, qc, rows, E, u31, u32, u33, u34, u35, u36, u37, u38, u39, u40, u41, u42, u43, u44, u45, u46, u47, u48, u49, u50, u51, u52, rfl, nC, nR, hI9, hD, e0, e1, e2, r4, hxD⟩
    (try dsimp only)
    obtain ⟨wD, hwz⟩ : ∃ z, z = wc := ⟨_, rfl⟩
    subst hwz
    have HD := Lib.hid hD
    have HXO := Lib.hid (HX7.out.trans hxD)
    clear hD HDO l0 l1 l2
    by_cases hE : E = 0
    case neg =>
      have g1 : (E == 0) = false := by simpa using hE
      have g2 : (E != 0) = true := by simpa using hE
      have HN := Lib.hid (HI.out.ext' HXO.out).up
      clear k0 k1 k2 hE c0 c1 c2 c3 hxD
      go_wp2
      go_roundw
      case rel => exact ⟨j + 1, ra, rl, rc, mp, mo, B, ks, N, by omega, by go_num, HN⟩
      case measure => first | (simp [intOf]; done) | (simp [intOf]; omega)
    subst hE
    replace k0 := k0 _ hxD
    replace k1 := k1 _ hxD
    replace k2 := k2 _ hxD
    have HT8 := Lib.hid (HT7.out.kept (.ext hxD))
    have af : ∀ i, wD.frozen? ⟨A, i, none⟩ = false := fun i => (HXO.out.cells.2 _ _ hlow.1).trans (HI.out.af i)
    have hCA : ¬ C = A := by omega
    have hAC : ¬ A = C := by omega
    replace c0 := HXO.out.keep c0
    replace c1 := HXO.out.keep c1
    replace c2 := HXO.out.keep c2
    clear hxD c3
    go_upto_region 11 with (fail)
    refine Wb.wp_at fun wA hwA => ?_
    have hkA : Kept (fun q => q ≠ A) wD wA := by
      rw [hwA]
      exact ((Kept.refl.setj (fun h => h rfl)).setj (fun h => h rfl)).setj (fun h => h rfl)
    have hxA : Wb.Ext w wA := by
      have h1 : Wb.Ext w wD := HI.out.ext.trans HXO.out
      have h2 := hlow.2
      rw [hwA]; (repeat' (first | (with_reducible assumption) | (with_reducible exact Wb.Ext.refl _) | (with_reducible refine Wb.Ext.drew ?_) | (with_reducible refine Wb.Ext.drewN ?_ _) | (with_reducible refine Wb.Ext.alloc ?_ _) | (with_reducible refine Wb.ext_set ?_ (by first | assumption | (simp; done) | (simp; omega) | omega) _) | (with_reducible refine Wb.Ext.trans ?_ (by assumption))))
    replace k0 : wA.cell? ⟨A, 0, none⟩ = some (.slice ra' rl' rc') := by rw [hwA]; simp [go_sem, k0]
    replace k1 : wA.cell? ⟨A, 1, none⟩ = some (.map mp') := by rw [hwA]; simp [go_sem, k1]
    replace k2 : wA.cell? ⟨A, 2, none⟩ = some (.map mo') := by rw [hwA]; simp [go_sem, k2]
    replace af : ∀ i, wA.frozen? ⟨A, i, none⟩ = false := fun i => by rw [hwA]; simp [go_sem, af]
    replace c0 := hkA.cell hbA c0
    replace c1 := hkA.cell hbA c1
    replace c2 := hkA.cell hbA c2
    have HXA := Lib.hid hxA
    have HBH := Lib.hid (did_ok HD.out HI.out.ok)
    have hsA : wD.heap.size ≤ wA.heap.size := hkA.size
    have hsD : wO.heap.size ≤ wD.heap.size := HXO.out.size
    have HTA := Lib.hid (HT8.out.kept (hkA.mono fun q _ h e => by subst e; have := h hlow.1; omega))
    have HAI : Hid (AgI w A (j + 1) wA ra' rl' rc' mp' mo' Bq (ks ++ hs) (N + ks.length + hs.length)) := Lib.hid
      ⟨k0, k1, k2, af, HD.out.book.kept hkA, hI9.out, ⟨by omega, hlow.2⟩, hxA⟩
    have hms := (HTA.out.now).map
    clear hwA hkA hxA e0 e1 e2 r4
    go_wp2_with (first
      | (at_range; refine wpList_range_km (K := kU32) rfl _ 24 39 rfl Tryz.underlying24 (some M) a.hs.length (.slice none 0 0) (fH a.hs) rfl hms ?_; intro w0 cnt0 hrg0 hc0 hg0 hs0)
      | go_in)
    (try go_frame)
    obtain ⟨X, hX⟩ : ∃ X, wA.heap.size = X := ⟨_, rfl⟩
    rw [hX] at hrg0 ⊢
    have hAX : A < X := by have := HAI.out.lt.1; omega
    have hbX : b < X := by have h1 := Wb.cell_size c0; have h2 : b < wA.heap.size := h1; omega
    have hxR : Wb.Ext wA w0 := ⟨hg0.os, hg0.tape, hg0.output, hg0.size, fun k hk => hg0.block k hk (by simp)⟩
    have HRG0 := Lib.hid hrg0
    have HA0 := Lib.hid (HAI.out.ext' hxR)
    have HBX := Lib.hid ((BkF.mono HAI.out.book (G := fun q => ¬ q = A ∧ q < X) (fun q h1 h2 => ⟨h2, by omega⟩)).kept (.ext hxR))
    have HTX := Lib.hid ((SMapF.mono HTA.out (G := fun q => (q < wO.heap.size → q < w.heap.size) ∧ q < X) (fun q h1 h2 => ⟨h2, by omega⟩)).kept (.ext hxR))
    have c0 := hxR.keep c0
    have c1 := hxR.keep c1
    have c2 := hxR.keep c2
    have hsX : X ≤ w0.heap.size := by have := hxR.size; omega
    have HAF := Lib.hid (show ∀ wr, Kept (fun q => q ≠ X) w0 wr → AgI w A (j + 1) wr ra' rl' rc' mp' mo' Bq (ks ++ hs) (N + ks.length + hs.length) from fun wr hk => by
      have hh := HA0.out
      exact ⟨hk.cell (by omega) hh.a0, hk.cell (by omega) hh.a1, hk.cell (by omega) hh.a2, fun i => hk.frozen (by omega) hh.lt.1 (hh.af i), (HBX.out.kept (hk.mono fun q _ h e => by have := h.2; omega)).mono (fun q _ h => h.1), hh.ok, ⟨by have := hk.size; have := hh.lt.1; omega, hh.lt.2⟩, hk.old hh.ext (fun i hi => by have := hh.lt; omega)⟩)
    have hoX : wO.heap.size ≤ X := by omega
    clear hrg0 hs0 hX hms hg0 hxR HAI HTA k0 k1 k2 af
    go_loopw [69] (fun _ wr => ∃ (cnt : Nat) (s2 : List Int), Hid (KRng kU32 wr (some M) X a.hs.length (.slice none 0 0) (fH a.hs) s2 cnt) ∧ s2.length + cnt ≤ a.hs.length ∧ Hid (Kept (fun q => q ≠ X) w0 wr)) (fun _ wr => kLeft (some M) X wr)
    case atStart => exact ⟨cnt0, [], HRG0, by simpa using hc0, Lib.hid .refl⟩
    case round =>
      clear HRG0
      obtain ⟨cnt, s2, HRG, hcs, HKX⟩ := hrel
      obtain ⟨wI, hwz⟩ : ∃ z, z = wr := ⟨_, rfl⟩
      subst hwz
      have hrg := HRG.out
      have HAg := Lib.hid (HAF.out wI HKX.out)
      go_wp2_with (first
        | (at_next; refine wpList_next_km (K := kU32) rfl _ rfl rfl hrg ?_ ?_)
        | go_in)
      · intro hall
        have HTI : Hid (TabH w wO.heap.size wI M a.hs) := Lib.hid ((HTX.out.kept (HKX.out.mono fun q _ h e => by have := h.2; omega)).mono (fun q _ h => h.1))
        have hlI := HAg.out.lt
        replace c0 := HKX.out.cell (by omega) c0
        replace c1 := HKX.out.cell (by omega) c1
        replace c2 := HKX.out.cell (by omega) c2
        have hsI := HKX.out.size
        clear hall hrg HRG hcs HA0 HBX HTX HKX HAF
        (try go_frame)
        by_cases h400 : 400 ≤ a.i
        · have d4 : decide ((400 : Int) ≤ a.i) = true := by simpa using h400
          clear h400
          go_wp2
          go_roundw
          case rel => exact ⟨j + 1, ra', rl', rc', mp', mo', Bq, ks ++ hs, N + ks.length + hs.length, by omega, by go_num, HAg⟩
          case measure => first | (simp [intOf]; done) | (simp [intOf]; omega)
        have d4 : decide ((400 : Int) ≤ a.i) = false := by simp; omega
        have hok9 := Wb.do_ok (HD.out.did.choose_spec.2)
        have hhd := Wb.head_ok hok9.head
        have hwi : IntKind.i64.wrap (a.i + 1) = a.i + 1 := IntWalk.i64_in _ (by omega)
        have l0 : ∀ x, Wb.Ext wI x → x.cell? ⟨b, off + j * 4, none⟩ = some (.int .i64 a.y) := fun x k => k.keep c0
        have l1 : ∀ x, Wb.Ext wI x → x.cell? ⟨b, off + j * 4 + 1, none⟩ = some (.int .i64 a.i) := fun x k => k.keep c1
        have l2 : ∀ x, Wb.Ext wI x → x.cell? ⟨b, off + j * 4 + 2, none⟩ = some (.int .i64 a.k) := fun x k => k.keep c2
        have k0 : ∀ x, Wb.Ext wI x → x.cell? ⟨A, 0, none⟩ = some (.slice ra' rl' rc') := fun x k => k.keep HAg.out.a0
        have k1 : ∀ x, Wb.Ext wI x → x.cell? ⟨A, 1, none⟩ = some (.map mp') := fun x k => k.keep HAg.out.a1
        have k2 : ∀ x, Wb.Ext wI x → x.cell? ⟨A, 2, none⟩ = some (.map mo') := fun x k => k.keep HAg.out.a2
        have HDO := Lib.hid (show ∀ W, Wb.Ext wI W → Calls Tryz.prog 12 #[.agg #[.slice ra' rl' rc', .map mp', .map mo'], .int .i64 a.y, .int .i64 (a.i + 1), .int .i64 a.k, .map (some M)] W fun e w' => ∃ (ra' : Option Addr) (rl' rc' : Nat) (mp' mo' : Option Nat) (B' : Wb.Bk) (n1 y1 i1 k1 : Int) (qa : Option Addr) (qc : Nat) (rows : List RwM) (E : Int) (nW : Nat), e = .returned (.tuple #[.agg #[.slice ra' rl' rc', .map mp', .map mo'], .agg #[.int .i64 n1, .int .i64 y1, .int .i64 i1, .int .i64 k1, .slice qa rows.length qc], .int .i64 E]) ∧
    nW = W.heap.size ∧ wI.heap.size ≤ nW ∧ Hid (DidF (fun q => q < nW → Ok0 (fun q => q = A) wI.heap.size wO.heap.size wI.heap.size q) w' (.slice ra' rl' rc') mp' mo' Bq B' a.y (a.i + 1) a.k (SH a.hs) hs (ks ++ hs) (N + ks.length + hs.length) ⟨n1, y1, i1, k1, .slice qa rows.length qc, rows⟩ E) ∧ Hid (BkI ((j + 1) + 1) B' ((ks ++ hs) ++ hs) ((N + ks.length + hs.length) + ((ks ++ hs)).length + hs.length)) ∧ Wb.Ext W w' from fun W k => by
          refine (did_law2 (P := fun q => q = A) (j := j + 1) HAg.out.book HAg.out.ok (by omega) HTI.out HAg.out.ext.size (fun q hq => by omega) k k HK1.out hk2 hsl hk3 (fun p => sh_few HSA.out p)).mono ?_
          rintro e w' ⟨ra2, rl2, rc2, mp2, mo2, B2, n2, y2, i2, k2, qa2, qc2, rows2, E2, rfl, h5, h6, h7⟩
          exact ⟨ra2, rl2, rc2, mp2, mo2, B2, n2, y2, i2, k2, qa2, qc2, rows2, E2, W.heap.size, rfl, rfl, k.size, Lib.hid h5, Lib.hid h6, h7⟩)
        clear hok9 hhd h400
        go_upto_region 17 with (fail)
        refine Code.wp_mono (OnEnd.imp ?_) (ag17 _ _ _ _ _ _ _ _ _ _ _ _ _ _ _ _ _ _ _ _ _ _ _ _ _ _ _ _ _ _ _ _ _ _ _ _ _ _ _ _ _ _ _ _ _ _ _ _ _ _ _ _ _ _ _ _ _ _ _ _ _ _ _ _ _ _ _ _ _ _ _ _ _ _ _ _ _ _ _ _ _ _ _ _ _ _ _ _ _ _ _ _ _ _ _ _ _ _ _ _ _ _ _ _ _ _ _ _ _ _ _ _ _ _ _ _ _ _ _ _ _ _ _ _ _ _ _ _ _ _ _ _ _ _ _ _ _ _ _ _ _ _ _ _ _ _ _ _ _ _ _ _ _ w wI wI.heap.size wO.heap.size wI.heap.size M b off vc j al.length A ra' rl' rc' (N + ks.length + hs.length) mp' mo' Bq (ks ++ hs) hs a hlow.1 (Nat.le_refl _) (Nat.le_refl _) (by omega) hji hlI.1 hwi l0 l1 l2 k0 k1 k2 HDO.out)
        rintro a' wc ⟨C2, R2, ra2, rl2, rc2, mp2, mo2, B2, n2, y2, i2, kk2, qa2, qc2, rows2, E2, u76, u77, u78, u79, u80, u81, u82, u83, u84, u85, u86, u87, u88, u89, u90, u91, u92, u93, u94, u95, u96, u97, u98, rfl, nC2, nR2, hI2, hD2, e0, e1, e2, r4, hxE⟩
        (try dsimp only)
        obtain ⟨wE, hwz⟩ : ∃ z, z = wc := ⟨_, rfl⟩
        subst hwz
        have HD2 := Lib.hid hD2
        have HAE := Lib.hid (HAg.out.ext' hxE)
        clear hD2 HDO l0 l1 l2 k0 k1 k2 c0 c1 c2 hwi hxE
        by_cases hE : E2 = 0
        case neg =>
          have g1 : (E2 == 0) = false := by simpa using hE
          have g2 : (E2 != 0) = true := by simpa using hE
          clear hE e0 e1 e2 r4
          go_wp2
          go_roundw
          case rel => exact ⟨j + 1, ra', rl', rc', mp', mo', Bq, ks ++ hs, N + ks.length + hs.length, by omega, by go_num, HAE⟩
          case measure => first | (simp [intOf]; done) | (simp [intOf]; omega)
        subst hE
        have HAR : Hid ((∀ r ∈ rows2.map RwM.c, Wb.Again Bq r) ∧ ∀ p, B2.paid p = Bq.paid p) := Lib.hid (by
          obtain ⟨ps, h1, h2⟩ := HD2.out.did
          exact Wb.again_rows HAg.out.ok.ok HBH.out.paid HBH.out.right h1 h2)
        have HOKP := Lib.hid (row_ok HAg.out.book (fun x hx => (HH.out.each x hx).2) (did_ok HD2.out HAg.out.ok))
        have hrl := ((HD2.out.rows wE .refl).many : rows2.length ≤ 100000)
        have a0 := HAE.out.a0
        have a1 := HAE.out.a1
        have a2 := HAE.out.a2
        go_wp2_with fail
        go_loopw [14] (fun iv wr => ∃ k : Nat, k ≤ rows2.length ∧ iv = .int .i64 k ∧ Hid (Wb.Ext wE wr)) (fun iv _ => rows2.length - (intOf iv).toNat)
        case atStart => exact ⟨0, Nat.zero_le _, rfl, Lib.hid (.refl _)⟩
        case round =>
          obtain ⟨k, hk, rfl, HXK⟩ := hrel
          obtain ⟨wK, hwz⟩ : ∃ z, z = wr := ⟨_, rfl⟩
          subst hwz
          have a0 := HXK.out.keep a0
          have a1 := HXK.out.keep a1
          have a2 := HXK.out.keep a2
          have r4 := HXK.out.keep r4
          have e0 := HXK.out.keep e0
          have e1 := HXK.out.keep e1
          have e2 := HXK.out.keep e2
          by_cases hlk9 : k < rows2.length
          case neg =>
            obtain rfl : k = rows2.length := by omega
            have d3 : decide ((rows2.length : Int) < (rows2.length : Int)) = false := by simp
            have HAN := Lib.hid (HAE.out.ext' HXK.out)
            clear hlk9 hk
            go_wp2
            go_roundw
            case rel => exact ⟨j + 1, ra', rl', rc', mp', mo', Bq, ks ++ hs, N + ks.length + hs.length, by omega, by go_num, HAN⟩
            case measure => first | (simp [intOf]; done) | (simp [intOf]; omega)
          obtain ⟨r, hr⟩ := Wb.get_ex hlk9
          have hmem := List.mem_of_getElem? hr
          have hRM := HD2.out.rows wK (.ext HXK.out)
          obtain ⟨rb, roff, hrb, hrc⟩ := hRM.tab.opened (by rintro rfl; simp at hr)
          obtain rfl : qa2 = some ⟨rb, roff, none⟩ := hrb
          have hcm : r.c ∈ rows2.map RwM.c := List.mem_map_of_mem hmem
          have hag := HAR.out.1 r.c hcm
          have hbk0 : r.back = [] := by have := hag.back; simpa [RwM.c] using this
          have hnw0 : r.now.l = [] := hag.now
          have hdu0 : r.due = 0 := hag.due
          have hpa0 : r.paid = 0 := hag.paid
          have how0 : r.owed = Bq.owed r.p := hag.owed
          obtain ⟨na, nc, hnv⟩ := (hRM.each r hmem).now.1.shape
          obtain ⟨va9, vc9, hbv⟩ := (hRM.each r hmem).back.1.shape
          rw [hnw0] at hnv
          rw [hbk0] at hbv
          have p0 := hrc k r hr 0 _ rfl
          have p1 := hrc k r hr 1 _ rfl
          have p2 := hrc k r hr 2 _ rfl
          have p3 := hrc k r hr 3 (.slice na 0 nc) (by rw [show rwc r = [.int .u32 r.p, .int .i64 r.now.y, .int .i64 r.now.i, r.now.v, r.bv, .int .i64 r.due, .int .i64 r.paid, .int .i64 r.owed] from rfl, hnv]; rfl)
          have p4 := hrc k r hr 4 (.slice va9 0 vc9) (by rw [show rwc r = [.int .u32 r.p, .int .i64 r.now.y, .int .i64 r.now.i, r.now.v, r.bv, .int .i64 r.due, .int .i64 r.paid, .int .i64 r.owed] from rfl, hbv]; rfl)
          have p5 := hrc k r hr 5 (.int .i64 0) (by rw [← hdu0]; rfl)
          have p6 := hrc k r hr 6 (.int .i64 0) (by rw [← hpa0]; rfl)
          have p7 := hrc k r hr 7 _ rfl
          rw [Nat.add_zero] at p0
          have hok : kU32.ok r.p := HOKP.out r.c hcm
          have HPQ : Hid (B2.paid r.p = Bq.paid r.p) := Lib.hid (HAR.out.2 r.p)
          obtain ⟨O, hO⟩ : ∃ O, r.owed = O := ⟨_, rfl⟩
          rw [hO] at how0 p7
          have HOO := Lib.hid how0
          have hnO : ((O : Int) != O) = false := by simp
          have d3 : decide ((k : Int) < (rows2.length : Int)) = true := by simp; omega
          have hki : (k : Int) < (rows2.length : Int) := by omega
          clear hrc hmem hRM hr hcm hag hbk0 hnw0 hdu0 hpa0 how0 hnv hbv hO
          go_upto_region 23 with (fail)
          refine Wb.wp_at fun w4 hw4 => ?_
          obtain ⟨X9, hX9⟩ : ∃ X9, wK.heap.size = X9 := ⟨_, rfl⟩
          have hx4 : Wb.Ext wK w4 := by rw [hw4]; (repeat' (first | (with_reducible assumption) | (with_reducible exact Wb.Ext.refl _) | (with_reducible refine Wb.Ext.drew ?_) | (with_reducible refine Wb.Ext.drewN ?_ _) | (with_reducible refine Wb.Ext.alloc ?_ _) | (with_reducible refine Wb.Ext.trans ?_ (by assumption))))
          have x0 : w4.cell? ⟨X9, 0, none⟩ = some (.int .u32 r.p) := by rw [hw4, ← hX9]; simp [go_sem]
          have x3 : w4.cell? ⟨X9, 3, none⟩ = some (.slice na 0 nc) := by rw [hw4, ← hX9]; simp [go_sem]
          have x4 : w4.cell? ⟨X9, 4, none⟩ = some (.slice va9 0 vc9) := by rw [hw4, ← hX9]; simp [go_sem]
          have x5 : w4.cell? ⟨X9, 5, none⟩ = some (.int .i64 0) := by rw [hw4, ← hX9]; simp [go_sem]
          have x6 : w4.cell? ⟨X9, 6, none⟩ = some (.int .i64 0) := by rw [hw4, ← hX9]; simp [go_sem]
          have x7 : w4.cell? ⟨X9, 7, none⟩ = some (.int .i64 O) := by rw [hw4, ← hX9]; simp [go_sem]
          have HX4 := Lib.hid (HXK.out.trans hx4)
          have y0 : ∀ x, Wb.Ext w4 x → x.cell? ⟨A, 0, none⟩ = some (.slice ra' rl' rc') := fun x h => (hx4.trans h).keep a0
          have y1 : ∀ x, Wb.Ext w4 x → x.cell? ⟨A, 1, none⟩ = some (.map mp') := fun x h => (hx4.trans h).keep a1
          have y2 : ∀ x, Wb.Ext w4 x → x.cell? ⟨A, 2, none⟩ = some (.map mo') := fun x h => (hx4.trans h).keep a2
          have z0 : ∀ x, Wb.Ext w4 x → x.cell? ⟨C2, 0, none⟩ = some (.slice ra2 rl2 rc2) := fun x h => (hx4.trans h).keep e0
          have z1 : ∀ x, Wb.Ext w4 x → x.cell? ⟨C2, 1, none⟩ = some (.map mp2) := fun x h => (hx4.trans h).keep e1
          have z2 : ∀ x, Wb.Ext w4 x → x.cell? ⟨C2, 2, none⟩ = some (.map mo2) := fun x h => (hx4.trans h).keep e2
          have v0 : ∀ x, Wb.Ext w4 x → x.cell? ⟨X9, 0, none⟩ = some (.int .u32 r.p) := fun x h => h.keep x0
          have v3 : ∀ x, Wb.Ext w4 x → x.cell? ⟨X9, 3, none⟩ = some (.slice na 0 nc) := fun x h => h.keep x3
          have v4 : ∀ x, Wb.Ext w4 x → x.cell? ⟨X9, 4, none⟩ = some (.slice va9 0 vc9) := fun x h => h.keep x4
          have v5 : ∀ x, Wb.Ext w4 x → x.cell? ⟨X9, 5, none⟩ = some (.int .i64 0) := fun x h => h.keep x5
          have v6 : ∀ x, Wb.Ext w4 x → x.cell? ⟨X9, 6, none⟩ = some (.int .i64 0) := fun x h => h.keep x6
          have v7 : ∀ x, Wb.Ext w4 x → x.cell? ⟨X9, 7, none⟩ = some (.int .i64 O) := fun x h => h.keep x7
          have HOW := Lib.hid (show ∀ W, Wb.Ext w4 W → Calls Tryz.prog 13 #[.agg #[.slice ra' rl' rc', .map mp', .map mo'], .int .u32 r.p] W fun e w' => e = .returned (.int .i64 O) ∧ Wb.Ext W w' from fun W h => by
            have := owed31_any _ mp' mo' Bq (ks ++ hs) (N + ks.length + hs.length) r.p hok _ (HAE.out.book.now.ext (HX4.out.trans h))
            rw [← HOO.out] at this; exact this)
          have hfew : (Bq.paid r.p).length ≤ 60 := HAE.out.ok.few r.p
          have HPA := Lib.hid (show ∀ W, Wb.Ext w4 W → Calls Tryz.prog 15 #[.agg #[.slice ra' rl' rc', .map mp', .map mo'], .int .u32 r.p] W fun e w' => ∃ (ua : Option Addr) (uc : Nat) (D : List Wb.Sl), e = .returned (.slice ua D.length uc) ∧ Hid (Sls w' (.slice ua D.length uc) D ∧ D.map Wb.ct = Bq.paid r.p) ∧ Wb.Ext W w' from fun W h => by
            refine (paid31_any _ mp' mo' Bq (ks ++ hs) (N + ks.length + hs.length) r.p hok _ (HAE.out.book.now.ext (HX4.out.trans h))).mono ?_
            rintro e w' ⟨u, D, rfl, h1, h2, -, h3⟩
            obtain ⟨ua, uc, rfl⟩ := h1.shape
            exact ⟨ua, uc, D, rfl, Lib.hid ⟨h1.sls, h2⟩, h3⟩)
          have HPC := Lib.hid (show ∀ W, Wb.Ext w4 W → Calls Tryz.prog 15 #[.agg #[.slice ra2 rl2 rc2, .map mp2, .map mo2], .int .u32 r.p] W fun e w' => ∃ (ua : Option Addr) (uc : Nat) (D : List Wb.Sl), e = .returned (.slice ua D.length uc) ∧ Hid (Sls w' (.slice ua D.length uc) D ∧ D.map Wb.ct = Bq.paid r.p) ∧ Wb.Ext W w' from fun W h => by
            refine (paid31_any _ mp2 mo2 B2 (ks ++ hs ++ hs) (N + ks.length + hs.length + (ks ++ hs).length + hs.length) r.p hok _ (HD2.out.book.now.ext (HX4.out.trans h))).mono ?_
            rintro e w' ⟨u, D, rfl, h1, h2, -, h3⟩
            obtain ⟨ua, uc, rfl⟩ := h1.shape
            exact ⟨ua, uc, D, rfl, Lib.hid ⟨h1.sls, h2.trans HPQ.out⟩, h3⟩)
          have HXN := Lib.hid (HXK.out.trans hx4)
          rw [hX9]
          clear hw4 hX9 hx4 x0 x3 x4 x5 x6 x7 a0 a1 a2 r4 e0 e1 e2 p0 p1 p2 p3 p4 p5 p6 p7
          go_region_held_law (fun x => Wb.Ext w4 x) ((repeat' (first | (with_reducible assumption) | (with_reducible exact Wb.Ext.refl _) | (with_reducible refine Wb.Ext.drew ?_) | (with_reducible refine Wb.Ext.drewN ?_ _) | (with_reducible refine Wb.Ext.alloc ?_ _) | (with_reducible refine Wb.Ext.trans ?_ (by assumption))))) (first
            | (go_at_call 13; refine (HOW.out _ (by (repeat' (first | (with_reducible assumption) | (with_reducible exact Wb.Ext.refl _) | (with_reducible refine Wb.Ext.drew ?_) | (with_reducible refine Wb.Ext.drewN ?_ _) | (with_reducible refine Wb.Ext.alloc ?_ _) | (with_reducible refine Wb.Ext.trans ?_ (by assumption)))))).mono ?_; rintro e w8 ⟨rfl, hx8⟩)
            | (go_at_call 15; refine (HPC.out _ (by (repeat' (first | (with_reducible assumption) | (with_reducible exact Wb.Ext.refl _) | (with_reducible refine Wb.Ext.drew ?_) | (with_reducible refine Wb.Ext.drewN ?_ _) | (with_reducible refine Wb.Ext.alloc ?_ _) | (with_reducible refine Wb.Ext.trans ?_ (by assumption)))))).mono ?_; rintro e wp ⟨ua, uc, D, rfl, hDD, hxp⟩)
            | (go_at_call 15; refine (HPA.out _ (by (repeat' (first | (with_reducible assumption) | (with_reducible exact Wb.Ext.refl _) | (with_reducible refine Wb.Ext.drew ?_) | (with_reducible refine Wb.Ext.drewN ?_ _) | (with_reducible refine Wb.Ext.alloc ?_ _) | (with_reducible refine Wb.Ext.trans ?_ (by assumption)))))).mono ?_; rintro e wq ⟨ub, ud, F, rfl, hFF, hxq⟩)
            | (go_at_call 24; refine (all31_eq _ _ D F _ (hDD.out.1.ext (by (repeat' (first | (with_reducible assumption) | (with_reducible exact Wb.Ext.refl _) | (with_reducible refine Wb.Ext.drew ?_) | (with_reducible refine Wb.Ext.drewN ?_ _) | (with_reducible refine Wb.Ext.alloc ?_ _) | (with_reducible refine Wb.Ext.trans ?_ (by assumption)))))) (hFF.out.1.ext (by (repeat' (first | (with_reducible assumption) | (with_reducible exact Wb.Ext.refl _) | (with_reducible refine Wb.Ext.drew ?_) | (with_reducible refine Wb.Ext.drewN ?_ _) | (with_reducible refine Wb.Ext.alloc ?_ _) | (with_reducible refine Wb.Ext.trans ?_ (by assumption)))))) (hDD.out.2.trans hFF.out.2.symm) (by have := congrArg List.length hDD.out.2; rw [List.length_map] at this; omega)).mono ?_; rintro e ws ⟨rfl, hxs⟩))
          all_goals
            go_wp2
            go_roundw
            case rel => exact ⟨k + 1, by omega, by go_num, Lib.hid (HXN.out.trans (by (repeat' (first | (with_reducible assumption) | (with_reducible exact Wb.Ext.refl _) | (with_reducible refine Wb.Ext.drew ?_) | (with_reducible refine Wb.Ext.drewN ?_ _) | (with_reducible refine Wb.Ext.alloc ?_ _) | (with_reducible refine Wb.Ext.trans ?_ (by assumption))))))⟩
            case measure => first | (simp [intOf]; done) | (simp [intOf]; omega)
      · intro x v w2 cnt2 hok hfx hnr hrg2 hlt hg2 hs2 hen
        have hkX : Kept (fun q => q ≠ X) w0 w2 := HKX.out.trans (.grown hg2 (fun q e _ h => by cases e; exact h rfl))
        have HA2 := Lib.hid (HAF.out w2 hkX)
        obtain ⟨Lx, hLh, hLc⟩ := HTX.out.each x
        rw [hfx] at hLh
        have hLs := hLh w2 (hkX.mono fun q _ h e => by have := h.2; omega)
        obtain ⟨ea, ec, hev⟩ := slsK_shape hLs
        simp only [Option.getD_some] at hLs hev
        subst hev
        have HLS := Lib.hid hLs
        have HLC := Lib.hid hLc
        replace hen : (Instr.entry (.pointer (some ⟨X, 0, none⟩))).run Tryz.prog w2 = .ok (.tuple #[.int .u32 x, .slice ea Lx.length ec]) w2 := hen
        have a0 := HA2.out.a0
        have a1 := HA2.out.a1
        have a2 := HA2.out.a2
        have HKX2 := Lib.hid hkX
        have HRG2 := Lib.hid hrg2
        have hl0 : kLeft (some M) X wI = cnt := HRG.out.left
        have hlen2 : s2.length + 1 + cnt2 ≤ a.hs.length := by omega
        clear hkX hLh hLs hLc hg2 hs2 hrg2 hfx hnr hrg
        (try go_frame)
        go_wp2_with fail
        go_fit (paid31_any _ mp' mo' Bq (ks ++ hs) (N + ks.length + hs.length) x hok _ HA2.out.book.now); rintro e w3 ⟨u, D, rfl, hD3, hDc, -, hx3⟩
        obtain ⟨ua, uc, rfl⟩ := hD3.shape
        have HDD := Lib.hid hD3.sls
        have HDC := Lib.hid hDc
        have HX3 := Lib.hid hx3
        clear hD3 hDc hx3
        go_wp2_with fail
        go_fit (full31_any _ Lx _ (HLS.out.ext HX3.out)); rintro e w4 ⟨u, F, rfl, hF4, hFc, hx4⟩
        obtain ⟨ub, ud, rfl⟩ := hF4.shape
        have HFF := Lib.hid hF4.sls
        have HFC := Lib.hid hFc
        have HX4 := Lib.hid hx4
        have HLEN : Hid (D.length ≤ 100000) := Lib.hid (by
          have h1 := HA2.out.ok.few x
          rw [← HDC.out, List.length_map] at h1; omega)
        clear hF4 hFc hx4
        go_wp2_with fail
        go_fit (all31_eq _ _ D F _ (HDD.out.ext HX4.out) HFF.out (by rw [HDC.out, HFC.out, HLC.out, HBH.out.paid]) HLEN.out); rintro e w5 ⟨rfl, hx5⟩
        have HX5 := Lib.hid (HX3.out.trans (HX4.out.trans hx5))
        have HKN := Lib.hid (HKX2.out.trans (.ext HX5.out))
        have HRGN := Lib.hid (HRG2.out.ext HX5.out)
        clear hx5
        go_wp2
        go_roundw
        case rel => exact ⟨cnt2, s2 ++ [x], HRGN, by simp; omega, HKN⟩
        case measure => rw [HRGN.out.left, hl0]; exact hlt
end Go.Proofs.YtnefdpnolojojaaGreat
