/- The walk of TopRuns. -/
import Derived.Test.YtnefdpnolojojaaGreatTp4
import Derived.Test.YtnefdpnolojojaaGreatPlainT3
import Derived.Test.YtnefdpnolojojaaGreatDel11
import Derived.Test.YtnefdpnolojojaaGreatMRb
namespace Go.Proofs.YtnefdpnolojojaaGreat
open Go.RowKit Go.Sort Go.Lib Go.Maps
set_option maxRecDepth 8000
attribute [local go_sem ↓] Go.wp_at_zero Go.wp_at_succ

set_option maxHeartbeats 16000000 in
theorem topruns_any (v : Value) (L : List Wb.Cl) (n : Nat) (hn : n < 256) (w : World) (h : ClsM w v L) :
    Calls Tryz.prog 3 #[v, .int .u8 n] w fun e w' => e = .returned (.bool true) ∧ Wb.Ext w w' := by
  obtain ⟨va, vc, rfl⟩ := h.tab.shape
  have HL := Lib.hid h
  clear h
  by_cases hl : L.length ≤ 60
  case neg =>
    have d0 : decide ((60 : Int) < (L.length : Int)) = true := decide_eq_true (by omega)
    clear hl
    go_enter Tryz.func3, Tryz.ntmps3
    go_wp2
    exact bodyPost_ret (v := .bool true) (by simp [results, Tryz.results3, go_sem]) rfl ⟨rfl, by (repeat' (first | (with_reducible assumption) | (with_reducible exact Wb.Ext.refl _) | (with_reducible refine Wb.Ext.drew ?_) | (with_reducible refine Wb.Ext.drewN ?_ _) | (with_reducible refine Wb.Ext.alloc ?_ _) | (with_reducible refine Wb.Ext.trans ?_ (by assumption))))⟩
  have d0 : decide ((60 : Int) < (L.length : Int)) = false := decide_eq_false (by omega)
  have d0n : ¬ (60 : Int) < (L.length : Int) := by omega
  have hmm := @run_makeMap Tryz.prog
  go_enter Tryz.func3, Tryz.ntmps3
  go_upto_region 5 with (fail)
  refine Wb.wp_at fun WB hWB => ?_
  obtain ⟨A, hA⟩ : ∃ A, w.heap.size = A := ⟨_, rfl⟩
  have HI : Hid (TopJ w A 0 WB none 0 0 none none Wb.noBk [] 0 L (fun _ => 0)) := Lib.hid (by
    refine ⟨⟨by rw [hWB, ← hA]; simp [go_sem], by rw [hWB, ← hA]; simp [go_sem], by rw [hWB, ← hA]; simp [go_sem], fun j => by rw [hWB, ← hA]; simp [go_sem], bk_none _ _, bki_none, ⟨by rw [hWB, ← hA]; simp <;> omega, by omega⟩, by rw [hWB]; (repeat' (first | (with_reducible assumption) | (with_reducible exact Wb.Ext.refl _) | (with_reducible refine Wb.Ext.drew ?_) | (with_reducible refine Wb.Ext.drewN ?_ _) | (with_reducible refine Wb.Ext.alloc ?_ _) | (with_reducible refine Wb.Ext.trans ?_ (by assumption))))⟩, ⟨fun _ => none, ?_, fun p hp => rfl⟩, Wb.topI_none L⟩
    rw [hWB]
    exact kmap_made kU32 (w.alloc _) (.int .i64 0) (A + 1) (by simp [← hA]))
  have hAs : A + 1 < WB.heap.size := by rw [hWB, ← hA]; simp
  have hwA : w.heap.size ≤ A := by omega
  rw [hA]
  clear hWB hA hmm d0 d0n
  obtain ⟨m6, hm6⟩ : ∃ m6, n % 6 = m6 := ⟨_, rfl⟩
  have hmi : (n : Int) % 6 = (m6 : Int) := by omega
  have hm5 : m6 ≤ 5 := by omega
  clear hm6
  go_wp2_with fail
  go_loopw [7] (fun iv wr => ∃ (j t : Nat) (ra : Option Addr) (rl rc : Nat) (mp mo : Option Nat) (B : Wb.Bk) (ks : List Int) (N : Nat) (sum : Int → Int), j + 1 = t ∧ j ≤ m6 + 1 ∧ iv = .int .i64 t ∧ A + 1 < wr.heap.size ∧ Hid (TopJ w A j wr ra rl rc mp mo B ks N L sum)) (fun iv _ => 10 - (intOf iv).toNat)
  case atStart => exact ⟨0, 1, none, 0, 0, none, none, Wb.noBk, [], 0, fun _ => 0, rfl, by omega, rfl, hAs, HI⟩
  case round =>
    clear HI hAs
    obtain ⟨j, t, ra, rl, rc, mp, mo, B, ks, N, sum, hjt, hj, rfl, hAs, HI⟩ := hrel
    obtain ⟨wO, hwz⟩ : ∃ z, z = wr := ⟨_, rfl⟩
    subst hwz
    by_cases hlt : t ≤ m6 + 1
    case neg =>
      have d1 : decide ((t : Int) ≤ (m6 : Int) + 1) = false := decide_eq_false (by omega)
      have d1n : ¬ (t : Int) ≤ (m6 : Int) + 1 := by omega
      have hxE := HI.out.book.ext
      clear hlt
      go_wp2
      exact bodyPost_ret (v := .bool true) (by simp [results, Tryz.results3, go_sem]) rfl ⟨rfl, hxE⟩
    have d1 : decide ((t : Int) ≤ (m6 : Int) + 1) = true := decide_eq_true (by omega)
    have d1n : (t : Int) ≤ (m6 : Int) + 1 := by omega
    have ht6 : t ≤ 6 := by omega
    have hlow := HI.out.book.lt
    go_wp2_with fail
    go_fit (handed_any _ L t _ (HL.out.ext HI.out.book.ext) hl ht6); rintro e w6 ⟨M, rfl, hD⟩
    obtain ⟨nf, f, hnf, hf3, hSM⟩ := hd_smap (P := fun q => q = A ∨ q = A + 1) hD (fun q hq => by rcases hq with rfl | rfl <;> omega)
    have HSM := Lib.hid hSM
    have HX6 := Lib.hid hD.ext
    have hs6 : wO.heap.size ≤ w6.heap.size := hD.ext.size
    obtain ⟨hs, hk1, hk2, hk3⟩ := keys_three hf3
    have HDO := Lib.hid (top_do (y := 2026) (i := t) (k := t) HI.out.book.book HI.out.book.ok (by omega) HX6.out hSM (by omega) (fun q hq => by rcases hq with rfl | rfl <;> omega) hk1 hk2 (by omega) (fun p => by have := (Wb.handX_small HL.out.small hl t p).2; omega))
    have a0 := HX6.out.keep HI.out.book.a0
    have a1 := HX6.out.keep HI.out.book.a1
    have a2 := HX6.out.keep HI.out.book.a2
    clear hD hSM hk1 hk2 hf3
    unfold BkV at HDO
    go_wp2_with fail
    go_fit (HDO.out); rintro e w9 ⟨ra', rl', rc', mp', mo', B', n1, y1, i1, k9, qa, qc, rows, E, rfl, hD9, hI9, hx9⟩
    clear HDO a0 a1 a2
    obtain ⟨ps, hw9, hd9⟩ := hD9.out.did
    obtain ⟨hE, hn1, hi1, hTI, hBH⟩ := top_runT HL.out.small hl (show j < 6 by omega) HI.out.law hjt hw9 hd9
    have hn1 : n1 = (t : Int) := hn1
    have hi1 : i1 = (t : Int) := hi1
    subst hE hn1 hi1
    have HTI := Lib.hid hTI
    have HBH := Lib.hid hBH
    have HOKP := Lib.hid (row_okS HI.out.book.book HSM.out hBH)
    clear hw9 hd9 hTI hBH
    go_upto_region 10 with (fail)
    refine Wb.wp_at fun wD hwD => ?_
    obtain ⟨C, hC⟩ : ∃ C, w9.heap.size = C := ⟨_, rfl⟩
    obtain ⟨R, hR⟩ : ∃ R, C + 1 = R := ⟨_, rfl⟩
    have e0 : wD.cell? ⟨C, 0, none⟩ = some (.slice ra' rl' rc') := by rw [hwD, ← hC]; simp [go_sem]
    have e1 : wD.cell? ⟨C, 1, none⟩ = some (.map mp') := by rw [hwD, ← hC]; simp [go_sem]
    have e2 : wD.cell? ⟨C, 2, none⟩ = some (.map mo') := by rw [hwD, ← hC]; simp [go_sem]
    have r0 : wD.cell? ⟨R, 0, none⟩ = some (.int .i64 t) := by rw [hwD, ← hR, ← hC]; simp [go_sem]
    have r2 : wD.cell? ⟨R, 2, none⟩ = some (.int .i64 t) := by rw [hwD, ← hR, ← hC]; simp [go_sem]
    have r4 : wD.cell? ⟨R, 4, none⟩ = some (.slice qa rows.length qc) := by rw [hwD, ← hR, ← hC]; simp [go_sem]
    have hxD : Wb.Ext w9 wD := by rw [hwD]; (repeat' (first | (with_reducible assumption) | (with_reducible exact Wb.Ext.refl _) | (with_reducible refine Wb.Ext.drew ?_) | (with_reducible refine Wb.Ext.drewN ?_ _) | (with_reducible refine Wb.Ext.alloc ?_ _) | (with_reducible refine Wb.Ext.trans ?_ (by assumption))))
    have HXD := Lib.hid (HX6.out.trans (hx9.trans hxD))
    have HX6D := Lib.hid (hx9.trans hxD)
    have HD := Lib.hid (hD9.out.kept (.ext hxD))
    have hsD : wO.heap.size ≤ C := by have := HX6.out.size; have := hx9.size; omega
    simp only [hC, hR]
    clear hwD hC hxD hx9 hD9
    have hCA : ¬ C = A := by omega
    have hAC : ¬ A = C := by omega
    have hRA : ¬ R = A := by omega
    have a0 := HXD.out.keep HI.out.book.a0
    have a1 := HXD.out.keep HI.out.book.a1
    have a2 := HXD.out.keep HI.out.book.a2
    have af : ∀ i, wD.frozen? ⟨A, i, none⟩ = false := fun i => (HXD.out.cells.2 _ _ hlow.1).trans (HI.out.book.af i)
    have qn : ((t : Int) != t) = false := by simp
    go_upto_region 13 with (fail)
    refine Wb.wp_at fun wA hwA => ?_
    have hkA : Kept (fun q => q ≠ A) wD wA := by
      rw [hwA]
      exact ((Kept.refl.setj (fun h => h rfl)).setj (fun h => h rfl)).setj (fun h => h rfl)
    have hxA : Wb.Ext w wA := hkA.old (HI.out.book.ext.trans HXD.out) (fun i hi => by omega)
    replace a0 : wA.cell? ⟨A, 0, none⟩ = some (.slice ra' rl' rc') := by rw [hwA]; simp [go_sem, a0]
    replace a1 : wA.cell? ⟨A, 1, none⟩ = some (.map mp') := by rw [hwA]; simp [go_sem, a1]
    replace a2 : wA.cell? ⟨A, 2, none⟩ = some (.map mo') := by rw [hwA]; simp [go_sem, a2]
    replace r4 : wA.cell? ⟨R, 4, none⟩ = some (.slice qa rows.length qc) := hkA.cell (fun h => hRA h) r4
    replace af : ∀ i, wA.frozen? ⟨A, i, none⟩ = false := fun i => by rw [hwA]; simp [go_sem, af]
    have hsA : wD.heap.size ≤ wA.heap.size := hkA.size
    have hsDD : wO.heap.size ≤ wD.heap.size := HXD.out.size
    have HKA := Lib.hid hkA
    have HXA := Lib.hid hxA
    have hrl := ((HD.out.rows wD .refl).many : rows.length ≤ 100000)
    have HS0 : Hid (TopK wA (A + 1) (100000 * j) wA sum (rows.map RwM.c) 0) := Lib.hid (by
      obtain ⟨f, h1, h2⟩ := HI.out.map
      exact ⟨⟨f, (KMap.ext h1 HXD.out).keptF hkA (by omega), h2⟩, .refl⟩)
    have HBK := Lib.hid (HD.out.book.kept (hkA.mono fun q _ h e => h (.inl e)))
    have HAC : Hid (wA.cell? ⟨A, 0, none⟩ = some (.slice ra' rl' rc') ∧ wA.cell? ⟨A, 1, none⟩ = some (.map mp') ∧ wA.cell? ⟨A, 2, none⟩ = some (.map mo') ∧ ∀ i, wA.frozen? ⟨A, i, none⟩ = false) := Lib.hid ⟨a0, a1, a2, af⟩
    clear hwA hkA hxA e0 e1 e2 r0 r2 qn a0 a1 a2 af hCA hAC
    go_wp2_with fail
    go_loopw [63] (fun iv wr => ∃ k : Nat, k ≤ rows.length ∧ iv = .int .i64 k ∧ Hid (TopK wA (A + 1) (100000 * j) wr sum (rows.map RwM.c) k)) (fun iv _ => rows.length - (intOf iv).toNat)
    case atStart => exact ⟨0, Nat.zero_le _, rfl, HS0⟩
    case round =>
      clear HS0
      obtain ⟨k, hk, rfl, HS⟩ := hrel
      obtain ⟨wK, hwz⟩ : ∃ z, z = wr := ⟨_, rfl⟩
      subst hwz
      have hkl : (rows.map RwM.c).length = rows.length := by rw [List.length_map]
      by_cases hlk9 : k < rows.length
      case neg =>
        obtain rfl : k = rows.length := by omega
        have d2 : decide ((rows.length : Int) < (rows.length : Int)) = false := by simp
        have n2 : ¬ (rows.length : Int) < (rows.length : Int) := by omega
        have HMP : Hid (∃ f, KMap kU32 wK (A + 1) (100000 * t) (.int .i64 0) f ∧ ∀ p, kU32.ok p → (f p).getD (.int .i64 0) = .int .i64 (Wb.addR sum (rows.map RwM.c) p)) := Lib.hid (by
          obtain ⟨f, h1, h2⟩ := HS.out.map
          rw [← hkl, List.take_length] at h2
          exact ⟨f, h1.mono (by omega), h2⟩)
        obtain ⟨sm, hsm⟩ : ∃ sm, Wb.addR sum (rows.map RwM.c) = sm := ⟨_, rfl⟩
        rw [hsm] at HMP HTI
        have hkM : Kept (fun q => ¬ (q = A ∨ q = A + 1)) wD wK := (HKA.out.mono fun q _ h e => h (.inl e)).trans (HS.out.kept.mono fun q _ h e => h (.inr e))
        have hkw : wA.heap.size ≤ wK.heap.size := HS.out.kept.size
        have hA1 : A ≠ A + 1 := by omega
        have HXK := Lib.hid (HS.out.kept.old HXA.out (fun i hi => by omega))
        have HAP : Hid (ApI w (fun q => q = A ∨ q = A + 1) A t wK ra' rl' rc' mp' mo' B' (ks ++ hs) (N + ks.length + hs.length)) := Lib.hid (by
          have hI := hI9.out
          rw [hjt] at hI
          exact ⟨HS.out.kept.cell hA1 HAC.out.1, HS.out.kept.cell hA1 HAC.out.2.1, HS.out.kept.cell hA1 HAC.out.2.2.1, fun i => HS.out.kept.frozen hA1 (by omega) (HAC.out.2.2.2 i), HD.out.book.kept hkM, hI, ⟨by omega, by omega⟩, HXK.out⟩)
        have HSK := Lib.hid (HSM.out.kept ((Kept.ext HX6D.out).trans hkM))
        clear hsm hkM hlk9 hk HS HKA HBH HOKP HBK HD HAC r4 hkl
        go_wp2_with fail
        go_loopw [92] (fun pv wr => ∃ p : Nat, p ≤ 5 ∧ pv = .int .u32 p ∧ Hid (Wb.Ext wK wr)) (fun pv _ => 5 - (intOf pv).toNat)
        case atStart => exact ⟨0, by omega, rfl, Lib.hid (.refl _)⟩
        case round =>
          obtain ⟨p, hp, rfl, HXP⟩ := hrel
          obtain ⟨wP, hwz⟩ : ∃ z, z = wr := ⟨_, rfl⟩
          subst hwz
          by_cases hlp : p < 5
          case neg =>
            obtain rfl : p = 5 := by omega
            have d3 : decide ((5 : Int) < 5) = false := by decide
            have HN : Hid (TopJ w A t wP ra' rl' rc' mp' mo' B' (ks ++ hs) (N + ks.length + hs.length) L sm) := Lib.hid ⟨HAP.out.ext' HXP.out, by obtain ⟨f, h1, h2⟩ := HMP.out; exact ⟨f, h1.ext HXP.out, h2⟩, HTI.out⟩
            have hAP : A + 1 < wP.heap.size := by have := HXP.out.size; omega
            clear hlp hp
            go_wp2
            go_roundw
            case rel => exact ⟨t, t + 1, ra', rl', rc', mp', mo', B', ks ++ hs, N + ks.length + hs.length, sm, rfl, by omega, by go_num, hAP, HN⟩
            case measure => first | (simp [intOf]; done) | (simp [intOf]; omega)
          have d3 : decide ((p : Int) < 5) = true := decide_eq_true (by omega)
          have hpi : (p : Int) < 5 := by omega
          have hpo : kU32.ok (p : Int) := u32_ok (by omega)
          obtain ⟨Q, hQF, hQc⟩ := HSK.out.each p
          have hQK := hQF wP (.ext HXP.out)
          obtain ⟨xa, xc, hQv⟩ := slsK_shape hQK
          have HQ := Lib.hid (show Sls wP (.slice xa Q.length xc) Q by rw [← hQv]; exact hQK.sls)
          have hql : Q.length ≤ 6 := by
            have := (Wb.handX_small HL.out.small hl t p).2
            rw [← hQc, List.length_map] at this; omega
          have HQC := Lib.hid hQc
          have hlk1 : ∀ x, Wb.Ext wP x → (Instr.lookup 24 (.map (some M)) (.int .u32 p) false).run Tryz.prog x = .ok (.slice xa Q.length xc) x := fun x e => by
            have := KMapO.look (p := (p : Int)) (HSK.out.map x (.ext (HXP.out.trans e))) Tryz.underlying24 zeroSlips hpo
            rw [hQv] at this; exact this
          have hsmall := (Wb.handX_small HL.out.small hl t p)
          have HSA := Lib.hid hsmall.1
          have hpaid : B'.paid p = Wb.fullC (Wb.handX L t p) := by rw [HTI.out.paid, if_neg (by omega)]
          have HPD := Lib.hid hpaid
          have HPA := Lib.hid (show ∀ W, Wb.Ext wP W → Calls Tryz.prog 15 #[.agg #[.slice ra' rl' rc', .map mp', .map mo'], .int .u32 p] W fun e w' => ∃ (ua : Option Addr) (uc : Nat) (D : List Wb.Sl), e = .returned (.slice ua D.length uc) ∧ Hid (Sls w' (.slice ua D.length uc) D ∧ D.map Wb.ct = Wb.fullC (Wb.handX L t p) ∧ D.length ≤ 6) ∧ Wb.Ext W w' from fun W e => by
            refine (paid31_any _ mp' mo' B' (ks ++ hs) (N + ks.length + hs.length) p hpo W (HAP.out.book.now.ext (HXP.out.trans e))).mono ?_
            rintro e w' ⟨u, D, rfl, h1, h2, -, h4⟩
            obtain ⟨ua, uc, rfl⟩ := h1.shape
            have h5 : D.map Wb.ct = Wb.fullC (Wb.handX L t p) := h2.trans HPD.out
            exact ⟨ua, uc, D, rfl, Lib.hid ⟨h1.sls, h5, by
              have : (D.map Wb.ct).length ≤ (Wb.handX L t p).length := by rw [h5]; exact List.length_filter_le _ _
              rw [List.length_map] at this
              have := (Wb.handX_small HL.out.small hl t p).2
              omega⟩, h4⟩)
          obtain ⟨OW, hOW⟩ : ∃ OW, B'.owed p = OW := ⟨_, rfl⟩
          have HOW := Lib.hid (show ∀ W, Wb.Ext wP W → Calls Tryz.prog 13 #[.agg #[.slice ra' rl' rc', .map mp', .map mo'], .int .u32 p] W fun e w' => e = .returned (.int .i64 OW) ∧ Wb.Ext W w' from fun W h => by
            have := owed31_any _ mp' mo' B' (ks ++ hs) (N + ks.length + hs.length) p hpo _ (HAP.out.book.now.ext (HXP.out.trans h))
            rw [hOW] at this; exact this)
          obtain ⟨V, hV⟩ : ∃ V, sm p = V := ⟨_, rfl⟩
          have hlk2 : ∀ x, Wb.Ext wP x → (Instr.lookup 25 (.map (some (A + 1))) (.int .u32 p) false).run Tryz.prog x = .ok (.int .i64 V) x := fun x e => by
            obtain ⟨f, h1, h2⟩ := HMP.out
            have := KMapO.look (p := (p : Int)) (KMap.opt (h1.ext (HXP.out.trans e))) Tryz.underlying25 zeroCents hpo
            rw [h2 p hpo, hV] at this; exact this
          have hVO : V - OW = Wb.nlS Q := by
            rw [nlS_ct, hQc, ← Wb.nlC_full, ← hpaid, ← hV, ← hOW]
            exact HTI.out.sum p
          have hob := HTI.out.owed p
          have hpb := HTI.out.pos p
          have htb := HTI.out.top p
          rw [hOW] at hob
          rw [hV] at hpb htb
          have hsub : IntKind.i64.wrap (V - OW) = Wb.nlS Q := by rw [← hVO]; exact IntWalk.i64_in _ (by omega)
          have hsub2 : wrap64 (V - OW) = Wb.nlS Q := by rw [← hVO]; exact IntWalk.wrap64_in _ (by omega)
          have g0 : ∀ x, Wb.Ext wP x → x.cell? ⟨A, 0, none⟩ = some (.slice ra' rl' rc') := fun x e => (HXP.out.trans e).keep HAP.out.a0
          have g1 : ∀ x, Wb.Ext wP x → x.cell? ⟨A, 1, none⟩ = some (.map mp') := fun x e => (HXP.out.trans e).keep HAP.out.a1
          have g2 : ∀ x, Wb.Ext wP x → x.cell? ⟨A, 2, none⟩ = some (.map mo') := fun x e => (HXP.out.trans e).keep HAP.out.a2
          have HALL := Lib.hid (show ∀ W (ua : Option Addr) (uc : Nat) (D : List Wb.Sl), Wb.Ext wP W → Hid (Sls W (.slice ua D.length uc) D ∧ D.map Wb.ct = Wb.fullC (Wb.handX L t p) ∧ D.length ≤ 6) → Calls Tryz.prog 14 #[.slice ua D.length uc, .slice xa Q.length xc] W fun e w' => ∃ (da : Option Addr) (dc : Nat) (R : List Wb.Sl), e = .returned (.tuple #[.slice da R.length dc, .int .i64 0]) ∧ Hid (Sls w' (.slice da R.length dc) R ∧ ∀ s ∈ R, s.l = []) ∧ R.length ≤ 12 ∧ Wb.Ext W w' from fun W ua uc D e h =>
            all_top h.out.1 h.out.2.1 (HQ.out.ext e) HQC.out HSA.out ht6 (by have := (Wb.handX_small HL.out.small hl t p).2; omega))
          have HNT := Lib.hid (show ∀ W, Wb.Ext wP W → Calls Tryz.prog 16 #[.slice xa Q.length xc] W fun e w' => e = .returned (.tuple #[.int .i64 (Wb.nlS Q), .bool true]) ∧ Wb.Ext W w' from fun W e =>
            netsT_any _ Q W (HQ.out.ext e) (by omega) (Wb.sums_each ht6 HSA.out HQC.out))
          have HSB := Lib.hid hsub
          have HSB2 := Lib.hid hsub2
          clear hQF hQK hQv hQc hsmall hpaid hOW hV hVO hob hpb htb hsub hsub2
          go_wp2_with fail
          go_cut [15, 16] (fun dv ev wx => ∃ (da : Option Addr) (dc : Nat) (R9 : List Wb.Sl), dv = .slice da R9.length dc ∧ ev = .int .i64 0 ∧ Hid (Sls wx (.slice da R9.length dc) R9 ∧ ∀ s ∈ R9, s.l = []) ∧ R9.length ≤ 12 ∧ Hid (Wb.Ext wP wx))
          case first =>
            go_wp2_with fail
            go_region_held_law (fun x => Wb.Ext wP x) ((repeat' (first | (with_reducible assumption) | (with_reducible exact Wb.Ext.refl _) | (with_reducible refine Wb.Ext.drew ?_) | (with_reducible refine Wb.Ext.drewN ?_ _) | (with_reducible refine Wb.Ext.alloc ?_ _) | (with_reducible refine Wb.Ext.trans ?_ (by assumption))))) (first
              | (go_at_call 15; refine (HPA.out _ (by (repeat' (first | (with_reducible assumption) | (with_reducible exact Wb.Ext.refl _) | (with_reducible refine Wb.Ext.drew ?_) | (with_reducible refine Wb.Ext.drewN ?_ _) | (with_reducible refine Wb.Ext.alloc ?_ _) | (with_reducible refine Wb.Ext.trans ?_ (by assumption)))))).mono ?_; rintro e wp ⟨ua, uc, D, rfl, hDD, hxp⟩)
              | (go_at_call 14; refine (HALL.out _ _ _ _ (by (repeat' (first | (with_reducible assumption) | (with_reducible exact Wb.Ext.refl _) | (with_reducible refine Wb.Ext.drew ?_) | (with_reducible refine Wb.Ext.drewN ?_ _) | (with_reducible refine Wb.Ext.alloc ?_ _) | (with_reducible refine Wb.Ext.trans ?_ (by assumption))))) hDD).mono ?_; rintro e ws ⟨da, dc, R9, rfl, hR9, hRl, hxs⟩))
            all_goals go_wp2_with fail
            all_goals go_meet
            all_goals exact ⟨da, dc, R9, rfl, rfl, Lib.hid ⟨hR9.out.1.ext (by (repeat' (first | (with_reducible assumption) | (with_reducible exact Wb.Ext.refl _) | (with_reducible refine Wb.Ext.drew ?_) | (with_reducible refine Wb.Ext.drewN ?_ _) | (with_reducible refine Wb.Ext.alloc ?_ _) | (with_reducible refine Wb.Ext.trans ?_ (by assumption))))), hR9.out.2⟩, hRl, Lib.hid (by (repeat' (first | (with_reducible assumption) | (with_reducible exact Wb.Ext.refl _) | (with_reducible refine Wb.Ext.drew ?_) | (with_reducible refine Wb.Ext.drewN ?_ _) | (with_reducible refine Wb.Ext.alloc ?_ _) | (with_reducible refine Wb.Ext.trans ?_ (by assumption)))))⟩
          case rest =>
          obtain ⟨da, dc, R9, rfl, rfl, HR9, hR9l, HXR⟩ := hcut
          obtain ⟨wR, hwz⟩ : ∃ z, z = wc := ⟨_, rfl⟩
          subst hwz
          have hlk1R : ∀ x, Wb.Ext wR x → (Instr.lookup 24 (.map (some M)) (.int .u32 p) false).run Tryz.prog x = .ok (.slice xa Q.length xc) x := fun x e => hlk1 x (HXR.out.trans e)
          have hlk1R0 := hlk1R wR (.refl _)
          clear hlk1 HALL HPA
          go_wp2_with fail
          go_fit (HNT.out _ (HXR.out.trans (by (repeat' (first | (with_reducible assumption) | (with_reducible exact Wb.Ext.refl _) | (with_reducible refine Wb.Ext.drew ?_) | (with_reducible refine Wb.Ext.drewN ?_ _) | (with_reducible refine Wb.Ext.alloc ?_ _) | (with_reducible refine Wb.Ext.trans ?_ (by assumption))))))); rintro e wN ⟨rfl, hxN⟩
          have HXRN := Lib.hid (show Wb.Ext wR wN by (repeat' (first | (with_reducible assumption) | (with_reducible exact Wb.Ext.refl _) | (with_reducible refine Wb.Ext.drew ?_) | (with_reducible refine Wb.Ext.drewN ?_ _) | (with_reducible refine Wb.Ext.alloc ?_ _) | (with_reducible refine Wb.Ext.trans ?_ (by assumption)))))
          have HXN := Lib.hid (HXR.out.trans HXRN.out)
          clear hxN hlk1R hlk1R0 HNT
          obtain ⟨NQ, hNQ⟩ : ∃ NQ, Wb.nlS Q = NQ := ⟨_, rfl⟩
          have hsub := HSB.out
          have hsub2 := HSB2.out
          rw [hNQ] at hsub hsub2 ⊢
          have qN : ((NQ : Int) != NQ) = false := by simp
          have y0 : ∀ x, Wb.Ext wN x → x.cell? ⟨A, 0, none⟩ = some (.slice ra' rl' rc') := fun x h => g0 x (HXN.out.trans h)
          have y1 : ∀ x, Wb.Ext wN x → x.cell? ⟨A, 1, none⟩ = some (.map mp') := fun x h => g1 x (HXN.out.trans h)
          have y2 : ∀ x, Wb.Ext wN x → x.cell? ⟨A, 2, none⟩ = some (.map mo') := fun x h => g2 x (HXN.out.trans h)
          have yl : ∀ x, Wb.Ext wN x → (Instr.lookup 25 (.map (some (A + 1))) (.int .u32 p) false).run Tryz.prog x = .ok (.int .i64 V) x := fun x h => hlk2 x (HXN.out.trans h)
          have HOW2 := Lib.hid (show ∀ W, Wb.Ext wN W → Calls Tryz.prog 13 #[.agg #[.slice ra' rl' rc', .map mp', .map mo'], .int .u32 p] W fun e w' => e = .returned (.int .i64 OW) ∧ Wb.Ext W w' from fun W h => HOW.out W (HXN.out.trans h))
          clear hNQ g0 g1 g2 hlk2 HOW
          go_upto_region 25 with (fail)
          go_cut [128] (fun bv wx => bv = .bool false ∧ Hid (Wb.Ext wN wx))
          case first =>
            go_wp2_with fail
            go_region_held_law (fun x => Wb.Ext wN x) ((repeat' (first | (with_reducible assumption) | (with_reducible exact Wb.Ext.refl _) | (with_reducible refine Wb.Ext.drew ?_) | (with_reducible refine Wb.Ext.drewN ?_ _) | (with_reducible refine Wb.Ext.alloc ?_ _) | (with_reducible refine Wb.Ext.trans ?_ (by assumption))))) (
              (go_at_call 13; refine (HOW2.out _ (by (repeat' (first | (with_reducible assumption) | (with_reducible exact Wb.Ext.refl _) | (with_reducible refine Wb.Ext.drew ?_) | (with_reducible refine Wb.Ext.drewN ?_ _) | (with_reducible refine Wb.Ext.alloc ?_ _) | (with_reducible refine Wb.Ext.trans ?_ (by assumption)))))).mono ?_; rintro e ws ⟨rfl, hxs⟩))
            all_goals go_wp2_with fail
            all_goals go_meet
            all_goals exact ⟨rfl, Lib.hid (by (repeat' (first | (with_reducible assumption) | (with_reducible exact Wb.Ext.refl _) | (with_reducible refine Wb.Ext.drew ?_) | (with_reducible refine Wb.Ext.drewN ?_ _) | (with_reducible refine Wb.Ext.alloc ?_ _) | (with_reducible refine Wb.Ext.trans ?_ (by assumption)))))⟩
          case rest =>
          obtain ⟨rfl, HXS⟩ := hcut
          obtain ⟨wS, hwz⟩ : ∃ z, z = wc := ⟨_, rfl⟩
          subst hwz
          have HXT := Lib.hid (HXN.out.trans HXS.out)
          have HZ9 : Hid (Sls wS (.slice da R9.length dc) R9) := Lib.hid (HR9.out.1.ext (HXRN.out.trans HXS.out))
          clear y0 y1 y2 yl HOW2 hsub hsub2 qN
          go_wp2_with fail
          go_loopw [131] (fun iv wr => ∃ i : Nat, i ≤ R9.length ∧ iv = .int .i64 i ∧ Hid (Wb.Ext wS wr)) (fun iv _ => R9.length - (intOf iv).toNat)
          case atStart => exact ⟨0, Nat.zero_le _, rfl, Lib.hid (.refl _)⟩
          case round =>
            obtain ⟨i, hi, rfl, HXI⟩ := hrel
            obtain ⟨wI, hwz⟩ : ∃ z, z = wr := ⟨_, rfl⟩
            subst hwz
            by_cases hli : i < R9.length
            case neg =>
              obtain rfl : i = R9.length := by omega
              have d4 : decide ((R9.length : Int) < (R9.length : Int)) = false := by simp
              have n4 : ¬ (R9.length : Int) < (R9.length : Int) := by omega
              have HXE := Lib.hid (HXP.out.trans (HXT.out.trans HXI.out))
              clear hli hi
              go_wp2
              go_roundw
              case rel => exact ⟨p + 1, by omega, by go_num, HXE⟩
              case measure => first | (simp [intOf]; done) | (simp [intOf]; omega)
            obtain ⟨s, hs⟩ := Wb.get_ex hli
            obtain ⟨sb, so, hsb, z0, z1, z2⟩ := (HZ9.out.ext HXI.out).cells hs
            obtain rfl : da = some ⟨sb, so, none⟩ := hsb
            have hse := HR9.out.2 s (List.mem_of_getElem? hs)
            have HSL := Lib.hid (((HZ9.out.ext HXI.out).2 s (List.mem_of_getElem? hs)).1.1)
            obtain ⟨ya, yc, hsv⟩ := HSL.out.shape
            rw [hse] at hsv
            rw [hsv] at z2
            have HSL2 := Lib.hid (show Lns wI (.slice ya 0 yc) [] by have := HSL.out; rwa [hsv, hse] at this)
            have d4 : decide ((i : Int) < (R9.length : Int)) = true := decide_eq_true (by omega)
            have hii : (i : Int) < (R9.length : Int) := by omega
            clear hsv hse hs hli HSL
            go_wp2_with fail
            go_fit (dzero_any s.y s.i _ [] _ (HSL2.out.ext (by (repeat' (first | (with_reducible assumption) | (with_reducible exact Wb.Ext.refl _) | (with_reducible refine Wb.Ext.drew ?_) | (with_reducible refine Wb.Ext.drewN ?_ _) | (with_reducible refine Wb.Ext.alloc ?_ _) | (with_reducible refine Wb.Ext.trans ?_ (by assumption))))))); rintro e wz ⟨rfl, hxz⟩
            have HXZ := Lib.hid (HXI.out.trans (show Wb.Ext wI wz by (repeat' (first | (with_reducible assumption) | (with_reducible exact Wb.Ext.refl _) | (with_reducible refine Wb.Ext.drew ?_) | (with_reducible refine Wb.Ext.drewN ?_ _) | (with_reducible refine Wb.Ext.alloc ?_ _) | (with_reducible refine Wb.Ext.trans ?_ (by assumption))))))
            clear hxz z0 z1 z2
            go_wp2
            go_roundw
            case rel => exact ⟨i + 1, by omega, by go_num, HXZ⟩
            case measure => first | (simp [intOf]; done) | (simp [intOf]; omega)
      obtain ⟨r, hr⟩ := Wb.get_ex hlk9
      have hmem := List.mem_of_getElem? hr
      have hkM : Kept (fun q => ¬ (q = A ∨ q = A + 1)) wD wK := (HKA.out.mono fun q _ h e => h (.inl e)).trans (HS.out.kept.mono fun q _ h e => h (.inr e))
      have hRW := HD.out.rows wK hkM
      obtain ⟨rb, roff, hrb, hrc⟩ := hRW.tab.opened (by rintro rfl; simp at hr)
      obtain rfl : qa = some ⟨rb, roff, none⟩ := hrb
      obtain ⟨na, nn, nc, ba, bn, bc, hnv, hbv⟩ := hRW.one r hmem
      have p0 := hrc k r hr 0 _ rfl
      have p1 := hrc k r hr 1 _ rfl
      have p2 := hrc k r hr 2 _ rfl
      have p3 := hrc k r hr 3 (.slice na nn nc) (by rw [← hnv]; rfl)
      have p4 := hrc k r hr 4 (.slice ba bn bc) (by rw [← hbv]; rfl)
      have p5 := hrc k r hr 5 _ rfl
      have p6 := hrc k r hr 6 _ rfl
      have p7 := hrc k r hr 7 _ rfl
      rw [Nat.add_zero] at p0
      have hcm : r.c ∈ rows.map RwM.c := List.mem_map_of_mem hmem
      have hck : (rows.map RwM.c)[k]? = some r.c := by rw [List.getElem?_map, hr]; rfl
      have hok : kU32.ok r.p := HOKP.out r.c hcm
      obtain ⟨hro, hpo⟩ := HBH.out.rows r.c hcm
      have hpb : 0 ≤ r.paid ∧ r.paid ≤ 1125899906842624 := hro.paid
      have hob : 0 ≤ r.owed ∧ r.owed ≤ 1125899906842624 := hro.owed
      have hlowp := HI.out.law.pos r.p
      have htopp := HI.out.law.top r.p
      have s1 : Wb.addR sum ((rows.map RwM.c).take k) r.p = sum r.p := Wb.addR_at (r := r.c) HBH.out.one hck
      have hpo2 : B'.owed r.p = r.owed := hpo
      obtain ⟨V, hV⟩ : ∃ V, sum r.p = V := ⟨_, rfl⟩
      rw [hV] at s1 hlowp htopp
      have hki : (k : Int) < (rows.length : Int) := by omega
      have d2 : decide ((k : Int) < (rows.length : Int)) = true := decide_eq_true hki
      have HOP := Lib.hid hpo2
      have HHK := Lib.hid hck
      have HS1 := Lib.hid s1
      have HKM := Lib.hid hkM
      clear hmem hRW hrc hnv hbv hcm hro hpo hV hlk9 hr hpo2 s1 hck hkM
      go_upto_region 16 with (fail)
      refine Wb.wp_at fun wB hwB => ?_
      obtain ⟨Y, hY⟩ : ∃ Y, wK.heap.size = Y := ⟨_, rfl⟩
      have y0 : wB.cell? ⟨Y, 0, none⟩ = some (.int .u32 r.p) := by rw [hwB, ← hY]; simp [go_sem]
      have y6 : wB.cell? ⟨Y, 6, none⟩ = some (.int .i64 r.paid) := by rw [hwB, ← hY]; simp [go_sem]
      have y7 : wB.cell? ⟨Y, 7, none⟩ = some (.int .i64 r.owed) := by rw [hwB, ← hY]; simp [go_sem]
      have hxB : Wb.Ext wK wB := by rw [hwB]; (repeat' (first | (with_reducible assumption) | (with_reducible exact Wb.Ext.refl _) | (with_reducible refine Wb.Ext.drew ?_) | (with_reducible refine Wb.Ext.drewN ?_ _) | (with_reducible refine Wb.Ext.alloc ?_ _) | (with_reducible refine Wb.Ext.trans ?_ (by assumption))))
      have HKB := Lib.hid (HS.out.ext hxB)
      have HXB := Lib.hid hxB
      have hsK : wA.heap.size ≤ wK.heap.size := HS.out.kept.size
      have hYA : Y ≠ A + 1 := by omega
      rw [hY]
      clear hwB hY hxB p0 p1 p2 p3 p4 p5 p6 p7 HS
      obtain ⟨f, hm1, hm2⟩ := HKB.out.map
      have hlk : (Instr.lookup 25 (.map (some (A + 1))) (.int .u32 r.p) false).run Tryz.prog wB = .ok (.int .i64 V) wB := by
        have := KMapO.look (p := r.p) (KMap.opt hm1) Tryz.underlying25 zeroCents hok
        rw [hm2 r.p hok, HS1.out] at this; exact this
      obtain ⟨w2, hrun, hm3, hg⟩ := KMap.update hm1 Tryz.underlying25 (by unfold maxLen; omega) hok (.int .i64 (V + r.paid))
      have hrun : (Instr.mapUpdate 25 (.map (some (A + 1))) (.int .u32 r.p) (.int .i64 (V + r.paid))).run Tryz.prog wB = .ok () w2 := hrun
      have hwv : IntKind.i64.wrap (V + r.paid) = V + r.paid := IntWalk.i64_in _ (by omega)
      have hk2 : Kept (fun q => q ≠ A + 1) wB w2 := .grown hg (fun q e _ h => by cases e; exact h rfl)
      have HS2 : Hid (TopK wA (A + 1) (100000 * j) w2 sum (rows.map RwM.c) (k + 1)) := Lib.hid ⟨⟨_, hm3, fun q hq => by
          have e3 : r.c.p = r.p := rfl
          have e4 : r.c.paid = r.paid := rfl
          rw [take_snoc HHK.out, Wb.addR_snoc, e3, e4]
          by_cases e : r.p = q
          · subst e
            rw [if_pos rfl, if_pos rfl, HS1.out]; rfl
          · rw [if_neg e, if_neg e]; exact hm2 q hq⟩, HKB.out.kept.trans hk2⟩
      have q0 := hk2.cell hYA y0
      have q6 := hk2.cell hYA y6
      have q7 := hk2.cell hYA y7
      have hA1 : A ≠ A + 1 := by omega
      have g0 := HS2.out.kept.cell hA1 HAC.out.1
      have g1 := HS2.out.kept.cell hA1 HAC.out.2.1
      have g2 := HS2.out.kept.cell hA1 HAC.out.2.2.1
      have HBK2 := Lib.hid (HBK.out.kept (HS2.out.kept.mono fun q _ h e => h (.inr e)))
      clear hm1 hm2 hm3 hg
      go_upto_region 17 with (fail)
      clear hlk hrun hwv y0 y6 y7
      have z0 : ∀ x, Wb.Ext w2 x → x.cell? ⟨Y, 0, none⟩ = some (.int .u32 r.p) := fun x e => e.keep q0
      have z6 : ∀ x, Wb.Ext w2 x → x.cell? ⟨Y, 6, none⟩ = some (.int .i64 r.paid) := fun x e => e.keep q6
      have z7 : ∀ x, Wb.Ext w2 x → x.cell? ⟨Y, 7, none⟩ = some (.int .i64 r.owed) := fun x e => e.keep q7
      have v0 : ∀ x, Wb.Ext w2 x → x.cell? ⟨A, 0, none⟩ = some (.slice ra' rl' rc') := fun x e => e.keep g0
      have v1 : ∀ x, Wb.Ext w2 x → x.cell? ⟨A, 1, none⟩ = some (.map mp') := fun x e => e.keep g1
      have v2 : ∀ x, Wb.Ext w2 x → x.cell? ⟨A, 2, none⟩ = some (.map mo') := fun x e => e.keep g2
      have HOW := Lib.hid (show ∀ W, Wb.Ext w2 W → Calls Tryz.prog 13 #[.agg #[.slice ra' rl' rc', .map mp', .map mo'], .int .u32 r.p] W fun e w' => e = .returned (.int .i64 r.owed) ∧ Wb.Ext W w' from fun W h => by
        have := owed31_any _ mp' mo' B' (ks ++ hs) (N + ks.length + hs.length) r.p hok _ (HBK2.out.now.ext h)
        rw [HOP.out] at this; exact this)
      have g6 : decide (r.paid < 0) = false := decide_eq_false (by omega)
      have g7 : decide (r.owed < 0) = false := decide_eq_false (by omega)
      have qO : ((r.owed : Int) != r.owed) = false := by simp
      clear q0 q6 q7 g0 g1 g2
      go_cut [90] (fun bv wx => bv = .bool false ∧ Hid (Wb.Ext w2 wx))
      case first =>
        go_wp2_with fail
        go_region_held_law (fun x => Wb.Ext w2 x) ((repeat' (first | (with_reducible assumption) | (with_reducible exact Wb.Ext.refl _) | (with_reducible refine Wb.Ext.drew ?_) | (with_reducible refine Wb.Ext.drewN ?_ _) | (with_reducible refine Wb.Ext.alloc ?_ _) | (with_reducible refine Wb.Ext.trans ?_ (by assumption))))) (
          (go_at_call 13; refine (HOW.out _ (by (repeat' (first | (with_reducible assumption) | (with_reducible exact Wb.Ext.refl _) | (with_reducible refine Wb.Ext.drew ?_) | (with_reducible refine Wb.Ext.drewN ?_ _) | (with_reducible refine Wb.Ext.alloc ?_ _) | (with_reducible refine Wb.Ext.trans ?_ (by assumption)))))).mono ?_; rintro e ws ⟨rfl, hxs⟩))
        all_goals go_wp2_with fail
        all_goals go_meet
        all_goals exact ⟨rfl, Lib.hid (by (repeat' (first | (with_reducible assumption) | (with_reducible exact Wb.Ext.refl _) | (with_reducible refine Wb.Ext.drew ?_) | (with_reducible refine Wb.Ext.drewN ?_ _) | (with_reducible refine Wb.Ext.alloc ?_ _) | (with_reducible refine Wb.Ext.trans ?_ (by assumption)))))⟩
      case rest =>
      obtain ⟨rfl, HXS⟩ := hcut
      obtain ⟨wS, hwz⟩ : ∃ z, z = wc := ⟨_, rfl⟩
      subst hwz
      have HS3 := Lib.hid (HS2.out.ext HXS.out)
      clear z0 z6 z7 v0 v1 v2 HOW g6 g7 qO hpb hob hlowp htopp
      go_wp2
      go_roundw
      case rel => exact ⟨k + 1, by omega, by go_num, HS3⟩
      case measure => first | (simp [intOf]; done) | (simp [intOf]; omega)
end Go.Proofs.YtnefdpnolojojaaGreat
