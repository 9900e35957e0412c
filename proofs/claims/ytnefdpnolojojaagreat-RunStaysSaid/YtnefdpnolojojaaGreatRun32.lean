/- The walk of RunStays. -/
import Derived.Test.YtnefdpnolojojaaGreatMSt
import Derived.Test.YtnefdpnolojojaaGreatAg8
import Derived.Test.YtnefdpnolojojaaGreatMRc
import Derived.Test.YtnefdpnolojojaaGreatMRf
import Derived.Test.YtnefdpnolojojaaGreatMAw
import Derived.Deep.RegionHeldLaw
namespace Go.Proofs.YtnefdpnolojojaaGreat
open Go.RowKit Go.Sort Go.Lib Go.Maps
set_option maxRecDepth 8000
attribute [local go_sem ↓] Go.wp_at_zero Go.wp_at_succ


theorem runs_law {F : Nat → Prop} {w W : World} {ra : Option Addr} {rl rc : Nat} {mp mo : Option Nat} {B : Wb.Bk} {ks : List Int} {N : Nat} (h : BkF F w (.slice ra rl rc) mp mo B ks N) (hl : B.runs.length ≤ 50000) (hx : Wb.Ext w W) :
    Calls Tryz.prog 28 #[.agg #[.slice ra rl rc, .map mp, .map mo]] W fun e w' => ∃ (ua : Option Addr) (uc : Nat) (LR : List RnM), e = .returned (.slice ua B.runs.length uc) ∧ Hid (LR.map RnM.c = B.runs ∧ RunsM w' (.slice ua B.runs.length uc) LR) ∧ Wb.Ext W w' := by
  obtain ⟨RL, h1, h2⟩ := h.runs
  have hrl : RL.length = B.runs.length := by rw [← h2, List.length_map]
  refine (runs31_any _ mp mo RL W (h1 W (.ext hx)) (by omega)).mono ?_
  rintro e w' ⟨u, L', rfl, k1, k2, k3⟩
  have k4 := k1 w' .refl
  have hll : L'.length = B.runs.length := by rw [← hrl, ← List.length_map (f := RnM.c), k2, List.length_map]
  obtain ⟨ua, uc, rfl⟩ := k4.tab.shape
  rw [hll] at k4 ⊢
  exact ⟨ua, uc, L', rfl, Lib.hid ⟨k2.trans h2, k4⟩, k3⟩
theorem same_run {x z : RnM} {W : World} (hx : RowsM W x.rv x.rows) (hz : RowsM W z.rv z.rows) (h : x.c = z.c) : z.n = x.n ∧ z.y = x.y ∧ z.i = x.i ∧ z.k = x.k ∧
    Calls Tryz.prog 22 #[.agg #[.int .i64 x.n, .int .i64 x.y, .int .i64 x.i, .int .i64 x.k, x.rv], .agg #[.int .i64 x.n, .int .i64 x.y, .int .i64 x.i, .int .i64 x.k, z.rv]] W fun e w' => e = .returned (.bool true) ∧ Wb.Ext W w' := by
  unfold RnM.c at h
  injection h with h1 h2 h3 h4 h5
  exact ⟨h1.symm, h2.symm, h3.symm, h4.symm, same31r_eq x.n x.y x.i x.k _ _ x.rows z.rows W hx hz h5⟩
theorem rn_at {R T : List RnM} {k : Nat} {r : RnM} (h : ∀ j, j < R.length → (R.map RnM.c)[j]? = (T.map RnM.c)[j]?) (hr : R[k]? = some r) : ∃ t, T[k]? = some t ∧ r.c = t.c := by
  have h1 := h k (List.getElem?_eq_some_iff.1 hr).1
  rw [List.getElem?_map, hr, List.getElem?_map] at h1
  rcases hT : T[k]? with _ | t
  · rw [hT] at h1; cases h1
  · rw [hT] at h1
    exact ⟨t, rfl, Option.some.inj h1⟩
theorem did_runs {F : Nat → Prop} {w : World} {rv : Value} {mp mo : Option Nat} {B B' : Wb.Bk} {y i k : Int} {S : Int → List Wb.Ct} {hs ks : List Int} {N : Nat} {r : RnM} {E : Int} (h : DidF F w rv mp mo B B' y i k S hs ks N r E) : (E = 0 → B'.runs.length = B.runs.length + 1) ∧ (E ≠ 0 → B'.runs.length = B.runs.length) ∧ ∀ j, j < B.runs.length → B'.runs[j]? = B.runs[j]? := by
  obtain ⟨ps, hw, hd⟩ := h.did
  by_cases e : E = 0
  · subst e
    have ho := Wb.do_ok hd
    refine ⟨fun _ => by rw [ho.runs]; simp, fun k => absurd rfl k, fun j hj => by rw [ho.runs, List.getElem?_append_left hj]⟩
  · obtain ⟨rfl, -⟩ := Wb.do_bad hd e
    exact ⟨fun k => absurd k e, fun _ => rfl, fun _ _ => rfl⟩
set_option maxHeartbeats 100000000 in
theorem stays31_any (v : Value) (al : List AcM) (m : AcM) (w : World) (h : ActsM w v al) (hla : Laid v) (hm : HdsW w m.v m.hs) (hz : FitA (al ++ [m])) (hb : (al.length + 1) * 48 ≤ 140737488355328) :
    Calls Tryz.prog 10 #[v, .agg #[.int .i64 m.y, .int .i64 m.i, .int .i64 m.k, m.v]] w fun e w' => e = .returned (.bool true) ∧ Wb.Ext w w' := by
  obtain ⟨va, vc, rfl⟩ := h.tab.shape
  obtain ⟨ma, mc, hmv⟩ := hm.tab.shape
  have HMV := Lib.hid hmv
  rw [hmv]
  have HA := Lib.hid h
  have HM := Lib.hid hm
  have HZ := Lib.hid hz
  have HLA := Lib.hid hla
  clear h hz hm hla hmv
  go_enter Tryz.func10, Tryz.ntmps10
  go_upto_region 1 with (fail)
  refine Wb.wp_at fun W0 hW0 => ?_
  obtain ⟨X, hX⟩ : ∃ X, w.heap.size = X := ⟨_, rfl⟩
  have c0 : W0.cell? ⟨X, 0, none⟩ = some (.int .i64 m.y) := by rw [hW0, ← hX]; simp [go_sem]
  have c1 : W0.cell? ⟨X, 1, none⟩ = some (.int .i64 m.i) := by rw [hW0, ← hX]; simp [go_sem]
  have c2 : W0.cell? ⟨X, 2, none⟩ = some (.int .i64 m.k) := by rw [hW0, ← hX]; simp [go_sem]
  have c3 : W0.cell? ⟨X, 3, none⟩ = some (.slice ma m.hs.length mc) := by rw [hW0, ← hX]; simp [go_sem]
  have HX0 := Lib.hid (show Wb.Ext w W0 by rw [hW0]; (repeat' (first | (with_reducible assumption) | (with_reducible exact Wb.Ext.refl _) | (with_reducible refine Wb.Ext.drew ?_) | (with_reducible refine Wb.Ext.drewN ?_ _) | (with_reducible refine Wb.Ext.alloc ?_ _) | (with_reducible refine Wb.Ext.trans ?_ (by assumption)))))
  have hXw : w.heap.size ≤ X := by omega
  rw [hX]
  clear hW0 hX
  refine Code.wp_mono (OnEnd.imp ?_) (st1 _ _ _ _ _ _ _ _ _ _ _ _ _ _ _ _ _ _ _ _ _ _ _ _ _ _ _ _ _ _ _ _ _ _ _ _ _ _ _ _ _ _ _ _ _ _ _ _ _ _ _ _ _ _ _ _ _ _ _ _ _ _ _ _ _ _ _ _ _ _ _ _ _ _ _ _ _ _ _ _ _ _ _ _ _ _ _ _ _ _ _ _ _ _ _ _ _ _ _ _ _ _ _ _ _ _ _ _ _ _ _ _ _ _ _ _ _ _ _ _ _ _ _ _ _ _ _ _ _ _ _ _ _ _ _ _ _ _ _ _ _ _ _ _ _ _ _ _ _ _ _ _ _ _ _ _ _ _ _ _ _ _ _ _ _ _ _ _ _ _ _ _ _ W0 X va vc al m ma mc HMV.out (HA.out.ext HX0.out) HLA.out (HM.out.ext HX0.out) HZ.out hb c0 c1 c2 c3)
  rintro a' wc ⟨g, u18, u19, u20, u21, u22, u23, rfl, hg, hx1⟩
  (try dsimp only)
  obtain ⟨w1, hwz⟩ : ∃ z, z = wc := ⟨_, rfl⟩
  subst hwz
  have HX1 := Lib.hid (HX0.out.trans hx1)
  have HXC : Hid (w1.cell? ⟨X, 0, none⟩ = some (.int .i64 m.y) ∧ w1.cell? ⟨X, 1, none⟩ = some (.int .i64 m.i) ∧ w1.cell? ⟨X, 2, none⟩ = some (.int .i64 m.k) ∧ w1.cell? ⟨X, 3, none⟩ = some (.slice ma m.hs.length mc)) := Lib.hid ⟨hx1.keep c0, hx1.keep c1, hx1.keep c2, hx1.keep c3⟩
  have hXs : X < w1.heap.size := Wb.cell_size HXC.out.1
  clear hx1 c0 c1 c2 c3
  cases g
  case true =>
    clear hg
    go_wp2_with fail
    go_fit (awake31_any _); rintro e wz2 ⟨rfl, hz2⟩
    have HZ2 := Lib.hid (show Wb.Ext w wz2 from HX1.out.trans (by (repeat' (first | (with_reducible assumption) | (with_reducible exact Wb.Ext.refl _) | (with_reducible refine Wb.Ext.drew ?_) | (with_reducible refine Wb.Ext.drewN ?_ _) | (with_reducible refine Wb.Ext.alloc ?_ _) | (with_reducible refine Wb.Ext.trans ?_ (by assumption))))))
    clear hz2
    go_wp2
    exact bodyPost_ret (v := .bool true) (by simp [results, Tryz.results10, go_sem]) rfl ⟨rfl, HZ2.out⟩

  case false =>
  have HSM := Lib.hid (hg rfl)
  clear hg
  have hal : al.length ≤ 19 := by have := HSM.out.1; simp at this; omega
  have HSMA : Hid (∀ a ∈ al, SmallA 1500 a) := Lib.hid (fun a ha => HSM.out.2 a (List.mem_append_left _ ha))
  have HSMM : Hid (SmallA 1500 m) := Lib.hid (HSM.out.2 m (List.mem_append_right _ List.mem_cons_self))
  go_upto_region 4 with (fail)
  refine Wb.wp_at fun WB hWB => ?_
  obtain ⟨A, hA⟩ : ∃ A, w1.heap.size = A := ⟨_, rfl⟩
  have hXA : X < A := by omega
  have HI : Hid (ApI w1 (fun q => q = A) A 0 WB none 0 0 none none Wb.noBk [] 0) := Lib.hid
    ⟨by rw [hWB, ← hA]; simp [go_sem], by rw [hWB, ← hA]; simp [go_sem], by rw [hWB, ← hA]; simp [go_sem], fun j => by rw [hWB, ← hA]; simp [go_sem], bk_none _ _, bki_none, ⟨by rw [hWB, ← hA]; simp, by omega⟩, by rw [hWB]; (repeat' (first | (with_reducible assumption) | (with_reducible exact Wb.Ext.refl _) | (with_reducible refine Wb.Ext.drew ?_) | (with_reducible refine Wb.Ext.drewN ?_ _) | (with_reducible refine Wb.Ext.alloc ?_ _) | (with_reducible refine Wb.Ext.trans ?_ (by assumption))))⟩
  rw [hA]
  clear hWB hA
  go_wp2_with fail
  go_loopw [6] (fun iv wr => ∃ (j : Nat) (ra : Option Addr) (rl rc : Nat) (mp mo : Option Nat) (B : Wb.Bk) (ks : List Int) (N : Nat), j ≤ al.length ∧ iv = .int .i64 j ∧ Hid (ApI w1 (fun q => q = A) A j wr ra rl rc mp mo B ks N)) (fun iv _ => al.length - (intOf iv).toNat)
  case atStart => exact ⟨0, none, 0, 0, none, none, Wb.noBk, [], 0, Nat.zero_le _, rfl, HI⟩
  case round =>
    clear HI
    obtain ⟨j, ra, rl, rc, mp, mo, B, ks, N, hj, rfl, HI⟩ := hrel
    obtain ⟨wO, hwz⟩ : ∃ z, z = wr := ⟨_, rfl⟩
    subst hwz
    have hlow := HI.out.lt
    by_cases hlt : j < al.length
    case neg =>
      obtain rfl : j = al.length := by omega
      have d1 : decide ((al.length : Int) < (al.length : Int)) = false := by simp
      have n1 : ¬ (al.length : Int) < (al.length : Int) := by omega
      clear hlt
      have hBl := HI.out.ok.len
      -- was
      have HRU := Lib.hid (show ∀ W, Wb.Ext wO W → Calls Tryz.prog 28 #[.agg #[.slice ra rl rc, .map mp, .map mo]] W fun e w' => ∃ (ua : Option Addr) (uc : Nat) (LR : List RnM), e = .returned (.slice ua B.runs.length uc) ∧ Hid (LR.map RnM.c = B.runs ∧ RunsM w' (.slice ua B.runs.length uc) LR) ∧ Wb.Ext W w' from fun W k => runs_law HI.out.book (by omega) k)
      have a0 := HI.out.a0
      have a1 := HI.out.a1
      have a2 := HI.out.a2
      go_wp2_with fail
      go_fit (HRU.out _ (by (repeat' (first | (with_reducible assumption) | (with_reducible exact Wb.Ext.refl _) | (with_reducible refine Wb.Ext.drew ?_) | (with_reducible refine Wb.Ext.drewN ?_ _) | (with_reducible refine Wb.Ext.alloc ?_ _) | (with_reducible refine Wb.Ext.trans ?_ (by assumption)))))); rintro e wS ⟨sa, sc, WL, rfl, hWL, hxS⟩
      have HXS := Lib.hid (show Wb.Ext wO wS by (repeat' (first | (with_reducible assumption) | (with_reducible exact Wb.Ext.refl _) | (with_reducible refine Wb.Ext.drew ?_) | (with_reducible refine Wb.Ext.drewN ?_ _) | (with_reducible refine Wb.Ext.alloc ?_ _) | (with_reducible refine Wb.Ext.trans ?_ (by assumption)))))
      have x3 := HXS.out.keep (HI.out.ext.keep HXC.out.2.2.2)
      clear hxS a0 a1 a2 d1 n1
      -- the table
      have hmsl := HSMM.out.1
      have HHM := Lib.hid (show HdsM w1 (.slice ma m.hs.length mc) m.hs by rw [← HMV.out]; exact hds_small (HM.out.ext HX1.out) HSMM.out.2)
      obtain ⟨hs, hk1, hk2, hk3⟩ := keysH_of (fun x hx => (HHM.out.each x hx).2)
      have HK1 := Lib.hid hk1
      have HK2 := Lib.hid hk2
      clear hk1 hk2
      go_wp2_with fail
      go_fit (tab_law HHM.out hmsl (HI.out.ext.trans (HXS.out.trans (by (repeat' (first | (with_reducible assumption) | (with_reducible exact Wb.Ext.refl _) | (with_reducible refine Wb.Ext.drew ?_) | (with_reducible refine Wb.Ext.drewN ?_ _) | (with_reducible refine Wb.Ext.alloc ?_ _) | (with_reducible refine Wb.Ext.trans ?_ (by assumption)))))))); rintro e wT ⟨M, rfl, hT, hM1, hM2, hxT⟩
      obtain ⟨lo, hlo⟩ : ∃ lo, lo = wS.heap.size := ⟨_, rfl⟩
      have HT := Lib.hid (show TabH w1 lo wT M m.hs by rw [hlo]; exact hT)
      have hsS : wO.heap.size ≤ lo := by rw [hlo]; exact HXS.out.size
      have HXT := Lib.hid (show Wb.Ext wO wT from HXS.out.trans (by (repeat' (first | (with_reducible assumption) | (with_reducible exact Wb.Ext.refl _) | (with_reducible refine Wb.Ext.drew ?_) | (with_reducible refine Wb.Ext.drewN ?_ _) | (with_reducible refine Wb.Ext.alloc ?_ _) | (with_reducible refine Wb.Ext.trans ?_ (by assumption))))))
      have HXTS := Lib.hid (show Wb.Ext wS wT by (repeat' (first | (with_reducible assumption) | (with_reducible exact Wb.Ext.refl _) | (with_reducible refine Wb.Ext.drew ?_) | (with_reducible refine Wb.Ext.drewN ?_ _) | (with_reducible refine Wb.Ext.alloc ?_ _) | (with_reducible refine Wb.Ext.trans ?_ (by assumption)))))
      have hlT : lo ≤ wT.heap.size := by rw [hlo]; exact HXTS.out.size
      clear hT hM1 hM2 hxT x3 hlo
      -- all persons
      go_wp2_with fail
      go_fit (persons31_any (some M) none m.hs.length 0 (.slice none 0 0) (.slice none 0 0) (fH m.hs) (fun _ => none) _ (HT.out.now.map.ext (by (repeat' (first | (with_reducible assumption) | (with_reducible exact Wb.Ext.refl _) | (with_reducible refine Wb.Ext.drew ?_) | (with_reducible refine Wb.Ext.drewN ?_ _) | (with_reducible refine Wb.Ext.alloc ?_ _) | (with_reducible refine Wb.Ext.trans ?_ (by assumption)))))) (fun _ => rfl) (by omega) (by omega)); rintro e wP ⟨pv, ss, rfl, hss, hsr, hsm, hsl, hxP⟩
      obtain ⟨za, zc, rfl⟩ := hss.shape
      have HSS := Lib.hid hss.tbl
      have HOK : Hid (∀ p ∈ ss, kU32.ok p) := Lib.hid (fun p hp => ((hsm p).1 hp).1)
      have HXP := Lib.hid (show Wb.Ext wT wP by (repeat' (first | (with_reducible assumption) | (with_reducible exact Wb.Ext.refl _) | (with_reducible refine Wb.Ext.drew ?_) | (with_reducible refine Wb.Ext.drewN ?_ _) | (with_reducible refine Wb.Ext.alloc ?_ _) | (with_reducible refine Wb.Ext.trans ?_ (by assumption)))))
      have hsP : wT.heap.size ≤ wP.heap.size := HXP.out.size
      clear hss hsr hsm hxP
      -- what each is paid for
      obtain ⟨n0, hn0⟩ : ∃ n0, wP.heap.size = n0 := ⟨_, rfl⟩
      go_wp2_with fail
      go_loopw [11, 9] (fun iv pv wr => ∃ (k : Nat) (pa : Option Addr) (pc : Nat) (PL : List SsM), k ≤ ss.length ∧ iv = .int .i64 k ∧ pv = .slice pa PL.length pc ∧ PL.length = k ∧ Hid (StP n0 wr (.slice pa PL.length pc) B (ss.take k) PL) ∧ Hid (Wb.Ext wP wr)) (fun iv _ _ => ss.length - (intOf iv).toNat)
      case atStart => exact ⟨0, none, 0, [], Nat.zero_le _, rfl, rfl, rfl, Lib.hid StP.nil, Lib.hid (.refl _)⟩
      case round =>
        obtain ⟨k, pa, pc, PL, hk, rfl, rfl, hpl, HPL, HXL⟩ := hrel
        obtain ⟨wQ, hwz⟩ : ∃ z, z = wr := ⟨_, rfl⟩
        subst hwz
        have HXQ := Lib.hid (HXT.out.trans (HXP.out.trans HXL.out))
        have hsQ : wP.heap.size ≤ wQ.heap.size := HXL.out.size
        have k0 : ∀ x, Wb.Ext wQ x → x.cell? ⟨A, 0, none⟩ = some (.slice ra rl rc) := fun x e => (HXQ.out.trans e).keep HI.out.a0
        have k1 : ∀ x, Wb.Ext wQ x → x.cell? ⟨A, 1, none⟩ = some (.map mp) := fun x e => (HXQ.out.trans e).keep HI.out.a1
        have k2 : ∀ x, Wb.Ext wQ x → x.cell? ⟨A, 2, none⟩ = some (.map mo) := fun x e => (HXQ.out.trans e).keep HI.out.a2
        by_cases hks : k < ss.length
        case pos =>
          obtain ⟨p, hp⟩ := Wb.get_ex hks
          have d3 : decide ((k : Int) < (ss.length : Int)) = true := by simp; omega
          have hki : (k : Int) < (ss.length : Int) := by omega
          have hpo : kU32.ok p := HOK.out p (List.mem_of_getElem? hp)
          have HPD := Lib.hid (show ∀ W, Wb.Ext wQ W → Calls Tryz.prog 15 #[.agg #[.slice ra rl rc, .map mp, .map mo], .int .u32 p] W fun e w' => ∃ (ua : Option Addr) (uc : Nat) (D : List Wb.Sl), e = .returned (.slice ua D.length uc) ∧ Hid (SlR W.heap.size w' (.slice ua D.length uc) D ∧ (∀ s ∈ D, ∀ q, s.v.ownBlock = some q → W.heap.size ≤ q) ∧ D.map Wb.ct = B.paid p) ∧ Wb.Ext W w' from fun W e => by
            refine (paid31_any _ mp mo B ks N p hpo W (HI.out.book.now.ext (HXQ.out.trans e))).mono ?_
            rintro e w' ⟨u, D, rfl, h1, h2, h3, h4⟩
            obtain ⟨ua, uc, rfl⟩ := h1.shape
            exact ⟨ua, uc, D, rfl, Lib.hid ⟨h1, h3, h2⟩, h4⟩)
          have hsb : ss.length ≤ 1000 := by omega
          go_upto_region 15 with (fail)
          refine Code.wp_mono (OnEnd.imp ?_) (st15 _ _ _ _ _ _ _ _ _ _ _ _ _ _ _ _ _ _ _ _ _ _ _ _ _ _ _ _ _ _ _ _ _ _ _ _ _ _ _ _ _ _ _ _ _ _ _ _ _ _ _ _ _ _ _ _ _ _ _ _ _ _ _ _ _ _ _ _ _ _ _ _ _ _ _ _ _ _ _ _ _ _ _ _ _ _ _ _ _ _ _ _ _ _ _ _ _ _ _ _ _ _ _ _ _ _ _ _ _ _ _ _ _ _ _ _ _ _ _ _ _ _ _ _ _ _ _ _ _ _ _ _ _ _ _ _ _ _ _ _ _ _ _ _ _ _ _ _ _ _ _ _ _ _ _ _ _ _ _ _ _ _ _ _ _ _ _ _ _ _ _ wP wQ A n0 k ra za pa rl rc zc pc mp mo B ss PL p hp hsb hpl hn0 HXL.out (by omega) k0 k1 k2 (HSS.out.ext HXL.out) HPL.out HPD.out)
          rintro a' wc ⟨qa, qc, ua, uc, D, u72, u73, u74, u75, u76, u77, u78, u79, u80, rfl, hst, hx6⟩
          (try dsimp only)
          obtain ⟨wV, hwz⟩ : ∃ z, z = wc := ⟨_, rfl⟩
          subst hwz
          have HX6 := Lib.hid hx6
          have htk : ss.take k ++ [p] = ss.take (k + 1) := (take_snoc hp).symm
          rw [htk] at hst
          have hl9 : PL.length + 1 = (PL ++ [(⟨.slice ua D.length uc, D⟩ : SsM)]).length := by simp
          rw [hl9] at hst ⊢
          clear k0 k1 k2 HPD hp hpo hx6 htk
          go_wp2_with fail
          go_roundw
          case rel => exact ⟨k + 1, qa, qc, PL ++ [⟨.slice ua D.length uc, D⟩], by omega, by go_num, rfl, by simp; omega, hst, HX6⟩
          case measure => first | (simp [intOf]; done) | (simp [intOf]; omega)
        obtain rfl : k = ss.length := by omega
        have d3 : decide ((ss.length : Int) < (ss.length : Int)) = false := by simp
        have n3 : ¬ (ss.length : Int) < (ss.length : Int) := by omega
        have HPL2 := Lib.hid (show StP n0 wQ (.slice pa PL.length pc) B ss PL by have := HPL.out; rwa [List.take_length] at this)
        clear hks HPL hk
        have HCX := Lib.hid (HI.out.ext.trans HXQ.out)
        have l0 : ∀ x, Wb.Ext wQ x → x.cell? ⟨X, 0, none⟩ = some (.int .i64 m.y) := fun x e => (HCX.out.trans e).keep HXC.out.1
        have l1 : ∀ x, Wb.Ext wQ x → x.cell? ⟨X, 1, none⟩ = some (.int .i64 m.i) := fun x e => (HCX.out.trans e).keep HXC.out.2.1
        have l2 : ∀ x, Wb.Ext wQ x → x.cell? ⟨X, 2, none⟩ = some (.int .i64 m.k) := fun x e => (HCX.out.trans e).keep HXC.out.2.2.1
        have HDO := Lib.hid (show ∀ W, Wb.Ext wQ W → Calls Tryz.prog 12 #[.agg #[.slice ra rl rc, .map mp, .map mo], .int .i64 m.y, .int .i64 m.i, .int .i64 m.k, .map (some M)] W fun e w' => ∃ (ra' : Option Addr) (rl' rc' : Nat) (mp' mo' : Option Nat) (B' : Wb.Bk) (n1 y1 i1 k1 : Int) (qa : Option Addr) (qc : Nat) (rows : List RwM) (E : Int) (nW : Nat), e = .returned (.tuple #[.agg #[.slice ra' rl' rc', .map mp', .map mo'], .agg #[.int .i64 n1, .int .i64 y1, .int .i64 i1, .int .i64 k1, .slice qa rows.length qc], .int .i64 E]) ∧
    nW = W.heap.size ∧ wO.heap.size ≤ nW ∧ Hid (DidF (fun q => q < nW → Ok0 (fun q => q = A) wO.heap.size lo wT.heap.size q) w' (.slice ra' rl' rc') mp' mo' B B' m.y m.i m.k (SH m.hs) hs ks N ⟨n1, y1, i1, k1, .slice qa rows.length qc, rows⟩ E) ∧ Hid (BkI (al.length + 1) B' (ks ++ hs) (N + (ks).length + hs.length)) ∧ Wb.Ext W w' from fun W e =>
          did_law3 (P := fun q => q = A) (j := al.length) HI.out.book HI.out.ok (by omega) HT.out HI.out.ext.size (fun q hq => by subst hq; omega) hsS (HXQ.out.trans e) (HXP.out.trans (HXL.out.trans e)) HK1.out HK2.out hmsl hk3 (fun p => sh_few HSMM.out.2 p))
        have l0 := l0 wQ (.refl _)
        have l1 := l1 wQ (.refl _)
        have l2 := l2 wQ (.refl _)
        have k0 := k0 wQ (.refl _)
        have k1 := k1 wQ (.refl _)
        have k2 := k2 wQ (.refl _)
        go_wp2_with fail
        go_fit (HDO.out _ (by (repeat' (first | (with_reducible assumption) | (with_reducible exact Wb.Ext.refl _) | (with_reducible refine Wb.Ext.drew ?_) | (with_reducible refine Wb.Ext.drewN ?_ _) | (with_reducible refine Wb.Ext.alloc ?_ _) | (with_reducible refine Wb.Ext.trans ?_ (by assumption)))))); rintro e w9 ⟨ra', rl', rc', mp', mo', B', n1, y1, i1, k9, qa, qc, rows, E, nW, rfl, hnW, hnO, hD9, hI9, hx9⟩
        go_upto_region 17 with (fail)
        refine Wb.wp_at fun wD hwD => ?_
        obtain ⟨C, hC⟩ : ∃ C, w9.heap.size = C := ⟨_, rfl⟩
        have e0 : wD.cell? ⟨C, 0, none⟩ = some (.slice ra' rl' rc') := by rw [hwD, ← hC]; simp [go_sem]
        have e1 : wD.cell? ⟨C, 1, none⟩ = some (.map mp') := by rw [hwD, ← hC]; simp [go_sem]
        have e2 : wD.cell? ⟨C, 2, none⟩ = some (.map mo') := by rw [hwD, ← hC]; simp [go_sem]
        have hxD : Wb.Ext wQ wD := by rw [hwD]; (repeat' (first | (with_reducible assumption) | (with_reducible exact Wb.Ext.refl _) | (with_reducible refine Wb.Ext.drew ?_) | (with_reducible refine Wb.Ext.drewN ?_ _) | (with_reducible refine Wb.Ext.alloc ?_ _) | (with_reducible refine Wb.Ext.trans ?_ (by assumption))))
        have hD := did_at2 (wx := wD) hD9.out (by rw [hwD]; (repeat' (first | (with_reducible exact Kept.refl) | (with_reducible refine Kept.alloc' ?_ _) | (with_reducible refine Kept.setj ?_ ?_) | (dsimp only [Ok0]; omega)))) (fun q hq => by subst hq; exact hlow.1) (fun q hq => by subst hq; omega) hnO
        replace hI9 := hI9.out
        rw [hC]
        clear hwD hC hx9 hD9 hnW hnO
        have HD := Lib.hid hD
        have HXD := Lib.hid hxD
        have HRN := Lib.hid (did_runs hD)
        have HE : Hid (wD.cell? ⟨C, 0, none⟩ = some (.slice ra' rl' rc') ∧ wD.cell? ⟨C, 1, none⟩ = some (.map mp') ∧ wD.cell? ⟨C, 2, none⟩ = some (.map mo')) := Lib.hid ⟨e0, e1, e2⟩
        have hBl2 := hI9.len
        clear hD HDO l0 l1 l2 k0 k1 k2 e0 e1 e2 n3 d3
        -- now
        have HRN2 := Lib.hid (show ∀ W, Wb.Ext wD W → Calls Tryz.prog 28 #[.agg #[.slice ra rl rc, .map mp, .map mo]] W fun e w' => ∃ (ua : Option Addr) (uc : Nat) (LR : List RnM), e = .returned (.slice ua B.runs.length uc) ∧ Hid (LR.map RnM.c = B.runs ∧ RunsM w' (.slice ua B.runs.length uc) LR) ∧ Wb.Ext W w' from fun W e => HRU.out W ((HXQ.out.trans HXD.out).trans e))
        have a0 := HXD.out.keep (HXQ.out.keep HI.out.a0)
        have a1 := HXD.out.keep (HXQ.out.keep HI.out.a1)
        have a2 := HXD.out.keep (HXQ.out.keep HI.out.a2)
        clear hxD
        go_wp2_with fail
        go_fit (HRN2.out _ (by (repeat' (first | (with_reducible assumption) | (with_reducible exact Wb.Ext.refl _) | (with_reducible refine Wb.Ext.drew ?_) | (with_reducible refine Wb.Ext.drewN ?_ _) | (with_reducible refine Wb.Ext.alloc ?_ _) | (with_reducible refine Wb.Ext.trans ?_ (by assumption)))))); rintro e wN ⟨na, nc, NL, rfl, hNL, hxN⟩
        have HXN := Lib.hid (show Wb.Ext wD wN by (repeat' (first | (with_reducible assumption) | (with_reducible exact Wb.Ext.refl _) | (with_reducible refine Wb.Ext.drew ?_) | (with_reducible refine Wb.Ext.drewN ?_ _) | (with_reducible refine Wb.Ext.alloc ?_ _) | (with_reducible refine Wb.Ext.trans ?_ (by assumption)))))
        clear hxN a0 a1 a2 HRN2
        -- the lengths
        have HRC := Lib.hid (show ∀ W, Wb.Ext wN W → Calls Tryz.prog 28 #[.agg #[.slice ra' rl' rc', .map mp', .map mo']] W fun e w' => ∃ (ua : Option Addr) (uc : Nat) (LR : List RnM), e = .returned (.slice ua B'.runs.length uc) ∧ Hid (LR.map RnM.c = B'.runs ∧ RunsM w' (.slice ua B'.runs.length uc) LR) ∧ Wb.Ext W w' from fun W e => runs_law HD.out.book (by omega) (HXN.out.trans e))
        have c0 : ∀ x, Wb.Ext wN x → x.cell? ⟨C, 0, none⟩ = some (.slice ra' rl' rc') := fun x e => (HXN.out.trans e).keep HE.out.1
        have c1 : ∀ x, Wb.Ext wN x → x.cell? ⟨C, 1, none⟩ = some (.map mp') := fun x e => (HXN.out.trans e).keep HE.out.2.1
        have c2 : ∀ x, Wb.Ext wN x → x.cell? ⟨C, 2, none⟩ = some (.map mo') := fun x e => (HXN.out.trans e).keep HE.out.2.2
        have hnl : B.runs.length ≤ 100000 := by omega
        go_upto_region 18 with (fail)
        go_cut [125] (fun bv wx => bv = .bool false ∧ Hid (Wb.Ext wN wx))
        case first =>
          have q1 : ((B.runs.length : Int) != (B.runs.length : Int)) = false := by simp
          have c0 := c0 wN (.refl _)
          have c1 := c1 wN (.refl _)
          have c2 := c2 wN (.refl _)
          by_cases hE0 : E = 0
          · subst hE0
            have hB1 := HRN.out.1 rfl
            have hwr : IntKind.i64.wrap ((B.runs.length : Int) + 1) = (B.runs.length : Int) + 1 := IntWalk.i64_in _ (by omega)
            go_wp2_with fail
            go_fit (HRC.out _ (by (repeat' (first | (with_reducible assumption) | (with_reducible exact Wb.Ext.refl _) | (with_reducible refine Wb.Ext.drew ?_) | (with_reducible refine Wb.Ext.drewN ?_ _) | (with_reducible refine Wb.Ext.alloc ?_ _) | (with_reducible refine Wb.Ext.trans ?_ (by assumption)))))); rintro e wy ⟨ga, gc, LR, rfl, -, hxy⟩
            go_wp2_with fail
            go_meet
            exact ⟨rfl, Lib.hid (by (repeat' (first | (with_reducible assumption) | (with_reducible exact Wb.Ext.refl _) | (with_reducible refine Wb.Ext.drew ?_) | (with_reducible refine Wb.Ext.drewN ?_ _) | (with_reducible refine Wb.Ext.alloc ?_ _) | (with_reducible refine Wb.Ext.trans ?_ (by assumption)))))⟩
          · have hB1 := HRN.out.2.1 hE0
            have g1 : (E == 0) = false := by simpa using hE0
            have g2 : (E != 0) = true := by simpa using hE0
            clear hE0
            go_wp2_with fail
            go_fit (HRC.out _ (by (repeat' (first | (with_reducible assumption) | (with_reducible exact Wb.Ext.refl _) | (with_reducible refine Wb.Ext.drew ?_) | (with_reducible refine Wb.Ext.drewN ?_ _) | (with_reducible refine Wb.Ext.alloc ?_ _) | (with_reducible refine Wb.Ext.trans ?_ (by assumption)))))); rintro e wy ⟨ga, gc, LR, rfl, -, hxy⟩
            go_wp2_with fail
            go_meet
            exact ⟨rfl, Lib.hid (by (repeat' (first | (with_reducible assumption) | (with_reducible exact Wb.Ext.refl _) | (with_reducible refine Wb.Ext.drew ?_) | (with_reducible refine Wb.Ext.drewN ?_ _) | (with_reducible refine Wb.Ext.alloc ?_ _) | (with_reducible refine Wb.Ext.trans ?_ (by assumption)))))⟩
        case rest =>
        obtain ⟨rfl, HXX⟩ := hcut
        obtain ⟨wF, hwz⟩ : ∃ z, z = wc := ⟨_, rfl⟩
        subst hwz
        have HXF := Lib.hid (HXN.out.trans HXX.out)
        clear c0 c1 c2 hnl
        go_wp2_with fail
        -- all runs are the same
        go_loopw [16] (fun iv wr => ∃ k : Nat, k ≤ B.runs.length ∧ iv = .int .i64 k ∧ Hid (Wb.Ext wF wr)) (fun iv _ => B.runs.length - (intOf iv).toNat)
        case atStart => exact ⟨0, Nat.zero_le _, rfl, Lib.hid (.refl _)⟩
        case round =>
          obtain ⟨k, hk, rfl, HXK⟩ := hrel
          obtain ⟨wK, hwz⟩ : ∃ z, z = wr := ⟨_, rfl⟩
          subst hwz
          by_cases hks : k < B.runs.length
          case pos =>
            have HWK := Lib.hid ((HXTS.out.trans (HXP.out.trans (HXL.out.trans (HXD.out.trans (HXF.out.trans HXK.out))))))
            have HNK := Lib.hid (HXX.out.trans HXK.out)
            have hWLl : WL.length = B.runs.length := by rw [← hWL.out.1, List.length_map]
            have hNLl : NL.length = B.runs.length := by rw [← hNL.out.1, List.length_map]
            obtain ⟨x, hx⟩ := Wb.get_ex (show k < WL.length by omega)
            obtain ⟨z, hz, hxz⟩ := rn_at (R := WL) (T := NL) (fun j _ => by rw [hWL.out.1, hNL.out.1]) hx
            have hWT := (hWL.out.2.tab.ext HWK.out)
            rw [← hWLl] at hWT
            obtain ⟨b, off, hb9, hc9⟩ := hWT.opened (by rintro rfl; simp at hx)
            obtain rfl : sa = some ⟨b, off, none⟩ := hb9
            have hNT := (hNL.out.2.tab.ext HNK.out)
            rw [← hNLl] at hNT
            obtain ⟨d, eo, hd9, hf9⟩ := hNT.opened (by rintro rfl; simp at hz)
            obtain rfl : na = some ⟨d, eo, none⟩ := hd9
            have hxr := (hWL.out.2.each x (List.mem_of_getElem? hx)).ext HWK.out
            have hzr := (hNL.out.2.each z (List.mem_of_getElem? hz)).ext HNK.out
            obtain ⟨xa, xc, hxv⟩ := hxr.tab.shape
            obtain ⟨ya, yc, hzv⟩ := hzr.tab.shape
            obtain ⟨q1, q2, q3, q4, -⟩ := same_run hxr hzr hxz
            have HXR := Lib.hid hxr
            have HZR := Lib.hid hzr
            have HXZ := Lib.hid hxz
            have HXV := Lib.hid hxv
            have HZV := Lib.hid hzv
            have p0 := hc9 k x hx 0 _ rfl
            have p1 := hc9 k x hx 1 _ rfl
            have p2 := hc9 k x hx 2 _ rfl
            have p3 := hc9 k x hx 3 _ rfl
            have p4 := hc9 k x hx 4 (.slice xa x.rows.length xc) (by rw [← hxv]; rfl)
            have t0 := hf9 k z hz 0 (.int .i64 x.n) (by rw [← q1]; rfl)
            have t1 := hf9 k z hz 1 (.int .i64 x.y) (by rw [← q2]; rfl)
            have t2 := hf9 k z hz 2 (.int .i64 x.i) (by rw [← q3]; rfl)
            have t3 := hf9 k z hz 3 (.int .i64 x.k) (by rw [← q4]; rfl)
            have t4 := hf9 k z hz 4 (.slice ya z.rows.length yc) (by rw [← hzv]; rfl)
            rw [Nat.add_zero] at p0 t0
            have l0 : ∀ w2, Wb.Ext wK w2 → w2.cell? ⟨b, off + k * 5, none⟩ = some (.int .i64 x.n) := fun w2 e => e.keep p0
            have l1 : ∀ w2, Wb.Ext wK w2 → w2.cell? ⟨b, off + k * 5 + 1, none⟩ = some (.int .i64 x.y) := fun w2 e => e.keep p1
            have l2 : ∀ w2, Wb.Ext wK w2 → w2.cell? ⟨b, off + k * 5 + 2, none⟩ = some (.int .i64 x.i) := fun w2 e => e.keep p2
            have l3 : ∀ w2, Wb.Ext wK w2 → w2.cell? ⟨b, off + k * 5 + 3, none⟩ = some (.int .i64 x.k) := fun w2 e => e.keep p3
            have l4 : ∀ w2, Wb.Ext wK w2 → w2.cell? ⟨b, off + k * 5 + 4, none⟩ = some (.slice xa x.rows.length xc) := fun w2 e => e.keep p4
            have m0 : ∀ w2, Wb.Ext wK w2 → w2.cell? ⟨d, eo + k * 5, none⟩ = some (.int .i64 x.n) := fun w2 e => e.keep t0
            have m1 : ∀ w2, Wb.Ext wK w2 → w2.cell? ⟨d, eo + k * 5 + 1, none⟩ = some (.int .i64 x.y) := fun w2 e => e.keep t1
            have m2 : ∀ w2, Wb.Ext wK w2 → w2.cell? ⟨d, eo + k * 5 + 2, none⟩ = some (.int .i64 x.i) := fun w2 e => e.keep t2
            have m3 : ∀ w2, Wb.Ext wK w2 → w2.cell? ⟨d, eo + k * 5 + 3, none⟩ = some (.int .i64 x.k) := fun w2 e => e.keep t3
            have m4 : ∀ w2, Wb.Ext wK w2 → w2.cell? ⟨d, eo + k * 5 + 4, none⟩ = some (.slice ya z.rows.length yc) := fun w2 e => e.keep t4
            have c0 : ∀ w2, Wb.Ext wK w2 → w2.cell? ⟨C, 0, none⟩ = some (.slice ra' rl' rc') := fun w2 e => (HXF.out.trans (HXK.out.trans e)).keep HE.out.1
            have c1 : ∀ w2, Wb.Ext wK w2 → w2.cell? ⟨C, 1, none⟩ = some (.map mp') := fun w2 e => (HXF.out.trans (HXK.out.trans e)).keep HE.out.2.1
            have c2 : ∀ w2, Wb.Ext wK w2 → w2.cell? ⟨C, 2, none⟩ = some (.map mo') := fun w2 e => (HXF.out.trans (HXK.out.trans e)).keep HE.out.2.2
            have HS1 := Lib.hid (show ∀ W, Wb.Ext wK W → Calls Tryz.prog 22 #[.agg #[.int .i64 x.n, .int .i64 x.y, .int .i64 x.i, .int .i64 x.k, .slice xa x.rows.length xc], .agg #[.int .i64 x.n, .int .i64 x.y, .int .i64 x.i, .int .i64 x.k, .slice ya z.rows.length yc]] W fun e w' => e = .returned (.bool true) ∧ Wb.Ext W w' from fun W e => by
              rw [← HXV.out, ← HZV.out]; exact (same_run (HXR.out.ext e) (HZR.out.ext e) HXZ.out).2.2.2.2)
            have HR9 := Lib.hid (show ∀ W, Wb.Ext wK W → Calls Tryz.prog 28 #[.agg #[.slice ra' rl' rc', .map mp', .map mo']] W fun e w' => ∃ (g go gl gc : Nat) (za : Option Addr) (zl zc : Nat), e = .returned (.slice (some ⟨g, go, none⟩) gl gc) ∧ (k : Int) < gl ∧ w'.cell? ⟨g, go + k * 5, none⟩ = some (.int .i64 x.n) ∧ w'.cell? ⟨g, go + k * 5 + 1, none⟩ = some (.int .i64 x.y) ∧ w'.cell? ⟨g, go + k * 5 + 2, none⟩ = some (.int .i64 x.i) ∧ w'.cell? ⟨g, go + k * 5 + 3, none⟩ = some (.int .i64 x.k) ∧ w'.cell? ⟨g, go + k * 5 + 4, none⟩ = some (.slice za zl zc) ∧ Hid (∀ W2, Wb.Ext w' W2 → Calls Tryz.prog 22 #[.agg #[.int .i64 x.n, .int .i64 x.y, .int .i64 x.i, .int .i64 x.k, .slice za zl zc], .agg #[.int .i64 x.n, .int .i64 x.y, .int .i64 x.i, .int .i64 x.k, .slice xa x.rows.length xc]] W2 fun e w3 => e = .returned (.bool true) ∧ Wb.Ext W2 w3) ∧ Wb.Ext W w' from fun W e => by
              refine (HRC.out W (HNK.out.trans e)).mono ?_
              rintro e2 w' ⟨ga, gc, LR, rfl, hLR, h3⟩
              obtain ⟨y, hy, hxy⟩ := rn_at (R := WL) (T := LR) (fun j hj9 => by rw [hWL.out.1, hLR.out.1]; exact (HRN.out.2.2 j (by omega)).symm) hx
              have hyr := hLR.out.2.each y (List.mem_of_getElem? hy)
              have hLl : LR.length = B'.runs.length := by rw [← hLR.out.1, List.length_map]
              have hkL := (List.getElem?_eq_some_iff.1 hy).1
              have hYT := hLR.out.2.tab
              rw [← hLl] at hYT
              obtain ⟨g, go, hg9, hh9⟩ := hYT.opened (by rintro rfl; simp at hy)
              subst hg9
              obtain ⟨fa, fc, hyv⟩ := hyr.tab.shape
              obtain ⟨s1, s2, s3, s4, -⟩ := same_run (HXR.out.ext (e.trans h3)) hyr hxy
              refine ⟨g, go, _, gc, fa, y.rows.length, fc, rfl, by omega, ?_, ?_, ?_, ?_, ?_, Lib.hid (fun W2 e9 => ?_), h3⟩
              · have := hh9 k y hy 0 (.int .i64 x.n) (by rw [← s1]; rfl); rwa [Nat.add_zero] at this
              · exact hh9 k y hy 1 (.int .i64 x.y) (by rw [← s2]; rfl)
              · exact hh9 k y hy 2 (.int .i64 x.i) (by rw [← s3]; rfl)
              · exact hh9 k y hy 3 (.int .i64 x.k) (by rw [← s4]; rfl)
              · exact hh9 k y hy 4 (.slice fa y.rows.length fc) (by rw [← hyv]; rfl)
              · have hfin := (same_run (x := y) (z := x) (hyr.ext e9) (HXR.out.ext ((e.trans h3).trans e9)) hxy.symm).2.2.2.2
                rw [hyv, HXV.out, s1, s2, s3, s4] at hfin
                exact hfin)
            have hki : (k : Int) < (B.runs.length : Int) := by omega
            have d4 : decide ((k : Int) < (B.runs.length : Int)) = true := by simp; omega
            clear hc9 hf9 hWT hNT hxr hzr hxv hzv q1 q2 q3 q4 p0 p1 p2 p3 p4 t0 t1 t2 t3 t4 hx hz hxz
            go_upto_region 23 with (fail)
            refine Code.wp_mono (OnEnd.imp ?_) (st23 _ _ _ _ _ _ _ _ _ _ _ _ _ _ _ _ _ _ _ _ _ _ _ _ _ _ _ _ _ _ _ _ _ _ _ _ _ _ _ _ _ _ _ _ _ _ _ _ _ _ _ _ _ _ _ _ _ _ _ _ _ _ _ _ _ _ _ _ _ _ _ _ _ _ _ _ _ _ _ _ _ _ _ _ _ _ _ _ _ _ _ _ _ _ _ _ _ _ _ _ _ _ _ _ _ _ _ _ _ _ _ _ _ _ _ _ _ _ _ _ _ _ _ _ _ _ _ _ _ _ _ _ _ _ _ _ _ _ _ _ _ _ _ _ _ _ _ _ _ _ _ _ _ _ _ _ _ _ _ _ _ _ _ _ _ _ _ _ _ _ _ wK b off sc d eo nc B.runs.length k C x.rows.length xc z.rows.length yc rl' rc' xa ya ra' mp' mo' x.n x.y x.i x.k hki l0 l1 l2 l3 l4 m0 m1 m2 m3 m4 c0 c1 c2 HS1.out HR9.out)
            rintro a' wx ⟨u132, u133, u134, u135, u136, u137, u138, u139, u140, u141, u142, u143, u144, u145, u146, u147, u148, u149, u150, u151, u152, u153, rfl, hxx⟩
            (try dsimp only)
            have HXY := Lib.hid (HXK.out.trans hxx)
            clear l0 l1 l2 l3 l4 m0 m1 m2 m3 m4 c0 c1 c2 HS1 HR9 hxx
            go_wp2
            go_roundw
            case rel => exact ⟨k + 1, by omega, by go_num, HXY⟩
            case measure => first | (simp [intOf]; done) | (simp [intOf]; omega)
          obtain rfl : k = B.runs.length := by omega
          have d4 : decide ((B.runs.length : Int) < (B.runs.length : Int)) = false := by simp
          have n4 : ¬ (B.runs.length : Int) < (B.runs.length : Int) := by omega
          have HXG := Lib.hid (HXD.out.trans (HXF.out.trans HXK.out))
          have HXGO := Lib.hid (HXQ.out.trans HXG.out)
          clear hks hk
          go_wp2_with fail
          -- what each is paid for
          go_loopw [17] (fun iv wr => ∃ k : Nat, k ≤ ss.length ∧ iv = .int .i64 k ∧ Hid (Wb.Ext wK wr)) (fun iv _ => ss.length - (intOf iv).toNat)
          case atStart => exact ⟨0, Nat.zero_le _, rfl, Lib.hid (.refl _)⟩
          case round =>
            obtain ⟨k, hk, rfl, HXM⟩ := hrel
            obtain ⟨wL, hwz⟩ : ∃ z, z = wr := ⟨_, rfl⟩
            subst hwz
            by_cases hks : k < ss.length
            case neg =>
              obtain rfl : k = ss.length := by omega
              have d5 : decide ((ss.length : Int) < (ss.length : Int)) = false := by simp
              have n5 : ¬ (ss.length : Int) < (ss.length : Int) := by omega
              clear hks hk
              go_wp2_with fail
              go_fit (awake31_any _); rintro e wz5 ⟨rfl, hz5⟩
              have HZ5 := Lib.hid (show Wb.Ext w wz5 from HX1.out.trans (HI.out.ext.trans (HXGO.out.trans (HXM.out.trans (by (repeat' (first | (with_reducible assumption) | (with_reducible exact Wb.Ext.refl _) | (with_reducible refine Wb.Ext.drew ?_) | (with_reducible refine Wb.Ext.drewN ?_ _) | (with_reducible refine Wb.Ext.alloc ?_ _) | (with_reducible refine Wb.Ext.trans ?_ (by assumption)))))))))
              clear hz5
              go_wp2
              exact bodyPost_ret (v := .bool true) (by simp [results, Tryz.results10, go_sem]) rfl ⟨rfl, HZ5.out⟩
            obtain ⟨p, hp⟩ := Wb.get_ex hks
            obtain ⟨y, hy⟩ := Wb.get_ex (show k < PL.length by omega)
            have hpo : kU32.ok p := HOK.out p (List.mem_of_getElem? hp)
            have HST := Lib.hid (HPL2.out.ext (HXG.out.trans HXM.out))
            have HYL := Lib.hid (HST.out.each y (List.mem_of_getElem? hy) wL .refl)
            have hyp : y.L.map Wb.ct = B.paid p := by
              have h9 := HPL2.out.paid
              have h8 : (PL.map fun x => x.L.map Wb.ct)[k]? = (ss.map B.paid)[k]? := by rw [h9]
              rw [List.getElem?_map, List.getElem?_map, hy, hp] at h8
              exact Option.some.inj h8
            obtain ⟨b, off, cap, hvv, hc⟩ := look_tbl (HSS.out.ext (HXL.out.trans (HXG.out.trans HXM.out))) hp
            cases hvv
            have hrt := row_tbl ssv_len (by decide) HST.out.row
            obtain ⟨d, eo, hd9, hf9⟩ := hrt.opened (by rintro rfl; simp at hy)
            obtain rfl : pa = some ⟨d, eo, none⟩ := hd9
            obtain ⟨ya, yc, hyv⟩ := HYL.out.1.shape
            have hf0 := hf9 k y hy 0 (.slice ya y.L.length yc) (by rw [← hyv]; rfl)
            rw [Nat.add_zero, Nat.mul_one] at hf0
            have HYV := Lib.hid (show Sls wL (.slice ya y.L.length yc) y.L by rw [← hyv]; exact HYL.out)
            have hfew : (B.paid p).length ≤ 60 := HI.out.ok.few p
            have HPA := Lib.hid (show ∀ W, Wb.Ext wL W → Calls Tryz.prog 15 #[.agg #[.slice ra rl rc, .map mp, .map mo], .int .u32 p] W fun e w' => ∃ (ua : Option Addr) (uc : Nat) (D : List Wb.Sl), e = .returned (.slice ua D.length uc) ∧ Hid (Sls w' (.slice ua D.length uc) D ∧ D.map Wb.ct = y.L.map Wb.ct ∧ D.length ≤ 60) ∧ Wb.Ext W w' from fun W e => by
              refine (paid31_any _ mp mo B ks N p hpo W (HI.out.book.now.ext (HXGO.out.trans (HXM.out.trans e)))).mono ?_
              rintro e w' ⟨u, D, rfl, h1, h2, -, h4⟩
              obtain ⟨ua, uc, rfl⟩ := h1.shape
              exact ⟨ua, uc, D, rfl, Lib.hid ⟨h1.sls, h2.trans hyp.symm, by rw [← List.length_map (f := Wb.ct), h2]; exact hfew⟩, h4⟩)
            have l0 : ∀ x, Wb.Ext wL x → x.cell? ⟨b, off + k, none⟩ = some (.int .u32 p) := fun x e => e.keep hc
            have m0 : ∀ x, Wb.Ext wL x → x.cell? ⟨d, eo + k, none⟩ = some (.slice ya y.L.length yc) := fun x e => e.keep hf0
            have k0 : ∀ x, Wb.Ext wL x → x.cell? ⟨A, 0, none⟩ = some (.slice ra rl rc) := fun x e => (HXGO.out.trans (HXM.out.trans e)).keep HI.out.a0
            have k1 : ∀ x, Wb.Ext wL x → x.cell? ⟨A, 1, none⟩ = some (.map mp) := fun x e => (HXGO.out.trans (HXM.out.trans e)).keep HI.out.a1
            have k2 : ∀ x, Wb.Ext wL x → x.cell? ⟨A, 2, none⟩ = some (.map mo) := fun x e => (HXGO.out.trans (HXM.out.trans e)).keep HI.out.a2
            have d5 : decide ((k : Int) < (ss.length : Int)) = true := by simp; omega
            have hki : (k : Int) < (ss.length : Int) := by omega
            have hkp : (k : Int) < (PL.length : Int) := by omega
            clear hf9 hrt hyv hf0 hc hp hy hyp hfew
            go_wp2_with fail
            go_region_held_law (fun x => Wb.Ext wL x) ((repeat' (first | (with_reducible assumption) | (with_reducible exact Wb.Ext.refl _) | (with_reducible refine Wb.Ext.drew ?_) | (with_reducible refine Wb.Ext.drewN ?_ _) | (with_reducible refine Wb.Ext.alloc ?_ _) | (with_reducible refine Wb.Ext.trans ?_ (by assumption))))) (first
              | (go_at_call 15; refine (HPA.out _ (by (repeat' (first | (with_reducible assumption) | (with_reducible exact Wb.Ext.refl _) | (with_reducible refine Wb.Ext.drew ?_) | (with_reducible refine Wb.Ext.drewN ?_ _) | (with_reducible refine Wb.Ext.alloc ?_ _) | (with_reducible refine Wb.Ext.trans ?_ (by assumption)))))).mono ?_; rintro e wp ⟨ua, uc, D, rfl, hDD, hxp⟩)
              | (go_at_call 24; refine (all31_eq _ _ D y.L _ (hDD.out.1.ext (by (repeat' (first | (with_reducible assumption) | (with_reducible exact Wb.Ext.refl _) | (with_reducible refine Wb.Ext.drew ?_) | (with_reducible refine Wb.Ext.drewN ?_ _) | (with_reducible refine Wb.Ext.alloc ?_ _) | (with_reducible refine Wb.Ext.trans ?_ (by assumption)))))) (HYV.out.ext (by (repeat' (first | (with_reducible assumption) | (with_reducible exact Wb.Ext.refl _) | (with_reducible refine Wb.Ext.drew ?_) | (with_reducible refine Wb.Ext.drewN ?_ _) | (with_reducible refine Wb.Ext.alloc ?_ _) | (with_reducible refine Wb.Ext.trans ?_ (by assumption)))))) hDD.out.2.1 (by have := hDD.out.2.2; omega)).mono ?_; rintro e ws ⟨rfl, hxs⟩))
            all_goals
              go_wp2
              go_roundw
              case rel => exact ⟨k + 1, by omega, by go_num, Lib.hid (HXM.out.trans (by (repeat' (first | (with_reducible assumption) | (with_reducible exact Wb.Ext.refl _) | (with_reducible refine Wb.Ext.drew ?_) | (with_reducible refine Wb.Ext.drewN ?_ _) | (with_reducible refine Wb.Ext.alloc ?_ _) | (with_reducible refine Wb.Ext.trans ?_ (by assumption))))))⟩
              case measure => first | (simp [intOf]; done) | (simp [intOf]; omega)
    obtain ⟨a, ha⟩ := Wb.get_ex hlt
    have hmem := List.mem_of_getElem? ha
    have hHW := (HA.out.each a hmem).ext HX1.out
    obtain ⟨xa, xc, hav⟩ := hHW.tab.shape
    obtain ⟨b, off, hb9, hc⟩ := (HA.out.tab.ext HX1.out).opened (by rintro rfl; simp at ha)
    obtain rfl : va = some ⟨b, off, none⟩ := hb9
    have c0 := hc j a ha 0 _ rfl
    have c1 := hc j a ha 1 _ rfl
    have c2 := hc j a ha 2 _ rfl
    have c3 := hc j a ha 3 (.slice xa a.hs.length xc) (by rw [← hav]; rfl)
    rw [Nat.add_zero] at c0
    have l0 : ∀ w2, Wb.Ext wO w2 → w2.cell? ⟨b, off + j * 4, none⟩ = some (.int .i64 a.y) := fun w2 k => (HI.out.ext.trans k).keep c0
    have l1 : ∀ w2, Wb.Ext wO w2 → w2.cell? ⟨b, off + j * 4 + 1, none⟩ = some (.int .i64 a.i) := fun w2 k => (HI.out.ext.trans k).keep c1
    have l2 : ∀ w2, Wb.Ext wO w2 → w2.cell? ⟨b, off + j * 4 + 2, none⟩ = some (.int .i64 a.k) := fun w2 k => (HI.out.ext.trans k).keep c2
    have l3 : ∀ w2, Wb.Ext wO w2 → w2.cell? ⟨b, off + j * 4 + 3, none⟩ = some (.slice xa a.hs.length xc) := fun w2 k => (HI.out.ext.trans k).keep c3
    have k0 : ∀ w2, Wb.Ext wO w2 → w2.cell? ⟨A, 0, none⟩ = some (.slice ra rl rc) := fun w2 k => k.keep HI.out.a0
    have k1 : ∀ w2, Wb.Ext wO w2 → w2.cell? ⟨A, 1, none⟩ = some (.map mp) := fun w2 k => k.keep HI.out.a1
    have k2 : ∀ w2, Wb.Ext wO w2 → w2.cell? ⟨A, 2, none⟩ = some (.map mo) := fun w2 k => k.keep HI.out.a2
    have kf : ∀ x, Wb.Ext wO x → ∀ i, x.frozen? ⟨A, i, none⟩ = false := fun x k i => (k.cells.2 _ _ hlow.1).trans (HI.out.af i)
    have hji : (j : Int) < al.length := by omega
    have d1 : decide ((j : Int) < (al.length : Int)) = true := by simp; omega
    have hsa := HSMA.out a hmem
    have HSA := Lib.hid hsa.2
    have hsl := hsa.1
    have HH := Lib.hid (show HdsM w1 (.slice xa a.hs.length xc) a.hs by rw [← hav]; exact hds_small hHW hsa.2)
    obtain ⟨hs, hk1, hk2, hk3⟩ := keysH_of (fun x hx => (hHW.each x hx).2)
    clear ha hmem hHW hav hc hsa hlt c0 c1 c2 c3
    have HT := Lib.hid (show ∀ W, Wb.Ext wO W → Calls Tryz.prog 20 #[.slice xa a.hs.length xc] W fun e w' => ∃ M lo, e = .returned (.map (some M)) ∧ lo = W.heap.size ∧ Hid (TabH w1 lo w' M a.hs) ∧ wO.heap.size ≤ lo ∧ lo ≤ M ∧ M < w'.heap.size ∧ Wb.Ext W w' from fun W k => by
      refine (tab_law HH.out hsl (HI.out.ext.trans k)).mono ?_
      rintro e w' ⟨M, rfl, h1, h2, h3, h4⟩
      exact ⟨M, W.heap.size, rfl, rfl, Lib.hid h1, k.size, h2, h3, h4⟩)
    have HDO := Lib.hid (show ∀ W' W lo M, Hid (TabH w1 lo W' M a.hs) → wO.heap.size ≤ lo → Wb.Ext wO W → Wb.Ext W' W → Calls Tryz.prog 12 #[.agg #[.slice ra rl rc, .map mp, .map mo], .int .i64 a.y, .int .i64 a.i, .int .i64 a.k, .map (some M)] W fun e w' => ∃ (ra' : Option Addr) (rl' rc' : Nat) (mp' mo' : Option Nat) (B' : Wb.Bk) (n1 y1 i1 k1 : Int) (qa : Option Addr) (qc : Nat) (rows : List RwM) (E : Int) (nW : Nat), e = .returned (.tuple #[.agg #[.slice ra' rl' rc', .map mp', .map mo'], .agg #[.int .i64 n1, .int .i64 y1, .int .i64 i1, .int .i64 k1, .slice qa rows.length qc], .int .i64 E]) ∧
        nW = W.heap.size ∧ wO.heap.size ≤ nW ∧ Hid (DidF (fun q => q < nW → Ok0 (fun q => q = A) wO.heap.size lo W'.heap.size q) w' (.slice ra' rl' rc') mp' mo' B B' a.y a.i a.k (SH a.hs) hs ks N ⟨n1, y1, i1, k1, .slice qa rows.length qc, rows⟩ E) ∧ Hid (BkI (j + 1) B' (ks ++ hs) (N + (ks).length + hs.length)) ∧ Wb.Ext W w' from fun W' W lo M h1 h2 h3 h4 => by
      refine (did_law (P := fun q => q = A) (j := j) HI.out.book HI.out.ok (by omega) h1.out HI.out.ext.size (fun q hq => by omega) h2 h3 h4 hk1 hk2 hsl hk3 (fun p => sh_few HSA.out p)).mono ?_
      rintro e w' ⟨ra', rl', rc', mp', mo', B', n1, y1, i1, k1, qa, qc, rows, E, rfl, h5, h6, h7⟩
      exact ⟨ra', rl', rc', mp', mo', B', n1, y1, i1, k1, qa, qc, rows, E, W.heap.size, rfl, rfl, h3.size, Lib.hid h5, Lib.hid h6, h7⟩)
    clear hk1 hk2
    go_upto_region 7 with (fail)
    refine Code.wp_mono (OnEnd.imp ?_) (st7 _ _ _ _ _ _ _ _ _ _ _ _ _ _ _ _ _ _ _ _ _ _ _ _ _ _ _ _ _ _ _ _ _ _ _ _ _ _ _ _ _ _ _ _ _ _ _ _ _ _ _ _ _ _ _ _ _ _ _ _ _ _ _ _ _ _ _ _ _ _ _ _ _ _ _ _ _ _ _ _ _ _ _ _ _ _ _ _ _ _ _ _ _ _ _ _ _ _ _ _ _ _ _ _ _ _ _ _ _ _ _ _ _ _ _ _ _ _ _ _ _ _ _ _ _ _ _ _ _ _ _ _ _ _ _ _ _ _ _ _ _ _ _ _ _ _ _ _ _ _ _ _ _ _ _ _ _ _ _ _ _ _ _ _ _ _ _ _ _ _ _ _ w1 wO b off vc j al.length xa ra xc rl rc N mp mo B ks hs a A hji hlow.1 (fun q hq => by subst hq; exact hlow.1) l0 l1 l2 l3 k0 k1 k2 kf HT.out HDO.out)
    rintro a' wc ⟨ra', rl', rc', mp', mo', B', n1, y1, i1, k9, qa, qc, rows, E, u32, u33, u34, u35, u36, u37, u38, u39, u40, u41, u42, u43, u44, u45, u46, u47, u48, u49, u50, u51, u52, u53, u54, u55, u56, u57, u58, rfl, hI9, hD, e0, e1, e2, ef, hkA⟩
    (try dsimp only)
    have HN : Hid (ApI w1 (fun q => q = A) A (j + 1) wc ra' rl' rc' mp' mo' B' (ks ++ hs) (N + ks.length + hs.length)) := Lib.hid
      ⟨e0, e1, e2, ef, hD.book, hI9.out, ⟨Nat.lt_of_lt_of_le hlow.1 hkA.size, hlow.2⟩, hkA.old HI.out.ext (fun i hi => by omega)⟩
    clear hD HT HDO l0 l1 l2 l3 k0 k1 k2 kf e0 e1 e2 ef hkA
    go_wp2_with fail
    go_roundw
    case rel => exact ⟨j + 1, ra', rl', rc', mp', mo', B', ks ++ hs, N + ks.length + hs.length, by omega, by go_num, HN⟩
    case measure => first | (simp [intOf]; done) | (simp [intOf]; omega)
end Go.Proofs.YtnefdpnolojojaaGreat
