/- The walk of RunTwice. -/
import Derived.Test.YtnefdpnolojojaaGreatTw17
import Derived.Test.YtnefdpnolojojaaGreatMAw
import Derived.Deep.RegionHeldLaw
namespace Go.Proofs.YtnefdpnolojojaaGreat
open Go.RowKit Go.Sort Go.Lib Go.Maps
set_option maxRecDepth 8000
attribute [local go_sem ↓] Go.wp_at_zero Go.wp_at_succ

/-- a book's box that is as it was made -/
structure TwI (A M : Nat) (WB : World) (al : List AcM) (j : Nat) (wr : World) (B : Wb.Bk) : Prop where
  kept : Kept (fun q => ¬ (q = A ∨ q = M)) WB wr
  size : WB.heap.size ≤ wr.heap.size
  last : j = 0 ∨ ∃ a, al[j - 1]? = some a ∧ ∀ p, B.paid p = Wb.fullC (SH a.hs p)
set_option maxHeartbeats 100000000 in
theorem twice31_any (v : Value) (al : List AcM) (w : World) (h : ActsM w v al) (hz : FitA al) :
    Calls Tryz.prog 5 #[v] w fun e w' => e = .returned (.bool true) ∧ Wb.Ext w w' := by
  obtain ⟨va, vc, rfl⟩ := h.tab.shape
  have HA := Lib.hid h
  have HZ := Lib.hid hz
  clear h hz
  have hmm := @run_makeMap Tryz.prog
  go_enter Tryz.func5, Tryz.ntmps5
  go_wp2_with fail
  go_fit (great31_any _ al _ (HA.out.ext (by (repeat' (first | (with_reducible assumption) | (with_reducible exact Wb.Ext.refl _) | (with_reducible refine Wb.Ext.drew ?_) | (with_reducible refine Wb.Ext.drewN ?_ _) | (with_reducible refine Wb.Ext.alloc ?_ _) | (with_reducible refine Wb.Ext.trans ?_ (by assumption)))))) HZ.out); rintro e w1 ⟨g, rfl, hg, hx1⟩
  have HX1 := Lib.hid (show Wb.Ext w w1 by (repeat' (first | (with_reducible assumption) | (with_reducible exact Wb.Ext.refl _) | (with_reducible refine Wb.Ext.drew ?_) | (with_reducible refine Wb.Ext.drewN ?_ _) | (with_reducible refine Wb.Ext.alloc ?_ _) | (with_reducible refine Wb.Ext.trans ?_ (by assumption)))))
  clear hx1
  cases g
  case true =>
    clear hg
    go_wp2_with fail
    go_fit (awake31_any _); rintro e wz2 ⟨rfl, hz2⟩
    have HZ2 := Lib.hid (show Wb.Ext w wz2 from HX1.out.trans (by (repeat' (first | (with_reducible assumption) | (with_reducible exact Wb.Ext.refl _) | (with_reducible refine Wb.Ext.drew ?_) | (with_reducible refine Wb.Ext.drewN ?_ _) | (with_reducible refine Wb.Ext.alloc ?_ _) | (with_reducible refine Wb.Ext.trans ?_ (by assumption))))))
    clear hz2
    go_wp2
    exact bodyPost_ret (v := .bool true) (by simp [results, Tryz.results5, go_sem]) rfl ⟨rfl, HZ2.out⟩

  case false =>
  have HSM := Lib.hid (hg rfl)
  clear hg
  have hal := HSM.out.1
  by_cases hl2 : al.length < 2
  case pos =>
    have d2 : decide ((al.length : Int) < 2) = true := by simp; omega
    go_wp2_with fail
    go_fit (awake31_any _); rintro e wz2 ⟨rfl, hz2⟩
    have HZ2 := Lib.hid (show Wb.Ext w wz2 from HX1.out.trans (by (repeat' (first | (with_reducible assumption) | (with_reducible exact Wb.Ext.refl _) | (with_reducible refine Wb.Ext.drew ?_) | (with_reducible refine Wb.Ext.drewN ?_ _) | (with_reducible refine Wb.Ext.alloc ?_ _) | (with_reducible refine Wb.Ext.trans ?_ (by assumption))))))
    clear hz2
    go_wp2
    exact bodyPost_ret (v := .bool true) (by simp [results, Tryz.results5, go_sem]) rfl ⟨rfl, HZ2.out⟩

  have d2 : decide ((al.length : Int) < 2) = false := by simp; omega
  have n2 : ¬ (al.length : Int) < 2 := by omega
  obtain ⟨J, hJ⟩ : ∃ J, J + 1 = al.length := ⟨al.length - 1, by omega⟩
  obtain ⟨z, hza⟩ := Wb.get_ex (show J < al.length by omega)
  have hzm := List.mem_of_getElem? hza
  have hZW := HA.out.each z hzm
  obtain ⟨ya, yc, hzv⟩ := hZW.tab.shape
  obtain ⟨b, off, hb, hc⟩ := HA.out.tab.opened (by rintro rfl; simp at hza)
  obtain rfl : va = some ⟨b, off, none⟩ := hb
  have c0 := HX1.out.keep (hc J z hza 0 _ rfl)
  have c1 := HX1.out.keep (hc J z hza 1 _ rfl)
  have c2 := HX1.out.keep (hc J z hza 2 _ rfl)
  have c3 := HX1.out.keep (hc J z hza 3 (.slice ya z.hs.length yc) (by rw [← hzv]; rfl))
  rw [Nat.add_zero] at c0
  have hjw : IntKind.i64.wrap ((al.length : Int) - 1) = (J : Int) := by rw [show ((al.length : Int) - 1) = (J : Int) by omega]; exact IntWalk.i64_in _ (by omega)
  have hji : (J : Int) < al.length := by omega
  have hzs := HSM.out.2 z hzm
  have HZA := Lib.hid hzs.2
  have hzl := hzs.1
  have HHZ := Lib.hid (show HdsM w (.slice ya z.hs.length yc) z.hs by rw [← hzv]; exact hds_small hZW hzs.2)
  have HZK := Lib.hid (fun x hx => (hZW.each x hx).2)
  have HZJ := Lib.hid hza
  clear hza hzm hZW hzv hc hzs
  go_upto_region 6 with (fail)
  refine Wb.wp_at fun WB hWB => ?_
  obtain ⟨Z, hZ⟩ : ∃ Z, w1.heap.size = Z := ⟨_, rfl⟩
  obtain ⟨A, hA⟩ : ∃ A, Z + 1 = A := ⟨_, rfl⟩
  have hZA : Z < A := by omega
  have hzw : w.heap.size ≤ Z := by rw [← hZ]; exact HX1.out.size
  obtain ⟨Q, hQ⟩ : ∃ Q, A + 1 = Q := ⟨_, rfl⟩
  obtain ⟨U, hM⟩ : ∃ U, Q + 1 = U := ⟨_, rfl⟩
  have hAQ : A < Q ∧ Q < U := by omega
  have z0 : WB.cell? ⟨Z, 0, none⟩ = some (.int .i64 z.y) := by rw [hWB, ← hZ]; simp [go_sem]
  have z1 : WB.cell? ⟨Z, 1, none⟩ = some (.int .i64 z.i) := by rw [hWB, ← hZ]; simp [go_sem]
  have z2 : WB.cell? ⟨Z, 2, none⟩ = some (.int .i64 z.k) := by rw [hWB, ← hZ]; simp [go_sem]
  have z3 : WB.cell? ⟨Z, 3, none⟩ = some (.slice ya z.hs.length yc) := by rw [hWB, ← hZ]; simp [go_sem]
  have b0 : WB.cell? ⟨Q, 0, none⟩ = some (.slice none 0 0) := by rw [hWB, ← hQ, ← hA, ← hZ]; simp [go_sem]
  have b1 : WB.cell? ⟨Q, 1, none⟩ = some (.map none) := by rw [hWB, ← hQ, ← hA, ← hZ]; simp [go_sem]
  have b2 : WB.cell? ⟨Q, 2, none⟩ = some (.map none) := by rw [hWB, ← hQ, ← hA, ← hZ]; simp [go_sem]
  have hsB : U < WB.heap.size := by rw [hWB, ← hM, ← hQ, ← hA, ← hZ]; simp
  have HI : Hid (SumI w A U 0 WB none 0 0 none none Wb.noBk [] 0 (fun _ => 0)) := Lib.hid (by
    refine ⟨by rw [hWB, ← hA, ← hZ]; simp [go_sem], by rw [hWB, ← hA, ← hZ]; simp [go_sem], by rw [hWB, ← hA, ← hZ]; simp [go_sem], fun j => by rw [hWB, ← hA, ← hZ]; simp [go_sem], bk_none _ _, bki_none, ⟨fun _ => none, ?_, fun p hp => rfl⟩, (fun p => rfl), (fun p => ⟨Int.le_refl _, by simp⟩), ⟨by omega, by omega, by omega, by omega⟩, HX1.out.trans (by rw [hWB]; (repeat' (first | (with_reducible assumption) | (with_reducible exact Wb.Ext.refl _) | (with_reducible refine Wb.Ext.drew ?_) | (with_reducible refine Wb.Ext.drewN ?_ _) | (with_reducible refine Wb.Ext.alloc ?_ _) | (with_reducible refine Wb.Ext.trans ?_ (by assumption)))))⟩
    rw [hWB]
    exact kmap_made kU32 _ (.int .i64 0) U (by simp [← hM, ← hQ, ← hA, ← hZ]))
  have HTW : Hid (TwI A U WB al 0 WB Wb.noBk) := Lib.hid ⟨.refl, Nat.le_refl _, .inl rfl⟩
  simp only [hZ, hA, hQ, hM]
  clear hWB hmm c0 c1 c2 c3
  clear hZ hA hQ hM
  go_wp2_with fail
  go_loopw [7] (fun iv wr => ∃ (j : Nat) (ra : Option Addr) (rl rc : Nat) (mp mo : Option Nat) (B : Wb.Bk) (ks : List Int) (N : Nat) (sum : Int → Int), j ≤ al.length ∧ iv = .int .i64 j ∧ Hid (SumI w A U j wr ra rl rc mp mo B ks N sum) ∧ Hid (TwI A U WB al j wr B)) (fun iv _ => al.length - (intOf iv).toNat)
  case atStart => exact ⟨0, none, 0, 0, none, none, Wb.noBk, [], 0, fun _ => 0, Nat.zero_le _, rfl, HI, HTW⟩
  case round =>
    clear HI HTW
    obtain ⟨j, ra, rl, rc, mp, mo, B, ks, N, sum, hj, rfl, HI, HTW⟩ := hrel
    obtain ⟨wO, hwz⟩ : ∃ z, z = wr := ⟨_, rfl⟩
    subst hwz
    have hlow := HI.out.lt
    by_cases hlt : j < al.length
    case neg =>
      obtain rfl : j = al.length := by omega
      have d1 : decide ((al.length : Int) < (al.length : Int)) = false := by simp
      have hk0 := HTW.out.kept
      have HPD : Hid (∀ p, B.paid p = Wb.fullC (SH z.hs p)) := Lib.hid (by
        rcases HTW.out.last with h | ⟨a, h1, h2⟩
        · omega
        · rw [show al.length - 1 = J by omega, HZJ.out] at h1
          cases h1; exact h2)
      have l0 : ∀ w2, Wb.Ext wO w2 → w2.cell? ⟨Z, 0, none⟩ = some (.int .i64 z.y) := fun w2 k => k.keep (hk0.cell (by omega) z0)
      have l1 : ∀ w2, Wb.Ext wO w2 → w2.cell? ⟨Z, 1, none⟩ = some (.int .i64 z.i) := fun w2 k => k.keep (hk0.cell (by omega) z1)
      have l2 : ∀ w2, Wb.Ext wO w2 → w2.cell? ⟨Z, 2, none⟩ = some (.int .i64 z.k) := fun w2 k => k.keep (hk0.cell (by omega) z2)
      have l3 : ∀ w2, Wb.Ext wO w2 → w2.cell? ⟨Z, 3, none⟩ = some (.slice ya z.hs.length yc) := fun w2 k => k.keep (hk0.cell (by omega) z3)
      have k0 : ∀ w2, Wb.Ext wO w2 → w2.cell? ⟨Q, 0, none⟩ = some (.slice none 0 0) := fun w2 k => k.keep (hk0.cell (by omega) b0)
      have k1 : ∀ w2, Wb.Ext wO w2 → w2.cell? ⟨Q, 1, none⟩ = some (.map none) := fun w2 k => k.keep (hk0.cell (by omega) b1)
      have k2 : ∀ w2, Wb.Ext wO w2 → w2.cell? ⟨Q, 2, none⟩ = some (.map none) := fun w2 k => k.keep (hk0.cell (by omega) b2)
      obtain ⟨hs, hk1, hk2, hk3⟩ := keysH_of HZK.out
      have HT := Lib.hid (show ∀ W, Wb.Ext wO W → Calls Tryz.prog 20 #[.slice ya z.hs.length yc] W fun e w' => ∃ M lo, e = .returned (.map (some M)) ∧ lo = W.heap.size ∧ Hid (TabH w lo w' M z.hs) ∧ wO.heap.size ≤ lo ∧ lo ≤ M ∧ M < w'.heap.size ∧ Wb.Ext W w' from fun W k => by
        refine (tab_law HHZ.out hzl (HI.out.ext.trans k)).mono ?_
        rintro e w' ⟨M, rfl, h1, h2, h3, h4⟩
        exact ⟨M, W.heap.size, rfl, rfl, Lib.hid h1, k.size, h2, h3, h4⟩)
      have HDO := Lib.hid (show ∀ W' W lo M, Hid (TabH w lo W' M z.hs) → wO.heap.size ≤ lo → Wb.Ext wO W → Wb.Ext W' W → Calls Tryz.prog 12 #[.agg #[.slice none 0 0, .map none, .map none], .int .i64 z.y, .int .i64 z.i, .int .i64 z.k, .map (some M)] W fun e w' => ∃ (ra' : Option Addr) (rl' rc' : Nat) (mp' mo' : Option Nat) (B' : Wb.Bk) (n1 y1 i1 k1 : Int) (qa : Option Addr) (qc : Nat) (rows : List RwM) (E : Int) (nW : Nat), e = .returned (.tuple #[.agg #[.slice ra' rl' rc', .map mp', .map mo'], .agg #[.int .i64 n1, .int .i64 y1, .int .i64 i1, .int .i64 k1, .slice qa rows.length qc], .int .i64 E]) ∧
          nW = W.heap.size ∧ wO.heap.size ≤ nW ∧ Hid (DidF (fun q => q < nW → Ok0 (fun q => q = A ∨ q = U) wO.heap.size lo W'.heap.size q) w' (.slice ra' rl' rc') mp' mo' Wb.noBk B' z.y z.i z.k (SH z.hs) hs ([] : List Int) 0 ⟨n1, y1, i1, k1, .slice qa rows.length qc, rows⟩ E) ∧ Hid (BkI (0 + 1) B' (([] : List Int) ++ hs) (0 + (([] : List Int)).length + hs.length)) ∧ Wb.Ext W w' from fun W' W lo M h1 h2 h3 h4 => by
        refine (did_law (P := fun q => q = A ∨ q = U) (j := 0) (bk_none _ _) bki_none (by omega) h1.out HI.out.ext.size (fun q hq => by omega) h2 h3 h4 hk1 hk2 hzl hk3 (fun p => sh_few HZA.out p)).mono ?_
        rintro e w' ⟨ra', rl', rc', mp', mo', B', n1, y1, i1, k1, qa, qc, rows, E, rfl, h5, h6, h7⟩
        exact ⟨ra', rl', rc', mp', mo', B', n1, y1, i1, k1, qa, qc, rows, E, W.heap.size, rfl, rfl, h3.size, Lib.hid h5, Lib.hid h6, h7⟩)
      clear hk1 hk2 hk0
      go_upto_region 17 with (fail)
      refine Code.wp_mono (OnEnd.imp ?_) (tw17 _ _ _ _ _ _ _ _ _ _ _ _ _ _ _ _ _ _ _ _ _ _ _ _ _ _ _ _ _ _ _ _ _ _ _ _ _ _ _ _ _ _ _ _ _ _ _ _ _ _ _ _ _ _ _ _ _ _ _ _ _ _ _ _ _ _ _ _ _ _ _ _ _ _ _ _ _ _ _ _ _ _ _ _ _ _ _ _ _ _ _ _ _ _ _ _ _ _ _ _ _ _ _ _ _ _ _ _ _ _ _ _ _ _ _ _ _ _ _ _ _ _ _ _ _ _ _ _ _ _ _ _ _ _ _ _ _ _ _ _ w wO Z Q A U yc ya z hs ⟨hlow.1, hlow.2.1⟩ l0 l1 l2 l3 k0 k1 k2 HT.out HDO.out)
      rintro a' wc ⟨C, R, ra', rl', rc', mp', mo', B', n1, y1, i1, k9, qa, qc, rows, E, u98, u99, u100, u101, u102, u103, u104, u105, u106, u107, u108, u109, u110, u111, u112, rfl, nC, nR, hI9, hD, e0, e1, e2, r4, hxO⟩
      (try dsimp only)
      · skip
        obtain ⟨wD, hwz⟩ : ∃ z, z = wc := ⟨_, rfl⟩
        subst hwz
        have HD := Lib.hid hD
        have HXO := Lib.hid hxO
        clear hD HT HDO l0 l1 l2 l3 k0 k1 k2
        by_cases hE : E = 0
        case neg =>
          have g1 : (E == 0) = false := by simpa using hE
          have g2 : (E != 0) = true := by simpa using hE
          clear hxO hE
          go_wp2_with fail
          go_fit (awake31_any _); rintro e wz4 ⟨rfl, hz4⟩
          have HZ4 := Lib.hid (show Wb.Ext w wz4 from HI.out.ext.trans (HXO.out.trans (by (repeat' (first | (with_reducible assumption) | (with_reducible exact Wb.Ext.refl _) | (with_reducible refine Wb.Ext.drew ?_) | (with_reducible refine Wb.Ext.drewN ?_ _) | (with_reducible refine Wb.Ext.alloc ?_ _) | (with_reducible refine Wb.Ext.trans ?_ (by assumption)))))))
          clear hz4
          go_wp2
          exact bodyPost_ret (v := .bool true) (by simp [results, Tryz.results5, go_sem]) rfl ⟨rfl, HZ4.out⟩
        subst hE
        have HBH := Lib.hid (did_ok HD.out bki_none)
        have HOKP := Lib.hid (row_ok (bk_none (fun _ => True) wO) (fun x hx => (HHZ.out.each x hx).2) HBH.out)
        have hrl := ((HD.out.rows wD .refl).many : rows.length ≤ 100000)
        have a0 := hxO.keep HI.out.a0
        have a1 := hxO.keep HI.out.a1
        have a2 := hxO.keep HI.out.a2
        clear hxO e0 e1 e2 z0 z1 z2 z3 b0 b1 b2
        go_wp2_with fail
        go_loopw [15] (fun iv wr => ∃ k : Nat, k ≤ rows.length ∧ iv = .int .i64 k ∧ Hid (Wb.Ext wD wr)) (fun iv _ => rows.length - (intOf iv).toNat)
        case atStart => exact ⟨0, Nat.zero_le _, rfl, Lib.hid (.refl _)⟩
        case round =>
          obtain ⟨k, hk, rfl, HXK⟩ := hrel
          obtain ⟨wK, hwz⟩ : ∃ z, z = wr := ⟨_, rfl⟩
          subst hwz
          replace a0 := HXK.out.keep a0
          replace a1 := HXK.out.keep a1
          replace a2 := HXK.out.keep a2
          replace r4 := HXK.out.keep r4
          by_cases hlk9 : k < rows.length
          case neg =>
            obtain rfl : k = rows.length := by omega
            have d3 : decide ((rows.length : Int) < (rows.length : Int)) = false := by simp
            clear hlk9 hk
            go_wp2_with fail
            go_fit (awake31_any _); rintro e wz5 ⟨rfl, hz5⟩
            have HZ5 := Lib.hid (show Wb.Ext w wz5 from HI.out.ext.trans (HXO.out.trans (HXK.out.trans (by (repeat' (first | (with_reducible assumption) | (with_reducible exact Wb.Ext.refl _) | (with_reducible refine Wb.Ext.drew ?_) | (with_reducible refine Wb.Ext.drewN ?_ _) | (with_reducible refine Wb.Ext.alloc ?_ _) | (with_reducible refine Wb.Ext.trans ?_ (by assumption))))))))
            clear hz5
            go_wp2
            exact bodyPost_ret (v := .bool true) (by simp [results, Tryz.results5, go_sem]) rfl ⟨rfl, HZ5.out⟩
          obtain ⟨r, hr⟩ := Wb.get_ex hlk9
          have hmem := List.mem_of_getElem? hr
          have hRM := HD.out.rows wK (.ext HXK.out)
          obtain ⟨rb, roff, hrb, hrc⟩ := hRM.tab.opened (by rintro rfl; simp at hr)
          obtain rfl : qa = some ⟨rb, roff, none⟩ := hrb
          obtain ⟨na, nn, nc, va9, vn, vc9, hnv, hbv⟩ := hRM.one r hmem
          have p0 := hrc k r hr 0 _ rfl
          have p1 := hrc k r hr 1 _ rfl
          have p2 := hrc k r hr 2 _ rfl
          have p3 := hrc k r hr 3 (.slice na nn nc) (by rw [← hnv]; rfl)
          have p4 := hrc k r hr 4 (.slice va9 vn vc9) (by rw [← hbv]; rfl)
          have p5 := hrc k r hr 5 _ rfl
          have p6 := hrc k r hr 6 _ rfl
          have p7 := hrc k r hr 7 _ rfl
          rw [Nat.add_zero] at p0
          have hcm : r.c ∈ rows.map RwM.c := List.mem_map_of_mem hmem
          have hok : kU32.ok r.p := HOKP.out r.c hcm
          obtain ⟨hro, -⟩ := HBH.out.rows r.c hcm
          have hdue : r.due = Wb.nlC (SH z.hs r.p) - 0 := hro.due
          have hlowp := HI.out.low r.p
          have howp := HI.out.ok.ok.owed r.p
          have heq : sum r.p - B.owed r.p = r.due := by
            have := HI.out.eq r.p
            rw [HPD.out, Wb.nlC_full] at this
            omega
          obtain ⟨V, hV⟩ : ∃ V, sum r.p = V := ⟨_, rfl⟩
          obtain ⟨O, hO⟩ : ∃ O, B.owed r.p = O := ⟨_, rfl⟩
          rw [hV, hO] at heq
          rw [hV] at hlowp
          rw [hO] at howp
          have HV := Lib.hid hV
          have HO := Lib.hid hO
          have d3 : decide ((k : Int) < (rows.length : Int)) = true := by simp; omega
          have hki : (k : Int) < (rows.length : Int) := by omega
          clear hrc hmem hRM hr hcm hro hdue hnv hbv hV hO
          go_upto_region 24 with (fail)
          refine Wb.wp_at fun w4 hw4 => ?_
          obtain ⟨X, hX⟩ : ∃ X, wK.heap.size = X := ⟨_, rfl⟩
          have hx4 : Wb.Ext wK w4 := by rw [hw4]; (repeat' (first | (with_reducible assumption) | (with_reducible exact Wb.Ext.refl _) | (with_reducible refine Wb.Ext.drew ?_) | (with_reducible refine Wb.Ext.drewN ?_ _) | (with_reducible refine Wb.Ext.alloc ?_ _) | (with_reducible refine Wb.Ext.trans ?_ (by assumption))))
          have x0 : w4.cell? ⟨X, 0, none⟩ = some (.int .u32 r.p) := by rw [hw4, ← hX]; simp [go_sem]
          have x5 : w4.cell? ⟨X, 5, none⟩ = some (.int .i64 r.due) := by rw [hw4, ← hX]; simp [go_sem]
          have HX4 := Lib.hid (HXO.out.trans (HXK.out.trans hx4))
          have y0 : ∀ x, Wb.Ext w4 x → x.cell? ⟨A, 0, none⟩ = some (.slice ra rl rc) := fun x h => (hx4.trans h).keep a0
          have y1 : ∀ x, Wb.Ext w4 x → x.cell? ⟨A, 1, none⟩ = some (.map mp) := fun x h => (hx4.trans h).keep a1
          have y2 : ∀ x, Wb.Ext w4 x → x.cell? ⟨A, 2, none⟩ = some (.map mo) := fun x h => (hx4.trans h).keep a2
          have y3 : ∀ x, Wb.Ext w4 x → x.cell? ⟨X, 0, none⟩ = some (.int .u32 r.p) := fun x h => h.keep x0
          have y5 : ∀ x, Wb.Ext w4 x → x.cell? ⟨X, 5, none⟩ = some (.int .i64 r.due) := fun x h => h.keep x5
          have yl : ∀ x, Wb.Ext w4 x → (Instr.lookup 25 (.map (some U)) (.int .u32 r.p) false).run Tryz.prog x = .ok (.int .i64 V) x := fun x h => by
            obtain ⟨f2, hm5, hm6⟩ := HI.out.map
            have := KMapO.look (p := r.p) (KMap.opt (hm5.ext (HX4.out.trans h))) Tryz.underlying25 zeroCents hok
            rw [hm6 r.p hok, HV.out] at this; exact this
          have HOW := Lib.hid (show ∀ W, Wb.Ext w4 W → Calls Tryz.prog 13 #[.agg #[.slice ra rl rc, .map mp, .map mo], .int .u32 r.p] W fun e w' => e = .returned (.int .i64 O) ∧ Wb.Ext W w' from fun W h => by
            have := owed31_any _ mp mo B ks N r.p hok _ (HI.out.book.now.ext (HX4.out.trans h))
            rw [HO.out] at this; exact this)
          have hsub : IntKind.i64.wrap (V - O) = r.due := by rw [← heq]; exact IntWalk.i64_in _ (by omega)
          have HXN := Lib.hid (HXK.out.trans hx4)
          rw [hX]
          clear hw4 hX hx4 x0 x5 heq a0 a1 a2 r4 p0 p1 p2 p3 p4 p5 p6 p7
          go_region_held_law (fun x => Wb.Ext w4 x) ((repeat' (first | (with_reducible assumption) | (with_reducible exact Wb.Ext.refl _) | (with_reducible refine Wb.Ext.drew ?_) | (with_reducible refine Wb.Ext.drewN ?_ _) | (with_reducible refine Wb.Ext.alloc ?_ _) | (with_reducible refine Wb.Ext.trans ?_ (by assumption))))) ((go_at_call 13; refine (HOW.out _ (by (repeat' (first | (with_reducible assumption) | (with_reducible exact Wb.Ext.refl _) | (with_reducible refine Wb.Ext.drew ?_) | (with_reducible refine Wb.Ext.drewN ?_ _) | (with_reducible refine Wb.Ext.alloc ?_ _) | (with_reducible refine Wb.Ext.trans ?_ (by assumption)))))).mono ?_; rintro e w7 ⟨rfl, hx7⟩))
          all_goals
            go_wp2
            go_roundw
            case rel => exact ⟨k + 1, by omega, by go_num, Lib.hid (HXN.out.trans (by (repeat' (first | (with_reducible assumption) | (with_reducible exact Wb.Ext.refl _) | (with_reducible refine Wb.Ext.drew ?_) | (with_reducible refine Wb.Ext.drewN ?_ _) | (with_reducible refine Wb.Ext.alloc ?_ _) | (with_reducible refine Wb.Ext.trans ?_ (by assumption))))))⟩
            case measure => first | (simp [intOf]; done) | (simp [intOf]; omega)
    obtain ⟨a, ha⟩ := Wb.get_ex hlt
    have hmem := List.mem_of_getElem? ha
    have hHW := HA.out.each a hmem
    obtain ⟨xa, xc, hav⟩ := hHW.tab.shape
    obtain ⟨b', off', hb, hc⟩ := HA.out.tab.opened (by rintro rfl; simp at ha)
    simp only [Option.some.injEq, Addr.mk.injEq, and_true] at hb
    obtain ⟨rfl, rfl⟩ := hb
    have c0 := hc j a ha 0 _ rfl
    have c1 := hc j a ha 1 _ rfl
    have c2 := hc j a ha 2 _ rfl
    have c3 := hc j a ha 3 (.slice xa a.hs.length xc) (by rw [← hav]; rfl)
    rw [Nat.add_zero] at c0
    have l0 : ∀ w2, Wb.Ext wO w2 → w2.cell? ⟨b, off + j * 4, none⟩ = some (.int .i64 a.y) := fun w2 k => (HI.out.ext.trans k).keep c0
    have l1 : ∀ w2, Wb.Ext wO w2 → w2.cell? ⟨b, off + j * 4 + 1, none⟩ = some (.int .i64 a.i) := fun w2 k => (HI.out.ext.trans k).keep c1
    have l2 : ∀ w2, Wb.Ext wO w2 → w2.cell? ⟨b, off + j * 4 + 2, none⟩ = some (.int .i64 a.k) := fun w2 k => (HI.out.ext.trans k).keep c2
    have l3 : ∀ w2, Wb.Ext wO w2 → w2.cell? ⟨b, off + j * 4 + 3, none⟩ = some (.slice xa a.hs.length xc) := fun w2 k => (HI.out.ext.trans k).keep c3
    have k0 : ∀ w2, Wb.Ext wO w2 → w2.cell? ⟨A, 0, none⟩ = some (.slice ra rl rc) := fun w2 k => k.keep HI.out.a0
    have k1 : ∀ w2, Wb.Ext wO w2 → w2.cell? ⟨A, 1, none⟩ = some (.map mp) := fun w2 k => k.keep HI.out.a1
    have k2 : ∀ w2, Wb.Ext wO w2 → w2.cell? ⟨A, 2, none⟩ = some (.map mo) := fun w2 k => k.keep HI.out.a2
    have hji : (j : Int) < al.length := by omega
    have d1 : decide ((j : Int) < (al.length : Int)) = true := by simp; omega
    have hsa := HSM.out.2 a hmem
    have HSA := Lib.hid hsa.2
    have hsl := hsa.1
    have HH := Lib.hid (show HdsM w (.slice xa a.hs.length xc) a.hs by rw [← hav]; exact hds_small hHW hsa.2)
    obtain ⟨hs, hk1, hk2, hk3⟩ := keysH_of (fun x hx => (hHW.each x hx).2)
    have HAJ := Lib.hid ha
    have HT := Lib.hid (show ∀ W, Wb.Ext wO W → Calls Tryz.prog 20 #[.slice xa a.hs.length xc] W fun e w' => ∃ M lo, e = .returned (.map (some M)) ∧ lo = W.heap.size ∧ Hid (TabH w lo w' M a.hs) ∧ wO.heap.size ≤ lo ∧ lo ≤ M ∧ M < w'.heap.size ∧ Wb.Ext W w' from fun W k => by
      refine (tab_law HH.out hsl (HI.out.ext.trans k)).mono ?_
      rintro e w' ⟨M, rfl, h1, h2, h3, h4⟩
      exact ⟨M, W.heap.size, rfl, rfl, Lib.hid h1, k.size, h2, h3, h4⟩)
    have HDO := Lib.hid (show ∀ W' W lo M, Hid (TabH w lo W' M a.hs) → wO.heap.size ≤ lo → Wb.Ext wO W → Wb.Ext W' W → Calls Tryz.prog 12 #[.agg #[.slice ra rl rc, .map mp, .map mo], .int .i64 a.y, .int .i64 a.i, .int .i64 a.k, .map (some M)] W fun e w' => ∃ (ra' : Option Addr) (rl' rc' : Nat) (mp' mo' : Option Nat) (B' : Wb.Bk) (n1 y1 i1 k1 : Int) (qa : Option Addr) (qc : Nat) (rows : List RwM) (E : Int) (nW : Nat), e = .returned (.tuple #[.agg #[.slice ra' rl' rc', .map mp', .map mo'], .agg #[.int .i64 n1, .int .i64 y1, .int .i64 i1, .int .i64 k1, .slice qa rows.length qc], .int .i64 E]) ∧
        nW = W.heap.size ∧ wO.heap.size ≤ nW ∧ Hid (DidF (fun q => q < nW → Ok0 (fun q => q = A ∨ q = U) wO.heap.size lo W'.heap.size q) w' (.slice ra' rl' rc') mp' mo' B B' a.y a.i a.k (SH a.hs) hs ks N ⟨n1, y1, i1, k1, .slice qa rows.length qc, rows⟩ E) ∧ Hid (BkI (j + 1) B' (ks ++ hs) (N + (ks).length + hs.length)) ∧ Wb.Ext W w' from fun W' W lo M h1 h2 h3 h4 => by
      refine (did_law (P := fun q => q = A ∨ q = U) (j := j) HI.out.book HI.out.ok (by omega) h1.out HI.out.ext.size (fun q hq => by omega) h2 h3 h4 hk1 hk2 hsl hk3 (fun p => sh_few HSA.out p)).mono ?_
      rintro e w' ⟨ra', rl', rc', mp', mo', B', n1, y1, i1, k1, qa, qc, rows, E, rfl, h5, h6, h7⟩
      exact ⟨ra', rl', rc', mp', mo', B', n1, y1, i1, k1, qa, qc, rows, E, W.heap.size, rfl, rfl, h3.size, Lib.hid h5, Lib.hid h6, h7⟩)
    clear ha hmem hHW hav hc c0 c1 c2 c3 hsa hk1 hk2 hlt
    go_upto_region 9 with (fail)
    refine Code.wp_mono (OnEnd.imp ?_) (tw9 _ _ _ _ _ _ _ _ _ _ _ _ _ _ _ _ _ _ _ _ _ _ _ _ _ _ _ _ _ _ _ _ _ _ _ _ _ _ _ _ _ _ _ _ _ _ _ _ _ _ _ _ _ _ _ _ _ _ _ _ _ _ _ _ _ _ _ _ _ _ _ _ _ _ _ _ _ _ _ _ _ _ _ _ _ _ _ _ _ _ _ _ _ _ _ _ _ _ _ _ _ _ _ _ _ _ _ _ _ _ _ _ _ _ _ _ _ _ _ _ _ _ _ _ _ _ _ _ _ _ _ _ _ _ _ _ _ _ _ w wO b off vc j al.length xa ra xc rl rc N mp mo B ks hs a A U hji ⟨hlow.1, hlow.2.1⟩ l0 l1 l2 l3 k0 k1 k2 HT.out HDO.out)
    rintro a' wc ⟨C, R, ra', rl', rc', mp', mo', B', n1, y1, i1, k9, qa, qc, rows, E, u38, u39, u40, u41, u42, u43, u44, u45, u46, u47, u48, u49, u50, u51, u52, u53, u54, u55, u56, u57, u58, u59, u60, u61, u62, u63, u64, rfl, nC, nR, hI9, hD, e0, e1, e2, r4, hxO⟩
    (try dsimp only)
    · skip
      obtain ⟨wD, hwz⟩ : ∃ z, z = wc := ⟨_, rfl⟩
      subst hwz
      have HD := Lib.hid hD
      have HXO := Lib.hid hxO
      clear hD HT HDO
      by_cases hE : E = 0
      case neg =>
        have g1 : (E == 0) = false := by simpa using hE
        have g2 : (E != 0) = true := by simpa using hE
        clear l0 l1 l2 l3 k0 k1 k2 hxO hE
        go_wp2_with fail
        go_fit (awake31_any _); rintro e wz3 ⟨rfl, hz3⟩
        have HZ3 := Lib.hid (show Wb.Ext w wz3 from HI.out.ext.trans (HXO.out.trans (by (repeat' (first | (with_reducible assumption) | (with_reducible exact Wb.Ext.refl _) | (with_reducible refine Wb.Ext.drew ?_) | (with_reducible refine Wb.Ext.drewN ?_ _) | (with_reducible refine Wb.Ext.alloc ?_ _) | (with_reducible refine Wb.Ext.trans ?_ (by assumption)))))))
        clear hz3
        go_wp2
        exact bodyPost_ret (v := .bool true) (by simp [results, Tryz.results5, go_sem]) rfl ⟨rfl, HZ3.out⟩
      subst hE
      replace k0 := k0 _ hxO
      replace k1 := k1 _ hxO
      replace k2 := k2 _ hxO
      have af : ∀ i, wD.frozen? ⟨A, i, none⟩ = false := fun i => (hxO.cells.2 _ _ hlow.1).trans (HI.out.af i)
      have hCA : ¬ C = A := by omega
      have hAC : ¬ A = C := by omega
      have hRA : ¬ R = A := by omega
      have hAR : ¬ A = R := by omega
      clear l0 l1 l2 l3 hxO
      go_upto_region 13 with (fail)
      refine Wb.wp_at fun wA hwA => ?_
      have hkA : Kept (fun q => q ≠ A) wD wA := by
        rw [hwA]
        exact ((Kept.refl.setj (fun h => h rfl)).setj (fun h => h rfl)).setj (fun h => h rfl)
      have hxA : Wb.Ext w wA := by
        have h1 : Wb.Ext w wD := HI.out.ext.trans HXO.out
        have h2 := hlow.2.2.1
        rw [hwA]; (repeat' (first | (with_reducible assumption) | (with_reducible exact Wb.Ext.refl _) | (with_reducible refine Wb.Ext.drew ?_) | (with_reducible refine Wb.Ext.drewN ?_ _) | (with_reducible refine Wb.Ext.alloc ?_ _) | (with_reducible refine Wb.ext_set ?_ (by first | assumption | (simp; done) | (simp; omega) | omega) _) | (with_reducible refine Wb.Ext.trans ?_ (by assumption))))
      replace k0 : wA.cell? ⟨A, 0, none⟩ = some (.slice ra' rl' rc') := by rw [hwA]; simp [go_sem, k0, k1, k2]
      replace k1 : wA.cell? ⟨A, 1, none⟩ = some (.map mp') := by rw [hwA]; simp [go_sem, k0, k1, k2]
      replace k2 : wA.cell? ⟨A, 2, none⟩ = some (.map mo') := by rw [hwA]; simp [go_sem, k0, k1, k2]
      replace r4 : wA.cell? ⟨R, 4, none⟩ = some (.slice qa rows.length qc) := hkA.cell (fun h => hRA h) r4
      replace af : ∀ i, wA.frozen? ⟨A, i, none⟩ = false := fun i => by rw [hwA]; simp [go_sem, af]
      have hsA : wD.heap.size ≤ wA.heap.size := hkA.size
      have hsD : wO.heap.size ≤ wD.heap.size := HXO.out.size
      have HKA := Lib.hid hkA
      have HXA := Lib.hid hxA
      have HBH := Lib.hid (did_ok HD.out HI.out.ok)
      have HOKP := Lib.hid (row_ok HI.out.book (fun x hx => (HH.out.each x hx).2) HBH.out)
      have hrl := ((HD.out.rows wD .refl).many : rows.length ≤ 100000)
      have HS0 : Hid (SumK wA U j wA sum (rows.map RwM.c) 0) := Lib.hid (by
        obtain ⟨f, h1, h2⟩ := HI.out.map
        exact ⟨⟨f, (KMap.ext h1 HXO.out).keptF hkA (by omega), h2⟩, .refl, Nat.le_refl _⟩)
      have HBK := Lib.hid (HD.out.book.kept (hkA.mono fun q _ h e => h (.inl e)))
      clear hwA hkA hxA e0 e1 e2
      go_wp2_with fail
      go_loopw [11] (fun iv wr => ∃ k : Nat, k ≤ rows.length ∧ iv = .int .i64 k ∧ Hid (SumK wA U j wr sum (rows.map RwM.c) k)) (fun iv _ => rows.length - (intOf iv).toNat)
      case atStart => exact ⟨0, Nat.zero_le _, rfl, HS0⟩
      case round =>
        clear HS0
        obtain ⟨k, hk, rfl, HS⟩ := hrel
        obtain ⟨wK, hwz⟩ : ∃ z, z = wr := ⟨_, rfl⟩
        subst hwz
        replace k0 := HS.out.kept.cell (by omega) k0
        replace k1 := HS.out.kept.cell (by omega) k1
        replace k2 := HS.out.kept.cell (by omega) k2
        replace r4 := HS.out.kept.cell (by omega) r4
        have hkl : (rows.map RwM.c).length = rows.length := by rw [List.length_map]
        by_cases hlk9 : k < rows.length
        case neg =>
          obtain rfl : k = rows.length := by omega
          have d3 : decide ((rows.length : Int) < (rows.length : Int)) = false := by simp
          have HN : Hid (SumI w A U (j + 1) wK ra' rl' rc' mp' mo' B' (ks ++ hs) (N + ks.length + hs.length) (Wb.addR sum (rows.map RwM.c))) := Lib.hid (by
            have hf := HS.out.kept
            have hz := HS.out.size
            refine ⟨k0, k1, k2, fun i => hf.frozen (by omega) (by omega) (af i), HBK.out.kept (hf.mono fun q _ h e => h (.inr e)), hI9.out, ?_, fun p => Wb.sum_addR HBH.out HI.out.eq p, fun p => ?_, ⟨by omega, by omega, hlow.2.2.1, hlow.2.2.2⟩, hf.old HXA.out (fun i hi => by omega)⟩
            · obtain ⟨f, h1, h2⟩ := HS.out.map
              rw [← hkl, List.take_length] at h2
              exact ⟨f, h1.mono (by omega), h2⟩
            · have := HI.out.low p
              have h2 := Wb.addR_bound (b := 1125899906842624) (c := 1125899906842624 * j) (s := sum) (p := p) HBH.out.one (fun r hr => (HBH.out.rows r hr).1.paid) (by omega) this.1 this.2
              have h3 : (RnM.c ⟨n1, y1, i1, k9, .slice qa rows.length qc, rows⟩).rows = rows.map RwM.c := rfl
              rw [h3] at h2
              omega)
          have HTN : Hid (TwI A U WB al (j + 1) wK B') := Lib.hid (by
            have h1 := HTW.out
            refine ⟨h1.kept.trans (((Kept.ext HXO.out).trans (HKA.out.mono fun q _ h e => h (.inl e))).trans (HS.out.kept.mono fun q _ h e => h (.inr e))), ?_, .inr ⟨a, HAJ.out, HBH.out.paid⟩⟩
            have := h1.size
            have := HS.out.size
            omega)
          clear hlk9 hk
          go_wp2
          go_roundw
          case rel => exact ⟨j + 1, ra', rl', rc', mp', mo', B', ks ++ hs, N + ks.length + hs.length, Wb.addR sum (rows.map RwM.c), by omega, by go_num, HN, HTN⟩
          case measure => first | (simp [intOf]; done) | (simp [intOf]; omega)
        obtain ⟨r, hr⟩ := Wb.get_ex hlk9
        have hmem := List.mem_of_getElem? hr
        have hkM : Kept (fun q => ¬ (q = A ∨ q = U)) wD wK := (HKA.out.mono fun q _ h e => h (.inl e)).trans (HS.out.kept.mono fun q _ h e => h (.inr e))
        obtain ⟨rb, roff, hrb, hrc⟩ := (HD.out.rows wK hkM).tab.opened (by rintro rfl; simp at hr)
        obtain rfl : qa = some ⟨rb, roff, none⟩ := hrb
        have hcm : r.c ∈ rows.map RwM.c := List.mem_map_of_mem hmem
        have hck : (rows.map RwM.c)[k]? = some r.c := by rw [List.getElem?_map, hr]; rfl
        have hok : kU32.ok r.p := HOKP.out r.c hcm
        obtain ⟨hro, hpo⟩ := HBH.out.rows r.c hcm
        have hpb : 0 ≤ r.paid ∧ r.paid ≤ 1125899906842624 := hro.paid
        have hlowp := HI.out.low r.p
        have s1 : Wb.addR sum ((rows.map RwM.c).take k) r.p = sum r.p := Wb.addR_at (r := r.c) HBH.out.one hck
        obtain ⟨V, hV⟩ : ∃ V, sum r.p = V := ⟨_, rfl⟩
        rw [hV] at s1 hlowp
        obtain ⟨f, hm1, hm2⟩ := HS.out.map
        have hlk : (Instr.lookup 25 (.map (some U)) (.int .u32 r.p) false).run Tryz.prog wK.drew = .ok (.int .i64 V) wK.drew := by
          have := KMapO.look (p := r.p) (KMap.opt (hm1.ext (Wb.Ext.drew (.refl wK)))) Tryz.underlying25 zeroCents hok
          rw [hm2 r.p hok, s1] at this; exact this
        obtain ⟨w2, hrun, hm3, hg⟩ := KMap.update (hm1.ext (Wb.Ext.drew (.refl wK))) Tryz.underlying25 (by unfold maxLen; omega) hok (.int .i64 (V + r.paid))
        have hrun : (Instr.mapUpdate 25 (.map (some U)) (.int .u32 r.p) (.int .i64 (V + r.paid))).run Tryz.prog wK.drew = .ok () w2 := hrun
        have hwv : IntKind.i64.wrap (V + r.paid) = V + r.paid := IntWalk.i64_in _ (by omega)
        have hk2 : Kept (fun q => q ≠ U) wK w2 := .trans (.ext (Wb.Ext.drew (.refl wK))) (.grown hg (fun q e _ h => by cases e; exact h rfl))
        have HS2 : Hid (SumK wA U j w2 sum (rows.map RwM.c) (k + 1)) := Lib.hid ⟨⟨_, hm3, fun q hq => by
            have e3 : r.c.p = r.p := rfl
            have e4 : r.c.paid = r.paid := rfl
            rw [take_snoc hck, Wb.addR_snoc, e3, e4]
            by_cases e : r.p = q
            · subst e
              rw [if_pos rfl, if_pos rfl, s1]; rfl
            · rw [if_neg e, if_neg e]; exact hm2 q hq⟩, HS.out.kept.trans hk2, Nat.le_trans HS.out.size hk2.size⟩
        have rA : ∀ x, Kept (fun q => q ≠ U) wK x → x.cell? ⟨R, 4, none⟩ = some (.slice (some ⟨rb, roff, none⟩) rows.length qc) := fun x h => h.cell (by omega) r4
        have rX : ∀ x, Kept (fun q => q ≠ U) wK x → ∀ (t : Nat) (u : Value), (rwc r)[t]? = some u → x.cell? ⟨rb, roff + k * 8 + t, none⟩ = some u := fun x h t u hu => by
          obtain ⟨b2, o2, e2, c2⟩ := (HD.out.rows x (hkM.trans (h.mono fun q _ h e => h (.inr e)))).tab.opened (by rintro rfl; simp at hr)
          simp only [Value.slice.injEq, Option.some.injEq, Addr.mk.injEq] at e2
          obtain ⟨rfl, rfl, -⟩ := e2
          exact c2 k r hr t u hu
        have rB : ∀ x, Kept (fun q => q ≠ U) wK x → x.cell? ⟨rb, roff + k * 8, none⟩ = some (.int .u32 r.p) := fun x h => rX x h 0 _ rfl
        have rC : ∀ x, Kept (fun q => q ≠ U) wK x → x.cell? ⟨rb, roff + k * 8 + 6, none⟩ = some (.int .i64 r.paid) := fun x h => rX x h 6 _ rfl
        have d3 : decide ((k : Int) < (rows.length : Int)) = true := by simp; omega
        have hki : (k : Int) < (rows.length : Int) := by omega
        clear rX hrc hmem hcm hck HBH HOKP hr hm1 hm2 hm3 hg s1 hro hpo hlk9 hkM
        go_upto_region 16 with (fail)
        go_region_held_law (fun x => Kept (fun q => q ≠ U) wK x) (first | assumption | exact .ext (.drew (.refl _))) (fail)
        clear rA rB rC hlk hrun hwv
        go_wp2
        go_roundw
        case rel => exact ⟨k + 1, by omega, by go_num, HS2⟩
        case measure => first | (simp [intOf]; done) | (simp [intOf]; omega)
end Go.Proofs.YtnefdpnolojojaaGreat
