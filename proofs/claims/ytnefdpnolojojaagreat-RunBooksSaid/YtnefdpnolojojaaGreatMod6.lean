/- Mod6 -/
import Derived.Test.YtnefdpnolojojaaGreatMod4
namespace Go.Proofs.YtnefdpnolojojaaGreat
open Go.RowKit Go.Sort Go.Lib Go.Maps
set_option maxRecDepth 8000
attribute [local go_sem ↓] Go.wp_at_zero Go.wp_at_succ
theorem nowS_v (L : List Wb.Sl) (p : Int × Int) : (nowS p (Wb.findS L p)).v = atV L p := by
 unfold atV
 rcases Wb.findS L p with _ | s <;> rfl
theorem nowS_ln {w : World} {v : Value} {L : List Wb.Sl} (h : Sls w v L) (p : Int × Int) : LnsC w (nowS p (Wb.findS L p)).v (nowS p (Wb.findS L p)).l ∧ Sized (nowS p (Wb.findS L p)).l := by
 rcases hf : Wb.findS L p with _ | s9
 ·exact ⟨⟨.inl ⟨rfl, _, _, rfl⟩, Nat.le_refl _⟩, by unfold Sized; exact ⟨by simp [nowS, empS], (fun x hx => by cases hx)⟩⟩
 ·exact h.2 s9 (Wb.find_mem hf).1
set_option maxHeartbeats 16000000 in
theorem mrow31_any (p y i k owed : Int) (ha : Option Addr) (hn hcap : Nat) (va vb : Value) (A B : List Wb.Sl) (w : World) (hA : Sls w va A) (hB : Sls w vb B) (cb : ∀ s ∈ B, Wb.check s.y s.i s.l = 0) (hla : A.length ≤ 10000) (hlb : B.length ≤ 10000) (ho : 0 ≤ owed ∧ owed ≤ 1125899906842624) :
  Calls Tryz.prog 52 #[.agg #[.int .i64 y, .int .i64 i, .int .i64 k, .slice ha hn hcap], .int .u32 p, va, vb, .int .i64 owed] w fun e w' => ∃ r : RwM, e = .returned (.tuple #[rwv r, .int .i64 (Wb.rowG p (y, i) A B owed).2]) ∧ (∃ a n c a' n' c', r.now.v = .slice a n c ∧ r.bv = .slice a' n' c') ∧ ((Wb.rowG p (y, i) A B owed).2 = 0 → r.c = (Wb.rowG p (y, i) A B owed).1 ∧ RwIs w' r ∧ ∀ (F : Nat → Prop) w2, Kept F w' w2 → (∀ k, w.heap.size ≤ k → F k) → (∀ s ∈ B, LnsC w2 s.v s.l) → RwIs w2 r) ∧ Wb.Ext w w' := by
 obtain ⟨aa, ac, rfl⟩ := hA.1.shape
 obtain ⟨ba, bc, rfl⟩ := hB.1.shape
 have HA := Lib.hid hA
 have HB := Lib.hid hB
 have HCB := Lib.hid cb
 have HOW := Lib.hid (show Wb.rightC owed = true by simp [Wb.rightC]; omega)
 have HIN := Lib.hid (info_parts infoSlip)
 obtain ⟨ps, hps⟩ : ∃ ps, Wb.persP A B = ps := ⟨_, rfl⟩
 have HPS := Lib.hid hps
 have hpl : ps.length ≤ 20000 := by rw [← hps]; have := Wb.heads_len (A ++ B); unfold Wb.persP; rw [List.length_append] at this; omega
 have hPO := Wb.persP_of A B
 rw [hps] at hPO
 have HPO := Lib.hid hPO
 clear hA hB cb ho hps hPO
 obtain ⟨FR, hFR⟩ : ∃ FR, Wb.rowG p (y, i) A B owed = FR := ⟨_, rfl⟩
 have HFR := Lib.hid hFR
 rw [hFR]
 clear hFR
 obtain ⟨N, hN⟩ : ∃ N, nowS (y, i) (Wb.findS B (y, i)) = N := ⟨_, rfl⟩
 have hNl := nowS_ln HB.out (y, i)
 have hNy := nowS_per B (y, i)
 have hNv := nowS_v B (y, i)
 rw [hN] at hNl hNy hNv
 obtain ⟨na, nc, hna⟩ := hNl.1.1.shape
 have hNc : Wb.ct N = Wb.nowG B (y, i) := by rw [← hN, ct_now]; rfl
 have hNf : N.l.length ≤ 2000 := by
  rw [← hN]
  rcases hf : Wb.findS B (y, i) with _ | s9
  ·simp [nowS, empS]
  ·exact Nat.le_trans (Wb.check_small (HCB.out s9 (Wb.find_mem hf).1)) (by decide)
 have HNF := Lib.hid (show ∀ w2 : World, (∀ s ∈ B, LnsC w2 s.v s.l) → LnsC w2 N.v N.l from fun w2 h2 => by
  rw [← hN]
  rcases hf : Wb.findS B (y, i) with _ | s9
  ·exact ⟨.inl ⟨rfl, _, _, rfl⟩, Nat.le_refl _⟩
  ·exact h2 s9 (Wb.find_mem hf).1)
 have HNL := Lib.hid hNl
 have HNY := Lib.hid hNy
 have HNV := Lib.hid (show atV B (y, i) = .slice na N.l.length nc by rw [← hNv]; exact hna)
 have HNA := Lib.hid hna
 have HNC := Lib.hid hNc
 clear hN hNl hNy hNv hna hNc
 go_enter Tryz.func52, Tryz.ntmps52
 go_upto_region 1 with (fail)
 refine Wb.wp_at fun W1 hW1 => ?_
 obtain ⟨X, hX⟩ : ∃ X, w.heap.size = X := ⟨_, rfl⟩
 obtain ⟨Q, hQ⟩ : ∃ Q, X + 1 = Q := ⟨_, rfl⟩
 have hXQ : X < Q := by omega
 have x0 : W1.cell? ⟨X, 0, none⟩ = some (.int .i64 y) := by rw [hW1, ← hX]; simp [go_sem]
 have x1 : W1.cell? ⟨X, 1, none⟩ = some (.int .i64 i) := by rw [hW1, ← hX]; simp [go_sem]
 have HQC : Hid (W1.cell? ⟨Q, 0, none⟩ = some (.int .u32 0) ∧ W1.cell? ⟨Q, 1, none⟩ = some (.int .i64 0) ∧ W1.cell? ⟨Q, 2, none⟩ = some (.int .i64 0) ∧ W1.cell? ⟨Q, 3, none⟩ = some (.slice none 0 0) ∧ W1.cell? ⟨Q, 4, none⟩ = some (.slice none 0 0) ∧ W1.cell? ⟨Q, 5, none⟩ = some (.int .i64 0) ∧ W1.cell? ⟨Q, 6, none⟩ = some (.int .i64 0) ∧ W1.cell? ⟨Q, 7, none⟩ = some (.int .i64 0) ∧ ∀ j, W1.frozen? ⟨Q, j, none⟩ = false) := Lib.hid (by
  rw [hW1, ← hQ, ← hX]
  exact ⟨by simp [go_sem], by simp [go_sem], by simp [go_sem], by simp [go_sem], by simp [go_sem], by simp [go_sem], by simp [go_sem], by simp [go_sem], fun j => by simp [go_sem]⟩)
 have HX1 := Lib.hid (show Wb.Ext w W1 by rw [hW1]; (repeat' (first | (with_reducible assumption) | (with_reducible exact Wb.Ext.refl _) | (with_reducible refine Wb.Ext.drew ?_) | (with_reducible refine Wb.Ext.drewN ?_ _) | (with_reducible refine Wb.Ext.alloc ?_ _) | (with_reducible refine Wb.Ext.trans ?_ (by assumption)))))
 have hs1 : Q + 1 = W1.heap.size := by rw [hW1, ← hQ, ← hX]; simp
 have hwX : w.heap.size ≤ X := by omega
 simp only [hX, hQ]
 clear hW1 hX hQ
 go_wp2_with fail
 go_fit (rat31_any _ B y i _ (HB.out.ext HX1.out) (by omega)); rintro e w2 ⟨rfl, hx2⟩
 rw [HNV.out]
 have HX2 := Lib.hid hx2
 have x0' := hx2.keep x0
 have x1' := hx2.keep x1
 go_upto_region 2 with (fail)
 refine Wb.wp_at fun W3 hW3 => ?_
 obtain ⟨R, hR⟩ : ∃ R, w2.heap.size = R := ⟨_, rfl⟩
 have hQR : Q < R := by have := hx2.size; omega
 have hx3 : Wb.Ext w2 W3 := by rw [hW3]; (repeat' (first | (with_reducible assumption) | (with_reducible exact Wb.Ext.refl _) | (with_reducible refine Wb.Ext.drew ?_) | (with_reducible refine Wb.Ext.drewN ?_ _) | (with_reducible refine Wb.Ext.alloc ?_ _) | (with_reducible refine Wb.Ext.trans ?_ (by assumption))))
 have HRC : Hid (W3.cell? ⟨R, 0, none⟩ = some (.int .u32 p) ∧ W3.cell? ⟨R, 1, none⟩ = some (.int .i64 y) ∧ W3.cell? ⟨R, 2, none⟩ = some (.int .i64 i) ∧ W3.cell? ⟨R, 3, none⟩ = some (.slice na N.l.length nc) ∧ W3.cell? ⟨R, 4, none⟩ = some (.slice none 0 0) ∧ W3.cell? ⟨R, 5, none⟩ = some (.int .i64 0) ∧ W3.cell? ⟨R, 6, none⟩ = some (.int .i64 0) ∧ W3.cell? ⟨R, 7, none⟩ = some (.int .i64 0) ∧ ∀ j, W3.frozen? ⟨R, j, none⟩ = false) := Lib.hid (by
  rw [hW3, ← hR]
  exact ⟨by simp [go_sem], by simp [go_sem], by simp [go_sem], by simp [go_sem], by simp [go_sem], by simp [go_sem], by simp [go_sem], by simp [go_sem], fun j => by simp [go_sem]⟩)
 have hR3 : R < W3.heap.size := Wb.cell_size HRC.out.1
 have HX3 := Lib.hid (HX1.out.trans (HX2.out.trans hx3))
 have HXC : Hid (W3.cell? ⟨X, 0, none⟩ = some (.int .i64 y) ∧ W3.cell? ⟨X, 1, none⟩ = some (.int .i64 i)) := Lib.hid ⟨hx3.keep x0', hx3.keep x1'⟩
 have HX13 := Lib.hid (HX2.out.trans hx3)
 rw [hR]
 clear hW3 hR x0 x1 x0' x1' hx2 hx3
 go_wp2_with fail
 go_fit (rper31_any _ _ A B _ (HA.out.ext HX3.out) (HB.out.ext HX3.out) hla hlb); rintro e w4 ⟨T, rfl, hT, hTB, hx4⟩
 rw [HPS.out] at hT
 obtain ⟨Ta, Tc, rfl⟩ := hT.shape
 obtain ⟨base, hbase⟩ : ∃ b, w4.heap.size = b := ⟨_, rfl⟩
 have HT := Lib.hid hT
 have hRb : R < base := by have := hx4.size; omega
 have HTF : Hid (∀ q, (Value.slice Ta ps.length Tc).ownBlock = some q → R < q ∧ q < base) := Lib.hid (fun q hq => by have := hTB q hq; omega)
 have HAT : Hid (RwAt w w4 R Q base p y i na N.l.length nc none 0 [] (.slice none 0 0) []) := Lib.hid (by
  obtain ⟨q0, q1, q2, q3, q4, q5, q6, q7, qf⟩ := HQC.out
  obtain ⟨r0, r1, r2, r3, r4, r5, r6, r7, rf⟩ := HRC.out
  have k := HX13.out.trans hx4
  exact ⟨hx4.keep r0, hx4.keep r1, hx4.keep r2, hx4.keep r3, hx4.keep r4, hx4.keep r5, hx4.keep r6, hx4.keep r7, fun j => (hx4.cells.2 _ _ hR3).trans (rf j), k.keep q0, k.keep q1, k.keep q2, k.keep q3, k.keep q4, k.keep q5, k.keep q6, k.keep q7, fun j => (k.cells.2 _ _ (by omega)).trans (qf j), hQR, Nat.lt_of_lt_of_le hR3 hx4.size, Tbl.nil, (fun q hq => by cases hq), ⟨SlR.nil, hRb, (fun s hs => by cases hs)⟩, HX3.out.trans hx4, by omega, by omega⟩)
 have HXW : Hid (w4.cell? ⟨X, 0, none⟩ = some (.int .i64 y) ∧ w4.cell? ⟨X, 1, none⟩ = some (.int .i64 i)) := Lib.hid ⟨hx4.keep HXC.out.1, hx4.keep HXC.out.2⟩
 have HK4 : Hid (Kept (fun q => q < base ∧ q ≠ R) w4 w4) := Lib.hid .refl
 clear hT hTB hx4 hbase HQC HRC HXC HX13 hs1 hR3
 go_wp2_with fail
 go_loopw [14] (fun iv wr => ∃ (j : Nat) (da : Option Addr) (dc : Nat) (D : List Wb.Sl), j ≤ ps.length ∧ iv = .int .i64 j ∧ D.length ≤ j ∧ Hid (∀ s ∈ D, s.l.length ≤ 2000) ∧ Hid (RwAt w wr R Q base p y i na N.l.length nc da dc D (.slice none 0 0) []) ∧ Hid (Wb.backG A B (y, i) [] ps = Wb.backG A B (y, i) (D.map Wb.ct) (ps.drop j)) ∧ Hid (Kept (fun q => q < base ∧ q ≠ R) w4 wr)) (fun iv _ => ps.length - (intOf iv).toNat)
 case atStart => exact ⟨0, none, 0, [], Nat.zero_le _, rfl, Nat.zero_le _, Lib.hid (fun s hs => by cases hs), HAT, Lib.hid rfl, HK4⟩
 case round =>
  clear HAT HK4
  obtain ⟨j, da, dc, D, hj, rfl, hDj, HDF, HAT, HBK, HKP⟩ := hrel
  obtain ⟨wO, hwz⟩ : ∃ z, z = wr := ⟨_, rfl⟩
  subst hwz
  by_cases hlt : j < ps.length
  ·obtain ⟨p', hp⟩ := Wb.get_ex hlt
   have hpm := List.mem_of_getElem? hp
   have HPP := Lib.hid ((HPO.out.2 p').1 hpm)
   have HDR := Lib.hid (drop_at hp)
   have hki : (j : Int) < ps.length := by omega
   have d1 : decide ((j : Int) < (ps.length : Int)) = true := by simp; omega
   have hTO := HKP.out.tbl HT.out (fun q hq => by have := HTF.out q hq; exact ⟨this.2, by omega⟩)
   obtain ⟨b, off, hb, hc⟩ := hTO.opened (by rintro rfl; simp at hp)
   obtain rfl : Ta = some ⟨b, off, none⟩ := hb
   have c0 := hc j p' hp 0 _ rfl
   have c1 := hc j p' hp 1 _ rfl
   rw [Nat.add_zero] at c0
   have x0 := HKP.out.cell ⟨by omega, by omega⟩ HXW.out.1
   have x1 := HKP.out.cell ⟨by omega, by omega⟩ HXW.out.2
   clear hp hpm hc hTO
   go_upto_region 6 with (fail)
   go_cut [15, 16] (fun a c wx => a = .int .i64 p'.1 ∧ c = .int .i64 p'.2 ∧ Hid (Wb.Ext wO wx))
   case first =>
    go_wp2_with fail
    go_quiet (fail)
    go_wp2_with fail
    go_meet
    exact ⟨rfl, rfl, Lib.hid (by (repeat' (first | (with_reducible assumption) | (with_reducible exact Wb.Ext.refl _) | (with_reducible refine Wb.Ext.drew ?_) | (with_reducible refine Wb.Ext.drewN ?_ _) | (with_reducible refine Wb.Ext.alloc ?_ _) | (with_reducible refine Wb.Ext.trans ?_ (by assumption)))))⟩
   case rest =>
   obtain ⟨rfl, rfl, HXQ⟩ := hcut
   obtain ⟨W0, hwz⟩ : ∃ z, z = wc := ⟨_, rfl⟩
   subst hwz
   replace x0 := HXQ.out.keep x0
   replace x1 := HXQ.out.keep x1
   have HAT0 := Lib.hid (HAT.out.later HXQ.out)
   have HKP0 := Lib.hid (HKP.out.trans (.ext HXQ.out))
   clear c0 c1 d1 hki HAT HKP
   by_cases hown : p'.1 = y ∧ p'.2 = i
   ·obtain ⟨hty, hti⟩ := hown
    have e1 : (p'.1 == y) = true := by simp [hty]
    have e2 : (p'.2 == i) = true := by simp [hti]
    have hpq : p' = (y, i) := Prod.ext hty hti
    have HBN := Lib.hid (show Wb.backG A B (y, i) [] ps = Wb.backG A B (y, i) (D.map Wb.ct) (ps.drop (j + 1)) by rw [HBK.out, HDR.out, hpq, Wb.back_own])
    clear hty hti hpq
    go_wp2
    go_roundw
    case rel => exact ⟨j + 1, da, dc, D, by omega, by go_num, by omega, HDF, HAT0, HBN, HKP0⟩
    case measure => first | (simp [intOf]; done) | (simp [intOf]; omega)
   have hpq : p' ≠ (y, i) := fun e => hown ⟨by rw [e], by rw [e]⟩
   have HPQ := Lib.hid hpq
   clear hpq
   go_upto_region 7 with (fail)
   go_cut [63] (fun v wx => v = .bool false ∧ W0 = wx)
   case first =>
    by_cases hty : p'.1 = y
    ·have hti : ¬ p'.2 = i := fun e => hown ⟨hty, e⟩
     have e1 : (p'.1 == y) = true := by simp [hty]
     have e2 : (p'.2 == i) = false := by simp [hti]
     clear hty hti hown
     go_wp2_with fail
     go_meet
     exact ⟨rfl, rfl⟩
    ·have e1 : (p'.1 == y) = false := by simp [hty]
     clear hty hown
     go_wp2_with fail
     go_meet
     exact ⟨rfl, rfl⟩
   case rest =>
    obtain ⟨rfl, rfl⟩ := hcut
    clear hown x0 x1
    have HWA := Lib.hid (nowS_ln HA.out p')
    have HWB := Lib.hid (nowS_ln HB.out p')
    have HVA := Lib.hid (nowS_v A p')
    have HVB := Lib.hid (nowS_v B p')
    obtain ⟨la, hla9⟩ : ∃ l, (nowS p' (Wb.findS A p')).l = l := ⟨_, rfl⟩
    obtain ⟨lb, hlb9⟩ : ∃ l, (nowS p' (Wb.findS B p')).l = l := ⟨_, rfl⟩
    obtain ⟨sa, sc, hsv⟩ := HWA.out.1.1.shape
    obtain ⟨ta, tc, htv⟩ := HWB.out.1.1.shape
    have HSV := Lib.hid (show atV A (p'.1, p'.2) = .slice sa la.length sc by rw [← hla9, ← hsv]; exact HVA.out.symm)
    have HTV := Lib.hid (show atV B (p'.1, p'.2) = .slice ta lb.length tc by rw [← hlb9, ← htv]; exact HVB.out.symm)
    have HSL := Lib.hid (show Lns w (.slice sa la.length sc) la ∧ Sized la by rw [← hla9, ← hsv]; exact ⟨HWA.out.1.1, HWA.out.2⟩)
    have HTL := Lib.hid (show Lns w (.slice ta lb.length tc) lb ∧ Sized lb by rw [← hlb9, ← htv]; exact ⟨HWB.out.1.1, HWB.out.2⟩)
    have HCA := Lib.hid (show Wb.nowO p' (Wb.findS A p') = (p'.1, p'.2, la) by rw [← ct_now, ← hla9, ← (nowS_per A p').1, ← (nowS_per A p').2]; rfl)
    have HCN := Lib.hid (show Wb.nowO p' (Wb.findS B p') = (p'.1, p'.2, lb) by rw [← ct_now, ← hlb9, ← (nowS_per B p').1, ← (nowS_per B p').2]; rfl)
    clear hla9 hlb9 hsv htv HWA HWB HVA HVB
    go_wp2_with fail
    go_fit (rat31_any _ A p'.1 p'.2 _ (HA.out.ext HAT0.out.ext) (by omega)); rintro e w5 ⟨rfl, hx5⟩
    rw [HSV.out]
    go_wp2_with fail
    go_fit (rat31_any _ B p'.1 p'.2 _ (HB.out.ext (HAT0.out.ext.trans hx5)) (by omega)); rintro e w6 ⟨rfl, hx6⟩
    rw [HTV.out]
    go_wp2_with fail
    go_fit (dof_any p'.1 p'.2 _ la p'.1 p'.2 _ lb _ (HSL.out.1.ext (HAT0.out.ext.trans (hx5.trans hx6))) HSL.out.2 (HTL.out.1.ext (HAT0.out.ext.trans (hx5.trans hx6))) HTL.out.2)
    rintro e w3 ⟨Y, I, m, E, rfl, r, hO⟩
    obtain ⟨ma, mc, rfl⟩ := hO.lns.1.shape
    have HOF := Lib.hid hO.of
    have HLN := Lib.hid hO.lns
    have hb3 := (hx5.trans hx6).trans hO.ext
    have hs6 := (hx5.trans hx6).size
    have HNW : Hid (∀ q, (Value.slice ma r.length mc).ownBlock = some q → W0.heap.size ≤ q) := Lib.hid (fun q hq => by have := hO.new q hq; omega)
    have HOC := Lib.hid (show Wb.ofC (Wb.conO (Wb.findS A p')) (Wb.nowO p' (Wb.findS B p')) = (E, Y, I, r) by
     rw [← Wb.of_at HCB.out HPP.out, HCA.out, HCN.out]
     exact Wb.of_eq hO.of)
    have HAT3 := Lib.hid (HAT0.out.later hb3)
    have HKP3 := Lib.hid (HKP0.out.trans (.ext hb3))
    have hs3 := hb3.size
    clear hO hb3 hx5 hx6 hs6
    obtain ⟨W0s, hW0s⟩ : ∃ n, W0.heap.size = n := ⟨_, rfl⟩
    rw [hW0s] at hs3 HNW
    have HW0L := Lib.hid (show R < W0s by rw [← hW0s]; exact HAT0.out.lt)
    have HDL := Lib.hid (show ∀ q, (Value.slice da D.length dc).ownBlock = some q → q < W0s from fun q hq => by rw [← hW0s]; exact (HAT0.out.back.row.1.lt q hq).2)
    clear hW0s HAT0 HKP0
    go_upto_region 9 with (fail)
    refine Wb.wp_at fun W4 hW4 => ?_
    obtain ⟨Z, hZ⟩ : ∃ Z, w3.heap.size = Z := ⟨_, rfl⟩
    have hb4 : Wb.Ext w3 W4 := by rw [hW4]; (repeat' (first | (with_reducible assumption) | (with_reducible exact Wb.Ext.refl _) | (with_reducible refine Wb.Ext.drew ?_) | (with_reducible refine Wb.Ext.drewN ?_ _) | (with_reducible refine Wb.Ext.alloc ?_ _) | (with_reducible refine Wb.ext_set ?_ (by first | assumption | (simp; done) | (simp; omega) | omega) _) | (with_reducible refine Wb.Ext.trans ?_ (by assumption))))
    have z0 : W4.cell? ⟨Z, 0, none⟩ = some (.int .i64 Y) := by rw [hW4, ← hZ]; simp [go_sem]
    have z1 : W4.cell? ⟨Z, 1, none⟩ = some (.int .i64 I) := by rw [hW4, ← hZ]; simp [go_sem]
    have z2 : W4.cell? ⟨Z, 2, none⟩ = some (.slice ma r.length mc) := by rw [hW4, ← hZ]; simp [go_sem]
    have HAT4 := Lib.hid (HAT3.out.later hb4)
    have HKP4 := Lib.hid (HKP3.out.trans (.ext hb4))
    have HLN4 := Lib.hid (HLN.out.ext hb4)
    have hs4 := hb4.size
    rw [hZ]
    clear hW4 hZ hb4 HAT3 HKP3 HLN
    by_cases he : E = 0
    case neg =>
     have dd : (E == 0) = false := by simpa using he
     have dd2 : (E != 0) = true := by simpa using he
     clear z0 z1 z2
     have HF := Lib.hid (show FR = (Wb.noRw, E) by
      have h9 : Wb.backG A B (y, i) [] ps = (E, []) := by rw [HBK.out, HDR.out]; exact Wb.back_bad HPQ.out HOC.out he
      rw [← HFR.out, Wb.rowG, HPS.out, h9, if_pos he])
     go_upto_region 10 with (fail)
     refine Wb.wp_at fun W9 hW9 => ?_
     have HA9 := Lib.hid (show RwAt w W9 R Q base p y i na N.l.length nc da dc D (.slice none 0 0) [] by rw [hW9]; exact HAT4.out.later (by first | exact .refl _ | (repeat' (first | (with_reducible assumption) | (with_reducible exact Wb.Ext.refl _) | (with_reducible refine Wb.Ext.drew ?_) | (with_reducible refine Wb.Ext.drewN ?_ _) | (with_reducible refine Wb.Ext.alloc ?_ _) | (with_reducible refine Wb.ext_set ?_ (by first | assumption | (simp; done) | (simp; omega) | omega) _) | (with_reducible refine Wb.Ext.trans ?_ (by assumption))))))
     clear hW9
     have r0 := HA9.out.q0
     have r1 := HA9.out.q1
     have r2 := HA9.out.q2
     have r3 := HA9.out.q3
     have r4 := HA9.out.q4
     have r5 := HA9.out.q5
     have r6 := HA9.out.q6
     have r7 := HA9.out.q7
     have rf := HA9.out.fq
     have hx9 := HA9.out.ext
     have hnw := HA9.out.new
     go_wp2
     refine bodyPost_ret (v := .tuple #[rwv ⟨0, ⟨0, 0, .slice none 0 0, []⟩, .slice none 0 0, [], 0, 0, 0⟩, .int .i64 E]) (by simp [results, Tryz.results52, go_sem, rwv, r0, r1, r2, r3, r4, r5, r6, r7]) rfl ⟨_, by rw [HF.out], ⟨_, _, _, _, _, _, rfl, rfl⟩, fun h => absurd (by rw [HF.out] at h; exact h) he, by (repeat' (first | (with_reducible assumption) | (with_reducible exact Wb.Ext.refl _) | (with_reducible refine Wb.Ext.drew ?_) | (with_reducible refine Wb.Ext.drewN ?_ _) | (with_reducible refine Wb.Ext.alloc ?_ _) | (with_reducible refine Wb.ext_set ?_ (by first | assumption | (simp; done) | (simp; omega) | omega) _) | (with_reducible refine Wb.Ext.trans ?_ (by assumption))))⟩
    subst he
    have HSZ := Lib.hid (of_sized9 HOF.out rfl)
    go_wp2_with fail
    go_fit (dzero_any Y I _ r _ HLN4.out.1); rintro e w5 ⟨rfl, hb5⟩
    have z0 := hb5.keep z0
    have z1 := hb5.keep z1
    have z2 := hb5.keep z2
    have HAT5 := Lib.hid (HAT4.out.later hb5)
    have HKP5 := Lib.hid (HKP4.out.trans (.ext hb5))
    have HLN5 := Lib.hid (HLN4.out.ext hb5)
    have hs5 := hb5.size
    clear hb5 HAT4 HLN4 HKP4
    by_cases hz : r = []
    ·have HBN := Lib.hid (show Wb.backG A B (y, i) [] ps = Wb.backG A B (y, i) (D.map Wb.ct) (ps.drop (j + 1)) by rw [HBK.out, HDR.out]; exact Wb.back_zero HPQ.out HOC.out hz)
     have hemp : r.isEmpty = true := by simp [hz]
     rw [hemp]
     clear hz hemp
     go_wp2
     go_roundw
     case rel => exact ⟨j + 1, da, dc, D, by omega, by go_num, by omega, HDF, HAT5, HBN, HKP5⟩
     case measure => first | (simp [intOf]; done) | (simp [intOf]; omega)
    have hemp : r.isEmpty = false := by simpa using hz
    rw [hemp]
    have HBN := Lib.hid (show Wb.backG A B (y, i) [] ps = Wb.backG A B (y, i) ((D ++ [(⟨Y, I, .slice ma r.length mc, r⟩ : Wb.Sl)]).map Wb.ct) (ps.drop (j + 1)) by rw [HBK.out, HDR.out, List.map_append]; exact Wb.back_more HPQ.out HOC.out hz)
    have HRL := Lib.hid (show r.length ≤ 2000 from of_len HOF.out)
    clear hz hemp
    have b4 := HAT5.out.c4
    have bf := HAT5.out.fr
    have hbs := HAT5.out.back.row
    obtain ⟨hi, hz0, hz1, hz2⟩ := HIN.out.choose_spec
    go_upto_region 12 with (fail)
    go_wp2_with (at_builtin; go_loud (refine wpList_append_row2 rfl (.tmp 84) (.tmp 86) 39 rfl base 38 _ slZ 3 40 Tryz.underlying39 hi hz0 hz1 hz2 rfl (by decide) _ _ _ rfl (row_ext3 hbs.1 ((Wb.Ext.refl _).alloc _)) _ rfl 1 (slc (⟨Y, I, .slice ma r.length mc, r⟩ : Wb.Sl)) ?c1 ?c2 ?c3 ?c4 ?c5 ?_))
    case c1 => exact src_lit _ _ (by simp) (slc (⟨Y, I, .slice ma r.length mc, r⟩ : Wb.Sl)) _ _
    case c2 => intro u hu; simp [slc] at hu; rcases hu with rfl | rfl | rfl <;> rfl
    case c3 => unfold maxLen; omega
    case c4 => omega
    case c5 => have := HAT5.out.bs; simp; omega
    intro u2 w6 hown2 hg2 hblk
    have hxa : Wb.Ext w5 (w5.alloc (.cells (slc (⟨Y, I, .slice ma r.length mc, r⟩ : Wb.Sl)).toArray 38)) := .alloc (.refl _) _
    obtain ⟨b46, bf6⟩ := HAT5.out.back4 hxa hg2
    have hbl := (HAT5.out.later hxa).back.row
    have hlo := HAT5.out.back.row.1.lt
    have HSL6 : Hid (SlR base w6 u2 (D ++ [(⟨Y, I, .slice ma r.length mc, r⟩ : Wb.Sl)])) := Lib.hid (SlR.append (s := ⟨Y, I, .slice ma r.length mc, r⟩) hbl hown2 hg2 (by have := hblk; simp at this ⊢; exact this) (HLN5.out.ext hxa) HSZ.out (fun hne q hq e => by have h1 := HNW.out q hq; have h2 := HDL.out q e; omega))
    have hu := HSL6.out.shape
    rw [List.length_append] at hu
    obtain ⟨ua, uc, rfl⟩ := hu
    have HATN := Lib.hid ((HAT5.out.later hxa).setBack (s := ⟨Y, I, .slice ma r.length mc, r⟩) hg2 HSL6.out (fun _ q hq => by have := HNW.out q hq; have := HW0L.out; omega) (fun q hq e => by cases hq))
    have HKPN := Lib.hid (Kept.setj (j := 4) (u := .slice ua (D.length + 1) uc) ((HKP5.out.trans (.ext hxa)).trans (.grown hg2 (fun q hq _ hf => by have h1 := (hlo q hq).1; have h2 : q < base := hf.1; omega))) (fun h => h.2 rfl))
    clear hi hz0 hz1 hz2 hg2 hown2 hblk hbl hlo hxa hbs b4 bf
    have hl1 : D.length + [(⟨Y, I, .slice ma r.length mc, r⟩ : Wb.Sl)].length = D.length + 1 := rfl
    rw [hl1]
    clear hl1
    go_wp2
    go_roundw
    case rel => exact ⟨j + 1, ua, uc, D ++ [⟨Y, I, .slice ma r.length mc, r⟩], by omega, by go_num, by simp; omega, Lib.hid (fun s hs => by
     rcases List.mem_append.1 hs with hs | hs
     ·exact HDF.out s hs
     ·simp at hs; subst hs; exact HRL.out), HATN, HBN, HKPN⟩
    case measure => first | (simp [intOf]; done) | (simp [intOf]; omega)
  obtain rfl : j = ps.length := by omega
  have d1 : decide ((ps.length : Int) < (ps.length : Int)) = false := by simp
  have n1 : ¬ (ps.length : Int) < (ps.length : Int) := by omega
  have HBE := Lib.hid (show Wb.backG A B (y, i) [] ps = (0, D.map Wb.ct) by rw [HBK.out, List.drop_length, Wb.backG])
  have hD : D.length ≤ 20000 := by omega
  have HND := Lib.hid (show Wb.nowG B (y, i) = (y, i, N.l) by rw [← HNC.out, ← HNY.out.1, ← HNY.out.2]; rfl)
  have HCT := Lib.hid (show Wb.ct N = (y, i, N.l) by rw [HNC.out, HND.out])
  obtain ⟨⟨q1, q2, q3, q4, q5⟩, hq⟩ : ∃ q, Wb.sums y i N.l = q := ⟨_, rfl⟩
  obtain ⟨⟨z, ze⟩, hz⟩ : ∃ q, Wb.netF 0 D = q := ⟨_, rfl⟩
  have HSQ := Lib.hid hq
  have HZ := Lib.hid hz
  have hzz : Wb.netF 0 (Wb.lst (D.map Wb.ct)) = (z, ze) := by rw [Wb.lst_ct, Wb.net_nrm, hz]
  have HDG := Lib.hid (show Wb.dueG (y, i, N.l) (D.map Wb.ct) = (if q5 ≠ 0 then ((0 : Int), q5) else if ze ≠ 0 then (0, ze) else if Wb.fits (q3 + z) = false then (0, 9) else (q3 + z, 0)) by rw [Wb.dueG]; simp only [hq, hzz])
  have HQF := Lib.hid (Wb.sums_law hq)
  have HFD := Lib.hid (show ∀ due E, Wb.dueG (y, i, N.l) (D.map Wb.ct) = (due, E) → FR = (if E ≠ 0 then (Wb.noRw, E) else (⟨p, Wb.ct N, D.map Wb.ct, due, (Wb.settleG owed due).2.1, (Wb.settleG owed due).1⟩, (Wb.settleG owed due).2.2)) from fun due E hdue => by
   rw [← HFR.out, Wb.rowG, HPS.out, HBE.out]
   simp only [HND.out, hdue, ne_eq, not_true_eq_false, if_false]
   rw [HCT.out])
  have HSLS := Lib.hid (show Sls wO (.slice da D.length dc) D from HAT.out.back.row.sls)
  have HLNN := Lib.hid (show Lns wO (.slice na N.l.length nc) N.l by rw [← HNA.out]; exact HNL.out.1.1.ext HAT.out.ext)
  clear hq hz hzz hlt hj HBK HKP
  have c0 := HAT.out.c0
  have c1 := HAT.out.c1
  have c2 := HAT.out.c2
  have c3 := HAT.out.c3
  have c4 := HAT.out.c4
  have c5 := HAT.out.c5
  have c6 := HAT.out.c6
  have c7 := HAT.out.c7
  go_wp2_with fail
  go_fit (sums_any y i _ N.l _ HLNN.out HNL.out.2); rintro e w5 ⟨rfl, hb5⟩
  rw [HSQ.out]
  have HAT5 := Lib.hid (HAT.out.later hb5)
  have HSLS5 := Lib.hid (HSLS.out.ext hb5)
  clear c0 c1 c2 c3 c4 c5 c6 c7 hb5 HAT d1 n1
  by_cases he : q5 = 0
  case neg =>
   have HF := Lib.hid (show FR = (Wb.noRw, q5) by
    have h9 := HFD.out 0 q5 (by rw [HDG.out, if_pos he])
    rw [if_pos he] at h9; exact h9)
   have dd : (q5 == 0) = false := by simpa using he
   have dd2 : (q5 != 0) = true := by simpa using he
   obtain ⟨E, hE⟩ : ∃ E, E = q5 := ⟨_, rfl⟩
   subst hE
   go_upto_region 15 with (fail)
   refine Wb.wp_at fun W9 hW9 => ?_
   have HA9 := Lib.hid (show RwAt w W9 R Q base p y i na N.l.length nc da dc D (.slice none 0 0) [] by rw [hW9]; exact HAT5.out.later (by first | exact .refl _ | (repeat' (first | (with_reducible assumption) | (with_reducible exact Wb.Ext.refl _) | (with_reducible refine Wb.Ext.drew ?_) | (with_reducible refine Wb.Ext.drewN ?_ _) | (with_reducible refine Wb.Ext.alloc ?_ _) | (with_reducible refine Wb.ext_set ?_ (by first | assumption | (simp; done) | (simp; omega) | omega) _) | (with_reducible refine Wb.Ext.trans ?_ (by assumption))))))
   clear hW9
   have r0 := HA9.out.q0
   have r1 := HA9.out.q1
   have r2 := HA9.out.q2
   have r3 := HA9.out.q3
   have r4 := HA9.out.q4
   have r5 := HA9.out.q5
   have r6 := HA9.out.q6
   have r7 := HA9.out.q7
   have rf := HA9.out.fq
   have hx9 := HA9.out.ext
   have hnw := HA9.out.new
   go_wp2
   refine bodyPost_ret (v := .tuple #[rwv ⟨0, ⟨0, 0, .slice none 0 0, []⟩, .slice none 0 0, [], 0, 0, 0⟩, .int .i64 E]) (by simp [results, Tryz.results52, go_sem, rwv, r0, r1, r2, r3, r4, r5, r6, r7]) rfl ⟨_, by rw [HF.out], ⟨_, _, _, _, _, _, rfl, rfl⟩, fun h => absurd (by rw [HF.out] at h; exact h) he, by (repeat' (first | (with_reducible assumption) | (with_reducible exact Wb.Ext.refl _) | (with_reducible refine Wb.Ext.drew ?_) | (with_reducible refine Wb.Ext.drewN ?_ _) | (with_reducible refine Wb.Ext.alloc ?_ _) | (with_reducible refine Wb.ext_set ?_ (by first | assumption | (simp; done) | (simp; omega) | omega) _) | (with_reducible refine Wb.Ext.trans ?_ (by assumption))))⟩
  subst he
  have c0 := HAT5.out.c0
  have c1 := HAT5.out.c1
  have c2 := HAT5.out.c2
  have c3 := HAT5.out.c3
  have c4 := HAT5.out.c4
  have c5 := HAT5.out.c5
  have c6 := HAT5.out.c6
  have c7 := HAT5.out.c7
  go_wp2_with fail
  go_fit (dnet_any _ D _ HSLS5.out (by omega)); rintro e w6 ⟨rfl, hb6⟩
  rw [HZ.out]
  have HAT6 := Lib.hid (HAT5.out.later hb6)
  clear c0 c1 c2 c3 c4 c5 c6 c7 hb6 HAT5 HSLS5
  by_cases he : ze = 0
  case neg =>
   have HF := Lib.hid (show FR = (Wb.noRw, ze) by
    have h9 := HFD.out 0 ze (by rw [HDG.out, if_neg (show ¬ ((0 : Int) ≠ 0) by simp), if_pos he])
    rw [if_pos he] at h9; exact h9)
   have dd : (ze == 0) = false := by simpa using he
   have dd2 : (ze != 0) = true := by simpa using he
   obtain ⟨E, hE⟩ : ∃ E, E = ze := ⟨_, rfl⟩
   subst hE
   go_upto_region 18 with (fail)
   refine Wb.wp_at fun W9 hW9 => ?_
   have HA9 := Lib.hid (show RwAt w W9 R Q base p y i na N.l.length nc da dc D (.slice none 0 0) [] by rw [hW9]; exact HAT6.out.later (by first | exact .refl _ | (repeat' (first | (with_reducible assumption) | (with_reducible exact Wb.Ext.refl _) | (with_reducible refine Wb.Ext.drew ?_) | (with_reducible refine Wb.Ext.drewN ?_ _) | (with_reducible refine Wb.Ext.alloc ?_ _) | (with_reducible refine Wb.ext_set ?_ (by first | assumption | (simp; done) | (simp; omega) | omega) _) | (with_reducible refine Wb.Ext.trans ?_ (by assumption))))))
   clear hW9
   have r0 := HA9.out.q0
   have r1 := HA9.out.q1
   have r2 := HA9.out.q2
   have r3 := HA9.out.q3
   have r4 := HA9.out.q4
   have r5 := HA9.out.q5
   have r6 := HA9.out.q6
   have r7 := HA9.out.q7
   have rf := HA9.out.fq
   have hx9 := HA9.out.ext
   have hnw := HA9.out.new
   go_wp2
   refine bodyPost_ret (v := .tuple #[rwv ⟨0, ⟨0, 0, .slice none 0 0, []⟩, .slice none 0 0, [], 0, 0, 0⟩, .int .i64 E]) (by simp [results, Tryz.results52, go_sem, rwv, r0, r1, r2, r3, r4, r5, r6, r7]) rfl ⟨_, by rw [HF.out], ⟨_, _, _, _, _, _, rfl, rfl⟩, fun h => absurd (by rw [HF.out] at h; exact h) he, by (repeat' (first | (with_reducible assumption) | (with_reducible exact Wb.Ext.refl _) | (with_reducible refine Wb.Ext.drew ?_) | (with_reducible refine Wb.Ext.drewN ?_ _) | (with_reducible refine Wb.Ext.alloc ?_ _) | (with_reducible refine Wb.ext_set ?_ (by first | assumption | (simp; done) | (simp; omega) | omega) _) | (with_reducible refine Wb.Ext.trans ?_ (by assumption))))⟩
  subst he
  have HQ3 := Lib.hid (show Wb.fits q3 = true from (Wb.fits_iff _).2 HQF.out.2.2.2.1)
  have HZF := Lib.hid (Wb.net_fit (by decide) HZ.out)
  have c0 := HAT6.out.c0
  have c1 := HAT6.out.c1
  have c2 := HAT6.out.c2
  have c3 := HAT6.out.c3
  have c4 := HAT6.out.c4
  have c5 := HAT6.out.c5
  have c6 := HAT6.out.c6
  have c7 := HAT6.out.c7
  have cf := HAT6.out.fr
  have r0 := HAT6.out.q0
  have r1 := HAT6.out.q1
  have r2 := HAT6.out.q2
  have r3 := HAT6.out.q3
  have r4 := HAT6.out.q4
  have r5 := HAT6.out.q5
  have r6 := HAT6.out.q6
  have r7 := HAT6.out.q7
  have rf := HAT6.out.fq
  have hQN : ¬ Q = R := by omega
  have hQN2 : ¬ R = Q := by omega
  have hx6 := HAT6.out.ext
  have hRw : w.heap.size ≤ R := by omega
  have hQw : w.heap.size ≤ Q := by omega
  go_wp2_with fail
  go_fit (add_any q3 z _); rintro e w7 ⟨rfl, rfl⟩
  obtain ⟨f, hf⟩ : ∃ f, Wb.fits (q3 + z) = f := ⟨_, rfl⟩
  have HFT := Lib.hid hf
  clear hf
  cases f
  case false =>
   have HT9 := Lib.hid (told_over HQ3.out HZF.out (by rw [HFT.out]; exact Bool.false_ne_true))
   have HF := Lib.hid (show FR = (Wb.noRw, 9) by
    have h9 := HFD.out 0 9 (by rw [HDG.out, if_neg (show ¬ ((0 : Int) ≠ 0) by simp), if_neg (show ¬ ((0 : Int) ≠ 0) by simp), if_pos HFT.out])
    rw [if_pos (by decide)] at h9; exact h9)
   rw [HT9.out]
   go_upto_region 20 with (fail)
   refine Wb.wp_at fun W7 hW7 => ?_
   have s0 : W7.cell? ⟨Q, 0, none⟩ = some (.int .u32 0) := by rw [hW7]; simp [go_sem, r0]
   have s1 : W7.cell? ⟨Q, 1, none⟩ = some (.int .i64 0) := by rw [hW7]; simp [go_sem, r1]
   have s2 : W7.cell? ⟨Q, 2, none⟩ = some (.int .i64 0) := by rw [hW7]; simp [go_sem, r2]
   have s3 : W7.cell? ⟨Q, 3, none⟩ = some (.slice none 0 0) := by rw [hW7]; simp [go_sem, r3]
   have s4 : W7.cell? ⟨Q, 4, none⟩ = some (.slice none 0 0) := by rw [hW7]; simp [go_sem, r4]
   have s5 : W7.cell? ⟨Q, 5, none⟩ = some (.int .i64 0) := by rw [hW7]; simp [go_sem, r5]
   have s6 : W7.cell? ⟨Q, 6, none⟩ = some (.int .i64 0) := by rw [hW7]; simp [go_sem, r6]
   have s7 : W7.cell? ⟨Q, 7, none⟩ = some (.int .i64 0) := by rw [hW7]; simp [go_sem, r7]
   have sf : ∀ j, W7.frozen? ⟨Q, j, none⟩ = false := fun j => by rw [hW7]; have := rf j; simp [go_sem, this]
   have hx7 : Wb.Ext w W7 := by rw [hW7]; (repeat' (first | (with_reducible assumption) | (with_reducible exact Wb.Ext.refl _) | (with_reducible refine Wb.Ext.drew ?_) | (with_reducible refine Wb.Ext.drewN ?_ _) | (with_reducible refine Wb.Ext.alloc ?_ _) | (with_reducible refine Wb.ext_set ?_ (by first | assumption | (simp; done) | (simp; omega) | omega) _) | (with_reducible refine Wb.Ext.trans ?_ (by assumption))))
   clear hW7 c0 c1 c2 c3 c4 c5 c6 c7 cf r0 r1 r2 r3 r4 r5 r6 r7 rf hx6
   go_wp2
   refine bodyPost_ret (v := .tuple #[rwv ⟨0, ⟨0, 0, .slice none 0 0, []⟩, .slice none 0 0, [], 0, 0, 0⟩, .int .i64 9]) (by simp [results, Tryz.results52, go_sem, rwv, s0, s1, s2, s3, s4, s5, s6, s7]) rfl ⟨_, by rw [HF.out], ⟨_, _, _, _, _, _, rfl, rfl⟩, fun h => absurd (by rw [HF.out] at h; exact h) (by decide), by (repeat' (first | (with_reducible assumption) | (with_reducible exact Wb.Ext.refl _) | (with_reducible refine Wb.Ext.drew ?_) | (with_reducible refine Wb.Ext.drewN ?_ _) | (with_reducible refine Wb.Ext.alloc ?_ _) | (with_reducible refine Wb.ext_set ?_ (by first | assumption | (simp; done) | (simp; omega) | omega) _) | (with_reducible refine Wb.Ext.trans ?_ (by assumption))))⟩
  case true =>
  have HT9 := Lib.hid (told_in HQ3.out HZF.out HFT.out)
  obtain ⟨⟨o2, pd, E2⟩, hst⟩ : ∃ q, Wb.settleG owed (q3 + z) = q := ⟨_, rfl⟩
  have HST := Lib.hid hst
  have HF := Lib.hid (show FR = (⟨p, Wb.ct N, D.map Wb.ct, q3 + z, pd, o2⟩, E2) by
   have h9 := HFD.out (q3 + z) 0 (by rw [HDG.out, if_neg (show ¬ ((0 : Int) ≠ 0) by simp), if_neg (show ¬ ((0 : Int) ≠ 0) by simp), if_neg (by rw [HFT.out]; decide)])
   rw [if_neg (show ¬ ((0 : Int) ≠ 0) by simp), hst] at h9
   exact h9)
  clear hst
  rw [HT9.out]
  go_upto_region 20 with (fail)
  refine Wb.wp_at fun W7 hW7 => ?_
  have d0 : W7.cell? ⟨R, 0, none⟩ = some (.int .u32 p) := by rw [hW7]; simp [go_sem, c0]
  have d1 : W7.cell? ⟨R, 1, none⟩ = some (.int .i64 y) := by rw [hW7]; simp [go_sem, c1]
  have d2 : W7.cell? ⟨R, 2, none⟩ = some (.int .i64 i) := by rw [hW7]; simp [go_sem, c2]
  have d3 : W7.cell? ⟨R, 3, none⟩ = some (.slice na N.l.length nc) := by rw [hW7]; simp [go_sem, c3]
  have d4 : W7.cell? ⟨R, 4, none⟩ = some (.slice da D.length dc) := by rw [hW7]; simp [go_sem, c4]
  have d5 : W7.cell? ⟨R, 5, none⟩ = some (.int .i64 (q3 + z)) := by rw [hW7]; simp [go_sem, c5]
  have d6 : W7.cell? ⟨R, 6, none⟩ = some (.int .i64 0) := by rw [hW7]; simp [go_sem, c6]
  have d7 : W7.cell? ⟨R, 7, none⟩ = some (.int .i64 0) := by rw [hW7]; simp [go_sem, c7]
  have s0 : W7.cell? ⟨Q, 0, none⟩ = some (.int .u32 0) := by rw [hW7]; simp [go_sem, r0]
  have s1 : W7.cell? ⟨Q, 1, none⟩ = some (.int .i64 0) := by rw [hW7]; simp [go_sem, r1]
  have s2 : W7.cell? ⟨Q, 2, none⟩ = some (.int .i64 0) := by rw [hW7]; simp [go_sem, r2]
  have s3 : W7.cell? ⟨Q, 3, none⟩ = some (.slice none 0 0) := by rw [hW7]; simp [go_sem, r3]
  have s4 : W7.cell? ⟨Q, 4, none⟩ = some (.slice none 0 0) := by rw [hW7]; simp [go_sem, r4]
  have s5 : W7.cell? ⟨Q, 5, none⟩ = some (.int .i64 0) := by rw [hW7]; simp [go_sem, r5]
  have s6 : W7.cell? ⟨Q, 6, none⟩ = some (.int .i64 0) := by rw [hW7]; simp [go_sem, r6]
  have s7 : W7.cell? ⟨Q, 7, none⟩ = some (.int .i64 0) := by rw [hW7]; simp [go_sem, r7]
  have df : ∀ j, W7.frozen? ⟨R, j, none⟩ = false := fun j => by rw [hW7]; have := cf j; simp [go_sem, this]
  have sf : ∀ j, W7.frozen? ⟨Q, j, none⟩ = false := fun j => by rw [hW7]; have := rf j; simp [go_sem, this]
  have HB7 := Lib.hid (show SlQ R base W7 (.slice da D.length dc) D by rw [hW7]; exact (HAT6.out.back.set (Nat.le_refl _) _ _).ext (by first | exact .refl _ | (repeat' (first | (with_reducible assumption) | (with_reducible exact Wb.Ext.refl _) | (with_reducible refine Wb.Ext.drew ?_) | (with_reducible refine Wb.Ext.drewN ?_ _) | (with_reducible refine Wb.Ext.alloc ?_ _) | (with_reducible refine Wb.ext_set ?_ (by first | assumption | (simp; done) | (simp; omega) | omega) _) | (with_reducible refine Wb.Ext.trans ?_ (by assumption))))))
  have HX7 := Lib.hid (show Wb.Ext w W7 by rw [hW7]; (repeat' (first | (with_reducible assumption) | (with_reducible exact Wb.Ext.refl _) | (with_reducible refine Wb.Ext.drew ?_) | (with_reducible refine Wb.Ext.drewN ?_ _) | (with_reducible refine Wb.Ext.alloc ?_ _) | (with_reducible refine Wb.ext_set ?_ (by first | assumption | (simp; done) | (simp; omega) | omega) _) | (with_reducible refine Wb.Ext.trans ?_ (by assumption)))))
  have hR7 : R < W7.heap.size := Wb.cell_size d0
  clear hW7 c0 c1 c2 c3 c4 c5 c6 c7 cf r0 r1 r2 r3 r4 r5 r6 r7 rf hx6 HAT6
  go_wp2_with fail
  go_fit (settle_any owed (q3 + z) (.inl HOW.out) _); rintro e w8 ⟨rfl, hb8⟩
  rw [HST.out]
  have d0 := hb8.keep d0
  have d1 := hb8.keep d1
  have d2 := hb8.keep d2
  have d3 := hb8.keep d3
  have d4 := hb8.keep d4
  have d5 := hb8.keep d5
  have d6 := hb8.keep d6
  have d7 := hb8.keep d7
  have s0 := hb8.keep s0
  have s1 := hb8.keep s1
  have s2 := hb8.keep s2
  have s3 := hb8.keep s3
  have s4 := hb8.keep s4
  have s5 := hb8.keep s5
  have s6 := hb8.keep s6
  have s7 := hb8.keep s7
  replace df : ∀ j, w8.frozen? ⟨R, j, none⟩ = false := fun j => (hb8.cells.2 _ _ hR7).trans (df j)
  replace sf : ∀ j, w8.frozen? ⟨Q, j, none⟩ = false := fun j => (hb8.cells.2 _ _ (by omega)).trans (sf j)
  have HB8 := Lib.hid (HB7.out.ext hb8)
  have HX8 := Lib.hid (HX7.out.trans hb8)
  have hR8 : R < w8.heap.size := Nat.lt_of_lt_of_le hR7 hb8.size
  clear hb8 HB7 HX7 hR7
  go_upto_region 23 with (fail)
  refine Wb.wp_at fun W9 hW9 => ?_
  obtain ⟨Z, hZ⟩ : ∃ Z, w8.heap.size = Z := ⟨_, rfl⟩
  have hb9 : Wb.Ext w8 W9 := by rw [hW9]; (repeat' (first | (with_reducible assumption) | (with_reducible exact Wb.Ext.refl _) | (with_reducible refine Wb.Ext.drew ?_) | (with_reducible refine Wb.Ext.drewN ?_ _) | (with_reducible refine Wb.Ext.alloc ?_ _) | (with_reducible refine Wb.ext_set ?_ (by first | assumption | (simp; done) | (simp; omega) | omega) _) | (with_reducible refine Wb.Ext.trans ?_ (by assumption))))
  have z0 : W9.cell? ⟨Z, 0, none⟩ = some (.int .i64 o2) := by rw [hW9, ← hZ]; simp [go_sem]
  have hZR : ¬ Z = R := by omega
  have hRZ : ¬ R = Z := by omega
  have d0 := hb9.keep d0
  have d1 := hb9.keep d1
  have d2 := hb9.keep d2
  have d3 := hb9.keep d3
  have d4 := hb9.keep d4
  have d5 := hb9.keep d5
  have d6 := hb9.keep d6
  have d7 := hb9.keep d7
  have s0 := hb9.keep s0
  have s1 := hb9.keep s1
  have s2 := hb9.keep s2
  have s3 := hb9.keep s3
  have s4 := hb9.keep s4
  have s5 := hb9.keep s5
  have s6 := hb9.keep s6
  have s7 := hb9.keep s7
  replace df : ∀ j, W9.frozen? ⟨R, j, none⟩ = false := fun j => (hb9.cells.2 _ _ hR8).trans (df j)
  replace sf : ∀ j, W9.frozen? ⟨Q, j, none⟩ = false := fun j => (hb9.cells.2 _ _ (by omega)).trans (sf j)
  have HB9 := Lib.hid (HB8.out.ext hb9)
  have HX9 := Lib.hid (HX8.out.trans hb9)
  rw [hZ]
  clear hW9 hZ hb9 HB8 HX8 hR8
  by_cases he : E2 = 0
  case neg =>
   have dd : (E2 == 0) = false := by simpa using he
   have dd2 : (E2 != 0) = true := by simpa using he
   have hx9 := HX9.out
   clear d0 d1 d2 d3 d4 d5 d6 d7 df z0
   go_wp2
   refine bodyPost_ret (v := .tuple #[rwv ⟨0, ⟨0, 0, .slice none 0 0, []⟩, .slice none 0 0, [], 0, 0, 0⟩, .int .i64 E2]) (by simp [results, Tryz.results52, go_sem, rwv, s0, s1, s2, s3, s4, s5, s6, s7]) rfl ⟨_, by rw [HF.out], ⟨_, _, _, _, _, _, rfl, rfl⟩, fun h => absurd (by rw [HF.out] at h; exact h) he, by (repeat' (first | (with_reducible assumption) | (with_reducible exact Wb.Ext.refl _) | (with_reducible refine Wb.Ext.drew ?_) | (with_reducible refine Wb.Ext.drewN ?_ _) | (with_reducible refine Wb.Ext.alloc ?_ _) | (with_reducible refine Wb.ext_set ?_ (by first | assumption | (simp; done) | (simp; omega) | omega) _) | (with_reducible refine Wb.Ext.trans ?_ (by assumption))))⟩
  subst he
  go_wp2_with fail
  go_region
  obtain ⟨W6, hW6⟩ : ∃ z9, z9 = ((W9.setCell ⟨R, 6, none⟩ (.int .i64 pd)).setCell ⟨R, 7, none⟩ (.int .i64 o2)).drew := ⟨_, rfl⟩
  rw [← hW6]
  have e0 : W6.cell? ⟨R, 0, none⟩ = some (.int .u32 p) := by rw [hW6]; simp [go_sem, d0]
  have e1 : W6.cell? ⟨R, 1, none⟩ = some (.int .i64 y) := by rw [hW6]; simp [go_sem, d1]
  have e2 : W6.cell? ⟨R, 2, none⟩ = some (.int .i64 i) := by rw [hW6]; simp [go_sem, d2]
  have e3 : W6.cell? ⟨R, 3, none⟩ = some (.slice na N.l.length nc) := by rw [hW6]; simp [go_sem, d3]
  have e4 : W6.cell? ⟨R, 4, none⟩ = some (.slice da D.length dc) := by rw [hW6]; simp [go_sem, d4]
  have e5 : W6.cell? ⟨R, 5, none⟩ = some (.int .i64 (q3 + z)) := by rw [hW6]; simp [go_sem, d5]
  have e6 : W6.cell? ⟨R, 6, none⟩ = some (.int .i64 pd) := by rw [hW6]; simp [go_sem, d6]
  have e7 : W6.cell? ⟨R, 7, none⟩ = some (.int .i64 o2) := by rw [hW6]; simp [go_sem, d7]
  have t0 : W6.cell? ⟨Q, 0, none⟩ = some (.int .u32 0) := by rw [hW6]; simp [go_sem, s0]
  have t1 : W6.cell? ⟨Q, 1, none⟩ = some (.int .i64 0) := by rw [hW6]; simp [go_sem, s1]
  have t2 : W6.cell? ⟨Q, 2, none⟩ = some (.int .i64 0) := by rw [hW6]; simp [go_sem, s2]
  have t3 : W6.cell? ⟨Q, 3, none⟩ = some (.slice none 0 0) := by rw [hW6]; simp [go_sem, s3]
  have t4 : W6.cell? ⟨Q, 4, none⟩ = some (.slice none 0 0) := by rw [hW6]; simp [go_sem, s4]
  have t5 : W6.cell? ⟨Q, 5, none⟩ = some (.int .i64 0) := by rw [hW6]; simp [go_sem, s5]
  have t6 : W6.cell? ⟨Q, 6, none⟩ = some (.int .i64 0) := by rw [hW6]; simp [go_sem, s6]
  have t7 : W6.cell? ⟨Q, 7, none⟩ = some (.int .i64 0) := by rw [hW6]; simp [go_sem, s7]
  have tf : ∀ j, W6.frozen? ⟨Q, j, none⟩ = false := fun j => by rw [hW6]; have := sf j; simp [go_sem, this]
  have HB6 := Lib.hid (show SlQ R base W6 (.slice da D.length dc) D by
   rw [hW6]
   exact (((HB9.out).set (Nat.le_refl _) _ _).set (Nat.le_refl _) _ _).ext (.drew (.refl _)))
  have hx9 := HX9.out
  have HX6 := Lib.hid (show Wb.Ext w W6 by rw [hW6]; (repeat' (first | (with_reducible assumption) | (with_reducible exact Wb.Ext.refl _) | (with_reducible refine Wb.Ext.drew ?_) | (with_reducible refine Wb.Ext.drewN ?_ _) | (with_reducible refine Wb.Ext.alloc ?_ _) | (with_reducible refine Wb.ext_set ?_ (by first | assumption | (simp; done) | (simp; omega) | omega) _) | (with_reducible refine Wb.Ext.trans ?_ (by assumption)))))
  clear hW6 d0 d1 d2 d3 d4 d5 d6 d7 df s0 s1 s2 s3 s4 s5 s6 s7 sf z0 hx9
  have hx6 := HX6.out
  have hQle : Q ≤ R := by omega
  go_wp2
  refine bodyPost_ret (v := .tuple #[rwv ⟨p, ⟨y, i, .slice na N.l.length nc, N.l⟩, .slice da D.length dc, D, q3 + z, pd, o2⟩, .int .i64 0]) (by simp [results, Tryz.results52, go_sem, rwv, t0, t1, t2, t3, t4, t5, t6, t7]) rfl ⟨_, by rw [HF.out], ⟨_, _, _, _, _, _, rfl, rfl⟩, fun _ => ⟨?_, ?_, ?_⟩, by (repeat' (first | (with_reducible assumption) | (with_reducible exact Wb.Ext.refl _) | (with_reducible refine Wb.Ext.drew ?_) | (with_reducible refine Wb.Ext.drewN ?_ _) | (with_reducible refine Wb.Ext.alloc ?_ _) | (with_reducible refine Wb.ext_set ?_ (by first | assumption | (simp; done) | (simp; omega) | omega) _) | (with_reducible refine Wb.Ext.trans ?_ (by assumption))))⟩
  ·rw [HF.out]
   show (⟨p, _, _, _, _, _⟩ : Wb.Rw) = ⟨p, _, _, _, _, _⟩
   rw [show Wb.ct (⟨y, i, .slice na N.l.length nc, N.l⟩ : Wb.Sl) = Wb.ct N by rw [HCT.out]; rfl]
  ·have hb9 := (((((((((HB6.out).set hQle 0 (.int .u32 p)).set hQle 1 (.int .i64 y)).set hQle 2 (.int .i64 i)).set hQle 3 (.slice na N.l.length nc)).set hQle 4 (.slice da D.length dc)).set hQle 5 (.int .i64 (q3 + z))).set hQle 6 (.int .i64 pd)).set hQle 7 (.int .i64 o2))
   exact ⟨by rw [← HNA.out]; exact HNL.out.1.ext (by (repeat' (first | (with_reducible assumption) | (with_reducible exact Wb.Ext.refl _) | (with_reducible refine Wb.Ext.drew ?_) | (with_reducible refine Wb.Ext.drewN ?_ _) | (with_reducible refine Wb.Ext.alloc ?_ _) | (with_reducible refine Wb.ext_set ?_ (by first | assumption | (simp; done) | (simp; omega) | omega) _) | (with_reducible refine Wb.Ext.trans ?_ (by assumption))))), HNL.out.2, hNf, hb9.row.sls, by show D.length ≤ _; omega, HDF.out⟩
  ·intro F w2 h2 hF hB2
   have hb9 := (((((((((HB6.out).set hQle 0 (.int .u32 p)).set hQle 1 (.int .i64 y)).set hQle 2 (.int .i64 i)).set hQle 3 (.slice na N.l.length nc)).set hQle 4 (.slice da D.length dc)).set hQle 5 (.int .i64 (q3 + z))).set hQle 6 (.int .i64 pd)).set hQle 7 (.int .i64 o2))
   refine ⟨by rw [← HNA.out]; exact HNF.out _ hB2, HNL.out.2, hNf, h2.sls hb9.row.sls (fun q hq => hF q ?_) (fun s hs hl q hq => hF q ?_), by show D.length ≤ _; omega, HDF.out⟩
   ·have := (hb9.row.1.lt q hq).1; have := hb9.lt; omega
   ·have := hb9.far s hs hl q hq; omega
end Go.Proofs.YtnefdpnolojojaaGreat
