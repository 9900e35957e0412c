/- Run8 -/
import Derived.Test.YtnefdpnolojojaaGreatDoorMRa
import Derived.Deep.RegionHeld3
namespace Go.Proofs.YtnefdpnolojojaaGreatDoor
open Go.RowKit Go.Sort Go.Lib Go.Maps
set_option maxRecDepth 8000
attribute [local go_sem ↓] Go.wp_at_zero Go.wp_at_succ
def RnV (n y i k : Int) (v : Value) : Value := .agg #[.int .i64 n, .int .i64 y, .int .i64 i, .int .i64 k, v]
theorem own_rwc {w : World} {base g n cap : Nat} {L : List RwM} (h : w.ownsRow base 54 8 (.slice (some ⟨g, 0, none⟩) n cap) n (rowsOf rwc L)) : RwC w g L := by
  intro j r hj i u hu
  have hi : i < 8 := by have := (List.getElem?_eq_some_iff.1 hu).1; rw [rwc_len] at this; exact this
  obtain ⟨g', cap', hv, _, _, _, hc⟩ := Wb.ownsRow_at h (by simp)
  cases hv
  exact hc _ _ ((rowsOf_get rwc_len hj i hi).trans hu)
theorem List.set_getElem_self' {α β : Type} {f : α → β} {l : List α} {j : Nat} {x : α} (h : l[j]? = some x) : (l.map f).set j (f x) = l.map f := by
  rw [← List.map_set]
  congr 1
  obtain ⟨h1, h2⟩ := List.getElem?_eq_some_iff.1 h
  rw [← h2]; exact List.set_getElem_self h1
set_option maxHeartbeats 8000000 in
theorem rclone31_any (n y i k : Int) (rv : Value) (L : List RwM) (w : World) (h : RowsM w rv L) :
    Calls Tryz.prog 27 #[RnV n y i k rv] w fun e w' => ∃ u L', e = .returned (RnV n y i k u) ∧ RowsM w' u L' ∧ L'.map RwM.c = L.map RwM.c ∧ (∀ lo hi w2, hi < w.heap.size → GrownIn lo hi w' w2 → RowsM w2 u L') ∧ Wb.Ext w w' := by
  obtain ⟨ra, rc, rfl⟩ := h.tab.shape
  have HL := Lib.hid h
  have hll := h.many
  clear h
  unfold RnV
  go_enter Tryz.func27, Tryz.ntmps27
  go_wp2_with fail
  go_fit (clonerw_any _ L _ (HL.out.ext (by (repeat' (first | (with_reducible assumption) | (with_reducible exact Wb.Ext.refl _) | (with_reducible refine Wb.Ext.drew ?_) | (with_reducible refine Wb.Ext.drewN ?_ _) | (with_reducible refine Wb.Ext.alloc ?_ _) | (with_reducible refine Wb.ext_set ?_ (by first | assumption | (simp; done) | (simp; omega) | omega) _) | (with_reducible refine Wb.Ext.trans ?_ (by assumption))))))); rintro e w1 ⟨v, rfl, hown, hx⟩
  have hlo := hown.lt
  obtain ⟨B, hB⟩ : ∃ B, w.heap.size = B := ⟨_, rfl⟩
  have b0 : w1.cell? ⟨B, 0, none⟩ = some (.int .i64 n) := by rw [← hB]; exact hx.keep (by simp [go_sem])
  have b1 : w1.cell? ⟨B, 1, none⟩ = some (.int .i64 y) := by rw [← hB]; exact hx.keep (by simp [go_sem])
  have b2 : w1.cell? ⟨B, 2, none⟩ = some (.int .i64 i) := by rw [← hB]; exact hx.keep (by simp [go_sem])
  have b3 : w1.cell? ⟨B, 3, none⟩ = some (.int .i64 k) := by rw [← hB]; exact hx.keep (by simp [go_sem])
  have b4 : w1.cell? ⟨B, 4, none⟩ = some (.slice ra L.length rc) := by rw [← hB]; exact hx.keep (by simp [go_sem])
  have bf : ∀ j, w1.frozen? ⟨B, j, none⟩ = false := fun j => by rw [← hB]; exact (hx.cells.2 _ _ (by simp <;> omega)).trans (by simp [go_sem])
  have z0 : w1.cell? ⟨B + 1, 0, none⟩ = some (.int .i64 0) := by rw [← hB]; exact hx.keep (by simp [go_sem])
  have z1 : w1.cell? ⟨B + 1, 1, none⟩ = some (.int .i64 0) := by rw [← hB]; exact hx.keep (by simp [go_sem])
  have z2 : w1.cell? ⟨B + 1, 2, none⟩ = some (.int .i64 0) := by rw [← hB]; exact hx.keep (by simp [go_sem])
  have z3 : w1.cell? ⟨B + 1, 3, none⟩ = some (.int .i64 0) := by rw [← hB]; exact hx.keep (by simp [go_sem])
  have z4 : w1.cell? ⟨B + 1, 4, none⟩ = some (.slice none 0 0) := by rw [← hB]; exact hx.keep (by simp [go_sem])
  have zf : ∀ j, w1.frozen? ⟨B + 1, j, none⟩ = false := fun j => by rw [← hB]; exact (hx.cells.2 _ _ (by simp <;> omega)).trans (by simp [go_sem])
  have HX := Lib.hid (show Wb.Ext w w1 from Wb.Ext.trans (by (repeat' (first | (with_reducible assumption) | (with_reducible exact Wb.Ext.refl _) | (with_reducible refine Wb.Ext.drew ?_) | (with_reducible refine Wb.Ext.drewN ?_ _) | (with_reducible refine Wb.Ext.alloc ?_ _) | (with_reducible refine Wb.ext_set ?_ (by first | assumption | (simp; done) | (simp; omega) | omega) _) | (with_reducible refine Wb.Ext.trans ?_ (by assumption))))) hx)
  have hBw : w.heap.size ≤ B := by omega
  have hbs : B + 2 ≤ w1.heap.size := by have := hx.size; simp at this; omega
  have HLO := Lib.hid (show ∀ q, v.ownBlock = some q → B + 2 ≤ q ∧ q < w1.heap.size from fun q hq => by
    have := hlo q hq; simp at this; omega)
  rw [hB]
  have HOW := Lib.hid hown
  have HBW := Lib.hid hBw
  obtain ⟨va, vc, rfl⟩ := row_shape hown
  clear hx hB hown hlo hBw
  go_upto_region 2 with (fail)
  refine Wb.wp_at fun W2 hW2 => ?_
  rcases HOW.out.2 with ⟨hv0, h0⟩ | ⟨g, cap, cur, hv0, hg, hgb, hr1, hr2, hr3, hr4⟩
  · have hL0 : L = [] := List.length_eq_zero_iff.1 h0
    subst hL0
    simp only [List.length_nil, Value.slice.injEq] at hv0
    obtain ⟨rfl, -, rfl⟩ := hv0
    have c0 : W2.cell? ⟨B, 0, none⟩ = some (.int .i64 n) := by rw [hW2]; simp [go_sem, b0]
    have c1 : W2.cell? ⟨B, 1, none⟩ = some (.int .i64 y) := by rw [hW2]; simp [go_sem, b1]
    have c2 : W2.cell? ⟨B, 2, none⟩ = some (.int .i64 i) := by rw [hW2]; simp [go_sem, b2]
    have c3 : W2.cell? ⟨B, 3, none⟩ = some (.int .i64 k) := by rw [hW2]; simp [go_sem, b3]
    have c4 : W2.cell? ⟨B, 4, none⟩ = some (.slice none 0 0) := by rw [hW2]; simp [go_sem, b4]
    have y0 : W2.cell? ⟨B + 1, 0, none⟩ = some (.int .i64 0) := by rw [hW2]; simp [go_sem, z0]
    have y1 : W2.cell? ⟨B + 1, 1, none⟩ = some (.int .i64 0) := by rw [hW2]; simp [go_sem, z1]
    have y2 : W2.cell? ⟨B + 1, 2, none⟩ = some (.int .i64 0) := by rw [hW2]; simp [go_sem, z2]
    have y3 : W2.cell? ⟨B + 1, 3, none⟩ = some (.int .i64 0) := by rw [hW2]; simp [go_sem, z3]
    have y4 : W2.cell? ⟨B + 1, 4, none⟩ = some (.slice none 0 0) := by rw [hW2]; simp [go_sem, z4]
    have yf : ∀ j, W2.frozen? ⟨B + 1, j, none⟩ = false := fun j => by have := zf j; rw [hW2]; simp [go_sem, this]
    have hbw := HBW.out
    have hx1 := HX.out
    have hX2 : Wb.Ext w W2 := by rw [hW2]; (repeat' (first | (with_reducible assumption) | (with_reducible exact Wb.Ext.refl _) | (with_reducible refine Wb.Ext.drew ?_) | (with_reducible refine Wb.Ext.drewN ?_ _) | (with_reducible refine Wb.Ext.alloc ?_ _) | (with_reducible refine Wb.ext_set ?_ (by first | assumption | (simp; done) | (simp; omega) | omega) _) | (with_reducible refine Wb.Ext.trans ?_ (by assumption))))
    clear hW2 b0 b1 b2 b3 b4 bf z0 z1 z2 z3 z4 zf hx1
    go_wp2_with fail
    go_loopw [11] (fun iv wr => iv = .int .i64 0 ∧ wr = W2) (fun _ _ => 0)
    case atStart => exact ⟨rfl, rfl⟩
    case round =>
      obtain ⟨rfl, rfl⟩ := hrel
      go_wp2
      refine bodyPost_ret (v := RnV n y i k (.slice none 0 0)) (by simp [results, Tryz.results27, go_sem, RnV, y0, y1, y2, y3, y4]) rfl ⟨_, [], rfl, ⟨Tbl.nil, (fun r hr => by cases hr), by simp, (fun r hr => by cases hr)⟩, rfl, (fun _ _ _ _ _ => ⟨Tbl.nil, (fun r hr => by cases hr), by simp, (fun r hr => by cases hr)⟩), by (repeat' (first | (with_reducible assumption) | (with_reducible exact Wb.Ext.refl _) | (with_reducible refine Wb.Ext.drew ?_) | (with_reducible refine Wb.Ext.drewN ?_ _) | (with_reducible refine Wb.Ext.alloc ?_ _) | (with_reducible refine Wb.ext_set ?_ (by first | assumption | (simp; done) | (simp; omega) | omega) _) | (with_reducible refine Wb.Ext.trans ?_ (by assumption))))⟩
  · simp only [Value.slice.injEq] at hv0
    obtain ⟨rfl, -, rfl⟩ := hv0
    have hx1 := HX.out
    have HRC := Lib.hid (own_rwc HOW.out)
    have hgf : ∀ j, w1.frozen? ⟨g, j, none⟩ = false := fun j => own_free HOW.out _
    have hg2 := HLO.out g rfl
    have hBg : ¬ B = g := by omega
    have hgB : ¬ g = B := by omega
    have hBw2 := HBW.out
    have hgg : w1.grownBy W2 (some B) := by rw [hW2]; exact setj_grown _ _ _ _
    have HAT := Lib.hid (show RcAt w W2 B g vc n y i k L from
      ⟨by rw [hW2]; simp [go_sem, b0], by rw [hW2]; simp [go_sem, b1], by rw [hW2]; simp [go_sem, b2], by rw [hW2]; simp [go_sem, b3], by rw [hW2]; simp [go_sem, b4],
       fun j r hj t u hu => grown_keep hgg (HRC.out j r hj t u hu) (by omega), fun j => by have := hgf j; rw [hW2]; simp [go_sem, this],
       Nat.lt_of_lt_of_le hg2.2 hgg.size, by omega,
       fun j v hv => grown_keep hgg (by
         match j, hv with
         | 0, hv => simp at hv; subst hv; exact z0
         | 1, hv => simp at hv; subst hv; exact z1
         | 2, hv => simp at hv; subst hv; exact z2
         | 3, hv => simp at hv; subst hv; exact z3
         | 4, hv => simp at hv; subst hv; exact z4
         | j + 5, hv => simp at hv) (by omega), fun j => by have := zf j; rw [hW2]; simp [go_sem, this],
       fun r hr => stays_old (HL.out.each r hr) (show Wb.Ext w W2 from hx1.grown hgg (fun k e => by cases e; exact hBw2)) (Nat.le_refl _), HL.out.one, hx1.grown hgg (fun k e => by cases e; exact hBw2), hBw2⟩)
    have hs2 : g < W2.heap.size := HAT.out.lt
    clear hW2 b0 b1 b2 b3 b4 bf z0 z1 z2 z3 z4 zf hx1 hgf hgg hg hgb hr1 hr2 hr3 hr4
    have c4 := HAT.out.b4
    go_wp2_with fail
    go_loopw [11, 3] (fun iv sv wr => ∃ (j : Nat) (m : List RwM), iv = .int .i64 j ∧ j ≤ L.length ∧ Hid (m.map RwM.c = L.map RwM.c) ∧ m.length = L.length ∧ Hid (∀ t r, t < j → m[t]? = some r → Stays 0 g wr r) ∧ Hid (RcAt w wr B g vc n y i k m)) (fun iv _ _ => L.length - (intOf iv).toNat)
    case atStart => exact ⟨0, L, rfl, Nat.zero_le _, Lib.hid rfl, rfl, Lib.hid (fun t r ht => by omega), HAT⟩
    case round =>
      clear HAT c4
      obtain ⟨j, m, rfl, hj, HC, hml, HNS, HAT⟩ := hrel
      obtain ⟨wO, hwz⟩ : ∃ z, z = wr := ⟨_, rfl⟩
      subst hwz
      by_cases hlt : j < L.length
      case neg =>
        have hbw := HBW.out
        have c0 := HAT.out.b0
        have c1 := HAT.out.b1
        have c2 := HAT.out.b2
        have c3 := HAT.out.b3
        have c4 := HAT.out.b4
        have y0 := HAT.out.cz 0 _ rfl
        have y1 := HAT.out.cz 1 _ rfl
        have y2 := HAT.out.cz 2 _ rfl
        have y3 := HAT.out.cz 3 _ rfl
        have y4 := HAT.out.cz 4 _ rfl
        have yf := HAT.out.fc
        have hxO := HAT.out.ext
        have HTB := Lib.hid (show Tbl 8 rwc wO (.slice (some ⟨g, 0, none⟩) m.length vc) m from .inr ⟨g, 0, vc, rfl, fun t r ht s u hu => by rw [Nat.zero_add]; exact HAT.out.rows t r ht s u hu⟩)
        have d1 : decide ((j : Int) < (L.length : Int)) = false := by simp; omega
        have hml2 := Lib.hid hml
        clear hml
        have hgi : ∀ (u0 u1 u2 u3 u4 : Value), GrownIn w.heap.size g wO (((((wO.setCell ⟨B + 1, 0, none⟩ u0).setCell ⟨B + 1, 1, none⟩ u1).setCell ⟨B + 1, 2, none⟩ u2).setCell ⟨B + 1, 3, none⟩ u3).setCell ⟨B + 1, 4, none⟩ u4) := fun u0 u1 u2 u3 u4 =>
          ((((GrownIn.grown (setj_grown wO (B + 1) 0 u0) (by omega) (by omega)).trans (GrownIn.grown (setj_grown _ (B + 1) 1 u1) (by omega) (by omega))).trans (GrownIn.grown (setj_grown _ (B + 1) 2 u2) (by omega) (by omega))).trans (GrownIn.grown (setj_grown _ (B + 1) 3 u3) (by omega) (by omega))).trans (GrownIn.grown (setj_grown _ (B + 1) 4 u4) (by omega) (by omega))
        have hgb : ∀ (u0 u1 u2 u3 u4 : Value), wO.grownBy (((((wO.setCell ⟨B + 1, 0, none⟩ u0).setCell ⟨B + 1, 1, none⟩ u1).setCell ⟨B + 1, 2, none⟩ u2).setCell ⟨B + 1, 3, none⟩ u3).setCell ⟨B + 1, 4, none⟩ u4) (some (B + 1)) := fun u0 u1 u2 u3 u4 =>
          grown_trans (grown_trans (grown_trans (grown_trans (setj_grown wO (B + 1) 0 u0) (setj_grown _ _ _ _)) (setj_grown _ _ _ _)) (setj_grown _ _ _ _)) (setj_grown _ _ _ _)
        have hst0 : ∀ r ∈ m, Stays 0 g wO r := fun r hr => by
          obtain ⟨t, ht⟩ := List.getElem?_of_mem hr
          have h9 := (List.getElem?_eq_some_iff.1 ht).1
          exact HNS.out t r (by have := hml2.out; omega) ht
        go_wp2
        refine bodyPost_ret (v := RnV n y i k (.slice (some ⟨g, 0, none⟩) m.length vc)) (by simp [results, Tryz.results27, go_sem, RnV, y0, y1, y2, y3, y4]) rfl ⟨_, m, rfl, ?_, HC.out, ?_, by (repeat' (first | (with_reducible assumption) | (with_reducible exact Wb.Ext.refl _) | (with_reducible refine Wb.Ext.drew ?_) | (with_reducible refine Wb.Ext.drewN ?_ _) | (with_reducible refine Wb.Ext.alloc ?_ _) | (with_reducible refine Wb.ext_set ?_ (by first | assumption | (simp; done) | (simp; omega) | omega) _) | (with_reducible refine Wb.Ext.trans ?_ (by assumption))))⟩
        · exact ⟨HTB.out.kept (hgb _ _ _ _ _) (fun q e e2 => by injection e with e; injection e2 with e2; simp only at e; omega), fun r hr => HAT.out.stay r hr _ (hgi _ _ _ _ _), by rw [hml2.out]; exact hll, HAT.out.one⟩
        · intro lo hi w2 hhi h2
          have hgi0 : ∀ (u0 u1 u2 u3 u4 : Value), GrownIn 0 g wO (((((wO.setCell ⟨B + 1, 0, none⟩ u0).setCell ⟨B + 1, 1, none⟩ u1).setCell ⟨B + 1, 2, none⟩ u2).setCell ⟨B + 1, 3, none⟩ u3).setCell ⟨B + 1, 4, none⟩ u4) := fun u0 u1 u2 u3 u4 => .grown (hgb u0 u1 u2 u3 u4) (Nat.zero_le _) (by omega)
          have h20 : GrownIn 0 g _ w2 := ⟨h2.os, h2.tape, h2.output, h2.size, fun k hk hr => h2.block k hk (.inr (by omega))⟩
          have h3 := (hgi0 _ _ _ _ _).trans h20
          refine ⟨?_, fun r hr => hst0 r hr _ h3, by rw [hml2.out]; exact hll, HAT.out.one⟩
          refine .inr ⟨g, 0, vc, rfl, fun t r ht s u hu => ?_⟩
          rw [Nat.zero_add]
          exact h2.cell (.inr (by omega)) (grown_keep (hgb _ _ _ _ _) (HAT.out.rows t r ht s u hu) (by omega))
      obtain ⟨r, hr⟩ := Wb.get_ex (show j < m.length by omega)
      have hmem := List.mem_of_getElem? hr
      have hst := HAT.out.stay r hmem
      have hri : RwIs wO r := hst wO .refl
      obtain ⟨na, nc, hnv⟩ := hri.now.1.shape
      obtain ⟨ba, bc, hbv⟩ := hri.back.1.shape
      have c3 := HAT.out.rows j r hr 3 (.slice na r.now.l.length nc) (by rw [← hnv]; rfl)
      have c4 := HAT.out.rows j r hr 4 (.slice ba r.back.length bc) (by rw [← hbv]; rfl)
      have b4 := HAT.out.b4
      have hji : (j : Int) < L.length := by omega
      have HR := Lib.hid hr
      have HRI := Lib.hid hri
      have HST := Lib.hid hst
      have HNV := Lib.hid hnv
      have HBV := Lib.hid hbv
      have HMM := Lib.hid hmem
      have d1 : decide ((j : Int) < (L.length : Int)) = true := by simp; omega
      rw [hml] at b4
      have HML := Lib.hid hml
      clear hr hmem hst hri hnv hbv hml
      go_upto_region 5 with (fail)
      go_cut [11] (fun v wx => v = .int .i64 (j : Int) ∧ ∃ r1 : RwM, r1.c = r.c ∧ RcAt w wx B g vc n y i k (m.set j r1) ∧ r1.bv = r.bv ∧ r1.back = r.back ∧ (∀ q, r1.now.v.ownBlock = some q → g < q) ∧ (∀ t s, t < j → (m.set j r1)[t]? = some s → Stays 0 g wx s) ∧ Wb.Ext w wx)
      case first =>
        have hfr := HAT.out.free
        have hlt9 := HAT.out.lt
        have HCL := Lib.hid (show ∀ W, Wb.Ext wO W → Calls Tryz.prog 53 #[.slice na r.now.l.length nc] W fun e w' => ∃ ca cc, e = .returned (.slice ca r.now.l.length cc) ∧ w'.cell? ⟨B, 4, none⟩ = some (.slice (some ⟨g, 0, none⟩) L.length vc) ∧ w'.cell? ⟨g, j * 8 + 3, none⟩ = some (.slice na r.now.l.length nc) ∧ w'.frozen? ⟨g, j * 8 + 3, none⟩ = false ∧ Hid (Wb.Ext wO w') ∧ Hid (LnsC w' (.slice ca r.now.l.length cc) r.now.l) ∧ Hid (∀ q, (Value.slice ca r.now.l.length cc).ownBlock = some q → g < q) from fun W hW => by
          refine (clonel_any _ r.now.l W (by rw [← HNV.out]; exact HRI.out.now.1.ext hW) (Nat.le_trans HRI.out.few (by decide))).mono ?_
          rintro e w' ⟨cv, rfl, hcv, hb⟩
          obtain ⟨ca, cc, rfl⟩ := row_shape hcv
          exact ⟨ca, cc, rfl, (hW.trans hb).keep b4, (hW.trans hb).keep c3, ((hW.trans hb).cells.2 _ _ hlt9).trans (hfr _), Lib.hid (hW.trans hb), Lib.hid (lnsC_of_row hcv), Lib.hid (fun q hq => by have := (hcv.lt q hq).1; have := hW.size; omega)⟩)
        have FIN := Lib.hid (show ∀ w' ca cc, Wb.Ext wO w' → LnsC w' (.slice ca r.now.l.length cc) r.now.l → (∀ q, (Value.slice ca r.now.l.length cc).ownBlock = some q → g < q) → RcAt w (w'.setCell ⟨g, j * 8 + 3, none⟩ (.slice ca r.now.l.length cc)) B g vc n y i k (m.set j { r with now := { r.now with v := .slice ca r.now.l.length cc } }) from fun w' ca cc hx hln hfar =>
          (HAT.out.later hx).put HR.out (by decide) rfl (fun w2 h2 => by
            have h9 := HST.out w2 ((GrownIn.ext hx).trans h2)
            exact ⟨h2.lns hln (fun _ q hq => hfar q hq), h9.sized, h9.few, h9.back, h9.many, h9.less⟩) ⟨_, _, _, _, _, _, rfl, HBV.out⟩)
        have FN := Lib.hid (show ∀ w' (u : Value) (r1 : RwM), ∀ c : Nat, Wb.Ext wO w' → ∀ t s, t < j → (m.set j r1)[t]? = some s → Stays 0 g (w'.setCell ⟨g, j * 8 + c, none⟩ u) s from fun w' u r1 c hx t s ht hs => by
          rw [List.getElem?_set_ne (by omega)] at hs
          exact ((HNS.out t s ht hs).ext hx).later (.grown (setj_grown _ _ _ _) (Nat.zero_le _) (Nat.le_refl _)))
        clear hfr
        go_wp2_with fail
        go_region_law (go_simp; go_at_call 53; refine (HCL.out _ (by (repeat' (first | (with_reducible assumption) | (with_reducible exact Wb.Ext.refl _) | (with_reducible refine Wb.Ext.drew ?_) | (with_reducible refine Wb.Ext.drewN ?_ _) | (with_reducible refine Wb.Ext.alloc ?_ _) | (with_reducible refine Wb.Ext.trans ?_ (by assumption)))))).mono ?_; rintro e w' ⟨ca, cc, rfl, k4, k3, kf, hb, hln, hfar⟩)
        all_goals go_wp2_with fail
        all_goals go_meet
        all_goals exact ⟨rfl, { r with now := { r.now with v := .slice ca r.now.l.length cc } }, rfl, FIN.out _ _ _ hb.out hln.out hfar.out, rfl, rfl, hfar.out, FN.out _ _ _ 3 hb.out, (FIN.out _ _ _ hb.out hln.out hfar.out).ext⟩
      case rest =>
        obtain ⟨rfl, r1, hr1c, hat, hr1b, hr1k, hr1f, hns1, hxw⟩ := hcut
        obtain ⟨w3, hwz⟩ : ∃ z, z = wc := ⟨_, rfl⟩
        subst hwz
        have hml1 : (m.set j r1).length = L.length := by rw [List.length_set]; exact HML.out
        have hr1 : (m.set j r1)[j]? = some r1 := List.getElem?_set_self (by rw [HML.out]; exact hlt)
        obtain ⟨m1, hm1⟩ : ∃ m1, m.set j r1 = m1 := ⟨_, rfl⟩
        have hcm : m1.map RwM.c = L.map RwM.c := by
          rw [← hm1, List.map_set, hr1c, ← HC.out]
          exact List.set_getElem_self' HR.out
        rw [hm1] at hat hml1 hr1 hns1
        have HNS1 := Lib.hid hns1
        have HR1F := Lib.hid hr1f
        have HAT1 := Lib.hid hat
        have HC1 := Lib.hid hcm
        have HR1 := Lib.hid hr1
        have hmem1 := List.mem_of_getElem? hr1
        have hst1 := hat.stay r1 hmem1
        have hri1 : RwIs w3 r1 := hst1 w3 .refl
        have hbv1 : r1.bv = .slice ba r1.back.length bc := by rw [hr1b, hr1k]; exact HBV.out
        obtain ⟨a9, n9, c9, _, _, _, ho9, _⟩ := hat.one r1 hmem1
        have HRI1 := Lib.hid hri1
        have HST1 := Lib.hid hst1
        have HBV1 := Lib.hid hbv1
        have HO9 := Lib.hid ho9
        have HML1 := Lib.hid hml1
        have b4 := hat.b4
        have c4 := hat.rows j r1 hr1 4 (.slice ba r1.back.length bc) (by rw [← hbv1]; rfl)
        rw [hml1] at b4
        clear hat hr1c hr1b hr1k hr1f hns1 HNS hxw hm1 hml1 hcm hr1 hmem1 hst1 hri1 hbv1 ho9 HAT HC HR HRI HST HNV HBV HML HMM c3
        go_wp2_with fail
        have hfr := HAT1.out.free
        have hlt9 := HAT1.out.lt
        have HCL := Lib.hid (show ∀ W, Wb.Ext w3 W → Calls Tryz.prog 25 #[.slice ba r1.back.length bc] W fun e w' => ∃ ca n cc D, e = .returned (.slice ca n cc) ∧ w'.cell? ⟨B, 4, none⟩ = some (.slice (some ⟨g, 0, none⟩) L.length vc) ∧ w'.cell? ⟨g, j * 8 + 4, none⟩ = some (.slice ba r1.back.length bc) ∧ w'.frozen? ⟨g, j * 8 + 4, none⟩ = false ∧ Hid (Wb.Ext w3 w') ∧ Hid (SlQ g (g + 1) w' (.slice ca n cc) D) ∧ Hid (D.map Wb.ct = r1.back.map Wb.ct) from fun W hW => by
          refine (clone31_any _ r1.back W ⟨by rw [← HBV1.out]; exact HRI1.out.back.ext hW, HRI1.out.many, HRI1.out.less⟩).mono ?_
          rintro e w' ⟨u, D, rfl, hr, hc, hn, hb⟩
          obtain ⟨ca, cc, rfl⟩ := hr.shape
          have hgW : g < W.heap.size := Nat.lt_of_lt_of_le hlt9 hW.size
          exact ⟨ca, _, cc, D, rfl, (hW.trans hb).keep b4, (hW.trans hb).keep c4, ((hW.trans hb).cells.2 _ _ hlt9).trans (hfr _), Lib.hid (hW.trans hb), Lib.hid ⟨hr.mono (by omega), by omega, fun s hs _ q hq => by have := hn s hs q hq; omega⟩, Lib.hid hc⟩)
        have FIN := Lib.hid (show ∀ w' ca n2 cc D, Wb.Ext w3 w' → SlQ g (g + 1) w' (.slice ca n2 cc) D → D.map Wb.ct = r1.back.map Wb.ct → RcAt w (w'.setCell ⟨g, j * 8 + 4, none⟩ (.slice ca n2 cc)) B g vc n y i k (m1.set j { r1 with bv := .slice ca n2 cc, back := D }) from fun w' ca n2 cc D hx hq hc => by
          have hlen : D.length = r1.back.length := by have := congrArg List.length hc; simpa using this
          refine (HAT1.out.later hx).put HR1.out (by decide) rfl (fun w2 h2 => ?_) ⟨_, _, _, _, _, _, HO9.out, rfl⟩
          have h9 := HST1.out w2 ((GrownIn.ext hx).trans h2)
          refine ⟨h9.now, h9.sized, h9.few, (hq.keptIn h2).row.sls, by show D.length ≤ _; rw [hlen]; exact h9.many, fun s hs => ?_⟩
          obtain ⟨t, ht, htc⟩ := List.mem_map.1 (hc ▸ List.mem_map_of_mem (f := Wb.ct) hs)
          have e : t.l = s.l := congrArg (fun c : Int × Int × List Wb.Ln => c.2.2) htc
          rw [← e]; exact h9.less t ht)
        have FN := Lib.hid (show ∀ w' ca n2 cc D, Wb.Ext w3 w' → SlQ g (g + 1) w' (.slice ca n2 cc) D → D.map Wb.ct = r1.back.map Wb.ct → ∀ t s, t < j + 1 → (m1.set j { r1 with bv := .slice ca n2 cc, back := D })[t]? = some s → Stays 0 g (w'.setCell ⟨g, j * 8 + 4, none⟩ (.slice ca n2 cc)) s from fun w' ca n2 cc D hx hq hc t s ht hs => by
          by_cases e : j = t
          · subst e
            rw [List.getElem?_set_self (by rw [HML1.out]; exact hlt)] at hs
            obtain rfl := Option.some.inj hs
            have hlen : D.length = r1.back.length := by have := congrArg List.length hc; simpa using this
            refine Stays.later (w := w') (fun w2 h2 => ?_) (.grown (setj_grown _ _ _ _) (Nat.zero_le _) (Nat.le_refl _))
            have h9 := HRI1.out
            refine ⟨h2.lns (h9.now.ext hx) (fun _ q hq => HR1F.out q hq), h9.sized, h9.few, (hq.keptIn h2).row.sls, by show D.length ≤ _; rw [hlen]; exact h9.many, fun s hs => ?_⟩
            obtain ⟨t, ht, htc⟩ := List.mem_map.1 (hc ▸ List.mem_map_of_mem (f := Wb.ct) hs)
            have e : t.l = s.l := congrArg (fun c : Int × Int × List Wb.Ln => c.2.2) htc
            rw [← e]; exact h9.less t ht
          · rw [List.getElem?_set_ne e] at hs
            exact ((HNS1.out t s (by omega) hs).ext hx).later (.grown (setj_grown _ _ _ _) (Nat.zero_le _) (Nat.le_refl _)))
        have FC := Lib.hid (show ∀ (D : List Wb.Sl) (bv : Value), D.map Wb.ct = r1.back.map Wb.ct → (m1.set j { r1 with bv := bv, back := D }).map RwM.c = L.map RwM.c from fun D bv hc => by
          have e : RwM.c { r1 with bv := bv, back := D } = r1.c := by unfold RwM.c; simp only; rw [hc]
          rw [List.map_set, e, ← HC1.out]
          exact List.set_getElem_self' HR1.out)
        have HLEN := Lib.hid (show ∀ r9, (m1.set j r9).length = L.length from fun r9 => by rw [List.length_set]; exact HML1.out)
        clear hfr
        go_region_law (go_simp; go_at_call 25; refine (HCL.out _ (by (repeat' (first | (with_reducible assumption) | (with_reducible exact Wb.Ext.refl _) | (with_reducible refine Wb.Ext.drew ?_) | (with_reducible refine Wb.Ext.drewN ?_ _) | (with_reducible refine Wb.Ext.alloc ?_ _) | (with_reducible refine Wb.Ext.trans ?_ (by assumption)))))).mono ?_; rintro e w' ⟨ca, n2, cc, D, rfl, k4, k3, kf, hb, hq, hc⟩)
        all_goals go_wp2
        all_goals go_roundw
        all_goals first | exact ⟨j + 1, m1.set j { r1 with bv := .slice ca n2 cc, back := D }, by go_num, by omega, Lib.hid (FC.out D _ hc.out), HLEN.out _, Lib.hid (FN.out _ _ _ _ _ hb.out hq.out hc.out), Lib.hid (FIN.out _ _ _ _ _ hb.out hq.out hc.out)⟩ | (simp [intOf]; done) | (simp [intOf]; omega)
end Go.Proofs.YtnefdpnolojojaaGreatDoor
