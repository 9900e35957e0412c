/- Run1 -/
import Derived.Test.YtnefdpnolojojaaGreatDoorMPm
import Derived.Test.YtnefdpnolojojaaGreatDoorDel8
namespace Go.Proofs.YtnefdpnolojojaaGreatDoor
open Go.RowKit Go.Sort
set_option maxRecDepth 8000
attribute [local go_sem ↓] Go.wp_at_zero Go.wp_at_succ
theorem dright_any (c : Int) (w : World) : Calls Tryz.prog 76 #[.int .i64 c] w fun e w' => e = .returned (.bool (Wb.rightC c)) ∧ w = w' := by
 by_cases h1 : 0 ≤ c
 ·have d1 : decide (0 ≤ c) = true := by simp [h1]
  have H := Lib.hid (show Wb.rightC c = decide (c ≤ 1125899906842624) by simp [Wb.rightC, h1])
  go_enter Tryz.func76, Tryz.ntmps76
  go_wp2
  go_ret
  exact ⟨Wb.ret_bool (by rw [H.out]), rfl⟩
 ·have d1 : decide (0 ≤ c) = false := by simp; omega
  have H := Lib.hid (show Wb.rightC c = false by simp [Wb.rightC]; omega)
  go_enter Tryz.func76, Tryz.ntmps76
  go_wp2
  go_ret
  exact ⟨Wb.ret_bool (by rw [H.out]), rfl⟩
set_option maxHeartbeats 2000000 in
theorem settle_any (o due : Int) (_ho : Wb.rightC o = true ∨ (-1152921504606846976 ≤ o ∧ o ≤ 1152921504606846976)) (w : World) : Calls Tryz.prog 51 #[.agg #[.int .i64 o], .int .i64 due] w fun e w' => e = .returned (.tuple #[.agg #[.int .i64 (Wb.settleG o due).1], .int .i64 (Wb.settleG o due).2.1, .int .i64 (Wb.settleG o due).2.2]) ∧ Wb.Ext w w' := by
 have HO : Wb.rightC o = true → 0 ≤ o ∧ o ≤ 1125899906842624 := fun h => by simpa [Wb.rightC] using h
 have HO2 := Lib.hid HO
 clear HO _ho
 obtain ⟨R, hR⟩ : ∃ R, Wb.settleG o due = R := ⟨_, rfl⟩
 rw [hR]
 obtain ⟨r1, hr1⟩ : ∃ r, Wb.rightC o = r := ⟨_, rfl⟩
 go_enter Tryz.func51, Tryz.ntmps51
 have HR := Lib.hid hR
 have HR1 := Lib.hid hr1
 clear hR hr1
 go_wp2_with fail
 go_fit (dright_any o _); rintro e w1 ⟨rfl, rfl⟩
 rw [HR1.out]
 cases r1
 ·have HF := Lib.hid (show R = (o, 0, 2) by rw [← HR.out, Wb.settleG, if_pos HR1.out])
  go_wp2
  refine bodyPost_ret (v := .tuple #[.agg #[.int .i64 (o)], .int .i64 (0), .int .i64 2]) (by simp [results, Tryz.results51, go_sem]) rfl ⟨by rw [HF.out], by (repeat' (first | (with_reducible assumption) | (with_reducible exact Wb.Ext.refl _) | (with_reducible refine Wb.Ext.drew ?_) | (with_reducible refine Wb.Ext.drewN ?_ _) | (with_reducible refine Wb.Ext.alloc ?_ _) | (with_reducible refine Wb.Ext.trans ?_ (by assumption))))⟩
 have hob := HO2.out HR1.out
 by_cases h2 : due < -1125899906842624
 ·have d2 : decide (due < -1125899906842624) = true := by simp [h2]
  have HF := Lib.hid (show R = (o, 0, 9) by rw [← HR.out, Wb.settleG, if_neg (by rw [HR1.out]; decide), if_pos (.inl h2)])
  go_wp2
  refine bodyPost_ret (v := .tuple #[.agg #[.int .i64 (o)], .int .i64 (0), .int .i64 9]) (by simp [results, Tryz.results51, go_sem]) rfl ⟨by rw [HF.out], by (repeat' (first | (with_reducible assumption) | (with_reducible exact Wb.Ext.refl _) | (with_reducible refine Wb.Ext.drew ?_) | (with_reducible refine Wb.Ext.drewN ?_ _) | (with_reducible refine Wb.Ext.alloc ?_ _) | (with_reducible refine Wb.Ext.trans ?_ (by assumption))))⟩
 have d2 : decide (due < -1125899906842624) = false := by simp; omega
 by_cases h3 : 1125899906842624 < due
 ·have d3 : decide (1125899906842624 < due) = true := by simp [h3]
  have HF := Lib.hid (show R = (o, 0, 9) by rw [← HR.out, Wb.settleG, if_neg (by rw [HR1.out]; decide), if_pos (.inr h3)])
  go_wp2
  refine bodyPost_ret (v := .tuple #[.agg #[.int .i64 (o)], .int .i64 (0), .int .i64 9]) (by simp [results, Tryz.results51, go_sem]) rfl ⟨by rw [HF.out], by (repeat' (first | (with_reducible assumption) | (with_reducible exact Wb.Ext.refl _) | (with_reducible refine Wb.Ext.drew ?_) | (with_reducible refine Wb.Ext.drewN ?_ _) | (with_reducible refine Wb.Ext.alloc ?_ _) | (with_reducible refine Wb.Ext.trans ?_ (by assumption))))⟩
 have d3 : decide (1125899906842624 < due) = false := by simp; omega
 have hng : ¬ (due < -1125899906842624 ∨ 1125899906842624 < due) := by omega
 obtain ⟨d, hd⟩ : ∃ d, due - o = d := ⟨_, rfl⟩
 have hdw : IntKind.i64.wrap (due - o) = d := by rw [IntWalk.i64_in _ (by omega)]; exact hd
 have hnw : IntKind.i64.wrap (-d) = -d := by rw [IntWalk.i64_in _ (by omega)]
 have HNG := Lib.hid hng
 have HD := Lib.hid hd
 clear hng hd hob
 by_cases h4 : 0 ≤ d
 ·have d4 : decide (0 ≤ d) = true := by simp [h4]
  have HF := Lib.hid (show R = (0, d, 0) by rw [← HR.out, Wb.settleG, if_neg (by rw [HR1.out]; decide), if_neg HNG.out, HD.out, if_pos h4])
  go_wp2
  refine bodyPost_ret (v := .tuple #[.agg #[.int .i64 (0)], .int .i64 (d), .int .i64 0]) (by simp [results, Tryz.results51, go_sem]) rfl ⟨by rw [HF.out], by (repeat' (first | (with_reducible assumption) | (with_reducible exact Wb.Ext.refl _) | (with_reducible refine Wb.Ext.drew ?_) | (with_reducible refine Wb.Ext.drewN ?_ _) | (with_reducible refine Wb.Ext.alloc ?_ _) | (with_reducible refine Wb.Ext.trans ?_ (by assumption))))⟩
 have d4 : decide (0 ≤ d) = false := by simp; omega
 obtain ⟨r2, hr2⟩ : ∃ r, Wb.rightC (-d) = r := ⟨_, rfl⟩
 have HR2 := Lib.hid hr2
 clear hr2
 go_wp2_with fail
 go_fit (dright_any (-d) _); rintro e w2 ⟨rfl, hw2⟩
 rw [HR2.out]
 cases r2
 ·have HF := Lib.hid (show R = (o, 0, 9) by rw [← HR.out, Wb.settleG, if_neg (by rw [HR1.out]; decide), if_neg HNG.out, HD.out, if_neg (by omega), if_pos HR2.out])
  rw [← hw2]
  clear hw2
  go_wp2
  refine bodyPost_ret (v := .tuple #[.agg #[.int .i64 (o)], .int .i64 (0), .int .i64 9]) (by simp [results, Tryz.results51, go_sem]) rfl ⟨by rw [HF.out], by (repeat' (first | (with_reducible assumption) | (with_reducible exact Wb.Ext.refl _) | (with_reducible refine Wb.Ext.drew ?_) | (with_reducible refine Wb.Ext.drewN ?_ _) | (with_reducible refine Wb.Ext.alloc ?_ _) | (with_reducible refine Wb.Ext.trans ?_ (by assumption))))⟩
 ·have HF := Lib.hid (show R = (-d, 0, 0) by rw [← HR.out, Wb.settleG, if_neg (by rw [HR1.out]; decide), if_neg HNG.out, HD.out, if_neg (by omega), if_neg (by rw [HR2.out]; decide)])
  rw [← hw2]
  clear hw2
  go_wp2
  refine bodyPost_ret (v := .tuple #[.agg #[.int .i64 (-d)], .int .i64 (0), .int .i64 0]) (by simp [results, Tryz.results51, go_sem]) rfl ⟨by rw [HF.out], by (repeat' (first | (with_reducible assumption) | (with_reducible exact Wb.Ext.refl _) | (with_reducible refine Wb.Ext.drew ?_) | (with_reducible refine Wb.Ext.drewN ?_ _) | (with_reducible refine Wb.Ext.alloc ?_ _) | (with_reducible refine Wb.Ext.trans ?_ (by assumption))))⟩
theorem period31_any (y i : Int) (hy : 0 ≤ y ∧ y ≤ 1000000) (hi : 0 ≤ i ∧ i ≤ 1000000) (w : World) : Calls Tryz.prog 41 #[.int .i64 y, .int .i64 i] w fun e w' => e = .returned (.int .i64 (Wb.perN y i)) ∧ w = w' := by
 have h1 : IntKind.i64.wrap (y * 401) = y * 401 := IntWalk.i64_in _ (by omega)
 have h2 : IntKind.i64.wrap (y * 401 + i) = y * 401 + i := IntWalk.i64_in _ (by omega)
 go_enter Tryz.func41, Tryz.ntmps41
 go_wp2
 go_ret
 exact ⟨rfl, rfl⟩
namespace Wb
theorem net_fit : ∀ {L : List Sl} {acc z : Int}, fits acc = true → netF acc L = (z, 0) → fits z = true
 | [], acc, z, ha, h => by simp [netF] at h; rw [← h]; exact ha
 | s :: r, acc, z, ha, h => by
  rw [netF] at h
  split at h
  ·exact net_fit ha h
  ·split at h
   ·rename_i he; simp only [Prod.mk.injEq] at h; exact absurd h.2 he
   ·split at h
    ·simp at h
    ·rename_i hf
     exact net_fit (by simpa using hf) h
end Wb
def RwV (p y i : Int) (v bv : Value) (d pd o : Int) : Value := .agg #[.int .u32 p, .int .i64 y, .int .i64 i, v, bv, .int .i64 d, .int .i64 pd, .int .i64 o]
theorem due_any (p y i : Int) (v bv : Value) (l : List Wb.Ln) (L : List Wb.Sl) (d0 p0 o0 : Int) (w : World) (hl : Lns w v l) (hs : Sized l) (hL : Sls w bv L) (hLl : L.length ≤ 1000000) :
  Calls Tryz.prog 50 #[RwV p y i v bv d0 p0 o0] w fun e w' => e = Two (Wb.dueG (y, i, l) (L.map Wb.ct)) ∧ Wb.Ext w w' := by
 have HL := Lib.hid hL
 have Hl := Lib.hid hl
 have HS := Lib.hid hs
 clear hL hl hs
 obtain ⟨la, lc, rfl⟩ := Hl.out.shape
 obtain ⟨ba, bc, rfl⟩ := HL.out.1.shape
 obtain ⟨⟨q1, q2, q3, q4, q5⟩, hq⟩ : ∃ q, Wb.sums y i l = q := ⟨_, rfl⟩
 obtain ⟨⟨z, ze⟩, hz⟩ : ∃ q, Wb.netF 0 L = q := ⟨_, rfl⟩
 have HQ := Lib.hid hq
 have HZ := Lib.hid hz
 have hzz : Wb.netF 0 (Wb.lst (L.map Wb.ct)) = (z, ze) := by rw [Wb.lst_ct, Wb.net_nrm, hz]
 obtain ⟨R, hR⟩ : ∃ R, Wb.dueG (y, i, l) (L.map Wb.ct) = R := ⟨_, rfl⟩
 have HR := Lib.hid (show (if q5 ≠ 0 then ((0 : Int), q5) else if ze ≠ 0 then (0, ze) else if Wb.fits (q3 + z) = false then (0, 9) else (q3 + z, 0)) = R by rw [← hR, Wb.dueG]; simp only [hq, hzz])
 have HQF := Lib.hid (Wb.sums_law hq)
 rw [hR]
 clear hq hz hzz hR
 unfold RwV
 go_enter Tryz.func50, Tryz.ntmps50
 go_wp2_with fail
 go_fit (sums_any y i _ l _ (Hl.out.ext (by (repeat' (first | (with_reducible assumption) | (with_reducible exact Wb.Ext.refl _) | (with_reducible refine Wb.Ext.drew ?_) | (with_reducible refine Wb.Ext.drewN ?_ _) | (with_reducible refine Wb.Ext.alloc ?_ _) | (with_reducible refine Wb.ext_set ?_ (by first | assumption | (simp; done) | (simp; omega) | omega) _) | (with_reducible refine Wb.Ext.trans ?_ (by assumption)))))) HS.out); rintro e w1 ⟨rfl, hb1⟩
 rw [HQ.out]
 have hx1 : Wb.Ext w w1 := Wb.Ext.trans (by (repeat' (first | (with_reducible assumption) | (with_reducible exact Wb.Ext.refl _) | (with_reducible refine Wb.Ext.drew ?_) | (with_reducible refine Wb.Ext.drewN ?_ _) | (with_reducible refine Wb.Ext.alloc ?_ _) | (with_reducible refine Wb.ext_set ?_ (by first | assumption | (simp; done) | (simp; omega) | omega) _) | (with_reducible refine Wb.Ext.trans ?_ (by assumption))))) hb1
 have d4 : w1.cell? ⟨w.heap.size, 4, none⟩ = some (.slice ba L.length bc) := hb1.keep (by simp [go_sem])
 clear hb1
 by_cases he : q5 = 0
 case neg =>
  have d : (q5 == 0) = false := by simpa using he
  have d2 : (q5 != 0) = true := by simpa using he
  have HF := Lib.hid (show R = (0, q5) by rw [← HR.out, if_pos he])
  go_wp2
  refine bodyPost_ret (v := .tuple #[.int .i64 0, .int .i64 q5]) (by simp [results, Tryz.results50, go_sem]) rfl ⟨by rw [HF.out], hx1⟩
 subst he
 have HR2 := Lib.hid (show (if ze ≠ 0 then ((0 : Int), ze) else if Wb.fits (q3 + z) = false then (0, 9) else (q3 + z, 0)) = R by have h9 := HR.out; rwa [if_neg (show ¬ ((0 : Int) ≠ 0) by simp)] at h9)
 go_wp2_with fail
 go_fit (dnet_any _ L _ (HL.out.ext hx1) hLl); rintro e w2 ⟨rfl, hb2⟩
 rw [HZ.out]
 have hx2 : Wb.Ext w w2 := hx1.trans hb2
 clear hb2 d4 hx1
 by_cases he : ze = 0
 case neg =>
  have d : (ze == 0) = false := by simpa using he
  have d2 : (ze != 0) = true := by simpa using he
  have HF := Lib.hid (show R = (0, ze) by rw [← HR2.out, if_pos he])
  go_wp2
  refine bodyPost_ret (v := .tuple #[.int .i64 0, .int .i64 ze]) (by simp [results, Tryz.results50, go_sem]) rfl ⟨by rw [HF.out], hx2⟩
 subst he
 have HR3 := Lib.hid (show (if Wb.fits (q3 + z) = false then ((0 : Int), (9 : Int)) else (q3 + z, 0)) = R by have h9 := HR2.out; rwa [if_neg (show ¬ ((0 : Int) ≠ 0) by simp)] at h9)
 have HQ3 := Lib.hid (show Wb.fits q3 = true from (Wb.fits_iff _).2 HQF.out.2.2.2.1)
 have HZF := Lib.hid (Wb.net_fit (by decide) HZ.out)
 go_wp2_with fail
 go_fit (add_any q3 z _); rintro e w3 ⟨rfl, rfl⟩
 obtain ⟨f, hf⟩ : ∃ f, Wb.fits (q3 + z) = f := ⟨_, rfl⟩
 have HF := Lib.hid hf
 clear hf
 cases f
 ·have HT := Lib.hid (told_over HQ3.out HZF.out (by rw [HF.out]; exact Bool.false_ne_true))
  have HN := Lib.hid (show R = (0, 9) by rw [← HR3.out, if_pos HF.out])
  rw [HT.out]
  go_wp2
  refine bodyPost_ret (v := .tuple #[.int .i64 0, .int .i64 9]) (by simp [results, Tryz.results50, go_sem]) rfl ⟨by rw [HN.out], hx2⟩
 ·have HT := Lib.hid (told_in HQ3.out HZF.out HF.out)
  have HN := Lib.hid (show R = (q3 + z, 0) by rw [← HR3.out, if_neg (by rw [HF.out]; decide)])
  rw [HT.out]
  go_wp2
  refine bodyPost_ret (v := .tuple #[.int .i64 (q3 + z), .int .i64 0]) (by simp [results, Tryz.results50, go_sem]) rfl ⟨by rw [HN.out], hx2⟩
theorem prT {a b : Int × Int} (h : a.1 < b.1 ∨ a.1 = b.1 ∧ a.2 < b.2) : prLt a b = true := (prLt_iff _ _).2 h
theorem prF {a b : Int × Int} (h : ¬ (a.1 < b.1 ∨ a.1 = b.1 ∧ a.2 < b.2)) : prLt a b = false := by
 rw [Bool.eq_false_iff]; intro k; exact h ((prLt_iff _ _).1 k)
namespace Wb
theorem hand_bad {q : Int × Int} {p : Option (Int × Int)} {s : Sl} {r : List Sl} (h : check s.y s.i s.l ≠ 0) : handE q p (s :: r) = check s.y s.i s.l := by rw [handE, if_pos h]
theorem hand_order {q : Int × Int} {p : Option (Int × Int)} {s : Sl} {r : List Sl} (h : check s.y s.i s.l = 0) (k : (∃ a, p = some a ∧ prLt a (perS s) = false) ∨ prLt q (perS s) = true) : handE q p (s :: r) = 8 := by rw [handE, if_neg (by omega), if_pos k]
theorem hand_more {q : Int × Int} {p : Option (Int × Int)} {s : Sl} {r : List Sl} (h : check s.y s.i s.l = 0) (k : ¬ ((∃ a, p = some a ∧ prLt a (perS s) = false) ∨ prLt q (perS s) = true)) : handE q p (s :: r) = handE q (some (perS s)) r := by rw [handE, if_neg (by omega), if_neg k]
def notUp (L : List Sl) (k : Nat) (s : Sl) : Bool := match prevP L k with
 | none => false
 | some a => !prLt a (perS s)
theorem notUp_iff {L : List Sl} {k : Nat} {s : Sl} : notUp L k s = true ↔ ∃ a, prevP L k = some a ∧ prLt a (perS s) = false := by
 unfold notUp
 cases prevP L k <;> simp
end Wb
set_option maxHeartbeats 2000000 in
theorem check31_any (v : Value) (L : List Wb.Sl) (y i : Int) (w : World) (hL : Sls w v L) (hl : L.length ≤ 4096) :
  Calls Tryz.prog 18 #[v, .int .i64 y, .int .i64 i] w fun e w' => e = .returned (.int .i64 (Wb.handE (y, i) none L)) ∧ Wb.Ext w w' := by
 obtain ⟨va, vc, rfl⟩ := hL.1.shape
 have HS := Lib.hid hL
 clear hL
 have d : decide ((4096 : Int) < (L.length : Int)) = false := by simp; omega
 go_enter Tryz.func18, Tryz.ntmps18
 go_wp2_with fail
 go_loopw [16] (fun iv wr => ∃ k : Nat, k ≤ L.length ∧ iv = .int .i64 k ∧ Hid (Wb.handE (y, i) none L = Wb.handE (y, i) (Wb.prevP L k) (L.drop k)) ∧ Wb.Ext w wr) (fun iv _ => L.length - (intOf iv).toNat)
 case atStart => exact ⟨0, Nat.zero_le _, rfl, Lib.hid rfl, .refl _⟩
 case round =>
  obtain ⟨k, hk, rfl, HT, hxr⟩ := hrel
  by_cases hlt : k < L.length
  case neg =>
   obtain rfl : k = L.length := by omega
   have HE := Lib.hid (show Wb.handE (y, i) none L = 0 by rw [HT.out, List.drop_length, Wb.handE])
   go_wp2
   refine bodyPost_ret (v := .int .i64 0) (by simp [results, Tryz.results18, go_sem]) rfl ⟨by rw [HE.out], hxr⟩
  obtain ⟨x, hx⟩ := Wb.get_ex hlt
  have hmem := List.mem_of_getElem? hx
  have HSr := Lib.hid (HS.out.ext hxr)
  obtain ⟨b, off, rfl, c0, c1, c2⟩ := HSr.out.cells hx
  obtain ⟨xa, xc, hxv⟩ := (HSr.out.2 x hmem).1.1.shape
  rw [hxv] at c2
  have HLN : Hid (Lns wr (.slice xa x.l.length xc) x.l) := Lib.hid (by rw [← hxv]; exact (HSr.out.2 x hmem).1.1)
  have HSZ := Lib.hid (HSr.out.2 x hmem).2
  have hki : (k : Int) < L.length := by omega
  have HX := Lib.hid hx
  have HDR := Lib.hid (drop_at hx)
  clear hxv hmem hx
  go_upto_region 6 with (fail)
  refine Wb.wp_at fun W0 hW0 => ?_
  obtain ⟨X, hX⟩ : ∃ X, wr.heap.size = X := ⟨_, rfl⟩
  have hb0 : Wb.Ext wr W0 := by rw [hW0]; (repeat' (first | (with_reducible assumption) | (with_reducible exact Wb.Ext.refl _) | (with_reducible refine Wb.Ext.drew ?_) | (with_reducible refine Wb.Ext.drewN ?_ _) | (with_reducible refine Wb.Ext.alloc ?_ _) | (with_reducible refine Wb.ext_set ?_ (by first | assumption | (simp; done) | (simp; omega) | omega) _) | (with_reducible refine Wb.Ext.trans ?_ (by assumption))))
  have x0 : W0.cell? ⟨X, 0, none⟩ = some (.int .i64 x.y) := by rw [hW0, ← hX]; simp [go_sem]
  have x1 : W0.cell? ⟨X, 1, none⟩ = some (.int .i64 x.i) := by rw [hW0, ← hX]; simp [go_sem]
  have x2 : W0.cell? ⟨X, 2, none⟩ = some (.slice xa x.l.length xc) := by rw [hW0, ← hX]; simp [go_sem]
  have HX0 := Lib.hid (hxr.trans hb0)
  replace HLN := Lib.hid (HLN.out.ext hb0)
  rw [hX]
  clear hW0 hX c0 c1 c2 hb0
  obtain ⟨E, hE⟩ : ∃ E, Wb.check x.y x.i x.l = E := ⟨_, rfl⟩
  have HEE := Lib.hid hE
  clear hE
  go_wp2_with fail
  go_fit (check_any x.y x.i _ x.l _ HLN.out HSZ.out); rintro e w2 ⟨rfl, hb2⟩
  rw [HEE.out]
  have x0 := hb2.keep x0
  have x1 := hb2.keep x1
  have x2 := hb2.keep x2
  have HX2 := Lib.hid (HX0.out.trans hb2)
  clear hb2
  by_cases he : E = 0
  case neg =>
   have dd : (E == 0) = false := by simpa using he
   have dd2 : (E != 0) = true := by simpa using he
   have HF := Lib.hid (show Wb.handE (y, i) none L = E by rw [HT.out, HDR.out, Wb.hand_bad (by rw [HEE.out]; exact he), HEE.out])
   go_wp2
   refine bodyPost_ret (v := .int .i64 E) (by simp [results, Tryz.results18, go_sem]) rfl ⟨by rw [HF.out], HX2.out⟩
  subst he
  have x0' := x0
  go_upto_region 9 with (fail)
  go_cut [10] (fun v wx => v = .bool (Wb.notUp L k x) ∧ Wb.Ext w2 wx)
  case first =>
   rcases Nat.eq_zero_or_pos k with hk0 | hk0
   ·subst hk0
    have HA := Lib.hid (show Wb.notUp L 0 x = false from rfl)
    go_wp2_with fail
    go_quiet (fail)
    go_wp2_with fail
    go_meet
    exact ⟨by rw [HA.out], by (repeat' (first | (with_reducible assumption) | (with_reducible exact Wb.Ext.refl _) | (with_reducible refine Wb.Ext.drew ?_) | (with_reducible refine Wb.Ext.drewN ?_ _) | (with_reducible refine Wb.Ext.alloc ?_ _) | (with_reducible refine Wb.Ext.trans ?_ (by assumption))))⟩
   ·obtain ⟨m, hm⟩ : ∃ m, m + 1 = k := ⟨k - 1, by omega⟩
    obtain ⟨p, hp⟩ := Wb.get_ex (show m < L.length by omega)
    have HN := Lib.hid (show Wb.notUp L k x = !prLt (Wb.perS p) (Wb.perS x) by unfold Wb.notUp; rw [← hm, Wb.prevP_succ hp])
    obtain ⟨b', off', hbb, p0, p1, p2⟩ := (HS.out.ext HX2.out).cells hp
    cases hbb
    have hmw : IntKind.i64.wrap ((k : Int) - 1) = (m : Int) := by rw [IntWalk.i64_in _ (by omega)]; omega
    have hmi : (m : Int) < L.length := by omega
    have dk : decide ((0 : Int) < (k : Int)) = true := by simp; omega
    clear p2 hp hm
    rcases Int.lt_trichotomy p.y x.y with hy | hy | hy
    ·have e1 : decide (x.y < p.y) = false := by simp; omega
     have e2 : (p.y == x.y) = false := by simp; omega
     have HA := Lib.hid (show Wb.notUp L k x = false by rw [HN.out, prT (by show p.y < x.y ∨ p.y = x.y ∧ p.i < x.i; omega)]; rfl)
     go_wp2_with fail
     go_quiet (fail)
     go_wp2_with fail
     go_meet
     exact ⟨by rw [HA.out], by (repeat' (first | (with_reducible assumption) | (with_reducible exact Wb.Ext.refl _) | (with_reducible refine Wb.Ext.drew ?_) | (with_reducible refine Wb.Ext.drewN ?_ _) | (with_reducible refine Wb.Ext.alloc ?_ _) | (with_reducible refine Wb.Ext.trans ?_ (by assumption))))⟩
    ·have e1 : decide (x.y < p.y) = false := by simp; omega
     have e2 : (p.y == x.y) = true := by simp; omega
     by_cases hi : x.i ≤ p.i
     ·have e3 : decide (x.i ≤ p.i) = true := by simp; omega
      have HA := Lib.hid (show Wb.notUp L k x = true by rw [HN.out, prF (by show ¬ (p.y < x.y ∨ p.y = x.y ∧ p.i < x.i); omega)]; rfl)
      go_wp2_with fail
      go_quiet (fail)
      go_wp2_with fail
      go_meet
      exact ⟨by rw [HA.out], by (repeat' (first | (with_reducible assumption) | (with_reducible exact Wb.Ext.refl _) | (with_reducible refine Wb.Ext.drew ?_) | (with_reducible refine Wb.Ext.drewN ?_ _) | (with_reducible refine Wb.Ext.alloc ?_ _) | (with_reducible refine Wb.Ext.trans ?_ (by assumption))))⟩
     ·have e3 : decide (x.i ≤ p.i) = false := by simp; omega
      have HA := Lib.hid (show Wb.notUp L k x = false by rw [HN.out, prT (by show p.y < x.y ∨ p.y = x.y ∧ p.i < x.i; omega)]; rfl)
      go_wp2_with fail
      go_quiet (fail)
      go_wp2_with fail
      go_meet
      exact ⟨by rw [HA.out], by (repeat' (first | (with_reducible assumption) | (with_reducible exact Wb.Ext.refl _) | (with_reducible refine Wb.Ext.drew ?_) | (with_reducible refine Wb.Ext.drewN ?_ _) | (with_reducible refine Wb.Ext.alloc ?_ _) | (with_reducible refine Wb.Ext.trans ?_ (by assumption))))⟩
    ·have e1 : decide (x.y < p.y) = true := by simp; omega
     have HA := Lib.hid (show Wb.notUp L k x = true by rw [HN.out, prF (by show ¬ (p.y < x.y ∨ p.y = x.y ∧ p.i < x.i); omega)]; rfl)
     go_wp2_with fail
     go_quiet (fail)
     go_wp2_with fail
     go_meet
     exact ⟨by rw [HA.out], by (repeat' (first | (with_reducible assumption) | (with_reducible exact Wb.Ext.refl _) | (with_reducible refine Wb.Ext.drew ?_) | (with_reducible refine Wb.Ext.drewN ?_ _) | (with_reducible refine Wb.Ext.alloc ?_ _) | (with_reducible refine Wb.Ext.trans ?_ (by assumption))))⟩
  case rest =>
   obtain ⟨rfl, hxe⟩ := hcut
   obtain ⟨w3, hwz⟩ : ∃ z, z = wc := ⟨_, rfl⟩
   subst hwz
   have x0 := hxe.keep x0
   have x1 := hxe.keep x1
   have HX3 := Lib.hid (HX2.out.trans hxe)
   clear hxe x0' x2
   obtain ⟨A, hA⟩ : ∃ A, Wb.notUp L k x = A := ⟨_, rfl⟩
   have HA := Lib.hid hA
   rw [hA]
   clear hA
   have HO : Hid ((A = true ∨ prLt (y, i) (Wb.perS x) = true) → Wb.handE (y, i) none L = 8) := Lib.hid fun ho => by
    rw [HT.out, HDR.out]
    refine Wb.hand_order HEE.out ?_
    rcases ho with ho | ho
    ·exact .inl (Wb.notUp_iff.1 (by rw [HA.out]; exact ho))
    ·exact .inr ho
   have HM : Hid ((A = false ∧ prLt (y, i) (Wb.perS x) = false) → Wb.handE (y, i) none L = Wb.handE (y, i) (Wb.prevP L (k + 1)) (L.drop (k + 1))) := Lib.hid fun ⟨ho1, ho2⟩ => by
    rw [HT.out, HDR.out, Wb.prevP_succ HX.out]
    refine Wb.hand_more HEE.out ?_
    rintro (h | h)
    ·have := Wb.notUp_iff.2 h
     rw [HA.out, ho1] at this; cases this
    ·rw [ho2] at h; cases h
   cases A
   ·rcases Int.lt_trichotomy y x.y with hy | hy | hy
    ·have e1 : decide (y < x.y) = true := by simp; omega
     have HF := Lib.hid (HO.out (.inr (prT (by show y < x.y ∨ y = x.y ∧ i < x.i; omega))))
     go_wp2
     refine bodyPost_ret (v := .int .i64 8) (by simp [results, Tryz.results18, go_sem]) rfl ⟨by first | rw [HF.out] | rw [show x.y = y by omega, HF.out], HX3.out.trans (by (repeat' (first | (with_reducible assumption) | (with_reducible exact Wb.Ext.refl _) | (with_reducible refine Wb.Ext.drew ?_) | (with_reducible refine Wb.Ext.drewN ?_ _) | (with_reducible refine Wb.Ext.alloc ?_ _) | (with_reducible refine Wb.Ext.trans ?_ (by assumption)))))⟩
    ·have e1 : decide (y < x.y) = false := by simp; omega
     have e2 : (x.y == y) = true := by simp; omega
     by_cases hi : i < x.i
     ·have e3 : decide (i < x.i) = true := by simp; omega
      have HF := Lib.hid (HO.out (.inr (prT (by show y < x.y ∨ y = x.y ∧ i < x.i; omega))))
      go_wp2
      refine bodyPost_ret (v := .int .i64 8) (by simp [results, Tryz.results18, go_sem]) rfl ⟨by first | rw [HF.out] | rw [show x.y = y by omega, HF.out], HX3.out.trans (by (repeat' (first | (with_reducible assumption) | (with_reducible exact Wb.Ext.refl _) | (with_reducible refine Wb.Ext.drew ?_) | (with_reducible refine Wb.Ext.drewN ?_ _) | (with_reducible refine Wb.Ext.alloc ?_ _) | (with_reducible refine Wb.Ext.trans ?_ (by assumption)))))⟩
     ·have e3 : decide (i < x.i) = false := by simp; omega
      have HF := Lib.hid (HM.out ⟨rfl, prF (by show ¬ (y < x.y ∨ y = x.y ∧ i < x.i); omega)⟩)
      go_wp2
      go_roundw
      case rel => exact ⟨k + 1, by omega, by go_num, HF, HX3.out.trans (by (repeat' (first | (with_reducible assumption) | (with_reducible exact Wb.Ext.refl _) | (with_reducible refine Wb.Ext.drew ?_) | (with_reducible refine Wb.Ext.drewN ?_ _) | (with_reducible refine Wb.Ext.alloc ?_ _) | (with_reducible refine Wb.Ext.trans ?_ (by assumption)))))⟩
      case measure => first | (simp [intOf]; done) | (simp [intOf]; omega)
    ·have e1 : decide (y < x.y) = false := by simp; omega
     have e2 : (x.y == y) = false := by simp; omega
     have HF := Lib.hid (HM.out ⟨rfl, prF (by show ¬ (y < x.y ∨ y = x.y ∧ i < x.i); omega)⟩)
     go_wp2
     go_roundw
     case rel => exact ⟨k + 1, by omega, by go_num, HF, HX3.out.trans (by (repeat' (first | (with_reducible assumption) | (with_reducible exact Wb.Ext.refl _) | (with_reducible refine Wb.Ext.drew ?_) | (with_reducible refine Wb.Ext.drewN ?_ _) | (with_reducible refine Wb.Ext.alloc ?_ _) | (with_reducible refine Wb.Ext.trans ?_ (by assumption)))))⟩
     case measure => first | (simp [intOf]; done) | (simp [intOf]; omega)
   ·have HF := Lib.hid (HO.out (.inl rfl))
    go_wp2
    refine bodyPost_ret (v := .int .i64 8) (by simp [results, Tryz.results18, go_sem]) rfl ⟨by first | rw [HF.out] | rw [show x.y = y by omega, HF.out], HX3.out.trans (by (repeat' (first | (with_reducible assumption) | (with_reducible exact Wb.Ext.refl _) | (with_reducible refine Wb.Ext.drew ?_) | (with_reducible refine Wb.Ext.drewN ?_ _) | (with_reducible refine Wb.Ext.alloc ?_ _) | (with_reducible refine Wb.Ext.trans ?_ (by assumption)))))⟩
end Go.Proofs.YtnefdpnolojojaaGreatDoor
