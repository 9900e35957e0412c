/- Del6 -/
import Derived.Test.YtnefdpnolojojaaGreatDoorMDa
import Derived.Test.YtnefdpnolojojaaGreatDoorMDb
import Derived.Deep.DeepCutAuto
import Derived.Deep.CutBlock
namespace Go.Proofs.YtnefdpnolojojaaGreatDoor
open Go.RowKit Go.Sort Go.Lib Go.Maps
set_option maxRecDepth 8000
attribute [local go_sem ↓] Go.wp_at_zero Go.wp_at_succ
theorem zeroCents (u : World) : (zeroValue 52).run Tryz.prog u = .ok (.int .i64 0) u := by kernel_rfl
theorem lval_take {l : List Wb.Ln} {k : Nat} {x : Wb.Ln} (h : l[k]? = some x) (p : Int) (c : List UInt8) : Wb.lval p c (l.take (k + 1)) = Wb.lval p c (l.take k) + (if x.part = p ∧ x.code = c then x.cents else 0) := by
 obtain ⟨h1, rfl⟩ := List.getElem?_eq_some_iff.1 h
 rw [List.take_succ_eq_append_getElem h1]
 generalize l.take k = a
 induction a with
 | nil => simp [Wb.lval]
 | cons z r ih => simp only [List.cons_append, Wb.lval, ih]; omega
theorem lval_ahead {l : List Wb.Ln} (h : Wb.Rise l) {k : Nat} {x : Wb.Ln} (hx : l[k]? = some x) : Wb.lval x.part x.code (l.take k) = 0 := by
 refine Wb.lval_none fun z hz e => ?_
 obtain ⟨j, hj⟩ := List.getElem?_of_mem hz
 rw [List.getElem?_take] at hj
 split at hj
 ·rename_i hjk
  obtain ⟨p1, p2⟩ := List.getElem?_eq_some_iff.1 hj
  obtain ⟨p3, p4⟩ := List.getElem?_eq_some_iff.1 hx
  have := List.pairwise_iff_getElem.1 h j k p1 p3 hjk
  rw [p2, p4] at this
  exact Wb.lnLt_ne this ⟨e.1.symm, e.2.symm⟩
 ·cases hj
theorem lval_bound {l : List Wb.Ln} (h : Wb.Rise l) (hc : Wb.Cfit l) (p : Int) (c : List UInt8) : -1125899906842624 ≤ Wb.lval p c l ∧ Wb.lval p c l ≤ 1125899906842624 := by
 by_cases hm : ∃ x ∈ l, x.part = p ∧ x.code = c
 ·obtain ⟨x, hx, rfl, rfl⟩ := hm
  rw [Wb.lval_mem h hx]; exact hc x hx
 ·rw [Wb.lval_none fun x hx e => hm ⟨x, hx, e⟩]; omega
theorem grown_ext {w w' : World} {r : Option Nat} (h : Wb.Ext w w') : w.grownBy w' r := ⟨h.os, h.tape, h.output, h.size, fun k hk _ => h.block k hk⟩
theorem grown_trans {w a b : World} {r : Option Nat} (h : w.grownBy a r) (k : a.grownBy b r) : w.grownBy b r := by
 obtain ⟨h1, h2, h3, h4, h5⟩ := h
 obtain ⟨k1, k2, k3, k4, k5⟩ := k
 exact ⟨k1.trans h1, k2.trans h2, k3.trans h3, Nat.le_trans h4 k4, fun i hi hr => (k5 i (by omega) hr).trans (h5 i hi hr)⟩
theorem grown_keep {w w' : World} {B : Nat} (h : w.grownBy w' (some B)) {b o : Nat} {v : Value} (k : w.cell? ⟨b, o, none⟩ = some v) (hne : b ≠ B) : w'.cell? ⟨b, o, none⟩ = some v := by
 rw [h.cell_far ⟨b, o, none⟩ (Wb.cell_size k) (fun e => hne (by injection e))]; exact k
theorem grown_froz {w w' : World} {B : Nat} (h : w.grownBy w' (some B)) {b j : Nat} (hlt : b < w.heap.size) (hne : b ≠ B) : w'.frozen? ⟨b, j, none⟩ = w.frozen? ⟨b, j, none⟩ :=
 h.frozen_far ⟨b, j, none⟩ hlt (fun e => hne (by injection e))
theorem wrong_len {y i : Int} {l : List Wb.Ln} (h : Wb.wrongE y i l = 0) : l.length ≤ 448 := by
 rcases hn : Wb.noneB y i l with _ | _
 ·exact (Wb.check_ok (Wb.wrong_some h hn)).2.2.2.2.1
 ·obtain ⟨_, _, rfl⟩ := Wb.none_iff.1 hn; exact Nat.zero_le _
theorem lval_key {l : List Wb.Ln} {p : Int} {c : List UInt8} (h : Wb.lval p c l ≠ 0) : ∃ x ∈ l, x.part = p ∧ x.code = c := by
 by_cases hm : ∃ x ∈ l, x.part = p ∧ x.code = c
 ·exact hm
 ·exact absurd (Wb.lval_none fun x hx e => hm ⟨x, hx, e⟩) h
theorem keys_of {a b : List Wb.Ln} (ha : ∀ x ∈ a, Wb.lineErr x = 0) (hb : ∀ x ∈ b, Wb.lineErr x = 0) (p : Int) (c : List UInt8) (h : Wb.lval p c b - Wb.lval p c a ≠ 0) : KeyOk p c := by
 by_cases h1 : Wb.lval p c b = 0
 ·obtain ⟨x, hx, rfl, rfl⟩ := lval_key (l := a) (p := p) (c := c) (by omega)
  exact keyOk_line (ha x hx)
 ·obtain ⟨x, hx, rfl, rfl⟩ := lval_key h1
  exact keyOk_line (hb x hx)
theorem keys_le : ∀ (r L : List Wb.Ln), (r.Pairwise fun a b => ¬ (a.part = b.part ∧ a.code = b.code)) → (∀ x ∈ r, ∃ z ∈ L, z.part = x.part ∧ z.code = x.code) → r.length ≤ L.length
 | [], _, _, _ => Nat.zero_le _
 | x :: r, L, h, k => by
  obtain ⟨h1, h2⟩ := List.pairwise_cons.1 h
  obtain ⟨z, hz, e1, e2⟩ := k x (by simp)
  obtain ⟨s, t, rfl⟩ := List.append_of_mem hz
  have := keys_le r (s ++ t) h2 fun q hq => by
   obtain ⟨u, hu, f1, f2⟩ := k q (by simp [hq])
   rcases List.mem_append.1 hu with m | m
   ·exact ⟨u, List.mem_append_left _ m, f1, f2⟩
   ·rcases List.mem_cons.1 m with rfl | m
    ·exact absurd ⟨e1.symm.trans f1, e2.symm.trans f2⟩ (h1 q hq)
    ·exact ⟨u, List.mem_append_right _ m, f1, f2⟩
  simp only [List.length_append, List.length_cons] at this ⊢
  omega
theorem count_of {a b r : List Wb.Ln} (_ : ∀ x ∈ a, Wb.lineErr x = 0) (_ : ∀ x ∈ b, Wb.lineErr x = 0) (h1 : ∀ x ∈ r, KeyOk x.part x.code ∧ x.cents = Wb.lval x.part x.code b - Wb.lval x.part x.code a ∧ x.cents ≠ 0) (h2 : r.Pairwise fun a b => ¬ (a.part = b.part ∧ a.code = b.code)) : r.length ≤ a.length + b.length := by
 have := keys_le r (a ++ b) h2 fun x hx => by
  obtain ⟨_, e, n⟩ := h1 x hx
  by_cases h : Wb.lval x.part x.code b = 0
  ·obtain ⟨z, hz, e1, e2⟩ := lval_key (l := a) (p := x.part) (c := x.code) (by omega)
   exact ⟨z, List.mem_append_left _ hz, e1, e2⟩
  ·obtain ⟨z, hz, e1, e2⟩ := lval_key h
   exact ⟨z, List.mem_append_right _ hz, e1, e2⟩
 rw [List.length_append] at this; exact this
structure IsOfM (w w' : World) (y i : Int) (a : List Wb.Ln) (y' i' : Int) (b : List Wb.Ln) (E Y I : Int) (m : Value) (r : List Wb.Ln) : Prop where
 of : Wb.IsOf y i a y' i' b E Y I r
 lns : LnsC w' m r
 ext : Wb.Ext w w'
 new : ∀ q, m.ownBlock = some q → w.heap.size ≤ q
structure OfMid (w wx : World) (H : Nat) (y i : Int) (u : Value) (y' i' : Int) (u' : Value) (Y I : Int) : Prop where
 p2 : wx.cell? ⟨w.heap.size, 2, none⟩ = some u
 q2 : wx.cell? ⟨w.heap.size + 1, 2, none⟩ = some u'
 r0 : wx.cell? ⟨w.heap.size + 1 + 1, 0, none⟩ = some (.int .i64 0)
 r1 : wx.cell? ⟨w.heap.size + 1 + 1, 1, none⟩ = some (.int .i64 0)
 r2 : wx.cell? ⟨w.heap.size + 1 + 1, 2, none⟩ = some (.slice none 0 0)
 rf : ∀ j, wx.frozen? ⟨w.heap.size + 1 + 1, j, none⟩ = false
 h0 : wx.cell? ⟨H, 0, none⟩ = some (.int .i64 Y)
 h1 : wx.cell? ⟨H, 1, none⟩ = some (.int .i64 I)
 lo : w.heap.size + 1 + 1 < H
 hi : H < wx.heap.size
 ext : Wb.Ext w wx
set_option maxHeartbeats 8000000 in
theorem dof_any (y i : Int) (u : Value) (a : List Wb.Ln) (y' i' : Int) (u' : Value) (b : List Wb.Ln) (w : World) (hu : Lns w u a) (hs : Sized a) (hu' : Lns w u' b) (hs' : Sized b) :
  Calls Tryz.prog 48 #[SlV y i u, SlV y' i' u'] w fun e w' => ∃ Y I m E, e = .returned (.tuple #[SlV Y I m, .int .i64 E]) ∧ ∃ r, IsOfM w w' y i a y' i' b E Y I m r := by
 obtain ⟨uA, uK, rfl⟩ := hu.shape
 obtain ⟨vA, vK, rfl⟩ := hu'.shape
 have Ha := Lib.hid hu
 have Hb := Lib.hid hu'
 have HSa := Lib.hid hs
 have HSb := Lib.hid hs'
 clear hu hu' hs hs'
 have hmm := @run_makeMap Tryz.prog
 go_enter Tryz.func48, Tryz.ntmps48
 go_wp2_with fail
 go_fit (dwrong_any y i _ a _ (Ha.out.ext (by (repeat' (first | (with_reducible assumption) | (with_reducible exact Wb.Ext.refl _) | (with_reducible refine Wb.Ext.drew ?_) | (with_reducible refine Wb.Ext.drewN ?_ _) | (with_reducible refine Wb.Ext.alloc ?_ _) | (with_reducible refine Wb.Ext.trans ?_ (by assumption)))))) HSa.out); rintro e w1 ⟨rfl, hb1⟩
 have p0 : w1.cell? ⟨w.heap.size, 0, none⟩ = some (.int .i64 y) := hb1.keep (by simp [go_sem])
 have p1 : w1.cell? ⟨w.heap.size, 1, none⟩ = some (.int .i64 i) := hb1.keep (by simp [go_sem])
 have p2 : w1.cell? ⟨w.heap.size, 2, none⟩ = some (.slice uA a.length uK) := hb1.keep (by simp [go_sem])
 have q0 : w1.cell? ⟨w.heap.size + 1, 0, none⟩ = some (.int .i64 y') := hb1.keep (by simp [go_sem])
 have q1 : w1.cell? ⟨w.heap.size + 1, 1, none⟩ = some (.int .i64 i') := hb1.keep (by simp [go_sem])
 have q2 : w1.cell? ⟨w.heap.size + 1, 2, none⟩ = some (.slice vA b.length vK) := hb1.keep (by simp [go_sem])
 have r0 : w1.cell? ⟨w.heap.size + 1 + 1, 0, none⟩ = some (.int .i64 0) := hb1.keep (by simp [go_sem])
 have r1 : w1.cell? ⟨w.heap.size + 1 + 1, 1, none⟩ = some (.int .i64 0) := hb1.keep (by simp [go_sem])
 have r2 : w1.cell? ⟨w.heap.size + 1 + 1, 2, none⟩ = some (.slice none 0 0) := hb1.keep (by simp [go_sem])
 have rf : ∀ j, w1.frozen? ⟨w.heap.size + 1 + 1, j, none⟩ = false := fun j => (Below.frozen hb1 (by simp)).trans (by simp [go_sem])
 have hx1 : Wb.Ext w w1 := Wb.Ext.trans (by (repeat' (first | (with_reducible assumption) | (with_reducible exact Wb.Ext.refl _) | (with_reducible refine Wb.Ext.drew ?_) | (with_reducible refine Wb.Ext.drewN ?_ _) | (with_reducible refine Wb.Ext.alloc ?_ _) | (with_reducible refine Wb.Ext.trans ?_ (by assumption))))) hb1
 have hsz1 : w.heap.size + 1 + 1 < w1.heap.size := by have := hb1.size; simp at this; omega
 clear hb1
 obtain ⟨E1, hE1⟩ : ∃ E1, Wb.wrongE y i a = E1 := ⟨_, rfl⟩
 have HE1 := Lib.hid hE1
 rw [hE1]
 clear hE1
 by_cases h1 : E1 = 0
 case neg =>
  have d : (E1 == 0) = false := by simpa using h1
  have d2 : (E1 != 0) = true := by simpa using h1
  have HO := Lib.hid (show Wb.IsOf y i a y' i' b E1 0 0 [] by have := Wb.IsOf.bad1 (y := y) (i := i) (a := a) (y' := y') (i' := i') (b := b) (by rw [HE1.out]; exact h1); rwa [HE1.out] at this)
  clear h1
  go_wp2
  refine bodyPost_ret (v := .tuple #[SlV 0 0 (.slice none 0 0), .int .i64 E1]) (by simp [results, Tryz.results48, go_sem, r0, r1, r2]) rfl ⟨0, 0, _, E1, rfl, [], HO.out, ⟨.inl ⟨rfl, _, _, rfl⟩, Nat.le_refl _⟩, by (repeat' (first | (with_reducible assumption) | (with_reducible exact Wb.Ext.refl _) | (with_reducible refine Wb.Ext.drew ?_) | (with_reducible refine Wb.Ext.drewN ?_ _) | (with_reducible refine Wb.Ext.alloc ?_ _) | (with_reducible refine Wb.ext_set ?_ (by first | assumption | (simp; done) | (simp; omega) | omega) _) | (with_reducible refine Wb.Ext.trans ?_ (by assumption)))), fun q hq => by cases hq⟩
 subst h1
 go_wp2_with fail
 go_fit (dwrong_any y' i' _ b _ (Hb.out.ext hx1) HSb.out); rintro e w2 ⟨rfl, hb2⟩
 have p0 := hb2.keep p0
 have p1 := hb2.keep p1
 have p2 := hb2.keep p2
 have q0 := hb2.keep q0
 have q1 := hb2.keep q1
 have q2 := hb2.keep q2
 have r0 := hb2.keep r0
 have r1 := hb2.keep r1
 have r2 := hb2.keep r2
 have rf : ∀ j, w2.frozen? ⟨w.heap.size + 1 + 1, j, none⟩ = false := fun j => (Below.frozen hb2 (by simpa using hsz1)).trans (rf j)
 have hx2 : Wb.Ext w w2 := hx1.trans hb2
 have hsz2 : w.heap.size + 1 + 1 < w2.heap.size := by have := hb2.size; omega
 clear hb2 hx1 hsz1
 obtain ⟨E2, hE2⟩ : ∃ E2, Wb.wrongE y' i' b = E2 := ⟨_, rfl⟩
 have HE2 := Lib.hid hE2
 rw [hE2]
 clear hE2
 by_cases h2 : E2 = 0
 case neg =>
  have d : (E2 == 0) = false := by simpa using h2
  have d2 : (E2 != 0) = true := by simpa using h2
  have HO := Lib.hid (show Wb.IsOf y i a y' i' b E2 0 0 [] by have := Wb.IsOf.bad2 (y := y) (i := i) (a := a) (y' := y') (i' := i') (b := b) HE1.out (by rw [HE2.out]; exact h2); rwa [HE2.out] at this)
  clear h2
  go_wp2
  refine bodyPost_ret (v := .tuple #[SlV 0 0 (.slice none 0 0), .int .i64 E2]) (by simp [results, Tryz.results48, go_sem, r0, r1, r2]) rfl ⟨0, 0, _, E2, rfl, [], HO.out, ⟨.inl ⟨rfl, _, _, rfl⟩, Nat.le_refl _⟩, by (repeat' (first | (with_reducible assumption) | (with_reducible exact Wb.Ext.refl _) | (with_reducible refine Wb.Ext.drew ?_) | (with_reducible refine Wb.Ext.drewN ?_ _) | (with_reducible refine Wb.Ext.alloc ?_ _) | (with_reducible refine Wb.ext_set ?_ (by first | assumption | (simp; done) | (simp; omega) | omega) _) | (with_reducible refine Wb.Ext.trans ?_ (by assumption)))), fun q hq => by cases hq⟩
 subst h2
 go_upto_block 0 with (fail)
 refine Wb.wp_at fun W8 hW8 => ?_
 have hb8 : Wb.Ext w2 W8 := by rw [hW8]; (repeat' (first | (with_reducible assumption) | (with_reducible exact Wb.Ext.refl _) | (with_reducible refine Wb.Ext.drew ?_) | (with_reducible refine Wb.Ext.drewN ?_ _) | (with_reducible refine Wb.Ext.alloc ?_ _) | (with_reducible refine Wb.Ext.trans ?_ (by assumption))))
 have h0 : W8.cell? ⟨w2.heap.size, 0, none⟩ = some (.int .i64 y') := by rw [hW8]; simp [go_sem]
 have h1 : W8.cell? ⟨w2.heap.size, 1, none⟩ = some (.int .i64 i') := by rw [hW8]; simp [go_sem]
 have h2 : W8.cell? ⟨w2.heap.size, 2, none⟩ = some (.slice vA b.length vK) := by rw [hW8]; simp [go_sem]
 have hf : ∀ j, W8.frozen? ⟨w2.heap.size, j, none⟩ = false := fun j => by rw [hW8]; simp [go_sem]
 have hlt8 : w2.heap.size < W8.heap.size := by rw [hW8]; simp
 have p0 := hb8.keep p0
 have p1 := hb8.keep p1
 have p2 := hb8.keep p2
 have q0 := hb8.keep q0
 have q1 := hb8.keep q1
 have q2 := hb8.keep q2
 have r0 := hb8.keep r0
 have r1 := hb8.keep r1
 have r2 := hb8.keep r2
 have rf : ∀ j, W8.frozen? ⟨w.heap.size + 1 + 1, j, none⟩ = false := fun j => (Below.frozen hb8 (by simpa using hsz2)).trans (rf j)
 have hx8 : Wb.Ext w W8 := hx2.trans hb8
 obtain ⟨H, hH⟩ : ∃ H, w2.heap.size = H := ⟨_, rfl⟩
 rw [hH] at h0 h1 h2 hf hlt8 hsz2 ⊢
 clear hW8 hb8 hx2 hH
 go_cut [28] (fun _ wx => ∃ Y I, OfMid w wx H y i (.slice uA a.length uK) y' i' (.slice vA b.length vK) Y I ∧ Hid ((Wb.noneB y i a = true ∨ Wb.noneB y' i' b = true ∨ (y = y' ∧ i = i')) ∧ Y = (if Wb.noneB y' i' b = true then y else y') ∧ I = (if Wb.noneB y' i' b = true then i else i')))
 case first =>
  go_wp2_with fail
  go_fit (dnone_any y' i' _ b _ (Hb.out.ext hx8)); rintro e w3 ⟨rfl, hb3⟩
  have p0 := hb3.keep p0
  have p1 := hb3.keep p1
  have p2 := hb3.keep p2
  have q0 := hb3.keep q0
  have q1 := hb3.keep q1
  have q2 := hb3.keep q2
  have r0 := hb3.keep r0
  have r1 := hb3.keep r1
  have r2 := hb3.keep r2
  have h0 := hb3.keep h0
  have h1 := hb3.keep h1
  have h2 := hb3.keep h2
  have rf : ∀ j, w3.frozen? ⟨w.heap.size + 1 + 1, j, none⟩ = false := fun j => (Below.frozen hb3 (by simp; omega)).trans (rf j)
  have hf : ∀ j, w3.frozen? ⟨H, j, none⟩ = false := fun j => (Below.frozen hb3 (by simpa using hlt8)).trans (hf j)
  have hx3 : Wb.Ext w w3 := hx8.trans hb3
  have hlt3 : H < w3.heap.size := Nat.lt_of_lt_of_le hlt8 hb3.size
  clear hb3 hx8 hlt8
  obtain ⟨N2, hN2⟩ : ∃ N2, Wb.noneB y' i' b = N2 := ⟨_, rfl⟩
  have HN2 := Lib.hid hN2
  rw [hN2]
  clear hN2
  cases N2
  ·go_wp2_with fail
   go_fit (dnone_any y i _ a _ (Ha.out.ext hx3)); rintro e w4 ⟨rfl, hb4⟩
   have p0 := hb4.keep p0
   have p1 := hb4.keep p1
   have p2 := hb4.keep p2
   have q0 := hb4.keep q0
   have q1 := hb4.keep q1
   have q2 := hb4.keep q2
   have r0 := hb4.keep r0
   have r1 := hb4.keep r1
   have r2 := hb4.keep r2
   have h0 := hb4.keep h0
   have h1 := hb4.keep h1
   have h2 := hb4.keep h2
   have rf : ∀ j, w4.frozen? ⟨w.heap.size + 1 + 1, j, none⟩ = false := fun j => (Below.frozen hb4 (by simp; omega)).trans (rf j)
   have hx4 : Wb.Ext w w4 := hx3.trans hb4
   have hlt4 : H < w4.heap.size := Nat.lt_of_lt_of_le hlt3 hb4.size
   clear hb4 hx3 hlt3 hf
   obtain ⟨N1, hN1⟩ : ∃ N1, Wb.noneB y i a = N1 := ⟨_, rfl⟩
   have HN1 := Lib.hid hN1
   rw [hN1]
   clear hN1
   cases N1
   ·by_cases hy : y = y'
    ·by_cases hi : i = i'
     ·have HC := Lib.hid (And.intro hy hi)
      subst hy
      subst hi
      have HM := Lib.hid (show OfMid w w4 H y i (.slice uA a.length uK) y i (.slice vA b.length vK) y i from ⟨p2, q2, r0, r1, r2, rf, h0, h1, hsz2, hlt4, hx4⟩)
      go_wp2_with fail
      go_meet
      exact ⟨_, _, HM.out, Lib.hid ⟨.inr (.inr (by first | exact ⟨rfl, rfl⟩ | trivial)), by rw [HN2.out]; rfl, by rw [HN2.out]; rfl⟩⟩
     ·subst hy
      have d : (i == i') = false := by simpa using hi
      have d2 : (i != i') = true := by simpa using hi
      have HO := Lib.hid (Wb.IsOf.state (y := y) (i := i) (a := a) (y' := y) (i' := i') (b := b) HE1.out HE2.out HN1.out HN2.out (.inr hi))
      clear hi
      go_wp2
      refine bodyPost_ret (v := .tuple #[SlV 0 0 (.slice none 0 0), .int .i64 18]) (by simp [results, Tryz.results48, go_sem, r0, r1, r2]) rfl ⟨0, 0, _, 18, rfl, [], HO.out, ⟨.inl ⟨rfl, _, _, rfl⟩, Nat.le_refl _⟩, by (repeat' (first | (with_reducible assumption) | (with_reducible exact Wb.Ext.refl _) | (with_reducible refine Wb.Ext.drew ?_) | (with_reducible refine Wb.Ext.drewN ?_ _) | (with_reducible refine Wb.Ext.alloc ?_ _) | (with_reducible refine Wb.ext_set ?_ (by first | assumption | (simp; done) | (simp; omega) | omega) _) | (with_reducible refine Wb.Ext.trans ?_ (by assumption)))), fun q hq => by cases hq⟩
    ·have d : (y == y') = false := by simpa using hy
     have d2 : (y != y') = true := by simpa using hy
     have HO := Lib.hid (Wb.IsOf.state (y := y) (i := i) (a := a) (y' := y') (i' := i') (b := b) HE1.out HE2.out HN1.out HN2.out (.inl hy))
     clear hy
     go_wp2
     refine bodyPost_ret (v := .tuple #[SlV 0 0 (.slice none 0 0), .int .i64 18]) (by simp [results, Tryz.results48, go_sem, r0, r1, r2]) rfl ⟨0, 0, _, 18, rfl, [], HO.out, ⟨.inl ⟨rfl, _, _, rfl⟩, Nat.le_refl _⟩, by (repeat' (first | (with_reducible assumption) | (with_reducible exact Wb.Ext.refl _) | (with_reducible refine Wb.Ext.drew ?_) | (with_reducible refine Wb.Ext.drewN ?_ _) | (with_reducible refine Wb.Ext.alloc ?_ _) | (with_reducible refine Wb.ext_set ?_ (by first | assumption | (simp; done) | (simp; omega) | omega) _) | (with_reducible refine Wb.Ext.trans ?_ (by assumption)))), fun q hq => by cases hq⟩
   ·have HM := Lib.hid (show OfMid w w4 H y i (.slice uA a.length uK) y' i' (.slice vA b.length vK) y' i' from ⟨p2, q2, r0, r1, r2, rf, h0, h1, hsz2, hlt4, hx4⟩)
    go_wp2_with fail
    go_meet
    exact ⟨_, _, HM.out, Lib.hid ⟨.inl HN1.out, by rw [HN2.out]; rfl, by rw [HN2.out]; rfl⟩⟩
  ·have HST := Lib.hid (store3 (w := w3) (b := H) (x := .int .i64 y) (y := .int .i64 i) (z := .slice uA a.length uK) rfl h0 h1 h2)
   have HP2 := Lib.hid p2
   have HQ2 := Lib.hid q2
   have HR := Lib.hid (And.intro r0 (And.intro r1 r2))
   have HRF := Lib.hid rf
   have hwH : w.heap.size ≤ H := by omega
   go_wp2_with fail
   go_meet
   refine ⟨y, i, ⟨(HST.out.2.2.2.1 _ _ (by omega)).trans HP2.out, (HST.out.2.2.2.1 _ _ (by omega)).trans HQ2.out, (HST.out.2.2.2.1 _ _ (by omega)).trans HR.out.1, (HST.out.2.2.2.1 _ _ (by omega)).trans HR.out.2.1, (HST.out.2.2.2.1 _ _ (by omega)).trans HR.out.2.2, fun j => (HST.out.2.2.2.2.1 _).trans (HRF.out j), HST.out.1, HST.out.2.1, hsz2, by have := HST.out.2.2.2.2.2.1; simpa using hlt3, ext_set (ext_set (ext_set hx3 hwH _) hwH _) hwH _⟩, Lib.hid ⟨.inr (.inl HN2.out), by rw [HN2.out]; rfl, by rw [HN2.out]; rfl⟩⟩
 case rest =>
  obtain ⟨Y, I, hM, HC⟩ := hcut
  have HEa := Lib.hid (Wb.wrong_ok HE1.out).2.2
  have HEb := Lib.hid (Wb.wrong_ok HE2.out).2.2
  have HRa := Lib.hid (Wb.wrong_ok HE1.out).1
  have HRb := Lib.hid (Wb.wrong_ok HE2.out).1
  have HCb : Hid (Wb.Cfit b) := Lib.hid (fun x hx => (Wb.fits_iff _).1 (Wb.lineErr_ok (HEb.out x hx)).2.2.2.2)
  have HLa := Lib.hid (wrong_len HE1.out)
  have HLb := Lib.hid (wrong_len HE2.out)
  have hla : a.length ≤ 448 := HLa.out
  have hlb : b.length ≤ 448 := HLb.out
  obtain ⟨p2, q2, r0, r1, r2, rf, h0, h1, hlo, hhi, hext⟩ := hM
  have HXC := Lib.hid hext
  clear hext
  have q2m := ((Wb.Ext.refl wc).alloc (.map #[] 0)).keep q2
  go_wp2_with fail
  refine Wb.wp_at fun W1 hW1 => ?_
  obtain ⟨B, hB⟩ : ∃ B, wc.heap.size = B := ⟨_, rfl⟩
  have hb1 : Wb.Ext wc W1 := by rw [hW1]; (repeat' (first | (with_reducible assumption) | (with_reducible exact Wb.Ext.refl _) | (with_reducible refine Wb.Ext.drew ?_) | (with_reducible refine Wb.Ext.drewN ?_ _) | (with_reducible refine Wb.Ext.alloc ?_ _) | (with_reducible refine Wb.Ext.trans ?_ (by assumption))))
  have p2 := hb1.keep p2
  have r0 := hb1.keep r0
  have r1 := hb1.keep r1
  have r2 := hb1.keep r2
  have h0 := hb1.keep h0
  have h1 := hb1.keep h1
  have rf : ∀ j, W1.frozen? ⟨w.heap.size + 1 + 1, j, none⟩ = false := fun j => (Below.frozen hb1 (by simp; omega)).trans (rf j)
  have hlo1 : H < W1.heap.size := Nat.lt_of_lt_of_le hhi hb1.size
  have HM0 := Lib.hid (show MapIs W1 B 0 (fun p c => Wb.lval p c (b.take 0)) by
   refine ⟨.map [], ?_, fun p c _ => rfl⟩
   rw [hW1, ← hB]
   exact World.ownsMap_made wc _ _ _)
  have HXX := Lib.hid (HXC.out.trans hb1)
  have hBw : w.heap.size + 1 + 1 < B ∧ H < B := by omega
  rw [hB]
  clear hW1 hb1 hhi
  go_loopw [55] (fun iv wr => ∃ k : Nat, k ≤ b.length ∧ iv = .int .i64 k ∧ MapIs wr B (k) (fun p c => Wb.lval p c (b.take k)) ∧ W1.grownBy wr (some B)) (fun iv _ => b.length - (intOf iv).toNat)
  case atStart => exact ⟨0, Nat.zero_le _, rfl, HM0.out, Wb.grownBy_refl _ _⟩
  case round =>
   obtain ⟨k, hk, rfl, hmap, hgr⟩ := hrel
   have HGR := Lib.hid hgr
   have HXR := Lib.hid (show Wb.Ext w wr from Wb.Ext.grown HXX.out hgr (fun j hj => by injection hj; omega))
   by_cases hlt : k < b.length
   ·obtain ⟨x, hy⟩ := Wb.get_ex hlt
    have hbr : B < wr.heap.size := by obtain ⟨D, h, _⟩ := hmap; exact h.lt
    obtain ⟨bb, off, rfl, hcells⟩ := (Hb.out.ext HXR.out).opened (tne hlt)
    obtain ⟨c0, c1, c2⟩ := hcells _ x hy
    have hki : (k : Int) < b.length := by omega
    have HY := Lib.hid hy
    have HMP := Lib.hid hmap
    have hko : KeyOk x.part x.code := keyOk_line (HEb.out x (List.mem_of_getElem? hy))
    have HKO := Lib.hid hko
    have hxf := (Wb.fits_iff _).1 (Wb.lineErr_ok (HEb.out x (List.mem_of_getElem? hy))).2.2.2.2
    have HXF := Lib.hid hxf
    clear hcells hy hmap hgr hko hxf
    go_upto_region 16 with (fail)
    refine Wb.wp_at fun W0 hW0 => ?_
    obtain ⟨G, hG⟩ : ∃ G, wr.heap.size = G := ⟨_, rfl⟩
    have hb0 : Wb.Ext wr W0 := by rw [hW0]; (repeat' (first | (with_reducible assumption) | (with_reducible exact Wb.Ext.refl _) | (with_reducible refine Wb.Ext.drew ?_) | (with_reducible refine Wb.Ext.drewN ?_ _) | (with_reducible refine Wb.Ext.alloc ?_ _) | (with_reducible refine Wb.ext_set ?_ (by first | assumption | (simp; done) | (simp; omega) | omega) _) | (with_reducible refine Wb.Ext.trans ?_ (by assumption))))
    have x0 : W0.cell? ⟨G, 0, none⟩ = some (.int .i64 x.part) := by rw [hW0, ← hG]; simp [go_sem]
    have x1 : W0.cell? ⟨G, 1, none⟩ = some (.string (Wb.S x.code)) := by rw [hW0, ← hG]; simp [go_sem]
    have x2 : W0.cell? ⟨G, 2, none⟩ = some (.int .i64 x.cents) := by rw [hW0, ← hG]; simp [go_sem]
    have hgb : G ≠ B := by omega
    rw [hG]
    have hko := HKO.out
    obtain ⟨D, hown, hDV⟩ := mapIs_kept HMP.out (grown_ext (r := none) hb0) (by simp)
    have HIM := Lib.hid (mapIs_isMap hown)
    have HDV := Lib.hid hDV
    obtain ⟨vv, st, w1, hat, hlook0, hent, hg1, hlook1, hst⟩ := map_add hown.drew spot_law Tryz.underlying140 zeroCents (by unfold maxLen; omega) (spot_key hko.1 hko.2)
    obtain ⟨F, hF⟩ : ∃ F, Wb.lval x.part x.code (b.take k) = F := ⟨_, rfl⟩
    obtain rfl : vv = .int .i64 F := by
     have h1 := hDV _ _ hko
     rw [hat] at h1
     simp only [DataW.held.injEq] at h1
     rw [h1, hF]
    have HVV := Lib.hid hF
    have hFb : -1125899906842624 ≤ F ∧ F ≤ 1125899906842624 := by rw [← hF]; have := lval_ahead HRb.out HY.out; omega
    have hxf := HXF.out
    have e1 : IntKind.i64.wrap (F + x.cents) = F + x.cents := IntWalk.i64_in _ (by omega)
    obtain ⟨w2, hst2, hown2, hg2⟩ := hst (.int .i64 (F + x.cents))
    have y0 : w1.cell? ⟨G, 0, none⟩ = some (.int .i64 x.part) := grown_keep hg1 x0 hgb
    have y1 : w1.cell? ⟨G, 1, none⟩ = some (.string (Wb.S x.code)) := grown_keep hg1 x1 hgb
    have y2 : w1.cell? ⟨G, 2, none⟩ = some (.int .i64 x.cents) := grown_keep hg1 x2 hgb
    have u0 : w2.cell? ⟨G, 0, none⟩ = some (.int .i64 x.part) := grown_keep hg2 x0 hgb
    have u1 : w2.cell? ⟨G, 1, none⟩ = some (.string (Wb.S x.code)) := grown_keep hg2 x1 hgb
    have u2 : w2.cell? ⟨G, 2, none⟩ = some (.int .i64 x.cents) := grown_keep hg2 x2 hgb
    have hst2 : (Instr.entryStore 140 (.map (some B)) (.int .i64 (st : Int)) (.int .i64 (F + x.cents))).run Tryz.prog w1 = .ok () w2 := hst2
    have hent : (Instr.mapEntry 140 (.map (some B)) (.agg #[.int .i64 x.part, .string (Wb.S x.code)])).run Tryz.prog W0.drew = .ok (.tuple #[.int .i64 F, .int .i64 (st : Int)]) w1 := hent
    clear hW0 hF hat hDV hown hst hg1 hxf hFb
    refine region_start (S := (fun w' => w'.cell? ⟨G, 0, none⟩ = some (.int .i64 x.part) ∧ w'.cell? ⟨G, 1, none⟩ = some (.string (Wb.S x.code)) ∧ w'.cell? ⟨G, 2, none⟩ = some (.int .i64 x.cents))) (n := 13) (l := #[false, false, false, false, false, false, false, false, false, false, false, false, false]) (by kernel_rfl) ⟨x0, x1, x2⟩ (by kernel_rfl) (by kernel_rfl) (fun hHeld => ?_)
    refine tD 0 ?_
    refine tD 1 ?_
    refine tD 2 ?_
    refine tD 3 ?_
    refine tD 4 ?_
    refine tD 5 ?_
    refine tD 7 ?_
    refine tD 8 ?_
    refine wpAnyH_ready (rs := [6, 10]) (by kernel_rfl) (by simp) ?_
    refine AllReadyH.cons (o := _) rfl (fun K hK => ?_) ?_
    ·go_simp
     refine hK.out _ _ ⟨x0, x1, x2⟩ (fun hHeld => ?_)
     clear hK K
     (try simp only [List.setIfInBounds_toArray, List.set_cons_zero, List.set_cons_succ])
     refine tD 9 ?_
     refine wpAnyH_ready (rs := [10]) (by kernel_rfl) (by simp) ?_
     refine AllReadyH.cons (o := _) rfl (fun K hK => ?_) AllReadyH.nil
     go_simp
     refine hK.out _ _ ⟨y0, y1, y2⟩ (fun hHeld => ?_)
     clear hK K
     (try simp only [List.setIfInBounds_toArray, List.set_cons_zero, List.set_cons_succ])
     refine tD 11 ?_
     refine wpAnyH_ready (rs := [12]) (by kernel_rfl) (by simp) ?_
     refine AllReadyH.cons (o := _) rfl (fun K hK => ?_) AllReadyH.nil
     go_simp
     refine hK.out _ _ ⟨u0, u1, u2⟩ (fun hHeld => ?_)
     clear hK K
     (try simp only [List.setIfInBounds_toArray, List.set_cons_zero, List.set_cons_succ])
     refine wpAnyH_done (by kernel_rfl) ?_ _
     have HM2 := Lib.hid (mapIs_put (g := fun p c => Wb.lval p c (b.take (k + 1))) HDV.out HIM.out hko hown2 (fun p c => by
      rw [lval_take HY.out]
      by_cases e : x.part = p ∧ x.code = c
      ·obtain ⟨rfl, rfl⟩ := e
       rw [if_pos ⟨rfl, rfl⟩, if_pos ⟨rfl, rfl⟩]; first | (rw [← HVV.out]; done) | (rw [← HVV.out]; omega)
      ·rw [if_neg e, if_neg e]; omega))
     have HG2 := Lib.hid (show W1.grownBy w2 (some B) from grown_trans HGR.out (grown_trans (grown_ext (Wb.Ext.drew hb0)) hg2))
     clear hg2 hown2 u0 u1 u2 y0 y1 y2 x0 x1 x2 hent hlook0 hlook1 hst2 e1
     go_wp2
     go_roundw
     case rel => exact ⟨k + 1, by omega, by go_num, HM2.out, HG2.out⟩
     case measure => first | (simp [intOf]; done) | (simp [intOf]; omega)
    refine AllReadyH.cons (o := _) rfl (fun K hK => ?_) ?_
    ·go_simp
     refine hK.out _ _ ⟨y0, y1, y2⟩ (fun hHeld => ?_)
     clear hK K
     (try simp only [List.setIfInBounds_toArray, List.set_cons_zero, List.set_cons_succ])
     refine tD 11 ?_
     refine wpAnyH_ready (rs := [6]) (by kernel_rfl) (by simp) ?_
     refine AllReadyH.cons (o := _) rfl (fun K hK => ?_) AllReadyH.nil
     go_simp
     refine hK.out _ _ ⟨y0, y1, y2⟩ (fun hHeld => ?_)
     clear hK K
     (try simp only [List.setIfInBounds_toArray, List.set_cons_zero, List.set_cons_succ])
     refine tD 9 ?_
     refine wpAnyH_ready (rs := [12]) (by kernel_rfl) (by simp) ?_
     refine AllReadyH.cons (o := _) rfl (fun K hK => ?_) AllReadyH.nil
     go_simp
     refine hK.out _ _ ⟨u0, u1, u2⟩ (fun hHeld => ?_)
     clear hK K
     (try simp only [List.setIfInBounds_toArray, List.set_cons_zero, List.set_cons_succ])
     refine wpAnyH_done (by kernel_rfl) ?_ _
     have HM2 := Lib.hid (mapIs_put (g := fun p c => Wb.lval p c (b.take (k + 1))) HDV.out HIM.out hko hown2 (fun p c => by
      rw [lval_take HY.out]
      by_cases e : x.part = p ∧ x.code = c
      ·obtain ⟨rfl, rfl⟩ := e
       rw [if_pos ⟨rfl, rfl⟩, if_pos ⟨rfl, rfl⟩]; first | (rw [← HVV.out]; done) | (rw [← HVV.out]; omega)
      ·rw [if_neg e, if_neg e]; omega))
     have HG2 := Lib.hid (show W1.grownBy w2 (some B) from grown_trans HGR.out (grown_trans (grown_ext (Wb.Ext.drew hb0)) hg2))
     clear hg2 hown2 u0 u1 u2 y0 y1 y2 x0 x1 x2 hent hlook0 hlook1 hst2 e1
     go_wp2
     go_roundw
     case rel => exact ⟨k + 1, by omega, by go_num, HM2.out, HG2.out⟩
     case measure => first | (simp [intOf]; done) | (simp [intOf]; omega)
    exact AllReadyH.nil
   ·obtain rfl : k = b.length := by omega
    simp only [List.take_length] at hmap
    have HM1A := Lib.hid (show MapIs wr B (b.length + 0) (fun p c => Wb.lval p c b - Wb.lval p c (a.take 0)) by simpa [Wb.lval] using hmap)
    have p2 := grown_keep hgr p2 (by omega)
    have r0 := grown_keep hgr r0 (by omega)
    have r1 := grown_keep hgr r1 (by omega)
    have r2 := grown_keep hgr r2 (by omega)
    have h0 := grown_keep hgr h0 (by omega)
    have h1 := grown_keep hgr h1 (by omega)
    have rf : ∀ j, wr.frozen? ⟨w.heap.size + 1 + 1, j, none⟩ = false := fun j => (grown_froz hgr (by omega) (by omega)).trans (rf j)
    have hlo2 : H < wr.heap.size := Nat.lt_of_lt_of_le hlo1 hgr.size
    clear hgr hmap
    go_wp2_with fail
    refine Wb.wp_at fun W2 hW2 => ?_
    have hb2 : Wb.Ext wr W2 := by rw [hW2]; (repeat' (first | (with_reducible assumption) | (with_reducible exact Wb.Ext.refl _) | (with_reducible refine Wb.Ext.drew ?_) | (with_reducible refine Wb.Ext.drewN ?_ _) | (with_reducible refine Wb.Ext.alloc ?_ _) | (with_reducible refine Wb.Ext.trans ?_ (by assumption))))
    have p2 := hb2.keep p2
    have r0 := hb2.keep r0
    have r1 := hb2.keep r1
    have r2 := hb2.keep r2
    have h0 := hb2.keep h0
    have h1 := hb2.keep h1
    have rf : ∀ j, W2.frozen? ⟨w.heap.size + 1 + 1, j, none⟩ = false := fun j => (Below.frozen hb2 (by simp; omega)).trans (rf j)
    have hlo2 : H < W2.heap.size := Nat.lt_of_lt_of_le hlo2 hb2.size
    have HM1 := Lib.hid (mapIs_kept HM1A.out (grown_ext (r := none) hb2) (by simp))
    have HXX := Lib.hid (HXR.out.trans hb2)
    clear hW2 hb2
    go_loopw [75] (fun iv wr => ∃ k : Nat, k ≤ a.length ∧ iv = .int .i64 k ∧ MapIs wr B (b.length + k) (fun p c => Wb.lval p c b - Wb.lval p c (a.take k)) ∧ W2.grownBy wr (some B)) (fun iv _ => a.length - (intOf iv).toNat)
    case atStart => exact ⟨0, Nat.zero_le _, rfl, HM1.out, Wb.grownBy_refl _ _⟩
    case round =>
     obtain ⟨k, hk, rfl, hmap, hgr⟩ := hrel
     have HGR := Lib.hid hgr
     have HXR := Lib.hid (show Wb.Ext w wr from Wb.Ext.grown HXX.out hgr (fun j hj => by injection hj; omega))
     by_cases hlt : k < a.length
     ·obtain ⟨x, hy⟩ := Wb.get_ex hlt
      have hbr : B < wr.heap.size := by obtain ⟨D, h, _⟩ := hmap; exact h.lt
      obtain ⟨bb, off, rfl, hcells⟩ := (Ha.out.ext HXR.out).opened (tne hlt)
      obtain ⟨c0, c1, c2⟩ := hcells _ x hy
      have hki : (k : Int) < a.length := by omega
      have HY := Lib.hid hy
      have HMP := Lib.hid hmap
      have hko : KeyOk x.part x.code := keyOk_line (HEa.out x (List.mem_of_getElem? hy))
      have HKO := Lib.hid hko
      have hxf := (Wb.fits_iff _).1 (Wb.lineErr_ok (HEa.out x (List.mem_of_getElem? hy))).2.2.2.2
      have HXF := Lib.hid hxf
      clear hcells hy hmap hgr hko hxf
      go_upto_region 21 with (fail)
      refine Wb.wp_at fun W0 hW0 => ?_
      obtain ⟨G, hG⟩ : ∃ G, wr.heap.size = G := ⟨_, rfl⟩
      have hb0 : Wb.Ext wr W0 := by rw [hW0]; (repeat' (first | (with_reducible assumption) | (with_reducible exact Wb.Ext.refl _) | (with_reducible refine Wb.Ext.drew ?_) | (with_reducible refine Wb.Ext.drewN ?_ _) | (with_reducible refine Wb.Ext.alloc ?_ _) | (with_reducible refine Wb.ext_set ?_ (by first | assumption | (simp; done) | (simp; omega) | omega) _) | (with_reducible refine Wb.Ext.trans ?_ (by assumption))))
      have x0 : W0.cell? ⟨G, 0, none⟩ = some (.int .i64 x.part) := by rw [hW0, ← hG]; simp [go_sem]
      have x1 : W0.cell? ⟨G, 1, none⟩ = some (.string (Wb.S x.code)) := by rw [hW0, ← hG]; simp [go_sem]
      have x2 : W0.cell? ⟨G, 2, none⟩ = some (.int .i64 x.cents) := by rw [hW0, ← hG]; simp [go_sem]
      have hgb : G ≠ B := by omega
      rw [hG]
      have hko := HKO.out
      obtain ⟨D, hown, hDV⟩ := mapIs_kept HMP.out (grown_ext (r := none) hb0) (by simp)
      have HIM := Lib.hid (mapIs_isMap hown)
      have HDV := Lib.hid hDV
      obtain ⟨vv, st, w1, hat, hlook0, hent, hg1, hlook1, hst⟩ := map_add hown.drew spot_law Tryz.underlying140 zeroCents (by unfold maxLen; omega) (spot_key hko.1 hko.2)
      obtain ⟨F, hF⟩ : ∃ F, Wb.lval x.part x.code b - Wb.lval x.part x.code (a.take k) = F := ⟨_, rfl⟩
      obtain rfl : vv = .int .i64 F := by
       have h1 := hDV _ _ hko
       rw [hat] at h1
       simp only [DataW.held.injEq] at h1
       rw [h1, hF]
      have HVV := Lib.hid hF
      have hFb : -1125899906842624 ≤ F ∧ F ≤ 1125899906842624 := by rw [← hF]; have := lval_bound HRb.out HCb.out x.part x.code; have := lval_ahead HRa.out HY.out; omega
      have hxf := HXF.out
      have e1 : IntKind.i64.wrap (F - x.cents) = F - x.cents := IntWalk.i64_in _ (by omega)
      obtain ⟨w2, hst2, hown2, hg2⟩ := hst (.int .i64 (F - x.cents))
      have y0 : w1.cell? ⟨G, 0, none⟩ = some (.int .i64 x.part) := grown_keep hg1 x0 hgb
      have y1 : w1.cell? ⟨G, 1, none⟩ = some (.string (Wb.S x.code)) := grown_keep hg1 x1 hgb
      have y2 : w1.cell? ⟨G, 2, none⟩ = some (.int .i64 x.cents) := grown_keep hg1 x2 hgb
      have u0 : w2.cell? ⟨G, 0, none⟩ = some (.int .i64 x.part) := grown_keep hg2 x0 hgb
      have u1 : w2.cell? ⟨G, 1, none⟩ = some (.string (Wb.S x.code)) := grown_keep hg2 x1 hgb
      have u2 : w2.cell? ⟨G, 2, none⟩ = some (.int .i64 x.cents) := grown_keep hg2 x2 hgb
      have hst2 : (Instr.entryStore 140 (.map (some B)) (.int .i64 (st : Int)) (.int .i64 (F - x.cents))).run Tryz.prog w1 = .ok () w2 := hst2
      have hent : (Instr.mapEntry 140 (.map (some B)) (.agg #[.int .i64 x.part, .string (Wb.S x.code)])).run Tryz.prog W0.drew = .ok (.tuple #[.int .i64 F, .int .i64 (st : Int)]) w1 := hent
      clear hW0 hF hat hDV hown hst hg1 hxf hFb
      refine region_start (S := (fun w' => w'.cell? ⟨G, 0, none⟩ = some (.int .i64 x.part) ∧ w'.cell? ⟨G, 1, none⟩ = some (.string (Wb.S x.code)) ∧ w'.cell? ⟨G, 2, none⟩ = some (.int .i64 x.cents))) (n := 13) (l := #[false, false, false, false, false, false, false, false, false, false, false, false, false]) (by kernel_rfl) ⟨x0, x1, x2⟩ (by kernel_rfl) (by kernel_rfl) (fun hHeld => ?_)
      refine tD 0 ?_
      refine tD 1 ?_
      refine tD 2 ?_
      refine tD 3 ?_
      refine tD 4 ?_
      refine tD 5 ?_
      refine tD 7 ?_
      refine tD 8 ?_
      refine wpAnyH_ready (rs := [6, 10]) (by kernel_rfl) (by simp) ?_
      refine AllReadyH.cons (o := _) rfl (fun K hK => ?_) ?_
      ·go_simp
       refine hK.out _ _ ⟨x0, x1, x2⟩ (fun hHeld => ?_)
       clear hK K
       (try simp only [List.setIfInBounds_toArray, List.set_cons_zero, List.set_cons_succ])
       refine tD 9 ?_
       refine wpAnyH_ready (rs := [10]) (by kernel_rfl) (by simp) ?_
       refine AllReadyH.cons (o := _) rfl (fun K hK => ?_) AllReadyH.nil
       go_simp
       refine hK.out _ _ ⟨y0, y1, y2⟩ (fun hHeld => ?_)
       clear hK K
       (try simp only [List.setIfInBounds_toArray, List.set_cons_zero, List.set_cons_succ])
       refine tD 11 ?_
       refine wpAnyH_ready (rs := [12]) (by kernel_rfl) (by simp) ?_
       refine AllReadyH.cons (o := _) rfl (fun K hK => ?_) AllReadyH.nil
       go_simp
       refine hK.out _ _ ⟨u0, u1, u2⟩ (fun hHeld => ?_)
       clear hK K
       (try simp only [List.setIfInBounds_toArray, List.set_cons_zero, List.set_cons_succ])
       refine wpAnyH_done (by kernel_rfl) ?_ _
       have HM2 := Lib.hid (mapIs_put (g := fun p c => Wb.lval p c b - Wb.lval p c (a.take (k + 1))) HDV.out HIM.out hko hown2 (fun p c => by
        rw [lval_take HY.out]
        by_cases e : x.part = p ∧ x.code = c
        ·obtain ⟨rfl, rfl⟩ := e
         rw [if_pos ⟨rfl, rfl⟩, if_pos ⟨rfl, rfl⟩]; first | (rw [← HVV.out]; done) | (rw [← HVV.out]; omega)
        ·rw [if_neg e, if_neg e]; omega))
       have HG2 := Lib.hid (show W2.grownBy w2 (some B) from grown_trans HGR.out (grown_trans (grown_ext (Wb.Ext.drew hb0)) hg2))
       clear hg2 hown2 u0 u1 u2 y0 y1 y2 x0 x1 x2 hent hlook0 hlook1 hst2 e1
       go_wp2
       go_roundw
       case rel => exact ⟨k + 1, by omega, by go_num, HM2.out, HG2.out⟩
       case measure => first | (simp [intOf]; done) | (simp [intOf]; omega)
      refine AllReadyH.cons (o := _) rfl (fun K hK => ?_) ?_
      ·go_simp
       refine hK.out _ _ ⟨y0, y1, y2⟩ (fun hHeld => ?_)
       clear hK K
       (try simp only [List.setIfInBounds_toArray, List.set_cons_zero, List.set_cons_succ])
       refine tD 11 ?_
       refine wpAnyH_ready (rs := [6]) (by kernel_rfl) (by simp) ?_
       refine AllReadyH.cons (o := _) rfl (fun K hK => ?_) AllReadyH.nil
       go_simp
       refine hK.out _ _ ⟨y0, y1, y2⟩ (fun hHeld => ?_)
       clear hK K
       (try simp only [List.setIfInBounds_toArray, List.set_cons_zero, List.set_cons_succ])
       refine tD 9 ?_
       refine wpAnyH_ready (rs := [12]) (by kernel_rfl) (by simp) ?_
       refine AllReadyH.cons (o := _) rfl (fun K hK => ?_) AllReadyH.nil
       go_simp
       refine hK.out _ _ ⟨u0, u1, u2⟩ (fun hHeld => ?_)
       clear hK K
       (try simp only [List.setIfInBounds_toArray, List.set_cons_zero, List.set_cons_succ])
       refine wpAnyH_done (by kernel_rfl) ?_ _
       have HM2 := Lib.hid (mapIs_put (g := fun p c => Wb.lval p c b - Wb.lval p c (a.take (k + 1))) HDV.out HIM.out hko hown2 (fun p c => by
        rw [lval_take HY.out]
        by_cases e : x.part = p ∧ x.code = c
        ·obtain ⟨rfl, rfl⟩ := e
         rw [if_pos ⟨rfl, rfl⟩, if_pos ⟨rfl, rfl⟩]; first | (rw [← HVV.out]; done) | (rw [← HVV.out]; omega)
        ·rw [if_neg e, if_neg e]; omega))
       have HG2 := Lib.hid (show W2.grownBy w2 (some B) from grown_trans HGR.out (grown_trans (grown_ext (Wb.Ext.drew hb0)) hg2))
       clear hg2 hown2 u0 u1 u2 y0 y1 y2 x0 x1 x2 hent hlook0 hlook1 hst2 e1
       go_wp2
       go_roundw
       case rel => exact ⟨k + 1, by omega, by go_num, HM2.out, HG2.out⟩
       case measure => first | (simp [intOf]; done) | (simp [intOf]; omega)
      exact AllReadyH.nil
     ·obtain rfl : k = a.length := by omega
      simp only [List.take_length] at hmap
      have p3 := And.intro (grown_keep hgr r0 (by omega)) (And.intro (grown_keep hgr r1 (by omega)) (grown_keep hgr r2 (by omega)))
      have HR3 := Lib.hid p3
      have h0 := grown_keep hgr h0 (by omega)
      have h1 := grown_keep hgr h1 (by omega)
      have rf : ∀ j, wr.frozen? ⟨w.heap.size + 1 + 1, j, none⟩ = false := fun j => (grown_froz hgr (by omega) (by omega)).trans (rf j)
      have HRF := Lib.hid rf
      have hlb : b.length ≤ 448 := HLb.out
      have hla : a.length ≤ 448 := HLa.out
      have HMAP := Lib.hid hmap
      have HHI := Lib.hid (show H < wr.heap.size from Nat.lt_of_lt_of_le hlo2 hgr.size)
      clear hmap hgr p3 r0 r1 r2 rf
      go_wp2_with fail
      go_fit (lines_any B _ _ wr HMAP.out (keys_of HEa.out HEb.out) (by omega) (fun r h1 h2 => Nat.le_trans (count_of HEa.out HEb.out h1 h2) (by omega))); rintro e w5 ⟨v5, rfl, r5, hL⟩
      obtain ⟨la, lc, rfl⟩ := row_shape hL.row
      have hx5 := hL.ext
      obtain ⟨r0, r1, r2⟩ := HR3.out
      have rf := HRF.out
      have r0 := hx5.keep r0
      have r1 := hx5.keep r1
      have r2 := hx5.keep r2
      have h0 := hx5.keep h0
      have h1 := hx5.keep h1
      have rf : ∀ j, w5.frozen? ⟨w.heap.size + 1 + 1, j, none⟩ = false := fun j => (Below.frozen hx5 (by have := HHI.out; simp; omega)).trans (rf j)
      have HLN := Lib.hid (show LnsC w5 (.slice la r5.length lc) r5 from lnsC_of_row hL.row)
      have HRW := Lib.hid hL.row
      have HDL := Lib.hid (show Wb.IsDelta a b r5 from ⟨hL.rise, hL.nonz, hL.val⟩)
      have hr5 : r5.length ≤ 1000000 := by
       have := count_of (r := r5) HEa.out HEb.out (fun x hx => by
        have h1 := Wb.lval_mem hL.rise hx
        rw [hL.val] at h1
        exact ⟨keys_of HEa.out HEb.out _ _ (by rw [h1]; exact hL.nonz x hx), h1.symm, hL.nonz x hx⟩) (hL.rise.imp fun {a b} h (e : a.part = b.part ∧ a.code = b.code) => Wb.lnLt_ne h ⟨e.1.symm, e.2.symm⟩)
       omega
      have HX5 := Lib.hid (HXR.out.trans hx5)
      have hhi5 : w.heap.size + 1 + 1 < w5.heap.size := by have := HHI.out; have := hx5.size; omega
      clear hL hx5
      go_wp2_with fail
      go_fit (containsf_any _ r5 w5 HLN.out.1 hr5); rintro e w6 ⟨rfl, hx6⟩
      have r0 := hx6.keep r0
      have r1 := hx6.keep r1
      have r2 := hx6.keep r2
      have h0 := hx6.keep h0
      have h1 := hx6.keep h1
      have rf : ∀ j, w6.frozen? ⟨w.heap.size + 1 + 1, j, none⟩ = false := fun j => (Below.frozen hx6 (by simpa using hhi5)).trans (rf j)
      have HX6 := Lib.hid (HX5.out.trans hx6)
      have hx66 := HX6.out
      replace HLN := Lib.hid (HLN.out.ext hx6)
      have HRW6 := Lib.hid (Wb.row_ext HRW.out hx6)
      clear hx6
      obtain ⟨un, hun⟩ : ∃ un, unfit r5 = un := ⟨_, rfl⟩
      have HUN := Lib.hid hun
      rw [hun]
      clear hun
      obtain ⟨hc1, hc2, hc3⟩ := HC.out
      have HC1 := Lib.hid hc1
      have HC2 := Lib.hid (And.intro hc2 hc3)
      clear hc1 hc2 hc3
      cases un
      ·by_cases hmany : 448 < r5.length
       ·have d : decide ((448 : Int) < (r5.length : Int)) = true := by simp; omega
        have HO := Lib.hid (Wb.IsOf.many (y := y) (i := i) (a := a) (y' := y') (i' := i') (b := b) r5 HE1.out HE2.out HC1.out HDL.out (unfit_no HUN.out) hmany)
        go_wp2
        refine bodyPost_ret (v := .tuple #[SlV 0 0 (.slice none 0 0), .int .i64 5]) (by simp [results, Tryz.results48, go_sem, r0, r1, r2]) rfl ⟨0, 0, _, 5, rfl, [], HO.out, ⟨.inl ⟨rfl, _, _, rfl⟩, Nat.le_refl _⟩, by (repeat' (first | (with_reducible assumption) | (with_reducible exact Wb.Ext.refl _) | (with_reducible refine Wb.Ext.drew ?_) | (with_reducible refine Wb.Ext.drewN ?_ _) | (with_reducible refine Wb.Ext.alloc ?_ _) | (with_reducible refine Wb.ext_set ?_ (by first | assumption | (simp; done) | (simp; omega) | omega) _) | (with_reducible refine Wb.Ext.trans ?_ (by assumption)))), fun q hq => by cases hq⟩
       ·have d : decide ((448 : Int) < (r5.length : Int)) = false := by simp; omega
        have HO := Lib.hid (Wb.IsOf.ok (y := y) (i := i) (a := a) (y' := y') (i' := i') (b := b) r5 HE1.out HE2.out HC1.out HDL.out (unfit_no HUN.out) (by omega))
        go_wp2
        refine bodyPost_ret (v := .tuple #[SlV Y I (.slice la r5.length lc), .int .i64 0]) (by simp [results, Tryz.results48, go_sem, r0, r1, r2]) rfl ⟨Y, I, _, 0, rfl, r5, by rw [HC2.out.1, HC2.out.2]; exact HO.out, by
         have hk : ∀ k, (Value.slice la r5.length lc).ownBlock = some k → k ≠ w.heap.size + 1 + 1 := fun k hk => by have := (HRW6.out.lt k hk).1; have := HHI.out; omega
         exact lnsC_of_row (row_set2 (row_set2 (row_set2 HRW6.out hk _) hk _) hk _), by (repeat' (first | (with_reducible assumption) | (with_reducible exact Wb.Ext.refl _) | (with_reducible refine Wb.Ext.drew ?_) | (with_reducible refine Wb.Ext.drewN ?_ _) | (with_reducible refine Wb.Ext.alloc ?_ _) | (with_reducible refine Wb.ext_set ?_ (by first | assumption | (simp; done) | (simp; omega) | omega) _) | (with_reducible refine Wb.Ext.trans ?_ (by assumption)))), fun q hq => by have := (HRW6.out.lt q hq).1; have := HHI.out; omega⟩
      ·have HO := Lib.hid (Wb.IsOf.over (y := y) (i := i) (a := a) (y' := y') (i' := i') (b := b) r5 HE1.out HE2.out HC1.out HDL.out ((unfit_iff r5).1 HUN.out))
       go_wp2
       refine bodyPost_ret (v := .tuple #[SlV 0 0 (.slice none 0 0), .int .i64 9]) (by simp [results, Tryz.results48, go_sem, r0, r1, r2]) rfl ⟨0, 0, _, 9, rfl, [], HO.out, ⟨.inl ⟨rfl, _, _, rfl⟩, Nat.le_refl _⟩, by (repeat' (first | (with_reducible assumption) | (with_reducible exact Wb.Ext.refl _) | (with_reducible refine Wb.Ext.drew ?_) | (with_reducible refine Wb.Ext.drewN ?_ _) | (with_reducible refine Wb.Ext.alloc ?_ _) | (with_reducible refine Wb.ext_set ?_ (by first | assumption | (simp; done) | (simp; omega) | omega) _) | (with_reducible refine Wb.Ext.trans ?_ (by assumption)))), fun q hq => by cases hq⟩
end Go.Proofs.YtnefdpnolojojaaGreatDoor
