/- Run26 -/
import Derived.Test.YtnefdpnolojojaaGreatDoorMRd
import Derived.BigQuiet
namespace Go.Proofs.YtnefdpnolojojaaGreatDoor
open Go.RowKit Go.Sort Go.Lib Go.Maps
set_option maxRecDepth 8000
attribute [local go_sem ↓] Go.wp_at_zero Go.wp_at_succ
attribute [local irreducible] insW NewM
def findReg (id : Nat) : Code → Option Code
 | .region i ops b => if i = id then some (.region i ops b) else none
 | .loop c => findReg id c
 | .seq a b => match findReg id a with
  | some c => some c
  | none => findReg id b
 | .block _ c => findReg id c
 | .scope c => findReg id c
 | .cond _ a b => match findReg id a with
  | some c => some c
  | none => findReg id b
 | _ => none
def OnEnd (R : Act → World → Prop) (e : Exit) (a : Act) (w : World) : Prop := match e with
 | .normal => R a w
 | _ => False
theorem OnEnd.imp {R : Act → World → Prop} {Q : Exit → Act → World → Prop} (h : ∀ a w, R a w → Q .normal a w) : ∀ e a w, OnEnd R e a w → Q e a w := fun e a w k => by
 cases e <;> first | exact h _ _ k | exact (k : False).elim
theorem ext_ins {W1 W : World} {M : Nat} {V : Value} (h : Wb.Ext W1 W) (hN : NewM W M) (hM : W1.heap.size ≤ M) : Wb.Ext W1 (insW M V W) := h.grown (ins_grown V hN) (fun k e => by cases e; exact hM)
def awJ2 (j : Nat) : Bool := j != 6 && j != 7 && j != 8 && j != 9 && j != 10 && j != 12 && j != 13 && j != 14
def awD2 (j : Nat) : Bool := j == 6 || j == 7 || j == 8 || j == 9 || j == 10 || j == 12 || j == 13 || j == 14
theorem awD2_lt : ∀ d, awD2 d = true → d < 15 := fun d h => by
 unfold awD2 at h
 simp at h
 omega
noncomputable def awR2 : Code := ((Tryz.f10.body.bind (findReg 2)).getD .skip)
set_option maxHeartbeats 100000000 in
theorem aw2 (x2 x3 x4 x5 x6 x7 x8 x9 x10 x11 x12 x13 x14 x15 x16 x17 x18 x19 x20 x21 x22 x23 x24 x25 x26 x27 x28 x29 x30 x31 x32 x33 x34 x35 x36 x37 x38 x39 x40 x41 x42 x43 x44 x45 x46 x47 x48 x49 x50 x51 x52 x53 x54 x55 x56 x57 x58 x59 x60 x61 x62 x63 x64 x65 x66 x67 x68 x69 x70 x71 x72 x73 x74 : Value) (ds) (w W1 : World) (A : Nat) (a0 : W1.cell? ⟨A, 0, none⟩ = some (.slice none 0 0)) (a1 : W1.cell? ⟨A, 1, none⟩ = some (.map none)) (a2 : W1.cell? ⟨A, 2, none⟩ = some (.map none)) (af : ∀ j, W1.frozen? ⟨A, j, none⟩ = false) (hAs : A < W1.heap.size) (hx1 : Wb.Ext w W1) (hwA : w.heap.size ≤ A) :
  Code.wp Tryz.prog awR2 (OnEnd fun a' w' => ∃ (X : Nat) (u6 u7 u8 u9 u10 u11 u12 u13 u14 u15 : Value), a' = ⟨#[.bool false, .pointer (some ⟨A, 0, none⟩), .pointer (some ⟨X, 0, none⟩), .int .i64 0, x4, x5, u6, u7, u8, u9, u10, u11, u12, u13, u14, u15, x16, x17, x18, x19, x20, x21, x22, x23, x24, x25, x26, x27, x28, x29, x30, x31, x32, x33, x34, x35, x36, x37, x38, x39, x40, x41, x42, x43, x44, x45, x46, x47, x48, x49, x50, x51, x52, x53, x54, x55, x56, x57, x58, x59, x60, x61, x62, x63, x64, x65, x66, x67, x68, x69, x70, x71, x72, x73, x74], ds⟩ ∧ CutP w A W1.heap.size X Wb.B1 [1] 1 Wb.R1 w') ⟨#[.bool false, .pointer (some ⟨A, 0, none⟩), x2, x3, x4, x5, x6, x7, x8, x9, x10, x11, x12, x13, x14, x15, x16, x17, x18, x19, x20, x21, x22, x23, x24, x25, x26, x27, x28, x29, x30, x31, x32, x33, x34, x35, x36, x37, x38, x39, x40, x41, x42, x43, x44, x45, x46, x47, x48, x49, x50, x51, x52, x53, x54, x55, x56, x57, x58, x59, x60, x61, x62, x63, x64, x65, x66, x67, x68, x69, x70, x71, x72, x73, x74], ds⟩ W1 := by
 have HX1 := Lib.hid hx1
 clear hx1
 have hmm := @run_makeMap Tryz.prog
 have hmu := ins_run
 have hNa : ∀ (W : World) (o : Obj) (M : Nat), NewM W M → NewM (W.alloc o) M := fun W o M h => h.ext ((Wb.Ext.refl _).alloc o)
 have hNb : ∀ (W : World) (o o2 : Obj) (M : Nat), NewM W M → NewM ((W.alloc o).alloc o2) M := fun W o o2 M h => hNa _ _ _ (hNa _ _ _ h)
 have hNd : ∀ (W : World) (M : Nat), NewM W M → NewM W.drew M := fun W M h => h.ext (Wb.Ext.drew (.refl _))
 have hN0 : ∀ W : World, NewM (W.alloc (.map #[] 0)) W.heap.size := newM_made
 have hN1 : ∀ (W : World) o, NewM ((W.alloc o).alloc (.map #[] 0)) (W.heap.size + 1) := fun W o => by have := newM_made (W.alloc o); simpa using this
 have hN2 : ∀ (W : World) o o2, NewM (((W.alloc o).alloc o2).alloc (.map #[] 0)) (W.heap.size + 2) := fun W o o2 => by have := newM_made ((W.alloc o).alloc o2); simpa using this
 have r0 : ∀ x, Wb.Ext W1 x → x.cell? ⟨A, 0, none⟩ = some (.slice none 0 0) := fun x h => h.keep a0
 have r1 : ∀ x, Wb.Ext W1 x → x.cell? ⟨A, 1, none⟩ = some (.map none) := fun x h => h.keep a1
 have r2 : ∀ x, Wb.Ext W1 x → x.cell? ⟨A, 2, none⟩ = some (.map none) := fun x h => h.keep a2
 have HS := Lib.hid (show ∀ W, Wb.Ext W1 W → Calls Tryz.prog 36 #[.int .i64 2024, .int .i64 1, .int .i64 10000] W fun e w' => ∃ g, e = .returned (.agg #[.int .i64 2024, .int .i64 1, .slice (some ⟨g, 0, none⟩) 1 1]) ∧ w'.cell? ⟨A, 0, none⟩ = some (.slice none 0 0) ∧ w'.cell? ⟨A, 1, none⟩ = some (.map none) ∧ w'.cell? ⟨A, 2, none⟩ = some (.map none) ∧ (∀ j, w'.frozen? ⟨A, j, none⟩ = false) ∧ A < w'.heap.size ∧
   (∀ M, NewM W M → NewM w' M) ∧ Hid (LnsC w' (.slice (some ⟨g, 0, none⟩) 1 1) (salL 10000)) ∧ Wb.Ext W1 w' ∧ W.heap.size ≤ g ∧ g < w'.heap.size ∧ Wb.Ext W w' from fun W hW => by
  refine (some31_any 2024 1 10000 W).mono ?_
  rintro e w' ⟨g, rfl, hl, hg1, hg2, hx⟩
  have hE := hW.trans hx
  exact ⟨g, rfl, hE.keep a0, hE.keep a1, hE.keep a2, (fun j => (hE.cells.2 _ _ hAs).trans (af j)), Nat.lt_of_lt_of_le hAs hE.size, (fun M h => h.ext hx), Lib.hid hl, hE, hg1, hg2, hx⟩)
 have HDO := Lib.hid (show ∀ W M B g, Pre1 W1 W M (fun q => q = M ∨ q = B ∨ q = g) → Calls Tryz.prog 5 #[.agg #[.slice none 0 0, .map none, .map none], .int .i64 2024, .int .i64 1, .int .i64 0, .map (some M)] W fun e w' => ∃ ra' rl' rc' mp' mo' qa qc rows n, e = .returned (.tuple #[.agg #[.slice ra' rl' rc', .map mp', .map mo'], .agg #[.int .i64 1, .int .i64 2024, .int .i64 1, .int .i64 0, .slice qa 1 qc], .int .i64 0]) ∧ w'.cell? ⟨A, 0, none⟩ = some (.slice none 0 0) ∧ w'.cell? ⟨A, 1, none⟩ = some (.map none) ∧ w'.cell? ⟨A, 2, none⟩ = some (.map none) ∧ (∀ j, w'.frozen? ⟨A, j, none⟩ = false) ∧ A < w'.heap.size ∧ A < n ∧ n = W.heap.size ∧ n ≤ w'.heap.size ∧
   Hid (BkF (fun q => q < n → q = M ∨ q = B ∨ q = g) w' (.slice ra' rl' rc') mp' mo' Wb.B1 [1] 1 ∧ (∀ w2, Kept (fun q => q < n → q = M ∨ q = B ∨ q = g) w' w2 → RowsM w2 (.slice qa 1 qc) rows) ∧ rows.map RwM.c = [Wb.R1]) ∧ Wb.Ext W1 w' ∧ Wb.Ext W w' from fun W M B g hM => by
  refine (awake_do1 (fun q => q = M ∨ q = B ∨ q = g) W M hM.1).mono ?_
  rintro e w' ⟨rv', mp', mo', r, rfl, hb, hr, hc, hx⟩
  obtain ⟨ra', rc', rfl⟩ := hb.now.shape
  have hr0 := hr w' .refl
  obtain ⟨qa, qc, hq⟩ := hr0.tab.shape
  have hl : r.rows.length = 1 := by have := congrArg List.length hc; simpa using this
  rw [hl] at hq
  have hE := hM.2.trans hx
  exact ⟨ra', _, rc', mp', mo', qa, qc, r.rows, W.heap.size, by rw [hq]; rfl, hE.keep a0, hE.keep a1, hE.keep a2, (fun j => (hE.cells.2 _ _ hAs).trans (af j)), Nat.lt_of_lt_of_le hAs hE.size, Nat.lt_of_lt_of_le hAs hM.2.size, rfl, hx.size, Lib.hid ⟨hb, (fun w2 h2 => by rw [← hq]; exact hr w2 h2), hc⟩, hE, hx⟩)
 conv => arg 2; whnf
 refine startJ (S := Wb.Ext W1) (J := awJ2) (n := 15) (l := #[false, false, false, false, false, false, false, false, false, false, false, false, false, false, false]) (by kernel_rfl) (by kernel_rfl) (by kernel_rfl) ?_
 have hHeld := Wb.Ext.drew (.refl W1)
 refine tJ awD2 0 (awD2_lt) ?_
 refine o3J 1 2 11 ?_ ?_ ?_
 intro K hK
 go_simp
 refine psJ hK (hHeld.alloc _) fun hHeld => ?_
 clear hK K
 refine o2J 2 11 ?_ ?_
 intro K hK
 go_simp
 go_at_call 36
 refine (HS.out _ hHeld).mono ?_
 rintro e w' ⟨g, rfl, k0, k1, k2, kf, kl, kn, hG, hE1, hg1, hg2, hx⟩
 (try simp [go_sem] at hg1)
 have n0 := kn _ (hNd _ _ (hN0 _))
 (try go_simp)
 refine psJ hK hE1 fun hHeld => ?_
 clear hK K
 refine o2J 3 11 ?_ ?_
 intro K hK
 go_simp
 refine psJ hK (hHeld.alloc _) fun hHeld => ?_
 clear hK K
 refine o2J 4 11 ?_ ?_
 intro K hK
 go_simp
 have hY := hHeld
 refine psJ hK (ext_ins hHeld (hNa _ _ _ (n0)) (by omega)) fun hHeld => ?_
 clear hK K
 refine tJ awD2 5 (awD2_lt) ?_
 refine o2J 6 11 ?_ ?_
 intro K hK
 go_simp
 go_at_call 5
 refine (HDO.out _ _ _ _ (pre1_ins (g := g) hY ((Wb.Ext.refl _).alloc _) (hNa _ _ _ (n0)) (by omega) (by omega) (by omega) hG.out ⟨by simp [go_sem], by simp [go_sem], by simp [go_sem]⟩)).mono ?_
 rintro e w9 ⟨ra', rl', rc', mp', mo', qa, qc, rows, n, rfl, m0, m1, m2, mf, ml, mn, hn, hnl, hFIN, hE9, hx9⟩
 have hs9 := hE9.size
 (try go_simp)
 refine psD hK ?_
 clear hK K
 refine pJ 7 ?_
 refine pJ 8 ?_
 refine pJ 9 ?_
 refine pJ 10 ?_
 refine o1J 11 ?_
 intro K hK
 go_simp
 refine psJ hK (hE9.alloc _) fun hHeld => ?_
 clear hK K
 refine o1J 12 ?_
 intro K hK
 go_simp
 refine psD hK ?_
 clear hK K
 refine o1J 13 ?_
 intro K hK
 go_simp
 refine psD hK ?_
 clear hK K
 refine o1J 14 ?_
 intro K hK
 go_simp
 refine psD hK ?_
 clear hK K
 refine doneJ (by kernel_rfl) ?_ _
 rotate_left
 intro K hK
 go_simp
 refine psJ hK (hHeld.alloc _) fun hHeld => ?_
 clear hK K
 refine o1J 6 ?_
 intro K hK
 go_simp
 go_at_call 5
 refine (HDO.out _ _ _ _ (Pre1.alloc (pre1_ins (g := g) hY ((Wb.Ext.refl _).alloc _) (hNa _ _ _ (n0)) (by omega) (by omega) (by omega) hG.out ⟨by simp [go_sem], by simp [go_sem], by simp [go_sem]⟩) _)).mono ?_
 rintro e w9 ⟨ra', rl', rc', mp', mo', qa, qc, rows, n, rfl, m0, m1, m2, mf, ml, mn, hn, hnl, hFIN, hE9, hx9⟩
 have hs9 := hE9.size
 refine boxa_cut (A := A) hn hx9 (hNa _ _ _ (n0)) (by simp <;> omega) ?_
 intro nA1 nA2 nA3 hns hXn bz9
 (try simp at hns)
 have bz2 := bz9
 obtain ⟨q0, q1, q2, q3, q4, qf⟩ := bz2
 (try go_simp)
 refine psD hK ?_
 clear hK K
 refine pJ 7 ?_
 refine pJ 8 ?_
 refine pJ 9 ?_
 refine pJ 10 ?_
 refine o1J 12 ?_
 intro K hK
 go_simp
 refine psD hK ?_
 clear hK K
 refine o1J 13 ?_
 intro K hK
 go_simp
 refine psD hK ?_
 clear hK K
 refine o1J 14 ?_
 intro K hK
 go_simp
 refine psD hK ?_
 clear hK K
 refine doneJ (by kernel_rfl) ?_ _
 rotate_left
 intro K hK
 go_simp
 refine psJ hK (hHeld.alloc _) fun hHeld => ?_
 clear hK K
 refine o1J 4 ?_
 intro K hK
 go_simp
 have hY := hHeld
 refine psJ hK (ext_ins hHeld (hNb _ _ _ _ (n0)) (by omega)) fun hHeld => ?_
 clear hK K
 refine tJ awD2 5 (awD2_lt) ?_
 refine o1J 6 ?_
 intro K hK
 go_simp
 go_at_call 5
 refine (HDO.out _ _ _ _ (pre1_ins (g := g) hY (((Wb.Ext.refl _).alloc _).alloc _) (hNb _ _ _ _ (n0)) (by omega) (by omega) (by omega) hG.out ⟨by simp [go_sem], by simp [go_sem], by simp [go_sem]⟩)).mono ?_
 rintro e w9 ⟨ra', rl', rc', mp', mo', qa, qc, rows, n, rfl, m0, m1, m2, mf, ml, mn, hn, hnl, hFIN, hE9, hx9⟩
 have hs9 := hE9.size
 refine boxi_cut (X := w'.heap.size + 1) hn hx9 (hNb _ _ _ _ (n0)) (by simp [BoxZ, go_sem]) ?_
 intro hXn bz9
 have bz2 := bz9
 obtain ⟨q0, q1, q2, q3, q4, qf⟩ := bz2
 (try go_simp)
 refine psD hK ?_
 clear hK K
 refine pJ 7 ?_
 refine pJ 8 ?_
 refine pJ 9 ?_
 refine pJ 10 ?_
 refine o1J 12 ?_
 intro K hK
 go_simp
 refine psD hK ?_
 clear hK K
 refine o1J 13 ?_
 intro K hK
 go_simp
 refine psD hK ?_
 clear hK K
 refine o1J 14 ?_
 intro K hK
 go_simp
 refine psD hK ?_
 clear hK K
 refine doneJ (by kernel_rfl) ?_ _
 rotate_left
 intro K hK
 go_simp
 refine psJ hK (hHeld.alloc _) fun hHeld => ?_
 clear hK K
 refine o1J 3 ?_
 intro K hK
 go_simp
 refine psJ hK (hHeld.alloc _) fun hHeld => ?_
 clear hK K
 refine o1J 4 ?_
 intro K hK
 go_simp
 have hY := hHeld
 refine psJ hK (ext_ins hHeld (hNb _ _ _ _ (n0)) (by omega)) fun hHeld => ?_
 clear hK K
 refine tJ awD2 5 (awD2_lt) ?_
 refine o1J 6 ?_
 intro K hK
 go_simp
 go_at_call 5
 refine (HDO.out _ _ _ _ (pre1_ins (g := g) hY (((Wb.Ext.refl _).alloc _).alloc _) (hNb _ _ _ _ (n0)) (by omega) (by omega) (by omega) hG.out ⟨by simp [go_sem], by simp [go_sem], by simp [go_sem]⟩)).mono ?_
 rintro e w9 ⟨ra', rl', rc', mp', mo', qa, qc, rows, n, rfl, m0, m1, m2, mf, ml, mn, hn, hnl, hFIN, hE9, hx9⟩
 have hs9 := hE9.size
 refine boxi_cut (X := w'.heap.size) hn hx9 (hNb _ _ _ _ (n0)) (by simp [BoxZ, go_sem]) ?_
 intro hXn bz9
 have bz2 := bz9
 obtain ⟨q0, q1, q2, q3, q4, qf⟩ := bz2
 (try go_simp)
 refine psD hK ?_
 clear hK K
 refine pJ 7 ?_
 refine pJ 8 ?_
 refine pJ 9 ?_
 refine pJ 10 ?_
 refine o1J 12 ?_
 intro K hK
 go_simp
 refine psD hK ?_
 clear hK K
 refine o1J 13 ?_
 intro K hK
 go_simp
 refine psD hK ?_
 clear hK K
 refine o1J 14 ?_
 intro K hK
 go_simp
 refine psD hK ?_
 clear hK K
 refine doneJ (by kernel_rfl) ?_ _
 rotate_left
 intro K hK
 go_simp
 refine psJ hK (hHeld.alloc _) fun hHeld => ?_
 clear hK K
 refine o1J 2 ?_
 intro K hK
 go_simp
 go_at_call 36
 refine (HS.out _ hHeld).mono ?_
 rintro e w' ⟨g, rfl, k0, k1, k2, kf, kl, kn, hG, hE1, hg1, hg2, hx⟩
 (try simp [go_sem] at hg1)
 have n0 := kn _ (hNd _ _ (hNa _ _ _ (hN0 _)))
 have bz := BoxZ.ext (X := W1.heap.size + 1) (by simp [BoxZ, go_sem]) hx
 have lbz := bz.lt
 (try go_simp)
 refine psJ hK hE1 fun hHeld => ?_
 clear hK K
 refine o1J 3 ?_
 intro K hK
 go_simp
 refine psJ hK (hHeld.alloc _) fun hHeld => ?_
 clear hK K
 refine o1J 4 ?_
 intro K hK
 go_simp
 have hY := hHeld
 refine psJ hK (ext_ins hHeld (hNa _ _ _ (n0)) (by omega)) fun hHeld => ?_
 clear hK K
 refine tJ awD2 5 (awD2_lt) ?_
 refine o1J 6 ?_
 intro K hK
 go_simp
 go_at_call 5
 refine (HDO.out _ _ _ _ (pre1_ins (g := g) hY ((Wb.Ext.refl _).alloc _) (hNa _ _ _ (n0)) (by omega) (by omega) (by omega) hG.out ⟨by simp [go_sem], by simp [go_sem], by simp [go_sem]⟩)).mono ?_
 rintro e w9 ⟨ra', rl', rc', mp', mo', qa, qc, rows, n, rfl, m0, m1, m2, mf, ml, mn, hn, hnl, hFIN, hE9, hx9⟩
 have hs9 := hE9.size
 refine boxi_cut hn hx9 (hNa _ _ _ (n0)) (bz.ext ((Wb.Ext.refl _).alloc _)) ?_
 intro hXn bz9
 have bz2 := bz9
 obtain ⟨q0, q1, q2, q3, q4, qf⟩ := bz2
 (try go_simp)
 refine psD hK ?_
 clear hK K
 refine pJ 7 ?_
 refine pJ 8 ?_
 refine pJ 9 ?_
 refine pJ 10 ?_
 refine o1J 12 ?_
 intro K hK
 go_simp
 refine psD hK ?_
 clear hK K
 refine o1J 13 ?_
 intro K hK
 go_simp
 refine psD hK ?_
 clear hK K
 refine o1J 14 ?_
 intro K hK
 go_simp
 refine psD hK ?_
 clear hK K
 refine doneJ (by kernel_rfl) ?_ _
 rotate_left
 intro K hK
 go_simp
 go_at_call 36
 refine (HS.out _ hHeld).mono ?_
 rintro e w' ⟨g, rfl, k0, k1, k2, kf, kl, kn, hG, hE1, hg1, hg2, hx⟩
 (try simp [go_sem] at hg1)
 (try go_simp)
 refine psJ hK hE1 fun hHeld => ?_
 clear hK K
 refine o3J 1 3 11 ?_ ?_ ?_
 intro K hK
 go_simp
 refine psJ hK (hHeld.alloc _) fun hHeld => ?_
 clear hK K
 refine o2J 3 11 ?_ ?_
 intro K hK
 go_simp
 refine psJ hK (hHeld.alloc _) fun hHeld => ?_
 clear hK K
 refine o2J 4 11 ?_ ?_
 intro K hK
 go_simp
 have hY := hHeld
 refine psJ hK (ext_ins hHeld (hNa _ _ _ (hN0 _)) (by omega)) fun hHeld => ?_
 clear hK K
 refine tJ awD2 5 (awD2_lt) ?_
 refine o2J 6 11 ?_ ?_
 intro K hK
 go_simp
 go_at_call 5
 refine (HDO.out _ _ _ _ (pre1_ins (g := g) hY (((Wb.Ext.refl _).alloc _).alloc _) (hNa _ _ _ (hN0 _)) (by omega) (by omega) (by omega) hG.out ⟨by simp [go_sem], by simp [go_sem], by simp [go_sem]⟩)).mono ?_
 rintro e w9 ⟨ra', rl', rc', mp', mo', qa, qc, rows, n, rfl, m0, m1, m2, mf, ml, mn, hn, hnl, hFIN, hE9, hx9⟩
 have hs9 := hE9.size
 (try go_simp)
 refine psD hK ?_
 clear hK K
 refine pJ 7 ?_
 refine pJ 8 ?_
 refine pJ 9 ?_
 refine pJ 10 ?_
 refine o1J 11 ?_
 intro K hK
 go_simp
 refine psJ hK (hE9.alloc _) fun hHeld => ?_
 clear hK K
 refine o1J 12 ?_
 intro K hK
 go_simp
 refine psD hK ?_
 clear hK K
 refine o1J 13 ?_
 intro K hK
 go_simp
 refine psD hK ?_
 clear hK K
 refine o1J 14 ?_
 intro K hK
 go_simp
 refine psD hK ?_
 clear hK K
 refine doneJ (by kernel_rfl) ?_ _
 rotate_left
 intro K hK
 go_simp
 refine psJ hK (hHeld.alloc _) fun hHeld => ?_
 clear hK K
 refine o1J 6 ?_
 intro K hK
 go_simp
 go_at_call 5
 refine (HDO.out _ _ _ _ (Pre1.alloc (pre1_ins (g := g) hY (((Wb.Ext.refl _).alloc _).alloc _) (hNa _ _ _ (hN0 _)) (by omega) (by omega) (by omega) hG.out ⟨by simp [go_sem], by simp [go_sem], by simp [go_sem]⟩) _)).mono ?_
 rintro e w9 ⟨ra', rl', rc', mp', mo', qa, qc, rows, n, rfl, m0, m1, m2, mf, ml, mn, hn, hnl, hFIN, hE9, hx9⟩
 have hs9 := hE9.size
 refine boxa_cut (A := A) hn hx9 (hNa _ _ _ (hN0 _)) (by simp <;> omega) ?_
 intro nA1 nA2 nA3 hns hXn bz9
 (try simp at hns)
 have bz2 := bz9
 obtain ⟨q0, q1, q2, q3, q4, qf⟩ := bz2
 (try go_simp)
 refine psD hK ?_
 clear hK K
 refine pJ 7 ?_
 refine pJ 8 ?_
 refine pJ 9 ?_
 refine pJ 10 ?_
 refine o1J 12 ?_
 intro K hK
 go_simp
 refine psD hK ?_
 clear hK K
 refine o1J 13 ?_
 intro K hK
 go_simp
 refine psD hK ?_
 clear hK K
 refine o1J 14 ?_
 intro K hK
 go_simp
 refine psD hK ?_
 clear hK K
 refine doneJ (by kernel_rfl) ?_ _
 rotate_left
 intro K hK
 go_simp
 refine psJ hK (hHeld.alloc _) fun hHeld => ?_
 clear hK K
 refine o1J 4 ?_
 intro K hK
 go_simp
 have hY := hHeld
 refine psJ hK (ext_ins hHeld (hNb _ _ _ _ (hN0 _)) (by omega)) fun hHeld => ?_
 clear hK K
 refine tJ awD2 5 (awD2_lt) ?_
 refine o1J 6 ?_
 intro K hK
 go_simp
 go_at_call 5
 refine (HDO.out _ _ _ _ (pre1_ins (g := g) hY ((((Wb.Ext.refl _).alloc _).alloc _).alloc _) (hNb _ _ _ _ (hN0 _)) (by omega) (by omega) (by omega) hG.out ⟨by simp [go_sem], by simp [go_sem], by simp [go_sem]⟩)).mono ?_
 rintro e w9 ⟨ra', rl', rc', mp', mo', qa, qc, rows, n, rfl, m0, m1, m2, mf, ml, mn, hn, hnl, hFIN, hE9, hx9⟩
 have hs9 := hE9.size
 refine boxi_cut (X := w'.heap.size + 2) hn hx9 (hNb _ _ _ _ (hN0 _)) (by simp [BoxZ, go_sem]) ?_
 intro hXn bz9
 have bz2 := bz9
 obtain ⟨q0, q1, q2, q3, q4, qf⟩ := bz2
 (try go_simp)
 refine psD hK ?_
 clear hK K
 refine pJ 7 ?_
 refine pJ 8 ?_
 refine pJ 9 ?_
 refine pJ 10 ?_
 refine o1J 12 ?_
 intro K hK
 go_simp
 refine psD hK ?_
 clear hK K
 refine o1J 13 ?_
 intro K hK
 go_simp
 refine psD hK ?_
 clear hK K
 refine o1J 14 ?_
 intro K hK
 go_simp
 refine psD hK ?_
 clear hK K
 refine doneJ (by kernel_rfl) ?_ _
 rotate_left
 intro K hK
 go_simp
 refine psJ hK (hHeld.alloc _) fun hHeld => ?_
 clear hK K
 refine o1J 3 ?_
 intro K hK
 go_simp
 refine psJ hK (hHeld.alloc _) fun hHeld => ?_
 clear hK K
 refine o1J 4 ?_
 intro K hK
 go_simp
 have hY := hHeld
 refine psJ hK (ext_ins hHeld (hNb _ _ _ _ (hN0 _)) (by omega)) fun hHeld => ?_
 clear hK K
 refine tJ awD2 5 (awD2_lt) ?_
 refine o1J 6 ?_
 intro K hK
 go_simp
 go_at_call 5
 refine (HDO.out _ _ _ _ (pre1_ins (g := g) hY ((((Wb.Ext.refl _).alloc _).alloc _).alloc _) (hNb _ _ _ _ (hN0 _)) (by omega) (by omega) (by omega) hG.out ⟨by simp [go_sem], by simp [go_sem], by simp [go_sem]⟩)).mono ?_
 rintro e w9 ⟨ra', rl', rc', mp', mo', qa, qc, rows, n, rfl, m0, m1, m2, mf, ml, mn, hn, hnl, hFIN, hE9, hx9⟩
 have hs9 := hE9.size
 refine boxi_cut (X := w'.heap.size + 1) hn hx9 (hNb _ _ _ _ (hN0 _)) (by simp [BoxZ, go_sem]) ?_
 intro hXn bz9
 have bz2 := bz9
 obtain ⟨q0, q1, q2, q3, q4, qf⟩ := bz2
 (try go_simp)
 refine psD hK ?_
 clear hK K
 refine pJ 7 ?_
 refine pJ 8 ?_
 refine pJ 9 ?_
 refine pJ 10 ?_
 refine o1J 12 ?_
 intro K hK
 go_simp
 refine psD hK ?_
 clear hK K
 refine o1J 13 ?_
 intro K hK
 go_simp
 refine psD hK ?_
 clear hK K
 refine o1J 14 ?_
 intro K hK
 go_simp
 refine psD hK ?_
 clear hK K
 refine doneJ (by kernel_rfl) ?_ _
 rotate_left
 intro K hK
 go_simp
 refine psJ hK (hHeld.alloc _) fun hHeld => ?_
 clear hK K
 refine o2J 1 11 ?_ ?_
 intro K hK
 go_simp
 refine psJ hK (hHeld.alloc _) fun hHeld => ?_
 clear hK K
 refine o2J 4 11 ?_ ?_
 intro K hK
 go_simp
 have hY := hHeld
 refine psJ hK (ext_ins hHeld (hN1 _ _) (by omega)) fun hHeld => ?_
 clear hK K
 refine tJ awD2 5 (awD2_lt) ?_
 refine o2J 6 11 ?_ ?_
 intro K hK
 go_simp
 go_at_call 5
 refine (HDO.out _ _ _ _ (pre1_ins (g := g) hY (((Wb.Ext.refl _).alloc _).alloc _) (hN1 _ _) (by omega) (by omega) (by omega) hG.out ⟨by simp [go_sem], by simp [go_sem], by simp [go_sem]⟩)).mono ?_
 rintro e w9 ⟨ra', rl', rc', mp', mo', qa, qc, rows, n, rfl, m0, m1, m2, mf, ml, mn, hn, hnl, hFIN, hE9, hx9⟩
 have hs9 := hE9.size
 (try go_simp)
 refine psD hK ?_
 clear hK K
 refine pJ 7 ?_
 refine pJ 8 ?_
 refine pJ 9 ?_
 refine pJ 10 ?_
 refine o1J 11 ?_
 intro K hK
 go_simp
 refine psJ hK (hE9.alloc _) fun hHeld => ?_
 clear hK K
 refine o1J 12 ?_
 intro K hK
 go_simp
 refine psD hK ?_
 clear hK K
 refine o1J 13 ?_
 intro K hK
 go_simp
 refine psD hK ?_
 clear hK K
 refine o1J 14 ?_
 intro K hK
 go_simp
 refine psD hK ?_
 clear hK K
 refine doneJ (by kernel_rfl) ?_ _
 rotate_left
 intro K hK
 go_simp
 refine psJ hK (hHeld.alloc _) fun hHeld => ?_
 clear hK K
 refine o1J 6 ?_
 intro K hK
 go_simp
 go_at_call 5
 refine (HDO.out _ _ _ _ (Pre1.alloc (pre1_ins (g := g) hY (((Wb.Ext.refl _).alloc _).alloc _) (hN1 _ _) (by omega) (by omega) (by omega) hG.out ⟨by simp [go_sem], by simp [go_sem], by simp [go_sem]⟩) _)).mono ?_
 rintro e w9 ⟨ra', rl', rc', mp', mo', qa, qc, rows, n, rfl, m0, m1, m2, mf, ml, mn, hn, hnl, hFIN, hE9, hx9⟩
 have hs9 := hE9.size
 refine boxa_cut (A := A) hn hx9 (hN1 _ _) (by simp <;> omega) ?_
 intro nA1 nA2 nA3 hns hXn bz9
 (try simp at hns)
 have bz2 := bz9
 obtain ⟨q0, q1, q2, q3, q4, qf⟩ := bz2
 (try go_simp)
 refine psD hK ?_
 clear hK K
 refine pJ 7 ?_
 refine pJ 8 ?_
 refine pJ 9 ?_
 refine pJ 10 ?_
 refine o1J 12 ?_
 intro K hK
 go_simp
 refine psD hK ?_
 clear hK K
 refine o1J 13 ?_
 intro K hK
 go_simp
 refine psD hK ?_
 clear hK K
 refine o1J 14 ?_
 intro K hK
 go_simp
 refine psD hK ?_
 clear hK K
 refine doneJ (by kernel_rfl) ?_ _
 rotate_left
 intro K hK
 go_simp
 refine psJ hK (hHeld.alloc _) fun hHeld => ?_
 clear hK K
 refine o1J 4 ?_
 intro K hK
 go_simp
 have hY := hHeld
 refine psJ hK (ext_ins hHeld (hNa _ _ _ (hN1 _ _)) (by omega)) fun hHeld => ?_
 clear hK K
 refine tJ awD2 5 (awD2_lt) ?_
 refine o1J 6 ?_
 intro K hK
 go_simp
 go_at_call 5
 refine (HDO.out _ _ _ _ (pre1_ins (g := g) hY ((((Wb.Ext.refl _).alloc _).alloc _).alloc _) (hNa _ _ _ (hN1 _ _)) (by omega) (by omega) (by omega) hG.out ⟨by simp [go_sem], by simp [go_sem], by simp [go_sem]⟩)).mono ?_
 rintro e w9 ⟨ra', rl', rc', mp', mo', qa, qc, rows, n, rfl, m0, m1, m2, mf, ml, mn, hn, hnl, hFIN, hE9, hx9⟩
 have hs9 := hE9.size
 refine boxi_cut (X := w'.heap.size + 2) hn hx9 (hNa _ _ _ (hN1 _ _)) (by simp [BoxZ, go_sem]) ?_
 intro hXn bz9
 have bz2 := bz9
 obtain ⟨q0, q1, q2, q3, q4, qf⟩ := bz2
 (try go_simp)
 refine psD hK ?_
 clear hK K
 refine pJ 7 ?_
 refine pJ 8 ?_
 refine pJ 9 ?_
 refine pJ 10 ?_
 refine o1J 12 ?_
 intro K hK
 go_simp
 refine psD hK ?_
 clear hK K
 refine o1J 13 ?_
 intro K hK
 go_simp
 refine psD hK ?_
 clear hK K
 refine o1J 14 ?_
 intro K hK
 go_simp
 refine psD hK ?_
 clear hK K
 refine doneJ (by kernel_rfl) ?_ _
 rotate_left
 intro K hK
 go_simp
 refine psJ hK (hHeld.alloc _) fun hHeld => ?_
 clear hK K
 refine o1J 1 ?_
 intro K hK
 go_simp
 refine psJ hK (hHeld.alloc _) fun hHeld => ?_
 clear hK K
 refine o1J 4 ?_
 intro K hK
 go_simp
 have hY := hHeld
 refine psJ hK (ext_ins hHeld (hN2 _ _ _) (by omega)) fun hHeld => ?_
 clear hK K
 refine tJ awD2 5 (awD2_lt) ?_
 refine o1J 6 ?_
 intro K hK
 go_simp
 go_at_call 5
 refine (HDO.out _ _ _ _ (pre1_ins (g := g) hY ((((Wb.Ext.refl _).alloc _).alloc _).alloc _) (hN2 _ _ _) (by omega) (by omega) (by omega) hG.out ⟨by simp [go_sem], by simp [go_sem], by simp [go_sem]⟩)).mono ?_
 rintro e w9 ⟨ra', rl', rc', mp', mo', qa, qc, rows, n, rfl, m0, m1, m2, mf, ml, mn, hn, hnl, hFIN, hE9, hx9⟩
 have hs9 := hE9.size
 refine boxi_cut (X := w'.heap.size + 1) hn hx9 (hN2 _ _ _) (by simp [BoxZ, go_sem]) ?_
 intro hXn bz9
 have bz2 := bz9
 obtain ⟨q0, q1, q2, q3, q4, qf⟩ := bz2
 (try go_simp)
 refine psD hK ?_
 clear hK K
 refine pJ 7 ?_
 refine pJ 8 ?_
 refine pJ 9 ?_
 refine pJ 10 ?_
 refine o1J 12 ?_
 intro K hK
 go_simp
 refine psD hK ?_
 clear hK K
 refine o1J 13 ?_
 intro K hK
 go_simp
 refine psD hK ?_
 clear hK K
 refine o1J 14 ?_
 intro K hK
 go_simp
 refine psD hK ?_
 clear hK K
 refine doneJ (by kernel_rfl) ?_ _
 rotate_left
 intro K hK
 go_simp
 refine psJ hK (hHeld.alloc _) fun hHeld => ?_
 clear hK K
 refine o2J 1 3 ?_ ?_
 intro K hK
 go_simp
 refine psJ hK (hHeld.alloc _) fun hHeld => ?_
 clear hK K
 refine o1J 3 ?_
 intro K hK
 go_simp
 refine psJ hK (hHeld.alloc _) fun hHeld => ?_
 clear hK K
 refine o1J 4 ?_
 intro K hK
 go_simp
 have hY := hHeld
 refine psJ hK (ext_ins hHeld (hNa _ _ _ (hN1 _ _)) (by omega)) fun hHeld => ?_
 clear hK K
 refine tJ awD2 5 (awD2_lt) ?_
 refine o1J 6 ?_
 intro K hK
 go_simp
 go_at_call 5
 refine (HDO.out _ _ _ _ (pre1_ins (g := g) hY ((((Wb.Ext.refl _).alloc _).alloc _).alloc _) (hNa _ _ _ (hN1 _ _)) (by omega) (by omega) (by omega) hG.out ⟨by simp [go_sem], by simp [go_sem], by simp [go_sem]⟩)).mono ?_
 rintro e w9 ⟨ra', rl', rc', mp', mo', qa, qc, rows, n, rfl, m0, m1, m2, mf, ml, mn, hn, hnl, hFIN, hE9, hx9⟩
 have hs9 := hE9.size
 refine boxi_cut (X := w'.heap.size) hn hx9 (hNa _ _ _ (hN1 _ _)) (by simp [BoxZ, go_sem]) ?_
 intro hXn bz9
 have bz2 := bz9
 obtain ⟨q0, q1, q2, q3, q4, qf⟩ := bz2
 (try go_simp)
 refine psD hK ?_
 clear hK K
 refine pJ 7 ?_
 refine pJ 8 ?_
 refine pJ 9 ?_
 refine pJ 10 ?_
 refine o1J 12 ?_
 intro K hK
 go_simp
 refine psD hK ?_
 clear hK K
 refine o1J 13 ?_
 intro K hK
 go_simp
 refine psD hK ?_
 clear hK K
 refine o1J 14 ?_
 intro K hK
 go_simp
 refine psD hK ?_
 clear hK K
 refine doneJ (by kernel_rfl) ?_ _
 rotate_left
 intro K hK
 go_simp
 refine psJ hK (hHeld.alloc _) fun hHeld => ?_
 clear hK K
 refine o1J 1 ?_
 intro K hK
 go_simp
 refine psJ hK (hHeld.alloc _) fun hHeld => ?_
 clear hK K
 refine o1J 4 ?_
 intro K hK
 go_simp
 have hY := hHeld
 refine psJ hK (ext_ins hHeld (hN2 _ _ _) (by omega)) fun hHeld => ?_
 clear hK K
 refine tJ awD2 5 (awD2_lt) ?_
 refine o1J 6 ?_
 intro K hK
 go_simp
 go_at_call 5
 refine (HDO.out _ _ _ _ (pre1_ins (g := g) hY ((((Wb.Ext.refl _).alloc _).alloc _).alloc _) (hN2 _ _ _) (by omega) (by omega) (by omega) hG.out ⟨by simp [go_sem], by simp [go_sem], by simp [go_sem]⟩)).mono ?_
 rintro e w9 ⟨ra', rl', rc', mp', mo', qa, qc, rows, n, rfl, m0, m1, m2, mf, ml, mn, hn, hnl, hFIN, hE9, hx9⟩
 have hs9 := hE9.size
 refine boxi_cut (X := w'.heap.size) hn hx9 (hN2 _ _ _) (by simp [BoxZ, go_sem]) ?_
 intro hXn bz9
 have bz2 := bz9
 obtain ⟨q0, q1, q2, q3, q4, qf⟩ := bz2
 (try go_simp)
 refine psD hK ?_
 clear hK K
 refine pJ 7 ?_
 refine pJ 8 ?_
 refine pJ 9 ?_
 refine pJ 10 ?_
 refine o1J 12 ?_
 intro K hK
 go_simp
 refine psD hK ?_
 clear hK K
 refine o1J 13 ?_
 intro K hK
 go_simp
 refine psD hK ?_
 clear hK K
 refine o1J 14 ?_
 intro K hK
 go_simp
 refine psD hK ?_
 clear hK K
 refine doneJ (by kernel_rfl) ?_ _
 rotate_left
 intro K hK
 go_simp
 refine psJ hK (hHeld.alloc _) fun hHeld => ?_
 clear hK K
 refine o2J 1 2 ?_ ?_
 intro K hK
 go_simp
 refine psJ hK (hHeld.alloc _) fun hHeld => ?_
 clear hK K
 refine o1J 2 ?_
 intro K hK
 go_simp
 go_at_call 36
 refine (HS.out _ hHeld).mono ?_
 rintro e w' ⟨g, rfl, k0, k1, k2, kf, kl, kn, hG, hE1, hg1, hg2, hx⟩
 (try simp [go_sem] at hg1)
 have n0 := kn _ (hNd _ _ (hN1 _ _))
 have bz := BoxZ.ext (X := W1.heap.size) (by simp [BoxZ, go_sem]) hx
 have lbz := bz.lt
 (try go_simp)
 refine psJ hK hE1 fun hHeld => ?_
 clear hK K
 refine o1J 3 ?_
 intro K hK
 go_simp
 refine psJ hK (hHeld.alloc _) fun hHeld => ?_
 clear hK K
 refine o1J 4 ?_
 intro K hK
 go_simp
 have hY := hHeld
 refine psJ hK (ext_ins hHeld (hNa _ _ _ (n0)) (by omega)) fun hHeld => ?_
 clear hK K
 refine tJ awD2 5 (awD2_lt) ?_
 refine o1J 6 ?_
 intro K hK
 go_simp
 go_at_call 5
 refine (HDO.out _ _ _ _ (pre1_ins (g := g) hY ((Wb.Ext.refl _).alloc _) (hNa _ _ _ (n0)) (by omega) (by omega) (by omega) hG.out ⟨by simp [go_sem], by simp [go_sem], by simp [go_sem]⟩)).mono ?_
 rintro e w9 ⟨ra', rl', rc', mp', mo', qa, qc, rows, n, rfl, m0, m1, m2, mf, ml, mn, hn, hnl, hFIN, hE9, hx9⟩
 have hs9 := hE9.size
 refine boxi_cut hn hx9 (hNa _ _ _ (n0)) (bz.ext ((Wb.Ext.refl _).alloc _)) ?_
 intro hXn bz9
 have bz2 := bz9
 obtain ⟨q0, q1, q2, q3, q4, qf⟩ := bz2
 (try go_simp)
 refine psD hK ?_
 clear hK K
 refine pJ 7 ?_
 refine pJ 8 ?_
 refine pJ 9 ?_
 refine pJ 10 ?_
 refine o1J 12 ?_
 intro K hK
 go_simp
 refine psD hK ?_
 clear hK K
 refine o1J 13 ?_
 intro K hK
 go_simp
 refine psD hK ?_
 clear hK K
 refine o1J 14 ?_
 intro K hK
 go_simp
 refine psD hK ?_
 clear hK K
 refine doneJ (by kernel_rfl) ?_ _
 rotate_left
 intro K hK
 go_simp
 go_at_call 36
 refine (HS.out _ hHeld).mono ?_
 rintro e w' ⟨g, rfl, k0, k1, k2, kf, kl, kn, hG, hE1, hg1, hg2, hx⟩
 (try simp [go_sem] at hg1)
 have bz := BoxZ.ext (X := W1.heap.size) (by simp [BoxZ, go_sem]) hx
 have lbz := bz.lt
 (try go_simp)
 refine psJ hK hE1 fun hHeld => ?_
 clear hK K
 refine o2J 1 3 ?_ ?_
 intro K hK
 go_simp
 refine psJ hK (hHeld.alloc _) fun hHeld => ?_
 clear hK K
 refine o1J 3 ?_
 intro K hK
 go_simp
 refine psJ hK (hHeld.alloc _) fun hHeld => ?_
 clear hK K
 refine o1J 4 ?_
 intro K hK
 go_simp
 have hY := hHeld
 refine psJ hK (ext_ins hHeld (hNa _ _ _ (hN0 _)) (by omega)) fun hHeld => ?_
 clear hK K
 refine tJ awD2 5 (awD2_lt) ?_
 refine o1J 6 ?_
 intro K hK
 go_simp
 go_at_call 5
 refine (HDO.out _ _ _ _ (pre1_ins (g := g) hY (((Wb.Ext.refl _).alloc _).alloc _) (hNa _ _ _ (hN0 _)) (by omega) (by omega) (by omega) hG.out ⟨by simp [go_sem], by simp [go_sem], by simp [go_sem]⟩)).mono ?_
 rintro e w9 ⟨ra', rl', rc', mp', mo', qa, qc, rows, n, rfl, m0, m1, m2, mf, ml, mn, hn, hnl, hFIN, hE9, hx9⟩
 have hs9 := hE9.size
 refine boxi_cut hn hx9 (hNa _ _ _ (hN0 _)) (bz.ext (((Wb.Ext.refl _).alloc _).alloc _)) ?_
 intro hXn bz9
 have bz2 := bz9
 obtain ⟨q0, q1, q2, q3, q4, qf⟩ := bz2
 (try go_simp)
 refine psD hK ?_
 clear hK K
 refine pJ 7 ?_
 refine pJ 8 ?_
 refine pJ 9 ?_
 refine pJ 10 ?_
 refine o1J 12 ?_
 intro K hK
 go_simp
 refine psD hK ?_
 clear hK K
 refine o1J 13 ?_
 intro K hK
 go_simp
 refine psD hK ?_
 clear hK K
 refine o1J 14 ?_
 intro K hK
 go_simp
 refine psD hK ?_
 clear hK K
 refine doneJ (by kernel_rfl) ?_ _
 rotate_left
 intro K hK
 go_simp
 refine psJ hK (hHeld.alloc _) fun hHeld => ?_
 clear hK K
 refine o1J 1 ?_
 intro K hK
 go_simp
 refine psJ hK (hHeld.alloc _) fun hHeld => ?_
 clear hK K
 refine o1J 4 ?_
 intro K hK
 go_simp
 have hY := hHeld
 refine psJ hK (ext_ins hHeld (hN1 _ _) (by omega)) fun hHeld => ?_
 clear hK K
 refine tJ awD2 5 (awD2_lt) ?_
 refine o1J 6 ?_
 intro K hK
 go_simp
 go_at_call 5
 refine (HDO.out _ _ _ _ (pre1_ins (g := g) hY (((Wb.Ext.refl _).alloc _).alloc _) (hN1 _ _) (by omega) (by omega) (by omega) hG.out ⟨by simp [go_sem], by simp [go_sem], by simp [go_sem]⟩)).mono ?_
 rintro e w9 ⟨ra', rl', rc', mp', mo', qa, qc, rows, n, rfl, m0, m1, m2, mf, ml, mn, hn, hnl, hFIN, hE9, hx9⟩
 have hs9 := hE9.size
 refine boxi_cut hn hx9 (hN1 _ _) (bz.ext (((Wb.Ext.refl _).alloc _).alloc _)) ?_
 intro hXn bz9
 have bz2 := bz9
 obtain ⟨q0, q1, q2, q3, q4, qf⟩ := bz2
 (try go_simp)
 refine psD hK ?_
 clear hK K
 refine pJ 7 ?_
 refine pJ 8 ?_
 refine pJ 9 ?_
 refine pJ 10 ?_
 refine o1J 12 ?_
 intro K hK
 go_simp
 refine psD hK ?_
 clear hK K
 refine o1J 13 ?_
 intro K hK
 go_simp
 refine psD hK ?_
 clear hK K
 refine o1J 14 ?_
 intro K hK
 go_simp
 refine psD hK ?_
 clear hK K
 refine doneJ (by kernel_rfl) ?_ _
 rotate_left
 all_goals exact ⟨_, _, _, _, _, _, _, _, _, _, _, rfl, cut_at hFIN.out.1 hFIN.out.2.1 hFIN.out.2.2 (by have hwx := HX1.out.trans hE9; (repeat' (first | (with_reducible assumption) | (with_reducible exact Wb.Ext.refl _) | (with_reducible refine Wb.Ext.drew ?_) | (with_reducible refine Wb.Ext.drewN ?_ _) | (with_reducible refine Wb.Ext.alloc ?_ _) | (with_reducible refine Wb.ext_set ?_ (by first | assumption | (simp; done) | (simp; omega) | omega) _) | (with_reducible refine Wb.Ext.trans ?_ (by assumption))))) (by (repeat' (first | (with_reducible exact Kept.refl) | (with_reducible refine Kept.alloc' ?_ _) | (with_reducible refine Kept.setj ?_ ?_) | ((try dsimp only); omega)))) mn (by (try dsimp only); omega) (by omega) (by omega) (by go_simp) (by go_simp) (by go_simp) (by intro j; go_simp) (by go_simp)⟩
end Go.Proofs.YtnefdpnolojojaaGreatDoor
