/- Run27 -/
import Derived.Test.YtnefdpnolojojaaGreatDoorMRd
import Derived.Test.YtnefdpnolojojaaGreatDoorRun26
import Derived.BigQuiet
namespace Go.Proofs.YtnefdpnolojojaaGreatDoor
open Go.RowKit Go.Sort Go.Lib Go.Maps
set_option maxRecDepth 8000
attribute [local go_sem ↓] Go.wp_at_zero Go.wp_at_succ
attribute [local irreducible] insW NewM
def awJ3 (j : Nat) : Bool := j != 7 && j != 8 && j != 9 && j != 10 && j != 11 && j != 13 && j != 14 && j != 15
def awD3 (j : Nat) : Bool := j == 7 || j == 8 || j == 9 || j == 10 || j == 11 || j == 13 || j == 14 || j == 15
theorem awD3_lt : ∀ d, awD3 d = true → d < 16 := fun d h => by
 unfold awD3 at h
 simp at h
 omega
noncomputable def awR3 : Code := ((Tryz.f10.body.bind (findReg 3)).getD .skip)
theorem smap_more {W1 W : World} {M : Nat} {F G : Nat → Prop} (h : Pre2 W1 W M F) (k : ∀ q, q < W.heap.size → F q → G q) : ∃ f, SMapF G W (some M) 1 f (oneS [Wb.salC 2024 1 9000, Wb.salC 2024 2 10000]) ∧ KeysAre kU32 f [1] := by
 obtain ⟨⟨f, h1, h2⟩, _⟩ := h
 exact ⟨f, h1.mono k, h2⟩
set_option maxHeartbeats 100000000 in
theorem aw3 (x4 x5 x6 x7 x8 x9 x10 x11 x12 x13 x14 x15 x16 x17 x18 x19 x20 x21 x22 x23 x24 x25 x26 x27 x28 x29 x30 x31 x32 x33 x34 x35 x36 x37 x38 x39 x40 x41 x42 x43 x44 x45 x46 x47 x48 x49 x50 x51 x52 x53 x54 x55 x56 x57 x58 x59 x60 x61 x62 x63 x64 x65 x66 x67 x68 x69 x70 x71 x72 x73 x74 : Value) (ds) (w W1 : World) (A X n0 : Nat) (h : CutP w A n0 X Wb.B1 [1] 1 Wb.R1 W1) (hwA : w.heap.size ≤ A) :
  Code.wp Tryz.prog awR3 (OnEnd fun a' w' => ∃ (Y : Nat) (u16 u17 u18 u19 u20 u21 u22 u23 u24 u25 u26 : Value), a' = ⟨#[.bool false, .pointer (some ⟨A, 0, none⟩), .pointer (some ⟨X, 0, none⟩), .int .i64 0, .pointer (some ⟨Y, 0, none⟩), .int .i64 0, x6, x7, x8, x9, x10, x11, x12, x13, x14, x15, u16, u17, u18, u19, u20, u21, u22, u23, u24, u25, u26, x27, x28, x29, x30, x31, x32, x33, x34, x35, x36, x37, x38, x39, x40, x41, x42, x43, x44, x45, x46, x47, x48, x49, x50, x51, x52, x53, x54, x55, x56, x57, x58, x59, x60, x61, x62, x63, x64, x65, x66, x67, x68, x69, x70, x71, x72, x73, x74], ds⟩ ∧ CutP w A W1.heap.size Y Wb.B2 [1, 1] 3 Wb.R2 w' ∧ Kept (fun q => q ≠ A) W1 w') ⟨#[.bool false, .pointer (some ⟨A, 0, none⟩), .pointer (some ⟨X, 0, none⟩), .int .i64 0, x4, x5, x6, x7, x8, x9, x10, x11, x12, x13, x14, x15, x16, x17, x18, x19, x20, x21, x22, x23, x24, x25, x26, x27, x28, x29, x30, x31, x32, x33, x34, x35, x36, x37, x38, x39, x40, x41, x42, x43, x44, x45, x46, x47, x48, x49, x50, x51, x52, x53, x54, x55, x56, x57, x58, x59, x60, x61, x62, x63, x64, x65, x66, x67, x68, x69, x70, x71, x72, x73, x74], ds⟩ W1 := by
 obtain ⟨ra, rl, rc, mp, mo, pa, pc, prows, hXA, -, hXs, hAs, a0, a1, a2, af, -, hBK, -, -, hx1⟩ := h
 have HX1 := Lib.hid hx1
 have HBK := Lib.hid hBK
 clear hx1 hBK
 have hmm := @run_makeMap Tryz.prog
 have hmu := ins_run
 have hNa : ∀ (W : World) (o : Obj) (M : Nat), NewM W M → NewM (W.alloc o) M := fun W o M h => h.ext ((Wb.Ext.refl _).alloc o)
 have hNb : ∀ (W : World) (o o2 : Obj) (M : Nat), NewM W M → NewM ((W.alloc o).alloc o2) M := fun W o o2 M h => hNa _ _ _ (hNa _ _ _ h)
 have hNd : ∀ (W : World) (M : Nat), NewM W M → NewM W.drew M := fun W M h => h.ext (Wb.Ext.drew (.refl _))
 have hN0 : ∀ W : World, NewM (W.alloc (.map #[] 0)) W.heap.size := newM_made
 have hN1 : ∀ (W : World) o, NewM ((W.alloc o).alloc (.map #[] 0)) (W.heap.size + 1) := fun W o => by have := newM_made (W.alloc o); simpa using this
 have hN2 : ∀ (W : World) o o2, NewM (((W.alloc o).alloc o2).alloc (.map #[] 0)) (W.heap.size + 2) := fun W o o2 => by have := newM_made ((W.alloc o).alloc o2); simpa using this
 have r0 : ∀ x, Wb.Ext W1 x → x.cell? ⟨A, 0, none⟩ = some (.slice ra rl rc) := fun x h => h.keep a0
 have r1 : ∀ x, Wb.Ext W1 x → x.cell? ⟨A, 1, none⟩ = some (.map mp) := fun x h => h.keep a1
 have r2 : ∀ x, Wb.Ext W1 x → x.cell? ⟨A, 2, none⟩ = some (.map mo) := fun x h => h.keep a2
 have HS := Lib.hid (show ∀ W, Wb.Ext W1 W → Calls Tryz.prog 36 #[.int .i64 2024, .int .i64 1, .int .i64 9000] W fun e w' => ∃ g, e = .returned (.agg #[.int .i64 2024, .int .i64 1, .slice (some ⟨g, 0, none⟩) 1 1]) ∧ w'.cell? ⟨A, 0, none⟩ = some (.slice ra rl rc) ∧ w'.cell? ⟨A, 1, none⟩ = some (.map mp) ∧ w'.cell? ⟨A, 2, none⟩ = some (.map mo) ∧ (∀ j, w'.frozen? ⟨A, j, none⟩ = false) ∧ A < w'.heap.size ∧
   (∀ M, NewM W M → NewM w' M) ∧ Hid (LnsC w' (.slice (some ⟨g, 0, none⟩) 1 1) (salL 9000)) ∧ Wb.Ext W1 w' ∧ W.heap.size ≤ g ∧ g < w'.heap.size ∧ Wb.Ext W w' from fun W hW => by
  refine (some31_any 2024 1 9000 W).mono ?_
  rintro e w' ⟨g, rfl, hl, hg1, hg2, hx⟩
  have hE := hW.trans hx
  exact ⟨g, rfl, hE.keep a0, hE.keep a1, hE.keep a2, (fun j => (hE.cells.2 _ _ hAs).trans (af j)), Nat.lt_of_lt_of_le hAs hE.size, (fun M h => h.ext hx), Lib.hid hl, hE, hg1, hg2, hx⟩)
 have HT := Lib.hid (show ∀ W, Wb.Ext W1 W → Calls Tryz.prog 36 #[.int .i64 2024, .int .i64 2, .int .i64 10000] W fun e w' => ∃ g, e = .returned (.agg #[.int .i64 2024, .int .i64 2, .slice (some ⟨g, 0, none⟩) 1 1]) ∧ w'.cell? ⟨A, 0, none⟩ = some (.slice ra rl rc) ∧ w'.cell? ⟨A, 1, none⟩ = some (.map mp) ∧ w'.cell? ⟨A, 2, none⟩ = some (.map mo) ∧ (∀ j, w'.frozen? ⟨A, j, none⟩ = false) ∧ A < w'.heap.size ∧
   (∀ M, NewM W M → NewM w' M) ∧ Hid (LnsC w' (.slice (some ⟨g, 0, none⟩) 1 1) (salL 10000)) ∧ Wb.Ext W1 w' ∧ W.heap.size ≤ g ∧ g < w'.heap.size ∧ Wb.Ext W w' from fun W hW => by
  refine (some31_any 2024 2 10000 W).mono ?_
  rintro e w' ⟨g, rfl, hl, hg1, hg2, hx⟩
  have hE := hW.trans hx
  exact ⟨g, rfl, hE.keep a0, hE.keep a1, hE.keep a2, (fun j => (hE.cells.2 _ _ hAs).trans (af j)), Nat.lt_of_lt_of_le hAs hE.size, (fun M h => h.ext hx), Lib.hid hl, hE, hg1, hg2, hx⟩)
 have HDO := Lib.hid (show ∀ W M B g k, Pre2 W1 W M (fun q => q = M ∨ q = B ∨ q = g ∨ q = k) → Calls Tryz.prog 5 #[.agg #[.slice ra rl rc, .map mp, .map mo], .int .i64 2024, .int .i64 2, .int .i64 0, .map (some M)] W fun e w' => ∃ ra' rl' rc' mp' mo' qa qc rows n, e = .returned (.tuple #[.agg #[.slice ra' rl' rc', .map mp', .map mo'], .agg #[.int .i64 2, .int .i64 2024, .int .i64 2, .int .i64 0, .slice qa 1 qc], .int .i64 0]) ∧ w'.cell? ⟨A, 0, none⟩ = some (.slice ra rl rc) ∧ w'.cell? ⟨A, 1, none⟩ = some (.map mp) ∧ w'.cell? ⟨A, 2, none⟩ = some (.map mo) ∧ (∀ j, w'.frozen? ⟨A, j, none⟩ = false) ∧ A < w'.heap.size ∧ A < n ∧ n = W.heap.size ∧ n ≤ w'.heap.size ∧
   Hid (BkF (fun q => q < n → (q ≠ A ∧ q < W1.heap.size) ∨ q = M ∨ q = B ∨ q = g ∨ q = k) w' (.slice ra' rl' rc') mp' mo' Wb.B2 [1, 1] 3 ∧ (∀ w2, Kept (fun q => q < n → (q ≠ A ∧ q < W1.heap.size) ∨ q = M ∨ q = B ∨ q = g ∨ q = k) w' w2 → RowsM w2 (.slice qa 1 qc) rows) ∧ rows.map RwM.c = [Wb.R2]) ∧ Wb.Ext W1 w' ∧ Wb.Ext W w' from fun W M B g k hM => by
  refine (awake_do2 (fun q => (q ≠ A ∧ q < W1.heap.size) ∨ q = M ∨ q = B ∨ q = g ∨ q = k) W M (.slice ra rl rc) mp mo ((HBK.out.mono (fun q h1 h2 => .inl ⟨h2, h1⟩)).kept (.ext hM.2)) (smap_more hM (fun q _ h => .inr h))).mono ?_
  rintro e w' ⟨rv', mp', mo', r, rfl, hb, hr, hc, hx⟩
  obtain ⟨ra', rc', rfl⟩ := hb.now.shape
  have hr0 := hr w' .refl
  obtain ⟨qa, qc, hq⟩ := hr0.tab.shape
  have hl : r.rows.length = 1 := by have := congrArg List.length hc; simpa using this
  rw [hl] at hq
  have hE := hM.2.trans hx
  exact ⟨ra', _, rc', mp', mo', qa, qc, r.rows, W.heap.size, by rw [hq]; rfl, hE.keep a0, hE.keep a1, hE.keep a2, (fun j => (hE.cells.2 _ _ hAs).trans (af j)), Nat.lt_of_lt_of_le hAs hE.size, Nat.lt_of_lt_of_le hAs hM.2.size, rfl, hx.size, Lib.hid ⟨hb, (fun w2 h2 => by rw [← hq]; exact hr w2 h2), hc⟩, hE, hx⟩)
 conv => arg 2; whnf
 refine startJ (S := Wb.Ext W1) (J := awJ3) (n := 16) (l := #[false, false, false, false, false, false, false, false, false, false, false, false, false, false, false, false]) (by kernel_rfl) (by kernel_rfl) (by kernel_rfl) ?_
 have hHeld := Wb.Ext.drew (.refl W1)
 refine tJ awD3 0 (awD3_lt) ?_
 refine o3J 1 2 12 ?_ ?_ ?_
 intro K hK
 go_simp
 refine psJ hK (hHeld.alloc _) fun hHeld => ?_
 clear hK K
 refine o2J 2 12 ?_ ?_
 intro K hK
 go_simp
 go_at_call 36
 refine (HS.out _ hHeld).mono ?_
 rintro e w' ⟨g, rfl, k0, k1, k2, kf, kl, kn, hG, hE1, hg1, hg2, hx⟩
 (try simp [go_sem] at hg1)
 have n0 := kn _ (hNd _ _ (hN0 _))
 (try go_simp)
 refine psJ hK hE1 fun hHeld => ?_
 clear hK K
 refine o2J 3 12 ?_ ?_
 intro K hK
 go_simp
 go_at_call 36
 refine (HT.out _ hHeld).mono ?_
 rintro e w5 ⟨k, rfl, k0, k1, k2, kf, kl, kn5, hK2, hE5, hk1, hk2, hx5⟩
 have hw5 := Wb.Ext.trans (Wb.Ext.refl w') hx5
 (try simp [go_sem] at hk1)
 have n2 := kn5 _ (n0)
 (try go_simp)
 refine psJ hK hE5 fun hHeld => ?_
 clear hK K
 refine o2J 4 12 ?_ ?_
 intro K hK
 go_simp
 refine psJ hK (hHeld.alloc _) fun hHeld => ?_
 clear hK K
 refine o2J 5 12 ?_ ?_
 intro K hK
 go_simp
 have hY := hHeld
 refine psJ hK (ext_ins hHeld (hNa _ _ _ (n2)) (by omega)) fun hHeld => ?_
 clear hK K
 refine tJ awD3 6 (awD3_lt) ?_
 refine o2J 7 12 ?_ ?_
 intro K hK
 go_simp
 go_at_call 5
 refine (HDO.out _ _ _ _ _ (pre2_ins (g := g) (k2 := k) hY (hw5.alloc _) ((Wb.Ext.refl _).alloc _) (hNa _ _ _ (n2)) (by omega) (by omega) (by omega) (by omega) hG.out hK2.out ⟨by simp [go_sem], by simp [go_sem], by simp [go_sem]⟩ ⟨by simp [go_sem], by simp [go_sem], by simp [go_sem]⟩)).mono ?_
 rintro e w9 ⟨ra', rl', rc', mp', mo', qa, qc, rows, n, rfl, m0, m1, m2, mf, ml, mn, hn, hnl, hFIN, hE9, hx9⟩
 have hs9 := hE9.size
 (try go_simp)
 refine psD hK ?_
 clear hK K
 refine pJ 8 ?_
 refine pJ 9 ?_
 refine pJ 10 ?_
 refine pJ 11 ?_
 refine o1J 12 ?_
 intro K hK
 go_simp
 refine psJ hK (hE9.alloc _) fun hHeld => ?_
 clear hK K
 refine o1J 13 ?_
 intro K hK
 go_simp
 refine psD hK ?_
 clear hK K
 refine o1J 14 ?_
 intro K hK
 go_simp
 refine psD hK ?_
 clear hK K
 refine o1J 15 ?_
 intro K hK
 go_simp
 refine psD hK ?_
 clear hK K
 refine doneJ (by kernel_rfl) ?_ _
 rotate_left
 intro K hK
 go_simp
 refine psJ hK (hHeld.alloc _) fun hHeld => ?_
 clear hK K
 refine o1J 7 ?_
 intro K hK
 go_simp
 go_at_call 5
 refine (HDO.out _ _ _ _ _ (Pre2.alloc (pre2_ins (g := g) (k2 := k) hY (hw5.alloc _) ((Wb.Ext.refl _).alloc _) (hNa _ _ _ (n2)) (by omega) (by omega) (by omega) (by omega) hG.out hK2.out ⟨by simp [go_sem], by simp [go_sem], by simp [go_sem]⟩ ⟨by simp [go_sem], by simp [go_sem], by simp [go_sem]⟩) _)).mono ?_
 rintro e w9 ⟨ra', rl', rc', mp', mo', qa, qc, rows, n, rfl, m0, m1, m2, mf, ml, mn, hn, hnl, hFIN, hE9, hx9⟩
 have hs9 := hE9.size
 refine boxa_cut (A := A) hn hx9 (hNa _ _ _ (n2)) (by simp <;> omega) ?_
 intro nA1 nA2 nA3 hns hXn bz9
 (try simp at hns)
 have bz2 := bz9
 obtain ⟨q0, q1, q2, q3, q4, qf⟩ := bz2
 (try go_simp)
 refine psD hK ?_
 clear hK K
 refine pJ 8 ?_
 refine pJ 9 ?_
 refine pJ 10 ?_
 refine pJ 11 ?_
 refine o1J 13 ?_
 intro K hK
 go_simp
 refine psD hK ?_
 clear hK K
 refine o1J 14 ?_
 intro K hK
 go_simp
 refine psD hK ?_
 clear hK K
 refine o1J 15 ?_
 intro K hK
 go_simp
 refine psD hK ?_
 clear hK K
 refine doneJ (by kernel_rfl) ?_ _
 rotate_left
 intro K hK
 go_simp
 refine psJ hK (hHeld.alloc _) fun hHeld => ?_
 clear hK K
 refine o1J 5 ?_
 intro K hK
 go_simp
 have hY := hHeld
 refine psJ hK (ext_ins hHeld (hNb _ _ _ _ (n2)) (by omega)) fun hHeld => ?_
 clear hK K
 refine tJ awD3 6 (awD3_lt) ?_
 refine o1J 7 ?_
 intro K hK
 go_simp
 go_at_call 5
 refine (HDO.out _ _ _ _ _ (pre2_ins (g := g) (k2 := k) hY ((hw5.alloc _).alloc _) (((Wb.Ext.refl _).alloc _).alloc _) (hNb _ _ _ _ (n2)) (by omega) (by omega) (by omega) (by omega) hG.out hK2.out ⟨by simp [go_sem], by simp [go_sem], by simp [go_sem]⟩ ⟨by simp [go_sem], by simp [go_sem], by simp [go_sem]⟩)).mono ?_
 rintro e w9 ⟨ra', rl', rc', mp', mo', qa, qc, rows, n, rfl, m0, m1, m2, mf, ml, mn, hn, hnl, hFIN, hE9, hx9⟩
 have hs9 := hE9.size
 refine boxi_cut (X := w5.heap.size + 1) hn hx9 (hNb _ _ _ _ (n2)) (by simp [BoxZ, go_sem]) ?_
 intro hXn bz9
 have bz2 := bz9
 obtain ⟨q0, q1, q2, q3, q4, qf⟩ := bz2
 (try go_simp)
 refine psD hK ?_
 clear hK K
 refine pJ 8 ?_
 refine pJ 9 ?_
 refine pJ 10 ?_
 refine pJ 11 ?_
 refine o1J 13 ?_
 intro K hK
 go_simp
 refine psD hK ?_
 clear hK K
 refine o1J 14 ?_
 intro K hK
 go_simp
 refine psD hK ?_
 clear hK K
 refine o1J 15 ?_
 intro K hK
 go_simp
 refine psD hK ?_
 clear hK K
 refine doneJ (by kernel_rfl) ?_ _
 rotate_left
 intro K hK
 go_simp
 refine psJ hK (hHeld.alloc _) fun hHeld => ?_
 clear hK K
 refine o1J 4 ?_
 intro K hK
 go_simp
 refine psJ hK (hHeld.alloc _) fun hHeld => ?_
 clear hK K
 refine o1J 5 ?_
 intro K hK
 go_simp
 have hY := hHeld
 refine psJ hK (ext_ins hHeld (hNb _ _ _ _ (n2)) (by omega)) fun hHeld => ?_
 clear hK K
 refine tJ awD3 6 (awD3_lt) ?_
 refine o1J 7 ?_
 intro K hK
 go_simp
 go_at_call 5
 refine (HDO.out _ _ _ _ _ (pre2_ins (g := g) (k2 := k) hY ((hw5.alloc _).alloc _) (((Wb.Ext.refl _).alloc _).alloc _) (hNb _ _ _ _ (n2)) (by omega) (by omega) (by omega) (by omega) hG.out hK2.out ⟨by simp [go_sem], by simp [go_sem], by simp [go_sem]⟩ ⟨by simp [go_sem], by simp [go_sem], by simp [go_sem]⟩)).mono ?_
 rintro e w9 ⟨ra', rl', rc', mp', mo', qa, qc, rows, n, rfl, m0, m1, m2, mf, ml, mn, hn, hnl, hFIN, hE9, hx9⟩
 have hs9 := hE9.size
 refine boxi_cut (X := w5.heap.size) hn hx9 (hNb _ _ _ _ (n2)) (by simp [BoxZ, go_sem]) ?_
 intro hXn bz9
 have bz2 := bz9
 obtain ⟨q0, q1, q2, q3, q4, qf⟩ := bz2
 (try go_simp)
 refine psD hK ?_
 clear hK K
 refine pJ 8 ?_
 refine pJ 9 ?_
 refine pJ 10 ?_
 refine pJ 11 ?_
 refine o1J 13 ?_
 intro K hK
 go_simp
 refine psD hK ?_
 clear hK K
 refine o1J 14 ?_
 intro K hK
 go_simp
 refine psD hK ?_
 clear hK K
 refine o1J 15 ?_
 intro K hK
 go_simp
 refine psD hK ?_
 clear hK K
 refine doneJ (by kernel_rfl) ?_ _
 rotate_left
 intro K hK
 go_simp
 refine psJ hK (hHeld.alloc _) fun hHeld => ?_
 clear hK K
 refine o1J 3 ?_
 intro K hK
 go_simp
 go_at_call 36
 refine (HT.out _ hHeld).mono ?_
 rintro e w5 ⟨k, rfl, k0, k1, k2, kf, kl, kn5, hK2, hE5, hk1, hk2, hx5⟩
 have hw5 := Wb.Ext.trans ((Wb.Ext.refl w').alloc _) hx5
 (try simp [go_sem] at hk1)
 have n2 := kn5 _ (hNa _ _ _ (n0))
 have bz := BoxZ.ext (X := w'.heap.size) (by simp [BoxZ, go_sem]) hx5
 have lbz := bz.lt
 (try go_simp)
 refine psJ hK hE5 fun hHeld => ?_
 clear hK K
 refine o1J 4 ?_
 intro K hK
 go_simp
 refine psJ hK (hHeld.alloc _) fun hHeld => ?_
 clear hK K
 refine o1J 5 ?_
 intro K hK
 go_simp
 have hY := hHeld
 refine psJ hK (ext_ins hHeld (hNa _ _ _ (n2)) (by omega)) fun hHeld => ?_
 clear hK K
 refine tJ awD3 6 (awD3_lt) ?_
 refine o1J 7 ?_
 intro K hK
 go_simp
 go_at_call 5
 refine (HDO.out _ _ _ _ _ (pre2_ins (g := g) (k2 := k) hY (hw5.alloc _) ((Wb.Ext.refl _).alloc _) (hNa _ _ _ (n2)) (by omega) (by omega) (by omega) (by omega) hG.out hK2.out ⟨by simp [go_sem], by simp [go_sem], by simp [go_sem]⟩ ⟨by simp [go_sem], by simp [go_sem], by simp [go_sem]⟩)).mono ?_
 rintro e w9 ⟨ra', rl', rc', mp', mo', qa, qc, rows, n, rfl, m0, m1, m2, mf, ml, mn, hn, hnl, hFIN, hE9, hx9⟩
 have hs9 := hE9.size
 refine boxi_cut hn hx9 (hNa _ _ _ (n2)) (bz.ext ((Wb.Ext.refl _).alloc _)) ?_
 intro hXn bz9
 have bz2 := bz9
 obtain ⟨q0, q1, q2, q3, q4, qf⟩ := bz2
 (try go_simp)
 refine psD hK ?_
 clear hK K
 refine pJ 8 ?_
 refine pJ 9 ?_
 refine pJ 10 ?_
 refine pJ 11 ?_
 refine o1J 13 ?_
 intro K hK
 go_simp
 refine psD hK ?_
 clear hK K
 refine o1J 14 ?_
 intro K hK
 go_simp
 refine psD hK ?_
 clear hK K
 refine o1J 15 ?_
 intro K hK
 go_simp
 refine psD hK ?_
 clear hK K
 refine doneJ (by kernel_rfl) ?_ _
 rotate_left
 intro K hK
 go_simp
 refine psJ hK (hHeld.alloc _) fun hHeld => ?_
 clear hK K
 refine o1J 2 ?_
 intro K hK
 go_simp
 go_at_call 36
 refine (HS.out _ hHeld).mono ?_
 rintro e w' ⟨g, rfl, k0, k1, k2, kf, kl, kn, hG, hE1, hg1, hg2, hx⟩
 (try simp [go_sem] at hg1)
 have n0 := kn _ (hNd _ _ (hNa _ _ _ (hN0 _)))
 have bz := BoxZ.ext (X := W1.heap.size + 1) (by simp [BoxZ, go_sem]) hx
 have lbz := bz.lt
 (try go_simp)
 refine psJ hK hE1 fun hHeld => ?_
 clear hK K
 refine o1J 3 ?_
 intro K hK
 go_simp
 go_at_call 36
 refine (HT.out _ hHeld).mono ?_
 rintro e w5 ⟨k, rfl, k0, k1, k2, kf, kl, kn5, hK2, hE5, hk1, hk2, hx5⟩
 have hw5 := Wb.Ext.trans (Wb.Ext.refl w') hx5
 (try simp [go_sem] at hk1)
 have n2 := kn5 _ (n0)
 have bz2 := BoxZ.ext bz hw5
 clear bz lbz
 have bz := bz2
 clear bz2
 have lbz := bz.lt
 (try go_simp)
 refine psJ hK hE5 fun hHeld => ?_
 clear hK K
 refine o1J 4 ?_
 intro K hK
 go_simp
 refine psJ hK (hHeld.alloc _) fun hHeld => ?_
 clear hK K
 refine o1J 5 ?_
 intro K hK
 go_simp
 have hY := hHeld
 refine psJ hK (ext_ins hHeld (hNa _ _ _ (n2)) (by omega)) fun hHeld => ?_
 clear hK K
 refine tJ awD3 6 (awD3_lt) ?_
 refine o1J 7 ?_
 intro K hK
 go_simp
 go_at_call 5
 refine (HDO.out _ _ _ _ _ (pre2_ins (g := g) (k2 := k) hY (hw5.alloc _) ((Wb.Ext.refl _).alloc _) (hNa _ _ _ (n2)) (by omega) (by omega) (by omega) (by omega) hG.out hK2.out ⟨by simp [go_sem], by simp [go_sem], by simp [go_sem]⟩ ⟨by simp [go_sem], by simp [go_sem], by simp [go_sem]⟩)).mono ?_
 rintro e w9 ⟨ra', rl', rc', mp', mo', qa, qc, rows, n, rfl, m0, m1, m2, mf, ml, mn, hn, hnl, hFIN, hE9, hx9⟩
 have hs9 := hE9.size
 refine boxi_cut hn hx9 (hNa _ _ _ (n2)) (bz.ext ((Wb.Ext.refl _).alloc _)) ?_
 intro hXn bz9
 have bz2 := bz9
 obtain ⟨q0, q1, q2, q3, q4, qf⟩ := bz2
 (try go_simp)
 refine psD hK ?_
 clear hK K
 refine pJ 8 ?_
 refine pJ 9 ?_
 refine pJ 10 ?_
 refine pJ 11 ?_
 refine o1J 13 ?_
 intro K hK
 go_simp
 refine psD hK ?_
 clear hK K
 refine o1J 14 ?_
 intro K hK
 go_simp
 refine psD hK ?_
 clear hK K
 refine o1J 15 ?_
 intro K hK
 go_simp
 refine psD hK ?_
 clear hK K
 refine doneJ (by kernel_rfl) ?_ _
 rotate_left
 intro K hK
 go_simp
 go_at_call 36
 refine (HS.out _ hHeld).mono ?_
 rintro e w' ⟨g, rfl, k0, k1, k2, kf, kl, kn, hG, hE1, hg1, hg2, hx⟩
 (try simp [go_sem] at hg1)
 (try go_simp)
 refine psJ hK hE1 fun hHeld => ?_
 clear hK K
 refine o3J 1 3 12 ?_ ?_ ?_
 intro K hK
 go_simp
 refine psJ hK (hHeld.alloc _) fun hHeld => ?_
 clear hK K
 refine o2J 3 12 ?_ ?_
 intro K hK
 go_simp
 go_at_call 36
 refine (HT.out _ hHeld).mono ?_
 rintro e w5 ⟨k, rfl, k0, k1, k2, kf, kl, kn5, hK2, hE5, hk1, hk2, hx5⟩
 have hw5 := Wb.Ext.trans ((Wb.Ext.refl w').alloc _) hx5
 (try simp [go_sem] at hk1)
 have n2 := kn5 _ (hN0 _)
 (try go_simp)
 refine psJ hK hE5 fun hHeld => ?_
 clear hK K
 refine o2J 4 12 ?_ ?_
 intro K hK
 go_simp
 refine psJ hK (hHeld.alloc _) fun hHeld => ?_
 clear hK K
 refine o2J 5 12 ?_ ?_
 intro K hK
 go_simp
 have hY := hHeld
 refine psJ hK (ext_ins hHeld (hNa _ _ _ (n2)) (by omega)) fun hHeld => ?_
 clear hK K
 refine tJ awD3 6 (awD3_lt) ?_
 refine o2J 7 12 ?_ ?_
 intro K hK
 go_simp
 go_at_call 5
 refine (HDO.out _ _ _ _ _ (pre2_ins (g := g) (k2 := k) hY (hw5.alloc _) ((Wb.Ext.refl _).alloc _) (hNa _ _ _ (n2)) (by omega) (by omega) (by omega) (by omega) hG.out hK2.out ⟨by simp [go_sem], by simp [go_sem], by simp [go_sem]⟩ ⟨by simp [go_sem], by simp [go_sem], by simp [go_sem]⟩)).mono ?_
 rintro e w9 ⟨ra', rl', rc', mp', mo', qa, qc, rows, n, rfl, m0, m1, m2, mf, ml, mn, hn, hnl, hFIN, hE9, hx9⟩
 have hs9 := hE9.size
 (try go_simp)
 refine psD hK ?_
 clear hK K
 refine pJ 8 ?_
 refine pJ 9 ?_
 refine pJ 10 ?_
 refine pJ 11 ?_
 refine o1J 12 ?_
 intro K hK
 go_simp
 refine psJ hK (hE9.alloc _) fun hHeld => ?_
 clear hK K
 refine o1J 13 ?_
 intro K hK
 go_simp
 refine psD hK ?_
 clear hK K
 refine o1J 14 ?_
 intro K hK
 go_simp
 refine psD hK ?_
 clear hK K
 refine o1J 15 ?_
 intro K hK
 go_simp
 refine psD hK ?_
 clear hK K
 refine doneJ (by kernel_rfl) ?_ _
 rotate_left
 intro K hK
 go_simp
 refine psJ hK (hHeld.alloc _) fun hHeld => ?_
 clear hK K
 refine o1J 7 ?_
 intro K hK
 go_simp
 go_at_call 5
 refine (HDO.out _ _ _ _ _ (Pre2.alloc (pre2_ins (g := g) (k2 := k) hY (hw5.alloc _) ((Wb.Ext.refl _).alloc _) (hNa _ _ _ (n2)) (by omega) (by omega) (by omega) (by omega) hG.out hK2.out ⟨by simp [go_sem], by simp [go_sem], by simp [go_sem]⟩ ⟨by simp [go_sem], by simp [go_sem], by simp [go_sem]⟩) _)).mono ?_
 rintro e w9 ⟨ra', rl', rc', mp', mo', qa, qc, rows, n, rfl, m0, m1, m2, mf, ml, mn, hn, hnl, hFIN, hE9, hx9⟩
 have hs9 := hE9.size
 refine boxa_cut (A := A) hn hx9 (hNa _ _ _ (n2)) (by simp <;> omega) ?_
 intro nA1 nA2 nA3 hns hXn bz9
 (try simp at hns)
 have bz2 := bz9
 obtain ⟨q0, q1, q2, q3, q4, qf⟩ := bz2
 (try go_simp)
 refine psD hK ?_
 clear hK K
 refine pJ 8 ?_
 refine pJ 9 ?_
 refine pJ 10 ?_
 refine pJ 11 ?_
 refine o1J 13 ?_
 intro K hK
 go_simp
 refine psD hK ?_
 clear hK K
 refine o1J 14 ?_
 intro K hK
 go_simp
 refine psD hK ?_
 clear hK K
 refine o1J 15 ?_
 intro K hK
 go_simp
 refine psD hK ?_
 clear hK K
 refine doneJ (by kernel_rfl) ?_ _
 rotate_left
 intro K hK
 go_simp
 refine psJ hK (hHeld.alloc _) fun hHeld => ?_
 clear hK K
 refine o1J 5 ?_
 intro K hK
 go_simp
 have hY := hHeld
 refine psJ hK (ext_ins hHeld (hNb _ _ _ _ (n2)) (by omega)) fun hHeld => ?_
 clear hK K
 refine tJ awD3 6 (awD3_lt) ?_
 refine o1J 7 ?_
 intro K hK
 go_simp
 go_at_call 5
 refine (HDO.out _ _ _ _ _ (pre2_ins (g := g) (k2 := k) hY ((hw5.alloc _).alloc _) (((Wb.Ext.refl _).alloc _).alloc _) (hNb _ _ _ _ (n2)) (by omega) (by omega) (by omega) (by omega) hG.out hK2.out ⟨by simp [go_sem], by simp [go_sem], by simp [go_sem]⟩ ⟨by simp [go_sem], by simp [go_sem], by simp [go_sem]⟩)).mono ?_
 rintro e w9 ⟨ra', rl', rc', mp', mo', qa, qc, rows, n, rfl, m0, m1, m2, mf, ml, mn, hn, hnl, hFIN, hE9, hx9⟩
 have hs9 := hE9.size
 refine boxi_cut (X := w5.heap.size + 1) hn hx9 (hNb _ _ _ _ (n2)) (by simp [BoxZ, go_sem]) ?_
 intro hXn bz9
 have bz2 := bz9
 obtain ⟨q0, q1, q2, q3, q4, qf⟩ := bz2
 (try go_simp)
 refine psD hK ?_
 clear hK K
 refine pJ 8 ?_
 refine pJ 9 ?_
 refine pJ 10 ?_
 refine pJ 11 ?_
 refine o1J 13 ?_
 intro K hK
 go_simp
 refine psD hK ?_
 clear hK K
 refine o1J 14 ?_
 intro K hK
 go_simp
 refine psD hK ?_
 clear hK K
 refine o1J 15 ?_
 intro K hK
 go_simp
 refine psD hK ?_
 clear hK K
 refine doneJ (by kernel_rfl) ?_ _
 rotate_left
 intro K hK
 go_simp
 refine psJ hK (hHeld.alloc _) fun hHeld => ?_
 clear hK K
 refine o1J 4 ?_
 intro K hK
 go_simp
 refine psJ hK (hHeld.alloc _) fun hHeld => ?_
 clear hK K
 refine o1J 5 ?_
 intro K hK
 go_simp
 have hY := hHeld
 refine psJ hK (ext_ins hHeld (hNb _ _ _ _ (n2)) (by omega)) fun hHeld => ?_
 clear hK K
 refine tJ awD3 6 (awD3_lt) ?_
 refine o1J 7 ?_
 intro K hK
 go_simp
 go_at_call 5
 refine (HDO.out _ _ _ _ _ (pre2_ins (g := g) (k2 := k) hY ((hw5.alloc _).alloc _) (((Wb.Ext.refl _).alloc _).alloc _) (hNb _ _ _ _ (n2)) (by omega) (by omega) (by omega) (by omega) hG.out hK2.out ⟨by simp [go_sem], by simp [go_sem], by simp [go_sem]⟩ ⟨by simp [go_sem], by simp [go_sem], by simp [go_sem]⟩)).mono ?_
 rintro e w9 ⟨ra', rl', rc', mp', mo', qa, qc, rows, n, rfl, m0, m1, m2, mf, ml, mn, hn, hnl, hFIN, hE9, hx9⟩
 have hs9 := hE9.size
 refine boxi_cut (X := w5.heap.size) hn hx9 (hNb _ _ _ _ (n2)) (by simp [BoxZ, go_sem]) ?_
 intro hXn bz9
 have bz2 := bz9
 obtain ⟨q0, q1, q2, q3, q4, qf⟩ := bz2
 (try go_simp)
 refine psD hK ?_
 clear hK K
 refine pJ 8 ?_
 refine pJ 9 ?_
 refine pJ 10 ?_
 refine pJ 11 ?_
 refine o1J 13 ?_
 intro K hK
 go_simp
 refine psD hK ?_
 clear hK K
 refine o1J 14 ?_
 intro K hK
 go_simp
 refine psD hK ?_
 clear hK K
 refine o1J 15 ?_
 intro K hK
 go_simp
 refine psD hK ?_
 clear hK K
 refine doneJ (by kernel_rfl) ?_ _
 rotate_left
 intro K hK
 go_simp
 refine psJ hK (hHeld.alloc _) fun hHeld => ?_
 clear hK K
 refine o1J 3 ?_
 intro K hK
 go_simp
 go_at_call 36
 refine (HT.out _ hHeld).mono ?_
 rintro e w5 ⟨k, rfl, k0, k1, k2, kf, kl, kn5, hK2, hE5, hk1, hk2, hx5⟩
 have hw5 := Wb.Ext.trans (((Wb.Ext.refl w').alloc _).alloc _) hx5
 (try simp [go_sem] at hk1)
 have n2 := kn5 _ (hNa _ _ _ (hN0 _))
 have bz := BoxZ.ext (X := w'.heap.size + 1) (by simp [BoxZ, go_sem]) hx5
 have lbz := bz.lt
 (try go_simp)
 refine psJ hK hE5 fun hHeld => ?_
 clear hK K
 refine o1J 4 ?_
 intro K hK
 go_simp
 refine psJ hK (hHeld.alloc _) fun hHeld => ?_
 clear hK K
 refine o1J 5 ?_
 intro K hK
 go_simp
 have hY := hHeld
 refine psJ hK (ext_ins hHeld (hNa _ _ _ (n2)) (by omega)) fun hHeld => ?_
 clear hK K
 refine tJ awD3 6 (awD3_lt) ?_
 refine o1J 7 ?_
 intro K hK
 go_simp
 go_at_call 5
 refine (HDO.out _ _ _ _ _ (pre2_ins (g := g) (k2 := k) hY (hw5.alloc _) ((Wb.Ext.refl _).alloc _) (hNa _ _ _ (n2)) (by omega) (by omega) (by omega) (by omega) hG.out hK2.out ⟨by simp [go_sem], by simp [go_sem], by simp [go_sem]⟩ ⟨by simp [go_sem], by simp [go_sem], by simp [go_sem]⟩)).mono ?_
 rintro e w9 ⟨ra', rl', rc', mp', mo', qa, qc, rows, n, rfl, m0, m1, m2, mf, ml, mn, hn, hnl, hFIN, hE9, hx9⟩
 have hs9 := hE9.size
 refine boxi_cut hn hx9 (hNa _ _ _ (n2)) (bz.ext ((Wb.Ext.refl _).alloc _)) ?_
 intro hXn bz9
 have bz2 := bz9
 obtain ⟨q0, q1, q2, q3, q4, qf⟩ := bz2
 (try go_simp)
 refine psD hK ?_
 clear hK K
 refine pJ 8 ?_
 refine pJ 9 ?_
 refine pJ 10 ?_
 refine pJ 11 ?_
 refine o1J 13 ?_
 intro K hK
 go_simp
 refine psD hK ?_
 clear hK K
 refine o1J 14 ?_
 intro K hK
 go_simp
 refine psD hK ?_
 clear hK K
 refine o1J 15 ?_
 intro K hK
 go_simp
 refine psD hK ?_
 clear hK K
 refine doneJ (by kernel_rfl) ?_ _
 rotate_left
 intro K hK
 go_simp
 go_at_call 36
 refine (HT.out _ hHeld).mono ?_
 rintro e w5 ⟨k, rfl, k0, k1, k2, kf, kl, kn5, hK2, hE5, hk1, hk2, hx5⟩
 have hw5 := Wb.Ext.trans (Wb.Ext.refl w') hx5
 (try simp [go_sem] at hk1)
 (try go_simp)
 refine psJ hK hE5 fun hHeld => ?_
 clear hK K
 refine o3J 1 4 12 ?_ ?_ ?_
 intro K hK
 go_simp
 refine psJ hK (hHeld.alloc _) fun hHeld => ?_
 clear hK K
 refine o2J 4 12 ?_ ?_
 intro K hK
 go_simp
 refine psJ hK (hHeld.alloc _) fun hHeld => ?_
 clear hK K
 refine o2J 5 12 ?_ ?_
 intro K hK
 go_simp
 have hY := hHeld
 refine psJ hK (ext_ins hHeld (hNa _ _ _ (hN0 _)) (by omega)) fun hHeld => ?_
 clear hK K
 refine tJ awD3 6 (awD3_lt) ?_
 refine o2J 7 12 ?_ ?_
 intro K hK
 go_simp
 go_at_call 5
 refine (HDO.out _ _ _ _ _ (pre2_ins (g := g) (k2 := k) hY ((hw5.alloc _).alloc _) (((Wb.Ext.refl _).alloc _).alloc _) (hNa _ _ _ (hN0 _)) (by omega) (by omega) (by omega) (by omega) hG.out hK2.out ⟨by simp [go_sem], by simp [go_sem], by simp [go_sem]⟩ ⟨by simp [go_sem], by simp [go_sem], by simp [go_sem]⟩)).mono ?_
 rintro e w9 ⟨ra', rl', rc', mp', mo', qa, qc, rows, n, rfl, m0, m1, m2, mf, ml, mn, hn, hnl, hFIN, hE9, hx9⟩
 have hs9 := hE9.size
 (try go_simp)
 refine psD hK ?_
 clear hK K
 refine pJ 8 ?_
 refine pJ 9 ?_
 refine pJ 10 ?_
 refine pJ 11 ?_
 refine o1J 12 ?_
 intro K hK
 go_simp
 refine psJ hK (hE9.alloc _) fun hHeld => ?_
 clear hK K
 refine o1J 13 ?_
 intro K hK
 go_simp
 refine psD hK ?_
 clear hK K
 refine o1J 14 ?_
 intro K hK
 go_simp
 refine psD hK ?_
 clear hK K
 refine o1J 15 ?_
 intro K hK
 go_simp
 refine psD hK ?_
 clear hK K
 refine doneJ (by kernel_rfl) ?_ _
 rotate_left
 intro K hK
 go_simp
 refine psJ hK (hHeld.alloc _) fun hHeld => ?_
 clear hK K
 refine o1J 7 ?_
 intro K hK
 go_simp
 go_at_call 5
 refine (HDO.out _ _ _ _ _ (Pre2.alloc (pre2_ins (g := g) (k2 := k) hY ((hw5.alloc _).alloc _) (((Wb.Ext.refl _).alloc _).alloc _) (hNa _ _ _ (hN0 _)) (by omega) (by omega) (by omega) (by omega) hG.out hK2.out ⟨by simp [go_sem], by simp [go_sem], by simp [go_sem]⟩ ⟨by simp [go_sem], by simp [go_sem], by simp [go_sem]⟩) _)).mono ?_
 rintro e w9 ⟨ra', rl', rc', mp', mo', qa, qc, rows, n, rfl, m0, m1, m2, mf, ml, mn, hn, hnl, hFIN, hE9, hx9⟩
 have hs9 := hE9.size
 refine boxa_cut (A := A) hn hx9 (hNa _ _ _ (hN0 _)) (by simp <;> omega) ?_
 intro nA1 nA2 nA3 hns hXn bz9
 (try simp at hns)
 have bz2 := bz9
 obtain ⟨q0, q1, q2, q3, q4, qf⟩ := bz2
 (try go_simp)
 refine psD hK ?_
 clear hK K
 refine pJ 8 ?_
 refine pJ 9 ?_
 refine pJ 10 ?_
 refine pJ 11 ?_
 refine o1J 13 ?_
 intro K hK
 go_simp
 refine psD hK ?_
 clear hK K
 refine o1J 14 ?_
 intro K hK
 go_simp
 refine psD hK ?_
 clear hK K
 refine o1J 15 ?_
 intro K hK
 go_simp
 refine psD hK ?_
 clear hK K
 refine doneJ (by kernel_rfl) ?_ _
 rotate_left
 intro K hK
 go_simp
 refine psJ hK (hHeld.alloc _) fun hHeld => ?_
 clear hK K
 refine o1J 5 ?_
 intro K hK
 go_simp
 have hY := hHeld
 refine psJ hK (ext_ins hHeld (hNb _ _ _ _ (hN0 _)) (by omega)) fun hHeld => ?_
 clear hK K
 refine tJ awD3 6 (awD3_lt) ?_
 refine o1J 7 ?_
 intro K hK
 go_simp
 go_at_call 5
 refine (HDO.out _ _ _ _ _ (pre2_ins (g := g) (k2 := k) hY (((hw5.alloc _).alloc _).alloc _) ((((Wb.Ext.refl _).alloc _).alloc _).alloc _) (hNb _ _ _ _ (hN0 _)) (by omega) (by omega) (by omega) (by omega) hG.out hK2.out ⟨by simp [go_sem], by simp [go_sem], by simp [go_sem]⟩ ⟨by simp [go_sem], by simp [go_sem], by simp [go_sem]⟩)).mono ?_
 rintro e w9 ⟨ra', rl', rc', mp', mo', qa, qc, rows, n, rfl, m0, m1, m2, mf, ml, mn, hn, hnl, hFIN, hE9, hx9⟩
 have hs9 := hE9.size
 refine boxi_cut (X := w5.heap.size + 2) hn hx9 (hNb _ _ _ _ (hN0 _)) (by simp [BoxZ, go_sem]) ?_
 intro hXn bz9
 have bz2 := bz9
 obtain ⟨q0, q1, q2, q3, q4, qf⟩ := bz2
 (try go_simp)
 refine psD hK ?_
 clear hK K
 refine pJ 8 ?_
 refine pJ 9 ?_
 refine pJ 10 ?_
 refine pJ 11 ?_
 refine o1J 13 ?_
 intro K hK
 go_simp
 refine psD hK ?_
 clear hK K
 refine o1J 14 ?_
 intro K hK
 go_simp
 refine psD hK ?_
 clear hK K
 refine o1J 15 ?_
 intro K hK
 go_simp
 refine psD hK ?_
 clear hK K
 refine doneJ (by kernel_rfl) ?_ _
 rotate_left
 intro K hK
 go_simp
 refine psJ hK (hHeld.alloc _) fun hHeld => ?_
 clear hK K
 refine o1J 4 ?_
 intro K hK
 go_simp
 refine psJ hK (hHeld.alloc _) fun hHeld => ?_
 clear hK K
 refine o1J 5 ?_
 intro K hK
 go_simp
 have hY := hHeld
 refine psJ hK (ext_ins hHeld (hNb _ _ _ _ (hN0 _)) (by omega)) fun hHeld => ?_
 clear hK K
 refine tJ awD3 6 (awD3_lt) ?_
 refine o1J 7 ?_
 intro K hK
 go_simp
 go_at_call 5
 refine (HDO.out _ _ _ _ _ (pre2_ins (g := g) (k2 := k) hY (((hw5.alloc _).alloc _).alloc _) ((((Wb.Ext.refl _).alloc _).alloc _).alloc _) (hNb _ _ _ _ (hN0 _)) (by omega) (by omega) (by omega) (by omega) hG.out hK2.out ⟨by simp [go_sem], by simp [go_sem], by simp [go_sem]⟩ ⟨by simp [go_sem], by simp [go_sem], by simp [go_sem]⟩)).mono ?_
 rintro e w9 ⟨ra', rl', rc', mp', mo', qa, qc, rows, n, rfl, m0, m1, m2, mf, ml, mn, hn, hnl, hFIN, hE9, hx9⟩
 have hs9 := hE9.size
 refine boxi_cut (X := w5.heap.size + 1) hn hx9 (hNb _ _ _ _ (hN0 _)) (by simp [BoxZ, go_sem]) ?_
 intro hXn bz9
 have bz2 := bz9
 obtain ⟨q0, q1, q2, q3, q4, qf⟩ := bz2
 (try go_simp)
 refine psD hK ?_
 clear hK K
 refine pJ 8 ?_
 refine pJ 9 ?_
 refine pJ 10 ?_
 refine pJ 11 ?_
 refine o1J 13 ?_
 intro K hK
 go_simp
 refine psD hK ?_
 clear hK K
 refine o1J 14 ?_
 intro K hK
 go_simp
 refine psD hK ?_
 clear hK K
 refine o1J 15 ?_
 intro K hK
 go_simp
 refine psD hK ?_
 clear hK K
 refine doneJ (by kernel_rfl) ?_ _
 rotate_left
 intro K hK
 go_simp
 refine psJ hK (hHeld.alloc _) fun hHeld => ?_
 clear hK K
 refine o2J 1 12 ?_ ?_
 intro K hK
 go_simp
 refine psJ hK (hHeld.alloc _) fun hHeld => ?_
 clear hK K
 refine o2J 5 12 ?_ ?_
 intro K hK
 go_simp
 have hY := hHeld
 refine psJ hK (ext_ins hHeld (hN1 _ _) (by omega)) fun hHeld => ?_
 clear hK K
 refine tJ awD3 6 (awD3_lt) ?_
 refine o2J 7 12 ?_ ?_
 intro K hK
 go_simp
 go_at_call 5
 refine (HDO.out _ _ _ _ _ (pre2_ins (g := g) (k2 := k) hY ((hw5.alloc _).alloc _) (((Wb.Ext.refl _).alloc _).alloc _) (hN1 _ _) (by omega) (by omega) (by omega) (by omega) hG.out hK2.out ⟨by simp [go_sem], by simp [go_sem], by simp [go_sem]⟩ ⟨by simp [go_sem], by simp [go_sem], by simp [go_sem]⟩)).mono ?_
 rintro e w9 ⟨ra', rl', rc', mp', mo', qa, qc, rows, n, rfl, m0, m1, m2, mf, ml, mn, hn, hnl, hFIN, hE9, hx9⟩
 have hs9 := hE9.size
 (try go_simp)
 refine psD hK ?_
 clear hK K
 refine pJ 8 ?_
 refine pJ 9 ?_
 refine pJ 10 ?_
 refine pJ 11 ?_
 refine o1J 12 ?_
 intro K hK
 go_simp
 refine psJ hK (hE9.alloc _) fun hHeld => ?_
 clear hK K
 refine o1J 13 ?_
 intro K hK
 go_simp
 refine psD hK ?_
 clear hK K
 refine o1J 14 ?_
 intro K hK
 go_simp
 refine psD hK ?_
 clear hK K
 refine o1J 15 ?_
 intro K hK
 go_simp
 refine psD hK ?_
 clear hK K
 refine doneJ (by kernel_rfl) ?_ _
 rotate_left
 intro K hK
 go_simp
 refine psJ hK (hHeld.alloc _) fun hHeld => ?_
 clear hK K
 refine o1J 7 ?_
 intro K hK
 go_simp
 go_at_call 5
 refine (HDO.out _ _ _ _ _ (Pre2.alloc (pre2_ins (g := g) (k2 := k) hY ((hw5.alloc _).alloc _) (((Wb.Ext.refl _).alloc _).alloc _) (hN1 _ _) (by omega) (by omega) (by omega) (by omega) hG.out hK2.out ⟨by simp [go_sem], by simp [go_sem], by simp [go_sem]⟩ ⟨by simp [go_sem], by simp [go_sem], by simp [go_sem]⟩) _)).mono ?_
 rintro e w9 ⟨ra', rl', rc', mp', mo', qa, qc, rows, n, rfl, m0, m1, m2, mf, ml, mn, hn, hnl, hFIN, hE9, hx9⟩
 have hs9 := hE9.size
 refine boxa_cut (A := A) hn hx9 (hN1 _ _) (by simp <;> omega) ?_
 intro nA1 nA2 nA3 hns hXn bz9
 (try simp at hns)
 have bz2 := bz9
 obtain ⟨q0, q1, q2, q3, q4, qf⟩ := bz2
 (try go_simp)
 refine psD hK ?_
 clear hK K
 refine pJ 8 ?_
 refine pJ 9 ?_
 refine pJ 10 ?_
 refine pJ 11 ?_
 refine o1J 13 ?_
 intro K hK
 go_simp
 refine psD hK ?_
 clear hK K
 refine o1J 14 ?_
 intro K hK
 go_simp
 refine psD hK ?_
 clear hK K
 refine o1J 15 ?_
 intro K hK
 go_simp
 refine psD hK ?_
 clear hK K
 refine doneJ (by kernel_rfl) ?_ _
 rotate_left
 intro K hK
 go_simp
 refine psJ hK (hHeld.alloc _) fun hHeld => ?_
 clear hK K
 refine o1J 5 ?_
 intro K hK
 go_simp
 have hY := hHeld
 refine psJ hK (ext_ins hHeld (hNa _ _ _ (hN1 _ _)) (by omega)) fun hHeld => ?_
 clear hK K
 refine tJ awD3 6 (awD3_lt) ?_
 refine o1J 7 ?_
 intro K hK
 go_simp
 go_at_call 5
 refine (HDO.out _ _ _ _ _ (pre2_ins (g := g) (k2 := k) hY (((hw5.alloc _).alloc _).alloc _) ((((Wb.Ext.refl _).alloc _).alloc _).alloc _) (hNa _ _ _ (hN1 _ _)) (by omega) (by omega) (by omega) (by omega) hG.out hK2.out ⟨by simp [go_sem], by simp [go_sem], by simp [go_sem]⟩ ⟨by simp [go_sem], by simp [go_sem], by simp [go_sem]⟩)).mono ?_
 rintro e w9 ⟨ra', rl', rc', mp', mo', qa, qc, rows, n, rfl, m0, m1, m2, mf, ml, mn, hn, hnl, hFIN, hE9, hx9⟩
 have hs9 := hE9.size
 refine boxi_cut (X := w5.heap.size + 2) hn hx9 (hNa _ _ _ (hN1 _ _)) (by simp [BoxZ, go_sem]) ?_
 intro hXn bz9
 have bz2 := bz9
 obtain ⟨q0, q1, q2, q3, q4, qf⟩ := bz2
 (try go_simp)
 refine psD hK ?_
 clear hK K
 refine pJ 8 ?_
 refine pJ 9 ?_
 refine pJ 10 ?_
 refine pJ 11 ?_
 refine o1J 13 ?_
 intro K hK
 go_simp
 refine psD hK ?_
 clear hK K
 refine o1J 14 ?_
 intro K hK
 go_simp
 refine psD hK ?_
 clear hK K
 refine o1J 15 ?_
 intro K hK
 go_simp
 refine psD hK ?_
 clear hK K
 refine doneJ (by kernel_rfl) ?_ _
 rotate_left
 intro K hK
 go_simp
 refine psJ hK (hHeld.alloc _) fun hHeld => ?_
 clear hK K
 refine o1J 1 ?_
 intro K hK
 go_simp
 refine psJ hK (hHeld.alloc _) fun hHeld => ?_
 clear hK K
 refine o1J 5 ?_
 intro K hK
 go_simp
 have hY := hHeld
 refine psJ hK (ext_ins hHeld (hN2 _ _ _) (by omega)) fun hHeld => ?_
 clear hK K
 refine tJ awD3 6 (awD3_lt) ?_
 refine o1J 7 ?_
 intro K hK
 go_simp
 go_at_call 5
 refine (HDO.out _ _ _ _ _ (pre2_ins (g := g) (k2 := k) hY (((hw5.alloc _).alloc _).alloc _) ((((Wb.Ext.refl _).alloc _).alloc _).alloc _) (hN2 _ _ _) (by omega) (by omega) (by omega) (by omega) hG.out hK2.out ⟨by simp [go_sem], by simp [go_sem], by simp [go_sem]⟩ ⟨by simp [go_sem], by simp [go_sem], by simp [go_sem]⟩)).mono ?_
 rintro e w9 ⟨ra', rl', rc', mp', mo', qa, qc, rows, n, rfl, m0, m1, m2, mf, ml, mn, hn, hnl, hFIN, hE9, hx9⟩
 have hs9 := hE9.size
 refine boxi_cut (X := w5.heap.size + 1) hn hx9 (hN2 _ _ _) (by simp [BoxZ, go_sem]) ?_
 intro hXn bz9
 have bz2 := bz9
 obtain ⟨q0, q1, q2, q3, q4, qf⟩ := bz2
 (try go_simp)
 refine psD hK ?_
 clear hK K
 refine pJ 8 ?_
 refine pJ 9 ?_
 refine pJ 10 ?_
 refine pJ 11 ?_
 refine o1J 13 ?_
 intro K hK
 go_simp
 refine psD hK ?_
 clear hK K
 refine o1J 14 ?_
 intro K hK
 go_simp
 refine psD hK ?_
 clear hK K
 refine o1J 15 ?_
 intro K hK
 go_simp
 refine psD hK ?_
 clear hK K
 refine doneJ (by kernel_rfl) ?_ _
 rotate_left
 intro K hK
 go_simp
 refine psJ hK (hHeld.alloc _) fun hHeld => ?_
 clear hK K
 refine o2J 1 4 ?_ ?_
 intro K hK
 go_simp
 refine psJ hK (hHeld.alloc _) fun hHeld => ?_
 clear hK K
 refine o1J 4 ?_
 intro K hK
 go_simp
 refine psJ hK (hHeld.alloc _) fun hHeld => ?_
 clear hK K
 refine o1J 5 ?_
 intro K hK
 go_simp
 have hY := hHeld
 refine psJ hK (ext_ins hHeld (hNa _ _ _ (hN1 _ _)) (by omega)) fun hHeld => ?_
 clear hK K
 refine tJ awD3 6 (awD3_lt) ?_
 refine o1J 7 ?_
 intro K hK
 go_simp
 go_at_call 5
 refine (HDO.out _ _ _ _ _ (pre2_ins (g := g) (k2 := k) hY (((hw5.alloc _).alloc _).alloc _) ((((Wb.Ext.refl _).alloc _).alloc _).alloc _) (hNa _ _ _ (hN1 _ _)) (by omega) (by omega) (by omega) (by omega) hG.out hK2.out ⟨by simp [go_sem], by simp [go_sem], by simp [go_sem]⟩ ⟨by simp [go_sem], by simp [go_sem], by simp [go_sem]⟩)).mono ?_
 rintro e w9 ⟨ra', rl', rc', mp', mo', qa, qc, rows, n, rfl, m0, m1, m2, mf, ml, mn, hn, hnl, hFIN, hE9, hx9⟩
 have hs9 := hE9.size
 refine boxi_cut (X := w5.heap.size) hn hx9 (hNa _ _ _ (hN1 _ _)) (by simp [BoxZ, go_sem]) ?_
 intro hXn bz9
 have bz2 := bz9
 obtain ⟨q0, q1, q2, q3, q4, qf⟩ := bz2
 (try go_simp)
 refine psD hK ?_
 clear hK K
 refine pJ 8 ?_
 refine pJ 9 ?_
 refine pJ 10 ?_
 refine pJ 11 ?_
 refine o1J 13 ?_
 intro K hK
 go_simp
 refine psD hK ?_
 clear hK K
 refine o1J 14 ?_
 intro K hK
 go_simp
 refine psD hK ?_
 clear hK K
 refine o1J 15 ?_
 intro K hK
 go_simp
 refine psD hK ?_
 clear hK K
 refine doneJ (by kernel_rfl) ?_ _
 rotate_left
 intro K hK
 go_simp
 refine psJ hK (hHeld.alloc _) fun hHeld => ?_
 clear hK K
 refine o1J 1 ?_
 intro K hK
 go_simp
 refine psJ hK (hHeld.alloc _) fun hHeld => ?_
 clear hK K
 refine o1J 5 ?_
 intro K hK
 go_simp
 have hY := hHeld
 refine psJ hK (ext_ins hHeld (hN2 _ _ _) (by omega)) fun hHeld => ?_
 clear hK K
 refine tJ awD3 6 (awD3_lt) ?_
 refine o1J 7 ?_
 intro K hK
 go_simp
 go_at_call 5
 refine (HDO.out _ _ _ _ _ (pre2_ins (g := g) (k2 := k) hY (((hw5.alloc _).alloc _).alloc _) ((((Wb.Ext.refl _).alloc _).alloc _).alloc _) (hN2 _ _ _) (by omega) (by omega) (by omega) (by omega) hG.out hK2.out ⟨by simp [go_sem], by simp [go_sem], by simp [go_sem]⟩ ⟨by simp [go_sem], by simp [go_sem], by simp [go_sem]⟩)).mono ?_
 rintro e w9 ⟨ra', rl', rc', mp', mo', qa, qc, rows, n, rfl, m0, m1, m2, mf, ml, mn, hn, hnl, hFIN, hE9, hx9⟩
 have hs9 := hE9.size
 refine boxi_cut (X := w5.heap.size) hn hx9 (hN2 _ _ _) (by simp [BoxZ, go_sem]) ?_
 intro hXn bz9
 have bz2 := bz9
 obtain ⟨q0, q1, q2, q3, q4, qf⟩ := bz2
 (try go_simp)
 refine psD hK ?_
 clear hK K
 refine pJ 8 ?_
 refine pJ 9 ?_
 refine pJ 10 ?_
 refine pJ 11 ?_
 refine o1J 13 ?_
 intro K hK
 go_simp
 refine psD hK ?_
 clear hK K
 refine o1J 14 ?_
 intro K hK
 go_simp
 refine psD hK ?_
 clear hK K
 refine o1J 15 ?_
 intro K hK
 go_simp
 refine psD hK ?_
 clear hK K
 refine doneJ (by kernel_rfl) ?_ _
 rotate_left
 intro K hK
 go_simp
 refine psJ hK (hHeld.alloc _) fun hHeld => ?_
 clear hK K
 refine o2J 1 3 ?_ ?_
 intro K hK
 go_simp
 refine psJ hK (hHeld.alloc _) fun hHeld => ?_
 clear hK K
 refine o1J 3 ?_
 intro K hK
 go_simp
 go_at_call 36
 refine (HT.out _ hHeld).mono ?_
 rintro e w5 ⟨k, rfl, k0, k1, k2, kf, kl, kn5, hK2, hE5, hk1, hk2, hx5⟩
 have hw5 := Wb.Ext.trans (((Wb.Ext.refl w').alloc _).alloc _) hx5
 (try simp [go_sem] at hk1)
 have n2 := kn5 _ (hN1 _ _)
 have bz := BoxZ.ext (X := w'.heap.size) (by simp [BoxZ, go_sem]) hx5
 have lbz := bz.lt
 (try go_simp)
 refine psJ hK hE5 fun hHeld => ?_
 clear hK K
 refine o1J 4 ?_
 intro K hK
 go_simp
 refine psJ hK (hHeld.alloc _) fun hHeld => ?_
 clear hK K
 refine o1J 5 ?_
 intro K hK
 go_simp
 have hY := hHeld
 refine psJ hK (ext_ins hHeld (hNa _ _ _ (n2)) (by omega)) fun hHeld => ?_
 clear hK K
 refine tJ awD3 6 (awD3_lt) ?_
 refine o1J 7 ?_
 intro K hK
 go_simp
 go_at_call 5
 refine (HDO.out _ _ _ _ _ (pre2_ins (g := g) (k2 := k) hY (hw5.alloc _) ((Wb.Ext.refl _).alloc _) (hNa _ _ _ (n2)) (by omega) (by omega) (by omega) (by omega) hG.out hK2.out ⟨by simp [go_sem], by simp [go_sem], by simp [go_sem]⟩ ⟨by simp [go_sem], by simp [go_sem], by simp [go_sem]⟩)).mono ?_
 rintro e w9 ⟨ra', rl', rc', mp', mo', qa, qc, rows, n, rfl, m0, m1, m2, mf, ml, mn, hn, hnl, hFIN, hE9, hx9⟩
 have hs9 := hE9.size
 refine boxi_cut hn hx9 (hNa _ _ _ (n2)) (bz.ext ((Wb.Ext.refl _).alloc _)) ?_
 intro hXn bz9
 have bz2 := bz9
 obtain ⟨q0, q1, q2, q3, q4, qf⟩ := bz2
 (try go_simp)
 refine psD hK ?_
 clear hK K
 refine pJ 8 ?_
 refine pJ 9 ?_
 refine pJ 10 ?_
 refine pJ 11 ?_
 refine o1J 13 ?_
 intro K hK
 go_simp
 refine psD hK ?_
 clear hK K
 refine o1J 14 ?_
 intro K hK
 go_simp
 refine psD hK ?_
 clear hK K
 refine o1J 15 ?_
 intro K hK
 go_simp
 refine psD hK ?_
 clear hK K
 refine doneJ (by kernel_rfl) ?_ _
 rotate_left
 intro K hK
 go_simp
 go_at_call 36
 refine (HT.out _ hHeld).mono ?_
 rintro e w5 ⟨k, rfl, k0, k1, k2, kf, kl, kn5, hK2, hE5, hk1, hk2, hx5⟩
 have hw5 := Wb.Ext.trans ((Wb.Ext.refl w').alloc _) hx5
 (try simp [go_sem] at hk1)
 have bz := BoxZ.ext (X := w'.heap.size) (by simp [BoxZ, go_sem]) hx5
 have lbz := bz.lt
 (try go_simp)
 refine psJ hK hE5 fun hHeld => ?_
 clear hK K
 refine o2J 1 4 ?_ ?_
 intro K hK
 go_simp
 refine psJ hK (hHeld.alloc _) fun hHeld => ?_
 clear hK K
 refine o1J 4 ?_
 intro K hK
 go_simp
 refine psJ hK (hHeld.alloc _) fun hHeld => ?_
 clear hK K
 refine o1J 5 ?_
 intro K hK
 go_simp
 have hY := hHeld
 refine psJ hK (ext_ins hHeld (hNa _ _ _ (hN0 _)) (by omega)) fun hHeld => ?_
 clear hK K
 refine tJ awD3 6 (awD3_lt) ?_
 refine o1J 7 ?_
 intro K hK
 go_simp
 go_at_call 5
 refine (HDO.out _ _ _ _ _ (pre2_ins (g := g) (k2 := k) hY ((hw5.alloc _).alloc _) (((Wb.Ext.refl _).alloc _).alloc _) (hNa _ _ _ (hN0 _)) (by omega) (by omega) (by omega) (by omega) hG.out hK2.out ⟨by simp [go_sem], by simp [go_sem], by simp [go_sem]⟩ ⟨by simp [go_sem], by simp [go_sem], by simp [go_sem]⟩)).mono ?_
 rintro e w9 ⟨ra', rl', rc', mp', mo', qa, qc, rows, n, rfl, m0, m1, m2, mf, ml, mn, hn, hnl, hFIN, hE9, hx9⟩
 have hs9 := hE9.size
 refine boxi_cut hn hx9 (hNa _ _ _ (hN0 _)) (bz.ext (((Wb.Ext.refl _).alloc _).alloc _)) ?_
 intro hXn bz9
 have bz2 := bz9
 obtain ⟨q0, q1, q2, q3, q4, qf⟩ := bz2
 (try go_simp)
 refine psD hK ?_
 clear hK K
 refine pJ 8 ?_
 refine pJ 9 ?_
 refine pJ 10 ?_
 refine pJ 11 ?_
 refine o1J 13 ?_
 intro K hK
 go_simp
 refine psD hK ?_
 clear hK K
 refine o1J 14 ?_
 intro K hK
 go_simp
 refine psD hK ?_
 clear hK K
 refine o1J 15 ?_
 intro K hK
 go_simp
 refine psD hK ?_
 clear hK K
 refine doneJ (by kernel_rfl) ?_ _
 rotate_left
 intro K hK
 go_simp
 refine psJ hK (hHeld.alloc _) fun hHeld => ?_
 clear hK K
 refine o1J 1 ?_
 intro K hK
 go_simp
 refine psJ hK (hHeld.alloc _) fun hHeld => ?_
 clear hK K
 refine o1J 5 ?_
 intro K hK
 go_simp
 have hY := hHeld
 refine psJ hK (ext_ins hHeld (hN1 _ _) (by omega)) fun hHeld => ?_
 clear hK K
 refine tJ awD3 6 (awD3_lt) ?_
 refine o1J 7 ?_
 intro K hK
 go_simp
 go_at_call 5
 refine (HDO.out _ _ _ _ _ (pre2_ins (g := g) (k2 := k) hY ((hw5.alloc _).alloc _) (((Wb.Ext.refl _).alloc _).alloc _) (hN1 _ _) (by omega) (by omega) (by omega) (by omega) hG.out hK2.out ⟨by simp [go_sem], by simp [go_sem], by simp [go_sem]⟩ ⟨by simp [go_sem], by simp [go_sem], by simp [go_sem]⟩)).mono ?_
 rintro e w9 ⟨ra', rl', rc', mp', mo', qa, qc, rows, n, rfl, m0, m1, m2, mf, ml, mn, hn, hnl, hFIN, hE9, hx9⟩
 have hs9 := hE9.size
 refine boxi_cut hn hx9 (hN1 _ _) (bz.ext (((Wb.Ext.refl _).alloc _).alloc _)) ?_
 intro hXn bz9
 have bz2 := bz9
 obtain ⟨q0, q1, q2, q3, q4, qf⟩ := bz2
 (try go_simp)
 refine psD hK ?_
 clear hK K
 refine pJ 8 ?_
 refine pJ 9 ?_
 refine pJ 10 ?_
 refine pJ 11 ?_
 refine o1J 13 ?_
 intro K hK
 go_simp
 refine psD hK ?_
 clear hK K
 refine o1J 14 ?_
 intro K hK
 go_simp
 refine psD hK ?_
 clear hK K
 refine o1J 15 ?_
 intro K hK
 go_simp
 refine psD hK ?_
 clear hK K
 refine doneJ (by kernel_rfl) ?_ _
 rotate_left
 intro K hK
 go_simp
 refine psJ hK (hHeld.alloc _) fun hHeld => ?_
 clear hK K
 refine o2J 1 2 ?_ ?_
 intro K hK
 go_simp
 refine psJ hK (hHeld.alloc _) fun hHeld => ?_
 clear hK K
 refine o1J 2 ?_
 intro K hK
 go_simp
 go_at_call 36
 refine (HS.out _ hHeld).mono ?_
 rintro e w' ⟨g, rfl, k0, k1, k2, kf, kl, kn, hG, hE1, hg1, hg2, hx⟩
 (try simp [go_sem] at hg1)
 have n0 := kn _ (hNd _ _ (hN1 _ _))
 have bz := BoxZ.ext (X := W1.heap.size) (by simp [BoxZ, go_sem]) hx
 have lbz := bz.lt
 (try go_simp)
 refine psJ hK hE1 fun hHeld => ?_
 clear hK K
 refine o1J 3 ?_
 intro K hK
 go_simp
 go_at_call 36
 refine (HT.out _ hHeld).mono ?_
 rintro e w5 ⟨k, rfl, k0, k1, k2, kf, kl, kn5, hK2, hE5, hk1, hk2, hx5⟩
 have hw5 := Wb.Ext.trans (Wb.Ext.refl w') hx5
 (try simp [go_sem] at hk1)
 have n2 := kn5 _ (n0)
 have bz2 := BoxZ.ext bz hw5
 clear bz lbz
 have bz := bz2
 clear bz2
 have lbz := bz.lt
 (try go_simp)
 refine psJ hK hE5 fun hHeld => ?_
 clear hK K
 refine o1J 4 ?_
 intro K hK
 go_simp
 refine psJ hK (hHeld.alloc _) fun hHeld => ?_
 clear hK K
 refine o1J 5 ?_
 intro K hK
 go_simp
 have hY := hHeld
 refine psJ hK (ext_ins hHeld (hNa _ _ _ (n2)) (by omega)) fun hHeld => ?_
 clear hK K
 refine tJ awD3 6 (awD3_lt) ?_
 refine o1J 7 ?_
 intro K hK
 go_simp
 go_at_call 5
 refine (HDO.out _ _ _ _ _ (pre2_ins (g := g) (k2 := k) hY (hw5.alloc _) ((Wb.Ext.refl _).alloc _) (hNa _ _ _ (n2)) (by omega) (by omega) (by omega) (by omega) hG.out hK2.out ⟨by simp [go_sem], by simp [go_sem], by simp [go_sem]⟩ ⟨by simp [go_sem], by simp [go_sem], by simp [go_sem]⟩)).mono ?_
 rintro e w9 ⟨ra', rl', rc', mp', mo', qa, qc, rows, n, rfl, m0, m1, m2, mf, ml, mn, hn, hnl, hFIN, hE9, hx9⟩
 have hs9 := hE9.size
 refine boxi_cut hn hx9 (hNa _ _ _ (n2)) (bz.ext ((Wb.Ext.refl _).alloc _)) ?_
 intro hXn bz9
 have bz2 := bz9
 obtain ⟨q0, q1, q2, q3, q4, qf⟩ := bz2
 (try go_simp)
 refine psD hK ?_
 clear hK K
 refine pJ 8 ?_
 refine pJ 9 ?_
 refine pJ 10 ?_
 refine pJ 11 ?_
 refine o1J 13 ?_
 intro K hK
 go_simp
 refine psD hK ?_
 clear hK K
 refine o1J 14 ?_
 intro K hK
 go_simp
 refine psD hK ?_
 clear hK K
 refine o1J 15 ?_
 intro K hK
 go_simp
 refine psD hK ?_
 clear hK K
 refine doneJ (by kernel_rfl) ?_ _
 rotate_left
 intro K hK
 go_simp
 go_at_call 36
 refine (HS.out _ hHeld).mono ?_
 rintro e w' ⟨g, rfl, k0, k1, k2, kf, kl, kn, hG, hE1, hg1, hg2, hx⟩
 (try simp [go_sem] at hg1)
 have bz := BoxZ.ext (X := W1.heap.size) (by simp [BoxZ, go_sem]) hx
 have lbz := bz.lt
 (try go_simp)
 refine psJ hK hE1 fun hHeld => ?_
 clear hK K
 refine o2J 1 3 ?_ ?_
 intro K hK
 go_simp
 refine psJ hK (hHeld.alloc _) fun hHeld => ?_
 clear hK K
 refine o1J 3 ?_
 intro K hK
 go_simp
 go_at_call 36
 refine (HT.out _ hHeld).mono ?_
 rintro e w5 ⟨k, rfl, k0, k1, k2, kf, kl, kn5, hK2, hE5, hk1, hk2, hx5⟩
 have hw5 := Wb.Ext.trans ((Wb.Ext.refl w').alloc _) hx5
 (try simp [go_sem] at hk1)
 have n2 := kn5 _ (hN0 _)
 have bz2 := BoxZ.ext bz hw5
 clear bz lbz
 have bz := bz2
 clear bz2
 have lbz := bz.lt
 (try go_simp)
 refine psJ hK hE5 fun hHeld => ?_
 clear hK K
 refine o1J 4 ?_
 intro K hK
 go_simp
 refine psJ hK (hHeld.alloc _) fun hHeld => ?_
 clear hK K
 refine o1J 5 ?_
 intro K hK
 go_simp
 have hY := hHeld
 refine psJ hK (ext_ins hHeld (hNa _ _ _ (n2)) (by omega)) fun hHeld => ?_
 clear hK K
 refine tJ awD3 6 (awD3_lt) ?_
 refine o1J 7 ?_
 intro K hK
 go_simp
 go_at_call 5
 refine (HDO.out _ _ _ _ _ (pre2_ins (g := g) (k2 := k) hY (hw5.alloc _) ((Wb.Ext.refl _).alloc _) (hNa _ _ _ (n2)) (by omega) (by omega) (by omega) (by omega) hG.out hK2.out ⟨by simp [go_sem], by simp [go_sem], by simp [go_sem]⟩ ⟨by simp [go_sem], by simp [go_sem], by simp [go_sem]⟩)).mono ?_
 rintro e w9 ⟨ra', rl', rc', mp', mo', qa, qc, rows, n, rfl, m0, m1, m2, mf, ml, mn, hn, hnl, hFIN, hE9, hx9⟩
 have hs9 := hE9.size
 refine boxi_cut hn hx9 (hNa _ _ _ (n2)) (bz.ext ((Wb.Ext.refl _).alloc _)) ?_
 intro hXn bz9
 have bz2 := bz9
 obtain ⟨q0, q1, q2, q3, q4, qf⟩ := bz2
 (try go_simp)
 refine psD hK ?_
 clear hK K
 refine pJ 8 ?_
 refine pJ 9 ?_
 refine pJ 10 ?_
 refine pJ 11 ?_
 refine o1J 13 ?_
 intro K hK
 go_simp
 refine psD hK ?_
 clear hK K
 refine o1J 14 ?_
 intro K hK
 go_simp
 refine psD hK ?_
 clear hK K
 refine o1J 15 ?_
 intro K hK
 go_simp
 refine psD hK ?_
 clear hK K
 refine doneJ (by kernel_rfl) ?_ _
 rotate_left
 intro K hK
 go_simp
 go_at_call 36
 refine (HT.out _ hHeld).mono ?_
 rintro e w5 ⟨k, rfl, k0, k1, k2, kf, kl, kn5, hK2, hE5, hk1, hk2, hx5⟩
 have hw5 := Wb.Ext.trans (Wb.Ext.refl w') hx5
 (try simp [go_sem] at hk1)
 have bz2 := BoxZ.ext bz hw5
 clear bz lbz
 have bz := bz2
 clear bz2
 have lbz := bz.lt
 (try go_simp)
 refine psJ hK hE5 fun hHeld => ?_
 clear hK K
 refine o2J 1 4 ?_ ?_
 intro K hK
 go_simp
 refine psJ hK (hHeld.alloc _) fun hHeld => ?_
 clear hK K
 refine o1J 4 ?_
 intro K hK
 go_simp
 refine psJ hK (hHeld.alloc _) fun hHeld => ?_
 clear hK K
 refine o1J 5 ?_
 intro K hK
 go_simp
 have hY := hHeld
 refine psJ hK (ext_ins hHeld (hNa _ _ _ (hN0 _)) (by omega)) fun hHeld => ?_
 clear hK K
 refine tJ awD3 6 (awD3_lt) ?_
 refine o1J 7 ?_
 intro K hK
 go_simp
 go_at_call 5
 refine (HDO.out _ _ _ _ _ (pre2_ins (g := g) (k2 := k) hY ((hw5.alloc _).alloc _) (((Wb.Ext.refl _).alloc _).alloc _) (hNa _ _ _ (hN0 _)) (by omega) (by omega) (by omega) (by omega) hG.out hK2.out ⟨by simp [go_sem], by simp [go_sem], by simp [go_sem]⟩ ⟨by simp [go_sem], by simp [go_sem], by simp [go_sem]⟩)).mono ?_
 rintro e w9 ⟨ra', rl', rc', mp', mo', qa, qc, rows, n, rfl, m0, m1, m2, mf, ml, mn, hn, hnl, hFIN, hE9, hx9⟩
 have hs9 := hE9.size
 refine boxi_cut hn hx9 (hNa _ _ _ (hN0 _)) (bz.ext (((Wb.Ext.refl _).alloc _).alloc _)) ?_
 intro hXn bz9
 have bz2 := bz9
 obtain ⟨q0, q1, q2, q3, q4, qf⟩ := bz2
 (try go_simp)
 refine psD hK ?_
 clear hK K
 refine pJ 8 ?_
 refine pJ 9 ?_
 refine pJ 10 ?_
 refine pJ 11 ?_
 refine o1J 13 ?_
 intro K hK
 go_simp
 refine psD hK ?_
 clear hK K
 refine o1J 14 ?_
 intro K hK
 go_simp
 refine psD hK ?_
 clear hK K
 refine o1J 15 ?_
 intro K hK
 go_simp
 refine psD hK ?_
 clear hK K
 refine doneJ (by kernel_rfl) ?_ _
 rotate_left
 intro K hK
 go_simp
 refine psJ hK (hHeld.alloc _) fun hHeld => ?_
 clear hK K
 refine o1J 1 ?_
 intro K hK
 go_simp
 refine psJ hK (hHeld.alloc _) fun hHeld => ?_
 clear hK K
 refine o1J 5 ?_
 intro K hK
 go_simp
 have hY := hHeld
 refine psJ hK (ext_ins hHeld (hN1 _ _) (by omega)) fun hHeld => ?_
 clear hK K
 refine tJ awD3 6 (awD3_lt) ?_
 refine o1J 7 ?_
 intro K hK
 go_simp
 go_at_call 5
 refine (HDO.out _ _ _ _ _ (pre2_ins (g := g) (k2 := k) hY ((hw5.alloc _).alloc _) (((Wb.Ext.refl _).alloc _).alloc _) (hN1 _ _) (by omega) (by omega) (by omega) (by omega) hG.out hK2.out ⟨by simp [go_sem], by simp [go_sem], by simp [go_sem]⟩ ⟨by simp [go_sem], by simp [go_sem], by simp [go_sem]⟩)).mono ?_
 rintro e w9 ⟨ra', rl', rc', mp', mo', qa, qc, rows, n, rfl, m0, m1, m2, mf, ml, mn, hn, hnl, hFIN, hE9, hx9⟩
 have hs9 := hE9.size
 refine boxi_cut hn hx9 (hN1 _ _) (bz.ext (((Wb.Ext.refl _).alloc _).alloc _)) ?_
 intro hXn bz9
 have bz2 := bz9
 obtain ⟨q0, q1, q2, q3, q4, qf⟩ := bz2
 (try go_simp)
 refine psD hK ?_
 clear hK K
 refine pJ 8 ?_
 refine pJ 9 ?_
 refine pJ 10 ?_
 refine pJ 11 ?_
 refine o1J 13 ?_
 intro K hK
 go_simp
 refine psD hK ?_
 clear hK K
 refine o1J 14 ?_
 intro K hK
 go_simp
 refine psD hK ?_
 clear hK K
 refine o1J 15 ?_
 intro K hK
 go_simp
 refine psD hK ?_
 clear hK K
 refine doneJ (by kernel_rfl) ?_ _
 rotate_left
 all_goals exact ⟨_, _, _, _, _, _, _, _, _, _, _, _, rfl, cut_at hFIN.out.1 hFIN.out.2.1 hFIN.out.2.2 (by have hwx := HX1.out.trans hE9; (repeat' (first | (with_reducible assumption) | (with_reducible exact Wb.Ext.refl _) | (with_reducible refine Wb.Ext.drew ?_) | (with_reducible refine Wb.Ext.drewN ?_ _) | (with_reducible refine Wb.Ext.alloc ?_ _) | (with_reducible refine Wb.ext_set ?_ (by first | assumption | (simp; done) | (simp; omega) | omega) _) | (with_reducible refine Wb.Ext.trans ?_ (by assumption))))) (by (repeat' (first | (with_reducible exact Kept.refl) | (with_reducible refine Kept.alloc' ?_ _) | (with_reducible refine Kept.setj ?_ ?_) | ((try dsimp only); omega)))) mn (by (try dsimp only); omega) (by omega) (by omega) (by go_simp) (by go_simp) (by go_simp) (by intro j; go_simp) (by go_simp), Kept.mono (F := fun q => q < W1.heap.size ∧ q ≠ A) (Kept.trans (.ext hE9) (by (repeat' (first | (with_reducible exact Kept.refl) | (with_reducible refine Kept.alloc' ?_ _) | (with_reducible refine Kept.setj ?_ ?_) | ((try dsimp only); omega))))) (fun i h1 h2 => ⟨h1, h2⟩)⟩
end Go.Proofs.YtnefdpnolojojaaGreatDoor
