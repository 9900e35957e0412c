/- RunApart: its condition. -/
import Derived.Test.YtnefdpnolojojaaGreatMRf
import Derived.Test.YtnefdpnolojojaaGreatRun26
import Derived.Deep.RegionHeld
namespace Go.Proofs.YtnefdpnolojojaaGreat
open Go.RowKit Go.Sort Go.Lib Go.Maps
set_option maxRecDepth 8000
attribute [local go_sem ↓] Go.wp_at_zero Go.wp_at_succ

noncomputable def ap17R : Code := ((Tryz.f8.body.bind (findReg 17)).getD .skip)
set_option maxHeartbeats 100000000 in
theorem ap17 (x0 x2 x3 x4 x7 x8 x9 x10 x11 x12 x14 x15 x17 x18 x19 x20 x21 x22 x23 x24 x25 x26 x27 x28 x29 x30 x31 x32 x33 x34 x35 x36 x37 x38 x39 x40 x41 x42 x43 x44 x45 x46 x47 x48 x49 x50 x51 x52 x53 x54 x55 x56 x57 x58 x59 x60 x61 x62 x63 x64 x65 x66 x67 x68 x69 x70 x71 x72 x73 x74 x75 x76 x77 x78 x79 x80 x81 x82 x83 x84 x85 x86 x87 x88 x89 x90 x91 x92 x93 x94 x95 x96 x97 x98 x99 x100 x101 x102 x103 x104 x105 x106 x107 x108 x109 x110 x111 x112 x113 x114 x115 x116 x117 x118 x119 x120 x121 x122 x123 x124 x125 x126 x127 x128 x129 x130 x131 x132 x133 x134 : Value) (ds) (wO : World) (p0 : Int) (A Q R T : Nat) (ra rb qa ta : Option Addr) (rl rc sl sc qc tc r1 r2 : Nat) (mp mo np no : Option Nat) (n1 y1 i1 k1 n2 y2 i2 k2 OW : Int) (X1 X2 : List RwM) (PD : List Wb.Ct)
    (v0 : ∀ x, Wb.Ext wO x → x.cell? ⟨A, 0, none⟩ = some (.slice ra rl rc)) (v1 : ∀ x, Wb.Ext wO x → x.cell? ⟨A, 1, none⟩ = some (.map mp)) (v2 : ∀ x, Wb.Ext wO x → x.cell? ⟨A, 2, none⟩ = some (.map mo))
    (z0 : ∀ x, Wb.Ext wO x → x.cell? ⟨Q, 0, none⟩ = some (.slice rb sl sc)) (z1 : ∀ x, Wb.Ext wO x → x.cell? ⟨Q, 1, none⟩ = some (.map np)) (z2 : ∀ x, Wb.Ext wO x → x.cell? ⟨Q, 2, none⟩ = some (.map no))
    (pz : ∀ x, Wb.Ext wO x → x.cell? ⟨R, 0, none⟩ = some (.int .i64 n1)) (p1 : ∀ x, Wb.Ext wO x → x.cell? ⟨R, 1, none⟩ = some (.int .i64 y1)) (p2 : ∀ x, Wb.Ext wO x → x.cell? ⟨R, 2, none⟩ = some (.int .i64 i1)) (p3 : ∀ x, Wb.Ext wO x → x.cell? ⟨R, 3, none⟩ = some (.int .i64 k1)) (p4 : ∀ x, Wb.Ext wO x → x.cell? ⟨R, 4, none⟩ = some (.slice qa r1 qc))
    (s0 : ∀ x, Wb.Ext wO x → x.cell? ⟨T, 0, none⟩ = some (.int .i64 n2)) (s1 : ∀ x, Wb.Ext wO x → x.cell? ⟨T, 1, none⟩ = some (.int .i64 y2)) (s2 : ∀ x, Wb.Ext wO x → x.cell? ⟨T, 2, none⟩ = some (.int .i64 i2)) (s3 : ∀ x, Wb.Ext wO x → x.cell? ⟨T, 3, none⟩ = some (.int .i64 k2)) (s4 : ∀ x, Wb.Ext wO x → x.cell? ⟨T, 4, none⟩ = some (.slice ta r2 tc))
    (g1 : decide ((1 : Int) < (r2 : Int)) = false) (hfew : PD.length ≤ 60) (heq : X1.map RwM.c = X2.map RwM.c)
    (hr1 : ∀ W, Wb.Ext wO W → Calls Tryz.prog 27 #[.agg #[.int .i64 n1, .int .i64 y1, .int .i64 i1, .int .i64 k1, .slice qa r1 qc], .int .u32 p0] W fun e w' => ∃ (ua : Option Addr) (un uc : Nat), e = .returned (.slice ua un uc) ∧ Hid (RowsM w' (.slice ua un uc) X1) ∧ Wb.Ext W w')
    (hr2 : ∀ W, Wb.Ext wO W → Calls Tryz.prog 27 #[.agg #[.int .i64 n2, .int .i64 y2, .int .i64 i2, .int .i64 k2, .slice ta r2 tc], .int .u32 p0] W fun e w' => ∃ (ua : Option Addr) (un uc : Nat), e = .returned (.slice ua un uc) ∧ Hid (RowsM w' (.slice ua un uc) X2) ∧ Wb.Ext W w')
    (hoa : ∀ W, Wb.Ext wO W → Calls Tryz.prog 13 #[.agg #[.slice ra rl rc, .map mp, .map mo], .int .u32 p0] W fun e w' => e = .returned (.int .i64 OW) ∧ Wb.Ext W w')
    (hob : ∀ W, Wb.Ext wO W → Calls Tryz.prog 13 #[.agg #[.slice rb sl sc, .map np, .map no], .int .u32 p0] W fun e w' => e = .returned (.int .i64 OW) ∧ Wb.Ext W w')
    (hpa : ∀ W, Wb.Ext wO W → Calls Tryz.prog 15 #[.agg #[.slice ra rl rc, .map mp, .map mo], .int .u32 p0] W fun e w' => ∃ (ua : Option Addr) (uc : Nat) (D : List Wb.Sl), e = .returned (.slice ua D.length uc) ∧ Hid (Sls w' (.slice ua D.length uc) D ∧ D.map Wb.ct = PD) ∧ Wb.Ext W w')
    (hpc : ∀ W, Wb.Ext wO W → Calls Tryz.prog 15 #[.agg #[.slice rb sl sc, .map np, .map no], .int .u32 p0] W fun e w' => ∃ (ua : Option Addr) (uc : Nat) (D : List Wb.Sl), e = .returned (.slice ua D.length uc) ∧ Hid (Sls w' (.slice ua D.length uc) D ∧ D.map Wb.ct = PD) ∧ Wb.Ext W w') :
    Code.wp Tryz.prog ap17R (OnEnd fun a' wx => ∃ (u101 u102 u103 u104 u105 u106 u107 u108 u109 u110 u111 u112 u113 u114 u115 u116 u117 u118 u119 u120 u121 u122 u123 u124 u125 u126 u127 u128 u129 u130 u131 u132 : Value), a' = ⟨#[x0, .int .u32 p0, x2, x3, x4, .pointer (some ⟨A, 0, none⟩), .pointer (some ⟨Q, 0, none⟩), x7, x8, x9, x10, x11, x12, .pointer (some ⟨R, 0, none⟩), x14, x15, .pointer (some ⟨T, 0, none⟩), x17, x18, x19, x20, x21, x22, x23, x24, x25, x26, x27, x28, x29, x30, x31, x32, x33, x34, x35, x36, x37, x38, x39, x40, x41, x42, x43, x44, x45, x46, x47, x48, x49, x50, x51, x52, x53, x54, x55, x56, x57, x58, x59, x60, x61, x62, x63, x64, x65, x66, x67, x68, x69, x70, x71, x72, x73, x74, x75, x76, x77, x78, x79, x80, x81, x82, x83, x84, x85, x86, x87, x88, x89, x90, x91, x92, x93, x94, x95, x96, x97, x98, x99, x100, u101, u102, u103, u104, u105, u106, u107, u108, u109, u110, u111, u112, u113, u114, u115, u116, u117, u118, u119, u120, u121, u122, u123, u124, u125, u126, u127, u128, u129, u130, u131, u132, .bool false, x134], ds⟩ ∧ Wb.Ext wO wx) ⟨#[x0, .int .u32 p0, x2, x3, x4, .pointer (some ⟨A, 0, none⟩), .pointer (some ⟨Q, 0, none⟩), x7, x8, x9, x10, x11, x12, .pointer (some ⟨R, 0, none⟩), x14, x15, .pointer (some ⟨T, 0, none⟩), x17, x18, x19, x20, x21, x22, x23, x24, x25, x26, x27, x28, x29, x30, x31, x32, x33, x34, x35, x36, x37, x38, x39, x40, x41, x42, x43, x44, x45, x46, x47, x48, x49, x50, x51, x52, x53, x54, x55, x56, x57, x58, x59, x60, x61, x62, x63, x64, x65, x66, x67, x68, x69, x70, x71, x72, x73, x74, x75, x76, x77, x78, x79, x80, x81, x82, x83, x84, x85, x86, x87, x88, x89, x90, x91, x92, x93, x94, x95, x96, x97, x98, x99, x100, x101, x102, x103, x104, x105, x106, x107, x108, x109, x110, x111, x112, x113, x114, x115, x116, x117, x118, x119, x120, x121, x122, x123, x124, x125, x126, x127, x128, x129, x130, x131, x132, x133, x134], ds⟩ wO := by
  have HR1 := Lib.hid hr1
  have HR2 := Lib.hid hr2
  have HOA := Lib.hid hoa
  have HOB := Lib.hid hob
  have HPA := Lib.hid hpa
  have HPC := Lib.hid hpc
  have HEQ := Lib.hid heq
  have n1' : ¬ (1 : Int) < (r2 : Int) := by simpa using g1
  have qO : ((OW : Int) != OW) = false := by simp
  clear hr1 hr2 hoa hob hpa hpc heq
  conv => arg 2; whnf
  refine region_start (S := Wb.Ext wO) (n := 33) (l := #[false, false, false, false, false, false, false, false, false, false, false, false, false, false, false, false, false, false, false, false, false, false, false, false, false, false, false, false, false, false, false, false, false]) (by kernel_rfl) (.drew (.refl wO)) (by kernel_rfl) (by kernel_rfl) (fun hHeld => ?_)
  refine take_d (i := 0) (d := 101) (v := ?_) rfl rfl (by kernel_rfl) (by kernel_rfl) (by kernel_rfl) (fun _ _ _ h => h) (Or.inl ⟨by rfl, ?_⟩) (by assumption) ?_
  rotate_left
  · (intro w hSw; (try dsimp only at hSw); go_simp; (try with_reducible rfl))
  (try simp only [Act.put, List.setIfInBounds_toArray, List.set_cons_zero, List.set_cons_succ])
  refine take_d (i := 1) (d := 102) (v := ?_) rfl rfl (by kernel_rfl) (by kernel_rfl) (by kernel_rfl) (fun _ _ _ h => h) (Or.inl ⟨by rfl, ?_⟩) (by assumption) ?_
  rotate_left
  · (intro w hSw; (try dsimp only at hSw); go_simp; (try with_reducible rfl))
  (try simp only [Act.put, List.setIfInBounds_toArray, List.set_cons_zero, List.set_cons_succ])
  refine take_d (i := 3) (d := 104) (v := ?_) rfl rfl (by kernel_rfl) (by kernel_rfl) (by kernel_rfl) (fun _ _ _ h => h) (Or.inl ⟨by rfl, ?_⟩) (by assumption) ?_
  rotate_left
  · (intro w hSw; (try dsimp only at hSw); go_simp; (try with_reducible rfl))
  (try simp only [Act.put, List.setIfInBounds_toArray, List.set_cons_zero, List.set_cons_succ])
  refine take_d (i := 4) (d := 105) (v := ?_) rfl rfl (by kernel_rfl) (by kernel_rfl) (by kernel_rfl) (fun _ _ _ h => h) (Or.inl ⟨by rfl, ?_⟩) (by assumption) ?_
  rotate_left
  · (intro w hSw; (try dsimp only at hSw); go_simp; (try with_reducible rfl))
  (try simp only [Act.put, List.setIfInBounds_toArray, List.set_cons_zero, List.set_cons_succ])
  refine wpAnyH_ready (rs := [2]) (by kernel_rfl) (by simp) ?_
  refine AllReadyH.cons (o := _) rfl (fun K hK => ?_) AllReadyH.nil
  go_simp
  go_at_call 27
  refine (HR1.out _ hHeld).mono ?_
  rintro e w1 ⟨ua, un, uc, rfl, hRR, hxw1⟩
  have hEw1 : Wb.Ext wO w1 := hHeld.trans hxw1
  (try go_simp)
  refine hK.out _ _ hEw1 (fun hHeld => ?_)
  clear hK K
  (try simp only [List.setIfInBounds_toArray, List.set_cons_zero, List.set_cons_succ])
  refine wpAnyH_ready (rs := [5]) (by kernel_rfl) (by simp) ?_
  refine AllReadyH.cons (o := _) rfl (fun K hK => ?_) AllReadyH.nil
  go_simp
  go_at_call 27
  refine (HR2.out _ hHeld).mono ?_
  rintro e w2 ⟨ub, um, ud, rfl, hRS, hxw2⟩
  have hEw2 : Wb.Ext wO w2 := hHeld.trans hxw2
  (try go_simp)
  refine hK.out _ _ hEw2 (fun hHeld => ?_)
  clear hK K
  (try simp only [List.setIfInBounds_toArray, List.set_cons_zero, List.set_cons_succ])
  refine wpAnyH_ready (rs := [6]) (by kernel_rfl) (by simp) ?_
  refine AllReadyH.cons (o := _) rfl (fun K hK => ?_) AllReadyH.nil
  go_simp
  go_at_call 26
  refine (like31_eq _ _ X1 X2 _ (hRR.out.ext hxw2) hRS.out HEQ.out).mono ?_
  rintro e w3 ⟨rfl, hxw3⟩
  have hEw3 : Wb.Ext wO w3 := hHeld.trans hxw3
  (try go_simp)
  refine hK.out _ _ hEw3 (fun hHeld => ?_)
  clear hK K
  (try simp only [List.setIfInBounds_toArray, List.set_cons_zero, List.set_cons_succ])
  refine take_d (i := 7) (d := 108) (v := ?_) rfl rfl (by kernel_rfl) (by kernel_rfl) (by kernel_rfl) (fun _ _ _ h => h) (Or.inl ⟨by rfl, ?_⟩) (by assumption) ?_
  rotate_left
  · (intro w hSw; (try dsimp only at hSw); go_simp; (try with_reducible rfl))
  (try simp only [Act.put, List.setIfInBounds_toArray, List.set_cons_zero, List.set_cons_succ])
  refine take_d (i := 8) (d := 109) (v := ?_) rfl rfl (by kernel_rfl) (by kernel_rfl) (by kernel_rfl) (fun _ _ _ h => h) (Or.inl ⟨by rfl, ?_⟩) (by assumption) ?_
  rotate_left
  · (intro w hSw; (try dsimp only at hSw); go_simp; (try with_reducible rfl))
  (try simp only [Act.put, List.setIfInBounds_toArray, List.set_cons_zero, List.set_cons_succ])
  refine take_d (i := 9) (d := 110) (v := ?_) rfl rfl (by kernel_rfl) (by kernel_rfl) (by kernel_rfl) (fun _ _ _ h => h) (Or.inl ⟨by rfl, ?_⟩) (by assumption) ?_
  rotate_left
  · (intro w hSw; (try dsimp only at hSw); go_simp; (try with_reducible rfl))
  (try simp only [Act.put, List.setIfInBounds_toArray, List.set_cons_zero, List.set_cons_succ])
  refine take_d (i := 10) (d := 111) (v := ?_) rfl rfl (by kernel_rfl) (by kernel_rfl) (by kernel_rfl) (fun _ _ _ h => h) (Or.inl ⟨by rfl, ?_⟩) (by assumption) ?_
  rotate_left
  · (intro w hSw; (try dsimp only at hSw); go_simp; (try with_reducible rfl))
  (try simp only [Act.put, List.setIfInBounds_toArray, List.set_cons_zero, List.set_cons_succ])
  refine take_d (i := 11) (d := 112) (v := ?_) rfl rfl (by kernel_rfl) (by kernel_rfl) (by kernel_rfl) (fun _ _ _ h => h) (Or.inl ⟨by rfl, ?_⟩) (by assumption) ?_
  rotate_left
  · (intro w hSw; (try dsimp only at hSw); go_simp; (try with_reducible rfl))
  (try simp only [Act.put, List.setIfInBounds_toArray, List.set_cons_zero, List.set_cons_succ])
  refine take_d (i := 12) (d := 113) (v := ?_) rfl rfl (by kernel_rfl) (by kernel_rfl) (by kernel_rfl) (fun _ _ _ h => h) (Or.inl ⟨by rfl, ?_⟩) (by assumption) ?_
  rotate_left
  · (intro w hSw; (try dsimp only at hSw); go_simp; (try with_reducible rfl))
  (try simp only [Act.put, List.setIfInBounds_toArray, List.set_cons_zero, List.set_cons_succ])
  refine take_d (i := 13) (d := 114) (v := ?_) rfl rfl (by kernel_rfl) (by kernel_rfl) (by kernel_rfl) (fun _ _ _ h => h) (Or.inl ⟨by rfl, ?_⟩) (by assumption) ?_
  rotate_left
  · (intro w hSw; (try dsimp only at hSw); go_simp; (try with_reducible rfl))
  (try simp only [Act.put, List.setIfInBounds_toArray, List.set_cons_zero, List.set_cons_succ])
  refine take_d (i := 14) (d := 115) (v := ?_) rfl rfl (by kernel_rfl) (by kernel_rfl) (by kernel_rfl) (fun _ _ _ h => h) (Or.inl ⟨by rfl, ?_⟩) (by assumption) ?_
  rotate_left
  · (intro w hSw; (try dsimp only at hSw); go_simp; (try with_reducible rfl))
  (try simp only [Act.put, List.setIfInBounds_toArray, List.set_cons_zero, List.set_cons_succ])
  refine take_d (i := 15) (d := 116) (v := ?_) rfl rfl (by kernel_rfl) (by kernel_rfl) (by kernel_rfl) (fun _ _ _ h => h) (Or.inl ⟨by rfl, ?_⟩) (by assumption) ?_
  rotate_left
  · (intro w hSw; (try dsimp only at hSw); go_simp; (try with_reducible rfl))
  (try simp only [Act.put, List.setIfInBounds_toArray, List.set_cons_zero, List.set_cons_succ])
  refine take_d (i := 16) (d := 117) (v := ?_) rfl rfl (by kernel_rfl) (by kernel_rfl) (by kernel_rfl) (fun _ _ _ h => h) (Or.inl ⟨by rfl, ?_⟩) (by assumption) ?_
  rotate_left
  · (intro w hSw; (try dsimp only at hSw); go_simp; (try with_reducible rfl))
  (try simp only [Act.put, List.setIfInBounds_toArray, List.set_cons_zero, List.set_cons_succ])
  refine take_d (i := 18) (d := 119) (v := ?_) rfl rfl (by kernel_rfl) (by kernel_rfl) (by kernel_rfl) (fun _ _ _ h => h) (Or.inl ⟨by rfl, ?_⟩) (by assumption) ?_
  rotate_left
  · (intro w hSw; (try dsimp only at hSw); go_simp; (try with_reducible rfl))
  (try simp only [Act.put, List.setIfInBounds_toArray, List.set_cons_zero, List.set_cons_succ])
  refine take_d (i := 19) (d := 120) (v := ?_) rfl rfl (by kernel_rfl) (by kernel_rfl) (by kernel_rfl) (fun _ _ _ h => h) (Or.inl ⟨by rfl, ?_⟩) (by assumption) ?_
  rotate_left
  · (intro w hSw; (try dsimp only at hSw); go_simp; (try with_reducible rfl))
  (try simp only [Act.put, List.setIfInBounds_toArray, List.set_cons_zero, List.set_cons_succ])
  refine wpAnyH_ready (rs := [17]) (by kernel_rfl) (by simp) ?_
  refine AllReadyH.cons (o := _) rfl (fun K hK => ?_) AllReadyH.nil
  go_simp
  go_at_call 13
  refine (HOA.out _ hHeld).mono ?_
  rintro e w4 ⟨rfl, hxw4⟩
  have hEw4 : Wb.Ext wO w4 := hHeld.trans hxw4
  (try go_simp)
  refine hK.out _ _ hEw4 (fun hHeld => ?_)
  clear hK K
  (try simp only [List.setIfInBounds_toArray, List.set_cons_zero, List.set_cons_succ])
  refine wpAnyH_ready (rs := [20]) (by kernel_rfl) (by simp) ?_
  refine AllReadyH.cons (o := _) rfl (fun K hK => ?_) AllReadyH.nil
  go_simp
  go_at_call 13
  refine (HOB.out _ hHeld).mono ?_
  rintro e w5 ⟨rfl, hxw5⟩
  have hEw5 : Wb.Ext wO w5 := hHeld.trans hxw5
  (try go_simp)
  refine hK.out _ _ hEw5 (fun hHeld => ?_)
  clear hK K
  (try simp only [List.setIfInBounds_toArray, List.set_cons_zero, List.set_cons_succ])
  refine take_d (i := 21) (d := 122) (v := ?_) rfl rfl (by kernel_rfl) (by kernel_rfl) (by kernel_rfl) (fun _ _ _ h => h) (Or.inl ⟨by rfl, ?_⟩) (by assumption) ?_
  rotate_left
  · (intro w hSw; (try dsimp only at hSw); go_simp; (try with_reducible rfl))
  (try simp only [Act.put, List.setIfInBounds_toArray, List.set_cons_zero, List.set_cons_succ])
  refine take_d (i := 22) (d := 123) (v := ?_) rfl rfl (by kernel_rfl) (by kernel_rfl) (by kernel_rfl) (fun _ _ _ h => h) (Or.inl ⟨by rfl, ?_⟩) (by assumption) ?_
  rotate_left
  · (intro w hSw; (try dsimp only at hSw); go_simp; (try with_reducible rfl))
  (try simp only [Act.put, List.setIfInBounds_toArray, List.set_cons_zero, List.set_cons_succ])
  refine take_d (i := 23) (d := 124) (v := ?_) rfl rfl (by kernel_rfl) (by kernel_rfl) (by kernel_rfl) (fun _ _ _ h => h) (Or.inl ⟨by rfl, ?_⟩) (by assumption) ?_
  rotate_left
  · (intro w hSw; (try dsimp only at hSw); go_simp; (try with_reducible rfl))
  (try simp only [Act.put, List.setIfInBounds_toArray, List.set_cons_zero, List.set_cons_succ])
  refine take_d (i := 24) (d := 125) (v := ?_) rfl rfl (by kernel_rfl) (by kernel_rfl) (by kernel_rfl) (fun _ _ _ h => h) (Or.inl ⟨by rfl, ?_⟩) (by assumption) ?_
  rotate_left
  · (intro w hSw; (try dsimp only at hSw); go_simp; (try with_reducible rfl))
  (try simp only [Act.put, List.setIfInBounds_toArray, List.set_cons_zero, List.set_cons_succ])
  refine take_d (i := 25) (d := 126) (v := ?_) rfl rfl (by kernel_rfl) (by kernel_rfl) (by kernel_rfl) (fun _ _ _ h => h) (Or.inl ⟨by rfl, ?_⟩) (by assumption) ?_
  rotate_left
  · (intro w hSw; (try dsimp only at hSw); go_simp; (try with_reducible rfl))
  (try simp only [Act.put, List.setIfInBounds_toArray, List.set_cons_zero, List.set_cons_succ])
  refine take_d (i := 27) (d := 128) (v := ?_) rfl rfl (by kernel_rfl) (by kernel_rfl) (by kernel_rfl) (fun _ _ _ h => h) (Or.inl ⟨by rfl, ?_⟩) (by assumption) ?_
  rotate_left
  · (intro w hSw; (try dsimp only at hSw); go_simp; (try with_reducible rfl))
  (try simp only [Act.put, List.setIfInBounds_toArray, List.set_cons_zero, List.set_cons_succ])
  refine take_d (i := 28) (d := 129) (v := ?_) rfl rfl (by kernel_rfl) (by kernel_rfl) (by kernel_rfl) (fun _ _ _ h => h) (Or.inl ⟨by rfl, ?_⟩) (by assumption) ?_
  rotate_left
  · (intro w hSw; (try dsimp only at hSw); go_simp; (try with_reducible rfl))
  (try simp only [Act.put, List.setIfInBounds_toArray, List.set_cons_zero, List.set_cons_succ])
  refine wpAnyH_ready (rs := [26]) (by kernel_rfl) (by simp) ?_
  refine AllReadyH.cons (o := _) rfl (fun K hK => ?_) AllReadyH.nil
  go_simp
  go_at_call 15
  refine (HPA.out _ hHeld).mono ?_
  rintro e w6 ⟨pa, pc, D, rfl, hDD, hxw6⟩
  have hEw6 : Wb.Ext wO w6 := hHeld.trans hxw6
  (try go_simp)
  refine hK.out _ _ hEw6 (fun hHeld => ?_)
  clear hK K
  (try simp only [List.setIfInBounds_toArray, List.set_cons_zero, List.set_cons_succ])
  refine wpAnyH_ready (rs := [29]) (by kernel_rfl) (by simp) ?_
  refine AllReadyH.cons (o := _) rfl (fun K hK => ?_) AllReadyH.nil
  go_simp
  go_at_call 15
  refine (HPC.out _ hHeld).mono ?_
  rintro e w7 ⟨pb, pd, G, rfl, hFF, hxw7⟩
  have hEw7 : Wb.Ext wO w7 := hHeld.trans hxw7
  (try go_simp)
  refine hK.out _ _ hEw7 (fun hHeld => ?_)
  clear hK K
  (try simp only [List.setIfInBounds_toArray, List.set_cons_zero, List.set_cons_succ])
  refine wpAnyH_ready (rs := [30]) (by kernel_rfl) (by simp) ?_
  refine AllReadyH.cons (o := _) rfl (fun K hK => ?_) AllReadyH.nil
  go_simp
  go_at_call 24
  refine (all31_eq _ _ D G _ (hDD.out.1.ext hxw7) hFF.out.1 (hDD.out.2.trans hFF.out.2.symm) (by have := congrArg List.length hDD.out.2; rw [List.length_map] at this; omega)).mono ?_
  rintro e w8 ⟨rfl, hxw8⟩
  have hEw8 : Wb.Ext wO w8 := hHeld.trans hxw8
  (try go_simp)
  refine hK.out _ _ hEw8 (fun hHeld => ?_)
  clear hK K
  (try simp only [List.setIfInBounds_toArray, List.set_cons_zero, List.set_cons_succ])
  refine take_d (i := 31) (d := 132) (v := ?_) rfl rfl (by kernel_rfl) (by kernel_rfl) (by kernel_rfl) (fun _ _ _ h => h) (Or.inl ⟨by rfl, ?_⟩) (by assumption) ?_
  rotate_left
  · (intro w hSw; (try dsimp only at hSw); go_simp; (try with_reducible rfl))
  (try simp only [Act.put, List.setIfInBounds_toArray, List.set_cons_zero, List.set_cons_succ])
  refine take_d (i := 32) (d := 133) (v := ?_) rfl rfl (by kernel_rfl) (by kernel_rfl) (by kernel_rfl) (fun _ _ _ h => h) (Or.inl ⟨by rfl, ?_⟩) (by assumption) ?_
  rotate_left
  · (intro w hSw; (try dsimp only at hSw); go_simp; (try with_reducible rfl))
  (try simp only [Act.put, List.setIfInBounds_toArray, List.set_cons_zero, List.set_cons_succ])
  refine wpAnyH_done (by kernel_rfl) ?_ _
  exact ⟨_, _, _, _, _, _, _, _, _, _, _, _, _, _, _, _, _, _, _, _, _, _, _, _, _, _, _, _, _, _, _, _, rfl, hHeld⟩
end Go.Proofs.YtnefdpnolojojaaGreat
