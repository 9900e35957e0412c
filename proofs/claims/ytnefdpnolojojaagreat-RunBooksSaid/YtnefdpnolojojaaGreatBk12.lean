/- Bk12 -/
import Derived.Test.YtnefdpnolojojaaGreatMDa
import Derived.Test.YtnefdpnolojojaaGreatBk8
import Derived.Test.YtnefdpnolojojaaGreatMRf
import Derived.Test.YtnefdpnolojojaaGreatMRb
import Derived.Deep.RegionHeld
namespace Go.Proofs.YtnefdpnolojojaaGreat
open Go.RowKit Go.Sort Go.Lib Go.Maps
set_option maxRecDepth 8000
attribute [local go_sem ↓] Go.wp_at_zero Go.wp_at_succ
noncomputable def bk12eR : Code := ((Tryz.f9.body.bind (findReg 12)).getD .skip)
set_option maxHeartbeats 100000000 in
theorem bk12e (x0 x1 x2 x3 x4 x5 x7 x11 x12 x13 x14 x15 x16 x17 x18 x19 x20 x21 x22 x23 x24 x25 x26 x27 x28 x29 x30 x31 x32 x33 x34 x35 x36 x37 x38 x39 x40 x41 x42 x43 x44 x45 x46 x47 x48 x49 x50 x51 x52 x53 x54 x55 x56 x57 x58 x59 x60 x61 x62 x63 x64 x65 x66 x67 x68 x69 x70 x71 x72 x73 x74 x75 x76 x77 x78 x79 x80 x81 x82 x83 x84 x85 x86 x87 x88 x89 x90 x91 x92 x93 x94 x95 x96 x97 x98 x99 x100 x101 x102 x103 x104 x105 x106 x107 x108 x109 x110 x111 x112 x113 x114 x115 x116 x117 x118 x119 x120 x121 x122 x123 x124 x125 x126 x127 x128 x129 x130 x131 x132 x133 x134 x135 x136 x137 x138 x139 x140 x141 x142 x143 x144 x145 x146 x147 x148 x149 x150 x151 x152 x153 x154 x155 x156 x157 x158 x159 x160 x161 x162 x163 x164 x165 x166 x167 x168 x169 x170 x171 x172 x173 x174 x175 : Value) (ds) (wO : World) (Q R m sc rc zl zc : Nat) (sa rb za : Option Addr) (n y i k : Int)
  (q0 : ∀ x, Wb.Ext wO x → x.cell? ⟨Q, 0, none⟩ = some (.slice rb m rc)) (z0 : ∀ x, Wb.Ext wO x → x.cell? ⟨R, 0, none⟩ = some (.int .i64 n)) (z1 : ∀ x, Wb.Ext wO x → x.cell? ⟨R, 1, none⟩ = some (.int .i64 y)) (z2 : ∀ x, Wb.Ext wO x → x.cell? ⟨R, 2, none⟩ = some (.int .i64 i)) (z3 : ∀ x, Wb.Ext wO x → x.cell? ⟨R, 3, none⟩ = some (.int .i64 k)) (z4 : ∀ x, Wb.Ext wO x → x.cell? ⟨R, 4, none⟩ = some (.slice za zl zc))
  (d1 : decide ((0 : Int) < (m : Int)) = false)
  (hs1 : ∀ W, Wb.Ext wO W → Calls Tryz.prog 22 #[.agg #[.int .i64 n, .int .i64 y, .int .i64 i, .int .i64 k, .slice za zl zc], .agg #[.int .i64 0, .int .i64 0, .int .i64 0, .int .i64 0, .slice none 0 0]] W fun e w' => e = .returned (.bool true) ∧ Wb.Ext W w') :
  Code.wp Tryz.prog bk12eR (OnEnd fun a' wx => ∃ (u69 u70 u71 u72 u73 u74 u75 u76 u77 u78 u79 u80 u81 u82 u83 u84 u85 u86 u87 u88 u89 u90 u91 u92 u93 u94 u95 u96 u97 u98 u99 u100 u101 u102 u103 u104 : Value), a' = ⟨#[x0, x1, x2, x3, x4, x5, .pointer (some ⟨Q, 0, none⟩), x7, .slice sa m sc, .pointer (some ⟨R, 0, none⟩), .bool false, x11, x12, x13, x14, x15, x16, x17, x18, x19, x20, x21, x22, x23, x24, x25, x26, x27, x28, x29, x30, x31, x32, x33, x34, x35, x36, x37, x38, x39, x40, x41, x42, x43, x44, x45, x46, x47, x48, x49, x50, x51, x52, x53, x54, x55, x56, x57, x58, x59, x60, x61, x62, x63, x64, x65, x66, x67, x68, u69, u70, u71, u72, u73, u74, u75, u76, u77, u78, u79, u80, u81, u82, u83, u84, u85, u86, u87, u88, u89, u90, u91, u92, u93, u94, u95, u96, u97, u98, u99, u100, u101, u102, u103, u104, .bool false, x106, x107, x108, x109, x110, x111, x112, x113, x114, x115, x116, x117, x118, x119, x120, x121, x122, x123, x124, x125, x126, x127, x128, x129, x130, x131, x132, x133, x134, x135, x136, x137, x138, x139, x140, x141, x142, x143, x144, x145, x146, x147, x148, x149, x150, x151, x152, x153, x154, x155, x156, x157, x158, x159, x160, x161, x162, x163, x164, x165, x166, x167, x168, x169, x170, x171, x172, x173, x174, x175], ds⟩ ∧ Wb.Ext wO wx) ⟨#[x0, x1, x2, x3, x4, x5, .pointer (some ⟨Q, 0, none⟩), x7, .slice sa m sc, .pointer (some ⟨R, 0, none⟩), .bool false, x11, x12, x13, x14, x15, x16, x17, x18, x19, x20, x21, x22, x23, x24, x25, x26, x27, x28, x29, x30, x31, x32, x33, x34, x35, x36, x37, x38, x39, x40, x41, x42, x43, x44, x45, x46, x47, x48, x49, x50, x51, x52, x53, x54, x55, x56, x57, x58, x59, x60, x61, x62, x63, x64, x65, x66, x67, x68, x69, x70, x71, x72, x73, x74, x75, x76, x77, x78, x79, x80, x81, x82, x83, x84, x85, x86, x87, x88, x89, x90, x91, x92, x93, x94, x95, x96, x97, x98, x99, x100, x101, x102, x103, x104, x105, x106, x107, x108, x109, x110, x111, x112, x113, x114, x115, x116, x117, x118, x119, x120, x121, x122, x123, x124, x125, x126, x127, x128, x129, x130, x131, x132, x133, x134, x135, x136, x137, x138, x139, x140, x141, x142, x143, x144, x145, x146, x147, x148, x149, x150, x151, x152, x153, x154, x155, x156, x157, x158, x159, x160, x161, x162, x163, x164, x165, x166, x167, x168, x169, x170, x171, x172, x173, x174, x175], ds⟩ wO := by
 have HS1 := Lib.hid hs1
 have n1n : decide (0 < m) = false := by simp at d1 ⊢; omega
 have n1n2 : ¬ 0 < m := by simp at d1; omega
 have n1 : ¬ (0 : Int) < (m : Int) := by omega
 have q1 : ((m : Int) != m) = false := by simp
 clear hs1
 conv => arg 2; whnf
 refine region_start (S := Wb.Ext wO) (n := 37) (l := #[false, false, false, false, false, false, false, false, false, false, false, false, false, false, false, false, false, false, false, false, false, false, false, false, false, false, false, false, false, false, false, false, false, false, false, false, false]) (by kernel_rfl) (.drew (.refl wO)) (by kernel_rfl) (by kernel_rfl) (fun hHeld => ?_)
 refine tD 0 ?_
 refine tD 1 ?_
 refine tD 2 ?_
 refine tD 3 ?_
 refine tD 4 ?_
 refine tD 5 ?_
 refine tD 6 ?_
 refine tD 7 ?_
 refine tD 8 ?_
 refine tD 9 ?_
 refine tD 10 ?_
 refine tD 11 ?_
 refine tD 12 ?_
 refine tD 13 ?_
 refine tD 14 ?_
 refine tD 15 ?_
 refine tD 16 ?_
 refine tD 17 ?_
 refine tD 18 ?_
 refine wpAnyH_ready (rs := [19]) (by kernel_rfl) (by simp) ?_
 refine AllReadyH.cons (o := _) rfl (fun K hK => ?_) AllReadyH.nil
 go_simp
 go_at_call 22
 refine (HS1.out _ hHeld).mono ?_
 rintro e w1 ⟨rfl, hxw1⟩
 have hEw1 : Wb.Ext wO w1 := hHeld.trans hxw1
 (try go_simp)
 refine hK.out _ _ hEw1 (fun hHeld => ?_)
 clear hK K
 (try simp only [List.setIfInBounds_toArray, List.set_cons_zero, List.set_cons_succ])
 refine tD 20 ?_
 refine tD 21 ?_
 refine tD 22 ?_
 refine tD 23 ?_
 refine tD 24 ?_
 refine tD 25 ?_
 refine tN 26 ?_
 refine tN 27 ?_
 refine tN 28 ?_
 refine tN 29 ?_
 refine tN 30 ?_
 refine tN 31 ?_
 refine tN 32 ?_
 refine tN 33 ?_
 refine tN 34 ?_
 refine tD 35 ?_
 refine tD 36 ?_
 refine wpAnyH_done (by kernel_rfl) ?_ _
 exact ⟨_, _, _, _, _, _, _, _, _, _, _, _, _, _, _, _, _, _, _, _, _, _, _, _, _, _, _, _, _, _, _, _, _, _, _, _, rfl, hHeld⟩
noncomputable def bk12nR : Code := ((Tryz.f9.body.bind (findReg 12)).getD .skip)
set_option maxHeartbeats 100000000 in
theorem bk12n (x0 x1 x2 x3 x4 x5 x7 x11 x12 x13 x14 x15 x16 x17 x18 x19 x20 x21 x22 x23 x24 x25 x26 x27 x28 x29 x30 x31 x32 x33 x34 x35 x36 x37 x38 x39 x40 x41 x42 x43 x44 x45 x46 x47 x48 x49 x50 x51 x52 x53 x54 x55 x56 x57 x58 x59 x60 x61 x62 x63 x64 x65 x66 x67 x68 x69 x70 x71 x72 x73 x74 x75 x76 x77 x78 x79 x80 x81 x82 x83 x84 x85 x86 x87 x88 x89 x90 x91 x92 x93 x94 x95 x96 x97 x98 x99 x100 x101 x102 x103 x104 x105 x106 x107 x108 x109 x110 x111 x112 x113 x114 x115 x116 x117 x118 x119 x120 x121 x122 x123 x124 x125 x126 x127 x128 x129 x130 x131 x132 x133 x134 x135 x136 x137 x138 x139 x140 x141 x142 x143 x144 x145 x146 x147 x148 x149 x150 x151 x152 x153 x154 x155 x156 x157 x158 x159 x160 x161 x162 x163 x164 x165 x166 x167 x168 x169 x170 x171 x172 x173 x174 x175 : Value) (ds) (wO : World) (Q R b off m t sc rc zl zc yl yc : Nat) (rb za ya : Option Addr) (n y i k : Int)
  (q0 : ∀ x, Wb.Ext wO x → x.cell? ⟨Q, 0, none⟩ = some (.slice rb m rc)) (z0 : ∀ x, Wb.Ext wO x → x.cell? ⟨R, 0, none⟩ = some (.int .i64 n)) (z1 : ∀ x, Wb.Ext wO x → x.cell? ⟨R, 1, none⟩ = some (.int .i64 y)) (z2 : ∀ x, Wb.Ext wO x → x.cell? ⟨R, 2, none⟩ = some (.int .i64 i)) (z3 : ∀ x, Wb.Ext wO x → x.cell? ⟨R, 3, none⟩ = some (.int .i64 k)) (z4 : ∀ x, Wb.Ext wO x → x.cell? ⟨R, 4, none⟩ = some (.slice za zl zc))
  (m1 : ∀ x, Wb.Ext wO x → x.cell? ⟨b, off + t * 5 + 1, none⟩ = some (.int .i64 y)) (m2 : ∀ x, Wb.Ext wO x → x.cell? ⟨b, off + t * 5 + 2, none⟩ = some (.int .i64 i)) (m3 : ∀ x, Wb.Ext wO x → x.cell? ⟨b, off + t * 5 + 3, none⟩ = some (.int .i64 k)) (m4 : ∀ x, Wb.Ext wO x → x.cell? ⟨b, off + t * 5 + 4, none⟩ = some (.slice ya yl yc)) (m0 : ∀ x, Wb.Ext wO x → x.cell? ⟨b, off + t * 5, none⟩ = some (.int .i64 n))
  (hw : IntKind.i64.wrap ((m : Int) - 1) = (t : Int)) (htm : (t : Int) < m)
  (hs1 : ∀ W, Wb.Ext wO W → Calls Tryz.prog 22 #[.agg #[.int .i64 n, .int .i64 y, .int .i64 i, .int .i64 k, .slice za zl zc], .agg #[.int .i64 n, .int .i64 y, .int .i64 i, .int .i64 k, .slice ya yl yc]] W fun e w' => e = .returned (.bool true) ∧ Wb.Ext W w') :
  Code.wp Tryz.prog bk12nR (OnEnd fun a' wx => ∃ (u69 u70 u71 u72 u73 u74 u75 u76 u77 u78 u79 u80 u81 u82 u83 u84 u85 u86 u87 u88 u89 u90 u91 u92 u93 u94 u95 u96 u97 u98 u99 u100 u101 u102 u103 u104 : Value), a' = ⟨#[x0, x1, x2, x3, x4, x5, .pointer (some ⟨Q, 0, none⟩), x7, .slice (some ⟨b, off, none⟩) m sc, .pointer (some ⟨R, 0, none⟩), .bool true, x11, x12, x13, x14, x15, x16, x17, x18, x19, x20, x21, x22, x23, x24, x25, x26, x27, x28, x29, x30, x31, x32, x33, x34, x35, x36, x37, x38, x39, x40, x41, x42, x43, x44, x45, x46, x47, x48, x49, x50, x51, x52, x53, x54, x55, x56, x57, x58, x59, x60, x61, x62, x63, x64, x65, x66, x67, x68, u69, u70, u71, u72, u73, u74, u75, u76, u77, u78, u79, u80, u81, u82, u83, u84, u85, u86, u87, u88, u89, u90, u91, u92, u93, u94, u95, u96, u97, u98, u99, u100, u101, u102, u103, u104, .bool false, x106, x107, x108, x109, x110, x111, x112, x113, x114, x115, x116, x117, x118, x119, x120, x121, x122, x123, x124, x125, x126, x127, x128, x129, x130, x131, x132, x133, x134, x135, x136, x137, x138, x139, x140, x141, x142, x143, x144, x145, x146, x147, x148, x149, x150, x151, x152, x153, x154, x155, x156, x157, x158, x159, x160, x161, x162, x163, x164, x165, x166, x167, x168, x169, x170, x171, x172, x173, x174, x175], ds⟩ ∧ Wb.Ext wO wx) ⟨#[x0, x1, x2, x3, x4, x5, .pointer (some ⟨Q, 0, none⟩), x7, .slice (some ⟨b, off, none⟩) m sc, .pointer (some ⟨R, 0, none⟩), .bool true, x11, x12, x13, x14, x15, x16, x17, x18, x19, x20, x21, x22, x23, x24, x25, x26, x27, x28, x29, x30, x31, x32, x33, x34, x35, x36, x37, x38, x39, x40, x41, x42, x43, x44, x45, x46, x47, x48, x49, x50, x51, x52, x53, x54, x55, x56, x57, x58, x59, x60, x61, x62, x63, x64, x65, x66, x67, x68, x69, x70, x71, x72, x73, x74, x75, x76, x77, x78, x79, x80, x81, x82, x83, x84, x85, x86, x87, x88, x89, x90, x91, x92, x93, x94, x95, x96, x97, x98, x99, x100, x101, x102, x103, x104, x105, x106, x107, x108, x109, x110, x111, x112, x113, x114, x115, x116, x117, x118, x119, x120, x121, x122, x123, x124, x125, x126, x127, x128, x129, x130, x131, x132, x133, x134, x135, x136, x137, x138, x139, x140, x141, x142, x143, x144, x145, x146, x147, x148, x149, x150, x151, x152, x153, x154, x155, x156, x157, x158, x159, x160, x161, x162, x163, x164, x165, x166, x167, x168, x169, x170, x171, x172, x173, x174, x175], ds⟩ wO := by
 have HS1 := Lib.hid hs1
 have d0 : (0 : Int) < (m : Int) := by omega
 have d1 : decide ((0 : Int) < (m : Int)) = true := by simpa using d0
 have d1n : decide (0 < m) = true := by simp; omega
 have q1 : ((m : Int) != m) = false := by simp
 clear hs1
 conv => arg 2; whnf
 refine region_start (S := Wb.Ext wO) (n := 37) (l := #[false, false, false, false, false, false, false, false, false, false, false, false, false, false, false, false, false, false, false, false, false, false, false, false, false, false, false, false, false, false, false, false, false, false, false, false, false]) (by kernel_rfl) (.drew (.refl wO)) (by kernel_rfl) (by kernel_rfl) (fun hHeld => ?_)
 refine tD 0 ?_
 refine tD 1 ?_
 refine tD 2 ?_
 refine tD 3 ?_
 refine tD 4 ?_
 refine tD 5 ?_
 refine tD 6 ?_
 refine tD 7 ?_
 refine tD 8 ?_
 refine tD 9 ?_
 refine tD 10 ?_
 refine tD 11 ?_
 refine tD 12 ?_
 refine tD 13 ?_
 refine tD 14 ?_
 refine tD 15 ?_
 refine tD 16 ?_
 refine tN 17 ?_
 refine tN 18 ?_
 refine tN 19 ?_
 refine tN 20 ?_
 refine tD 21 ?_
 refine tD 22 ?_
 refine tD 23 ?_
 refine tD 24 ?_
 refine tD 25 ?_
 refine tD 26 ?_
 refine tD 27 ?_
 refine tD 28 ?_
 refine tD 29 ?_
 refine tD 30 ?_
 refine tD 31 ?_
 refine tD 32 ?_
 refine wpAnyH_ready (rs := [33]) (by kernel_rfl) (by simp) ?_
 refine AllReadyH.cons (o := _) rfl (fun K hK => ?_) AllReadyH.nil
 go_simp
 go_at_call 22
 refine (HS1.out _ hHeld).mono ?_
 rintro e w1 ⟨rfl, hxw1⟩
 have hEw1 : Wb.Ext wO w1 := hHeld.trans hxw1
 (try go_simp)
 refine hK.out _ _ hEw1 (fun hHeld => ?_)
 clear hK K
 (try simp only [List.setIfInBounds_toArray, List.set_cons_zero, List.set_cons_succ])
 refine tD 34 ?_
 refine tD 35 ?_
 refine tD 36 ?_
 refine wpAnyH_done (by kernel_rfl) ?_ _
 exact ⟨_, _, _, _, _, _, _, _, _, _, _, _, _, _, _, _, _, _, _, _, _, _, _, _, _, _, _, _, _, _, _, _, _, _, _, _, rfl, hHeld⟩
def BkCond (wO : World) (ok : Bool) (m : Nat) (sa : Option Addr) (n y i k : Int) (za : Option Addr) (zl zc : Nat) : Prop :=
 (ok = false ∧ decide ((0 : Int) < (m : Int)) = false ∧ ∀ W, Wb.Ext wO W → Calls Tryz.prog 22 #[.agg #[.int .i64 n, .int .i64 y, .int .i64 i, .int .i64 k, .slice za zl zc], .agg #[.int .i64 0, .int .i64 0, .int .i64 0, .int .i64 0, .slice none 0 0]] W fun e w' => e = .returned (.bool true) ∧ Wb.Ext W w') ∨
 (ok = true ∧ ∃ (b off t yl yc : Nat) (ya : Option Addr), sa = some ⟨b, off, none⟩ ∧ (∀ x, Wb.Ext wO x → x.cell? ⟨b, off + t * 5, none⟩ = some (.int .i64 n)) ∧ (∀ x, Wb.Ext wO x → x.cell? ⟨b, off + t * 5 + 1, none⟩ = some (.int .i64 y)) ∧ (∀ x, Wb.Ext wO x → x.cell? ⟨b, off + t * 5 + 2, none⟩ = some (.int .i64 i)) ∧ (∀ x, Wb.Ext wO x → x.cell? ⟨b, off + t * 5 + 3, none⟩ = some (.int .i64 k)) ∧ (∀ x, Wb.Ext wO x → x.cell? ⟨b, off + t * 5 + 4, none⟩ = some (.slice ya yl yc)) ∧
  IntKind.i64.wrap ((m : Int) - 1) = (t : Int) ∧ (t : Int) < m ∧ ∀ W, Wb.Ext wO W → Calls Tryz.prog 22 #[.agg #[.int .i64 n, .int .i64 y, .int .i64 i, .int .i64 k, .slice za zl zc], .agg #[.int .i64 n, .int .i64 y, .int .i64 i, .int .i64 k, .slice ya yl yc]] W fun e w' => e = .returned (.bool true) ∧ Wb.Ext W w')
theorem bk12 (x0 x1 x2 x3 x4 x5 x7 x11 x12 x13 x14 x15 x16 x17 x18 x19 x20 x21 x22 x23 x24 x25 x26 x27 x28 x29 x30 x31 x32 x33 x34 x35 x36 x37 x38 x39 x40 x41 x42 x43 x44 x45 x46 x47 x48 x49 x50 x51 x52 x53 x54 x55 x56 x57 x58 x59 x60 x61 x62 x63 x64 x65 x66 x67 x68 x69 x70 x71 x72 x73 x74 x75 x76 x77 x78 x79 x80 x81 x82 x83 x84 x85 x86 x87 x88 x89 x90 x91 x92 x93 x94 x95 x96 x97 x98 x99 x100 x101 x102 x103 x104 x105 x106 x107 x108 x109 x110 x111 x112 x113 x114 x115 x116 x117 x118 x119 x120 x121 x122 x123 x124 x125 x126 x127 x128 x129 x130 x131 x132 x133 x134 x135 x136 x137 x138 x139 x140 x141 x142 x143 x144 x145 x146 x147 x148 x149 x150 x151 x152 x153 x154 x155 x156 x157 x158 x159 x160 x161 x162 x163 x164 x165 x166 x167 x168 x169 x170 x171 x172 x173 x174 x175 : Value) (ds) (wO : World) (ok : Bool) (Q R m sc rc zl zc : Nat) (sa rb za : Option Addr) (n y i k : Int)
  (q0 : ∀ x, Wb.Ext wO x → x.cell? ⟨Q, 0, none⟩ = some (.slice rb m rc)) (z0 : ∀ x, Wb.Ext wO x → x.cell? ⟨R, 0, none⟩ = some (.int .i64 n)) (z1 : ∀ x, Wb.Ext wO x → x.cell? ⟨R, 1, none⟩ = some (.int .i64 y)) (z2 : ∀ x, Wb.Ext wO x → x.cell? ⟨R, 2, none⟩ = some (.int .i64 i)) (z3 : ∀ x, Wb.Ext wO x → x.cell? ⟨R, 3, none⟩ = some (.int .i64 k)) (z4 : ∀ x, Wb.Ext wO x → x.cell? ⟨R, 4, none⟩ = some (.slice za zl zc))
  (h : BkCond wO ok m sa n y i k za zl zc) :
  Code.wp Tryz.prog bk12eR (OnEnd fun a' wx => ∃ (u69 u70 u71 u72 u73 u74 u75 u76 u77 u78 u79 u80 u81 u82 u83 u84 u85 u86 u87 u88 u89 u90 u91 u92 u93 u94 u95 u96 u97 u98 u99 u100 u101 u102 u103 u104 : Value), a' = ⟨#[x0, x1, x2, x3, x4, x5, .pointer (some ⟨Q, 0, none⟩), x7, .slice sa m sc, .pointer (some ⟨R, 0, none⟩), .bool ok, x11, x12, x13, x14, x15, x16, x17, x18, x19, x20, x21, x22, x23, x24, x25, x26, x27, x28, x29, x30, x31, x32, x33, x34, x35, x36, x37, x38, x39, x40, x41, x42, x43, x44, x45, x46, x47, x48, x49, x50, x51, x52, x53, x54, x55, x56, x57, x58, x59, x60, x61, x62, x63, x64, x65, x66, x67, x68, u69, u70, u71, u72, u73, u74, u75, u76, u77, u78, u79, u80, u81, u82, u83, u84, u85, u86, u87, u88, u89, u90, u91, u92, u93, u94, u95, u96, u97, u98, u99, u100, u101, u102, u103, u104, .bool false, x106, x107, x108, x109, x110, x111, x112, x113, x114, x115, x116, x117, x118, x119, x120, x121, x122, x123, x124, x125, x126, x127, x128, x129, x130, x131, x132, x133, x134, x135, x136, x137, x138, x139, x140, x141, x142, x143, x144, x145, x146, x147, x148, x149, x150, x151, x152, x153, x154, x155, x156, x157, x158, x159, x160, x161, x162, x163, x164, x165, x166, x167, x168, x169, x170, x171, x172, x173, x174, x175], ds⟩ ∧ Wb.Ext wO wx) ⟨#[x0, x1, x2, x3, x4, x5, .pointer (some ⟨Q, 0, none⟩), x7, .slice sa m sc, .pointer (some ⟨R, 0, none⟩), .bool ok, x11, x12, x13, x14, x15, x16, x17, x18, x19, x20, x21, x22, x23, x24, x25, x26, x27, x28, x29, x30, x31, x32, x33, x34, x35, x36, x37, x38, x39, x40, x41, x42, x43, x44, x45, x46, x47, x48, x49, x50, x51, x52, x53, x54, x55, x56, x57, x58, x59, x60, x61, x62, x63, x64, x65, x66, x67, x68, x69, x70, x71, x72, x73, x74, x75, x76, x77, x78, x79, x80, x81, x82, x83, x84, x85, x86, x87, x88, x89, x90, x91, x92, x93, x94, x95, x96, x97, x98, x99, x100, x101, x102, x103, x104, x105, x106, x107, x108, x109, x110, x111, x112, x113, x114, x115, x116, x117, x118, x119, x120, x121, x122, x123, x124, x125, x126, x127, x128, x129, x130, x131, x132, x133, x134, x135, x136, x137, x138, x139, x140, x141, x142, x143, x144, x145, x146, x147, x148, x149, x150, x151, x152, x153, x154, x155, x156, x157, x158, x159, x160, x161, x162, x163, x164, x165, x166, x167, x168, x169, x170, x171, x172, x173, x174, x175], ds⟩ wO := by
 rcases h with ⟨rfl, h1, h2⟩ | ⟨rfl, b, off, t, yl, yc, ya, rfl, h0, h1, h2, h3, h4, h5, h6, h7⟩
 ·exact bk12e _ _ _ _ _ _ _ _ _ _ _ _ _ _ _ _ _ _ _ _ _ _ _ _ _ _ _ _ _ _ _ _ _ _ _ _ _ _ _ _ _ _ _ _ _ _ _ _ _ _ _ _ _ _ _ _ _ _ _ _ _ _ _ _ _ _ _ _ _ _ _ _ _ _ _ _ _ _ _ _ _ _ _ _ _ _ _ _ _ _ _ _ _ _ _ _ _ _ _ _ _ _ _ _ _ _ _ _ _ _ _ _ _ _ _ _ _ _ _ _ _ _ _ _ _ _ _ _ _ _ _ _ _ _ _ _ _ _ _ _ _ _ _ _ _ _ _ _ _ _ _ _ _ _ _ _ _ _ _ _ _ _ _ _ _ _ _ _ _ _ _ _ _ wO Q R m sc rc zl zc sa rb za n y i k q0 z0 z1 z2 z3 z4 h1 h2
 ·exact bk12n _ _ _ _ _ _ _ _ _ _ _ _ _ _ _ _ _ _ _ _ _ _ _ _ _ _ _ _ _ _ _ _ _ _ _ _ _ _ _ _ _ _ _ _ _ _ _ _ _ _ _ _ _ _ _ _ _ _ _ _ _ _ _ _ _ _ _ _ _ _ _ _ _ _ _ _ _ _ _ _ _ _ _ _ _ _ _ _ _ _ _ _ _ _ _ _ _ _ _ _ _ _ _ _ _ _ _ _ _ _ _ _ _ _ _ _ _ _ _ _ _ _ _ _ _ _ _ _ _ _ _ _ _ _ _ _ _ _ _ _ _ _ _ _ _ _ _ _ _ _ _ _ _ _ _ _ _ _ _ _ _ _ _ _ _ _ _ _ _ _ _ _ _ wO Q R b off m t sc rc zl zc yl yc rb za ya n y i k q0 z0 z1 z2 z3 z4 h1 h2 h3 h4 h0 h5 h6 h7
theorem cond_of {W2 : World} {ok : Bool} {R : List Wb.Rn} {r : RnM} {sa za : Option Addr} {sd zc : Nat} {WL : List RnM} (hok : ok = true ↔ R ≠ []) (hv : r.rv = .slice za r.rows.length zc) (hr : RowsM W2 r.rv r.rows) (hc : r.c = R.getLast?.getD Wb.noRn) (hL : RunsM W2 (.slice sa R.length sd) WL) (hl : R.length ≤ 50000) (hw : WL.map RnM.c = R) :
  BkCond W2 ok R.length sa r.n r.y r.i r.k za r.rows.length zc := by
 rcases hR : R.getLast? with _ | l
 ·have hn : R = [] := List.getLast?_eq_none_iff.1 hR
  left
  subst hn
  have hk : ok = false := by
   cases ok
   ·rfl
   ·exact absurd rfl (hok.1 rfl)
  refine ⟨hk, by decide, fun W e => ?_⟩
  rw [hR] at hc
  have hc : r.c = Wb.noRn := hc
  unfold RnM.c Wb.noRn at hc
  injection hc with q1 q2 q3 q4 q5
  have q6 : r.rows = [] := List.map_eq_nil_iff.1 q5
  have hz : RowsM W (.slice none 0 0) [] := ⟨Tbl.nil, (fun r hr => by cases hr), by simp, (fun r hr => by cases hr)⟩
  have := same31r_eq 0 0 0 0 r.rv (.slice none 0 0) r.rows [] W (hr.ext e) hz (by rw [q6])
  rw [q1, q2, q3, q4, ← hv]
  exact this
 ·have hn : R ≠ [] := fun e => by rw [e] at hR; cases hR
  right
  have hk := hok.2 hn
  rw [hR] at hc
  have hc : r.c = l := hc
  have hWl : WL.length = R.length := by rw [← hw, List.length_map]
  have hpos : 0 < R.length := List.length_pos_iff.2 hn
  obtain ⟨t, ht⟩ : ∃ t, t + 1 = R.length := ⟨R.length - 1, by omega⟩
  obtain ⟨x, hx⟩ := Wb.get_ex (show t < WL.length by omega)
  have hxl : x.c = l := by
   rw [← hw, List.getLast?_eq_getElem?, List.length_map, List.getElem?_map, hWl, show R.length - 1 = t by omega, hx] at hR
   exact Option.some.inj hR
  have hT := hL.tab
  rw [← hWl] at hT
  obtain ⟨b, off, hb9, hc9⟩ := hT.opened (by rintro rfl; simp at hx)
  have hxr := hL.each x (List.mem_of_getElem? hx)
  obtain ⟨ya, yc, hxv⟩ := hxr.tab.shape
  have hrx : r.c = x.c := hc.trans hxl.symm
  have hrx2 := hrx
  unfold RnM.c at hrx2
  injection hrx2 with q1 q2 q3 q4 q5
  refine ⟨hk, b, off, t, x.rows.length, yc, ya, hb9, fun w e => e.keep ?_, fun w e => e.keep ?_, fun w e => e.keep ?_, fun w e => e.keep ?_, fun w e => e.keep ?_, ?_, by omega, fun W e => ?_⟩
  ·have := hc9 t x hx 0 (.int .i64 r.n) (by rw [q1]; rfl)
   rwa [Nat.add_zero] at this
  ·exact hc9 t x hx 1 (.int .i64 r.y) (by rw [q2]; rfl)
  ·exact hc9 t x hx 2 (.int .i64 r.i) (by rw [q3]; rfl)
  ·exact hc9 t x hx 3 (.int .i64 r.k) (by rw [q4]; rfl)
  ·exact hc9 t x hx 4 (.slice ya x.rows.length yc) (by rw [← hxv]; rfl)
  ·rw [show ((R.length : Int) - 1) = (t : Int) by omega]; exact IntWalk.i64_in _ (by omega)
  ·have := same31r_eq r.n r.y r.i r.k r.rv x.rv r.rows x.rows W (hr.ext e) (hxr.ext e) q5
   rw [← hv, ← hxv]
   exact this
noncomputable def bk27R : Code := ((Tryz.f9.body.bind (findReg 27)).getD .skip)
set_option maxHeartbeats 100000000 in
theorem bk27 (x0 x1 x2 x3 x4 x7 x8 x9 x10 x11 x13 x15 x16 x17 x18 x19 x20 x21 x22 x23 x24 x25 x26 x27 x28 x29 x30 x31 x32 x33 x34 x35 x36 x37 x38 x39 x40 x41 x42 x43 x44 x45 x46 x47 x48 x49 x50 x51 x52 x53 x54 x55 x56 x57 x58 x59 x60 x61 x62 x63 x64 x65 x66 x67 x68 x69 x70 x71 x72 x73 x74 x75 x76 x77 x78 x79 x80 x81 x82 x83 x84 x85 x86 x87 x88 x89 x90 x91 x92 x93 x94 x95 x96 x97 x98 x99 x100 x101 x102 x103 x104 x105 x106 x107 x108 x109 x110 x111 x112 x113 x114 x115 x116 x117 x118 x119 x120 x121 x122 x123 x124 x125 x126 x127 x128 x129 x130 x131 x132 x133 x134 x135 x136 x137 x138 x139 x140 x141 x142 x143 x144 x145 x146 x147 x148 x149 x150 x151 x152 x153 x154 x155 x156 x157 x158 x159 x160 x161 x162 x163 x164 x165 x166 x167 x168 x169 x170 x171 x172 x173 x174 x175 : Value) (ds) (wO : World) (p0 OW : Int) (A Q b off m sc j rl rc yc : Nat) (ra ya : Option Addr) (mp mo np no : Option Nat) (G : List Wb.Sl) (PD : List Wb.Ct)
  (v0 : ∀ x, Wb.Ext wO x → x.cell? ⟨A, 0, none⟩ = some (.slice ra rl rc)) (v1 : ∀ x, Wb.Ext wO x → x.cell? ⟨A, 1, none⟩ = some (.map mp)) (v2 : ∀ x, Wb.Ext wO x → x.cell? ⟨A, 2, none⟩ = some (.map mo))
  (z1 : ∀ x, Wb.Ext wO x → x.cell? ⟨Q, 1, none⟩ = some (.map np)) (z2 : ∀ x, Wb.Ext wO x → x.cell? ⟨Q, 2, none⟩ = some (.map no)) (l0 : ∀ x, Wb.Ext wO x → x.cell? ⟨b, off + j, none⟩ = some (.int .u32 p0)) (hji : (j : Int) < m) (hfew : PD.length ≤ 60) (hpd : G.map Wb.ct = PD) (hyv : Sls wO (.slice ya G.length yc) G)
  (hk1 : ∀ x, Wb.Ext wO x → (Instr.lookup 24 (.map np) (.int .u32 p0) false).run Tryz.prog x = .ok (.slice ya G.length yc) x)
  (hk2 : ∀ x, Wb.Ext wO x → (Instr.lookup 25 (.map no) (.int .u32 p0) false).run Tryz.prog x = .ok (.int .i64 OW) x)
  (hoa : ∀ W, Wb.Ext wO W → Calls Tryz.prog 13 #[.agg #[.slice ra rl rc, .map mp, .map mo], .int .u32 p0] W fun e w' => e = .returned (.int .i64 OW) ∧ Wb.Ext W w')
  (hpa : ∀ W, Wb.Ext wO W → Calls Tryz.prog 15 #[.agg #[.slice ra rl rc, .map mp, .map mo], .int .u32 p0] W fun e w' => ∃ (ua : Option Addr) (uc : Nat) (D : List Wb.Sl), e = .returned (.slice ua D.length uc) ∧ Hid (Sls w' (.slice ua D.length uc) D ∧ D.map Wb.ct = PD) ∧ Wb.Ext W w') :
  Code.wp Tryz.prog bk27R (OnEnd fun a' wx => ∃ (u144 u145 u146 u147 u148 u149 u150 u151 u152 u153 u154 u155 u156 u157 u158 u159 u160 u161 u162 u163 u164 u165 u166 u167 u168 u169 u170 u171 u172 u173 : Value), a' = ⟨#[x0, x1, x2, x3, x4, .pointer (some ⟨A, 0, none⟩), .pointer (some ⟨Q, 0, none⟩), x7, x8, x9, x10, x11, .slice (some ⟨b, off, none⟩) m sc, x13, .int .i64 j, x15, x16, x17, x18, x19, x20, x21, x22, x23, x24, x25, x26, x27, x28, x29, x30, x31, x32, x33, x34, x35, x36, x37, x38, x39, x40, x41, x42, x43, x44, x45, x46, x47, x48, x49, x50, x51, x52, x53, x54, x55, x56, x57, x58, x59, x60, x61, x62, x63, x64, x65, x66, x67, x68, x69, x70, x71, x72, x73, x74, x75, x76, x77, x78, x79, x80, x81, x82, x83, x84, x85, x86, x87, x88, x89, x90, x91, x92, x93, x94, x95, x96, x97, x98, x99, x100, x101, x102, x103, x104, x105, x106, x107, x108, x109, x110, x111, x112, x113, x114, x115, x116, x117, x118, x119, x120, x121, x122, x123, x124, x125, x126, x127, x128, x129, x130, x131, x132, x133, x134, x135, x136, x137, x138, x139, x140, x141, x142, x143, u144, u145, u146, u147, u148, u149, u150, u151, u152, u153, u154, u155, u156, u157, u158, u159, u160, u161, u162, u163, u164, u165, u166, u167, u168, u169, u170, u171, u172, u173, .bool false, x175], ds⟩ ∧ Wb.Ext wO wx) ⟨#[x0, x1, x2, x3, x4, .pointer (some ⟨A, 0, none⟩), .pointer (some ⟨Q, 0, none⟩), x7, x8, x9, x10, x11, .slice (some ⟨b, off, none⟩) m sc, x13, .int .i64 j, x15, x16, x17, x18, x19, x20, x21, x22, x23, x24, x25, x26, x27, x28, x29, x30, x31, x32, x33, x34, x35, x36, x37, x38, x39, x40, x41, x42, x43, x44, x45, x46, x47, x48, x49, x50, x51, x52, x53, x54, x55, x56, x57, x58, x59, x60, x61, x62, x63, x64, x65, x66, x67, x68, x69, x70, x71, x72, x73, x74, x75, x76, x77, x78, x79, x80, x81, x82, x83, x84, x85, x86, x87, x88, x89, x90, x91, x92, x93, x94, x95, x96, x97, x98, x99, x100, x101, x102, x103, x104, x105, x106, x107, x108, x109, x110, x111, x112, x113, x114, x115, x116, x117, x118, x119, x120, x121, x122, x123, x124, x125, x126, x127, x128, x129, x130, x131, x132, x133, x134, x135, x136, x137, x138, x139, x140, x141, x142, x143, x144, x145, x146, x147, x148, x149, x150, x151, x152, x153, x154, x155, x156, x157, x158, x159, x160, x161, x162, x163, x164, x165, x166, x167, x168, x169, x170, x171, x172, x173, x174, x175], ds⟩ wO := by
 have HOA := Lib.hid hoa
 have HPA := Lib.hid hpa
 have HYV := Lib.hid hyv
 have HPD := Lib.hid hpd
 have qO : ((OW : Int) != OW) = false := by simp
 clear hoa hpa hyv hpd
 conv => arg 2; whnf
 refine region_start (S := Wb.Ext wO) (n := 31) (l := #[false, false, false, false, false, false, false, false, false, false, false, false, false, false, false, false, false, false, false, false, false, false, false, false, false, false, false, false, false, false, false]) (by kernel_rfl) (.drew (.refl wO)) (by kernel_rfl) (by kernel_rfl) (fun hHeld => ?_)
 refine tD 0 ?_
 refine tD 1 ?_
 refine tD 2 ?_
 refine tD 3 ?_
 refine tD 4 ?_
 refine tD 6 ?_
 refine tD 7 ?_
 refine tD 8 ?_
 refine tD 9 ?_
 refine tD 10 ?_
 refine tD 11 ?_
 refine tD 12 ?_
 refine wpAnyH_ready (rs := [5]) (by kernel_rfl) (by simp) ?_
 refine AllReadyH.cons (o := _) rfl (fun K hK => ?_) AllReadyH.nil
 go_simp
 go_at_call 15
 refine (HPA.out _ hHeld).mono ?_
 rintro e w1 ⟨ua, uc, D, rfl, hDD, hxw1⟩
 have hEw1 : Wb.Ext wO w1 := hHeld.trans hxw1
 (try go_simp)
 refine hK.out _ _ hEw1 (fun hHeld => ?_)
 clear hK K
 (try simp only [List.setIfInBounds_toArray, List.set_cons_zero, List.set_cons_succ])
 refine wpAnyH_ready (rs := [13]) (by kernel_rfl) (by simp) ?_
 refine AllReadyH.cons (o := _) rfl (fun K hK => ?_) AllReadyH.nil
 go_simp
 go_at_call 24
 refine (all31_eq _ _ D G _ hDD.out.1 (HYV.out.ext hHeld) (hDD.out.2.trans HPD.out.symm) (by have := congrArg List.length hDD.out.2; rw [List.length_map] at this; omega)).mono ?_
 rintro e w2 ⟨rfl, hxw2⟩
 have hEw2 : Wb.Ext wO w2 := hHeld.trans hxw2
 (try go_simp)
 refine hK.out _ _ hEw2 (fun hHeld => ?_)
 clear hK K
 (try simp only [List.setIfInBounds_toArray, List.set_cons_zero, List.set_cons_succ])
 refine tD 14 ?_
 refine tD 15 ?_
 refine tD 16 ?_
 refine tD 17 ?_
 refine tD 18 ?_
 refine tD 19 ?_
 refine tD 20 ?_
 refine tD 22 ?_
 refine tD 23 ?_
 refine tD 24 ?_
 refine tD 25 ?_
 refine tD 26 ?_
 refine tD 27 ?_
 refine tD 28 ?_
 refine wpAnyH_ready (rs := [21]) (by kernel_rfl) (by simp) ?_
 refine AllReadyH.cons (o := _) rfl (fun K hK => ?_) AllReadyH.nil
 go_simp
 go_at_call 13
 refine (HOA.out _ hHeld).mono ?_
 rintro e w3 ⟨rfl, hxw3⟩
 have hEw3 : Wb.Ext wO w3 := hHeld.trans hxw3
 (try go_simp)
 refine hK.out _ _ hEw3 (fun hHeld => ?_)
 clear hK K
 (try simp only [List.setIfInBounds_toArray, List.set_cons_zero, List.set_cons_succ])
 refine tD 29 ?_
 refine tD 30 ?_
 refine wpAnyH_done (by kernel_rfl) ?_ _
 exact ⟨_, _, _, _, _, _, _, _, _, _, _, _, _, _, _, _, _, _, _, _, _, _, _, _, _, _, _, _, _, _, rfl, hHeld⟩
end Go.Proofs.YtnefdpnolojojaaGreat
