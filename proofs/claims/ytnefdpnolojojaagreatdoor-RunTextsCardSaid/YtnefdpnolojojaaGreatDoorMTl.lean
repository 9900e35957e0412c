/- MTl -/
import Derived.Test.YtnefdpnolojojaaGreatDoorMTx
import Derived.Deep.RegionHeldLaw
import Derived.IntWalk
namespace Go.Proofs.YtnefdpnolojojaaGreatDoor
open Go.RowKit Go.Sort Go.Lib
set_option maxRecDepth 8000
noncomputable def tl6R : Code := ((Tryz.f14.body.bind (findRegX 6)).getD .skip)
set_option maxHeartbeats 100000000 in
theorem tl6 (x1 x2 x3 x4 x6 x8 x9 x10 x11 x12 x13 x14 x15 x16 x17 x18 x19 x20 x21 x22 x23 x24 x25 x26 x27 x28 x29 x30 x31 x32 x33 x34 x35 x36 x37 x38 : Value) (ds) (wO : World) (X : Nat) (p c : Int) (code h out : List UInt8) (q0 : ∀ x, Wb.Ext wO x → x.cell? ⟨X, 0, none⟩ = some (.int .i64 p)) (q1 : ∀ x, Wb.Ext wO x → x.cell? ⟨X, 1, none⟩ = some (.string (Wb.S code))) (q2 : ∀ x, Wb.Ext wO x → x.cell? ⟨X, 2, none⟩ = some (.int .i64 c)) (hp : -9223372036854775807 ≤ p ∧ p ≤ 9223372036854775807) (hcode : code.length ≤ 32) (hh : h.length ≤ 60) (hout : out.length ≤ 1000000) :
  Code.wp Tryz.prog tl6R (OnEndX fun a' wx => ∃ (u20 u21 u22 u23 u24 u25 u26 u27 u28 u29 u30 u31 u32 u33 u34 u35 u36 u37 : Value), a' = ⟨#[.string (Wb.S h), x1, x2, x3, x4, .string (Wb.S (out ++ (h ++ 32 :: (Wb.itoaZ p ++ 32 :: (code ++ 32 :: (Wb.text c ++ [10])))))), x6, .pointer (some ⟨X, 0, none⟩), x8, x9, x10, x11, x12, x13, x14, x15, x16, x17, x18, x19, u20, u21, u22, u23, u24, u25, u26, u27, u28, u29, u30, u31, u32, u33, u34, u35, u36, u37, x38], ds⟩ ∧ Wb.Ext wO wx) ⟨#[.string (Wb.S h), x1, x2, x3, x4, .string (Wb.S out), x6, .pointer (some ⟨X, 0, none⟩), x8, x9, x10, x11, x12, x13, x14, x15, x16, x17, x18, x19, x20, x21, x22, x23, x24, x25, x26, x27, x28, x29, x30, x31, x32, x33, x34, x35, x36, x37, x38], ds⟩ wO := by
 have HNUM := Lib.hid (show ∀ (j : Int), (-9223372036854775807 ≤ j ∧ j ≤ 9223372036854775807) → ∀ x, Calls Tryz.prog 12 #[.int .i64 j] x fun e w' => e = .returned (.string (Wb.S (Wb.itoaZ j))) ∧ Wb.Ext x w' from fun j hj x => rnum_any j hj x)
 have h1 := Wb.itoaZ_len p hp
 have h2 := txt_le c
 have f1 : ¬ 9223372036854775807 < out.length + h.length := by omega
 have f2 : ¬ 9223372036854775807 < out.length + h.length + 1 := by omega
 have f3 : ¬ 9223372036854775807 < out.length + (h.length + 1) + (Wb.itoaZ p).length := by omega
 have f4 : ¬ 9223372036854775807 < out.length + (h.length + ((Wb.itoaZ p).length + 1)) + 1 := by omega
 have f5 : ¬ 9223372036854775807 < out.length + (h.length + ((Wb.itoaZ p).length + 1 + 1)) + code.length := by omega
 have f6 : ¬ 9223372036854775807 < out.length + (h.length + ((Wb.itoaZ p).length + (code.length + 1) + 1)) + 1 := by omega
 have f7 : ¬ 9223372036854775807 < out.length + (h.length + ((Wb.itoaZ p).length + (code.length + 1 + 1) + 1)) + (Wb.text c).length := by omega
 have f8 : ¬ 9223372036854775807 < out.length + (h.length + ((Wb.itoaZ p).length + (code.length + ((Wb.text c).length + 1) + 1) + 1)) + 1 := by omega
 clear h1 h2 hcode hh hout
 conv => arg 2; whnf
 go_region_held_law (fun x => Wb.Ext wO x) ((repeat' (first | (with_reducible assumption) | (with_reducible exact Wb.Ext.refl _) | (with_reducible refine Wb.Ext.drew ?_) | (with_reducible refine Wb.Ext.drewN ?_ _) | (with_reducible refine Wb.Ext.alloc ?_ _) | (with_reducible refine Wb.Ext.trans ?_ (by assumption))))) (first
   | (go_at_call 12; refine (HNUM.out _ (by assumption) _).mono ?_; rintro e w2 ⟨rfl, hx2⟩)
   | (go_at_call 13; refine (text_any _ _).mono ?_; rintro e w2 ⟨rfl, rfl⟩))
 exact ⟨_, _, _, _, _, _, _, _, _, _, _, _, _, _, _, _, _, _, rfl, by (repeat' (first | (with_reducible assumption) | (with_reducible exact Wb.Ext.refl _) | (with_reducible refine Wb.Ext.drew ?_) | (with_reducible refine Wb.Ext.drewN ?_ _) | (with_reducible refine Wb.Ext.alloc ?_ _) | (with_reducible refine Wb.Ext.trans ?_ (by assumption))))⟩
end Go.Proofs.YtnefdpnolojojaaGreatDoor
namespace Go.Proofs.YtnefdpnolojojaaGreatDoor
open Go.RowKit Go.Sort Go.Lib
set_option maxRecDepth 8000
noncomputable def tl10R : Code := ((Tryz.f4.body.bind (findRegX 10)).getD .skip)
set_option maxHeartbeats 100000000 in
theorem tl10 (x0 x1 x2 x3 x4 x5 x7 x8 x9 x10 x11 x12 x13 x14 x15 x16 x17 x18 x19 x20 x21 x22 x23 x24 x25 x26 x27 x28 x29 x30 x31 x32 x33 x34 x35 x36 x37 x38 x39 x40 x41 x42 x43 x44 x45 x46 x47 x48 x49 x50 x51 x52 x53 x54 x55 x56 x57 x58 x59 x60 x61 x62 x63 x64 x65 x66 x67 x68 x69 x70 x71 x72 x73 x74 x75 x76 x77 x78 x79 x80 x81 x82 x83 x84 x85 x86 x87 x88 x89 x90 x91 x92 x93 x94 x95 x96 x97 x98 x99 x100 x101 x102 x103 x104 x105 x106 x107 x108 x109 x110 x111 x112 x113 x114 x115 x116 x117 x118 x119 x120 x121 x122 x123 x124 x125 x126 x127 x128 x129 x130 x131 x132 x133 x134 x135 x136 x137 x138 x139 x140 x141 x142 x143 x144 x145 x146 : Value) (ds) (wO : World) (R : Nat) (n y i k : Int) (q0 : ∀ x, Wb.Ext wO x → x.cell? ⟨R, 0, none⟩ = some (.int .i64 n)) (q1 : ∀ x, Wb.Ext wO x → x.cell? ⟨R, 1, none⟩ = some (.int .i64 y)) (q2 : ∀ x, Wb.Ext wO x → x.cell? ⟨R, 2, none⟩ = some (.int .i64 i)) (q3 : ∀ x, Wb.Ext wO x → x.cell? ⟨R, 3, none⟩ = some (.int .i64 k)) (b1n : -9223372036854775807 ≤ n ∧ n ≤ 9223372036854775807) (b1y : -9223372036854775807 ≤ y ∧ y ≤ 9223372036854775807) (b1i : -9223372036854775807 ≤ i ∧ i ≤ 9223372036854775807) (b1k : -9223372036854775807 ≤ k ∧ k ≤ 9223372036854775807) :
  Code.wp Tryz.prog tl10R (OnEndX fun a' wx => ∃ (u51 u52 u53 u54 u55 u56 u57 u58 u59 u60 u61 u62 u63 u64 u65 u66 u67 u68 u69 u70 : Value), a' = ⟨#[x0, x1, x2, x3, x4, x5, .pointer (some ⟨R, 0, none⟩), x7, .string (Wb.S (114 :: 117 :: 110 :: 32 :: (Wb.itoaZ n ++ 32 :: (Wb.itoaZ y ++ 32 :: (Wb.itoaZ i ++ 32 :: (Wb.itoaZ k ++ [10])))))), x9, x10, x11, x12, x13, x14, x15, x16, x17, x18, x19, x20, x21, x22, x23, x24, x25, x26, x27, x28, x29, x30, x31, x32, x33, x34, x35, x36, x37, x38, x39, x40, x41, x42, x43, x44, x45, x46, x47, x48, x49, x50, u51, u52, u53, u54, u55, u56, u57, u58, u59, u60, u61, u62, u63, u64, u65, u66, u67, u68, u69, u70, x71, x72, x73, x74, x75, x76, x77, x78, x79, x80, x81, x82, x83, x84, x85, x86, x87, x88, x89, x90, x91, x92, x93, x94, x95, x96, x97, x98, x99, x100, x101, x102, x103, x104, x105, x106, x107, x108, x109, x110, x111, x112, x113, x114, x115, x116, x117, x118, x119, x120, x121, x122, x123, x124, x125, x126, x127, x128, x129, x130, x131, x132, x133, x134, x135, x136, x137, x138, x139, x140, x141, x142, x143, x144, x145, x146], ds⟩ ∧ Wb.Ext wO wx) ⟨#[x0, x1, x2, x3, x4, x5, .pointer (some ⟨R, 0, none⟩), x7, x8, x9, x10, x11, x12, x13, x14, x15, x16, x17, x18, x19, x20, x21, x22, x23, x24, x25, x26, x27, x28, x29, x30, x31, x32, x33, x34, x35, x36, x37, x38, x39, x40, x41, x42, x43, x44, x45, x46, x47, x48, x49, x50, x51, x52, x53, x54, x55, x56, x57, x58, x59, x60, x61, x62, x63, x64, x65, x66, x67, x68, x69, x70, x71, x72, x73, x74, x75, x76, x77, x78, x79, x80, x81, x82, x83, x84, x85, x86, x87, x88, x89, x90, x91, x92, x93, x94, x95, x96, x97, x98, x99, x100, x101, x102, x103, x104, x105, x106, x107, x108, x109, x110, x111, x112, x113, x114, x115, x116, x117, x118, x119, x120, x121, x122, x123, x124, x125, x126, x127, x128, x129, x130, x131, x132, x133, x134, x135, x136, x137, x138, x139, x140, x141, x142, x143, x144, x145, x146], ds⟩ wO := by
 have HNUM := Lib.hid (show ∀ (j : Int), (-9223372036854775807 ≤ j ∧ j ≤ 9223372036854775807) → ∀ x, Calls Tryz.prog 12 #[.int .i64 j] x fun e w' => e = .returned (.string (Wb.S (Wb.itoaZ j))) ∧ Wb.Ext x w' from fun j hj x => rnum_any j hj x)
 have hn := Wb.itoaZ_len n b1n
 have hy := Wb.itoaZ_len y b1y
 have hi := Wb.itoaZ_len i b1i
 have hk := Wb.itoaZ_len k b1k
 have g0 : ¬ 9223372036854775807 < 4 + (Wb.itoaZ n).length := by omega
 have g1 : ¬ 9223372036854775807 < (Wb.itoaZ n).length + 1 + 1 + 1 + 1 + 1 := by omega
 have g2 : ¬ 9223372036854775807 < (Wb.itoaZ n).length + 1 + 1 + 1 + 1 + 1 + (Wb.itoaZ y).length := by omega
 have g3 : ¬ 9223372036854775807 < (Wb.itoaZ n).length + ((Wb.itoaZ y).length + 1) + 1 + 1 + 1 + 1 + 1 := by omega
 have g4 : ¬ 9223372036854775807 < (Wb.itoaZ n).length + ((Wb.itoaZ y).length + 1 + 1) + 1 + 1 + 1 + 1 + (Wb.itoaZ i).length := by omega
 have g5 : ¬ 9223372036854775807 < (Wb.itoaZ n).length + ((Wb.itoaZ y).length + ((Wb.itoaZ i).length + 1) + 1) + 1 + 1 + 1 + 1 + 1 := by omega
 have g6 : ¬ 9223372036854775807 < (Wb.itoaZ n).length + ((Wb.itoaZ y).length + ((Wb.itoaZ i).length + 1 + 1) + 1) + 1 + 1 + 1 + 1 + (Wb.itoaZ k).length := by omega
 have g7 : ¬ 9223372036854775807 < (Wb.itoaZ n).length + ((Wb.itoaZ y).length + ((Wb.itoaZ i).length + ((Wb.itoaZ k).length + 1) + 1) + 1) + 1 + 1 + 1 + 1 + 1 := by omega
 clear hn hy hi hk
 conv => arg 2; whnf
 go_region_held_law (fun x => Wb.Ext wO x) ((repeat' (first | (with_reducible assumption) | (with_reducible exact Wb.Ext.refl _) | (with_reducible refine Wb.Ext.drew ?_) | (with_reducible refine Wb.Ext.drewN ?_ _) | (with_reducible refine Wb.Ext.alloc ?_ _) | (with_reducible refine Wb.Ext.trans ?_ (by assumption))))) (first
   | (go_at_call 12; refine (HNUM.out _ (by assumption) _).mono ?_; rintro e w2 ⟨rfl, hx2⟩)
   | (go_at_call 13; refine (text_any _ _).mono ?_; rintro e w2 ⟨rfl, rfl⟩))
 all_goals exact ⟨_, _, _, _, _, _, _, _, _, _, _, _, _, _, _, _, _, _, _, _, rfl, by (repeat' (first | (with_reducible assumption) | (with_reducible exact Wb.Ext.refl _) | (with_reducible refine Wb.Ext.drew ?_) | (with_reducible refine Wb.Ext.drewN ?_ _) | (with_reducible refine Wb.Ext.alloc ?_ _) | (with_reducible refine Wb.Ext.trans ?_ (by assumption))))⟩
end Go.Proofs.YtnefdpnolojojaaGreatDoor
namespace Go.Proofs.YtnefdpnolojojaaGreatDoor
open Go.RowKit Go.Sort Go.Lib
set_option maxRecDepth 8000
noncomputable def tl15R : Code := ((Tryz.f4.body.bind (findRegX 15)).getD .skip)
set_option maxHeartbeats 100000000 in
theorem tl15 (x0 x1 x2 x3 x4 x5 x6 x7 x9 x11 x12 x13 x14 x15 x16 x17 x18 x19 x20 x21 x22 x23 x24 x25 x26 x27 x28 x29 x30 x31 x32 x33 x34 x35 x36 x37 x38 x39 x40 x41 x42 x43 x44 x45 x46 x47 x48 x49 x50 x51 x52 x53 x54 x55 x56 x57 x58 x59 x60 x61 x62 x63 x64 x65 x66 x67 x68 x69 x70 x71 x72 x73 x74 x75 x76 x77 x78 x79 x80 x81 x82 x83 x84 x85 x86 x87 x88 x89 x90 x91 x92 x93 x94 x95 x96 x97 x98 x99 x100 x101 x102 x103 x104 x105 x106 x107 x108 x109 x110 x111 x112 x113 x114 x115 x116 x117 x118 x119 x120 x121 x122 x123 x124 x125 x126 x127 x128 x129 x130 x131 x132 x133 x134 x135 x136 x137 x138 x139 x140 x141 x142 x143 x144 x145 x146 : Value) (ds) (wO : World) (X : Nat) (p due paid owed ny ni : Int) (nv : Value) (out nt : List UInt8) (q0 : ∀ x, Wb.Ext wO x → x.cell? ⟨X, 0, none⟩ = some (.int .u32 p)) (q1 : ∀ x, Wb.Ext wO x → x.cell? ⟨X, 1, none⟩ = some (.int .i64 ny)) (q2 : ∀ x, Wb.Ext wO x → x.cell? ⟨X, 2, none⟩ = some (.int .i64 ni)) (q3 : ∀ x, Wb.Ext wO x → x.cell? ⟨X, 3, none⟩ = some (nv)) (q5 : ∀ x, Wb.Ext wO x → x.cell? ⟨X, 5, none⟩ = some (.int .i64 due)) (q6 : ∀ x, Wb.Ext wO x → x.cell? ⟨X, 6, none⟩ = some (.int .i64 paid)) (q7 : ∀ x, Wb.Ext wO x → x.cell? ⟨X, 7, none⟩ = some (.int .i64 owed)) (hp : 0 ≤ p ∧ p ≤ 4294967295) (hout : out.length ≤ 100000000000000) (hnt : nt.length ≤ 1000000000) (hln : ∀ x, Wb.Ext wO x → Calls Tryz.prog 14 #[.string (Wb.S [110, 111, 119]), .agg #[.int .i64 ny, .int .i64 ni, nv]] x fun e w' => e = .returned (.string (Wb.S nt)) ∧ Wb.Ext x w') :
  Code.wp Tryz.prog tl15R (OnEndX fun a' wx => ∃ (u83 u84 u85 u86 u87 u88 u89 u90 u91 u92 u93 u94 u95 u96 u97 u98 u99 u100 u101 u102 u103 u104 u105 u106 u107 u108 u109 : Value), a' = ⟨#[x0, x1, x2, x3, x4, x5, x6, x7, .string (Wb.S (out ++ ([112, 101, 114, 115, 111, 110, 32] ++ (Wb.itoaZ p ++ 32 :: (Wb.text due ++ 32 :: (Wb.text paid ++ 32 :: (Wb.text owed ++ 10 :: nt))))))), x9, .pointer (some ⟨X, 0, none⟩), x11, x12, x13, x14, x15, x16, x17, x18, x19, x20, x21, x22, x23, x24, x25, x26, x27, x28, x29, x30, x31, x32, x33, x34, x35, x36, x37, x38, x39, x40, x41, x42, x43, x44, x45, x46, x47, x48, x49, x50, x51, x52, x53, x54, x55, x56, x57, x58, x59, x60, x61, x62, x63, x64, x65, x66, x67, x68, x69, x70, x71, x72, x73, x74, x75, x76, x77, x78, x79, x80, x81, x82, u83, u84, u85, u86, u87, u88, u89, u90, u91, u92, u93, u94, u95, u96, u97, u98, u99, u100, u101, u102, u103, u104, u105, u106, u107, u108, u109, x110, x111, x112, x113, x114, x115, x116, x117, x118, x119, x120, x121, x122, x123, x124, x125, x126, x127, x128, x129, x130, x131, x132, x133, x134, x135, x136, x137, x138, x139, x140, x141, x142, x143, x144, x145, x146], ds⟩ ∧ Wb.Ext wO wx) ⟨#[x0, x1, x2, x3, x4, x5, x6, x7, .string (Wb.S out), x9, .pointer (some ⟨X, 0, none⟩), x11, x12, x13, x14, x15, x16, x17, x18, x19, x20, x21, x22, x23, x24, x25, x26, x27, x28, x29, x30, x31, x32, x33, x34, x35, x36, x37, x38, x39, x40, x41, x42, x43, x44, x45, x46, x47, x48, x49, x50, x51, x52, x53, x54, x55, x56, x57, x58, x59, x60, x61, x62, x63, x64, x65, x66, x67, x68, x69, x70, x71, x72, x73, x74, x75, x76, x77, x78, x79, x80, x81, x82, x83, x84, x85, x86, x87, x88, x89, x90, x91, x92, x93, x94, x95, x96, x97, x98, x99, x100, x101, x102, x103, x104, x105, x106, x107, x108, x109, x110, x111, x112, x113, x114, x115, x116, x117, x118, x119, x120, x121, x122, x123, x124, x125, x126, x127, x128, x129, x130, x131, x132, x133, x134, x135, x136, x137, x138, x139, x140, x141, x142, x143, x144, x145, x146], ds⟩ wO := by
 have HNUM := Lib.hid (show ∀ (j : Int), (-9223372036854775807 ≤ j ∧ j ≤ 9223372036854775807) → ∀ x, Calls Tryz.prog 12 #[.int .i64 j] x fun e w' => e = .returned (.string (Wb.S (Wb.itoaZ j))) ∧ Wb.Ext x w' from fun j hj x => rnum_any j hj x)
 have HLN := Lib.hid hln
 clear hln
 have hp2 : -9223372036854775807 ≤ p ∧ p ≤ 9223372036854775807 := by omega
 have hpl := Wb.itoaZ_len p hp2
 have h1 := txt_le due
 have h2 := txt_le paid
 have h3 := txt_le owed
 have wp : IntKind.i64.wrap p = p := IntWalk.i64_in _ (by omega)
 have g0 : ¬ 9223372036854775807 < out.length + 7 := by omega
 have g1 : ¬ 9223372036854775807 < out.length + 7 + (Wb.itoaZ p).length := by omega
 have g2 : ¬ 9223372036854775807 < out.length + ((Wb.itoaZ p).length + 1 + 1 + 1 + 1 + 1 + 1 + 1) + 1 := by omega
 have g3 : ¬ 9223372036854775807 < out.length + ((Wb.itoaZ p).length + 1 + 1 + 1 + 1 + 1 + 1 + 1 + 1) + (Wb.text due).length := by omega
 have g4 : ¬ 9223372036854775807 < out.length + ((Wb.itoaZ p).length + ((Wb.text due).length + 1) + 1 + 1 + 1 + 1 + 1 + 1 + 1) + 1 := by omega
 have g5 : ¬ 9223372036854775807 < out.length + ((Wb.itoaZ p).length + ((Wb.text due).length + 1 + 1) + 1 + 1 + 1 + 1 + 1 + 1 + 1) + (Wb.text paid).length := by omega
 have g6 : ¬ 9223372036854775807 < out.length + ((Wb.itoaZ p).length + ((Wb.text due).length + ((Wb.text paid).length + 1) + 1) + 1 + 1 + 1 + 1 + 1 + 1 + 1) + 1 := by omega
 have g7 : ¬ 9223372036854775807 < out.length + ((Wb.itoaZ p).length + ((Wb.text due).length + ((Wb.text paid).length + 1 + 1) + 1) + 1 + 1 + 1 + 1 + 1 + 1 + 1) + (Wb.text owed).length := by omega
 have g8 : ¬ 9223372036854775807 < out.length + ((Wb.itoaZ p).length + ((Wb.text due).length + ((Wb.text paid).length + ((Wb.text owed).length + 1) + 1) + 1) + 1 + 1 + 1 + 1 + 1 + 1 + 1) + 1 := by omega
 have g9 : ¬ 9223372036854775807 < out.length + ((Wb.itoaZ p).length + ((Wb.text due).length + ((Wb.text paid).length + ((Wb.text owed).length + 1 + 1) + 1) + 1) + 1 + 1 + 1 + 1 + 1 + 1 + 1) + nt.length := by omega
 clear hpl h1 h2 h3 hout hnt hp
 conv => arg 2; whnf
 go_region_held_law (fun x => Wb.Ext wO x) ((repeat' (first | (with_reducible assumption) | (with_reducible exact Wb.Ext.refl _) | (with_reducible refine Wb.Ext.drew ?_) | (with_reducible refine Wb.Ext.drewN ?_ _) | (with_reducible refine Wb.Ext.alloc ?_ _) | (with_reducible refine Wb.Ext.trans ?_ (by assumption))))) (first
   | (go_at_call 12; refine (HNUM.out _ (by assumption) _).mono ?_; rintro e w2 ⟨rfl, hx2⟩)
   | (go_at_call 13; refine (text_any _ _).mono ?_; rintro e w2 ⟨rfl, rfl⟩)
   | (go_at_call 14; refine (HLN.out _ (by (repeat' (first | (with_reducible assumption) | (with_reducible exact Wb.Ext.refl _) | (with_reducible refine Wb.Ext.drew ?_) | (with_reducible refine Wb.Ext.drewN ?_ _) | (with_reducible refine Wb.Ext.alloc ?_ _) | (with_reducible refine Wb.Ext.trans ?_ (by assumption)))))).mono ?_; rintro e w2 ⟨rfl, hx2⟩))
 all_goals exact ⟨_, _, _, _, _, _, _, _, _, _, _, _, _, _, _, _, _, _, _, _, _, _, _, _, _, _, _, rfl, by (repeat' (first | (with_reducible assumption) | (with_reducible exact Wb.Ext.refl _) | (with_reducible refine Wb.Ext.drew ?_) | (with_reducible refine Wb.Ext.drewN ?_ _) | (with_reducible refine Wb.Ext.alloc ?_ _) | (with_reducible refine Wb.Ext.trans ?_ (by assumption))))⟩
end Go.Proofs.YtnefdpnolojojaaGreatDoor
namespace Go.Proofs.YtnefdpnolojojaaGreatDoor
open Go.RowKit Go.Sort Go.Lib
set_option maxRecDepth 8000
noncomputable def tl19R : Code := ((Tryz.f4.body.bind (findRegX 19)).getD .skip)
set_option maxHeartbeats 100000000 in
theorem tl19 (x0 x1 x2 x3 x4 x5 x6 x7 x9 x12 x13 x14 x15 x16 x17 x18 x19 x20 x21 x22 x23 x24 x25 x26 x27 x28 x29 x30 x31 x32 x33 x34 x35 x36 x37 x38 x39 x40 x41 x42 x43 x44 x45 x46 x47 x48 x49 x50 x51 x52 x53 x54 x55 x56 x57 x58 x59 x60 x61 x62 x63 x64 x65 x66 x67 x68 x69 x70 x71 x72 x73 x74 x75 x76 x77 x78 x79 x80 x81 x82 x83 x84 x85 x86 x87 x88 x89 x90 x91 x92 x93 x94 x95 x96 x97 x98 x99 x100 x101 x102 x103 x104 x105 x106 x107 x108 x109 x110 x111 x112 x113 x114 x115 x116 x117 x118 x119 x120 x121 x122 x123 x124 x125 x126 x127 x128 x129 x130 x131 x132 x133 x134 x135 x136 x137 x138 x139 x140 x141 x142 x143 x144 x145 x146 : Value) (ds) (wO : World) (X : Nat) (b off c j n : Nat) (y i : Int) (lv : Value) (out bt : List UInt8) (q4 : ∀ x, Wb.Ext wO x → x.cell? ⟨X, 4, none⟩ = some (.slice (some ⟨b, off, none⟩) n c)) (s0 : ∀ x, Wb.Ext wO x → x.cell? ⟨b, off + j * 3, none⟩ = some (.int .i64 y)) (s1 : ∀ x, Wb.Ext wO x → x.cell? ⟨b, off + j * 3 + 1, none⟩ = some (.int .i64 i)) (s2 : ∀ x, Wb.Ext wO x → x.cell? ⟨b, off + j * 3 + 2, none⟩ = some lv) (hj : (j : Int) < (n : Int)) (by1 : -9223372036854775807 ≤ y ∧ y ≤ 9223372036854775807) (bi1 : -9223372036854775807 ≤ i ∧ i ≤ 9223372036854775807) (hout : out.length ≤ 100000000000000) (hbt : bt.length ≤ 1000000000) (hln : ∀ x, Wb.Ext wO x → Calls Tryz.prog 14 #[.string (Wb.S (98 :: 97 :: 99 :: 107 :: 32 :: (Wb.itoaZ y ++ 32 :: Wb.itoaZ i))), .agg #[.int .i64 y, .int .i64 i, lv]] x fun e w' => e = .returned (.string (Wb.S bt)) ∧ Wb.Ext x w') :
  Code.wp Tryz.prog tl19R (OnEndX fun a' wx => ∃ (u117 u118 u119 u120 u121 u122 u123 u124 u125 u126 u127 u128 u129 u130 u131 u132 u133 u134 u135 u136 u137 u138 u139 u140 u141 : Value), a' = ⟨#[x0, x1, x2, x3, x4, x5, x6, x7, .string (Wb.S (out ++ bt)), x9, .pointer (some ⟨X, 0, none⟩), .int .i64 j, x12, x13, x14, x15, x16, x17, x18, x19, x20, x21, x22, x23, x24, x25, x26, x27, x28, x29, x30, x31, x32, x33, x34, x35, x36, x37, x38, x39, x40, x41, x42, x43, x44, x45, x46, x47, x48, x49, x50, x51, x52, x53, x54, x55, x56, x57, x58, x59, x60, x61, x62, x63, x64, x65, x66, x67, x68, x69, x70, x71, x72, x73, x74, x75, x76, x77, x78, x79, x80, x81, x82, x83, x84, x85, x86, x87, x88, x89, x90, x91, x92, x93, x94, x95, x96, x97, x98, x99, x100, x101, x102, x103, x104, x105, x106, x107, x108, x109, x110, x111, x112, x113, x114, x115, x116, u117, u118, u119, u120, u121, u122, u123, u124, u125, u126, u127, u128, u129, u130, u131, u132, u133, u134, u135, u136, u137, u138, u139, u140, u141, x142, x143, x144, x145, x146], ds⟩ ∧ Wb.Ext wO wx) ⟨#[x0, x1, x2, x3, x4, x5, x6, x7, .string (Wb.S out), x9, .pointer (some ⟨X, 0, none⟩), .int .i64 j, x12, x13, x14, x15, x16, x17, x18, x19, x20, x21, x22, x23, x24, x25, x26, x27, x28, x29, x30, x31, x32, x33, x34, x35, x36, x37, x38, x39, x40, x41, x42, x43, x44, x45, x46, x47, x48, x49, x50, x51, x52, x53, x54, x55, x56, x57, x58, x59, x60, x61, x62, x63, x64, x65, x66, x67, x68, x69, x70, x71, x72, x73, x74, x75, x76, x77, x78, x79, x80, x81, x82, x83, x84, x85, x86, x87, x88, x89, x90, x91, x92, x93, x94, x95, x96, x97, x98, x99, x100, x101, x102, x103, x104, x105, x106, x107, x108, x109, x110, x111, x112, x113, x114, x115, x116, x117, x118, x119, x120, x121, x122, x123, x124, x125, x126, x127, x128, x129, x130, x131, x132, x133, x134, x135, x136, x137, x138, x139, x140, x141, x142, x143, x144, x145, x146], ds⟩ wO := by
 have HNUM := Lib.hid (show ∀ (j : Int), (-9223372036854775807 ≤ j ∧ j ≤ 9223372036854775807) → ∀ x, Calls Tryz.prog 12 #[.int .i64 j] x fun e w' => e = .returned (.string (Wb.S (Wb.itoaZ j))) ∧ Wb.Ext x w' from fun j hj x => rnum_any j hj x)
 have HLN := Lib.hid hln
 clear hln
 have h1 := Wb.itoaZ_len y by1
 have h2 := Wb.itoaZ_len i bi1
 have g0 : ¬ 9223372036854775807 < 5 + (Wb.itoaZ y).length := by omega
 have g1 : ¬ 9223372036854775807 < (Wb.itoaZ y).length + 1 + 1 + 1 + 1 + 1 + 1 := by omega
 have g2 : ¬ 9223372036854775807 < (Wb.itoaZ y).length + 1 + 1 + 1 + 1 + 1 + 1 + (Wb.itoaZ i).length := by omega
 have g3 : ¬ 9223372036854775807 < out.length + bt.length := by omega
 clear h1 h2 hout hbt
 conv => arg 2; whnf
 go_region_held_law (fun x => Wb.Ext wO x) ((repeat' (first | (with_reducible assumption) | (with_reducible exact Wb.Ext.refl _) | (with_reducible refine Wb.Ext.drew ?_) | (with_reducible refine Wb.Ext.drewN ?_ _) | (with_reducible refine Wb.Ext.alloc ?_ _) | (with_reducible refine Wb.Ext.trans ?_ (by assumption))))) (first
   | (go_at_call 12; refine (HNUM.out _ (by assumption) _).mono ?_; rintro e w2 ⟨rfl, hx2⟩)
   | (go_at_call 13; refine (text_any _ _).mono ?_; rintro e w2 ⟨rfl, rfl⟩)
   | (go_at_call 14; refine (HLN.out _ (by (repeat' (first | (with_reducible assumption) | (with_reducible exact Wb.Ext.refl _) | (with_reducible refine Wb.Ext.drew ?_) | (with_reducible refine Wb.Ext.drewN ?_ _) | (with_reducible refine Wb.Ext.alloc ?_ _) | (with_reducible refine Wb.Ext.trans ?_ (by assumption)))))).mono ?_; rintro e w2 ⟨rfl, hx2⟩))
 all_goals exact ⟨_, _, _, _, _, _, _, _, _, _, _, _, _, _, _, _, _, _, _, _, _, _, _, _, _, rfl, by (repeat' (first | (with_reducible assumption) | (with_reducible exact Wb.Ext.refl _) | (with_reducible refine Wb.Ext.drew ?_) | (with_reducible refine Wb.Ext.drewN ?_ _) | (with_reducible refine Wb.Ext.alloc ?_ _) | (with_reducible refine Wb.Ext.trans ?_ (by assumption))))⟩
end Go.Proofs.YtnefdpnolojojaaGreatDoor
