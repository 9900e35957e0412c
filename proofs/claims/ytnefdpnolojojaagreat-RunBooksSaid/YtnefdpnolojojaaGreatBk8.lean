/- Bk8 -/
import Derived.Test.YtnefdpnolojojaaGreatMRd
import Derived.Test.YtnefdpnolojojaaGreatAg8
import Derived.Test.YtnefdpnolojojaaGreatRun26
import Derived.Test.YtnefdpnolojojaaGreatMRc
namespace Go.Proofs.YtnefdpnolojojaaGreat
open Go.RowKit Go.Sort Go.Lib Go.Maps
set_option maxRecDepth 8000
attribute [local go_sem ↓] Go.wp_at_zero Go.wp_at_succ
def bk8J (j : Nat) : Bool := j != 22 && j != 23 && j != 24 && j != 25 && j != 26 && j != 27
noncomputable def bk8R : Code := ((Tryz.f9.body.bind (findReg 8)).getD .skip)
set_option maxHeartbeats 100000000 in
theorem bk8 (x1 x2 x3 x4 x6 x8 x9 x10 x11 x12 x13 x14 x15 x16 x17 x18 x19 x20 x21 x22 x23 x24 x52 x53 x54 x55 x56 x57 x58 x59 x60 x61 x62 x63 x64 x65 x66 x67 x68 x69 x70 x71 x72 x73 x74 x75 x76 x77 x78 x79 x80 x81 x82 x83 x84 x85 x86 x87 x88 x89 x90 x91 x92 x93 x94 x95 x96 x97 x98 x99 x100 x101 x102 x103 x104 x105 x106 x107 x108 x109 x110 x111 x112 x113 x114 x115 x116 x117 x118 x119 x120 x121 x122 x123 x124 x125 x126 x127 x128 x129 x130 x131 x132 x133 x134 x135 x136 x137 x138 x139 x140 x141 x142 x143 x144 x145 x146 x147 x148 x149 x150 x151 x152 x153 x154 x155 x156 x157 x158 x159 x160 x161 x162 x163 x164 x165 x166 x167 x168 x169 x170 x171 x172 x173 x174 x175 x25 x26 x27 x28 x29 x30 x31 x32 x33 x34 x35 x36 x37 x38 x39 x40 x41 x42 x43 x44 x45 x46 x47 x48 x49 x50 x51 : Value) (ds) (w wO : World) (b off vc j na : Nat) (xa ra : Option Addr) (xc rl rc N : Nat) (mp mo : Option Nat) (B : Wb.Bk) (ks hs : List Int) (a : AcM) (A Q : Nat)
  (hji : (j : Int) < na) (hA : A < wO.heap.size) (hP : ∀ q, q = A ∨ q = Q → q < wO.heap.size)
  (l0 : ∀ w2, Wb.Ext wO w2 → w2.cell? ⟨b, off + j * 4, none⟩ = some (.int .i64 a.y)) (l1 : ∀ w2, Wb.Ext wO w2 → w2.cell? ⟨b, off + j * 4 + 1, none⟩ = some (.int .i64 a.i)) (l2 : ∀ w2, Wb.Ext wO w2 → w2.cell? ⟨b, off + j * 4 + 2, none⟩ = some (.int .i64 a.k)) (l3 : ∀ w2, Wb.Ext wO w2 → w2.cell? ⟨b, off + j * 4 + 3, none⟩ = some (.slice xa a.hs.length xc))
  (k0 : ∀ w2, Wb.Ext wO w2 → w2.cell? ⟨A, 0, none⟩ = some (.slice ra rl rc)) (k1 : ∀ w2, Wb.Ext wO w2 → w2.cell? ⟨A, 1, none⟩ = some (.map mp)) (k2 : ∀ w2, Wb.Ext wO w2 → w2.cell? ⟨A, 2, none⟩ = some (.map mo)) (kf : ∀ x, Wb.Ext wO x → ∀ j, x.frozen? ⟨A, j, none⟩ = false)
  (ht : ∀ W, Wb.Ext wO W → Calls Tryz.prog 20 #[.slice xa a.hs.length xc] W fun e w' => ∃ M lo, e = .returned (.map (some M)) ∧ lo = W.heap.size ∧ Hid (TabH w lo w' M a.hs) ∧ wO.heap.size ≤ lo ∧ lo ≤ M ∧ M < w'.heap.size ∧ Wb.Ext W w')
  (hdo : ∀ W' W lo M, Hid (TabH w lo W' M a.hs) → wO.heap.size ≤ lo → Wb.Ext wO W → Wb.Ext W' W → Calls Tryz.prog 12 #[.agg #[.slice ra rl rc, .map mp, .map mo], .int .i64 a.y, .int .i64 a.i, .int .i64 a.k, .map (some M)] W fun e w' => ∃ (ra' : Option Addr) (rl' rc' : Nat) (mp' mo' : Option Nat) (B' : Wb.Bk) (n1 y1 i1 k1 : Int) (qa : Option Addr) (qc : Nat) (rows : List RwM) (E : Int) (nW : Nat), e = .returned (.tuple #[.agg #[.slice ra' rl' rc', .map mp', .map mo'], .agg #[.int .i64 n1, .int .i64 y1, .int .i64 i1, .int .i64 k1, .slice qa rows.length qc], .int .i64 E]) ∧
  nW = W.heap.size ∧ wO.heap.size ≤ nW ∧ Hid (DidF (fun q => q < nW → Ok0 (fun q => q = A ∨ q = Q) wO.heap.size lo W'.heap.size q) w' (.slice ra' rl' rc') mp' mo' B B' a.y a.i a.k (SH a.hs) hs ks N ⟨n1, y1, i1, k1, .slice qa rows.length qc, rows⟩ E) ∧ Hid (BkI (j + 1) B' (ks ++ hs) (N + (ks).length + hs.length)) ∧ Wb.Ext W w') :
  Code.wp Tryz.prog bk8R (OnEnd fun a' wx => ∃ (ra' : Option Addr) (rl' rc' : Nat) (mp' mo' : Option Nat) (B' : Wb.Bk) (n1 y1 i1 k1 : Int) (qa : Option Addr) (qc : Nat) (rows : List RwM) (E : Int) (u25 u26 u27 u28 u29 u30 u31 u32 u33 u34 u35 u36 u37 u38 u39 u40 u41 u42 u43 u44 u45 u46 u47 u48 u49 u50 u51 : Value), a' = ⟨#[.slice (some ⟨b, off, none⟩) na vc, x1, x2, x3, x4, .pointer (some ⟨A, 0, none⟩), x6, .int .i64 j, x8, x9, x10, x11, x12, x13, x14, x15, x16, x17, x18, x19, x20, x21, x22, x23, x24, u25, u26, u27, u28, u29, u30, u31, u32, u33, u34, u35, u36, u37, u38, u39, u40, u41, u42, u43, u44, u45, u46, u47, u48, u49, u50, u51, x52, x53, x54, x55, x56, x57, x58, x59, x60, x61, x62, x63, x64, x65, x66, x67, x68, x69, x70, x71, x72, x73, x74, x75, x76, x77, x78, x79, x80, x81, x82, x83, x84, x85, x86, x87, x88, x89, x90, x91, x92, x93, x94, x95, x96, x97, x98, x99, x100, x101, x102, x103, x104, x105, x106, x107, x108, x109, x110, x111, x112, x113, x114, x115, x116, x117, x118, x119, x120, x121, x122, x123, x124, x125, x126, x127, x128, x129, x130, x131, x132, x133, x134, x135, x136, x137, x138, x139, x140, x141, x142, x143, x144, x145, x146, x147, x148, x149, x150, x151, x152, x153, x154, x155, x156, x157, x158, x159, x160, x161, x162, x163, x164, x165, x166, x167, x168, x169, x170, x171, x172, x173, x174, x175], ds⟩ ∧ Hid (BkI (j + 1) B' (ks ++ hs) (N + (ks).length + hs.length)) ∧
   (DidF (fun q => ¬ (q = A ∨ q = Q)) wx (.slice ra' rl' rc') mp' mo' B B' a.y a.i a.k (SH a.hs) hs ks N ⟨n1, y1, i1, k1, .slice qa rows.length qc, rows⟩ E ∧ wx.cell? ⟨A, 0, none⟩ = some (.slice ra' rl' rc') ∧ wx.cell? ⟨A, 1, none⟩ = some (.map mp') ∧ wx.cell? ⟨A, 2, none⟩ = some (.map mo') ∧ (∀ j, wx.frozen? ⟨A, j, none⟩ = false) ∧ Kept (fun q => q ≠ A) wO wx)) ⟨#[.slice (some ⟨b, off, none⟩) na vc, x1, x2, x3, x4, .pointer (some ⟨A, 0, none⟩), x6, .int .i64 j, x8, x9, x10, x11, x12, x13, x14, x15, x16, x17, x18, x19, x20, x21, x22, x23, x24, x25, x26, x27, x28, x29, x30, x31, x32, x33, x34, x35, x36, x37, x38, x39, x40, x41, x42, x43, x44, x45, x46, x47, x48, x49, x50, x51, x52, x53, x54, x55, x56, x57, x58, x59, x60, x61, x62, x63, x64, x65, x66, x67, x68, x69, x70, x71, x72, x73, x74, x75, x76, x77, x78, x79, x80, x81, x82, x83, x84, x85, x86, x87, x88, x89, x90, x91, x92, x93, x94, x95, x96, x97, x98, x99, x100, x101, x102, x103, x104, x105, x106, x107, x108, x109, x110, x111, x112, x113, x114, x115, x116, x117, x118, x119, x120, x121, x122, x123, x124, x125, x126, x127, x128, x129, x130, x131, x132, x133, x134, x135, x136, x137, x138, x139, x140, x141, x142, x143, x144, x145, x146, x147, x148, x149, x150, x151, x152, x153, x154, x155, x156, x157, x158, x159, x160, x161, x162, x163, x164, x165, x166, x167, x168, x169, x170, x171, x172, x173, x174, x175], ds⟩ wO := by
 have HT := Lib.hid ht
 have HDO := Lib.hid hdo
 have HPP := Lib.hid hP
 clear ht hdo hP
 conv => arg 2; whnf
 refine startJ (S := Wb.Ext wO) (J := bk8J) (n := 28) (l := #[false, false, false, false, false, false, false, false, false, false, false, false, false, false, false, false, false, false, false, false, false, false, false, false, false, false, false, false]) (by kernel_rfl) (by kernel_rfl) (by kernel_rfl) ?_
 have hHeld := Wb.Ext.drew (.refl wO)
 refine tJ (inJ [22, 23, 24, 25, 26, 27]) 0 (inJ_lt (n := 28) (by kernel_rfl)) ?_
 refine tJ (inJ [3, 4, 5, 22, 23, 24, 25, 26, 27]) 1 (inJ_lt (n := 28) (by kernel_rfl)) ?_
 refine tJ (inJ [3, 4, 5, 22, 23, 24, 25, 26, 27]) 2 (inJ_lt (n := 28) (by kernel_rfl)) ?_
 refine tJ (inJ [4, 5, 22, 23, 24, 25, 26, 27]) 3 (inJ_lt (n := 28) (by kernel_rfl)) ?_
 refine tJ (inJ [5, 22, 23, 24, 25, 26, 27]) 4 (inJ_lt (n := 28) (by kernel_rfl)) ?_
 refine tJ (inJ [22, 23, 24, 25, 26, 27]) 5 (inJ_lt (n := 28) (by kernel_rfl)) ?_
 refine tJ (inJ [8, 9, 10, 22, 23, 24, 25, 26, 27]) 6 (inJ_lt (n := 28) (by kernel_rfl)) ?_
 refine tJ (inJ [8, 9, 10, 22, 23, 24, 25, 26, 27]) 7 (inJ_lt (n := 28) (by kernel_rfl)) ?_
 refine tJ (inJ [9, 10, 22, 23, 24, 25, 26, 27]) 8 (inJ_lt (n := 28) (by kernel_rfl)) ?_
 refine tJ (inJ [10, 22, 23, 24, 25, 26, 27]) 9 (inJ_lt (n := 28) (by kernel_rfl)) ?_
 refine tJ (inJ [22, 23, 24, 25, 26, 27]) 10 (inJ_lt (n := 28) (by kernel_rfl)) ?_
 refine tJ (inJ [13, 14, 15, 22, 23, 24, 25, 26, 27]) 11 (inJ_lt (n := 28) (by kernel_rfl)) ?_
 refine tJ (inJ [13, 14, 15, 22, 23, 24, 25, 26, 27]) 12 (inJ_lt (n := 28) (by kernel_rfl)) ?_
 refine tJ (inJ [14, 15, 22, 23, 24, 25, 26, 27]) 13 (inJ_lt (n := 28) (by kernel_rfl)) ?_
 refine tJ (inJ [15, 22, 23, 24, 25, 26, 27]) 14 (inJ_lt (n := 28) (by kernel_rfl)) ?_
 refine tJ (inJ [22, 23, 24, 25, 26, 27]) 15 (inJ_lt (n := 28) (by kernel_rfl)) ?_
 refine tJ (inJ [18, 19, 20, 21, 22, 23, 24, 25, 26, 27]) 16 (inJ_lt (n := 28) (by kernel_rfl)) ?_
 refine tJ (inJ [18, 19, 20, 21, 22, 23, 24, 25, 26, 27]) 17 (inJ_lt (n := 28) (by kernel_rfl)) ?_
 refine tJ (inJ [19, 20, 21, 22, 23, 24, 25, 26, 27]) 18 (inJ_lt (n := 28) (by kernel_rfl)) ?_
 refine tJ (inJ [20, 21, 22, 23, 24, 25, 26, 27]) 19 (inJ_lt (n := 28) (by kernel_rfl)) ?_
 refine tJ (inJ [21, 22, 23, 24, 25, 26, 27]) 20 (inJ_lt (n := 28) (by kernel_rfl)) ?_
 refine o1J 21 ?_
 intro K hK
 go_simp
 go_at_call 20
 refine (HT.out _ hHeld).mono ?_
 rintro e w' ⟨M, lo, rfl, hlw, hT, hlo, hM1, hM2, hx⟩
 have hE1 := hHeld.trans hx
 (try simp at hlw)
 (try go_simp)
 refine passJ hK hE1 (fun hHeld => ?_)
 clear hK K
 (try simp only [sA, sB, sC])
 refine o1J 22 ?_
 intro K hK
 go_simp
 go_at_call 12
 refine (HDO.out _ _ _ _ hT hlo hHeld (.refl _)).mono ?_
 rintro e w9 ⟨ra', rl', rc', mp', mo', B', n1, y1, i1, k1, qa, qc, rows, E, nW, rfl, hnW, hnO, hD9, hI9, hx9⟩
 have hE9 : Wb.Ext wO w9 := hHeld.trans hx9
 have hs9 := hE9.size
 have hs1 := hHeld.size
 (try simp at hnW)
 (try go_simp)
 refine hK.out _ _ (fun h => absurd h (by decide)) ?_
 clear hK K
 (try simp only [sA, sB, sC])
 refine pJ 23 ?_
 refine pJ 24 ?_
 refine pJ 25 ?_
 refine pJ 26 ?_
 refine o1J 27 ?_
 intro K hK
 go_simp
 refine hK.out _ _ (fun h => absurd h (by decide)) ?_
 clear hK K
 (try simp only [sA, sB, sC])
 refine doneJ (by kernel_rfl) ?_ _
 exact ⟨ra', rl', rc', mp', mo', B', n1, y1, i1, k1, qa, qc, rows, E, _, _, _, _, _, _, _, _, _, _, _, _, _, _, _, _, _, _, _, _, _, _, _, _, _, _, _, rfl, hI9, did_at hD9.out (by (repeat' (first | (with_reducible exact Kept.refl) | (with_reducible refine Kept.alloc' ?_ _) | (with_reducible refine Kept.setj ?_ ?_) | (dsimp only [Ok0]; omega) | (exact fun h => h.2 rfl)))) (fun q hq => HPP.out q hq) hlo hnO, by go_simp, by go_simp, by go_simp, by intro j; go_simp, Kept.mono (F := fun q => q < wO.heap.size ∧ q ≠ A) (Kept.trans (.ext hE9) (by (repeat' (first | (with_reducible exact Kept.refl) | (with_reducible refine Kept.alloc' ?_ _) | (with_reducible refine Kept.setj ?_ ?_) | (dsimp only [Ok0]; omega) | (exact fun h => h.2 rfl))))) (fun i h1 h2 => ⟨h1, h2⟩)⟩
def bk9J (j : Nat) : Bool := j != 5 && j != 6 && j != 7 && j != 8 && j != 9 && j != 10
noncomputable def bk9R : Code := ((Tryz.f9.body.bind (findReg 9)).getD .skip)
set_option maxHeartbeats 100000000 in
theorem bk9 (x1 x2 x3 x4 x5 x8 x9 x10 x11 x12 x13 x14 x15 x16 x17 x18 x19 x20 x21 x22 x23 x24 x25 x26 x27 x28 x29 x30 x31 x32 x33 x34 x35 x36 x37 x38 x39 x40 x41 x42 x43 x44 x45 x46 x47 x48 x49 x50 x51 x62 x63 x64 x65 x66 x67 x68 x69 x70 x71 x72 x73 x74 x75 x76 x77 x78 x79 x80 x81 x82 x83 x84 x85 x86 x87 x88 x89 x90 x91 x92 x93 x94 x95 x96 x97 x98 x99 x100 x101 x102 x103 x104 x105 x106 x107 x108 x109 x110 x111 x112 x113 x114 x115 x116 x117 x118 x119 x120 x121 x122 x123 x124 x125 x126 x127 x128 x129 x130 x131 x132 x133 x134 x135 x136 x137 x138 x139 x140 x141 x142 x143 x144 x145 x146 x147 x148 x149 x150 x151 x152 x153 x154 x155 x156 x157 x158 x159 x160 x161 x162 x163 x164 x165 x166 x167 x168 x169 x170 x171 x172 x173 x174 x175 x52 x53 x54 x55 x56 x57 x58 x59 x60 x61 : Value) (ds) (_w wO : World) (b off vc j na : Nat) (xa ra : Option Addr) (xc rl rc N : Nat) (mp mo : Option Nat) (B : Wb.Bk) (ks hs : List Int) (a : AcM) (A Q : Nat)
  (hji : (j : Int) < na) (hA : A < wO.heap.size) (hP : ∀ q, q = Q ∨ q = A → q < wO.heap.size)
  (l0 : ∀ w2, Wb.Ext wO w2 → w2.cell? ⟨b, off + j * 4, none⟩ = some (.int .i64 a.y)) (l1 : ∀ w2, Wb.Ext wO w2 → w2.cell? ⟨b, off + j * 4 + 1, none⟩ = some (.int .i64 a.i)) (l2 : ∀ w2, Wb.Ext wO w2 → w2.cell? ⟨b, off + j * 4 + 2, none⟩ = some (.int .i64 a.k)) (l3 : ∀ w2, Wb.Ext wO w2 → w2.cell? ⟨b, off + j * 4 + 3, none⟩ = some (.slice xa a.hs.length xc))
  (k0 : ∀ w2, Wb.Ext wO w2 → w2.cell? ⟨A, 0, none⟩ = some (.slice ra rl rc)) (k1 : ∀ w2, Wb.Ext wO w2 → w2.cell? ⟨A, 1, none⟩ = some (.map mp)) (k2 : ∀ w2, Wb.Ext wO w2 → w2.cell? ⟨A, 2, none⟩ = some (.map mo)) (kf : ∀ x, Wb.Ext wO x → ∀ j, x.frozen? ⟨A, j, none⟩ = false)
  (hdo : ∀ W', Wb.Ext wO W' → Calls Tryz.prog 21 #[.agg #[.slice ra rl rc, .map mp, .map mo], .agg #[.int .i64 a.y, .int .i64 a.i, .int .i64 a.k, .slice xa a.hs.length xc]] W' fun e w' => ∃ (ra' : Option Addr) (rl' rc' : Nat) (mp' mo' : Option Nat) (B' : Wb.Bk) (n1 y1 i1 k1 : Int) (qa : Option Addr) (qc : Nat) (rows : List RwM) (E : Int) (nW : Nat), e = .returned (.tuple #[.agg #[.slice ra' rl' rc', .map mp', .map mo'], .agg #[.int .i64 n1, .int .i64 y1, .int .i64 i1, .int .i64 k1, .slice qa rows.length qc], .int .i64 E]) ∧
  nW = W'.heap.size ∧ wO.heap.size ≤ nW ∧ Hid (DidF (fun q => q < nW → Ok0 (fun q => q = Q ∨ q = A) wO.heap.size wO.heap.size wO.heap.size q) w' (.slice ra' rl' rc') mp' mo' B B' a.y a.i a.k (SH a.hs) hs ks N ⟨n1, y1, i1, k1, .slice qa rows.length qc, rows⟩ E) ∧ Hid (BkI (j + 1) B' (ks ++ hs) (N + (ks).length + hs.length)) ∧ Wb.Ext W' w') :
  Code.wp Tryz.prog bk9R (OnEnd fun a' wx => ∃ (ra' : Option Addr) (rl' rc' : Nat) (mp' mo' : Option Nat) (B' : Wb.Bk) (n1 y1 i1 k1 : Int) (qa : Option Addr) (qc : Nat) (rows : List RwM) (E : Int) (u52 u53 u54 u55 u56 u57 u58 u59 u60 u61 : Value), a' = ⟨#[.slice (some ⟨b, off, none⟩) na vc, x1, x2, x3, x4, x5, .pointer (some ⟨A, 0, none⟩), .int .i64 j, x8, x9, x10, x11, x12, x13, x14, x15, x16, x17, x18, x19, x20, x21, x22, x23, x24, x25, x26, x27, x28, x29, x30, x31, x32, x33, x34, x35, x36, x37, x38, x39, x40, x41, x42, x43, x44, x45, x46, x47, x48, x49, x50, x51, u52, u53, u54, u55, u56, u57, u58, u59, u60, u61, x62, x63, x64, x65, x66, x67, x68, x69, x70, x71, x72, x73, x74, x75, x76, x77, x78, x79, x80, x81, x82, x83, x84, x85, x86, x87, x88, x89, x90, x91, x92, x93, x94, x95, x96, x97, x98, x99, x100, x101, x102, x103, x104, x105, x106, x107, x108, x109, x110, x111, x112, x113, x114, x115, x116, x117, x118, x119, x120, x121, x122, x123, x124, x125, x126, x127, x128, x129, x130, x131, x132, x133, x134, x135, x136, x137, x138, x139, x140, x141, x142, x143, x144, x145, x146, x147, x148, x149, x150, x151, x152, x153, x154, x155, x156, x157, x158, x159, x160, x161, x162, x163, x164, x165, x166, x167, x168, x169, x170, x171, x172, x173, x174, x175], ds⟩ ∧ Hid (BkI (j + 1) B' (ks ++ hs) (N + (ks).length + hs.length)) ∧
   (DidF (fun q => ¬ (q = Q ∨ q = A)) wx (.slice ra' rl' rc') mp' mo' B B' a.y a.i a.k (SH a.hs) hs ks N ⟨n1, y1, i1, k1, .slice qa rows.length qc, rows⟩ E ∧ wx.cell? ⟨A, 0, none⟩ = some (.slice ra' rl' rc') ∧ wx.cell? ⟨A, 1, none⟩ = some (.map mp') ∧ wx.cell? ⟨A, 2, none⟩ = some (.map mo') ∧ (∀ j, wx.frozen? ⟨A, j, none⟩ = false) ∧ Kept (fun q => q ≠ A) wO wx)) ⟨#[.slice (some ⟨b, off, none⟩) na vc, x1, x2, x3, x4, x5, .pointer (some ⟨A, 0, none⟩), .int .i64 j, x8, x9, x10, x11, x12, x13, x14, x15, x16, x17, x18, x19, x20, x21, x22, x23, x24, x25, x26, x27, x28, x29, x30, x31, x32, x33, x34, x35, x36, x37, x38, x39, x40, x41, x42, x43, x44, x45, x46, x47, x48, x49, x50, x51, x52, x53, x54, x55, x56, x57, x58, x59, x60, x61, x62, x63, x64, x65, x66, x67, x68, x69, x70, x71, x72, x73, x74, x75, x76, x77, x78, x79, x80, x81, x82, x83, x84, x85, x86, x87, x88, x89, x90, x91, x92, x93, x94, x95, x96, x97, x98, x99, x100, x101, x102, x103, x104, x105, x106, x107, x108, x109, x110, x111, x112, x113, x114, x115, x116, x117, x118, x119, x120, x121, x122, x123, x124, x125, x126, x127, x128, x129, x130, x131, x132, x133, x134, x135, x136, x137, x138, x139, x140, x141, x142, x143, x144, x145, x146, x147, x148, x149, x150, x151, x152, x153, x154, x155, x156, x157, x158, x159, x160, x161, x162, x163, x164, x165, x166, x167, x168, x169, x170, x171, x172, x173, x174, x175], ds⟩ wO := by
 have HDO := Lib.hid hdo
 have HPP := Lib.hid hP
 clear hdo hP
 conv => arg 2; whnf
 refine startJ (S := Wb.Ext wO) (J := bk9J) (n := 11) (l := #[false, false, false, false, false, false, false, false, false, false, false]) (by kernel_rfl) (by kernel_rfl) (by kernel_rfl) ?_
 have hHeld := Wb.Ext.drew (.refl wO)
 refine tJ (inJ [5, 6, 7, 8, 9, 10]) 0 (inJ_lt (n := 11) (by kernel_rfl)) ?_
 refine tJ (inJ [3, 4, 5, 6, 7, 8, 9, 10]) 1 (inJ_lt (n := 11) (by kernel_rfl)) ?_
 refine tJ (inJ [3, 4, 5, 6, 7, 8, 9, 10]) 2 (inJ_lt (n := 11) (by kernel_rfl)) ?_
 refine tJ (inJ [4, 5, 6, 7, 8, 9, 10]) 3 (inJ_lt (n := 11) (by kernel_rfl)) ?_
 refine tJ (inJ [5, 6, 7, 8, 9, 10]) 4 (inJ_lt (n := 11) (by kernel_rfl)) ?_
 refine o1J 5 ?_
 intro K hK
 go_simp
 go_at_call 21
 refine (HDO.out _ hHeld).mono ?_
 rintro e w9 ⟨ra', rl', rc', mp', mo', B', n1, y1, i1, k1, qa, qc, rows, E, nW, rfl, hnW, hnO, hD9, hI9, hx9⟩
 have hE9 : Wb.Ext wO w9 := hHeld.trans hx9
 have hs9 := hE9.size
 have hs1 := hHeld.size
 (try simp at hnW)
 (try go_simp)
 refine hK.out _ _ (fun h => absurd h (by decide)) ?_
 clear hK K
 (try simp only [sA, sB, sC])
 refine pJ 6 ?_
 refine pJ 7 ?_
 refine pJ 8 ?_
 refine pJ 9 ?_
 refine o1J 10 ?_
 intro K hK
 go_simp
 refine hK.out _ _ (fun h => absurd h (by decide)) ?_
 clear hK K
 (try simp only [sA, sB, sC])
 refine doneJ (by kernel_rfl) ?_ _
 exact ⟨ra', rl', rc', mp', mo', B', n1, y1, i1, k1, qa, qc, rows, E, _, _, _, _, _, _, _, _, _, _, rfl, hI9, did_at2 hD9.out (by (repeat' (first | (with_reducible exact Kept.refl) | (with_reducible refine Kept.alloc' ?_ _) | (with_reducible refine Kept.setj ?_ ?_) | (dsimp only [Ok0]; omega) | (exact fun h => h.2 rfl)))) (fun q hq => HPP.out q hq) (fun q hq => HPP.out q hq) hnO, by go_simp, by go_simp, by go_simp, by intro j; go_simp, Kept.mono (F := fun q => q < wO.heap.size ∧ q ≠ A) (Kept.trans (.ext hE9) (by (repeat' (first | (with_reducible exact Kept.refl) | (with_reducible refine Kept.alloc' ?_ _) | (with_reducible refine Kept.setj ?_ ?_) | (dsimp only [Ok0]; omega) | (exact fun h => h.2 rfl))))) (fun i h1 h2 => ⟨h1, h2⟩)⟩
end Go.Proofs.YtnefdpnolojojaaGreat
