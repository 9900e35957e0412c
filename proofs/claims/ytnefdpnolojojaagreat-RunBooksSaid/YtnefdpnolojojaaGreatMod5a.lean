/- Mod5a -/
import Derived.Test.YtnefdpnolojojaaGreatMDa
import Derived.Test.YtnefdpnolojojaaGreatMod3
import Derived.Test.YtnefdpnolojojaaGreatRun26
import Derived.Deep.RegionHeld
namespace Go.Proofs.YtnefdpnolojojaaGreat
open Go.RowKit Go.Sort Go.Lib Go.Maps
set_option maxRecDepth 8000
attribute [local go_sem ↓] Go.wp_at_zero Go.wp_at_succ
noncomputable def hd14aR : Code := ((Tryz.f51.body.bind (findReg 14)).getD .skip)
set_option maxHeartbeats 100000000 in
theorem hd14a (x0 x1 x3 x4 x5 x6 x9 x10 x11 x12 x13 x14 x15 x16 x17 x18 x19 x20 x21 x22 x23 x24 x25 x26 x27 x28 x29 x30 x31 x32 x33 x34 x35 x36 x37 x38 x39 x40 x41 x42 x43 x44 x45 x46 x47 x48 x49 x50 x51 x52 x53 x54 x55 x56 x57 x58 x59 x60 x61 x62 x63 x64 x65 x66 x67 x68 x69 x70 x71 x72 x73 x74 x75 x76 x77 x78 x79 x80 x81 x82 x83 x84 x85 : Value) (ds) (wO : World) (X b off n vc t : Nat) (y i sy si : Int) (l0 : ∀ x, Wb.Ext wO x → x.cell? ⟨b, off + t * 3, none⟩ = some (.int .i64 sy)) (l1 : ∀ x, Wb.Ext wO x → x.cell? ⟨b, off + t * 3 + 1, none⟩ = some (.int .i64 si)) (x0' : ∀ x, Wb.Ext wO x → x.cell? ⟨X, 0, none⟩ = some (.int .i64 y)) (x1' : ∀ x, Wb.Ext wO x → x.cell? ⟨X, 1, none⟩ = some (.int .i64 i))
  (g : Bool) (d0 : decide ((0 : Int) < (t : Int)) = false) (hk : (t : Int) < n) (hl2 : ∀ W, Calls Tryz.prog 50 #[.int .i64 y, .int .i64 i, .int .i64 sy, .int .i64 si] W fun e w' => e = .returned (.bool g) ∧ W = w') :
  Code.wp Tryz.prog hd14aR (OnEnd fun a' wx => ∃ (u41 u42 u43 u44 u45 u46 u47 u48 u49 u50 u51 u52 u53 u54 u55 u56 u57 u58 u59 u60 u61 u62 u63 u64 u65 u66 u67 u68 u69 u70 u71 u72 u73 u74 u75 u76 u77 u78 u79 u80 u81 u82 u83 u84 : Value), a' = ⟨#[x0, x1, .pointer (some ⟨X, 0, none⟩), x3, x4, x5, x6, .slice (some ⟨b, off, none⟩) n vc, .int .i64 (t : Int), x9, x10, x11, x12, x13, x14, x15, x16, x17, x18, x19, x20, x21, x22, x23, x24, x25, x26, x27, x28, x29, x30, x31, x32, x33, x34, x35, x36, x37, x38, x39, x40, u41, u42, u43, u44, u45, u46, u47, u48, u49, u50, u51, u52, u53, u54, u55, u56, u57, u58, u59, u60, u61, u62, u63, u64, u65, u66, u67, u68, u69, u70, u71, u72, u73, u74, u75, u76, u77, u78, u79, u80, u81, u82, u83, u84, .bool g], ds⟩ ∧ Wb.Ext wO wx) ⟨#[x0, x1, .pointer (some ⟨X, 0, none⟩), x3, x4, x5, x6, .slice (some ⟨b, off, none⟩) n vc, .int .i64 (t : Int), x9, x10, x11, x12, x13, x14, x15, x16, x17, x18, x19, x20, x21, x22, x23, x24, x25, x26, x27, x28, x29, x30, x31, x32, x33, x34, x35, x36, x37, x38, x39, x40, x41, x42, x43, x44, x45, x46, x47, x48, x49, x50, x51, x52, x53, x54, x55, x56, x57, x58, x59, x60, x61, x62, x63, x64, x65, x66, x67, x68, x69, x70, x71, x72, x73, x74, x75, x76, x77, x78, x79, x80, x81, x82, x83, x84, x85], ds⟩ wO := by
 have HL2 := Lib.hid hl2
 clear hl2
 have d0n : decide (0 < t) = false := by simpa using d0
 have d0p : ¬ 0 < t := by simpa using d0n
 conv => arg 2; whnf
 refine region_start (S := Wb.Ext wO) (n := 45) (l := #[false, false, false, false, false, false, false, false, false, false, false, false, false, false, false, false, false, false, false, false, false, false, false, false, false, false, false, false, false, false, false, false, false, false, false, false, false, false, false, false, false, false, false, false, false]) (by kernel_rfl) (.drew (.refl wO)) (by kernel_rfl) (by kernel_rfl) (fun hHeld => ?_)
 refine tD 0 ?_
 refine tD 1 ?_
 refine tD 2 ?_
 refine tN 3 ?_
 refine tN 4 ?_
 refine tN 5 ?_
 refine tN 6 ?_
 refine tN 7 ?_
 refine tN 8 ?_
 refine tN 9 ?_
 refine tN 10 ?_
 refine tN 11 ?_
 refine tN 12 ?_
 refine tN 13 ?_
 refine tN 14 ?_
 refine tN 15 ?_
 refine tN 16 ?_
 refine tN 17 ?_
 refine tN 18 ?_
 refine tN 19 ?_
 refine tN 20 ?_
 refine tN 21 ?_
 refine tN 22 ?_
 refine tN 23 ?_
 refine tN 24 ?_
 refine tN 25 ?_
 refine tN 26 ?_
 refine tD 27 ?_
 refine tD 28 ?_
 refine tD 29 ?_
 refine tD 30 ?_
 refine tD 31 ?_
 refine tD 32 ?_
 refine tD 33 ?_
 refine tD 34 ?_
 refine tD 35 ?_
 refine tD 36 ?_
 refine tD 37 ?_
 refine tD 38 ?_
 refine tD 39 ?_
 refine tD 40 ?_
 refine tD 41 ?_
 refine tD 42 ?_
 refine wpAnyH_ready (rs := [43]) (by kernel_rfl) (by simp) ?_
 refine AllReadyH.cons (o := _) rfl (fun K hK => ?_) AllReadyH.nil
 go_simp
 go_at_call 50
 refine (HL2.out _).mono ?_
 rintro e w2 ⟨rfl, rfl⟩
 (try go_simp)
 refine hK.out _ _ hHeld (fun hHeld => ?_)
 clear hK K
 (try simp only [List.setIfInBounds_toArray, List.set_cons_zero, List.set_cons_succ])
 refine tD 44 ?_
 refine wpAnyH_done (by kernel_rfl) ?_ _
 exact ⟨_, _, _, _, _, _, _, _, _, _, _, _, _, _, _, _, _, _, _, _, _, _, _, _, _, _, _, _, _, _, _, _, _, _, _, _, _, _, _, _, _, _, _, _, rfl, hHeld⟩
noncomputable def hd14bR : Code := ((Tryz.f51.body.bind (findReg 14)).getD .skip)
set_option maxHeartbeats 100000000 in
theorem hd14b (x0 x1 x3 x4 x5 x6 x9 x10 x11 x12 x13 x14 x15 x16 x17 x18 x19 x20 x21 x22 x23 x24 x25 x26 x27 x28 x29 x30 x31 x32 x33 x34 x35 x36 x37 x38 x39 x40 x41 x42 x43 x44 x45 x46 x47 x48 x49 x50 x51 x52 x53 x54 x55 x56 x57 x58 x59 x60 x61 x62 x63 x64 x65 x66 x67 x68 x69 x70 x71 x72 x73 x74 x75 x76 x77 x78 x79 x80 x81 x82 x83 x84 x85 : Value) (ds) (wO : World) (X b off n vc t : Nat) (y i sy si : Int) (l0 : ∀ x, Wb.Ext wO x → x.cell? ⟨b, off + t * 3, none⟩ = some (.int .i64 sy)) (l1 : ∀ x, Wb.Ext wO x → x.cell? ⟨b, off + t * 3 + 1, none⟩ = some (.int .i64 si)) (x0' : ∀ x, Wb.Ext wO x → x.cell? ⟨X, 0, none⟩ = some (.int .i64 y)) (x1' : ∀ x, Wb.Ext wO x → x.cell? ⟨X, 1, none⟩ = some (.int .i64 i))
  (g : Bool) (t1 : Nat) (ay ai : Int) (d0 : decide ((0 : Int) < (t : Int)) = true) (hw : IntKind.i64.wrap ((t : Int) - 1) = (t1 : Int)) (hk : (t : Int) < n) (hk1 : (t1 : Int) < n) (m0 : ∀ x, Wb.Ext wO x → x.cell? ⟨b, off + t1 * 3, none⟩ = some (.int .i64 ay)) (m1 : ∀ x, Wb.Ext wO x → x.cell? ⟨b, off + t1 * 3 + 1, none⟩ = some (.int .i64 ai)) (hl1 : ∀ W, Calls Tryz.prog 50 #[.int .i64 ay, .int .i64 ai, .int .i64 sy, .int .i64 si] W fun e w' => e = .returned (.bool true) ∧ W = w') (hl2 : ∀ W, Calls Tryz.prog 50 #[.int .i64 y, .int .i64 i, .int .i64 sy, .int .i64 si] W fun e w' => e = .returned (.bool g) ∧ W = w') :
  Code.wp Tryz.prog hd14bR (OnEnd fun a' wx => ∃ (u41 u42 u43 u44 u45 u46 u47 u48 u49 u50 u51 u52 u53 u54 u55 u56 u57 u58 u59 u60 u61 u62 u63 u64 u65 u66 u67 u68 u69 u70 u71 u72 u73 u74 u75 u76 u77 u78 u79 u80 u81 u82 u83 u84 : Value), a' = ⟨#[x0, x1, .pointer (some ⟨X, 0, none⟩), x3, x4, x5, x6, .slice (some ⟨b, off, none⟩) n vc, .int .i64 (t : Int), x9, x10, x11, x12, x13, x14, x15, x16, x17, x18, x19, x20, x21, x22, x23, x24, x25, x26, x27, x28, x29, x30, x31, x32, x33, x34, x35, x36, x37, x38, x39, x40, u41, u42, u43, u44, u45, u46, u47, u48, u49, u50, u51, u52, u53, u54, u55, u56, u57, u58, u59, u60, u61, u62, u63, u64, u65, u66, u67, u68, u69, u70, u71, u72, u73, u74, u75, u76, u77, u78, u79, u80, u81, u82, u83, u84, .bool g], ds⟩ ∧ Wb.Ext wO wx) ⟨#[x0, x1, .pointer (some ⟨X, 0, none⟩), x3, x4, x5, x6, .slice (some ⟨b, off, none⟩) n vc, .int .i64 (t : Int), x9, x10, x11, x12, x13, x14, x15, x16, x17, x18, x19, x20, x21, x22, x23, x24, x25, x26, x27, x28, x29, x30, x31, x32, x33, x34, x35, x36, x37, x38, x39, x40, x41, x42, x43, x44, x45, x46, x47, x48, x49, x50, x51, x52, x53, x54, x55, x56, x57, x58, x59, x60, x61, x62, x63, x64, x65, x66, x67, x68, x69, x70, x71, x72, x73, x74, x75, x76, x77, x78, x79, x80, x81, x82, x83, x84, x85], ds⟩ wO := by
 have HL1 := Lib.hid hl1
 clear hl1
 have HL2 := Lib.hid hl2
 clear hl2
 have d0n : decide (0 < t) = true := by simpa using d0
 have d0p : 0 < t := by simpa using d0n
 conv => arg 2; whnf
 refine region_start (S := Wb.Ext wO) (n := 45) (l := #[false, false, false, false, false, false, false, false, false, false, false, false, false, false, false, false, false, false, false, false, false, false, false, false, false, false, false, false, false, false, false, false, false, false, false, false, false, false, false, false, false, false, false, false, false]) (by kernel_rfl) (.drew (.refl wO)) (by kernel_rfl) (by kernel_rfl) (fun hHeld => ?_)
 refine tD 0 ?_
 refine tD 1 ?_
 refine tD 2 ?_
 refine tD 3 ?_
 refine tD 4 ?_
 refine tD 5 ?_
 refine tD 6 ?_
 refine tD 7 ?_
 refine tD 8 ?_
 refine tD 9 ?_
 refine tD 10 ?_
 refine tD 11 ?_
 refine tD 12 ?_
 refine tD 13 ?_
 refine tD 14 ?_
 refine tD 15 ?_
 refine tD 16 ?_
 refine tD 17 ?_
 refine tD 18 ?_
 refine tD 19 ?_
 refine tD 20 ?_
 refine tD 21 ?_
 refine tD 22 ?_
 refine tD 23 ?_
 refine tD 24 ?_
 refine wpAnyH_ready (rs := [25]) (by kernel_rfl) (by simp) ?_
 refine AllReadyH.cons (o := _) rfl (fun K hK => ?_) AllReadyH.nil
 go_simp
 go_at_call 50
 refine (HL1.out _).mono ?_
 rintro e w1 ⟨rfl, rfl⟩
 (try go_simp)
 refine hK.out _ _ hHeld (fun hHeld => ?_)
 clear hK K
 (try simp only [List.setIfInBounds_toArray, List.set_cons_zero, List.set_cons_succ])
 refine tD 26 ?_
 refine tD 27 ?_
 refine tD 28 ?_
 refine tD 29 ?_
 refine tD 30 ?_
 refine tD 31 ?_
 refine tD 32 ?_
 refine tD 33 ?_
 refine tD 34 ?_
 refine tD 35 ?_
 refine tD 36 ?_
 refine tD 37 ?_
 refine tD 38 ?_
 refine tD 39 ?_
 refine tD 40 ?_
 refine tD 41 ?_
 refine tD 42 ?_
 refine wpAnyH_ready (rs := [43]) (by kernel_rfl) (by simp) ?_
 refine AllReadyH.cons (o := _) rfl (fun K hK => ?_) AllReadyH.nil
 go_simp
 go_at_call 50
 refine (HL2.out _).mono ?_
 rintro e w2 ⟨rfl, rfl⟩
 (try go_simp)
 refine hK.out _ _ hHeld (fun hHeld => ?_)
 clear hK K
 (try simp only [List.setIfInBounds_toArray, List.set_cons_zero, List.set_cons_succ])
 refine tD 44 ?_
 refine wpAnyH_done (by kernel_rfl) ?_ _
 exact ⟨_, _, _, _, _, _, _, _, _, _, _, _, _, _, _, _, _, _, _, _, _, _, _, _, _, _, _, _, _, _, _, _, _, _, _, _, _, _, _, _, _, _, _, _, rfl, hHeld⟩
noncomputable def hd14cR : Code := ((Tryz.f51.body.bind (findReg 14)).getD .skip)
set_option maxHeartbeats 100000000 in
theorem hd14c (x0 x1 x3 x4 x5 x6 x9 x10 x11 x12 x13 x14 x15 x16 x17 x18 x19 x20 x21 x22 x23 x24 x25 x26 x27 x28 x29 x30 x31 x32 x33 x34 x35 x36 x37 x38 x39 x40 x41 x42 x43 x44 x45 x46 x47 x48 x49 x50 x51 x52 x53 x54 x55 x56 x57 x58 x59 x60 x61 x62 x63 x64 x65 x66 x67 x68 x69 x70 x71 x72 x73 x74 x75 x76 x77 x78 x79 x80 x81 x82 x83 x84 x85 : Value) (ds) (wO : World) (X b off n vc t : Nat) (y i sy si : Int) (l0 : ∀ x, Wb.Ext wO x → x.cell? ⟨b, off + t * 3, none⟩ = some (.int .i64 sy)) (l1 : ∀ x, Wb.Ext wO x → x.cell? ⟨b, off + t * 3 + 1, none⟩ = some (.int .i64 si)) (_x0' : ∀ x, Wb.Ext wO x → x.cell? ⟨X, 0, none⟩ = some (.int .i64 y)) (_x1' : ∀ x, Wb.Ext wO x → x.cell? ⟨X, 1, none⟩ = some (.int .i64 i))
  (t1 : Nat) (ay ai : Int) (d0 : decide ((0 : Int) < (t : Int)) = true) (hw : IntKind.i64.wrap ((t : Int) - 1) = (t1 : Int)) (hk : (t : Int) < n) (hk1 : (t1 : Int) < n) (m0 : ∀ x, Wb.Ext wO x → x.cell? ⟨b, off + t1 * 3, none⟩ = some (.int .i64 ay)) (m1 : ∀ x, Wb.Ext wO x → x.cell? ⟨b, off + t1 * 3 + 1, none⟩ = some (.int .i64 ai)) (hl1 : ∀ W, Calls Tryz.prog 50 #[.int .i64 ay, .int .i64 ai, .int .i64 sy, .int .i64 si] W fun e w' => e = .returned (.bool false) ∧ W = w') :
  Code.wp Tryz.prog hd14cR (OnEnd fun a' wx => ∃ (u41 u42 u43 u44 u45 u46 u47 u48 u49 u50 u51 u52 u53 u54 u55 u56 u57 u58 u59 u60 u61 u62 u63 u64 u65 u66 u67 u68 u69 u70 u71 u72 u73 u74 u75 u76 u77 u78 u79 u80 u81 u82 u83 u84 : Value), a' = ⟨#[x0, x1, .pointer (some ⟨X, 0, none⟩), x3, x4, x5, x6, .slice (some ⟨b, off, none⟩) n vc, .int .i64 (t : Int), x9, x10, x11, x12, x13, x14, x15, x16, x17, x18, x19, x20, x21, x22, x23, x24, x25, x26, x27, x28, x29, x30, x31, x32, x33, x34, x35, x36, x37, x38, x39, x40, u41, u42, u43, u44, u45, u46, u47, u48, u49, u50, u51, u52, u53, u54, u55, u56, u57, u58, u59, u60, u61, u62, u63, u64, u65, u66, u67, u68, u69, u70, u71, u72, u73, u74, u75, u76, u77, u78, u79, u80, u81, u82, u83, u84, .bool true], ds⟩ ∧ Wb.Ext wO wx) ⟨#[x0, x1, .pointer (some ⟨X, 0, none⟩), x3, x4, x5, x6, .slice (some ⟨b, off, none⟩) n vc, .int .i64 (t : Int), x9, x10, x11, x12, x13, x14, x15, x16, x17, x18, x19, x20, x21, x22, x23, x24, x25, x26, x27, x28, x29, x30, x31, x32, x33, x34, x35, x36, x37, x38, x39, x40, x41, x42, x43, x44, x45, x46, x47, x48, x49, x50, x51, x52, x53, x54, x55, x56, x57, x58, x59, x60, x61, x62, x63, x64, x65, x66, x67, x68, x69, x70, x71, x72, x73, x74, x75, x76, x77, x78, x79, x80, x81, x82, x83, x84, x85], ds⟩ wO := by
 have HL1 := Lib.hid hl1
 clear hl1
 have d0n : decide (0 < t) = true := by simpa using d0
 have d0p : 0 < t := by simpa using d0n
 conv => arg 2; whnf
 refine region_start (S := Wb.Ext wO) (n := 45) (l := #[false, false, false, false, false, false, false, false, false, false, false, false, false, false, false, false, false, false, false, false, false, false, false, false, false, false, false, false, false, false, false, false, false, false, false, false, false, false, false, false, false, false, false, false, false]) (by kernel_rfl) (.drew (.refl wO)) (by kernel_rfl) (by kernel_rfl) (fun hHeld => ?_)
 refine tD 0 ?_
 refine tD 1 ?_
 refine tD 2 ?_
 refine tD 3 ?_
 refine tD 4 ?_
 refine tD 5 ?_
 refine tD 6 ?_
 refine tD 7 ?_
 refine tD 8 ?_
 refine tD 9 ?_
 refine tD 10 ?_
 refine tD 11 ?_
 refine tD 12 ?_
 refine tD 13 ?_
 refine tD 14 ?_
 refine tD 15 ?_
 refine tD 16 ?_
 refine tD 17 ?_
 refine tD 18 ?_
 refine tD 19 ?_
 refine tD 20 ?_
 refine tD 21 ?_
 refine tD 22 ?_
 refine tD 23 ?_
 refine tD 24 ?_
 refine wpAnyH_ready (rs := [25]) (by kernel_rfl) (by simp) ?_
 refine AllReadyH.cons (o := _) rfl (fun K hK => ?_) AllReadyH.nil
 go_simp
 go_at_call 50
 refine (HL1.out _).mono ?_
 rintro e w1 ⟨rfl, rfl⟩
 (try go_simp)
 refine hK.out _ _ hHeld (fun hHeld => ?_)
 clear hK K
 (try simp only [List.setIfInBounds_toArray, List.set_cons_zero, List.set_cons_succ])
 refine tD 26 ?_
 refine tD 27 ?_
 refine tD 28 ?_
 refine tN 29 ?_
 refine tN 30 ?_
 refine tN 31 ?_
 refine tN 32 ?_
 refine tN 33 ?_
 refine tN 34 ?_
 refine tN 35 ?_
 refine tN 36 ?_
 refine tN 37 ?_
 refine tN 38 ?_
 refine tN 39 ?_
 refine tN 40 ?_
 refine tN 41 ?_
 refine tN 42 ?_
 refine tN 43 ?_
 refine tD 44 ?_
 refine wpAnyH_done (by kernel_rfl) ?_ _
 exact ⟨_, _, _, _, _, _, _, _, _, _, _, _, _, _, _, _, _, _, _, _, _, _, _, _, _, _, _, _, _, _, _, _, _, _, _, _, _, _, _, _, _, _, _, _, rfl, hHeld⟩
theorem hd14 (x0 x1 x3 x4 x5 x6 x9 x10 x11 x12 x13 x14 x15 x16 x17 x18 x19 x20 x21 x22 x23 x24 x25 x26 x27 x28 x29 x30 x31 x32 x33 x34 x35 x36 x37 x38 x39 x40 x41 x42 x43 x44 x45 x46 x47 x48 x49 x50 x51 x52 x53 x54 x55 x56 x57 x58 x59 x60 x61 x62 x63 x64 x65 x66 x67 x68 x69 x70 x71 x72 x73 x74 x75 x76 x77 x78 x79 x80 x81 x82 x83 x84 x85 : Value) (ds) (wO : World) (X b off n vc t : Nat) (y i sy si : Int) (l0 : ∀ x, Wb.Ext wO x → x.cell? ⟨b, off + t * 3, none⟩ = some (.int .i64 sy)) (l1 : ∀ x, Wb.Ext wO x → x.cell? ⟨b, off + t * 3 + 1, none⟩ = some (.int .i64 si)) (x0' : ∀ x, Wb.Ext wO x → x.cell? ⟨X, 0, none⟩ = some (.int .i64 y)) (x1' : ∀ x, Wb.Ext wO x → x.cell? ⟨X, 1, none⟩ = some (.int .i64 i)) (g : Bool) (hk : (t : Int) < n) (hn : n ≤ 4096)
  (h0 : t = 0 → (g = true ↔ prLt (y, i) (sy, si) = true))
  (h1 : 0 < t → ∃ (t1 : Nat) (ay ai : Int), t1 + 1 = t ∧ (∀ x, Wb.Ext wO x → x.cell? ⟨b, off + t1 * 3, none⟩ = some (.int .i64 ay)) ∧ (∀ x, Wb.Ext wO x → x.cell? ⟨b, off + t1 * 3 + 1, none⟩ = some (.int .i64 ai)) ∧ (g = true ↔ (prLt (ay, ai) (sy, si) = false ∨ prLt (y, i) (sy, si) = true))) :
  Code.wp Tryz.prog hd14aR (OnEnd fun a' wx => ∃ (u41 u42 u43 u44 u45 u46 u47 u48 u49 u50 u51 u52 u53 u54 u55 u56 u57 u58 u59 u60 u61 u62 u63 u64 u65 u66 u67 u68 u69 u70 u71 u72 u73 u74 u75 u76 u77 u78 u79 u80 u81 u82 u83 u84 : Value), a' = ⟨#[x0, x1, .pointer (some ⟨X, 0, none⟩), x3, x4, x5, x6, .slice (some ⟨b, off, none⟩) n vc, .int .i64 (t : Int), x9, x10, x11, x12, x13, x14, x15, x16, x17, x18, x19, x20, x21, x22, x23, x24, x25, x26, x27, x28, x29, x30, x31, x32, x33, x34, x35, x36, x37, x38, x39, x40, u41, u42, u43, u44, u45, u46, u47, u48, u49, u50, u51, u52, u53, u54, u55, u56, u57, u58, u59, u60, u61, u62, u63, u64, u65, u66, u67, u68, u69, u70, u71, u72, u73, u74, u75, u76, u77, u78, u79, u80, u81, u82, u83, u84, .bool g], ds⟩ ∧ Wb.Ext wO wx) ⟨#[x0, x1, .pointer (some ⟨X, 0, none⟩), x3, x4, x5, x6, .slice (some ⟨b, off, none⟩) n vc, .int .i64 (t : Int), x9, x10, x11, x12, x13, x14, x15, x16, x17, x18, x19, x20, x21, x22, x23, x24, x25, x26, x27, x28, x29, x30, x31, x32, x33, x34, x35, x36, x37, x38, x39, x40, x41, x42, x43, x44, x45, x46, x47, x48, x49, x50, x51, x52, x53, x54, x55, x56, x57, x58, x59, x60, x61, x62, x63, x64, x65, x66, x67, x68, x69, x70, x71, x72, x73, x74, x75, x76, x77, x78, x79, x80, x81, x82, x83, x84, x85], ds⟩ wO := by
 have bool_eq : ∀ a c : Bool, (a = true ↔ c = true) → a = c := fun a c h => by cases a <;> cases c <;> simp_all
 by_cases ht : t = 0
 ·have hg := bool_eq _ _ (h0 ht)
  rw [hg]
  exact hd14a _ _ _ _ _ _ _ _ _ _ _ _ _ _ _ _ _ _ _ _ _ _ _ _ _ _ _ _ _ _ _ _ _ _ _ _ _ _ _ _ _ _ _ _ _ _ _ _ _ _ _ _ _ _ _ _ _ _ _ _ _ _ _ _ _ _ _ _ _ _ _ _ _ _ _ _ _ _ _ _ _ _ _ ds wO X b off n vc t y i sy si l0 l1 x0' x1' _ (by simp; omega) hk (fun W => rless31_any y i sy si W)
 ·obtain ⟨t1, ay, ai, e, m0, m1, hg⟩ := h1 (by omega)
  have hw : IntKind.i64.wrap ((t : Int) - 1) = (t1 : Int) := by rw [show ((t : Int) - 1) = (t1 : Int) by omega]; exact IntWalk.i64_in _ (by omega)
  cases hl : prLt (ay, ai) (sy, si)
  ·have hgt : g = true := hg.2 (.inl hl)
   rw [hgt]
   exact hd14c _ _ _ _ _ _ _ _ _ _ _ _ _ _ _ _ _ _ _ _ _ _ _ _ _ _ _ _ _ _ _ _ _ _ _ _ _ _ _ _ _ _ _ _ _ _ _ _ _ _ _ _ _ _ _ _ _ _ _ _ _ _ _ _ _ _ _ _ _ _ _ _ _ _ _ _ _ _ _ _ _ _ _ ds wO X b off n vc t y i sy si l0 l1 x0' x1' t1 ay ai (by simp; omega) hw hk (by omega) m0 m1 (fun W => by
    have := rless31_any ay ai sy si W
    rw [hl] at this; exact this)
  ·have hg2 := bool_eq g (prLt (y, i) (sy, si)) ⟨fun h => (hg.1 h).elim (fun h2 => by rw [hl] at h2; cases h2) id, fun h => hg.2 (.inr h)⟩
   rw [hg2]
   exact hd14b _ _ _ _ _ _ _ _ _ _ _ _ _ _ _ _ _ _ _ _ _ _ _ _ _ _ _ _ _ _ _ _ _ _ _ _ _ _ _ _ _ _ _ _ _ _ _ _ _ _ _ _ _ _ _ _ _ _ _ _ _ _ _ _ _ _ _ _ _ _ _ _ _ _ _ _ _ _ _ _ _ _ _ ds wO X b off n vc t y i sy si l0 l1 x0' x1' _ t1 ay ai (by simp; omega) hw hk (by omega) m0 m1 (fun W => by
    have := rless31_any ay ai sy si W
    rw [hl] at this; exact this) (fun W => rless31_any y i sy si W)
end Go.Proofs.YtnefdpnolojojaaGreat
