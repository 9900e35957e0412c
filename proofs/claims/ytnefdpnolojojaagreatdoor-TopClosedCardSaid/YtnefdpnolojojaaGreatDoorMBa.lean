/- MBa -/
import Derived.Test.YtnefdpnolojojaaGreatDoorRows
import Derived.Test.YtnefdpnolojojaaGreatDoorMPl
import Derived.WalkKit
import Derived.WalkSpells
import Derived.WalkLawsBesides
import Derived.Lib.Hide
import Derived.Handy
namespace Go.Proofs.YtnefdpnolojojaaGreatDoor
open Go.RowKit
namespace Wb
def S (l : List UInt8) : ByteArray := ⟨l.toArray⟩
theorem S_ex (s : ByteArray) : ∃ l, s = S l := ⟨s.data.toList, by simp [S]⟩
@[go_sem] theorem S_app (a b : List UInt8) : S a ++ S b = S (a ++ b) := by apply ByteArray.ext; simp [S, ByteArray.data_append]
@[go_sem] theorem S_app_mk (a : List UInt8) (x : Array UInt8) : S a ++ ⟨x⟩ = S (a ++ x.toList) := by apply ByteArray.ext; simp [S, ByteArray.data_append]
@[go_sem] theorem mk_app_S (a : List UInt8) (x : Array UInt8) : ⟨x⟩ ++ S a = S (x.toList ++ a) := by apply ByteArray.ext; simp [S, ByteArray.data_append]
@[go_sem] theorem mk_app_mk (x y : Array UInt8) : (⟨x⟩ : ByteArray) ++ ⟨y⟩ = S (x.toList ++ y.toList) := by apply ByteArray.ext; simp [S, ByteArray.data_append]
@[go_sem] theorem S_size (a : List UInt8) : (S a).size = a.length := by simp [S, ByteArray.size]
@[go_sem] theorem S_toList (a : List UInt8) : (S a).toList = a := ByteArray.toList_mk a
@[go_sem] theorem mk_toList (x : Array UInt8) : (ByteArray.mk x).toList = x.toList := by rw [ByteArray.toList_eq]
@[go_sem] theorem S_get (a : List UInt8) (i : Nat) (h : i < (S a).size) : (S a)[i]'h = byteAt a i := by
 have h' : i < a.length := by simpa [S_size] using h
 rw [byteAt, List.getElem?_eq_getElem h', Option.getD_some]; rfl
@[go_sem] theorem S_extract (l : List UInt8) (a b : Nat) : (S l).extract a b = S ((l.drop a).take (b - a)) := ByteArray.extract_mk l a b
theorem S_inj {a b : List UInt8} (h : S a = S b) : a = b := by have := congrArg ByteArray.toList h; simpa [S_toList] using this
theorem ret_str {a b : List UInt8} (h : a = b) : Ending.returned (.string (S a)) = .returned (.string (S b)) := by rw [h]
theorem ret_int {k : IntKind} {a b : Int} (h : a = b) : Ending.returned (.int k a) = .returned (.int k b) := by rw [h]
theorem ret_bool {a b : Bool} (h : a = b) : Ending.returned (.bool a) = .returned (.bool b) := by rw [h]
def Ext (w w' : World) : Prop := Below w.heap.size w w'
theorem Ext.refl (w : World) : Ext w w := Below.refl _ _
theorem Ext.of_eq {w w' : World} (h : w = w') : Ext w w' := h ▸ Below.refl _ _
theorem Ext.trans {a b c : World} (h : Ext a b) (k : Ext b c) : Ext a c := Below.trans h (Below.mono k h.size)
theorem Ext.alloc {a w : World} (h : Ext a w) (o : Obj) : Ext a (w.alloc o) := Below.alloc h h.size o
theorem Ext.drew {a w : World} (h : Ext a w) : Ext a w.drew := Below.drew h
theorem Ext.drewN {a w : World} (h : Ext a w) (n : Nat) : Ext a (w.drewN n) := ⟨h.os, h.tape, h.output, h.size, h.block⟩
theorem Ext.cells {w w' : World} (h : Ext w w') : (∀ b o, b < w.heap.size → w'.cell? ⟨b, o, none⟩ = w.cell? ⟨b, o, none⟩) ∧ (∀ b o, b < w.heap.size → w'.frozen? ⟨b, o, none⟩ = w.frozen? ⟨b, o, none⟩) :=
 ⟨fun b o k => Below.cell h (p := ⟨b, o, none⟩) k, fun b o k => Below.frozen h (p := ⟨b, o, none⟩) k⟩
theorem cell_size {w : World} {b o : Nat} {v : Value} (h : w.cell? ⟨b, o, none⟩ = some v) : b < w.heap.size := by
 rcases Nat.lt_or_ge b w.heap.size with k | k
 ·exact k
 ·simp [World.cell?, Array.getElem?_eq_none k] at h
theorem Ext.keep {w w' : World} (h : Ext w w') {b o : Nat} {v : Value} (k : w.cell? ⟨b, o, none⟩ = some v) : w'.cell? ⟨b, o, none⟩ = some v := by
 rw [h.cells.1 b o (cell_size k)]; exact k
theorem conv_bytes {P : Program} (w : World) (src dst e : TypeId) (c : List UInt8) (hs : P.underlying src = some .string) (hd : P.underlying dst = some (.slice e)) (he : P.underlying e = some (.int .u8)) :
  ∃ w1 cap, (convert src dst (.string (S c))).run P w = .ok (.slice (some ⟨w.heap.size, 0, none⟩) c.length cap) w1 ∧ Ext w w1 ∧ ∀ j, j < c.length → w1.cell? ⟨w.heap.size, j, none⟩ = some (.int .u8 ((byteAt c j).toNat : Int)) := by
 have h := run_bytes_of_string (P := P) w src dst e (S c) hs hd he
 rw [S_size] at h
 refine ⟨_, _, h, ((Ext.refl w).drew).alloc _, fun j hj => ?_⟩
 have hj' : j < (S c).data.size := by simpa [S] using hj
 have h2 := World.cell?_alloc_mark w.drew (bytesRow (S c) (grownCap w c.length 0 e)) e ((bytesRow (S c) (grownCap w c.length 0 e)).size, (bytesRow (S c) (grownCap w c.length 0 e)).size + 1) j
 refine (show _ = _ from h2).trans ?_
 rw [bytesRow_at (S c) _ j hj', byteAt_eq hj]
 rfl
end Wb
end Go.Proofs.YtnefdpnolojojaaGreatDoor
namespace Go.Proofs.YtnefdpnolojojaaGreatDoor
open Go.RowKit
set_option maxRecDepth 4000
theorem fits_any (c : Int) (w : World) :
  Calls Tryz.prog 38 #[.int .i64 c] w fun e w' => e = .returned (.bool (Wb.fits c)) ∧ w = w' := by
 by_cases h : -1125899906842624 ≤ c
 ·go_enter Tryz.func38, Tryz.ntmps38
  go_wp2
  go_ret
  exact ⟨by simp [Wb.fits, h], rfl⟩
 ·have h' : decide (-1125899906842624 ≤ c) = false := by simpa using h
  go_enter Tryz.func38, Tryz.ntmps38
  go_wp2
  go_ret
  exact ⟨by rw [Wb.fits, h']; rfl, rfl⟩
theorem enc_dig (k : Nat) (h : k < 10) : Utf8.encode (48 + (k : Int)) = Wb.S [Wb.dig k] := by
 have : k = 0 ∨ k = 1 ∨ k = 2 ∨ k = 3 ∨ k = 4 ∨ k = 5 ∨ k = 6 ∨ k = 7 ∨ k = 8 ∨ k = 9 := by omega
 rcases this with h | h | h | h | h | h | h | h | h | h <;> subst h <;> rfl
theorem whole_any (n : Int) (h0 : 0 ≤ n) (h1 : n ≤ 1125899906842624) (w : World) :
  Calls Tryz.prog 39 #[.int .i64 n] w fun e w' => e = .returned (.string (Wb.S (Wb.digs n.toNat))) ∧ w = w' := by
 obtain ⟨m, rfl⟩ := Int.eq_ofNat_of_zero_le h0
 go_enter Tryz.func39, Tryz.ntmps39
 go_wp2
 go_loop [0, 3] (fun n s => ∃ (k : Nat) (t : List UInt8), k ≤ m ∧ t.length ≤ 20 ∧ n = .int .i64 k ∧ s = .string (Wb.S t) ∧ Wb.digs k ++ t = Wb.digs m ∧ (Wb.digs k).length + t.length ≤ 20) (fun n _ => (intOf n).toNat)
 case atStart => exact ⟨m, [], by omega, by simp, rfl, rfl, by simp, by have := Wb.digs_length 15 m (by omega); simp; omega⟩
 case round =>
  obtain ⟨k, t, hk, ht, rfl, rfl, hd, hl⟩ := hrel
  have Hd := Lib.hid hd; clear hd
  by_cases h9 : 9 < (k : Int)
  ·have hp := Wb.digs_pos (k / 10)
   have Hg := Lib.hid (Wb.digs_ge (n := k) (by omega))
   have hl2 : (Wb.digs (k / 10)).length + (1 + t.length) ≤ 20 := by rw [Hg.out] at hl; simp at hl; omega
   have henc : Utf8.encode (48 + (k : Int) % 10) = Wb.S [Wb.dig (k % 10)] := by
    have := enc_dig (k % 10) (by omega)
    simpa using this
   go_wp2
   go_round
   case rel => exact ⟨k / 10, Wb.dig (k % 10) :: t, by omega, by simp; omega, by go_num, by simp, by rw [← Hd.out, Hg.out]; simp, by simp; omega⟩
   case measure => simp [intOf]; omega
  ·have henc2 := enc_dig k (by omega)
   go_wp2
   go_ret
   exact ⟨Wb.ret_str (by rw [← Hd.out, Wb.digs_lt (by omega)]; rfl), rfl⟩
theorem told_wrap (a b : Int) : Wb.told a b (wrap64 (a + b)) = Wb.told a b (a + b) := by
 unfold Wb.told
 by_cases h : Wb.fits a = true ∧ Wb.fits b = true
 ·have ha := (Wb.fits_iff a).1 h.1
  have hb := (Wb.fits_iff b).1 h.2
  rw [IntWalk.wrap64_in _ (by omega)]
 ·simp [h]
abbrev Two (x : Int × Int) : Ending := .returned (.tuple #[.int .i64 x.1, .int .i64 x.2])
theorem told_any (a b c : Int) (w : World) :
  Calls Tryz.prog 106 #[.int .i64 a, .int .i64 b, .int .i64 c] w fun e w' => e = Two (Wb.told a b c) ∧ w = w' := by
 by_cases ha : Wb.fits a = true
 ·by_cases hb : Wb.fits b = true
  ·by_cases hc : Wb.fits c = true
   all_goals
    go_enter Tryz.func106, Tryz.ntmps106
    go_wp2_with (go_at_call 38; refine (fits_any _ _).mono ?_; rintro e w' ⟨rfl, rfl⟩)
    go_ret2
    exact ⟨by simp [Two, Wb.told, *], rfl⟩
  ·go_enter Tryz.func106, Tryz.ntmps106
   go_wp2_with (go_at_call 38; refine (fits_any _ _).mono ?_; rintro e w' ⟨rfl, rfl⟩)
   go_ret2
   exact ⟨by simp [Two, Wb.told, *], rfl⟩
 ·go_enter Tryz.func106, Tryz.ntmps106
  go_wp2_with (go_at_call 38; refine (fits_any _ _).mono ?_; rintro e w' ⟨rfl, rfl⟩)
  go_ret2
  exact ⟨by simp [Two, Wb.told, *], rfl⟩
theorem add_any (a b : Int) (w : World) :
  Calls Tryz.prog 75 #[.int .i64 a, .int .i64 b] w fun e w' => e = Two (Wb.told a b (a + b)) ∧ w = w' := by
 have H := Lib.hid (told_wrap a b)
 go_enter Tryz.func75, Tryz.ntmps75
 go_wp2_with fail
 refine (told_any _ _ _ _).mono ?_; rintro e w' ⟨rfl, rfl⟩
 rw [H.out]
 go_wp2
 go_ret2
 exact ⟨rfl, rfl⟩
theorem told_in {a b c : Int} (ha : Wb.fits a = true) (hb : Wb.fits b = true) (hc : Wb.fits c = true) : Wb.told a b c = (c, 0) := by simp [Wb.told, *]
theorem told_over {a b c : Int} (ha : Wb.fits a = true) (hb : Wb.fits b = true) (hc : ¬ Wb.fits c = true) : Wb.told a b c = (0, 9) := by simp [Wb.told, *]
def Ints (w : World) (v : Value) (l : List Int) : Prop :=
 (l = [] ∧ ∃ a cap, v = .slice a 0 cap) ∨ ∃ b off cap, v = .slice (some ⟨b, off, none⟩) l.length cap ∧ ∀ j, j < l.length → w.cell? ⟨b, off + j, none⟩ = some (.int .i64 (l.getD j 0))
theorem Ints.ext {w w' : World} {v : Value} {l : List Int} (h : Ints w v l) (k : Wb.Ext w w') : Ints w' v l := by
 rcases h with h | ⟨b, off, cap, h1, h2⟩
 ·exact .inl h
 ·exact .inr ⟨b, off, cap, h1, fun j hj => k.keep (h2 j hj)⟩
end Go.Proofs.YtnefdpnolojojaaGreatDoor
