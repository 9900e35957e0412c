/- Slip -/
import Derived.Test.YtnefdpnolojojaaGreatDoorMBa
import Derived.Test.YtnefdpnolojojaaGreatDoorMPl
import Derived.Deep.QuietTactic
import Derived.BigQuiet
import Derived.Deep.RegionHeld3
import Derived.Deep.DeepFit
namespace Go.Proofs.YtnefdpnolojojaaGreatDoor
open Go.RowKit
set_option maxRecDepth 4000
abbrev LnV (x : Wb.Ln) : Value := .agg #[.int .i64 x.part, .string (Wb.S x.code), .int .i64 x.cents]
theorem less_any (a b : Wb.Ln) (w : World) :
  Calls Tryz.prog 63 #[LnV a, LnV b] w fun e w' => e = .returned (.bool (Wb.lnLt a b)) ∧ Wb.Ext w w' := by
 obtain ⟨p, c, n⟩ := a
 obtain ⟨q, d, m⟩ := b
 by_cases h : p < q
 ·have H := Lib.hid (show Wb.lnLt ⟨p, c, n⟩ ⟨q, d, m⟩ = true by simp [Wb.lnLt, h])
  go_enter Tryz.func63, Tryz.ntmps63
  go_wp2
  go_ret
  exact ⟨by rw [H.out]; rfl, by (repeat' (first | (with_reducible assumption) | (with_reducible exact Wb.Ext.refl _) | (with_reducible refine Wb.Ext.drew ?_) | (with_reducible refine Wb.Ext.drewN ?_ _) | (with_reducible refine Wb.Ext.alloc ?_ _) | (with_reducible refine Wb.Ext.trans ?_ (by assumption))))⟩
 ·have h' : decide (p < q) = false := by simpa using h
  cases he : (p == q)
  ·have H := Lib.hid (show Wb.lnLt ⟨p, c, n⟩ ⟨q, d, m⟩ = false by simp only [Wb.lnLt, h', he]; rfl)
   go_enter Tryz.func63, Tryz.ntmps63
   go_wp2
   go_ret
   exact ⟨by rw [H.out]; rfl, by (repeat' (first | (with_reducible assumption) | (with_reducible exact Wb.Ext.refl _) | (with_reducible refine Wb.Ext.drew ?_) | (with_reducible refine Wb.Ext.drewN ?_ _) | (with_reducible refine Wb.Ext.alloc ?_ _) | (with_reducible refine Wb.Ext.trans ?_ (by assumption))))⟩
  ·have H := Lib.hid (show Wb.lnLt ⟨p, c, n⟩ ⟨q, d, m⟩ = Op.bytesLess c d by simp only [Wb.lnLt, h', he]; rfl)
   go_enter Tryz.func63, Tryz.ntmps63
   go_wp2
   go_ret
   exact ⟨by rw [H.out]; rfl, by (repeat' (first | (with_reducible assumption) | (with_reducible exact Wb.Ext.refl _) | (with_reducible refine Wb.Ext.drew ?_) | (with_reducible refine Wb.Ext.drewN ?_ _) | (with_reducible refine Wb.Ext.alloc ?_ _) | (with_reducible refine Wb.Ext.trans ?_ (by assumption))))⟩
theorem code_any (c : List UInt8) (hc : c.length ≤ 9223372036854775807) (w : World) :
  Calls Tryz.prog 95 #[.string (Wb.S c)] w fun e w' => e = .returned (.bool (Wb.codeOk c)) ∧ Wb.Ext w w' := by
 by_cases h0 : c = []
 ·subst h0
  go_enter Tryz.func95, Tryz.ntmps95
  go_wp2
  go_ret
  exact ⟨rfl, by (repeat' (first | (with_reducible assumption) | (with_reducible exact Wb.Ext.refl _) | (with_reducible refine Wb.Ext.drew ?_) | (with_reducible refine Wb.Ext.drewN ?_ _) | (with_reducible refine Wb.Ext.alloc ?_ _) | (with_reducible refine Wb.Ext.trans ?_ (by assumption))))⟩
 ·have h1 : c.isEmpty = false := by simpa using h0
  have h2 : (c == []) = false := by simpa using h0
  cases h3 : (c == [45])
  ·by_cases h4 : 32 < c.length
   ·have H := Lib.hid (show Wb.codeOk c = false by simp [Wb.codeOk]; omega)
    go_enter Tryz.func95, Tryz.ntmps95
    go_wp2
    go_ret
    exact ⟨by rw [H.out]; rfl, by (repeat' (first | (with_reducible assumption) | (with_reducible exact Wb.Ext.refl _) | (with_reducible refine Wb.Ext.drew ?_) | (with_reducible refine Wb.Ext.drewN ?_ _) | (with_reducible refine Wb.Ext.alloc ?_ _) | (with_reducible refine Wb.Ext.trans ?_ (by assumption))))⟩
   ·have d4 : decide (32 < (c.length : Int)) = false := by simp; omega
    obtain ⟨w1, cap, hcv, hext, hcell⟩ := Wb.conv_bytes (P := Tryz.prog) w 9 79 5 c Tryz.underlying9 Tryz.underlying79 Tryz.underlying5
    have HC := Lib.hid hcell; clear hcell
    have HX := Lib.hid hext; clear hext
    have HO := Lib.hid (show Wb.codeOk c = c.all Wb.chOk by simp only [Wb.codeOk, h1, h3]; simp; omega)
    clear h0
    go_enter Tryz.func95, Tryz.ntmps95
    go_wp2
    go_loop [19] (fun i => ∃ k : Nat, k ≤ c.length ∧ i = .int .i64 k ∧ (c.take k).all Wb.chOk = true) (fun i => c.length - (intOf i).toNat)
    case atStart => exact ⟨0, by omega, rfl, rfl⟩
    case round =>
     obtain ⟨k, hk, rfl, hall⟩ := hrel
     have HA := Lib.hid hall; clear hall
     by_cases hlt : k < c.length
     ·have hcell := HC.out k hlt
      obtain ⟨b, hb⟩ : ∃ b, Wb.byteAt c k = b := ⟨_, rfl⟩
      have HTK := Lib.hid (Wb.take_byte hlt)
      rw [hb] at hcell HTK
      have HB := Lib.hid hb; clear hb
      have hb8 : (b.toNat : Int) < 256 := by have := b.toNat_lt; omega
      have hcs : (b.toNat : Int) < 45 ∨ (b.toNat : Int) = 45 ∨ (b.toNat : Int) = 46 ∨ (b.toNat : Int) = 47 ∨ (48 ≤ (b.toNat : Int) ∧ (b.toNat : Int) ≤ 57) ∨ (58 ≤ (b.toNat : Int) ∧ (b.toNat : Int) ≤ 94) ∨ (b.toNat : Int) = 95 ∨ (b.toNat : Int) = 96 ∨ (97 ≤ (b.toNat : Int) ∧ (b.toNat : Int) ≤ 122) ∨ 123 ≤ (b.toNat : Int) := by omega
      rcases hcs with hx | hx | hx | hx | ⟨hx, hy⟩ | ⟨hx, hy⟩ | hx | hx | ⟨hx, hy⟩ | hx
      ·have Hb := Lib.hid (show Wb.chOk b = false by simp [Wb.chOk]; omega)
       have H := Lib.hid (Wb.codeOk_bad hlt (by rw [HB.out, Hb.out]))
       go_wp2
       go_ret
       exact ⟨by rw [H.out]; rfl, HX.out⟩
      ·have Hb := Lib.hid (show Wb.chOk b = true by simp [Wb.chOk, hx])
       go_wp2
       go_round
       case rel => exact ⟨k + 1, by omega, by go_num, by rw [HTK.out, List.all_append, HA.out]; simp [Hb.out]⟩
       case measure => simp [intOf]; omega
      ·have Hb := Lib.hid (show Wb.chOk b = true by simp [Wb.chOk, hx])
       go_wp2
       go_round
       case rel => exact ⟨k + 1, by omega, by go_num, by rw [HTK.out, List.all_append, HA.out]; simp [Hb.out]⟩
       case measure => simp [intOf]; omega
      ·have Hb := Lib.hid (show Wb.chOk b = false by simp [Wb.chOk, hx])
       have H := Lib.hid (Wb.codeOk_bad hlt (by rw [HB.out, Hb.out]))
       go_wp2
       go_ret
       exact ⟨by rw [H.out]; rfl, HX.out⟩
      ·have Hb := Lib.hid (show Wb.chOk b = true by simp [Wb.chOk]; omega)
       go_wp2
       go_round
       case rel => exact ⟨k + 1, by omega, by go_num, by rw [HTK.out, List.all_append, HA.out]; simp [Hb.out]⟩
       case measure => simp [intOf]; omega
      ·have Hb := Lib.hid (show Wb.chOk b = false by simp [Wb.chOk]; omega)
       have H := Lib.hid (Wb.codeOk_bad hlt (by rw [HB.out, Hb.out]))
       go_wp2
       go_ret
       exact ⟨by rw [H.out]; rfl, HX.out⟩
      ·have Hb := Lib.hid (show Wb.chOk b = true by simp [Wb.chOk, hx])
       go_wp2
       go_round
       case rel => exact ⟨k + 1, by omega, by go_num, by rw [HTK.out, List.all_append, HA.out]; simp [Hb.out]⟩
       case measure => simp [intOf]; omega
      ·have Hb := Lib.hid (show Wb.chOk b = false by simp [Wb.chOk, hx])
       have H := Lib.hid (Wb.codeOk_bad hlt (by rw [HB.out, Hb.out]))
       go_wp2
       go_ret
       exact ⟨by rw [H.out]; rfl, HX.out⟩
      ·have Hb := Lib.hid (show Wb.chOk b = true by simp [Wb.chOk]; omega)
       go_wp2
       go_round
       case rel => exact ⟨k + 1, by omega, by go_num, by rw [HTK.out, List.all_append, HA.out]; simp [Hb.out]⟩
       case measure => simp [intOf]; omega
      ·have Hb := Lib.hid (show Wb.chOk b = false by simp [Wb.chOk]; omega)
       have H := Lib.hid (Wb.codeOk_bad hlt (by rw [HB.out, Hb.out]))
       go_wp2
       go_ret
       exact ⟨by rw [H.out]; rfl, HX.out⟩
     ·have H := Lib.hid (show Wb.codeOk c = true by rw [HO.out]; have := HA.out; rwa [List.take_of_length_le (by omega)] at this)
      go_wp2
      go_ret
      exact ⟨by rw [H.out]; rfl, HX.out⟩
  ·have H := Lib.hid (show Wb.codeOk c = false by simp [Wb.codeOk, h3])
   go_enter Tryz.func95, Tryz.ntmps95
   go_wp2
   go_ret
   exact ⟨by rw [H.out]; rfl, by (repeat' (first | (with_reducible assumption) | (with_reducible exact Wb.Ext.refl _) | (with_reducible refine Wb.Ext.drew ?_) | (with_reducible refine Wb.Ext.drewN ?_ _) | (with_reducible refine Wb.Ext.alloc ?_ _) | (with_reducible refine Wb.Ext.trans ?_ (by assumption))))⟩
theorem line_any (x : Wb.Ln) (hx : x.code.length ≤ 9223372036854775807) (w : World) :
  Calls Tryz.prog 62 #[LnV x] w fun e w' => e = .returned (.int .i64 (Wb.lineErr x)) ∧ Wb.Ext w w' := by
 obtain ⟨p, c, n⟩ := x
 simp only at hx
 by_cases hp : p < 0
 ·have H := Lib.hid (show Wb.lineErr ⟨p, c, n⟩ = 11 by simp [Wb.lineErr, hp])
  go_enter Tryz.func62, Tryz.ntmps62
  go_wp2
  go_ret
  exact ⟨by rw [H.out]; rfl, by (repeat' (first | (with_reducible assumption) | (with_reducible exact Wb.Ext.refl _) | (with_reducible refine Wb.Ext.drew ?_) | (with_reducible refine Wb.Ext.drewN ?_ _) | (with_reducible refine Wb.Ext.alloc ?_ _) | (with_reducible refine Wb.Ext.trans ?_ (by assumption))))⟩
 ·have dp : decide (p < 0) = false := by simpa using hp
  by_cases hp7 : 7 ≤ p
  ·have H := Lib.hid (show Wb.lineErr ⟨p, c, n⟩ = 11 by simp [Wb.lineErr, hp7])
   go_enter Tryz.func62, Tryz.ntmps62
   go_wp2
   go_ret
   exact ⟨by rw [H.out]; rfl, by (repeat' (first | (with_reducible assumption) | (with_reducible exact Wb.Ext.refl _) | (with_reducible refine Wb.Ext.drew ?_) | (with_reducible refine Wb.Ext.drewN ?_ _) | (with_reducible refine Wb.Ext.alloc ?_ _) | (with_reducible refine Wb.Ext.trans ?_ (by assumption))))⟩
  ·have dp7 : decide (7 ≤ p) = false := by simpa using hp7
   have hn : ¬ (p < 0 ∨ 7 ≤ p) := by omega
   cases hc : Wb.codeOk c
   ·have H := Lib.hid (show Wb.lineErr ⟨p, c, n⟩ = 12 by simp only [Wb.lineErr]; rw [if_neg hn, if_pos hc])
    go_enter Tryz.func62, Tryz.ntmps62
    go_wp2_with (go_at_call 95; refine (code_any c (by omega) _).mono ?_; rintro e w' ⟨rfl, hb⟩)
    go_ret
    exact ⟨by rw [H.out]; rfl, by (repeat' (first | (with_reducible assumption) | (with_reducible exact Wb.Ext.refl _) | (with_reducible refine Wb.Ext.drew ?_) | (with_reducible refine Wb.Ext.drewN ?_ _) | (with_reducible refine Wb.Ext.alloc ?_ _) | (with_reducible refine Wb.Ext.trans ?_ (by assumption))))⟩
   ·have hcn : ¬ Wb.codeOk c = false := by rw [hc]; simp
    cases hz : (n == 0)
    ·have hzn : ¬ n = 0 := by simpa using hz
     cases hf : Wb.fits n
     ·have H := Lib.hid (show Wb.lineErr ⟨p, c, n⟩ = 9 by simp only [Wb.lineErr]; rw [if_neg hn, if_neg hcn, if_neg hzn, if_pos hf])
      go_enter Tryz.func62, Tryz.ntmps62
      go_wp2_with (first | (go_at_call 95; refine (code_any c (by omega) _).mono ?_; rintro e w' ⟨rfl, hb⟩; obtain ⟨hcc, hff⟩ := hb.cells) | (go_at_call 38; refine (fits_any _ _).mono ?_; rintro e w' ⟨rfl, rfl⟩))
      go_ret
      exact ⟨by rw [H.out]; rfl, by (repeat' (first | (with_reducible assumption) | (with_reducible exact Wb.Ext.refl _) | (with_reducible refine Wb.Ext.drew ?_) | (with_reducible refine Wb.Ext.drewN ?_ _) | (with_reducible refine Wb.Ext.alloc ?_ _) | (with_reducible refine Wb.Ext.trans ?_ (by assumption))))⟩
     ·have H := Lib.hid (show Wb.lineErr ⟨p, c, n⟩ = 0 by simp only [Wb.lineErr]; rw [if_neg hn, if_neg hcn, if_neg hzn, if_neg (by rw [hf]; simp)])
      go_enter Tryz.func62, Tryz.ntmps62
      go_wp2_with (first | (go_at_call 95; refine (code_any c (by omega) _).mono ?_; rintro e w' ⟨rfl, hb⟩; obtain ⟨hcc, hff⟩ := hb.cells) | (go_at_call 38; refine (fits_any _ _).mono ?_; rintro e w' ⟨rfl, rfl⟩))
      go_ret
      exact ⟨by rw [H.out]; rfl, by (repeat' (first | (with_reducible assumption) | (with_reducible exact Wb.Ext.refl _) | (with_reducible refine Wb.Ext.drew ?_) | (with_reducible refine Wb.Ext.drewN ?_ _) | (with_reducible refine Wb.Ext.alloc ?_ _) | (with_reducible refine Wb.Ext.trans ?_ (by assumption))))⟩
    ·have hzn : n = 0 := by simpa using hz
     have H := Lib.hid (show Wb.lineErr ⟨p, c, n⟩ = 22 by simp only [Wb.lineErr]; rw [if_neg hn, if_neg hcn, if_pos hzn])
     clear hzn
     go_enter Tryz.func62, Tryz.ntmps62
     go_wp2_with (first | (go_at_call 95; refine (code_any c (by omega) _).mono ?_; rintro e w' ⟨rfl, hb⟩; obtain ⟨hcc, hff⟩ := hb.cells) | (go_at_call 38; refine (fits_any _ _).mono ?_; rintro e w' ⟨rfl, rfl⟩))
     go_ret
     exact ⟨by rw [H.out]; rfl, by (repeat' (first | (with_reducible assumption) | (with_reducible exact Wb.Ext.refl _) | (with_reducible refine Wb.Ext.drew ?_) | (with_reducible refine Wb.Ext.drewN ?_ _) | (with_reducible refine Wb.Ext.alloc ?_ _) | (with_reducible refine Wb.Ext.trans ?_ (by assumption))))⟩
def Lns (w : World) (v : Value) (l : List Wb.Ln) : Prop :=
 (l = [] ∧ ∃ a cap, v = .slice a 0 cap) ∨ ∃ b off cap, v = .slice (some ⟨b, off, none⟩) l.length cap ∧ ∀ j x, l[j]? = some x →
  w.cell? ⟨b, off + j * 3, none⟩ = some (.int .i64 x.part) ∧ w.cell? ⟨b, off + j * 3 + 1, none⟩ = some (.string (Wb.S x.code)) ∧ w.cell? ⟨b, off + j * 3 + 2, none⟩ = some (.int .i64 x.cents)
theorem Lns.ext {w w' : World} {v : Value} {l : List Wb.Ln} (h : Lns w v l) (k : Wb.Ext w w') : Lns w' v l := by
 rcases h with h | ⟨b, off, cap, h1, h2⟩
 ·exact .inl h
 ·exact .inr ⟨b, off, cap, h1, fun j x hj => ⟨k.keep (h2 j x hj).1, k.keep (h2 j x hj).2.1, k.keep (h2 j x hj).2.2⟩⟩
def Sized (l : List Wb.Ln) : Prop := l.length ≤ 4398046511104 ∧ ∀ x ∈ l, x.code.length ≤ 9223372036854775807
theorem Lns.shape {w : World} {v : Value} {l : List Wb.Ln} (h : Lns w v l) : ∃ a cap, v = .slice a l.length cap := by
 rcases h with ⟨rfl, a, cap, rfl⟩ | ⟨b, off, cap, rfl, _⟩
 ·exact ⟨_, _, rfl⟩
 ·exact ⟨_, _, rfl⟩
theorem Lns.opened {w : World} {a : Option Addr} {n cap : Nat} {l : List Wb.Ln} (h : Lns w (.slice a n cap) l) (hne : l ≠ []) : ∃ b off, a = some ⟨b, off, none⟩ ∧ ∀ j x, l[j]? = some x →
  w.cell? ⟨b, off + j * 3, none⟩ = some (.int .i64 x.part) ∧ w.cell? ⟨b, off + j * 3 + 1, none⟩ = some (.string (Wb.S x.code)) ∧ w.cell? ⟨b, off + j * 3 + 2, none⟩ = some (.int .i64 x.cents) := by
 rcases h with ⟨h, _⟩ | ⟨b, off, cap, hv, hc⟩
 ·exact absurd h hne
 ·cases hv; exact ⟨b, off, rfl, hc⟩
theorem ne_of_lt {α : Type} {l : List α} {k : Nat} (h : k < l.length) : l ≠ [] := by rintro rfl; simp at h
end Go.Proofs.YtnefdpnolojojaaGreatDoor
