/- Run17 -/
import Derived.Test.YtnefdpnolojojaaGreatDoorMRc
namespace Go.Proofs.YtnefdpnolojojaaGreatDoor
open Go.RowKit Go.Sort Go.Lib Go.Maps
set_option maxRecDepth 8000
attribute [local go_sem ↓] Go.wp_at_zero Go.wp_at_succ
structure HdsW (w : World) (v : Value) (hs : List HdM) : Prop where
 tab : Tbl 2 hdc w v hs
 each : ∀ h ∈ hs, Sls w h.v h.L ∧ kU32.ok h.p
theorem HdsW.ext {w w' : World} {v : Value} {hs : List HdM} (h : HdsW w v hs) (k : Wb.Ext w w') : HdsW w' v hs := ⟨h.tab.ext k, fun x hx => ⟨(h.each x hx).1.ext k, (h.each x hx).2⟩⟩
structure AcM where
 y : Int
 i : Int
 k : Int
 v : Value
 hs : List HdM
def acc (a : AcM) : List Value := [.int .i64 a.y, .int .i64 a.i, .int .i64 a.k, a.v]
structure ActsM (w : World) (v : Value) (al : List AcM) : Prop where
 tab : Tbl 4 acc w v al
 each : ∀ a ∈ al, HdsW w a.v a.hs
theorem ActsM.ext {w w' : World} {v : Value} {al : List AcM} (h : ActsM w v al) (k : Wb.Ext w w') : ActsM w' v al := ⟨h.tab.ext k, fun x hx => (h.each x hx).ext k⟩
def ZZ : Nat := 140737488355328
def FitA (al : List AcM) : Prop := al.length ≤ ZZ ∧ ∀ a ∈ al, a.hs.length ≤ ZZ ∧ ∀ h ∈ a.hs, h.L.length ≤ ZZ ∧ ∀ s ∈ h.L, s.l.length ≤ ZZ
def SmallH (n : Int) (h : HdM) : Prop := h.L.length ≤ 60 ∧ ∀ s ∈ h.L, (s.l.length : Int) ≤ n
def SmallA (n : Int) (a : AcM) : Prop := a.hs.length ≤ 20 ∧ ∀ h ∈ a.hs, SmallH n h
def SmallL (al : List AcM) : Prop := al.length ≤ 20 ∧ ∀ a ∈ al, SmallA 1500 a
theorem SmallH.mono {n m : Int} {h : HdM} (k : SmallH n h) (e : n ≤ m) : SmallH m h := ⟨k.1, fun s hs => Int.le_trans (k.2 s hs) e⟩
theorem SmallA.mono {n m : Int} {a : AcM} (k : SmallA n a) (e : n ≤ m) : SmallA m a := ⟨k.1, fun h hh => (k.2 h hh).mono e⟩
theorem mem_snoc {α : Type} {l : List α} {j : Nat} {x y : α} (h : l[j]? = some x) (hy : y ∈ l.take (j + 1)) : y ∈ l.take j ∨ y = x := by
 rw [take_snoc h] at hy
 simpa using hy
def GreatPost (al : List AcM) (w : World) (e : Ending) (w' : World) : Prop := ∃ g, e = .returned (.bool g) ∧ (g = false → SmallL al) ∧ Wb.Ext w w'
set_option maxHeartbeats 8000000 in
theorem great31_any (v : Value) (al : List AcM) (w : World) (h : ActsM w v al) (hz : FitA al) :
  Calls Tryz.prog 9 #[v] w (GreatPost al w) := by
 obtain ⟨va, vc, rfl⟩ := h.tab.shape
 have HA := Lib.hid h
 have HZ := Lib.hid hz
 have hal := hz.1
 unfold ZZ at hal
 clear h hz
 go_enter Tryz.func9, Tryz.ntmps9
 go_wp2_with fail
 go_loopw [4, 3] (fun iv nv wr => ∃ (j : Nat) (n : Int), j ≤ al.length ∧ j ≤ 20 ∧ iv = .int .i64 j ∧ nv = .int .i64 n ∧ (al.length : Int) ≤ n ∧ n ≤ 140737488355328 * (1 + 1221 * (j : Int)) ∧ Hid (∀ a ∈ al.take j, SmallA n a) ∧ Hid (Wb.Ext w wr)) (fun iv _ _ => 20 - (intOf iv).toNat)
 case atStart => exact ⟨0, al.length, Nat.zero_le _, Nat.zero_le _, rfl, rfl, Int.le_refl _, by omega, Lib.hid (fun a ha => by cases ha), Lib.hid (.refl _)⟩
 case round =>
  obtain ⟨j, n, hj, hj20, rfl, rfl, hn0, hn1, HS, HX⟩ := hrel
  obtain ⟨wO, hwz⟩ : ∃ z, z = wr := ⟨_, rfl⟩
  subst hwz
  by_cases hgo : j < al.length ∧ j < 20
  case neg =>
   have HEND := Lib.hid (show al.length ≤ 20 → n ≤ 1500 → SmallL al from fun h1 h2 => by
    refine ⟨h1, fun a ha => ?_⟩
    have e : al.take j = al := List.take_of_length_le (by omega)
    exact (HS.out a (by rw [e]; exact ha)).mono h2)
   have hpost : ∀ g : Bool, (g = false → al.length ≤ 20 ∧ n ≤ 1500) → GreatPost al w (.returned (.bool g)) wO := fun g hg => ⟨g, rfl, fun e => HEND.out (hg e).1 (hg e).2, HX.out⟩
   have HP := Lib.hid hpost
   clear hpost
   by_cases hb : 1500 < n
   ·have d2 : decide ((1500 : Int) < n) = true := by simpa using hb
    by_cases h1 : j < al.length
    ·have h2 : ¬ j < 20 := fun h => hgo ⟨h1, h⟩
     have e1 : decide ((j : Int) < (al.length : Int)) = true := by simp; omega
     have e2 : decide ((j : Int) < (20 : Int)) = false := by simp; omega
     have n2 : ¬ (j : Int) < 20 := by omega
     have h1i : (j : Int) < al.length := by omega
     clear hgo hb
     go_wp2
     exact bodyPost_ret (v := .bool true) (by simp [results, Tryz.results9, go_sem]) rfl (HP.out true (fun e => by cases e))
    ·have e1 : decide ((j : Int) < (al.length : Int)) = false := by simp; omega
     have n1 : ¬ (j : Int) < (al.length : Int) := by omega
     clear hgo hb
     go_wp2
     exact bodyPost_ret (v := .bool true) (by simp [results, Tryz.results9, go_sem]) rfl (HP.out true (fun e => by cases e))
   ·have d2 : decide ((1500 : Int) < n) = false := by simpa using hb
    by_cases hl : 20 < al.length
    ·have d3 : decide ((20 : Int) < (al.length : Int)) = true := by simp; omega
     have h1 : j < al.length := by omega
     have e1 : decide ((j : Int) < (al.length : Int)) = true := by simp; omega
     have e2 : decide ((j : Int) < (20 : Int)) = false := by simp; omega
     have n2 : ¬ (j : Int) < 20 := by omega
     clear hgo hb
     go_wp2
     exact bodyPost_ret (v := .bool true) (by simp [results, Tryz.results9, go_sem]) rfl (HP.out true (fun e => by cases e))
    ·have d3 : decide ((20 : Int) < (al.length : Int)) = false := by simp; omega
     have hfin : al.length ≤ 20 ∧ n ≤ 1500 := ⟨by omega, by omega⟩
     by_cases h1 : j < al.length
     ·have h2 : ¬ j < 20 := fun h => hgo ⟨h1, h⟩
      have e1 : decide ((j : Int) < (al.length : Int)) = true := by simp; omega
      have e2 : decide ((j : Int) < (20 : Int)) = false := by simp; omega
      have n2 : ¬ (j : Int) < 20 := by omega
      clear hgo hb
      go_wp2
      exact bodyPost_ret (v := .bool false) (by simp [results, Tryz.results9, go_sem]) rfl (HP.out false (fun _ => hfin))
     ·have e1 : decide ((j : Int) < (al.length : Int)) = false := by simp; omega
      have n1 : ¬ (j : Int) < (al.length : Int) := by omega
      clear hgo hb
      go_wp2
      exact bodyPost_ret (v := .bool false) (by simp [results, Tryz.results9, go_sem]) rfl (HP.out false (fun _ => hfin))
  obtain ⟨hlt, hlt20⟩ := hgo
  obtain ⟨a, ha⟩ := Wb.get_ex hlt
  have hmem := List.mem_of_getElem? ha
  have hHW := (HA.out.each a hmem).ext HX.out
  obtain ⟨xa, xc, hav⟩ := hHW.tab.shape
  obtain ⟨b, off, hb, hc⟩ := (HA.out.tab.ext HX.out).opened (by rintro rfl; simp at ha)
  obtain rfl : va = some ⟨b, off, none⟩ := hb
  have c3 := hc j a ha 3 (.slice xa a.hs.length xc) (by rw [← hav]; rfl)
  have HHW := Lib.hid (show HdsW wO (.slice xa a.hs.length xc) a.hs by rw [← hav]; exact hHW)
  have hhz := (HZ.out.2 a hmem).1
  unfold ZZ at hhz
  have HHZ := Lib.hid (HZ.out.2 a hmem).2
  have HAJ := Lib.hid ha
  have hji : (j : Int) < al.length := by omega
  have e1 : decide ((j : Int) < (al.length : Int)) = true := by simp; omega
  have e2 : decide ((j : Int) < (20 : Int)) = true := by simp; omega
  have hw1 : IntKind.i64.wrap (n + (a.hs.length : Int)) = n + (a.hs.length : Int) := IntWalk.i64_in _ (by omega)
  clear ha hmem hHW hav hc
  go_wp2_with fail
  go_loopw [5, 3] (fun iv nv wr => ∃ (k : Nat) (m : Int), k ≤ a.hs.length ∧ k ≤ 20 ∧ iv = .int .i64 k ∧ nv = .int .i64 m ∧ n ≤ m ∧ m ≤ n + 140737488355328 * (1 + 61 * (k : Int)) ∧ Hid (∀ h ∈ a.hs.take k, SmallH m h) ∧ Hid (Wb.Ext wO wr)) (fun iv _ _ => 20 - (intOf iv).toNat)
  case atStart => exact ⟨0, n + a.hs.length, Nat.zero_le _, Nat.zero_le _, rfl, rfl, by omega, by omega, Lib.hid (fun h hh => by cases hh), Lib.hid (.refl _)⟩
  case round =>
   obtain ⟨k, m, hk, hk20, rfl, rfl, hm0, hm1, HK, HY⟩ := hrel
   obtain ⟨wP, hwz⟩ : ∃ z, z = wr := ⟨_, rfl⟩
   subst hwz
   replace c3 := HY.out.keep c3
   by_cases hgo : k < a.hs.length ∧ k < 20
   case neg =>
    have HXP := Lib.hid (HX.out.trans HY.out)
    by_cases hl : 20 < a.hs.length
    ·have d3 : decide ((20 : Int) < (a.hs.length : Int)) = true := by simp; omega
     have h1 : k < a.hs.length := by omega
     have f1 : decide ((k : Int) < (a.hs.length : Int)) = true := by simp; omega
     have f2 : decide ((k : Int) < (20 : Int)) = false := by simp; omega
     have m2 : ¬ (k : Int) < 20 := by omega
     clear hgo
     go_wp2
     exact bodyPost_ret (v := .bool true) (by simp [results, Tryz.results9, go_sem]) rfl ⟨true, rfl, (fun e => by cases e), HXP.out⟩
    ·have d3 : decide ((20 : Int) < (a.hs.length : Int)) = false := by simp; omega
     have HSN := Lib.hid (show ∀ x ∈ al.take (j + 1), SmallA m x from fun x hx => by
      rcases mem_snoc HAJ.out hx with hx | rfl
      ·exact (HS.out x hx).mono hm0
      ·exact ⟨by omega, fun h hh => HK.out h (by rw [List.take_of_length_le (by omega)]; exact hh)⟩)
     by_cases h1 : k < a.hs.length
     ·have h2 : ¬ k < 20 := fun h => hgo ⟨h1, h⟩
      exact (show False by omega).elim
     ·have f1 : decide ((k : Int) < (a.hs.length : Int)) = false := by simp; omega
      have m1 : ¬ (k : Int) < (a.hs.length : Int) := by omega
      clear hgo
      go_wp2
      go_roundw
      case rel => exact ⟨j + 1, m, by omega, by omega, by go_num, rfl, by omega, by omega, HSN, HXP⟩
      case measure => first | (simp [intOf]; done) | (simp [intOf]; omega)
   obtain ⟨hkl, hkl20⟩ := hgo
   obtain ⟨h, hh⟩ := Wb.get_ex hkl
   have hmem := List.mem_of_getElem? hh
   obtain ⟨hsl, -⟩ := (HHW.out.ext HY.out).each h hmem
   obtain ⟨za, zc, hhv⟩ := hsl.1.shape
   obtain ⟨b2, off2, hb2, hc2⟩ := (HHW.out.tab.ext HY.out).opened (by intro e; rw [e] at hh; simp at hh)
   obtain rfl : xa = some ⟨b2, off2, none⟩ := hb2
   have d1 := hc2 k h hh 1 (.slice za h.L.length zc) (by rw [← hhv]; rfl)
   have HSL := Lib.hid (show Sls wP (.slice za h.L.length zc) h.L by rw [← hhv]; exact hsl)
   obtain ⟨hlz, hlz2⟩ := HHZ.out h hmem
   unfold ZZ at hlz
   have HLZ := Lib.hid hlz2
   have HHK := Lib.hid hh
   have hki : (k : Int) < a.hs.length := by omega
   have f1 : decide ((k : Int) < (a.hs.length : Int)) = true := by simp; omega
   have f2 : decide ((k : Int) < (20 : Int)) = true := by simp; omega
   have hw2 : IntKind.i64.wrap (m + (h.L.length : Int)) = m + (h.L.length : Int) := IntWalk.i64_in _ (by omega)
   have HXP := Lib.hid (HX.out.trans HY.out)
   clear hh hmem hsl hhv hc2 hlz2
   go_wp2_with fail
   go_loopw [6, 3] (fun iv nv wr => ∃ (t : Nat) (q : Int), t ≤ h.L.length ∧ t ≤ 60 ∧ iv = .int .i64 t ∧ nv = .int .i64 q ∧ m ≤ q ∧ q ≤ m + 140737488355328 * (1 + (t : Int)) ∧ Hid (∀ s ∈ h.L.take t, (s.l.length : Int) ≤ q) ∧ Hid (Wb.Ext wP wr)) (fun iv _ _ => 60 - (intOf iv).toNat)
   case atStart => exact ⟨0, m + h.L.length, Nat.zero_le _, Nat.zero_le _, rfl, rfl, by omega, by omega, Lib.hid (fun s hs => by cases hs), Lib.hid (.refl _)⟩
   case round =>
    obtain ⟨t, q, ht, ht60, rfl, rfl, hq0, hq1, HT, HU⟩ := hrel
    obtain ⟨wQ, hwz⟩ : ∃ z, z = wr := ⟨_, rfl⟩
    subst hwz
    replace c3 := HU.out.keep c3
    replace d1 := HU.out.keep d1
    by_cases hgo : t < h.L.length ∧ t < 60
    case neg =>
     have HXQ := Lib.hid (HXP.out.trans HU.out)
     by_cases hl : 60 < h.L.length
     ·have d3 : decide ((60 : Int) < (h.L.length : Int)) = true := by simp; omega
      have h1 : t < h.L.length := by omega
      have h2 : ¬ t < 60 := fun e => hgo ⟨h1, e⟩
      have g1 : decide ((t : Int) < (h.L.length : Int)) = true := by simp; omega
      have g2 : decide ((t : Int) < (60 : Int)) = false := by simp; omega
      have m2 : ¬ (t : Int) < 60 := by omega
      clear hgo
      go_wp2
      exact bodyPost_ret (v := .bool true) (by simp [results, Tryz.results9, go_sem]) rfl ⟨true, rfl, (fun e => by cases e), HXQ.out⟩
     ·have d3 : decide ((60 : Int) < (h.L.length : Int)) = false := by simp; omega
      have HKN := Lib.hid (show ∀ x ∈ a.hs.take (k + 1), SmallH q x from fun x hx => by
       rcases mem_snoc HHK.out hx with hx | rfl
       ·exact (HK.out x hx).mono hq0
       ·exact ⟨by omega, fun s hs => HT.out s (by rw [List.take_of_length_le (by omega)]; exact hs)⟩)
      have HYN := Lib.hid (HY.out.trans HU.out)
      by_cases h1 : t < h.L.length
      ·have h2 : ¬ t < 60 := fun e => hgo ⟨h1, e⟩
       exact (show False by omega).elim
      ·have g1 : decide ((t : Int) < (h.L.length : Int)) = false := by simp; omega
       have m1 : ¬ (t : Int) < (h.L.length : Int) := by omega
       clear hgo
       go_wp2
       go_roundw
       case rel => exact ⟨k + 1, q, by omega, by omega, by go_num, rfl, by omega, by omega, HKN, HYN⟩
       case measure => first | (simp [intOf]; done) | (simp [intOf]; omega)
    obtain ⟨htl, htl60⟩ := hgo
    obtain ⟨s, hs⟩ := Wb.get_ex htl
    have hmem := List.mem_of_getElem? hs
    obtain ⟨b3, off3, hb3, -, -, e3⟩ := (HSL.out.ext HU.out).cells hs
    obtain rfl : za = some ⟨b3, off3, none⟩ := hb3
    obtain ⟨ya, yc, hsv⟩ := (HSL.out.2 s hmem).1.1.shape
    rw [hsv] at e3
    have hsz := HLZ.out s hmem
    unfold ZZ at hsz
    have HST := Lib.hid hs
    have hti : (t : Int) < h.L.length := by omega
    have g1 : decide ((t : Int) < (h.L.length : Int)) = true := by simp; omega
    have g2 : decide ((t : Int) < (60 : Int)) = true := by simp; omega
    have hw3 : IntKind.i64.wrap (q + (s.l.length : Int)) = q + (s.l.length : Int) := IntWalk.i64_in _ (by omega)
    have HTN := Lib.hid (show ∀ x ∈ h.L.take (t + 1), (x.l.length : Int) ≤ q + s.l.length from fun x hx => by
     rcases mem_snoc HST.out hx with hx | rfl
     ·have := HT.out x hx; omega
     ·have := HLZ.out; omega)
    clear hs hmem hsv
    go_wp2
    go_roundw
    case rel => exact ⟨t + 1, q + s.l.length, by omega, by omega, by go_num, rfl, by omega, by omega, HTN, HU⟩
    case measure => first | (simp [intOf]; done) | (simp [intOf]; omega)
end Go.Proofs.YtnefdpnolojojaaGreatDoor
