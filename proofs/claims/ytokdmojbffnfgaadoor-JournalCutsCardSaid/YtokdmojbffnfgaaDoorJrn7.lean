/- Chapter 38: the law's helpers few, same. -/
import Derived.Test.YtokdmojbffnfgaaDoorJrn6
import Derived.Deep.QuietTactic
import Derived.BigQuiet
namespace Go.Proofs.YtokdmojbffnfgaaDoor
open Go.RowKit
set_option maxRecDepth 4000

def fewB (l : List (List UInt8)) : Bool := l.all (fun s => decide (s.length ≤ 5000)) && decide (l.length ≤ 40)
theorem fewB_ok {l : List (List UInt8)} (h : fewB l = true) : (∀ s ∈ l, s.length ≤ 5000) ∧ l.length ≤ 40 := by
  simp [fewB] at h; exact h

set_option maxRecDepth 100000 in
theorem few_any (v : Value) (l : List (List UInt8)) (w : World) (hv : Strs1 w v l) (hl : l.length ≤ 9223372036854775807) (hs : ∀ s ∈ l, s.length ≤ 9223372036854775807) :
    Calls Tryd.prog 9 #[v] w fun e w' => e = .returned (.bool (fewB l)) ∧ w = w' := by
  obtain ⟨a, c, rfl⟩ := hv.shape
  have HV := Lib.hid hv
  have HS := Lib.hid hs
  clear hv hs
  go_enter Tryd.func9, Tryd.ntmps9
  go_wp2_with fail
  go_loop [7] (fun iv => ∃ k : Nat, k ≤ l.length ∧ iv = .int .i64 k ∧ ∀ s ∈ l.take k, s.length ≤ 5000) (fun iv => l.length - (intOf iv).toNat)
  case atStart => exact ⟨0, by omega, rfl, by simp⟩
  case round =>
    obtain ⟨k, hk, rfl, hall⟩ := hrel
    have HA := Lib.hid hall
    clear hall
    by_cases hlt : k < l.length
    · obtain ⟨s, hs⟩ := Wb.get_ex hlt
      obtain ⟨b, off, rfl, hcells⟩ := HV.out.opened (tne hlt)
      have hc0 := hcells k s hs 0 _ rfl
      simp only [Nat.mul_one, Nat.add_zero] at hc0
      have hsl := HS.out s (List.mem_of_getElem? hs)
      have HSS := Lib.hid hs
      clear hcells hs
      by_cases h5 : 5000 < s.length
      · have HF := Lib.hid (show fewB l = false by
          rw [Bool.eq_false_iff]; intro e
          have := (fewB_ok e).1 s (List.mem_of_getElem? HSS.out); omega)
        go_wp2
        go_ret
        exact ⟨Wb.ret_bool HF.out.symm, rfl⟩
      · have e5 : decide (5000 < (s.length : Int)) = false := by simp; omega
        have e5' : decide (5000 < s.length) = false := by simp; omega
        have HN := Lib.hid (show ∀ x ∈ l.take (k + 1), x.length ≤ 5000 by
          obtain ⟨h1, h2⟩ := List.getElem?_eq_some_iff.1 HSS.out
          rw [List.take_succ_eq_append_getElem h1, h2]
          intro x hx
          rcases List.mem_append.1 hx with q | q
          · exact HA.out x q
          · rw [List.mem_singleton.1 q]; omega)
        go_wp2
        go_round
        case rel => exact ⟨k + 1, by omega, by go_num, HN.out⟩
        case measure => simp [intOf]; omega
    · have HF := Lib.hid (show fewB l = decide ((l.length : Int) ≤ 40) by
        have h1 := HA.out
        rw [List.take_of_length_le (by omega)] at h1
        have h2 : l.all (fun s => decide (s.length ≤ 5000)) = true := by simpa using h1
        rw [fewB, h2, Bool.true_and]
        congr 1; simp; omega)
      go_wp2
      go_ret
      exact ⟨Wb.ret_bool HF.out.symm, rfl⟩

set_option maxHeartbeats 1000000 in
theorem same38_any (v u : Value) (l : List (List UInt8)) (w : World) (hv : Strs1 w v l) (hu : Strs1 w u l) (hn : l.length ≤ 100000) :
    Calls Tryd.prog 16 #[v, u] w fun e w' => e = .returned (.bool true) ∧ Wb.Ext w w' := by
  obtain ⟨va, vc, rfl⟩ := hv.shape
  obtain ⟨ua, uc, rfl⟩ := hu.shape
  have HV := Lib.hid hv
  have HU := Lib.hid hu
  clear hv hu
  go_enter Tryd.func16, Tryd.ntmps16
  go_wp2_with fail
  go_loopw [13] (fun iv wr => ∃ k : Nat, k ≤ l.length ∧ iv = .int .i64 k ∧ Wb.Ext w wr) (fun iv _ => l.length - (intOf iv).toNat)
  case atStart => exact ⟨0, by omega, rfl, by (repeat' (first | (with_reducible assumption) | (with_reducible exact Wb.Ext.refl _) | (with_reducible refine Wb.Ext.drew ?_) | (with_reducible refine Wb.Ext.drewN ?_ _) | (with_reducible refine Wb.Ext.alloc ?_ _) | (with_reducible refine Wb.Ext.trans ?_ (by assumption))))⟩
  case round =>
    obtain ⟨k, hk, rfl, hext⟩ := hrel
    by_cases hlt : k < l.length
    · obtain ⟨p, hp⟩ := Wb.get_ex hlt
      obtain ⟨b, off, rfl, hcells⟩ := (HV.out.ext hext).opened (tne hlt)
      obtain ⟨b2, off2, rfl, hcells2⟩ := (HU.out.ext hext).opened (tne hlt)
      have hc0 := hcells k p hp 0 _ rfl
      have hd0 := hcells2 k p hp 0 _ rfl
      simp only [Nat.mul_one, Nat.add_zero] at hc0 hd0
      have hki : (k : Int) < l.length := by omega
      clear hcells hcells2 hp
      go_wp2_with fail
      go_quiet (fail)
      go_wp2
      go_roundw
      case rel => exact ⟨k + 1, by omega, by go_num, by (repeat' (first | (with_reducible assumption) | (with_reducible exact Wb.Ext.refl _) | (with_reducible refine Wb.Ext.drew ?_) | (with_reducible refine Wb.Ext.drewN ?_ _) | (with_reducible refine Wb.Ext.alloc ?_ _) | (with_reducible refine Wb.Ext.trans ?_ (by assumption))))⟩
      case measure => simp [intOf]; omega
    · go_wp2
      go_ret
      exact ⟨rfl, by (repeat' (first | (with_reducible assumption) | (with_reducible exact Wb.Ext.refl _) | (with_reducible refine Wb.Ext.drew ?_) | (with_reducible refine Wb.Ext.drewN ?_ _) | (with_reducible refine Wb.Ext.alloc ?_ _) | (with_reducible refine Wb.Ext.trans ?_ (by assumption))))⟩

end Go.Proofs.YtokdmojbffnfgaaDoor
