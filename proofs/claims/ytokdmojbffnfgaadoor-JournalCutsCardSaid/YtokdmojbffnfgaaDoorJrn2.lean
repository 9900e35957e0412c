/- The walks of package journal: Log's Mark, Len. -/
import Derived.Test.YtokdmojbffnfgaaDoorJrn1
import Derived.Test.YtokdmojbffnfgaaDoorTbl
namespace Go.Proofs.YtokdmojbffnfgaaDoor
open Go.RowKit
set_option maxRecDepth 4000

def strc (s : List UInt8) : List Value := [.string (Wb.S s)]
theorem strc_len (s : List UInt8) : (strc s).length = 1 := rfl
abbrev Strs1 (w : World) (v : Value) (l : List (List UInt8)) : Prop := Tbl 1 strc w v l

theorem lmark_any (v : Value) (l : List (List UInt8)) (m : Nat) (w : World) (hv : Strs1 w v l) :
    Calls Tryd.prog 14 #[.agg #[v, .int .u64 (m : Int)]] w fun e w' => e = .returned (.int .u64 ((if l = [] then Wb.mfirst else m : Nat) : Int)) ∧ Wb.Ext w w' := by
  obtain ⟨a, c, rfl⟩ := hv.shape
  clear hv
  by_cases h : l = []
  · subst h
    have H := Lib.hid (show ((if ([] : List (List UInt8)) = [] then Wb.mfirst else m : Nat) : Int) = 14695981039346656037 by rw [if_pos rfl, Wb.mfirst]; rfl)
    rw [H.out]
    go_enter Tryd.func14, Tryd.ntmps14
    go_wp2
    go_ret
    exact ⟨rfl, by (repeat' (first | (with_reducible assumption) | (with_reducible exact Wb.Ext.refl _) | (with_reducible refine Wb.Ext.drew ?_) | (with_reducible refine Wb.Ext.drewN ?_ _) | (with_reducible refine Wb.Ext.alloc ?_ _) | (with_reducible refine Wb.Ext.trans ?_ (by assumption))))⟩
  · have H := Lib.hid (show ((if l = [] then Wb.mfirst else m : Nat) : Int) = m by rw [if_neg h])
    have hl : l.length ≠ 0 := fun e => h (List.length_eq_zero_iff.1 e)
    have h0 : ((l.length : Int) == 0) = false := by simp; omega
    have h0n : (l.length == 0) = false := by simp; omega
    rw [H.out]
    clear h hl
    go_enter Tryd.func14, Tryd.ntmps14
    go_wp2
    go_ret
    exact ⟨rfl, by (repeat' (first | (with_reducible assumption) | (with_reducible exact Wb.Ext.refl _) | (with_reducible refine Wb.Ext.drew ?_) | (with_reducible refine Wb.Ext.drewN ?_ _) | (with_reducible refine Wb.Ext.alloc ?_ _) | (with_reducible refine Wb.Ext.trans ?_ (by assumption))))⟩

theorem llen_any (v : Value) (l : List (List UInt8)) (m : Nat) (w : World) (hv : Strs1 w v l) :
    Calls Tryd.prog 15 #[.agg #[v, .int .u64 (m : Int)]] w fun e w' => e = .returned (.int .i64 l.length) ∧ Wb.Ext w w' := by
  obtain ⟨a, c, rfl⟩ := hv.shape
  clear hv
  go_enter Tryd.func15, Tryd.ntmps15
  go_wp2
  go_ret
  exact ⟨rfl, by (repeat' (first | (with_reducible assumption) | (with_reducible exact Wb.Ext.refl _) | (with_reducible refine Wb.Ext.drew ?_) | (with_reducible refine Wb.Ext.drewN ?_ _) | (with_reducible refine Wb.Ext.alloc ?_ _) | (with_reducible refine Wb.Ext.trans ?_ (by assumption))))⟩

theorem llen_s (ao : Option Addr) (n c m : Nat) (w : World) :
    Calls Tryd.prog 15 #[.agg #[.slice ao n c, .int .u64 (m : Int)]] w fun e w' => e = .returned (.int .i64 n) ∧ Wb.Ext w w' := by
  go_enter Tryd.func15, Tryd.ntmps15
  go_wp2
  go_ret
  exact ⟨rfl, by (repeat' (first | (with_reducible assumption) | (with_reducible exact Wb.Ext.refl _) | (with_reducible refine Wb.Ext.drew ?_) | (with_reducible refine Wb.Ext.drewN ?_ _) | (with_reducible refine Wb.Ext.alloc ?_ _) | (with_reducible refine Wb.Ext.trans ?_ (by assumption))))⟩

end Go.Proofs.YtokdmojbffnfgaaDoor
