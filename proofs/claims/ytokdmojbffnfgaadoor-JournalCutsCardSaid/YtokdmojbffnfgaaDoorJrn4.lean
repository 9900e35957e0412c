/- The walks of package journal: wrong, and the reference's. -/
import Derived.Test.YtokdmojbffnfgaaDoorJrn3
import Derived.Test.YtokdmojbffnfgaaDoorShelf
import Derived.Lib.IndexLaws
namespace Go.Proofs.YtokdmojbffnfgaaDoor
open Go.RowKit
set_option maxRecDepth 4000

/-- why an act can't be the next one -/
def wrongOf (n : Nat) (a : List UInt8) : Int := if a = [] then 10 else if 4096 < a.length then 4 else if (10 : UInt8) ∈ a then 3 else if 8192 ≤ n then 5 else 0
theorem index_mem (l : List UInt8) (c : UInt8) : 0 ≤ Lib.indexByte l c ↔ c ∈ l := by
  constructor
  · intro h
    obtain ⟨o, ho⟩ : ∃ o : Nat, Lib.indexByte l c = o := ⟨(Lib.indexByte l c).toNat, by omega⟩
    exact List.mem_of_getElem? (Lib.indexByte_some ho).1
  · intro h
    obtain ⟨k, hk⟩ := List.getElem?_of_mem h
    have := Lib.indexByte_ge l c
    by_cases h1 : Lib.indexByte l c = -1
    · exact absurd hk (Lib.indexByte_none h1 k)
    · omega

set_option maxRecDepth 100000 in
theorem wrong_any (v : Value) (l : List (List UInt8)) (m : Nat) (a : List UInt8) (w : World) (hv : Strs1 w v l) (ha : a.length ≤ 4611686018427387904) :
    Calls Tryd.prog 27 #[.agg #[v, .int .u64 (m : Int)], .string (Wb.S a)] w fun e w' => e = .returned (.int .i64 (wrongOf l.length a)) ∧ Wb.Ext w w' := by
  obtain ⟨va, c, rfl⟩ := hv.shape
  clear hv
  by_cases h0 : a = []
  · subst h0
    have H := Lib.hid (show wrongOf l.length [] = 10 from rfl)
    go_enter Tryd.func27, Tryd.ntmps27
    go_wp2
    go_ret
    exact ⟨Wb.ret_int H.out.symm, by (repeat' (first | (with_reducible assumption) | (with_reducible exact Wb.Ext.refl _) | (with_reducible refine Wb.Ext.drew ?_) | (with_reducible refine Wb.Ext.drewN ?_ _) | (with_reducible refine Wb.Ext.alloc ?_ _) | (with_reducible refine Wb.Ext.trans ?_ (by assumption))))⟩
  have e0 : (a == []) = false := by simpa using h0
  have e0' : a.isEmpty = false := by simpa using h0
  by_cases h1 : 4096 < a.length
  · have H := Lib.hid (show wrongOf l.length a = 4 by rw [wrongOf, if_neg h0, if_pos h1])
    go_enter Tryd.func27, Tryd.ntmps27
    go_wp2
    go_ret
    exact ⟨Wb.ret_int H.out.symm, by (repeat' (first | (with_reducible assumption) | (with_reducible exact Wb.Ext.refl _) | (with_reducible refine Wb.Ext.drew ?_) | (with_reducible refine Wb.Ext.drewN ?_ _) | (with_reducible refine Wb.Ext.alloc ?_ _) | (with_reducible refine Wb.Ext.trans ?_ (by assumption))))⟩
  have e1 : decide (4096 < (a.length : Int)) = false := by simp; omega
  have e1' : decide (4096 < a.length) = false := by simp; omega
  have hix := index_mem a 10
  obtain ⟨q, hq⟩ : ∃ q, Lib.indexByte a 10 = q := ⟨_, rfl⟩
  have HQ := Lib.hid (show Lib.indexByte (Wb.S a).data.toList (10 : Int).toNat.toUInt8 = q from hq)
  rw [hq] at hix
  clear hq
  by_cases h2 : 0 ≤ q
  · have H := Lib.hid (show wrongOf l.length a = 3 by rw [wrongOf, if_neg h0, if_neg h1, if_pos (hix.1 h2)])
    clear hix h1
    have H0 := Lib.hid h0
    clear h0
    go_enter Tryd.func27, Tryd.ntmps27
    go_wp2_with (go_at_call 33; refine (Tryd.strings_IndexByte (Wb.S a) 10 _).mono ?_; rintro e w' ⟨rfl, rfl⟩; rw [HQ.out])
    go_ret
    exact ⟨Wb.ret_int H.out.symm, by (repeat' (first | (with_reducible assumption) | (with_reducible exact Wb.Ext.refl _) | (with_reducible refine Wb.Ext.drew ?_) | (with_reducible refine Wb.Ext.drewN ?_ _) | (with_reducible refine Wb.Ext.alloc ?_ _) | (with_reducible refine Wb.Ext.trans ?_ (by assumption))))⟩
  have e2 : decide (0 ≤ q) = false := by simpa using h2
  by_cases h3 : 8192 ≤ l.length
  · have H := Lib.hid (show wrongOf l.length a = 5 by rw [wrongOf, if_neg h0, if_neg h1, if_neg (fun e => h2 (hix.2 e)), if_pos h3])
    clear hix h1 h2
    have H0 := Lib.hid h0
    clear h0
    go_enter Tryd.func27, Tryd.ntmps27
    go_wp2_with (go_at_call 33; refine (Tryd.strings_IndexByte (Wb.S a) 10 _).mono ?_; rintro e w' ⟨rfl, rfl⟩; rw [HQ.out])
    go_ret
    exact ⟨Wb.ret_int H.out.symm, by (repeat' (first | (with_reducible assumption) | (with_reducible exact Wb.Ext.refl _) | (with_reducible refine Wb.Ext.drew ?_) | (with_reducible refine Wb.Ext.drewN ?_ _) | (with_reducible refine Wb.Ext.alloc ?_ _) | (with_reducible refine Wb.Ext.trans ?_ (by assumption))))⟩
  · have e3 : decide (8192 ≤ (l.length : Int)) = false := by simp; omega
    have e3' : decide (8192 ≤ l.length) = false := by simp; omega
    have H := Lib.hid (show wrongOf l.length a = 0 by rw [wrongOf, if_neg h0, if_neg h1, if_neg (fun e => h2 (hix.2 e)), if_neg h3])
    clear hix h1 h2 h3
    have H0 := Lib.hid h0
    clear h0
    go_enter Tryd.func27, Tryd.ntmps27
    go_wp2_with (go_at_call 33; refine (Tryd.strings_IndexByte (Wb.S a) 10 _).mono ?_; rintro e w' ⟨rfl, rfl⟩; rw [HQ.out])
    go_ret
    exact ⟨Wb.ret_int H.out.symm, by (repeat' (first | (with_reducible assumption) | (with_reducible exact Wb.Ext.refl _) | (with_reducible refine Wb.Ext.drew ?_) | (with_reducible refine Wb.Ext.drewN ?_ _) | (with_reducible refine Wb.Ext.alloc ?_ _) | (with_reducible refine Wb.Ext.trans ?_ (by assumption))))⟩

end Go.Proofs.YtokdmojbffnfgaaDoor
