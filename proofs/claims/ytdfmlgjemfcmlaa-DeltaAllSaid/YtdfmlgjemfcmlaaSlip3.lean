/- Chapter 27: sums. -/
import Derived.Test.YtdfmlgjemfcmlaaSlip2
namespace Go.Proofs.Ytdfmlgjemfcmlaa
open Go.RowKit
set_option maxRecDepth 4000

theorem sum_any27 (y i : Int) (v : Value) (l : List Wb.Ln) (f t : Int) (w : World) (hl : Lns w v l) (hf : Wb.Cfit l) (hn : l.length ≤ 448) :
    Calls Try.prog 43 #[.agg #[.int .i64 y, .int .i64 i, v], .int .i64 f, .int .i64 t] w fun e w' => e = .returned (.int .i64 (Wb.sumOf f t l)) ∧ Wb.Ext w w' := by
  obtain ⟨a, cap, rfl⟩ := hl.shape
  have HL := Lib.hid hl; clear hl
  have HF := Lib.hid hf; clear hf
  go_enter Try.func43, Try.ntmps43
  go_wp2
  go_loopw [7, 13] (fun s iv wr => ∃ (k : Nat) (c : Int), k ≤ l.length ∧ iv = .int .i64 k ∧ s = .int .i64 c ∧ c = Wb.sumOf f t (l.take k) ∧ Wb.Ext (w.alloc (.cells #[.int .i64 y, .int .i64 i, .slice a l.length cap] 24)) wr) (fun _ iv _ => l.length - (intOf iv).toNat)
  case atStart => exact ⟨0, 0, by omega, rfl, rfl, rfl, by (repeat' (first | (with_reducible assumption) | (with_reducible exact Wb.Ext.refl _) | (with_reducible refine Wb.Ext.drew ?_) | (with_reducible refine Wb.Ext.drewN ?_ _) | (with_reducible refine Wb.Ext.alloc ?_ _) | (with_reducible refine Wb.Ext.trans ?_ (by assumption))))⟩
  case round =>
    obtain ⟨k, c, hk, rfl, rfl, hc, hext⟩ := hrel
    have hcb := Wb.sumOf_take_bound (f := f) (t := t) HF.out hn k
    rw [← hc] at hcb
    have HCC := Lib.hid hc; clear hc
    have hew : Wb.Ext w wr := by (repeat' (first | (with_reducible assumption) | (with_reducible exact Wb.Ext.refl _) | (with_reducible refine Wb.Ext.drew ?_) | (with_reducible refine Wb.Ext.drewN ?_ _) | (with_reducible refine Wb.Ext.alloc ?_ _) | (with_reducible refine Wb.Ext.trans ?_ (by assumption))))
    have hsz := hext.size
    have hz1 : w.heap.size < wr.heap.size := by simp at hsz; omega
    obtain ⟨hce, hfe⟩ := hext.cells
    by_cases hlt : k < l.length
    · obtain ⟨x, hx⟩ := Wb.get_ex hlt
      obtain ⟨b, off, rfl, hcells⟩ := (HL.out.ext hew).opened (ne_of_lt hlt)
      obtain ⟨hcp, hcx, hcn⟩ := hcells k x hx
      clear hcells
      have hxb := HF.out x (List.mem_of_getElem? hx)
      have HT := Lib.hid (Wb.sumOf_snoc (f := f) (t := t) hx)
      clear hx
      by_cases h1 : f ≤ x.part
      · by_cases h2 : x.part ≤ t
        · have HI := Lib.hid (show f ≤ x.part ∧ x.part ≤ t from ⟨h1, h2⟩)
          go_wp2
          go_roundw
          case rel => exact ⟨k + 1, _, by omega, by go_num, rfl, by rw [HT.out, if_pos HI.out, HCC.out], by (repeat' (first | (with_reducible assumption) | (with_reducible exact Wb.Ext.refl _) | (with_reducible refine Wb.Ext.drew ?_) | (with_reducible refine Wb.Ext.drewN ?_ _) | (with_reducible refine Wb.Ext.alloc ?_ _) | (with_reducible refine Wb.Ext.trans ?_ (by assumption))))⟩
          case measure => simp [intOf]; omega
        · have d2 : decide (x.part ≤ t) = false := by simpa using h2
          have HI := Lib.hid (show ¬ (f ≤ x.part ∧ x.part ≤ t) by omega)
          go_wp2
          go_roundw
          case rel => exact ⟨k + 1, _, by omega, by go_num, rfl, by rw [HT.out, if_neg HI.out, Int.add_zero, HCC.out], by (repeat' (first | (with_reducible assumption) | (with_reducible exact Wb.Ext.refl _) | (with_reducible refine Wb.Ext.drew ?_) | (with_reducible refine Wb.Ext.drewN ?_ _) | (with_reducible refine Wb.Ext.alloc ?_ _) | (with_reducible refine Wb.Ext.trans ?_ (by assumption))))⟩
          case measure => simp [intOf]; omega
      · have d1 : decide (f ≤ x.part) = false := by simpa using h1
        have HI := Lib.hid (show ¬ (f ≤ x.part ∧ x.part ≤ t) by omega)
        go_wp2
        go_roundw
        case rel => exact ⟨k + 1, _, by omega, by go_num, rfl, by rw [HT.out, if_neg HI.out, Int.add_zero, HCC.out], by (repeat' (first | (with_reducible assumption) | (with_reducible exact Wb.Ext.refl _) | (with_reducible refine Wb.Ext.drew ?_) | (with_reducible refine Wb.Ext.drewN ?_ _) | (with_reducible refine Wb.Ext.alloc ?_ _) | (with_reducible refine Wb.Ext.trans ?_ (by assumption))))⟩
        case measure => simp [intOf]; omega
    · have HR := Lib.hid (show Wb.sumOf f t l = c by rw [HCC.out, List.take_of_length_le (by omega)])
      go_wp2
      go_ret
      exact ⟨by rw [HR.out]; rfl, by (repeat' (first | (with_reducible assumption) | (with_reducible exact Wb.Ext.refl _) | (with_reducible refine Wb.Ext.drew ?_) | (with_reducible refine Wb.Ext.drewN ?_ _) | (with_reducible refine Wb.Ext.alloc ?_ _) | (with_reducible refine Wb.Ext.trans ?_ (by assumption))))⟩

theorem rsum_any27 (y i : Int) (v : Value) (l : List Wb.Ln) (f : Int) (w : World) (hl : Lns w v l) (hf : Wb.Cfit l) (hn : l.length ≤ 448) :
    Calls Try.prog 62 #[.agg #[.int .i64 y, .int .i64 i, v], .int .i64 f] w fun e w' => e = .returned (.int .i64 (Wb.sumOf f f l)) ∧ Wb.Ext w w' := by
  obtain ⟨a, cap, rfl⟩ := hl.shape
  have HL := Lib.hid hl; clear hl
  have HF := Lib.hid hf; clear hf
  go_enter Try.func62, Try.ntmps62
  go_wp2
  go_loopw [5, 6] (fun s iv wr => ∃ (k : Nat) (c : Int), k ≤ l.length ∧ iv = .int .i64 k ∧ s = .int .i64 c ∧ c = Wb.sumOf f f (l.take k) ∧ Wb.Ext (w.alloc (.cells #[.int .i64 y, .int .i64 i, .slice a l.length cap] 24)) wr) (fun _ iv _ => l.length - (intOf iv).toNat)
  case atStart => exact ⟨0, 0, by omega, rfl, rfl, rfl, by (repeat' (first | (with_reducible assumption) | (with_reducible exact Wb.Ext.refl _) | (with_reducible refine Wb.Ext.drew ?_) | (with_reducible refine Wb.Ext.drewN ?_ _) | (with_reducible refine Wb.Ext.alloc ?_ _) | (with_reducible refine Wb.Ext.trans ?_ (by assumption))))⟩
  case round =>
    obtain ⟨k, c, hk, rfl, rfl, hc, hext⟩ := hrel
    have hcb := Wb.sumOf_take_bound (f := f) (t := f) HF.out hn k
    rw [← hc] at hcb
    have HCC := Lib.hid hc; clear hc
    have hew : Wb.Ext w wr := by (repeat' (first | (with_reducible assumption) | (with_reducible exact Wb.Ext.refl _) | (with_reducible refine Wb.Ext.drew ?_) | (with_reducible refine Wb.Ext.drewN ?_ _) | (with_reducible refine Wb.Ext.alloc ?_ _) | (with_reducible refine Wb.Ext.trans ?_ (by assumption))))
    have hsz := hext.size
    have hz1 : w.heap.size < wr.heap.size := by simp at hsz; omega
    obtain ⟨hce, hfe⟩ := hext.cells
    by_cases hlt : k < l.length
    · obtain ⟨x, hx⟩ := Wb.get_ex hlt
      obtain ⟨b, off, rfl, hcells⟩ := (HL.out.ext hew).opened (ne_of_lt hlt)
      obtain ⟨hcp, hcx, hcn⟩ := hcells k x hx
      clear hcells
      have hxb := HF.out x (List.mem_of_getElem? hx)
      have HT := Lib.hid (Wb.sumOf_snoc (f := f) (t := f) hx)
      clear hx
      cases h1 : (x.part == f)
      · have HI := Lib.hid (show ¬ (f ≤ x.part ∧ x.part ≤ f) by simp at h1; omega)
        go_wp2
        go_roundw
        case rel => exact ⟨k + 1, _, by omega, by go_num, rfl, by rw [HT.out, if_neg HI.out, Int.add_zero, HCC.out], by (repeat' (first | (with_reducible assumption) | (with_reducible exact Wb.Ext.refl _) | (with_reducible refine Wb.Ext.drew ?_) | (with_reducible refine Wb.Ext.drewN ?_ _) | (with_reducible refine Wb.Ext.alloc ?_ _) | (with_reducible refine Wb.Ext.trans ?_ (by assumption))))⟩
        case measure => simp [intOf]; omega
      · have HI := Lib.hid (show f ≤ x.part ∧ x.part ≤ f by simp at h1; omega)
        go_wp2
        go_roundw
        case rel => exact ⟨k + 1, _, by omega, by go_num, rfl, by rw [HT.out, if_pos HI.out, HCC.out], by (repeat' (first | (with_reducible assumption) | (with_reducible exact Wb.Ext.refl _) | (with_reducible refine Wb.Ext.drew ?_) | (with_reducible refine Wb.Ext.drewN ?_ _) | (with_reducible refine Wb.Ext.alloc ?_ _) | (with_reducible refine Wb.Ext.trans ?_ (by assumption))))⟩
        case measure => simp [intOf]; omega
    · have HR := Lib.hid (show Wb.sumOf f f l = c by rw [HCC.out, List.take_of_length_le (by omega)])
      go_wp2
      go_ret
      exact ⟨by rw [HR.out]; rfl, by (repeat' (first | (with_reducible assumption) | (with_reducible exact Wb.Ext.refl _) | (with_reducible refine Wb.Ext.drew ?_) | (with_reducible refine Wb.Ext.drewN ?_ _) | (with_reducible refine Wb.Ext.alloc ?_ _) | (with_reducible refine Wb.Ext.trans ?_ (by assumption))))⟩

end Go.Proofs.Ytdfmlgjemfcmlaa
