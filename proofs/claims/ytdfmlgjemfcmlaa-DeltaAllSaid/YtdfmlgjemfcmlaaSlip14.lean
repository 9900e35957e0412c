/- Chapter 27: two lines as one; two slips, the same. -/
import Derived.Test.YtdfmlgjemfcmlaaSlip6
namespace Go.Proofs.Ytdfmlgjemfcmlaa
open Go.RowKit
set_option maxRecDepth 4000

theorem add27_any (a b : Wb.Ln) (w : World) :
    Calls Try.prog 45 #[LnV a, LnV b] w fun e w' => e = .returned (.tuple #[.agg #[.int .i64 a.part, .string (Wb.S a.code), .int .i64 (Wb.told a.cents b.cents (a.cents + b.cents)).1], .bool ((Wb.told a.cents b.cents (a.cents + b.cents)).2 == 0)]) ∧ Wb.Ext w w' := by
  obtain ⟨p, c, n⟩ := a
  obtain ⟨q, d, m⟩ := b
  go_enter Try.func45, Try.ntmps45
  obtain ⟨t, ht⟩ : ∃ t, Wb.told n m (n + m) = t := ⟨_, rfl⟩
  have HT := Lib.hid ht; clear ht
  obtain ⟨t1, t2⟩ := t
  go_wp2_with (go_at_call 40; refine (add_any n m _).mono ?_; rintro e w' ⟨rfl, rfl⟩; rw [HT.out])
  refine bodyPost_ret (v := .tuple #[.agg #[.int .i64 p, .string (Wb.S c), .int .i64 t1], .bool (t2 == 0)]) (by simp [results, Try.results45, go_sem]) rfl ⟨by rw [HT.out] <;> rfl, by (repeat' (first | (with_reducible assumption) | (with_reducible exact Wb.Ext.refl _) | (with_reducible refine Wb.Ext.drew ?_) | (with_reducible refine Wb.Ext.drewN ?_ _) | (with_reducible refine Wb.Ext.alloc ?_ _) | (with_reducible refine Wb.Ext.trans ?_ (by assumption))))⟩

set_option maxHeartbeats 1000000 in
/-- slips of the same lines are the same -/
theorem same_eq (y i : Int) (u v : Value) (l : List Wb.Ln) (w : World) (hu : Lns w u l) (hv : Lns w v l) (hs : Sized l) :
    Calls Try.prog 17 #[.agg #[.int .i64 y, .int .i64 i, u], .agg #[.int .i64 y, .int .i64 i, v]] w fun e w' => e = .returned (.bool true) ∧ Wb.Ext w w' := by
  obtain ⟨a, cap, rfl⟩ := hu.shape
  obtain ⟨b, cap2, rfl⟩ := hv.shape
  have HU := Lib.hid hu; clear hu
  have HV := Lib.hid hv; clear hv
  have hlen := hs.1
  clear hs
  go_enter Try.func17, Try.ntmps17
  go_wp2
  have hb0 : ((w.alloc (.cells #[.int .i64 y, .int .i64 i, .slice a l.length cap] 24)).alloc (.cells #[.int .i64 y, .int .i64 i, .slice b l.length cap2] 24)).cell? ⟨w.heap.size, 2, none⟩ = some (.slice a l.length cap) := by simp [go_sem]
  have hb1 : ((w.alloc (.cells #[.int .i64 y, .int .i64 i, .slice a l.length cap] 24)).alloc (.cells #[.int .i64 y, .int .i64 i, .slice b l.length cap2] 24)).cell? ⟨w.heap.size + 1, 2, none⟩ = some (.slice b l.length cap2) := by simp [go_sem]
  go_loopw [5] (fun iv wr => ∃ k : Nat, k ≤ l.length ∧ iv = .int .i64 k ∧ Wb.Ext ((w.alloc (.cells #[.int .i64 y, .int .i64 i, .slice a l.length cap] 24)).alloc (.cells #[.int .i64 y, .int .i64 i, .slice b l.length cap2] 24)) wr) (fun iv _ => l.length - (intOf iv).toNat)
  case atStart => exact ⟨0, by omega, rfl, by (repeat' (first | (with_reducible assumption) | (with_reducible exact Wb.Ext.refl _) | (with_reducible refine Wb.Ext.drew ?_) | (with_reducible refine Wb.Ext.drewN ?_ _) | (with_reducible refine Wb.Ext.alloc ?_ _) | (with_reducible refine Wb.Ext.trans ?_ (by assumption))))⟩
  case round =>
    obtain ⟨k, hk, rfl, hext⟩ := hrel
    have hc0 := hext.keep hb0
    have hc1 := hext.keep hb1
    have hz1 := Wb.cell_size hc1
    have hz0 : w.heap.size < wr.heap.size := by omega
    have hew : Wb.Ext w wr := by (repeat' (first | (with_reducible assumption) | (with_reducible exact Wb.Ext.refl _) | (with_reducible refine Wb.Ext.drew ?_) | (with_reducible refine Wb.Ext.drewN ?_ _) | (with_reducible refine Wb.Ext.alloc ?_ _) | (with_reducible refine Wb.Ext.trans ?_ (by assumption))))
    by_cases hlt : k < l.length
    · obtain ⟨x, hx⟩ := Wb.get_ex hlt
      have hlti : (k : Int) < l.length := by omega
      obtain ⟨ba, oa, rfl, hca⟩ := (HU.out.ext hew).opened (ne_of_lt hlt)
      obtain ⟨bb, ob, rfl, hcb⟩ := (HV.out.ext hew).opened (ne_of_lt hlt)
      obtain ⟨hp1, hp2, hp3⟩ := hca k x hx
      obtain ⟨hq1, hq2, hq3⟩ := hcb k x hx
      clear hca hcb hx
      obtain ⟨xp, xc, xn⟩ := x
      simp only at hp1 hp2 hp3 hq1 hq2 hq3
      go_wp2_with fail
      go_region_held3 (fun w' => w'.cell? ⟨w.heap.size, 2, none⟩ = some (.slice (some ⟨ba, oa, none⟩) l.length cap) ∧ w'.cell? ⟨w.heap.size + 1, 2, none⟩ = some (.slice (some ⟨bb, ob, none⟩) l.length cap2) ∧ w'.cell? ⟨ba, oa + k * 3, none⟩ = some (.int .i64 xp) ∧ w'.cell? ⟨ba, oa + k * 3 + 1, none⟩ = some (.string (Wb.S xc)) ∧ w'.cell? ⟨ba, oa + k * 3 + 2, none⟩ = some (.int .i64 xn) ∧ w'.cell? ⟨bb, ob + k * 3, none⟩ = some (.int .i64 xp) ∧ w'.cell? ⟨bb, ob + k * 3 + 1, none⟩ = some (.string (Wb.S xc)) ∧ w'.cell? ⟨bb, ob + k * 3 + 2, none⟩ = some (.int .i64 xn)) (first | exact ⟨hc0, hc1, hp1, hp2, hp3, hq1, hq2, hq3⟩ | assumption | go_keep) (fail)
      go_wp2
      go_roundw
      case rel => exact ⟨k + 1, by omega, by go_num, by (repeat' (first | (with_reducible assumption) | (with_reducible exact Wb.Ext.refl _) | (with_reducible refine Wb.Ext.drew ?_) | (with_reducible refine Wb.Ext.drewN ?_ _) | (with_reducible refine Wb.Ext.alloc ?_ _) | (with_reducible refine Wb.Ext.trans ?_ (by assumption))))⟩
      case measure => simp [intOf]; omega
    · go_wp2
      go_ret
      exact ⟨rfl, by (repeat' (first | (with_reducible assumption) | (with_reducible exact Wb.Ext.refl _) | (with_reducible refine Wb.Ext.drew ?_) | (with_reducible refine Wb.Ext.drewN ?_ _) | (with_reducible refine Wb.Ext.alloc ?_ _) | (with_reducible refine Wb.Ext.trans ?_ (by assumption))))⟩

end Go.Proofs.Ytdfmlgjemfcmlaa
