/- Set.Union, Set.Meet, Set.Minus. -/
import Derived.Test.YtheofklbmknipaaSpn9
namespace Go.Proofs.Ytheofklbmknipaa
open Go.RowKit Go.Lib
set_option maxRecDepth 8000
attribute [local go_sem ↓] Go.wp_at_zero Go.wp_at_succ

theorem union_any (va vb : Value) (a b : List Wb.Sp) (w : World) (hva : SpL w va a) (hvb : SpL w vb b) (hca : Wb.Canon a) (hcb : Wb.Canon b) (hba : BdL a) (hbb : BdL b) (hla : a.length ≤ 10000) (hlb : b.length ≤ 10000) :
    Calls Try.prog 28 #[SetV va, SetV vb] w fun e w' => ∃ v' r, e = .returned (SetV v') ∧ IsSet r (fun d => (fun p q : Bool => p || q) (Wb.hasL a d) (Wb.hasL b d) = true) ((a.length + b.length) * 2) ∧ SpL w' v' r ∧ Wb.Ext w w' := by
  obtain ⟨sa, sc, rfl⟩ := hva.1.shape
  obtain ⟨ta, tc, rfl⟩ := hvb.1.shape
  have HVA := Lib.hid hva
  have HVB := Lib.hid hvb
  clear hva hvb
  go_enter Try.func28, Try.ntmps28
  go_wp2_with fail
  go_fit (walk_uni _ _ a b _ (HVA.out.ext (by (repeat' (first | (with_reducible assumption) | (with_reducible exact Wb.Ext.refl _) | (with_reducible refine Wb.Ext.drew ?_) | (with_reducible refine Wb.Ext.drewN ?_ _) | (with_reducible refine Wb.Ext.alloc ?_ _) | (with_reducible refine Wb.Ext.trans ?_ (by assumption)))))) (HVB.out.ext (by (repeat' (first | (with_reducible assumption) | (with_reducible exact Wb.Ext.refl _) | (with_reducible refine Wb.Ext.drew ?_) | (with_reducible refine Wb.Ext.drewN ?_ _) | (with_reducible refine Wb.Ext.alloc ?_ _) | (with_reducible refine Wb.Ext.trans ?_ (by assumption)))))) hca hcb hba hbb hla hlb)
  rintro e w1 ⟨v', r, rfl, hset, ⟨base, hbase, ho⟩, hb1⟩
  have q0 : w1.cell? ⟨w.heap.size + 1 + 1, 0, none⟩ = some (.slice none 0 0) := hb1.keep (by simp [go_sem])
  have g0 : w1.frozen? ⟨w.heap.size + 1 + 1, 0, none⟩ = false := (Below.frozen hb1 (by simp)).trans (by simp [go_sem])
  have hx : Wb.Ext w w1 := by (repeat' (first | (with_reducible assumption) | (with_reducible exact Wb.Ext.refl _) | (with_reducible refine Wb.Ext.drew ?_) | (with_reducible refine Wb.Ext.drewN ?_ _) | (with_reducible refine Wb.Ext.alloc ?_ _) | (with_reducible refine Wb.Ext.trans ?_ (by assumption))))
  obtain ⟨ra, rc, rfl⟩ := row_shape ho
  have HSET := Lib.hid hset
  have HO := Lib.hid ho
  have hbase : w.heap.size + 1 + 1 < base := by simp at hbase; omega
  clear hb1 hset ho
  go_wp2
  refine bodyPost_ret (v := SetV (.slice ra r.length rc)) (by simp [results, Try.results28, go_sem, q0]) rfl ⟨_, _, rfl, HSET.out, ?_, Wb.ext_set hx (show w.heap.size ≤ w.heap.size + 1 + 1 by omega) _⟩
  exact spl_row (Wb.row_set HO.out (fun j hj => by have := (HO.out.lt j hj).1; simp only; omega) _)

theorem meet_any (va vb : Value) (a b : List Wb.Sp) (w : World) (hva : SpL w va a) (hvb : SpL w vb b) (hca : Wb.Canon a) (hcb : Wb.Canon b) (hba : BdL a) (hbb : BdL b) (hla : a.length ≤ 10000) (hlb : b.length ≤ 10000) :
    Calls Try.prog 24 #[SetV va, SetV vb] w fun e w' => ∃ v' r, e = .returned (SetV v') ∧ IsSet r (fun d => (fun p q : Bool => p && q) (Wb.hasL a d) (Wb.hasL b d) = true) ((a.length + b.length) * 2) ∧ SpL w' v' r ∧ Wb.Ext w w' := by
  obtain ⟨sa, sc, rfl⟩ := hva.1.shape
  obtain ⟨ta, tc, rfl⟩ := hvb.1.shape
  have HVA := Lib.hid hva
  have HVB := Lib.hid hvb
  clear hva hvb
  go_enter Try.func24, Try.ntmps24
  go_wp2_with fail
  go_fit (walk_met _ _ a b _ (HVA.out.ext (by (repeat' (first | (with_reducible assumption) | (with_reducible exact Wb.Ext.refl _) | (with_reducible refine Wb.Ext.drew ?_) | (with_reducible refine Wb.Ext.drewN ?_ _) | (with_reducible refine Wb.Ext.alloc ?_ _) | (with_reducible refine Wb.Ext.trans ?_ (by assumption)))))) (HVB.out.ext (by (repeat' (first | (with_reducible assumption) | (with_reducible exact Wb.Ext.refl _) | (with_reducible refine Wb.Ext.drew ?_) | (with_reducible refine Wb.Ext.drewN ?_ _) | (with_reducible refine Wb.Ext.alloc ?_ _) | (with_reducible refine Wb.Ext.trans ?_ (by assumption)))))) hca hcb hba hbb hla hlb)
  rintro e w1 ⟨v', r, rfl, hset, ⟨base, hbase, ho⟩, hb1⟩
  have q0 : w1.cell? ⟨w.heap.size + 1 + 1, 0, none⟩ = some (.slice none 0 0) := hb1.keep (by simp [go_sem])
  have g0 : w1.frozen? ⟨w.heap.size + 1 + 1, 0, none⟩ = false := (Below.frozen hb1 (by simp)).trans (by simp [go_sem])
  have hx : Wb.Ext w w1 := by (repeat' (first | (with_reducible assumption) | (with_reducible exact Wb.Ext.refl _) | (with_reducible refine Wb.Ext.drew ?_) | (with_reducible refine Wb.Ext.drewN ?_ _) | (with_reducible refine Wb.Ext.alloc ?_ _) | (with_reducible refine Wb.Ext.trans ?_ (by assumption))))
  obtain ⟨ra, rc, rfl⟩ := row_shape ho
  have HSET := Lib.hid hset
  have HO := Lib.hid ho
  have hbase : w.heap.size + 1 + 1 < base := by simp at hbase; omega
  clear hb1 hset ho
  go_wp2
  refine bodyPost_ret (v := SetV (.slice ra r.length rc)) (by simp [results, Try.results24, go_sem, q0]) rfl ⟨_, _, rfl, HSET.out, ?_, Wb.ext_set hx (show w.heap.size ≤ w.heap.size + 1 + 1 by omega) _⟩
  exact spl_row (Wb.row_set HO.out (fun j hj => by have := (HO.out.lt j hj).1; simp only; omega) _)

end Go.Proofs.Ytheofklbmknipaa
