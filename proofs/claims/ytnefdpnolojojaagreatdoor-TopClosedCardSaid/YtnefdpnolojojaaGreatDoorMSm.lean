/- MSm -/
import Derived.Test.YtnefdpnolojojaaGreatDoorMSl
import Derived.Test.YtnefdpnolojojaaGreatDoorSlip
import Derived.Test.YtnefdpnolojojaaGreatDoorMTb
import Derived.Test.YtnefdpnolojojaaGreatDoorMPl
import Derived.Deep.RegionHeldLaw
import Derived.Deep.AppendLies
import Derived.Deep.DrawnRows
namespace Go.Proofs.YtnefdpnolojojaaGreatDoor
open Go.RowKit
set_option maxRecDepth 4000
end Go.Proofs.YtnefdpnolojojaaGreatDoor
namespace Go.Proofs.YtnefdpnolojojaaGreatDoor
open Go.RowKit
set_option maxRecDepth 4000
def Its (w : World) (v : Value) (l : List Wb.Ln) : Prop :=
 (l = [] ∧ ∃ a cap, v = .slice a 0 cap) ∨ ∃ b off cap, v = .slice (some ⟨b, off, none⟩) l.length cap ∧ ∀ j x, l[j]? = some x →
  w.cell? ⟨b, off + j * 2, none⟩ = some (.string (Wb.S x.code)) ∧ w.cell? ⟨b, off + j * 2 + 1, none⟩ = some (.int .i64 x.cents)
theorem Its.ext {w w' : World} {v : Value} {l : List Wb.Ln} (h : Its w v l) (k : Wb.Ext w w') : Its w' v l := by
 rcases h with h | ⟨b, off, cap, h1, h2⟩
 ·exact .inl h
 ·exact .inr ⟨b, off, cap, h1, fun j x hj => ⟨k.keep (h2 j x hj).1, k.keep (h2 j x hj).2⟩⟩
theorem Its.shape {w : World} {v : Value} {l : List Wb.Ln} (h : Its w v l) : ∃ a cap, v = .slice a l.length cap := by
 rcases h with ⟨rfl, a, cap, rfl⟩ | ⟨b, off, cap, rfl, _⟩
 ·exact ⟨_, _, rfl⟩
 ·exact ⟨_, _, rfl⟩
theorem Its.opened {w : World} {a : Option Addr} {n cap : Nat} {l : List Wb.Ln} (h : Its w (.slice a n cap) l) (hne : l ≠ []) : ∃ b off, a = some ⟨b, off, none⟩ ∧ ∀ j x, l[j]? = some x →
  w.cell? ⟨b, off + j * 2, none⟩ = some (.string (Wb.S x.code)) ∧ w.cell? ⟨b, off + j * 2 + 1, none⟩ = some (.int .i64 x.cents) := by
 rcases h with ⟨h, _⟩ | ⟨b, off, cap, hv, hc⟩
 ·exact absurd h hne
 ·cases hv; exact ⟨b, off, rfl, hc⟩
end Go.Proofs.YtnefdpnolojojaaGreatDoor
namespace Go.Proofs.YtnefdpnolojojaaGreatDoor
open Go.RowKit
set_option maxRecDepth 4000
end Go.Proofs.YtnefdpnolojojaaGreatDoor
namespace Go.Proofs.YtnefdpnolojojaaGreatDoor
open Go.RowKit
set_option maxRecDepth 4000
attribute [local go_sem ↓] Go.wp_at_zero Go.wp_at_succ
def lnv (x : Wb.Ln) : List Value := [.int .i64 x.part, .string (Wb.S x.code), .int .i64 x.cents]
def lnvs (l : List Wb.Ln) : List Value := l.flatMap lnv
theorem lnvs_app (a b : List Wb.Ln) : lnvs (a ++ b) = lnvs a ++ lnvs b := by simp [lnvs]
theorem lnvs_length (l : List Wb.Ln) : (lnvs l).length = l.length * 3 := by
 induction l with
 | nil => rfl
 | cons x r ih => simp only [lnvs, List.flatMap_cons, List.length_append] at ih ⊢; rw [ih]; simp [lnv]; omega
theorem lnvs_get {l : List Wb.Ln} : ∀ {j : Nat} {x : Wb.Ln}, l[j]? = some x → (lnvs l)[j * 3]? = some (.int .i64 x.part) ∧ (lnvs l)[j * 3 + 1]? = some (.string (Wb.S x.code)) ∧ (lnvs l)[j * 3 + 2]? = some (.int .i64 x.cents) := by
 induction l with
 | nil => intro j x h; simp at h
 | cons y r ih =>
  intro j x h
  cases j with
  | zero => simp at h; subst h; simp [lnvs, lnv]
  | succ j =>
   have := ih (j := j) (x := x) (by simpa using h)
   have e1 : (j + 1) * 3 = j * 3 + 1 + 1 + 1 := by omega
   rw [e1]
   simpa [lnvs, lnv] using this
theorem infoLine : (Tryz.prog.info? 89).map (fun i => (i.zero, i.size, i.bytes)) = some (some (.agg #[.int .i64 0, .string "".toUTF8, .int .i64 0]), 3, 32) := by kernel_rfl
theorem lns_of_row {w : World} {base n : Nat} {v : Value} {l : List Wb.Ln} (h : w.ownsRow base 89 3 v n (lnvs l)) : Lns w v l := by
 have hn : n = l.length := by have := h.1; rw [lnvs_length] at this; omega
 subst hn
 by_cases hv : v = .slice none 0 0
 ·obtain ⟨_, h | ⟨g, cap, cur, hv', _⟩⟩ := h
  ·have : l = [] := List.length_eq_zero_iff.1 h.2
   exact .inl ⟨this, _, _, hv⟩
  ·rw [hv] at hv'; cases hv'
 ·obtain ⟨g, cap, rfl, _, _, _, hc⟩ := Wb.ownsRow_at h hv
  refine .inr ⟨g, 0, cap, rfl, fun j x hj => ?_⟩
  obtain ⟨h1, h2, h3⟩ := lnvs_get hj
  simp only [Nat.zero_add]
  exact ⟨hc _ _ h1, hc _ _ h2, hc _ _ h3⟩
theorem Lns.head {w : World} {a : Option Addr} {n cap : Nat} {x : Wb.Ln} {r : List Wb.Ln} (h : Lns w (.slice a n cap) (x :: r)) : ∃ b off, a = some ⟨b, off, none⟩ ∧ n = r.length + 1 ∧ w.cell? ⟨b, off, none⟩ = some (.int .i64 x.part) ∧ w.cell? ⟨b, off + 1, none⟩ = some (.string (Wb.S x.code)) ∧ w.cell? ⟨b, off + 2, none⟩ = some (.int .i64 x.cents) := by
 rcases h with ⟨h, _⟩ | ⟨b', off', c, hv, hc⟩
 ·cases h
 ·cases hv
  have := hc 0 x rfl
  simp only [Nat.zero_mul, Nat.add_zero] at this
  exact ⟨b', off', rfl, rfl, this⟩
theorem row_set {w : World} {base e s n : Nat} {v : Value} {xs : List Value} (h : w.ownsRow base e s v n xs) {p : Addr} (hp : p.block < base) (u : Value) : (w.setCell p u).ownsRow base e s v n xs := by
 obtain ⟨h1, h2 | ⟨g, cap, cur, hv, hb, hg, rest⟩⟩ := h
 ·exact ⟨h1, .inl h2⟩
 ·exact ⟨h1, .inr ⟨g, cap, cur, hv, hb, by rw [Below.heap_setCell _ _ _ _ (by omega)]; exact hg, rest⟩⟩
def lenOf : Value → Nat
 | .slice _ n _ => n
 | _ => 0
theorem ext_set {w w' : World} (h : Wb.Ext w w') {p : Addr} (hp : w.heap.size ≤ p.block) (u : Value) : Wb.Ext w (w'.setCell p u) := Below.setCell h hp u
theorem row_set2 {w : World} {base e s n : Nat} {v : Value} {xs : List Value} (h : w.ownsRow base e s v n xs) {p : Addr} (hp : ∀ k, v.ownBlock = some k → k ≠ p.block) (u : Value) : (w.setCell p u).ownsRow base e s v n xs := by
 obtain ⟨h1, h2 | ⟨g, cap, cur, hv, hb, hg, rest⟩⟩ := h
 ·exact ⟨h1, .inl h2⟩
 ·refine ⟨h1, .inr ⟨g, cap, cur, hv, hb, ?_, rest⟩⟩
  rw [Below.heap_setCell _ _ _ _ (by subst hv; exact hp g rfl)]; exact hg
theorem row_ext {w w' : World} {base e s n : Nat} {v : Value} {xs : List Value} (h : w.ownsRow base e s v n xs) (hw : Wb.Ext w w') : w'.ownsRow base e s v n xs := by
 have hl := h.lt
 obtain ⟨h1, h2 | ⟨g, cap, cur, hv, hb, hg, rest⟩⟩ := h
 ·exact ⟨h1, .inl h2⟩
 ·refine ⟨h1, .inr ⟨g, cap, cur, hv, hb, ?_, rest⟩⟩
  subst hv
  rw [hw.block g (hl g rfl).2]; exact hg
theorem row_drew {w : World} {base e s n : Nat} {v : Value} {xs : List Value} (h : w.ownsRow base e s v n xs) : w.drew.ownsRow base e s v n xs := h
theorem wp_at {P : Program} {c : Code} {Q : Exit → Act → World → Prop} {a : Act} {w : World} (K : ∀ w', w' = w → Code.wp P c Q a w') : Code.wp P c Q a w := K w rfl
def capOf : Value → Nat
 | .slice _ _ c => c
 | _ => 0
def LnsC (w : World) (v : Value) (l : List Wb.Ln) : Prop := Lns w v l ∧ lenOf v ≤ capOf v
theorem LnsC.ext {w w' : World} {v : Value} {l : List Wb.Ln} (h : LnsC w v l) (k : Wb.Ext w w') : LnsC w' v l := ⟨h.1.ext k, h.2⟩
theorem lnsC_of_row {w : World} {base n : Nat} {v : Value} {l : List Wb.Ln} (h : w.ownsRow base 89 3 v n (lnvs l)) : LnsC w v l := by
 refine ⟨lns_of_row h, ?_⟩
 obtain ⟨_, h2 | ⟨g, cap, cur, hv, hb, hg, hc, rest⟩⟩ := h
 ·rw [h2.1]; exact Nat.le_refl _
 ·rw [hv]; exact hc
theorem store3 {w w' : World} {b : Nat} {x y z x' y' z' : Value} (hw : w' = (((w.setCell ⟨b, 0, none⟩ x).setCell ⟨b, 1, none⟩ y).setCell ⟨b, 2, none⟩ z).drew) (h0 : w.cell? ⟨b, 0, none⟩ = some x') (h1 : w.cell? ⟨b, 1, none⟩ = some y') (h2 : w.cell? ⟨b, 2, none⟩ = some z') :
  w'.cell? ⟨b, 0, none⟩ = some x ∧ w'.cell? ⟨b, 1, none⟩ = some y ∧ w'.cell? ⟨b, 2, none⟩ = some z ∧ (∀ c o, c ≠ b → w'.cell? ⟨c, o, none⟩ = w.cell? ⟨c, o, none⟩) ∧ (∀ p, w'.frozen? p = w.frozen? p) ∧ w'.heap.size = w.heap.size ∧
  (∀ W : World, W.heap.size ≤ b → Wb.Ext W w → Wb.Ext W w') ∧ (∀ base e s n v xs, (∀ k, v.ownBlock = some k → k ≠ b) → w.ownsRow base e s v n xs → w'.ownsRow base e s v n xs) := by
 subst hw
 refine ⟨by simp [go_sem, h0], by simp [go_sem, h1], by simp [go_sem, h2], fun c o hc => ?_, fun p => by simp [go_sem], by simp [go_sem], fun W hW hE => Wb.Ext.drew (ext_set (ext_set (ext_set hE hW _) hW _) hW _), fun base e s n v xs hk h => row_drew (row_set2 (row_set2 (row_set2 h hk _) hk _) hk _)⟩
 have hc' : ¬ b = c := fun h => hc h.symm
 first
  | (simp [go_sem]; done)
  | simp [go_sem, hc']
  | simp [go_sem, hc]
end Go.Proofs.YtnefdpnolojojaaGreatDoor
