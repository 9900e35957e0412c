/- The reference of package span: Cross, Pieces. -/
import Derived.Test.YtdckghdmopafpaaRSpn5
namespace Go.Proofs.Ytdckghdmopafpaa
open Go.RowKit Go.Lib
set_option maxRecDepth 8000
attribute [local go_sem ↓] Go.wp_at_zero Go.wp_at_succ

/-- one span, as a literal's slice -/
theorem spl_cells {w : World} {g c : Nat} (s : Wb.Sp) (c0 : w.cell? ⟨g, 0, none⟩ = some (.int .i64 s.1)) (c1 : w.cell? ⟨g, 1, none⟩ = some (.int .i64 s.2)) : SpL w (.slice (some ⟨g, 0, none⟩) 1 c) [s] := by
  refine ⟨.inr ⟨g, 0, c, rfl, fun j x hj i u hu => ?_⟩, rfl, .inr ⟨_, _, rfl, fun j u hj => ?_⟩⟩
  · have hj0 : j = 0 := by
      rcases Nat.eq_zero_or_pos j with h | h
      · exact h
      · have := (List.getElem?_eq_some_iff.1 hj).1; simp at this; omega
    subst hj0
    simp at hj
    subst hj
    match i, hu with
    | 0, hu => simp [spc] at hu; subst hu; exact c0
    | 1, hu => simp [spc] at hu; subst hu; exact c1
    | i + 2, hu => simp [spc] at hu
  · match j, hj with
    | 0, hj => simp [rowsOf, spc] at hj; subst hj; exact c0
    | 1, hj => simp [rowsOf, spc] at hj; subst hj; simpa [Addr.add] using c1
    | j + 2, hj => simp [rowsOf, spc] at hj
theorem cross_nil {a b : Wb.Sp} {r : List Wb.Sp} {w w' : World} {n : Nat} {v : Value} (h : IsTog w w' (fun d => isB 2 (Wb.hasL [a] d) (Wb.hasL [b] d) = true) n v r) : r = if min a.2 b.2 ≤ max a.1 b.1 then [] else [(max a.1 b.1, min a.2 b.2)] := by
  have hm : ∀ d, Wb.memL r d ↔ Wb.inS a d ∧ Wb.inS b d := fun d => by
    rw [h.mem, ← Wb.memL_one (s := a), ← Wb.memL_one (s := b), ← Wb.hasL_iff, ← Wb.hasL_iff]
    simp [isB]
  split
  · refine Wb.canon_uniq h.canon Wb.Canon.nil fun d => ⟨fun k => ?_, fun k => absurd k (Wb.memL_nil d)⟩
    have := (hm d).1 k
    simp only [Wb.inS] at this; omega
  · refine Wb.canon_uniq h.canon ⟨fun s hs => by simp at hs; subst hs; simp only; omega, List.pairwise_singleton _ _⟩ fun d => ?_
    rw [hm, Wb.memL_one]
    simp only [Wb.inS]; omega

set_option maxHeartbeats 1000000 in
theorem rcross_any (a b : Wb.Sp) (w : World) :
    Calls Try.prog 28 #[SpV a, SpV b] w fun e w' => e = .returned (SpV (crossS a b)) ∧ Wb.Ext w w' := by
  obtain ⟨f, t⟩ := a
  obtain ⟨g, u⟩ := b
  go_enter Try.func28, Try.ntmps28
  go_wp2_with fail
  go_fit (together_any 2 (.inr (.inl rfl)) _ _ [(f, t)] [(g, u)] _ (spl_cells (f, t) (by simp [go_sem]) (by simp [go_sem])) (spl_cells (g, u) (by simp [go_sem]) (by simp [go_sem])) (by simp) (by simp)); rintro e w1 ⟨v1, rfl, r, hr⟩
  obtain ⟨ra, rc, rfl⟩ := hr.row.1.shape
  have hx := hr.ext
  have q0 : w1.cell? ⟨w.heap.size + 1 + 1, 0, none⟩ = some (.int .i64 0) := hx.keep (by simp [go_sem])
  have q1 : w1.cell? ⟨w.heap.size + 1 + 1, 1, none⟩ = some (.int .i64 0) := hx.keep (by simp [go_sem])
  have qf : ∀ j, w1.frozen? ⟨w.heap.size + 1 + 1, j, none⟩ = false := fun j => (Below.frozen hx (by simp)).trans (by simp [go_sem])
  have he1 : Wb.Ext w w1 := Wb.Ext.trans (by (repeat' (first | (with_reducible assumption) | (with_reducible exact Wb.Ext.refl _) | (with_reducible refine Wb.Ext.drew ?_) | (with_reducible refine Wb.Ext.drewN ?_ _) | (with_reducible refine Wb.Ext.alloc ?_ _) | (with_reducible refine Wb.Ext.trans ?_ (by assumption))))) hx
  have hrr := cross_nil hr
  have HR := Lib.hid hr
  clear hr hx
  by_cases h : min t u ≤ max f g
  · have HC := Lib.hid (show crossS (f, t) (g, u) = (0, 0) from if_pos h)
    rw [if_pos h] at hrr
    subst hrr
    clear h
    go_wp2
    refine bodyPost_ret (v := SpV (0, 0)) (by simp [results, Try.results28, go_sem, q0, q1, qf]) rfl ⟨by rw [HC.out], by (repeat' (first | (with_reducible assumption) | (with_reducible exact Wb.Ext.refl _) | (with_reducible refine Wb.Ext.drew ?_) | (with_reducible refine Wb.Ext.drewN ?_ _) | (with_reducible refine Wb.Ext.alloc ?_ _) | (with_reducible refine Wb.ext_set ?_ (by first | assumption | (simp; done) | (simp; omega) | omega) _) | (with_reducible refine Wb.Ext.trans ?_ (by assumption))))⟩
  · obtain ⟨m, hm⟩ : ∃ m, max f g = m := ⟨_, rfl⟩
    obtain ⟨n, hn⟩ : ∃ n, min t u = n := ⟨_, rfl⟩
    have HC := Lib.hid (show crossS (f, t) (g, u) = (m, n) by rw [← hm, ← hn]; exact if_neg h)
    rw [if_neg h] at hrr
    simp only [hm, hn] at hrr
    subst hrr
    obtain ⟨gb, off, rfl, hcells⟩ := HR.out.row.1.opened (by simp)
    have c0 := hcells 0 (m, n) rfl 0 _ rfl
    have c1 := hcells 0 (m, n) rfl 1 _ rfl
    simp only [Nat.zero_mul, Nat.add_zero] at c0 c1
    clear h hm hn hcells
    go_wp2
    refine bodyPost_ret (v := SpV (m, n)) (by simp [results, Try.results28, go_sem, q0, q1, qf]) rfl ⟨by rw [HC.out], by (repeat' (first | (with_reducible assumption) | (with_reducible exact Wb.Ext.refl _) | (with_reducible refine Wb.Ext.drew ?_) | (with_reducible refine Wb.Ext.drewN ?_ _) | (with_reducible refine Wb.Ext.alloc ?_ _) | (with_reducible refine Wb.ext_set ?_ (by first | assumption | (simp; done) | (simp; omega) | omega) _) | (with_reducible refine Wb.Ext.trans ?_ (by assumption))))⟩

end Go.Proofs.Ytdckghdmopafpaa
