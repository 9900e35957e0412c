/- Rows of days: sorted, made compact, copied. -/
import Derived.Test.YtheofklbmknipaaSpn6
import Derived.Lib.SlicesCompact
import Derived.Lib.RowBridge
namespace Go.Proofs.Ytheofklbmknipaa
open Go.RowKit Go.Sort Go.Lib
set_option maxRecDepth 8000
attribute [local go_sem ↓] Go.wp_at_zero Go.wp_at_succ

abbrev days (l : List Int) : List Value := l.map (Value.int .i64)
theorem compactUpTo_up {d : Array Int} (h : ∀ i j, i < j → j < d.size → d[i]! ≤ d[j]!) : ∀ m, m ≤ d.size → Wb.Up (compactUpTo d m) ∧ ∀ x, x ∈ compactUpTo d m ↔ ∃ j, j < m ∧ d[j]! = x
  | 0, _ => ⟨List.Pairwise.nil, fun x => by simp [compactUpTo]⟩
  | m + 1, hm => by
    obtain ⟨h1, h2⟩ := compactUpTo_up h m (by omega)
    rw [compactUpTo_succ]
    by_cases hk : keeps d m = true
    · rw [if_pos hk]
      refine ⟨List.pairwise_append.2 ⟨h1, List.pairwise_singleton _ _, fun x hx y hy => ?_⟩, fun x => ?_⟩
      · obtain ⟨j, hj, rfl⟩ := (h2 x).1 hx
        simp at hy; subst hy
        have hk' : m = 0 ∨ d[m]! ≠ d[m - 1]! := by simpa [keeps] using hk
        have h3 := h (m - 1) m (by omega) (by omega)
        have h4 : d[j]! ≤ d[m - 1]! := by
          rcases Nat.lt_or_ge j (m - 1) with q | q
          · exact h _ _ q (by omega)
          · rw [show j = m - 1 by omega]; exact Int.le_refl _
        omega
      · rw [List.mem_append, h2, List.mem_singleton]
        constructor
        · rintro (⟨j, hj, e⟩ | e)
          · exact ⟨j, by omega, e⟩
          · exact ⟨m, by omega, e.symm⟩
        · rintro ⟨j, hj, e⟩
          by_cases hjm : j = m
          · subst hjm; exact .inr e.symm
          · exact .inl ⟨j, by omega, e⟩
    · rw [if_neg hk, List.append_nil]
      refine ⟨h1, fun x => ?_⟩
      rw [h2]
      have hk' : ¬ (m = 0 ∨ d[m]! ≠ d[m - 1]!) := by simpa [keeps] using hk
      have h5 : d[m]! = d[m - 1]! := by
        by_cases e : d[m]! = d[m - 1]!
        · exact e
        · exact absurd (.inr e) hk'
      have h6 : m ≠ 0 := fun e => hk' (.inl e)
      constructor
      · rintro ⟨j, hj, e⟩; exact ⟨j, by omega, e⟩
      · rintro ⟨j, hj, e⟩
        by_cases hjm : j = m
        · subst hjm; exact ⟨j - 1, by omega, h5 ▸ e⟩
        · exact ⟨j, by omega, e⟩
theorem compact_up {zs : List Int} (h : zs.Pairwise (· ≤ ·)) : Wb.Up (compact zs) ∧ ∀ x, x ∈ compact zs ↔ x ∈ zs := by
  have hz : ∀ i j, i < j → j < zs.toArray.size → zs.toArray[i]! ≤ zs.toArray[j]! := by
    intro i j hij hj
    have hj' : j < zs.length := by simpa using hj
    rw [getElem!_pos zs.toArray i (by simp; omega), getElem!_pos zs.toArray j hj]
    simpa using List.pairwise_iff_getElem.1 h i j (by omega) hj' hij
  obtain ⟨h1, h2⟩ := compactUpTo_up hz zs.length (by simp)
  refine ⟨h1, fun x => ?_⟩
  show x ∈ compactUpTo zs.toArray zs.length ↔ _
  rw [h2, List.mem_iff_getElem]
  constructor
  · rintro ⟨j, hj, e⟩
    exact ⟨j, hj, by rw [← e, getElem!_pos zs.toArray j (by simpa using hj)]; simp⟩
  · rintro ⟨j, hj, e⟩
    exact ⟨j, hj, by rw [getElem!_pos zs.toArray j (by simpa using hj)]; simpa using e⟩

theorem sortd_any (base : Nat) (v : Value) (l : List Int) (w : World) (h : w.ownsRow base 22 1 v l.length (days l)) (hl : l.length ≤ 1000000) :
    Calls Try.prog 67 #[v] w fun e w' => e = .returned (.tuple #[]) ∧ ∃ l' : List Int, l'.Perm l ∧ l'.Pairwise (· ≤ ·) ∧ w'.ownsRow base 22 1 v l.length (days l') ∧ w.grownBy w' v.ownBlock := by
  by_cases hv : v = .slice none 0 0
  · subst hv
    obtain ⟨_, ⟨_, h0⟩ | ⟨g, cap, cur, hv', _⟩⟩ := id h
    · obtain rfl : l = [] := List.length_eq_zero_iff.1 h0
      refine (AnyM.slices_Sort_int_none Try.sortDay none 0 w).mono fun e w' hh => ?_
      obtain ⟨rfl, rfl⟩ := hh
      exact ⟨rfl, [], .refl _, .nil, own_none, Wb.grownBy_refl _ _⟩
    · cases hv'
  · have hlt := h.lt
    obtain ⟨hn, h2 | ⟨g, cap, cur, rfl, hb, hg, hc, hm, hs, hx⟩⟩ := id h
    · exact absurd h2.1 hv
    refine (AnyM.slices_Sort_int Try.sortDay g 0 cap l w (holds_of_blockI hg (by rw [Nat.mul_one] at hx; exact hx)) (hlt g rfl).2 (by omega)).mono fun e w' hh => ?_
    obtain ⟨rfl, n, os, rfl⟩ := hh
    refine ⟨rfl, _, List.mergeSort_perm l _, ?_, ownsRow_sortedI (List.length_mergeSort _) hb hg hc hm hs, grownBy_sortedI _⟩
    have := List.pairwise_mergeSort (le := fun x y : Int => decide (x ≤ y)) (fun a b c h1 h2 => by simp at h1 h2 ⊢; omega) (fun a b => by simp; omega) l
    exact this.imp fun h => by simpa using h

theorem compactd_any (base : Nat) (a : Option Addr) (cap : Nat) (l : List Int) (w : World) (h : w.ownsRow base 22 1 (.slice a l.length cap) l.length (days l)) (hl : l.length ≤ 1000000) :
    Calls Try.prog 68 #[.slice a l.length cap] w fun e w' => e = .returned (.slice a (compact l).length cap) ∧ w'.ownsRow base 22 1 (.slice a (compact l).length cap) (compact l).length (days (compact l)) ∧ w.grownBy w' (Value.slice a l.length cap).ownBlock := by
  obtain ⟨hn, h2 | ⟨g, cap', cur, hv, hb, hg, hc, hm, hs, hx⟩⟩ := id h
  · obtain ⟨h3, h4⟩ := h2
    obtain rfl : l = [] := List.length_eq_zero_iff.1 h4
    cases h3
    refine (AnyG.slices_Compact_int_empty Try.compactDay none 0 w).mono fun e w' hh => ?_
    obtain ⟨rfl, rfl⟩ := hh
    exact ⟨rfl, own_none, Wb.grownBy_refl _ _⟩
  · cases hv
    refine (AnyG.slices_Compact_int Try.compactDay g 0 cap l w (holds_of_blockI hg (by rw [Nat.mul_one] at hx; exact hx)) (by omega) hc).mono fun e w' hh => ?_
    obtain ⟨rfl, q, rfl⟩ := hh
    have hcl := compact_length_le l
    obtain ⟨rest, hr⟩ : ∃ rest, compact l ++ List.replicate (l.length - (compact l).length) 0 = rest := ⟨_, rfl⟩
    have hrl : rest.length = l.length := by rw [← hr]; simp; omega
    have hrt : rest.take (compact l).length = compact l := by rw [← hr]; simp
    rw [hr]
    have e0 : ∀ W : World, W = grow W #[] := fun W => by simp
    refine ⟨rfl, ?_, ?_⟩
    · rw [e0 (putRow _ _ _ _ _)]
      have ho := ownsRow_sortedI (n := q) (os := #[]) hrl hb hg hc hm hs
      obtain ⟨_, k2 | ⟨g2, cap2, cur2, hv2, hb2, hg2, hc2, hm2, hs2, hx2⟩⟩ := ho
      · cases k2.1
      · cases hv2
        refine ⟨by simp, .inr ⟨g, cap, cur2, rfl, hb, hg2, by omega, hm, hs2, ?_⟩⟩
        have := congrArg (List.take (compact l).length) hx2
        rw [List.take_take, ← List.map_take, hrt, Nat.mul_one, Nat.min_eq_left hcl] at this
        rw [Nat.mul_one]; exact this
    · rw [e0 (putRow _ _ _ _ _)]
      exact grownBy_sortedI _

theorem infoDay : (Try.prog.info? 22).map (fun i => (i.zero, i.size, i.bytes)) = some (some (.int .i64 0), 1, 8) := by kernel_rfl
theorem days_one (l : List Int) : ∀ u ∈ days l, u.oneCell' = true := by
  intro u hu
  obtain ⟨x, _, rfl⟩ := List.mem_map.1 hu
  rfl
/-- a slice of days that lies in memory -/
def DayL (w : World) (v : Value) (l : List Int) : Prop := Wb.SrcRow w 1 v l.length (days l)
theorem DayL.ext {w w' : World} {v : Value} {l : List Int} (h : DayL w v l) (k : Wb.Ext w w') : DayL w' v l := Wb.SrcRow.ext h k
theorem DayL.shape {w : World} {v : Value} {l : List Int} (h : DayL w v l) : ∃ a c, v = .slice a l.length c := by
  obtain ⟨_, ⟨rfl, h⟩ | ⟨ad, c, rfl, _⟩⟩ := h
  · exact ⟨_, _, by rw [h]⟩
  · exact ⟨_, _, rfl⟩
end Go.Proofs.Ytheofklbmknipaa
