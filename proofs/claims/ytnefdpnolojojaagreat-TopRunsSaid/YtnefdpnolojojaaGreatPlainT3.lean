/- Plain facts for TopRuns: all differences of what is paid for and what was handed in. -/
import Derived.Test.YtnefdpnolojojaaGreatPlainT2
import Derived.Test.YtnefdpnolojojaaGreatDel11
namespace Go.Proofs.YtnefdpnolojojaaGreat
namespace Wb
theorem all_nrm (A B : List Sl) : ∀ (ps : List (Int × Int)) (acc : List Ct), allG (A.map nrm) (B.map nrm) acc ps = allG A B acc ps
  | [], _ => rfl
  | p :: r, acc => by
    have ih := all_nrm A B r
    rw [allG, allG, find_nrm, find_nrm, conO_nrm, conO_nrm]
    simp only [ih]
theorem tab_nrm : ∀ (L : List Sl) (p : Option (Int × Int)), tabE p (L.map nrm) = tabE p L
  | [], p => by cases p <;> rfl
  | s :: r, p => by
    have ih := tab_nrm r
    have e1 : (nrm s).y = s.y ∧ (nrm s).i = s.i ∧ (nrm s).l = s.l ∧ perS (nrm s) = perS s := ⟨rfl, rfl, rfl, rfl⟩
    cases p with
    | none => rw [List.map_cons, tabE, tabE, ih, e1.1, e1.2.1, e1.2.2.1, e1.2.2.2]
    | some q => rw [List.map_cons, tabE, tabE, ih, e1.1, e1.2.1, e1.2.2.1, e1.2.2.2]
theorem list_nrm (L : List Sl) : listE (L.map nrm) = listE L := by unfold listE; rw [List.length_map, tab_nrm]
theorem heads_nrm (L : List Sl) : headsP (L.map nrm) = headsP L := by
  unfold headsP
  rw [List.foldl_map]; rfl
theorem allF_nrm (A B : List Sl) : allF (A.map nrm) (B.map nrm) = allF A B := by
  unfold allF
  rw [list_nrm, list_nrm, ← List.map_append, heads_nrm, all_nrm]
theorem allF_small {C : List Ct} {r : Nat} (hr : r ≤ 6) (h : SmC KT 28 r C) (hl : C.length ≤ 6) {D Q : List Sl} (hD : D.map ct = fullC C) (hQ : Q.map ct = C) : ∃ R, allF D Q = (0, R) ∧ (∀ c ∈ R, c.2.2 = []) ∧ R.length ≤ 12 := by
  rw [← allF_nrm, ← lst_ct, ← lst_ct, hD, hQ]
  unfold allF
  have h1 := list_small hr h.full (Nat.le_trans (List.length_filter_le _ _) hl)
  have h2 := list_small hr h hl
  rw [h1, if_neg (by simp), h2, if_neg (by simp)]
  obtain ⟨R, k1, k2⟩ := all_small hr h (ps := headsP (lst (fullC C) ++ lst C)) (acc := []) (fun p hp => ((persP_of _ _).2 p).1 hp) (fun c hc => by cases hc)
  refine ⟨R, k1, k2, ?_⟩
  have e := (all_ok k1).1
  have h3 := heads_len (lst (fullC C) ++ lst C)
  have h4 : (fullC C).length ≤ C.length := List.length_filter_le _ _
  have h5 : (lst (fullC C) ++ lst C).length = (fullC C).length + C.length := by simp [lst]
  rw [e, List.nil_append, List.length_map]
  omega
theorem sums_each {C : List Ct} {r : Nat} (hr : r ≤ 6) (h : SmC KT 28 r C) {Q : List Sl} (hQ : Q.map ct = C) : ∀ s ∈ Q, (sums s.y s.i s.l).2.2.2.2 = 0 := fun s hs => by
  have hc : ct s ∈ C := by rw [← hQ]; exact List.mem_map_of_mem hs
  obtain ⟨h1, h2, h3, h4⟩ := h.each _ hc
  have h1 : s.y = 2026 := h1
  have h2 : 1 ≤ s.i := h2
  have h3 : s.i ≤ r := h3
  exact (SmL.sums h4 (by decide) (by omega) (by decide) (by omega)).1
end Wb
end Go.Proofs.YtnefdpnolojojaaGreat
