/- Plain facts for chapter 27: a right slip's lines rise; its parts lie one behind the other. -/
import Derived.Test.YtdfmlgjemfcmlaaPlain27b
namespace Go.Proofs.Ytdfmlgjemfcmlaa
namespace Wb

theorem chk_rise : ∀ {l : List Ln} {p : Option Ln}, chk p l = 0 → l.Pairwise (fun a b => lnLt a b = true) ∧ ∀ q, p = some q → ∀ x ∈ l, lnLt q x = true := by
  intro l
  induction l with
  | nil => intro p _; exact ⟨List.Pairwise.nil, fun q _ x hx => by cases hx⟩
  | cons y r ih =>
    intro p h
    have hy : lineErr y = 0 := chk_lines h y (by simp)
    have hr : chk (some y) r = 0 ∧ ∀ q, p = some q → lnLt q y = true := by
      cases p with
      | none => rw [chk_none hy] at h; exact ⟨h, fun q hq => by cases hq⟩
      | some q =>
        rw [chk_some hy] at h
        split at h
        · omega
        · split at h
          · omega
          · rename_i hl
            exact ⟨h, fun q' hq => by cases hq; simpa using hl⟩
    obtain ⟨h1, h2⟩ := ih hr.1
    refine ⟨List.Pairwise.cons (fun x hx => h2 y rfl x hx) h1, fun q hq x hx => ?_⟩
    rcases List.mem_cons.1 hx with rfl | hx
    · exact hr.2 q hq
    · exact lnLt_trans (hr.2 q hq) (h2 y rfl x hx)

theorem lnLt_part {a b : Ln} (h : lnLt a b = true) : a.part ≤ b.part := by
  simp only [lnLt, Bool.or_eq_true, decide_eq_true_eq, Bool.and_eq_true, beq_iff_eq] at h
  rcases h with h | h <;> omega

def below (k : Int) (l : List Ln) : List Ln := l.filter fun x => decide (x.part < k)
theorem parts_split {k : Int} : ∀ {l : List Ln}, l.Pairwise (fun a b => lnLt a b = true) → ∃ rest, l = below k l ++ (partOf k l ++ rest) := by
  intro l
  induction l with
  | nil => intro _; exact ⟨[], rfl⟩
  | cons x r ih =>
    intro h
    obtain ⟨h1, h2⟩ := List.pairwise_cons.1 h
    obtain ⟨rest, hr⟩ := ih h2
    by_cases hx : x.part < k
    · refine ⟨rest, ?_⟩
      have e1 : below k (x :: r) = x :: below k r := by simp [below, hx]
      have e2 : partOf k (x :: r) = partOf k r := by
        have : ¬ x.part = k := by omega
        simp [partOf, this]
      rw [e1, e2, List.cons_append, ← hr]
    · have e0 : below k r = [] := by
        simp only [below, List.filter_eq_nil_iff, decide_eq_true_eq]
        intro y hy
        have := lnLt_part (h1 y hy)
        omega
      by_cases hk : x.part = k
      · refine ⟨rest, ?_⟩
        have e1 : below k (x :: r) = [] := by simp only [below, List.filter_cons, decide_eq_true_eq]; rw [if_neg hx]; exact e0
        have e2 : partOf k (x :: r) = x :: partOf k r := by simp [partOf, hk]
        rw [e0, List.nil_append] at hr
        rw [e1, e2, List.nil_append, List.cons_append, ← hr]
      · refine ⟨x :: r, ?_⟩
        have e1 : below k (x :: r) = [] := by simp only [below, List.filter_cons, decide_eq_true_eq]; rw [if_neg hx]; exact e0
        have e2 : partOf k (x :: r) = [] := by
          simp only [partOf, List.filter_eq_nil_iff, beq_iff_eq]
          intro y hy
          rcases List.mem_cons.1 hy with rfl | hy
          · exact hk
          · have := lnLt_part (h1 y hy); omega
        rw [e1, e2]; rfl
theorem below_succ (k : Int) (l : List Ln) : (below (k + 1) l).length = (below k l).length + (partOf k l).length := by
  induction l with
  | nil => rfl
  | cons x r ih =>
    simp only [below, partOf, List.filter_cons] at ih ⊢
    by_cases h1 : x.part < k
    · have h2 : x.part < k + 1 := by omega
      have h3 : ¬ x.part = k := by omega
      simp [h1, h2, h3]; omega
    · by_cases h3 : x.part = k
      · have h2 : k < k + 1 := by omega
        simp [h3, h2]; omega
      · have h2 : ¬ x.part < k + 1 := by omega
        simp [h1, h2, h3]; omega
theorem parts_get {k : Int} {l : List Ln} (h : l.Pairwise (fun a b => lnLt a b = true)) {j : Nat} {x : Ln} (hj : (partOf k l)[j]? = some x) : l[(below k l).length + j]? = some x := by
  obtain ⟨rest, hr⟩ := parts_split (k := k) h
  obtain ⟨hlt, _⟩ := List.getElem?_eq_some_iff.1 hj
  generalize hb : below k l = b at hr ⊢
  generalize hp : partOf k l = p at hr hj hlt
  rw [hr, List.getElem?_append_right (by omega), List.getElem?_append_left (by omega)]
  simpa using hj
theorem part_of {k : Int} {l : List Ln} {j : Nat} {x : Ln} (hj : (partOf k l)[j]? = some x) : x.part = k := by
  have := List.mem_of_getElem? hj
  simp [partOf] at this; exact this.2
theorem below_all {l : List Ln} (h : ∀ x ∈ l, lineErr x = 0) : below 7 l = l ∧ below 0 l = [] := by
  constructor
  · rw [below, List.filter_eq_self]
    intro x hx
    have := lineErr_ok (h x hx)
    simp; omega
  · rw [below, List.filter_eq_nil_iff]
    intro x hx
    have := lineErr_ok (h x hx)
    simp; omega
theorem part_none {l : List Ln} (h : ∀ x ∈ l, lineErr x = 0) {p : Int} (hp : p < 0 ∨ 6 < p) : partOf p l = [] := by
  rw [partOf, List.filter_eq_nil_iff]
  intro x hx
  have := lineErr_ok (h x hx)
  simp; omega

end Wb
end Go.Proofs.Ytdfmlgjemfcmlaa
