/- Plain facts for chapter 38: the third blank by counting; how many acts a text holds. -/
import Derived.Test.YtokdmojbffnfgaaDoorPlain38b
namespace Go.Proofs.YtokdmojbffnfgaaDoor
namespace Wb

theorem okK_len : ∀ {A : List (List UInt8)} {k : Nat}, okK k A → A ≠ [] → k + A.length ≤ 8192
  | [], _, _, h => absurd rfl h
  | [a], k, h, _ => by have := h.1.2.2.2; simp; omega
  | a :: b :: r, k, h, _ => by
    have := okK_len (A := b :: r) (k := k + 1) h.2 (by simp)
    simp at this ⊢; omega
theorem okK_le {A : List (List UInt8)} (h : okK 0 A) : A.length ≤ 8192 := by
  by_cases h0 : A = []
  · subst h0; simp
  · have := okK_len h h0; omega
theorem okK_snoc {A : List (List UInt8)} {a : List UInt8} (h : okK 0 A) (ha : okA A.length a) : okK 0 (A ++ [a]) := by
  rw [okK_app, Nat.zero_add]; exact ⟨h, ha, trivial⟩
theorem okK_mem : ∀ {A : List (List UInt8)} {k : Nat}, okK k A → ∀ a ∈ A, a.length ≤ 4096
  | [], _, _, _, h => by cases h
  | x :: r, k, h, a, ha => by
    rcases List.mem_cons.1 ha with rfl | ha
    · exact h.1.2.1
    · exact okK_mem h.2 a ha
theorem textK_ge : ∀ {A : List (List UInt8)} {k m : Nat}, A.length ≤ (textK k m A).length
  | [], _, _ => by simp [textK_nil]
  | a :: r, k, m => by
    have := textK_ge (A := r) (k := k + 1) (m := mmark m a)
    rw [textK_cons, List.length_append, List.length_cons, List.length_cons]; omega
/-- the third blank, by counting -/
theorem cut3_count {l : List UInt8} {i : Nat} (hi : 0 < i) (hl : i ≤ l.length) (h3 : (l.take i).count 32 = 3) (hb : l[i - 1]? = some 32) : cut3 l = some (l.drop i) := by
  obtain ⟨j, rfl⟩ : ∃ j, i = j + 1 := ⟨i - 1, by omega⟩
  rw [Nat.add_sub_cancel] at hb
  obtain ⟨h1, h2⟩ := List.getElem?_eq_some_iff.1 hb
  have hl2 : l = l.take j ++ 32 :: l.drop (j + 1) := by
    conv => lhs; rw [← List.take_append_drop j l, List.drop_eq_getElem_cons h1, h2]
  have hc : (l.take j).count 32 = 2 := by
    rw [List.take_succ_eq_append_getElem h1, h2, List.count_append] at h3
    simpa using h3
  obtain ⟨x, hx⟩ : ∃ x, l.take j = x := ⟨_, rfl⟩
  rw [hx] at hc hl2
  rcases first_of 32 x with h | ⟨a, x2, rfl, ha⟩
  · rw [List.count_eq_zero.2 h] at hc; omega
  have ca := List.count_eq_zero.2 ha
  simp [ca] at hc
  rcases first_of 32 x2 with h | ⟨b, x3, rfl, hb'⟩
  · rw [List.count_eq_zero.2 h] at hc; omega
  have cb := List.count_eq_zero.2 hb'
  simp [cb] at hc
  have hc3 : (32 : UInt8) ∉ x3 := List.count_eq_zero.1 hc
  generalize hr : l.drop (j + 1) = r at hl2 ⊢
  rw [hl2, show (a ++ 32 :: (b ++ 32 :: x3)) ++ 32 :: r = a ++ 32 :: (b ++ 32 :: (x3 ++ 32 :: r)) by simp]
  exact cut3_hit ha hb' hc3
theorem cut3_few {l : List UInt8} (h : l.count 32 < 3) : cut3 l = none := by
  rcases cut3_cases l with ⟨h1, _⟩ | ⟨a, b, c, r, rfl, _, _, _, _⟩
  · exact h1
  · simp at h; omega
theorem cut3_end {l r : List UInt8} (h : cut3 (l ++ [10]) = some r) : ∃ r', r = r' ++ [10] ∧ cut3 l = some r' := by
  rcases cut3_cases (l ++ [10]) with ⟨h2, _⟩ | ⟨a, b, c, r2, h1, ha, hb, hc, h5⟩
  · rw [h] at h2; cases h2
  · rw [h] at h5; cases h5
    rcases List.eq_nil_or_concat r with h0 | ⟨r', z, h0⟩
    · subst h0
      have e : l ++ [10] = (a ++ 32 :: (b ++ 32 :: c)) ++ [32] := by rw [h1]; simp
      have := (List.append_inj' e rfl).2
      simp at this
    · rw [List.concat_eq_append] at h0
      subst h0
      have e : l ++ [10] = (a ++ 32 :: (b ++ 32 :: (c ++ 32 :: r'))) ++ [z] := by rw [h1]; simp
      obtain ⟨e1, e2⟩ := List.append_inj' e rfl
      simp at e2; subst e2
      exact ⟨r', rfl, by rw [e1]; exact cut3_hit ha hb hc⟩
/-- nothing that follows may, where the first line is none -/
theorem NoNext.line {A : List (List UInt8)} {ln u : List UInt8} (hl : (10 : UInt8) ∉ ln) (h : ∀ a, okA A.length a → ln ≠ lineN (A.length + 1) (marksL mfirst A) a) : NoNext A (ln ++ 10 :: u) := by
  intro a u' ha e
  exact h a ha (cut_uniq e hl (lineN_line ha.2.2.1)).1

end Wb
end Go.Proofs.YtokdmojbffnfgaaDoor
