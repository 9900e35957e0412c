/- Plain facts for chapter 29: how the reference finds the periods. -/
import Derived.Test.YtdfmlgjemfcmlaaPlain29e
namespace Go.Proofs.Ytdfmlgjemfcmlaa
namespace Wb

/-- a period put in among some that rise, once -/
def insP : List (Int × Int) → Int × Int → List (Int × Int)
  | [], p => [p]
  | x :: r, p => if prLt x p = true then x :: insP r p else if prLt p x = true then p :: x :: r else x :: r
theorem ins_same : ∀ {l : List (Int × Int)} {k : Nat} {p z : Int × Int}, (∀ t u, l[t]? = some u → t < k → prLt u p = true) → l[k]? = some z → prLt z p = false → prLt p z = false → insP l p = l
  | [], k, p, z, _, h, _, _ => by simp at h
  | x :: r, 0, p, z, _, h, h1, h2 => by
    simp at h; subst h
    rw [insP, if_neg (by rw [h1]; decide), if_neg (by rw [h2]; decide)]
  | x :: r, k + 1, p, z, h0, h, h1, h2 => by
    have hx := h0 0 x rfl (by omega)
    simp at h
    rw [insP, if_pos hx, ins_same (k := k) (fun t u hu ht => h0 (t + 1) u (by simpa using hu) (by omega)) h h1 h2]
theorem ins_new : ∀ {l : List (Int × Int)} {k : Nat} {p : Int × Int}, k ≤ l.length → (∀ t u, l[t]? = some u → t < k → prLt u p = true) → (∀ z, l[k]? = some z → prLt z p = false ∧ prLt p z = true) → insP l p = l.take k ++ p :: l.drop k
  | [], k, p, hk, _, _ => by
    obtain rfl : k = 0 := by simpa using hk
    rfl
  | x :: r, 0, p, _, _, h => by
    obtain ⟨h1, h2⟩ := h x rfl
    rw [insP, if_neg (by rw [h1]; decide), if_pos h2]; rfl
  | x :: r, k + 1, p, hk, h0, h => by
    have hx := h0 0 x rfl (by omega)
    rw [insP, if_pos hx, ins_new (k := k) (by simpa using hk) (fun t u hu ht => h0 (t + 1) u (by simpa using hu) (by omega)) (fun z hz => h z (by simpa using hz))]
    rfl
theorem ins_mem : ∀ {l : List (Int × Int)} {p q : Int × Int}, q ∈ insP l p ↔ q = p ∨ q ∈ l
  | [], p, q => by simp [insP]
  | x :: r, p, q => by
    rw [insP]
    split
    · rw [List.mem_cons, ins_mem, List.mem_cons]
      constructor
      · rintro (h | h | h)
        · exact .inr (.inl h)
        · exact .inl h
        · exact .inr (.inr h)
      · rintro (h | h | h)
        · exact .inr (.inl h)
        · exact .inl h
        · exact .inr (.inr h)
    · split
      · rw [List.mem_cons]
      · rename_i h1 h2
        have e := pr_total (by simpa using h1) (by simpa using h2)
        subst e
        constructor
        · exact .inr
        · rintro (h | h)
          · rw [h]; simp
          · exact h
theorem ins_rise : ∀ {l : List (Int × Int)} {p : Int × Int}, (l.Pairwise fun a b => prLt a b = true) → (insP l p).Pairwise fun a b => prLt a b = true
  | [], p, _ => List.pairwise_singleton _ _
  | x :: r, p, h => by
    obtain ⟨h1, h2⟩ := List.pairwise_cons.1 h
    rw [insP]
    split
    · rename_i hx
      refine List.pairwise_cons.2 ⟨fun z hz => ?_, ins_rise h2⟩
      rcases ins_mem.1 hz with rfl | hz
      · exact hx
      · exact h1 z hz
    · split
      · rename_i h3 h4
        refine List.pairwise_cons.2 ⟨fun z hz => ?_, h⟩
        rcases List.mem_cons.1 hz with rfl | hz
        · exact h4
        · exact pr_trans h4 (h1 z hz)
      · exact h
theorem ins_len : ∀ (l : List (Int × Int)) (p : Int × Int), (insP l p).length ≤ l.length + 1
  | [], p => by simp [insP]
  | x :: r, p => by
    rw [insP]
    have := ins_len r p
    split
    · simp; omega
    · split <;> simp
def headsP (L : List Sl) : List (Int × Int) := L.foldl (fun r s => insP r (perS s)) []
theorem fold_ins : ∀ (L : List Sl) (r : List (Int × Int)), (r.Pairwise fun a b => prLt a b = true) → ((L.foldl (fun r s => insP r (perS s)) r).Pairwise fun a b => prLt a b = true) ∧ (∀ q, q ∈ L.foldl (fun r s => insP r (perS s)) r ↔ q ∈ r ∨ hasP L q) ∧ (L.foldl (fun r s => insP r (perS s)) r).length ≤ r.length + L.length
  | [], r, h => ⟨h, fun q => by simp [hasP], by simp⟩
  | x :: L, r, h => by
    obtain ⟨h1, h2, h3⟩ := fold_ins L (insP r (perS x)) (ins_rise h)
    refine ⟨h1, fun q => ?_, ?_⟩
    · rw [List.foldl_cons, h2, ins_mem]
      constructor
      · rintro ((h | h) | ⟨s, hs, hq⟩)
        · exact .inr ⟨x, by simp, h.symm⟩
        · exact .inl h
        · exact .inr ⟨s, by simp [hs], hq⟩
      · rintro (h | ⟨s, hs, hq⟩)
        · exact .inl (.inr h)
        · rcases List.mem_cons.1 hs with rfl | hs
          · exact .inl (.inl hq.symm)
          · exact .inr ⟨s, hs, hq⟩
    · rw [List.foldl_cons]
      have := ins_len r (perS x)
      simp only [List.length_cons]; omega
theorem heads_of (A B : List Sl) : PerOf A B (headsP (A ++ B)) := by
  obtain ⟨h1, h2, _⟩ := fold_ins (A ++ B) [] List.Pairwise.nil
  refine ⟨h1, fun p => ?_⟩
  unfold headsP
  rw [h2]
  constructor
  · rintro (h | ⟨s, hs, hp⟩)
    · cases h
    · rcases List.mem_append.1 hs with hs | hs
      · exact .inl ⟨s, hs, hp⟩
      · exact .inr ⟨s, hs, hp⟩
  · rintro (⟨s, hs, hp⟩ | ⟨s, hs, hp⟩)
    · exact .inr ⟨s, List.mem_append_left _ hs, hp⟩
    · exact .inr ⟨s, List.mem_append_right _ hs, hp⟩
theorem heads_len (L : List Sl) : (headsP L).length ≤ L.length := by
  have := (fold_ins L [] List.Pairwise.nil).2.2
  simpa [headsP] using this

end Wb
end Go.Proofs.Ytdfmlgjemfcmlaa
