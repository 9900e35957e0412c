/- Plain facts on lists of bytes. No program in sight. -/
namespace Go.Proofs.Ytdfmlgjemfcmlaa
namespace Wb

/-- the byte at a place (0 where there is none) -/
def byteAt (l : List UInt8) (k : Nat) : UInt8 := (l[k]?).getD 0
theorem byteAt_eq {l : List UInt8} {k : Nat} (h : k < l.length) : byteAt l k = l[k] := by
  rw [byteAt, List.getElem?_eq_getElem h, Option.getD_some]
theorem byte_ex {l : List UInt8} {k : Nat} (h : k < l.length) : ∃ b, byteAt l k = b ∧ l.drop k = b :: l.drop (k + 1) := by
  refine ⟨_, rfl, ?_⟩
  rw [List.drop_eq_getElem_cons h, byteAt_eq h]
theorem drop_get {α : Type} {l : List α} {k : Nat} {b : α} (h : l[k]? = some b) : l.drop k = b :: l.drop (k + 1) := by
  obtain ⟨h1, h2⟩ := List.getElem?_eq_some_iff.1 h
  rw [List.drop_eq_getElem_cons h1, h2]
theorem get_ex {α : Type} {l : List α} {k : Nat} (h : k < l.length) : ∃ b, l[k]? = some b := ⟨l[k], List.getElem?_eq_getElem h⟩
theorem take_byte {l : List UInt8} {k : Nat} (h : k < l.length) : l.take (k + 1) = l.take k ++ [byteAt l k] := by
  rw [List.take_succ_eq_append_getElem h, byteAt_eq h]
theorem byteAt_cons (b : UInt8) (l : List UInt8) (k : Nat) : byteAt (b :: l) (k + 1) = byteAt l k := by simp [byteAt]
theorem byteAt_cons0 (b : UInt8) (l : List UInt8) : byteAt (b :: l) 0 = b := by simp [byteAt]
theorem byteAt_left {a b : List UInt8} {k : Nat} (h : k < a.length) : byteAt (a ++ b) k = byteAt a k := by simp [byteAt, List.getElem?_append_left h]
theorem byteAt_right {a b : List UInt8} {k : Nat} (h : a.length ≤ k) : byteAt (a ++ b) k = byteAt b (k - a.length) := by simp [byteAt, List.getElem?_append_right h]
theorem byteAt_drop (l : List UInt8) (m k : Nat) : byteAt (l.drop m) k = byteAt l (m + k) := by simp [byteAt]
theorem byteAt_mem {l : List UInt8} {k : Nat} (h : k < l.length) : byteAt l k ∈ l := by rw [byteAt_eq h]; exact List.getElem_mem h

theorem snoc_ind {α : Type} {P : List α → Prop} (h0 : P []) (h1 : ∀ l a, P l → P (l ++ [a])) (l : List α) : P l := by
  have : ∀ l : List α, P l.reverse := by
    intro l
    induction l with
    | nil => exact h0
    | cons a l ih => rw [List.reverse_cons]; exact h1 _ _ ih
  have := this l.reverse
  rwa [List.reverse_reverse] at this

end Wb
end Go.Proofs.Ytdfmlgjemfcmlaa
