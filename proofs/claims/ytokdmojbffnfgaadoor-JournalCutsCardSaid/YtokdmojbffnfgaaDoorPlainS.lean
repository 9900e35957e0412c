/- Texts cut at each of a byte, and at the first one: plain, and as the library has it. -/
import Derived.Test.YtokdmojbffnfgaaDoorBase
import Derived.Lib.SplitLaws
namespace Go.Proofs.YtokdmojbffnfgaaDoor
namespace Wb

/-- a text at each of a byte -/
def splitOn (c : UInt8) : List UInt8 → List (List UInt8)
  | [] => [[]]
  | b :: r => if b = c then [] :: splitOn c r else match splitOn c r with
    | [] => [[b]]
    | h :: t => (b :: h) :: t
theorem splitOn_pos (c : UInt8) : ∀ l, splitOn c l ≠ []
  | [] => by simp [splitOn]
  | b :: r => by
    rw [splitOn]; split
    · simp
    · split <;> simp
theorem splitOn_miss {c : UInt8} : ∀ {l : List UInt8}, c ∉ l → splitOn c l = [l]
  | [], _ => rfl
  | b :: r, h => by
    have hb : ¬ b = c := fun e => h (by simp [e])
    rw [splitOn, if_neg hb, splitOn_miss (l := r) fun e => h (by simp [e])]
theorem splitOn_hit {c : UInt8} : ∀ {a b : List UInt8}, c ∉ a → splitOn c (a ++ c :: b) = a :: splitOn c b
  | [], b, _ => by simp [splitOn]
  | x :: a, b, h => by
    have hb : ¬ x = c := fun e => h (by simp [e])
    rw [List.cons_append, splitOn, if_neg hb, splitOn_hit (a := a) fun e => h (by simp [e])]
/-- a text is put together from its pieces -/
def join (c : UInt8) : List (List UInt8) → List UInt8
  | [] => []
  | [a] => a
  | a :: r => a ++ c :: join c r
theorem join_cons {c : UInt8} {a : List UInt8} {r : List (List UInt8)} (h : r ≠ []) : join c (a :: r) = a ++ c :: join c r := by
  cases r with
  | nil => exact absurd rfl h
  | cons b r => rfl
theorem join_split (c : UInt8) : ∀ l, join c (splitOn c l) = l
  | [] => rfl
  | b :: r => by
    have ih := join_split c r
    rw [splitOn]
    split
    · rename_i h
      rw [join_cons (splitOn_pos c r), ih, h]; rfl
    · cases hs : splitOn c r with
      | nil => exact absurd hs (splitOn_pos c r)
      | cons x t =>
        rw [hs] at ih
        cases t with
        | nil => simp only [join] at ih ⊢; rw [ih]
        | cons y t => simp only [join] at ih ⊢; rw [List.cons_append, ih]
theorem splitOn_no {c : UInt8} : ∀ {l : List UInt8} {a : List UInt8}, a ∈ splitOn c l → c ∉ a
  | [], a, h => by simp [splitOn] at h; subst h; simp
  | b :: r, a, h => by
    rw [splitOn] at h
    split at h
    · rcases List.mem_cons.1 h with rfl | h
      · simp
      · exact splitOn_no h
    · rename_i hb
      cases hs : splitOn c r with
      | nil => exact absurd hs (splitOn_pos c r)
      | cons x t =>
        rw [hs] at h
        rcases List.mem_cons.1 h with rfl | h
        · intro hc
          rcases List.mem_cons.1 hc with rfl | hc
          · exact hb rfl
          · exact splitOn_no (l := r) (a := x) (by rw [hs]; simp) hc
        · exact splitOn_no (l := r) (by rw [hs]; simp [h])
theorem splitOn_len (c : UInt8) : ∀ l, (splitOn c l).length = l.count c + 1
  | [] => rfl
  | b :: r => by
    have ih := splitOn_len c r
    rw [splitOn]
    split
    · rename_i h; subst h; simp [ih]
    · rename_i h
      rw [List.count_cons_of_ne (by simpa using h)]
      cases hs : splitOn c r with
      | nil => exact absurd hs (splitOn_pos c r)
      | cons x t => rw [hs] at ih; simpa using ih
theorem splitOn_le {c : UInt8} {l a : List UInt8} (h : a ∈ splitOn c l) : a.length ≤ l.length := by
  induction l generalizing a with
  | nil => simp [splitOn] at h; subst h; simp
  | cons b r ih =>
    rw [splitOn] at h
    split at h
    · rcases List.mem_cons.1 h with rfl | h
      · simp
      · have := ih h; simp; omega
    · cases hs : splitOn c r with
      | nil => exact absurd hs (splitOn_pos c r)
      | cons x t =>
        rw [hs] at h ih
        rcases List.mem_cons.1 h with rfl | h
        · have := ih (a := x) (by simp); simpa using this
        · have := ih (a := a) (by simp [h]); simp; omega

/-- at the first one -/
def cutOn (c : UInt8) : List UInt8 → List UInt8 × List UInt8 × Bool
  | [] => ([], [], false)
  | b :: r => if b = c then ([], r, true) else (b :: (cutOn c r).1, (cutOn c r).2.1, (cutOn c r).2.2)
theorem cutOn_miss {c : UInt8} : ∀ {l : List UInt8}, c ∉ l → cutOn c l = (l, [], false)
  | [], _ => rfl
  | b :: r, h => by
    have hb : ¬ b = c := fun e => h (by simp [e])
    rw [cutOn, if_neg hb, cutOn_miss (l := r) fun e => h (by simp [e])]
theorem cutOn_hit {c : UInt8} : ∀ {a b : List UInt8}, c ∉ a → cutOn c (a ++ c :: b) = (a, b, true)
  | [], b, _ => by simp [cutOn]
  | x :: a, b, h => by
    have hb : ¬ x = c := fun e => h (by simp [e])
    rw [List.cons_append, cutOn, if_neg hb, cutOn_hit (a := a) fun e => h (by simp [e])]
/-- where a byte stands first, if at all -/
theorem first_of (c : UInt8) : ∀ l : List UInt8, c ∉ l ∨ ∃ a b, l = a ++ c :: b ∧ c ∉ a
  | [] => .inl (by simp)
  | x :: r => by
    by_cases h : x = c
    · exact .inr ⟨[], r, by simp [h], by simp⟩
    · rcases first_of c r with hr | ⟨a, b, e, hr⟩
      · exact .inl fun hc => (List.mem_cons.1 hc).elim (fun e => h e.symm) hr
      · exact .inr ⟨x :: a, b, by simp [e], fun hc => (List.mem_cons.1 hc).elim (fun e => h e.symm) hr⟩

/-! ### the library's words -/
theorem index1_miss {c : UInt8} : ∀ {l : List UInt8}, c ∉ l → Lib.index l [c] = -1
  | [], _ => rfl
  | b :: r, h => by
    have hb : ¬ c = b := fun e => h (by simp [e])
    have ih := index1_miss (c := c) (l := r) fun e => h (List.mem_cons_of_mem _ e)
    simp [Lib.index, List.isPrefixOf, hb, ih]
theorem index1_hit {c : UInt8} : ∀ {a b : List UInt8}, c ∉ a → Lib.index (a ++ c :: b) [c] = a.length
  | [], b, _ => by simp [Lib.index, List.isPrefixOf]
  | x :: a, b, h => by
    have hb : ¬ c = x := fun e => h (by simp [e])
    have ih := index1_hit (c := c) (a := a) (b := b) fun e => h (List.mem_cons_of_mem _ e)
    have : ¬ (a.length : Int) = -1 := by omega
    simp [Lib.index, List.isPrefixOf, hb, ih, this]
theorem lib_cut (c : UInt8) (l : List UInt8) : Lib.cut l [c] = cutOn c l := by
  rcases first_of c l with h | ⟨a, b, rfl, h⟩
  · rw [cutOn_miss h, Lib.cut, index1_miss h]; simp
  · rw [cutOn_hit h, Lib.cut, index1_hit h]
    simp
theorem lib_splitK (c : UInt8) : ∀ (k : Nat) (l : List UInt8), l.count c ≤ k → Lib.splitK [c] 0 k l = splitOn c l
  | 0, l, h => by
    have : c ∉ l := fun hc => by have := List.count_pos_iff.2 hc; omega
    rw [splitOn_miss this]; rfl
  | k + 1, l, h => by
    rcases first_of c l with hc | ⟨a, b, rfl, hc⟩
    · rw [splitOn_miss hc, Lib.splitK, index1_miss hc]; simp
    · have h0 : a.count c = 0 := List.count_eq_zero.2 hc
      have hb : b.count c ≤ k := by simpa [h0] using h
      have hn : ¬ ((a.length : Int) == -1) = true := by simp
      rw [splitOn_hit hc, Lib.splitK, index1_hit hc, if_neg hn]
      simp [lib_splitK c k b hb]
theorem lib_count (c : UInt8) (l : List UInt8) : Lib.countB (S l) (S [c]) = l.count c := by
  have := Lib.count_one c l
  simpa [Lib.countB, S] using this
theorem lib_split (c : UInt8) (l : List UInt8) : (Lib.splitB (S [c]) 0 (Lib.countB (S l) (S [c])) (S l)).map Value.string = (splitOn c l).map fun a => .string (S a) := by
  have h := Lib.splitB_data (S [c]) 0 (Lib.countB (S l) (S [c])) (S l)
  rw [show (S [c]).data.toList = [c] by simp [S], show (S l).data.toList = l by simp [S], lib_splitK c _ _ (by rw [lib_count]; exact Nat.le_refl _)] at h
  rw [← h, List.map_map]
  refine List.map_congr_left fun a _ => ?_
  simp [S]

end Wb
end Go.Proofs.YtokdmojbffnfgaaDoor
