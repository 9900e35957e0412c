/- Chapter 27: what a text of a slip comes to. No program in sight. -/
import Derived.Test.YtpiedhjjpmmomaaDoorPlainS
import Derived.Test.YtpiedhjjpmmomaaDoorSlip10
namespace Go.Proofs.YtpiedhjjpmmomaaDoor
namespace Wb

def slipW : List UInt8 := [115, 108, 105, 112, 32]
def isDg (b : UInt8) : Bool := decide (48 ≤ (b.toNat : Int)) && decide ((b.toNat : Int) ≤ 57)
theorem isDg_iff {b : UInt8} : isDg b = true ↔ Dg b := by simp [isDg, Dg]; omega
def numOk (least : Nat) (s : List UInt8) : Bool := decide (least ≤ s.length) && decide (s.length ≤ 7) && s.all isDg
theorem numOk_iff {k : Nat} {s : List UInt8} : numOk k s = true ↔ k ≤ s.length ∧ s.length ≤ 7 ∧ ∀ b ∈ s, Dg b := by
  simp [numOk, and_assoc, isDg_iff]
/-- what the first line says -/
def HeadIs (s : List UInt8) (y i : Int) : Prop := ∃ a b, s = slipW ++ (a ++ 47 :: b) ∧ numOk 1 a = true ∧ numOk 2 b = true ∧ (a.length = 1 ∨ byteAt a 0 ≠ 48) ∧ (b.length = 2 ∨ byteAt b 0 ≠ 48) ∧ y = val a ∧ i = val b
theorem HeadIs.uniq {s : List UInt8} {y i y' i' : Int} (h : HeadIs s y i) (h' : HeadIs s y' i') : y = y' ∧ i = i' := by
  obtain ⟨a, b, e, ha, hb, _, _, rfl, rfl⟩ := h
  obtain ⟨a', b', e', ha', hb', _, _, rfl, rfl⟩ := h'
  have e2 : a ++ 47 :: b = a' ++ 47 :: b' := List.append_cancel_left (e.symm.trans e')
  have n1 : (47 : UInt8) ∉ a := fun hc => by have := (numOk_iff.1 ha).2.2 _ hc; unfold Dg at this; revert this; decide
  have n2 : (47 : UInt8) ∉ a' := fun hc => by have := (numOk_iff.1 ha').2.2 _ hc; unfold Dg at this; revert this; decide
  have := cutOn_hit (b := b) n1
  rw [e2, cutOn_hit n2] at this
  simp at this
  rw [this.1, this.2]; exact ⟨rfl, rfl⟩
open Classical in
noncomputable def headOf (s : List UInt8) : Option (Int × Int) := if h : ∃ p : Int × Int, HeadIs s p.1 p.2 then some h.choose else none
theorem headOf_some {s : List UInt8} {y i : Int} (h : HeadIs s y i) : headOf s = some (y, i) := by
  have hx : ∃ p : Int × Int, HeadIs s p.1 p.2 := ⟨(y, i), h⟩
  rw [headOf, dif_pos hx]
  obtain ⟨e1, e2⟩ := hx.choose_spec.uniq h
  exact congrArg some (Prod.ext e1 e2)
theorem headOf_none {s : List UInt8} (h : ∀ y i, ¬ HeadIs s y i) : headOf s = none := by
  rw [headOf, dif_neg (fun ⟨p, hp⟩ => h _ _ hp)]
theorem headOf_is {s : List UInt8} {y i : Int} (h : headOf s = some (y, i)) : HeadIs s y i := by
  unfold headOf at h
  split at h
  · rename_i hx
    have := hx.choose_spec
    rw [Option.some.inj h] at this
    exact this
  · cases h

/-- as the program goes about it -/
theorem head_prog {s a b : List UInt8} {ok : Bool} (hc : cutOn 47 (Lib.trimPrefix s slipW) = (a, b, ok)) :
    headOf s = if Lib.hasPrefix s slipW = true ∧ ok = true ∧ numOk 1 a = true ∧ numOk 2 b = true ∧ (a.length = 1 ∨ byteAt a 0 ≠ 48) ∧ (b.length = 2 ∨ byteAt b 0 ≠ 48) then some ((val a : Int), (val b : Int)) else none := by
  by_cases hp : Lib.hasPrefix s slipW = true
  · obtain ⟨r, rfl⟩ := List.isPrefixOf_iff_prefix.1 hp
    rw [Lib.trimPrefix, if_pos hp, List.drop_left] at hc
    split
    · rename_i h
      obtain ⟨_, rfl, h1, h2, h3, h4⟩ := h
      rcases first_of 47 r with hn | ⟨a', b', rfl, hn⟩
      · rw [cutOn_miss hn] at hc; simp at hc
      · rw [cutOn_hit hn] at hc
        simp at hc
        obtain ⟨rfl, rfl⟩ := hc
        exact headOf_some ⟨_, _, rfl, h1, h2, h3, h4, rfl, rfl⟩
    · rename_i h
      refine headOf_none fun y i ⟨a', b', e, h1, h2, h3, h4, _, _⟩ => h ?_
      have e2 := List.append_cancel_left e
      have n1 : (47 : UInt8) ∉ a' := fun hc => by have := (numOk_iff.1 h1).2.2 _ hc; unfold Dg at this; revert this; decide
      rw [e2, cutOn_hit n1] at hc
      simp at hc
      obtain ⟨rfl, rfl, rfl⟩ := hc
      exact ⟨hp, rfl, h1, h2, h3, h4⟩
  · rw [if_neg (fun h => hp h.1)]
    refine headOf_none fun y i ⟨a', b', e, _⟩ => hp ?_
    rw [e]; exact List.isPrefixOf_iff_prefix.2 ⟨_, rfl⟩
/-- as the document's answer goes about it -/
theorem head_ref_two {s : List UInt8} (h : ∀ w1, splitOn 32 s ≠ [[115, 108, 105, 112], w1]) : headOf s = none := by
  refine headOf_none fun y i ⟨a, b, e, h1, h2, _⟩ => h (a ++ 47 :: b) ?_
  have n1 : (32 : UInt8) ∉ a := fun hc => by have := (numOk_iff.1 h1).2.2 _ hc; unfold Dg at this; revert this; decide
  have n2 : (32 : UInt8) ∉ b := fun hc => by have := (numOk_iff.1 h2).2.2 _ hc; unfold Dg at this; revert this; decide
  rw [e, show slipW ++ (a ++ 47 :: b) = [115, 108, 105, 112] ++ 32 :: (a ++ 47 :: b) from rfl, splitOn_hit (by decide), splitOn_miss]
  simp [n1, n2]
theorem head_ref_day {s w1 : List UInt8} (h : splitOn 32 s = [[115, 108, 105, 112], w1]) (h2 : ∀ a b, splitOn 47 w1 ≠ [a, b]) : headOf s = none := by
  refine headOf_none fun y i ⟨a, b, e, n1, n2, _⟩ => h2 a b ?_
  have hj := join_split 32 s
  rw [h] at hj
  have e2 : slipW ++ w1 = slipW ++ (a ++ 47 :: b) := by rw [← e, ← hj]; rfl
  rw [List.append_cancel_left e2]
  have m1 : (47 : UInt8) ∉ a := fun hc => by have := (numOk_iff.1 n1).2.2 _ hc; unfold Dg at this; revert this; decide
  have m2 : (47 : UInt8) ∉ b := fun hc => by have := (numOk_iff.1 n2).2.2 _ hc; unfold Dg at this; revert this; decide
  rw [splitOn_hit m1, splitOn_miss m2]
theorem head_ref {s w1 a b : List UInt8} (h : splitOn 32 s = [[115, 108, 105, 112], w1]) (h2 : splitOn 47 w1 = [a, b]) :
    headOf s = if numOk 1 a = true ∧ numOk 2 b = true ∧ (a.length = 1 ∨ byteAt a 0 ≠ 48) ∧ (b.length = 2 ∨ byteAt b 0 ≠ 48) then some ((val a : Int), (val b : Int)) else none := by
  have hj := join_split 32 s
  rw [h] at hj
  have hj2 := join_split 47 w1
  rw [h2] at hj2
  have m1 : (47 : UInt8) ∉ a := splitOn_no (l := w1) (by rw [h2]; simp)
  have e : s = slipW ++ (a ++ 47 :: b) := by rw [← hj, ← hj2]; rfl
  split
  · rename_i hh
    exact headOf_some ⟨a, b, e, hh.1, hh.2.1, hh.2.2.1, hh.2.2.2, rfl, rfl⟩
  · rename_i hh
    refine headOf_none fun y i ⟨a', b', e', n1, n2, n3, n4, _⟩ => hh ?_
    have e2 := List.append_cancel_left (e.symm.trans e')
    have m2 : (47 : UInt8) ∉ a' := fun hc => by have := (numOk_iff.1 n1).2.2 _ hc; unfold Dg at this; revert this; decide
    have := cutOn_hit (b := b) m1
    rw [e2, cutOn_hit m2] at this
    simp at this
    rw [← this.1, ← this.2]
    exact ⟨n1, n2, n3, n4⟩

/-! ### a line -/
/-- which word it is -/
def wordIx (a : List UInt8) : Option Nat := wordsL.findIdx? (· == a)
noncomputable def readOf (s : List UInt8) : Option Ln := match splitOn 32 s with
  | [a, b, c] => if b = [] then none else match wordIx a with
    | none => none
    | some k => if (parse c).2 = 0 then some ⟨k, b, (parse c).1⟩ else none
  | _ => none
noncomputable def readAll : List (List UInt8) → Option (List Ln)
  | [] => some []
  | s :: r => match readOf s with
    | none => none
    | some x => (readAll r).map (x :: ·)
theorem readAll_snoc : ∀ (l : List (List UInt8)) (s : List UInt8), readAll (l ++ [s]) = match readAll l with
    | none => none
    | some d => (readOf s).map fun x => d ++ [x]
  | [], s => by simp only [List.nil_append, readAll]; cases readOf s <;> rfl
  | a :: l, s => by
    rw [List.cons_append, readAll, readAll, readAll_snoc l s]
    cases readOf a with
    | none => rfl
    | some x => cases readAll l with
      | none => rfl
      | some d => cases readOf s <;> rfl
theorem readAll_none {l r : List (List UInt8)} {d : List Ln} {s : List UInt8} (h1 : readAll l = some d) (h2 : readOf s = none) : readAll (l ++ s :: r) = none := by
  induction l generalizing d with
  | nil => simp [readAll, h2]
  | cons a l ih =>
    rw [readAll] at h1
    cases ha : readOf a with
    | none => rw [ha] at h1; cases h1
    | some x =>
      rw [ha] at h1
      obtain ⟨e, he, _⟩ := Option.map_eq_some_iff.1 h1
      rw [List.cons_append, readAll, ha]
      simp only [ih he]; rfl
/-- the error, and the slip -/
noncomputable def parseS (t : List UInt8) : Int × Int × Int × List Ln :=
  if t = [] then (10, 0, 0, []) else
  match headOf ((splitOn 10 t).headD []) with
  | none => (3, 0, 0, [])
  | some (y, i) => if (splitOn 10 t).getLastD [] ≠ [] then (3, 0, 0, []) else
    match readAll (splitOn 10 t).tail.dropLast with
    | none => (3, 0, 0, [])
    | some l => if check y i l ≠ 0 then (check y i l, 0, 0, []) else (0, y, i, l)

end Wb
end Go.Proofs.YtpiedhjjpmmomaaDoor
