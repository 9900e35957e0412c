/- Plain facts for chapter 29: lists of slips by their periods; all differences; what is added. -/
import Derived.Test.YtdfmlgjemfcmlaaPlain29d
import Derived.Test.YtdfmlgjemfcmlaaDel3
namespace Go.Proofs.Ytdfmlgjemfcmlaa
namespace Wb

def perS (s : Sl) : Int × Int := (s.y, s.i)
def ct (s : Sl) : Int × Int × List Ln := (s.y, s.i, s.l)
theorem pr_irrefl (p : Int × Int) : prLt p p = false := by
  rw [Bool.eq_false_iff]; intro h; rcases (prLt_iff _ _).1 h with q | q <;> omega
theorem pr_trans {a b c : Int × Int} (h : prLt a b = true) (k : prLt b c = true) : prLt a c = true := by
  rw [prLt_iff] at *; omega
theorem pr_total {a b : Int × Int} (h : prLt a b = false) (k : prLt b a = false) : a = b := by
  have h' : ¬ prLt a b = true := by rw [h]; decide
  have k' : ¬ prLt b a = true := by rw [k]; decide
  rw [prLt_iff] at h' k'
  obtain ⟨a1, a2⟩ := a
  obtain ⟨b1, b2⟩ := b
  simp only at h' k'
  have e1 : a1 = b1 := by omega
  have e2 : a2 = b2 := by omega
  rw [e1, e2]
theorem pr_asymm {a b : Int × Int} (h : prLt a b = true) : prLt b a = false := by
  rw [Bool.eq_false_iff]; intro k
  have := pr_trans h k
  rw [pr_irrefl] at this; cases this
theorem pr_ne {a b : Int × Int} (h : prLt a b = true) : a ≠ b := by
  rintro rfl; rw [pr_irrefl] at h; cases h

/-- what is wrong with slips, behind a period -/
def tabE : Option (Int × Int) → List Sl → Int
  | _, [] => 0
  | none, s :: r => if check s.y s.i s.l ≠ 0 then check s.y s.i s.l else tabE (some (perS s)) r
  | some q, s :: r => if check s.y s.i s.l ≠ 0 then check s.y s.i s.l else if prLt q (perS s) = false then 8 else tabE (some (perS s)) r
def listE (L : List Sl) : Int := if 4096 < L.length then 5 else tabE none L
def prevP (L : List Sl) (k : Nat) : Option (Int × Int) := if k = 0 then none else (L[k - 1]?).map perS
theorem prevP_succ {L : List Sl} {k : Nat} {x : Sl} (h : L[k]? = some x) : prevP L (k + 1) = some (perS x) := by simp [prevP, h]
theorem tab_bad {p : Option (Int × Int)} {s : Sl} {r : List Sl} (h : check s.y s.i s.l ≠ 0) : tabE p (s :: r) = check s.y s.i s.l := by cases p <;> rw [tabE, if_pos h]
theorem tab_first {s : Sl} {r : List Sl} (h : check s.y s.i s.l = 0) : tabE none (s :: r) = tabE (some (perS s)) r := by rw [tabE, if_neg (by omega)]
theorem tab_order {q : Int × Int} {s : Sl} {r : List Sl} (h : check s.y s.i s.l = 0) (k : prLt q (perS s) = false) : tabE (some q) (s :: r) = 8 := by rw [tabE, if_neg (by omega), if_pos k]
theorem tab_more {q : Int × Int} {s : Sl} {r : List Sl} (h : check s.y s.i s.l = 0) (k : prLt q (perS s) = true) : tabE (some q) (s :: r) = tabE (some (perS s)) r := by rw [tabE, if_neg (by omega), if_neg (by rw [k]; decide)]
def RiseP (L : List Sl) : Prop := L.Pairwise fun a b => prLt (perS a) (perS b) = true
theorem tab_ok : ∀ {L : List Sl} {p : Option (Int × Int)}, tabE p L = 0 → (∀ s ∈ L, check s.y s.i s.l = 0) ∧ RiseP L ∧ ∀ q, p = some q → ∀ s ∈ L, prLt q (perS s) = true
  | [], _, _ => ⟨(fun s hs => by cases hs), List.Pairwise.nil, fun q _ s hs => by cases hs⟩
  | x :: r, p, h => by
    by_cases hc : check x.y x.i x.l = 0
    case neg => rw [tab_bad hc] at h; exact absurd h hc
    have key : tabE (some (perS x)) r = 0 ∧ ∀ q, p = some q → prLt q (perS x) = true := by
      cases p with
      | none => rw [tab_first hc] at h; exact ⟨h, fun q e => by cases e⟩
      | some q =>
        by_cases k : prLt q (perS x) = true
        · rw [tab_more hc k] at h; exact ⟨h, fun q' e => by cases e; exact k⟩
        · rw [tab_order hc (by simpa using k)] at h; cases h
    obtain ⟨h1, h2, h3⟩ := tab_ok key.1
    have h4 := h3 _ rfl
    refine ⟨fun s hs => ?_, List.pairwise_cons.2 ⟨h4, h2⟩, fun q e s hs => ?_⟩
    · rcases List.mem_cons.1 hs with rfl | hs
      · exact hc
      · exact h1 s hs
    · rcases List.mem_cons.1 hs with rfl | hs
      · exact key.2 q e
      · exact pr_trans (key.2 q e) (h4 s hs)
theorem list_ok {L : List Sl} (h : listE L = 0) : L.length ≤ 4096 ∧ (∀ s ∈ L, check s.y s.i s.l = 0) ∧ RiseP L := by
  unfold listE at h
  split at h
  · cases h
  · rename_i hl
    obtain ⟨h1, h2, _⟩ := tab_ok h
    exact ⟨by omega, h1, h2⟩
theorem check_small {y i : Int} {l : List Ln} (h : check y i l = 0) : l.length ≤ 448 := (check_ok h).2.2.2.2.1

/-- the slip of a period -/
def findS (L : List Sl) (p : Int × Int) : Option Sl := L.find? fun s => decide (perS s = p)
theorem find_nil (p : Int × Int) : findS [] p = none := rfl
theorem find_mem {L : List Sl} {p : Int × Int} {s : Sl} (h : findS L p = some s) : s ∈ L ∧ perS s = p := ⟨List.mem_of_find?_eq_some h, by simpa using List.find?_some h⟩
theorem find_none {L : List Sl} {p : Int × Int} (h : findS L p = none) : ∀ s ∈ L, perS s ≠ p := fun s hs => by simpa using List.find?_eq_none.1 h s hs
theorem find_some {L : List Sl} (hr : RiseP L) {s : Sl} (hs : s ∈ L) : findS L (perS s) = some s := by
  induction L with
  | nil => cases hs
  | cons x r ih =>
    obtain ⟨h1, h2⟩ := List.pairwise_cons.1 hr
    rcases List.mem_cons.1 hs with rfl | hs
    · simp [findS, List.find?_cons]
    · have : ¬ perS x = perS s := pr_ne (h1 s hs)
      simp only [findS, List.find?_cons, this, decide_false]
      exact ih h2 hs
theorem find_app {T : List Sl} {x : Sl} {p : Int × Int} (h : ∀ s ∈ T, perS s ≠ perS x) : findS (T ++ [x]) p = if perS x = p then some x else findS T p := by
  unfold findS
  rw [List.find?_append]
  by_cases hp : perS x = p
  · rw [if_pos hp, List.find?_eq_none.2 (by intro s hs; simpa [← hp] using h s hs)]
    simp [hp]
  · rw [if_neg hp]
    simp [hp]
theorem rise_app {L : List Sl} (h : RiseP L) {k : Nat} {x : Sl} (hx : L[k]? = some x) : ∀ s ∈ L.take k, perS s ≠ perS x := by
  intro s hs
  obtain ⟨j, hj⟩ := List.getElem?_of_mem hs
  rw [List.getElem?_take] at hj
  split at hj
  · rename_i hjk
    obtain ⟨p1, p2⟩ := List.getElem?_eq_some_iff.1 hj
    obtain ⟨p3, p4⟩ := List.getElem?_eq_some_iff.1 hx
    have := List.pairwise_iff_getElem.1 h j k p1 p3 hjk
    rw [p2, p4] at this
    exact pr_ne this
  · cases hj
def conO : Option Sl → Int × Int × List Ln
  | none => (0, 0, [])
  | some s => ct s
def hasP (L : List Sl) (p : Int × Int) : Prop := ∃ s ∈ L, perS s = p
theorem hasP_find {L : List Sl} {p : Int × Int} : hasP L p ↔ (findS L p).isSome = true := by
  constructor
  · rintro ⟨s, hs, hp⟩
    rcases hf : findS L p with _ | t
    · exact absurd hp (find_none hf s hs)
    · rfl
  · intro h
    obtain ⟨s, hs⟩ := Option.isSome_iff_exists.1 h
    obtain ⟨h1, h2⟩ := find_mem hs
    exact ⟨s, h1, h2⟩
/-- the periods of two lists, rising -/
def PerOf (A B : List Sl) (r : List (Int × Int)) : Prop := (r.Pairwise fun a b => prLt a b = true) ∧ ∀ p, p ∈ r ↔ hasP A p ∨ hasP B p
theorem rise_uniq : ∀ {r t : List (Int × Int)}, (r.Pairwise fun a b => prLt a b = true) → (t.Pairwise fun a b => prLt a b = true) → (∀ p, p ∈ r ↔ p ∈ t) → r = t
  | [], [], _, _, _ => rfl
  | [], y :: t, _, _, h => by have := (h y).2 (by simp); cases this
  | x :: r, [], _, _, h => by have := (h x).1 (by simp); cases this
  | x :: r, y :: t, h1, h2, h => by
    obtain ⟨a1, a2⟩ := List.pairwise_cons.1 h1
    obtain ⟨b1, b2⟩ := List.pairwise_cons.1 h2
    have hxy : x = y := by
      rcases List.mem_cons.1 ((h x).1 (by simp)) with q | q
      · exact q
      rcases List.mem_cons.1 ((h y).2 (by simp)) with q2 | q2
      · exact q2.symm
      have := pr_trans (b1 x q) (a1 y q2)
      rw [pr_irrefl] at this; cases this
    subst hxy
    rw [rise_uniq a2 b2 fun p => ?_]
    constructor
    · intro hp
      rcases List.mem_cons.1 ((h p).1 (List.mem_cons_of_mem _ hp)) with q | q
      · have := a1 p hp; rw [q, pr_irrefl] at this; cases this
      · exact q
    · intro hp
      rcases List.mem_cons.1 ((h p).2 (List.mem_cons_of_mem _ hp)) with q | q
      · have := b1 p hp; rw [q, pr_irrefl] at this; cases this
      · exact q
theorem PerOf.uniq {A B : List Sl} {r t : List (Int × Int)} (h : PerOf A B r) (k : PerOf A B t) : r = t := rise_uniq h.1 k.1 fun p => by rw [h.2, k.2]

/-- all differences, behind some -/
def ofC (a b : Int × Int × List Ln) : Int × Int × Int × List Ln := ofF a.1 a.2.1 a.2.2 b.1 b.2.1 b.2.2
def allG (A B : List Sl) : List (Int × Int × List Ln) → List (Int × Int) → Int × List (Int × Int × List Ln)
  | acc, [] => (0, acc)
  | acc, p :: r => if (ofC (conO (findS A p)) (conO (findS B p))).1 ≠ 0 then ((ofC (conO (findS A p)) (conO (findS B p))).1, []) else allG A B (acc ++ [(ofC (conO (findS A p)) (conO (findS B p))).2]) r
theorem all_bad {A B : List Sl} {acc : List (Int × Int × List Ln)} {p : Int × Int} {r : List (Int × Int)} {E : Int} {c : Int × Int × List Ln} (h : ofC (conO (findS A p)) (conO (findS B p)) = (E, c)) (he : E ≠ 0) : allG A B acc (p :: r) = (E, []) := by
  rw [allG, h, if_pos he]
theorem all_more {A B : List Sl} {acc : List (Int × Int × List Ln)} {p : Int × Int} {r : List (Int × Int)} {c : Int × Int × List Ln} (h : ofC (conO (findS A p)) (conO (findS B p)) = (0, c)) : allG A B acc (p :: r) = allG A B (acc ++ [c]) r := by
  rw [allG, h, if_neg (by simp)]
/-- what differences are added to -/
def updS (st : Int × Int → List Ln) (p : Int × Int) (l : List Ln) : Int × Int → List Ln := fun q => if q = p then l else st q
def addG : (Int × Int → List Ln) → List Sl → Int × (Int × Int → List Ln)
  | st, [] => (0, st)
  | st, x :: r => if check x.y x.i x.l ≠ 0 then (check x.y x.i x.l, st)
    else if (merge x.y x.i (st (perS x)) x.y x.i x.l).1 ≠ 0 then ((merge x.y x.i (st (perS x)) x.y x.i x.l).1, st)
    else addG (updS st (perS x) (merge x.y x.i (st (perS x)) x.y x.i x.l).2.2.2) r
theorem add_bad {st : Int × Int → List Ln} {x : Sl} {r : List Sl} (h : check x.y x.i x.l ≠ 0) : addG st (x :: r) = (check x.y x.i x.l, st) := by rw [addG, if_pos h]
theorem add_ill {st : Int × Int → List Ln} {x : Sl} {r : List Sl} {E : Int} {c : Int × Int × List Ln} (h : check x.y x.i x.l = 0) (k : merge x.y x.i (st (perS x)) x.y x.i x.l = (E, c)) (he : E ≠ 0) : addG st (x :: r) = (E, st) := by
  rw [addG, if_neg (by omega), k, if_pos he]
theorem add_more {st : Int × Int → List Ln} {x : Sl} {r : List Sl} {c : Int × Int × List Ln} (h : check x.y x.i x.l = 0) (k : merge x.y x.i (st (perS x)) x.y x.i x.l = (0, c)) : addG st (x :: r) = addG (updS st (perS x) c.2.2) r := by
  rw [addG, if_neg (by omega), k, if_neg (by simp)]
def linesO : Option Sl → List Ln
  | none => []
  | some s => s.l
def startS (A : List Sl) : Int × Int → List Ln := fun p => linesO (findS A p)
theorem merge_per {y i y' i' Y I : Int} {a b l : List Ln} (h : merge y i a y' i' b = (0, Y, I, l)) : Y = y ∧ I = i := by
  unfold merge at h
  split at h
  · rename_i h1; simp only [Prod.mk.injEq] at h; exact absurd h.1 h1
  split at h
  · rename_i h1; simp only [Prod.mk.injEq] at h; exact absurd h.1 h1
  split at h
  · simp at h
  split at h
  · simp at h
  split at h
  · simp at h
  · simp only [Prod.mk.injEq] at h; exact ⟨h.2.1.symm, h.2.2.1.symm⟩

/-! ### what sorting and compacting come to -/
def cpt : List (Int × Int) → List (Int × Int)
  | [] => []
  | [x] => [x]
  | x :: y :: r => if x = y then cpt (y :: r) else x :: cpt (y :: r)
theorem cpt_mem : ∀ {l : List (Int × Int)} {p : Int × Int}, p ∈ cpt l ↔ p ∈ l
  | [], p => by simp [cpt]
  | [x], p => by simp [cpt]
  | x :: y :: r, p => by
    rw [cpt]
    split
    · rename_i h; subst h; rw [cpt_mem]; simp
    · rw [List.mem_cons, cpt_mem, ← List.mem_cons]
theorem cpt_rise : ∀ {l : List (Int × Int)}, (l.Pairwise fun a b => prLt b a = false) → (cpt l).Pairwise fun a b => prLt a b = true
  | [], _ => List.Pairwise.nil
  | [x], _ => List.pairwise_singleton _ _
  | x :: y :: r, h => by
    obtain ⟨h1, h2⟩ := List.pairwise_cons.1 h
    obtain ⟨h3, _⟩ := List.pairwise_cons.1 h2
    rw [cpt]
    split
    · exact cpt_rise h2
    · rename_i hne
      refine List.pairwise_cons.2 ⟨fun z hz => ?_, cpt_rise h2⟩
      have hxy : prLt x y = true := by
        rcases hb : prLt x y with _ | _
        · exact absurd (pr_total hb (h1 y (by simp))) hne
        · rfl
      rcases List.mem_cons.1 (cpt_mem.1 hz) with rfl | hz
      · exact hxy
      · rcases hb : prLt y z with _ | _
        · rw [← pr_total hb (h3 z hz)]; exact hxy
        · exact pr_trans hxy hb
theorem per_of {A B : List Sl} {l : List (Int × Int)} (h : l.Pairwise fun a b => prLt b a = false) (k : ∀ p, p ∈ l ↔ hasP A p ∨ hasP B p) : PerOf A B (cpt l) := ⟨cpt_rise h, fun p => by rw [cpt_mem, k]⟩

end Wb
end Go.Proofs.Ytdfmlgjemfcmlaa
