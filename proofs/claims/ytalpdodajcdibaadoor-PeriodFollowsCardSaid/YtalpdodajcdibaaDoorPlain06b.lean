/- Periods: the spans of a year, a year's periods, the period that has a day. No program in sight. -/
import Derived.Test.YtalpdodajcdibaaDoorPlain06
namespace Go.Proofs.YtalpdodajcdibaaDoor
namespace Wb

theorem aligned_one {n f lo : Int} {k : Nat} (h1 : -25567 ≤ lo + k) (h2 : (lo + k - f) % n = 0) : aligned n f lo (k + 1) = aligned n f lo k ++ [lo + k] := by
  rw [aligned, if_pos ⟨h1, h2⟩]
theorem aligned_none {n f lo : Int} {k : Nat} (h : ¬ (-25567 ≤ lo + k ∧ (lo + k - f) % n = 0)) : aligned n f lo (k + 1) = aligned n f lo k := by
  rw [aligned, if_neg h, List.append_nil]
theorem mem_aligned {n f lo d : Int} : ∀ {k : Nat}, d ∈ aligned n f lo k ↔ lo ≤ d ∧ d < lo + k ∧ -25567 ≤ d ∧ (d - f) % n = 0
  | 0 => by simp [aligned]; omega
  | k + 1 => by
    rw [aligned, List.mem_append, mem_aligned]
    by_cases h : -25567 ≤ lo + k ∧ (lo + k - f) % n = 0
    · rw [if_pos h, List.mem_singleton]
      constructor
      · rintro (⟨a, b, c, e⟩ | rfl)
        · exact ⟨a, by omega, c, e⟩
        · exact ⟨by omega, by omega, h.1, h.2⟩
      · rintro ⟨a, b, c, e⟩
        by_cases hd : d = lo + k
        · exact .inr hd
        · exact .inl ⟨a, by omega, c, e⟩
    · rw [if_neg h]
      constructor
      · rintro (⟨a, b, c, e⟩ | h)
        · exact ⟨a, by omega, c, e⟩
        · cases h
      · rintro ⟨a, b, c, e⟩
        refine .inl ⟨a, ?_, c, e⟩
        by_cases hd : d = lo + k
        · subst hd; exact absurd ⟨c, e⟩ h
        · omega
/-- between two aligned days there is none -/
theorem no_between {n f a : Int} (ha : (a - f) % n = 0) {i : Int} (h1 : 0 < i) (h2 : i < n) : (a + i - f) % n ≠ 0 := by
  rw [show a + i - f = (a - f) + i by omega, Int.add_emod, ha, Int.zero_add, Int.emod_emod, Int.emod_eq_of_lt (by omega) h2]
  omega
theorem aligned_step {n f a : Int} (ha : (a - f) % n = 0) : (a + n - f) % n = 0 := by
  rw [show a + n - f = (a - f) + n by omega, Int.add_emod, ha, Int.emod_self]; rfl
/-- the aligned day at or ahead of a day -/
def floorA (n f d : Int) : Int := d - (d - f) % n
theorem floorA_ok {n f d : Int} (hn : 0 < n) : (floorA n f d - f) % n = 0 ∧ floorA n f d ≤ d ∧ d < floorA n f d + n := by
  unfold floorA
  have h1 := Int.emod_nonneg (d - f) (show n ≠ 0 by omega)
  have h2 := Int.emod_lt_of_pos (d - f) hn
  refine ⟨?_, by omega, by omega⟩
  rw [show d - (d - f) % n - f = (d - f) - (d - f) % n by omega, Int.sub_emod, Int.emod_emod, Int.sub_self]; rfl
theorem floorA_self {n f d : Int} (h : (d - f) % n = 0) : floorA n f d = d := by unfold floorA; omega
theorem floorA_uniq {n f d a : Int} (hn : 0 < n) (ha : (a - f) % n = 0) (h1 : a ≤ d) (h2 : d < a + n) : floorA n f d = a := by
  obtain ⟨b1, b2, b3⟩ := floorA_ok (n := n) (f := f) (d := d) hn
  rcases Int.lt_trichotomy (floorA n f d) a with h | h | h
  · have := no_between b1 (i := a - floorA n f d) (by omega) (by omega)
    rw [show floorA n f d + (a - floorA n f d) = a by omega] at this
    exact absurd ha this
  · exact h
  · have := no_between ha (i := floorA n f d - a) (by omega) (by omega)
    rw [show a + (floorA n f d - a) = floorA n f d by omega] at this
    exact absurd b1 this

structure Cal where
  kind : Int
  first : Int
  lag : Int
structure Per where
  year : Int
  index : Int
  of : Int
  from_ : Int
  to_ : Int
  pay : Int
deriving DecidableEq
def calErr (c : Cal) : Int := if c.kind < 0 ∨ 2 < c.kind then 11 else if c.first < -25567 ∨ 84006 ≤ c.first then 15 else if c.lag < 0 ∨ 60 < c.lag then 2 else 0
def yl (y : Int) : Nat := (365 + lp y).toNat
def spansOf (c : Cal) (y : Int) : List (Int × Int) :=
  if c.kind = 0 then (List.range 12).map fun (j : Nat) => (beg y ((j : Int) + 1), beg y ((j : Int) + 2))
  else (aligned (14 * c.kind) c.first (beg y 1 - 14 * c.kind + 1) (yl y)).map fun d => (d, d + 14 * c.kind)
/-- the span of a period that has a day -/
def spanAt (c : Cal) (d y m : Int) : Int × Int :=
  if c.kind = 0 then (beg y m, beg y (m + 1)) else (floorA (14 * c.kind) c.first d, floorA (14 * c.kind) c.first d + 14 * c.kind)
def perOf (c : Cal) (y : Int) (n : Nat) (i : Nat) (s : Int × Int) : Per := ⟨y, i + 1, n, s.1, s.2, min (s.2 - 1 + c.lag) 84005⟩
def persFrom (c : Cal) (y : Int) (n : Nat) : Nat → List (Int × Int) → List Per
  | _, [] => []
  | i, s :: r => perOf c y n i s :: persFrom c y n (i + 1) r
def yearPers (c : Cal) (y : Int) : List Per := persFrom c y (spansOf c y).length 0 (spansOf c y)
theorem persFrom_get {c : Cal} {y : Int} {n : Nat} : ∀ {l : List (Int × Int)} {i j : Nat} {s : Int × Int}, l[j]? = some s → (persFrom c y n i l)[j]? = some (perOf c y n (i + j) s)
  | [], _, _, _, h => by simp at h
  | a :: r, i, 0, s, h => by simp at h; subst h; simp [persFrom]
  | a :: r, i, j + 1, s, h => by
    have := persFrom_get (c := c) (y := y) (n := n) (l := r) (i := i + 1) (j := j) (s := s) (by simpa using h)
    rw [persFrom, List.getElem?_cons_succ, this, show i + 1 + j = i + (j + 1) by omega]
theorem persFrom_len {c : Cal} {y : Int} {n : Nat} : ∀ (l : List (Int × Int)) (i : Nat), (persFrom c y n i l).length = l.length
  | [], _ => rfl
  | _ :: r, i => by rw [persFrom, List.length_cons, List.length_cons, persFrom_len r]
theorem persFrom_snoc {c : Cal} {y : Int} {n : Nat} : ∀ (l : List (Int × Int)) (i : Nat) (s : Int × Int), persFrom c y n i (l ++ [s]) = persFrom c y n i l ++ [perOf c y n (i + l.length) s]
  | [], i, s => by simp [persFrom]
  | a :: r, i, s => by
    rw [List.cons_append, persFrom, persFrom_snoc r (i + 1) s, persFrom, List.cons_append, List.length_cons, show i + 1 + r.length = i + (r.length + 1) by omega]

end Wb
end Go.Proofs.YtalpdodajcdibaaDoor
