/- Plain facts for chapter 05: how many days, pieces. No program in sight. -/
import Derived.Test.YtdckghdmopafpaaPlain05b
namespace Go.Proofs.Ytdckghdmopafpaa
namespace Wb

/-! ### how many days -/
def ind (b : Bool) : Int := if b then 1 else 0
def cnt (p : Int → Bool) (lo : Int) : Nat → Int
  | 0 => 0
  | n + 1 => cnt p lo n + ind (p (lo + n))
theorem cnt_add {p q r s : Int → Bool} (h : ∀ d, ind (p d) + ind (q d) = ind (r d) + ind (s d)) (lo : Int) : ∀ n, cnt p lo n + cnt q lo n = cnt r lo n + cnt s lo n
  | 0 => rfl
  | n + 1 => by have := cnt_add h lo n; have := h (lo + n); simp only [cnt]; omega
theorem cnt_false (lo : Int) : ∀ n, cnt (fun _ => false) lo n = 0
  | 0 => rfl
  | n + 1 => by rw [cnt, cnt_false lo n]; rfl
theorem cnt_congr {p q : Int → Bool} (h : ∀ d, p d = q d) (lo : Int) (n : Nat) : cnt p lo n = cnt q lo n := by rw [show p = q from funext h]
theorem cnt_le (p : Int → Bool) (lo : Int) : ∀ n, 0 ≤ cnt p lo n ∧ cnt p lo n ≤ n
  | 0 => ⟨Int.le_refl _, Int.le_refl _⟩
  | n + 1 => by have := cnt_le p lo n; simp only [cnt, ind]; split <;> omega
def inSB (s : Sp) (d : Int) : Bool := decide (s.1 ≤ d) && decide (d < s.2)
theorem cnt_in (s : Sp) (lo : Int) (h1 : lo ≤ s.1) (h2 : s.1 ≤ s.2) : ∀ n : Nat, cnt (inSB s) lo n = min s.2 (max (lo + n) s.1) - s.1
  | 0 => by simp only [cnt]; omega
  | n + 1 => by
    have := cnt_in s lo h1 h2 n
    simp only [cnt, this, inSB, ind]
    by_cases k1 : s.1 ≤ lo + n <;> by_cases k2 : lo + n < s.2 <;> simp [k1, k2] <;> omega
def sumL (l : List Sp) : Int := l.foldl (fun n s => n + (s.2 - s.1)) 0
theorem sumL_snoc (l : List Sp) (s : Sp) : sumL (l ++ [s]) = sumL l + (s.2 - s.1) := by rw [sumL, sumL, List.foldl_append]; rfl
theorem hasL_snoc (l : List Sp) (s : Sp) (d : Int) : hasL (l ++ [s]) d = (hasL l d || inSB s d) := by simp [hasL, inSB]
theorem sum_cnt {lo : Int} {n : Nat} (l : List Sp) (hc : Canon l) (hb : ∀ s ∈ l, lo ≤ s.1 ∧ s.2 ≤ lo + n) : sumL l = cnt (hasL l) lo n := by
  induction l using snocI with
  | h0 => rw [show hasL [] = fun _ => false from rfl, cnt_false]; rfl
  | h1 l s ih =>
    obtain ⟨c1, c2⟩ := hc
    obtain ⟨p1, _, p3⟩ := List.pairwise_append.1 c2
    have := ih ⟨fun x hx => c1 x (List.mem_append_left _ hx), p1⟩ fun x hx => hb x (List.mem_append_left _ hx)
    have hs := c1 s (by simp)
    obtain ⟨b1, b2⟩ := hb s (by simp)
    have hi := cnt_in s lo b1 (by omega) n
    have ha := cnt_add (p := hasL l) (q := inSB s) (r := hasL (l ++ [s])) (s := fun _ => false) (fun d => by
      rw [hasL_snoc]
      rcases hx : hasL l d with _ | _ <;> rcases hy : inSB s d with _ | _
      · rfl
      · rfl
      · rfl
      · obtain ⟨x, hx1, hx2⟩ := hasL_iff.1 hx
        have := p3 x hx1 s (by simp)
        simp [inSB] at hy
        have := hx2.2
        omega) lo n
    rw [cnt_false] at ha
    rw [sumL_snoc, this]
    omega
/-- a canonical set whose days are others' lies where they lie -/
theorem canon_within {r : List Sp} {p : Int → Prop} (hc : Canon r) (hm : ∀ d, memL r d ↔ p d) {lo hi : Int} (hp : ∀ d, p d → lo ≤ d ∧ d < hi) : ∀ s ∈ r, lo ≤ s.1 ∧ s.2 ≤ hi := fun s hs => by
  have h0 := hc.1 s hs
  have h1 := hp _ ((hm s.1).1 ⟨s, hs, Int.le_refl _, h0⟩)
  have h2 := hp _ ((hm (s.2 - 1)).1 ⟨s, hs, by simp only [inS]; omega⟩)
  omega
theorem memL_within {a : List Sp} {lo hi : Int} (h : ∀ s ∈ a, lo ≤ s.1 ∧ s.2 ≤ hi) {d : Int} (hd : memL a d) : lo ≤ d ∧ d < hi := by
  obtain ⟨s, hs, hin⟩ := hd
  have := h s hs
  have := hin.1
  have := hin.2
  omega

/-! ### pairs of days, one behind the other -/
theorem pairs_at : ∀ {E : List Int} {i : Nat} {p : Sp}, (pairsL E)[i]? = some p → E[i]? = some p.1 ∧ E[i + 1]? = some p.2
  | [], _, _, h => by simp [pairsL] at h
  | [a], _, _, h => by simp [pairsL] at h
  | a :: b :: r, 0, p, h => by simp [pairsL] at h; subst h; simp
  | a :: b :: r, i + 1, p, h => by
    have := pairs_at (E := b :: r) (i := i) (p := p) (by simpa [pairsL] using h)
    simpa using this
theorem sum_pairs (l : List Int) (a : Int) : ∀ b, (l ++ [a]).head? = some b → sumL (pairsL (l ++ [a])) = a - b := by
  induction l using snocI generalizing a with
  | h0 => intro b h; simp at h; subst h; simp [pairsL, sumL]
  | h1 l c ih =>
    intro b h
    rw [pairs_snoc, sumL_snoc, ih c b (by rcases l with _ | ⟨x, r⟩ <;> simpa using h)]
    simp only; omega

/-! ### the set of a span's pieces -/
theorem memL_pairs {E : List Int} {x y : Int} (hu : Up (x :: E ++ [y])) (d : Int) : memL (pairsL (x :: E ++ [y])) d ↔ x ≤ d ∧ d < y := by
  constructor
  · rintro ⟨p, hp, hin⟩
    obtain ⟨h1, h2⟩ := pairsL_fst hp
    have k1 := hin.1
    have k2 := hin.2
    obtain ⟨q1, q2⟩ := List.pairwise_cons.1 hu
    have a1 : x ≤ p.1 := by
      rcases List.mem_cons.1 h1 with q | q
      · omega
      · exact Int.le_of_lt (q1 _ q)
    have a2 : p.2 ≤ y := by
      rcases List.mem_append.1 h2 with q | q
      · exact Int.le_of_lt ((List.pairwise_append.1 hu).2.2 _ q y (by simp))
      · simp at q; omega
    omega
  · rintro ⟨h1, h2⟩
    exact pairsL_find (x := x) (y := y) (by simp) (by simp) h1 h2 hu

end Wb
end Go.Proofs.Ytdckghdmopafpaa
