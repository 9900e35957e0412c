/- Plain facts for chapter 05: days that rise, put into one another; the document's way of taking two sets together. No program in sight. -/
import Derived.Test.YtdckghdmopafpaaPlain05
namespace Go.Proofs.Ytdckghdmopafpaa
namespace Wb

/-- days that rise, of the same members, are the same -/
theorem up_uniq : ∀ {a b : List Int}, Up a → Up b → (∀ x, x ∈ a ↔ x ∈ b) → a = b
  | [], [], _, _, _ => rfl
  | [], y :: s, _, _, h => absurd ((h y).2 (by simp)) (by simp)
  | x :: r, [], _, _, h => absurd ((h x).1 (by simp)) (by simp)
  | x :: r, y :: s, ha, hb, h => by
    obtain ⟨a1, a2⟩ := List.pairwise_cons.1 ha
    obtain ⟨b1, b2⟩ := List.pairwise_cons.1 hb
    have e : x = y := by
      rcases List.mem_cons.1 ((h x).1 (by simp)) with q | q
      · exact q
      · rcases List.mem_cons.1 ((h y).2 (by simp)) with k | k
        · exact k.symm
        · have := b1 x q; have := a1 y k; omega
    subst e
    rw [up_uniq a2 b2 fun z => ?_]
    constructor
    · intro hz
      rcases List.mem_cons.1 ((h z).1 (List.mem_cons_of_mem _ hz)) with q | q
      · subst q; have := a1 z hz; omega
      · exact q
    · intro hz
      rcases List.mem_cons.1 ((h z).2 (List.mem_cons_of_mem _ hz)) with q | q
      · subst q; have := b1 z hz; omega
      · exact q
/-- where a day is put -/
theorem up_put {l : List Int} {d : Int} {k : Nat} (hu : Up l) (h1 : ∀ t x, l[t]? = some x → t < k → x < d) (h2 : ∀ t x, l[t]? = some x → k ≤ t → d < x) : Up (l.take k ++ [d] ++ l.drop k) ∧ ∀ x, x ∈ l.take k ++ [d] ++ l.drop k ↔ x ∈ l ∨ x = d := by
  have hd : ∀ x ∈ l.drop k, d < x := fun x hx => by
    obtain ⟨t, ht⟩ := List.getElem?_of_mem hx
    rw [List.getElem?_drop] at ht
    exact h2 _ _ ht (by omega)
  have ht : ∀ x ∈ l.take k, x < d := fun x hx => by
    obtain ⟨t, ht⟩ := List.getElem?_of_mem hx
    rw [List.getElem?_take] at ht
    split at ht
    · exact h1 _ _ ht (by omega)
    · cases ht
  have hp : (l.take k ++ l.drop k).Pairwise (· < ·) := by rw [List.take_append_drop]; exact hu
  obtain ⟨p1, p2, p3⟩ := List.pairwise_append.1 hp
  refine ⟨List.pairwise_append.2 ⟨List.pairwise_append.2 ⟨p1, List.pairwise_singleton _ _, fun x hx y hy => ?_⟩, p2, fun x hx y hy => ?_⟩, fun x => ?_⟩
  · simp at hy; subst hy; exact ht x hx
  · rcases List.mem_append.1 hx with q | q
    · exact p3 x q y hy
    · simp at q; subst q; exact hd y hy
  · rw [List.mem_append, List.mem_append, List.mem_singleton]
    have : x ∈ l ↔ x ∈ l.take k ∨ x ∈ l.drop k := by rw [← List.mem_append, List.take_append_drop]
    rw [this]
    constructor
    · rintro ((h | h) | h)
      · exact .inl (.inl h)
      · exact .inr h
      · exact .inl (.inr h)
    · rintro ((h | h) | h)
      · exact .inl (.inl h)
      · exact .inr h
      · exact .inl (.inr h)

/-- a round of the document's: a span opened, one closed -/
def stepT (kp : Int → Bool) (st : List Sp × Bool) (e : Int) : List Sp × Bool :=
  (if kp e && !st.2 then st.1 ++ [(e, 0)] else if !kp e && st.2 then st.1.dropLast ++ [((st.1.getLastD (0, 0)).1, e)] else st.1, kp e)
def tog (kp : Int → Bool) (l : List Int) : List Sp × Bool := l.foldl (stepT kp) ([], false)
theorem tog_snoc (kp : Int → Bool) (l : List Int) (e : Int) : tog kp (l ++ [e]) = stepT kp (tog kp l) e := by rw [tog, tog, List.foldl_append]; rfl
theorem tog_take {kp : Int → Bool} {l : List Int} {k : Nat} {e : Int} (h : l[k]? = some e) : tog kp (l.take (k + 1)) = stepT kp (tog kp (l.take k)) e := by
  obtain ⟨h1, rfl⟩ := List.getElem?_eq_some_iff.1 h
  rw [List.take_succ_eq_append_getElem h1, tog_snoc]
theorem stepT_open {kp : Int → Bool} {r : List Sp} {e : Int} (h : kp e = true) : stepT kp (r, false) e = (r ++ [(e, 0)], true) := by simp [stepT, h]
theorem stepT_on {kp : Int → Bool} {r : List Sp} {e : Int} (h : kp e = true) : stepT kp (r, true) e = (r, true) := by simp [stepT, h]
theorem stepT_close {kp : Int → Bool} {p : List Sp} {x : Sp} {e : Int} (h : kp e = false) : stepT kp (p ++ [x], true) e = (p ++ [(x.1, e)], false) := by simp [stepT, h]
theorem stepT_off {kp : Int → Bool} {r : List Sp} {e : Int} (h : kp e = false) : stepT kp (r, false) e = (r, false) := by simp [stepT, h]
/-- one that is open has a last span -/
theorem tog_ne (kp : Int → Bool) (l : List Int) : (tog kp l).2 = true → ∃ p f, (tog kp l).1 = p ++ [(f, 0)] := by
  induction l using snocI with
  | h0 => intro h; cases h
  | h1 l e ih =>
    rw [tog_snoc]
    obtain ⟨⟨r, o⟩, hro⟩ : ∃ R, tog kp l = R := ⟨_, rfl⟩
    rw [hro] at ih ⊢
    intro h
    have hk : kp e = true := h
    cases o
    · rw [stepT_open hk]; exact ⟨r, e, rfl⟩
    · rw [stepT_on hk]; exact ih rfl
theorem tog_len (kp : Int → Bool) (l : List Int) : (tog kp l).1.length ≤ l.length := by
  induction l using snocI with
  | h0 => exact Nat.le_refl _
  | h1 l e ih =>
    rw [tog_snoc]
    have hn := tog_ne kp l
    obtain ⟨⟨r, o⟩, hro⟩ : ∃ R, tog kp l = R := ⟨_, rfl⟩
    rw [hro] at ih hn ⊢
    simp only at ih hn
    rcases hk : kp e with _ | _ <;> cases o
    · rw [stepT_off hk]; simp; omega
    · obtain ⟨p, f, rfl⟩ := hn rfl
      rw [stepT_close hk]; simp at ih ⊢; omega
    · rw [stepT_open hk]; simp; omega
    · rw [stepT_on hk]; simp; omega

/-- what is kept of the pairs up to the one that begins at a day -/
def keptP (kp : Int → Bool) (E : List Int) : List Sp := foldJ ((pairsL E).filter fun p => kp p.1)
theorem pairs_snoc : ∀ (l : List Int) (a b : Int), pairsL (l ++ [a] ++ [b]) = pairsL (l ++ [a]) ++ [(a, b)]
  | [], a, b => rfl
  | [x], a, b => rfl
  | x :: y :: r, a, b => by
    have := pairs_snoc (y :: r) a b
    simp only [List.cons_append, pairsL] at this ⊢
    rw [this]
theorem keptP_snoc (kp : Int → Bool) (l : List Int) (a b : Int) : keptP kp (l ++ [a] ++ [b]) = if kp a then joinL (keptP kp (l ++ [a])) (a, b) else keptP kp (l ++ [a]) := by
  rw [keptP, keptP, pairs_snoc, List.filter_append]
  by_cases h : kp a = true
  · rw [if_pos h, ← foldJ_snoc]; simp [h]
  · simp [h]
/-- the document's state, behind a day: what is kept of the pairs behind it -/
theorem tog_kept {kp : Int → Bool} (l : List Int) (a b : Int) (hu : Up (l ++ [a] ++ [b])) :
    ((tog kp (l ++ [a])).2 = false → keptP kp (l ++ [a] ++ [b]) = (tog kp (l ++ [a])).1 ∧ ∀ x ∈ (tog kp (l ++ [a])).1, x.2 < b) ∧
    ((tog kp (l ++ [a])).2 = true → ∃ p f, (tog kp (l ++ [a])).1 = p ++ [(f, 0)] ∧ f ≤ a ∧ keptP kp (l ++ [a] ++ [b]) = p ++ [(f, b)] ∧ ∀ x ∈ p, x.2 < b) := by
  induction l using snocI generalizing a b with
  | h0 =>
    have hab : a < b := by simpa [Up] using hu
    rcases hk : kp a with _ | _
    · have e : tog kp ([] ++ [a]) = ([], false) := by rw [tog_snoc]; exact stepT_off hk
      have e2 : keptP kp ([] ++ [a] ++ [b]) = [] := by simp [keptP, pairsL, hk, foldJ]
      rw [e, e2]
      exact ⟨fun _ => ⟨rfl, fun x hx => by cases hx⟩, fun h => by cases h⟩
    · have e : tog kp ([] ++ [a]) = ([] ++ [(a, 0)], true) := by rw [tog_snoc]; exact stepT_open hk
      have e2 : keptP kp ([] ++ [a] ++ [b]) = [] ++ [(a, b)] := by simp [keptP, pairsL, hk, foldJ]; exact joinL_nil hab
      rw [e, e2]
      exact ⟨(fun h => by cases h), fun _ => ⟨[], a, rfl, Int.le_refl _, rfl, fun x hx => by cases hx⟩⟩
  | h1 l c ih =>
    have hu' : Up (l ++ [c] ++ [a]) := (List.pairwise_append.1 hu).1
    have hab : a < b := (List.pairwise_append.1 hu).2.2 a (by simp) b (by simp)
    have hca : c < a := (List.pairwise_append.1 hu').2.2 c (by simp) a (by simp)
    obtain ⟨i1, i2⟩ := ih c a hu'
    rw [tog_snoc, keptP_snoc]
    obtain ⟨⟨r, o⟩, hro⟩ : ∃ R, tog kp (l ++ [c]) = R := ⟨_, rfl⟩
    rw [hro] at i1 i2 ⊢
    rcases hk : kp a with _ | _ <;> cases o
    · obtain ⟨j1, j2⟩ := i1 rfl
      rw [stepT_off hk]
      exact ⟨fun _ => ⟨by simpa using j1, fun x hx => by have := j2 x hx; omega⟩, fun h => by cases h⟩
    · obtain ⟨p, f, j1, j2, j3, j4⟩ := i2 rfl
      simp only at j1
      subst j1
      rw [stepT_close hk]
      refine ⟨fun _ => ⟨by simpa using j3, fun x hx => ?_⟩, fun h => by cases h⟩
      rcases List.mem_append.1 hx with q | q
      · have := j4 x q; omega
      · simp at q; subst q; exact hab
    · obtain ⟨j1, j2⟩ := i1 rfl
      rw [stepT_open hk]
      refine ⟨(fun h => by cases h), fun _ => ⟨r, a, rfl, Int.le_refl _, ?_, fun x hx => by have := j2 x hx; omega⟩⟩
      rw [if_pos rfl, j1]
      simp only at j2 ⊢
      rcases List.eq_nil_or_concat r with rfl | ⟨p, x, hx⟩
      · exact joinL_nil hab
      · rw [List.concat_eq_append] at hx
        subst hx
        exact joinL_apart hab (j2 x (by simp))
    · obtain ⟨p, f, j1, j2, j3, j4⟩ := i2 rfl
      simp only at j1
      subst j1
      rw [stepT_on hk]
      refine ⟨(fun h => by cases h), fun _ => ⟨p, f, rfl, by omega, ?_, fun x hx => by have := j4 x hx; omega⟩⟩
      rw [if_pos rfl, j3, joinL_touch hab (by simp)]
      simp only
      rw [Int.max_eq_right (by omega)]
/-- in the end it is the set, where nothing is kept at the last day -/
theorem tog_all {kp : Int → Bool} {E : List Int} (hu : Up E) (hl : ∀ e, E.getLast? = some e → kp e = false) : (tog kp E).1 = walkL E kp := by
  rcases List.eq_nil_or_concat E with rfl | ⟨p, b, hb⟩
  · rfl
  rw [List.concat_eq_append] at hb
  subst hb
  have hk : kp b = false := hl b (by simp)
  rcases List.eq_nil_or_concat p with rfl | ⟨q, a, ha⟩
  · rw [tog_snoc]
    show (stepT kp ([], false) b).1 = _
    rw [stepT_off hk]; rfl
  rw [List.concat_eq_append] at ha
  subst ha
  obtain ⟨h1, h2⟩ := tog_kept (kp := kp) q a b hu
  rw [tog_snoc]
  show _ = keptP kp _
  obtain ⟨⟨r, o⟩, hro⟩ : ∃ R, tog kp (q ++ [a]) = R := ⟨_, rfl⟩
  rw [hro] at h1 h2 ⊢
  cases o
  · rw [stepT_off hk]; exact (h1 rfl).1.symm
  · obtain ⟨p, f, e1, _, e2, _⟩ := h2 rfl
    simp only at e1
    subst e1
    rw [stepT_close hk, e2]

/-- the days at which spans that have a day begin or end -/
def EndsOf (l : List Sp) (E : List Int) : Prop := Up E ∧ ∀ x, x ∈ E ↔ ∃ s ∈ l, s.1 < s.2 ∧ (x = s.1 ∨ x = s.2)
/-- at the last of them nothing is left -/
theorem ends_last {l : List Sp} {E : List Int} (h : EndsOf l E) {e : Int} (he : E.getLast? = some e) : hasL l e = false := by
  rcases List.eq_nil_or_concat E with rfl | ⟨p, b, hb⟩
  · cases he
  rw [List.concat_eq_append] at hb
  subst hb
  simp at he
  subst he
  rw [Bool.eq_false_iff]
  intro hh
  obtain ⟨s, hs, hin⟩ := hasL_iff.1 hh
  have h1 := hin.1
  have h2 := hin.2
  have := (h.2 s.2).2 ⟨s, hs, by omega, .inr rfl⟩
  rcases List.mem_append.1 this with q | q
  · have := (List.pairwise_append.1 h.1).2.2 _ q b (by simp); omega
  · simp at q; omega
theorem hasL_sub {a l : List Sp} (h : ∀ s ∈ a, s ∈ l) {e : Int} (k : hasL l e = false) : hasL a e = false := by
  rw [Bool.eq_false_iff] at k ⊢
  exact fun q => k (by obtain ⟨s, hs, hin⟩ := hasL_iff.1 q; exact hasL_iff.2 ⟨s, h s hs, hin⟩)
/-- what the document's Together comes to -/
theorem together_ok {a b : List Sp} {E : List Int} (h : EndsOf (a ++ b) E) {keep : Bool → Bool → Bool} (h0 : keep false false = false) {r : List Sp}
    (hr : r = (tog (fun d => keep (hasL a d) (hasL b d)) E).1) : Canon r ∧ ∀ d, memL r d ↔ keep (hasL a d) (hasL b d) = true := by
  rw [hr, tog_all h.1 fun e he => by
    have := ends_last h he
    rw [hasL_sub (fun s hs => List.mem_append_left _ hs) this, hasL_sub (fun s hs => List.mem_append_right _ hs) this, h0]]
  exact walkL_two h.1 (fun s hs hl => ⟨(h.2 _).2 ⟨s, List.mem_append_left _ hs, hl, .inl rfl⟩, (h.2 _).2 ⟨s, List.mem_append_left _ hs, hl, .inr rfl⟩⟩)
    (fun s hs hl => ⟨(h.2 _).2 ⟨s, List.mem_append_right _ hs, hl, .inl rfl⟩, (h.2 _).2 ⟨s, List.mem_append_right _ hs, hl, .inr rfl⟩⟩) h0

end Wb
end Go.Proofs.Ytdckghdmopafpaa
