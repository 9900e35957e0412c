/- Plain facts for chapter 05: spans, sets of days, their one canonical form. No program in sight. -/
namespace Go.Proofs.Ytheofklbmknipaa
namespace Wb

abbrev Sp := Int × Int
def inS (s : Sp) (d : Int) : Prop := s.1 ≤ d ∧ d < s.2
def memL (l : List Sp) (d : Int) : Prop := ∃ s ∈ l, inS s d
theorem memL_nil (d : Int) : ¬ memL [] d := fun ⟨_, h, _⟩ => by cases h
theorem memL_cons {s : Sp} {l : List Sp} {d : Int} : memL (s :: l) d ↔ inS s d ∨ memL l d := by simp [memL]
theorem memL_app {a b : List Sp} {d : Int} : memL (a ++ b) d ↔ memL a d ∨ memL b d := by
  constructor
  · rintro ⟨s, h, hs⟩
    rcases List.mem_append.1 h with q | q
    · exact .inl ⟨s, q, hs⟩
    · exact .inr ⟨s, q, hs⟩
  · rintro (⟨s, h, hs⟩ | ⟨s, h, hs⟩)
    · exact ⟨s, List.mem_append_left _ h, hs⟩
    · exact ⟨s, List.mem_append_right _ h, hs⟩
theorem memL_one {s : Sp} {d : Int} : memL [s] d ↔ inS s d := by simp [memL]
theorem memL_perm {a b : List Sp} (h : a.Perm b) (d : Int) : memL a d ↔ memL b d :=
  ⟨fun ⟨s, hs, k⟩ => ⟨s, h.mem_iff.1 hs, k⟩, fun ⟨s, hs, k⟩ => ⟨s, h.mem_iff.2 hs, k⟩⟩

/-- spans that rise, and neither meet nor touch -/
def Canon (l : List Sp) : Prop := (∀ s ∈ l, s.1 < s.2) ∧ l.Pairwise (fun a b => a.2 < b.1)
theorem Canon.nil : Canon [] := ⟨(fun _ h => by cases h), List.Pairwise.nil⟩
theorem Canon.tail {s : Sp} {l : List Sp} (h : Canon (s :: l)) : Canon l := ⟨fun x hx => h.1 x (List.mem_cons_of_mem _ hx), (List.pairwise_cons.1 h.2).2⟩
theorem Canon.head {s : Sp} {l : List Sp} (h : Canon (s :: l)) : s.1 < s.2 ∧ ∀ x ∈ l, s.2 < x.1 := ⟨h.1 s (by simp), (List.pairwise_cons.1 h.2).1⟩
theorem Canon.mem_tail {s : Sp} {l : List Sp} (h : Canon (s :: l)) (d : Int) : memL l d ↔ memL (s :: l) d ∧ s.2 < d := by
  rw [memL_cons]
  constructor
  · rintro ⟨x, hx, hd⟩
    have := h.head.2 x hx
    exact ⟨.inr ⟨x, hx, hd⟩, by have := hd.1; omega⟩
  · rintro ⟨q | q, hd⟩
    · have := q.2; omega
    · exact q
theorem Canon.min {s : Sp} {l : List Sp} (h : Canon (s :: l)) {d : Int} (hd : memL (s :: l) d) : s.1 ≤ d := by
  rcases memL_cons.1 hd with q | ⟨x, hx, q⟩
  · exact q.1
  · have := h.head.2 x hx; have := h.head.1; have := q.1; omega
theorem Canon.first {s : Sp} {l : List Sp} (h : Canon (s :: l)) : memL (s :: l) s.1 := memL_cons.2 (.inl ⟨Int.le_refl _, h.head.1⟩)
theorem Canon.gap {s : Sp} {l : List Sp} (h : Canon (s :: l)) : ¬ memL (s :: l) s.2 := by
  intro k
  rcases memL_cons.1 k with q | ⟨x, hx, q⟩
  · have := q.2; omega
  · have := h.head.2 x hx; have := q.1; omega
/-- one form for each set of days -/
theorem canon_uniq : ∀ {a b : List Sp}, Canon a → Canon b → (∀ d, memL a d ↔ memL b d) → a = b
  | [], [], _, _, _ => rfl
  | [], t :: q, _, hb, h => absurd ((h _).2 hb.first) (memL_nil _)
  | s :: r, [], ha, _, h => absurd ((h _).1 ha.first) (memL_nil _)
  | s :: r, t :: q, ha, hb, h => by
    have e1 : s.1 = t.1 := by
      have h1 := hb.min ((h _).1 ha.first)
      have h2 := ha.min ((h _).2 hb.first)
      omega
    have l1 := ha.head.1
    have l2 := hb.head.1
    have e2 : s.2 = t.2 := by
      rcases Int.lt_trichotomy s.2 t.2 with k | k | k
      · exact absurd ((h _).2 (memL_cons.2 (.inl ⟨by omega, k⟩))) ha.gap
      · exact k
      · exact absurd ((h _).1 (memL_cons.2 (.inl ⟨by omega, k⟩))) hb.gap
    have e : s = t := Prod.ext e1 e2
    subst e
    rw [canon_uniq ha.tail hb.tail fun d => by rw [ha.mem_tail, hb.mem_tail, h]]

/-- a span put behind others that begin no later -/
def joinL (l : List Sp) (s : Sp) : List Sp :=
  if s.2 ≤ s.1 then l else match l.getLast? with
  | some x => if s.1 ≤ x.2 then l.dropLast ++ [(x.1, max x.2 s.2)] else l ++ [s]
  | none => l ++ [s]
theorem joinL_empty {l : List Sp} {s : Sp} (h : s.2 ≤ s.1) : joinL l s = l := by rw [joinL, if_pos h]
theorem joinL_nil {s : Sp} (h : s.1 < s.2) : joinL [] s = [s] := by rw [joinL, if_neg (by omega)]; rfl
theorem joinL_touch {p : List Sp} {x s : Sp} (h : s.1 < s.2) (k : s.1 ≤ x.2) : joinL (p ++ [x]) s = p ++ [(x.1, max x.2 s.2)] := by
  rw [joinL, if_neg (by omega)]; simp [k]
theorem joinL_apart {p : List Sp} {x s : Sp} (h : s.1 < s.2) (k : x.2 < s.1) : joinL (p ++ [x]) s = p ++ [x] ++ [s] := by
  rw [joinL, if_neg (by omega)]
  have : ¬ s.1 ≤ x.2 := by omega
  simp [this]
theorem joinL_ok {l : List Sp} {s : Sp} (hl : Canon l) (hs : ∀ x ∈ l, x.1 ≤ s.1) : Canon (joinL l s) ∧ (∀ d, memL (joinL l s) d ↔ memL l d ∨ inS s d) ∧ ∀ x ∈ joinL l s, x.1 ≤ s.1 := by
  by_cases he : s.2 ≤ s.1
  · rw [joinL_empty he]
    exact ⟨hl, fun d => ⟨.inl, fun h => h.elim id fun h => by have := h.1; have := h.2; omega⟩, hs⟩
  have he' : s.1 < s.2 := by omega
  rcases List.eq_nil_or_concat l with rfl | ⟨p, x, hx⟩
  · rw [joinL_nil he']
    refine ⟨⟨fun y hy => ?_, List.pairwise_singleton _ _⟩, fun d => ?_, fun y hy => ?_⟩
    · simp at hy; subst hy; exact he'
    · rw [memL_one]; exact ⟨.inr, fun h => h.elim (fun h => absurd h (memL_nil _)) id⟩
    · simp at hy; subst hy; exact Int.le_refl _
  · rw [List.concat_eq_append] at hx
    subst hx
    have hx1 := hl.1 x (by simp)
    have hxs := hs x (by simp)
    obtain ⟨hp, _, hpx⟩ := List.pairwise_append.1 hl.2
    by_cases hk : s.1 ≤ x.2
    · rw [joinL_touch he' hk]
      refine ⟨⟨fun y hy => ?_, ?_⟩, fun d => ?_, fun y hy => ?_⟩
      · rcases List.mem_append.1 hy with q | q
        · exact hl.1 y (List.mem_append_left _ q)
        · simp at q; subst q; simp only; omega
      · refine List.pairwise_append.2 ⟨hp, List.pairwise_singleton _ _, fun y hy z hz => ?_⟩
        simp at hz; subst hz
        exact hpx y hy x (by simp)
      · rw [memL_app, memL_app, memL_one, memL_one, or_assoc]
        refine or_congr Iff.rfl ?_
        simp only [inS]
        omega
      · rcases List.mem_append.1 hy with q | q
        · exact hs y (List.mem_append_left _ q)
        · simp at q; subst q; exact hxs
    · have hk' : x.2 < s.1 := by omega
      rw [joinL_apart he' hk']
      refine ⟨⟨fun y hy => ?_, ?_⟩, fun d => ?_, fun y hy => ?_⟩
      · rcases List.mem_append.1 hy with q | q
        · exact hl.1 y q
        · simp at q; subst q; exact he'
      · refine List.pairwise_append.2 ⟨hl.2, List.pairwise_singleton _ _, fun y hy z hz => ?_⟩
        simp at hz; subst hz
        rcases List.mem_append.1 hy with q | q
        · have := hpx y q x (by simp); omega
        · simp at q; subst q; exact hk'
      · rw [memL_app, memL_one]
      · rcases List.mem_append.1 hy with q | q
        · exact hs y q
        · simp at q; subst q; exact Int.le_refl _
/-- of spans that rise: their set -/
def foldJ (l : List Sp) : List Sp := l.foldl joinL []
theorem foldJ_snoc (l : List Sp) (s : Sp) : foldJ (l ++ [s]) = joinL (foldJ l) s := by rw [foldJ, foldJ, List.foldl_append]; rfl
theorem snocI {α : Type} {P : List α → Prop} (h0 : P []) (h1 : ∀ l a, P l → P (l ++ [a])) (l : List α) : P l := by
  have : ∀ l : List α, P l.reverse := by
    intro l
    induction l with
    | nil => exact h0
    | cons a l ih => rw [List.reverse_cons]; exact h1 _ _ ih
  have := this l.reverse
  rwa [List.reverse_reverse] at this
theorem foldJ_ok {l : List Sp} (h : l.Pairwise fun a b => a.1 ≤ b.1) : Canon (foldJ l) ∧ (∀ d, memL (foldJ l) d ↔ memL l d) ∧ ∀ x ∈ foldJ l, ∃ y ∈ l, x.1 ≤ y.1 := by
  induction l using snocI with
  | h0 => exact ⟨Canon.nil, fun d => Iff.rfl, fun x hx => by cases hx⟩
  | h1 l s ih =>
    obtain ⟨hl, _, hls⟩ := List.pairwise_append.1 h
    obtain ⟨h1, h2, h3⟩ := ih hl
    have hs : ∀ x ∈ foldJ l, x.1 ≤ s.1 := fun x hx => by
      obtain ⟨y, hy, hxy⟩ := h3 x hx
      have := hls y hy s (by simp); omega
    obtain ⟨j1, j2, j3⟩ := joinL_ok h1 hs
    rw [foldJ_snoc]
    exact ⟨j1, fun d => by rw [j2, h2, memL_app, memL_one], fun x hx => ⟨s, by simp, j3 x hx⟩⟩

/-- one day and the next one, of some that rise -/
def pairsL : List Int → List Sp
  | a :: b :: r => (a, b) :: pairsL (b :: r)
  | _ => []
def Up (l : List Int) : Prop := l.Pairwise (· < ·)
theorem pairsL_fst {E : List Int} : ∀ {p : Sp}, p ∈ pairsL E → p.1 ∈ E ∧ p.2 ∈ E := by
  induction E with
  | nil => intro p h; cases h
  | cons a r ih =>
    intro p h
    cases r with
    | nil => cases h
    | cons b r =>
      rcases List.mem_cons.1 h with rfl | h
      · simp
      · obtain ⟨h1, h2⟩ := ih h
        exact ⟨List.mem_cons_of_mem _ h1, List.mem_cons_of_mem _ h2⟩
theorem pairsL_sorted : ∀ {E : List Int}, Up E → (pairsL E).Pairwise (fun a b => a.1 ≤ b.1)
  | [], _ => List.Pairwise.nil
  | [_], _ => List.Pairwise.nil
  | a :: b :: r, h => by
    rw [pairsL]
    refine List.pairwise_cons.2 ⟨fun p hp => ?_, pairsL_sorted (List.pairwise_cons.1 h).2⟩
    exact Int.le_of_lt ((List.pairwise_cons.1 h).1 _ (pairsL_fst hp).1)
/-- between two that stand side by side lies none -/
theorem pairsL_gap : ∀ {E : List Int}, Up E → ∀ {p : Sp}, p ∈ pairsL E → p.1 < p.2 ∧ ∀ e ∈ E, e ≤ p.1 ∨ p.2 ≤ e
  | [], _, _, h => by cases h
  | [_], _, _, h => by cases h
  | a :: b :: r, hu, p, h => by
    obtain ⟨h1, h2⟩ := List.pairwise_cons.1 hu
    obtain ⟨h3, h4⟩ := List.pairwise_cons.1 h2
    rcases List.mem_cons.1 h with rfl | h
    · refine ⟨h1 b (by simp), fun e he => ?_⟩
      rcases List.mem_cons.1 he with rfl | he
      · exact .inl (Int.le_refl _)
      · rcases List.mem_cons.1 he with rfl | he
        · exact .inr (Int.le_refl _)
        · exact .inr (Int.le_of_lt (h3 e he))
    · obtain ⟨k1, k2⟩ := pairsL_gap h2 h
      have k3 := h1 _ (pairsL_fst h).1
      refine ⟨k1, fun e he => ?_⟩
      rcases List.mem_cons.1 he with q | he
      · subst q; exact .inl (Int.le_of_lt k3)
      · exact k2 e he
/-- a day between two of them lies in one of the pairs -/
theorem pairsL_find : ∀ {E : List Int} {d x y : Int}, x ∈ E → y ∈ E → x ≤ d → d < y → Up E → ∃ p ∈ pairsL E, inS p d
  | [], _, _, _, h, _, _, _, _ => by cases h
  | [a], d, x, y, hx, hy, h1, h2, _ => by simp at hx hy; omega
  | a :: b :: r, d, x, y, hx, hy, h1, h2, hu => by
    obtain ⟨k1, k2⟩ := List.pairwise_cons.1 hu
    by_cases hd : d < b
    · have hax : a ≤ x := by
        rcases List.mem_cons.1 hx with rfl | hx
        · exact Int.le_refl _
        · exact Int.le_of_lt (k1 x hx)
      exact ⟨(a, b), by simp [pairsL], by simp only [inS]; omega⟩
    · have hy' : y ∈ b :: r := by
        rcases List.mem_cons.1 hy with rfl | hy
        · have := k1 b (by simp); omega
        · exact hy
      obtain ⟨p, hp, hin⟩ := pairsL_find (E := b :: r) (x := b) (d := d) (by simp) hy' (by omega) h2 k2
      exact ⟨p, by rw [pairsL]; exact List.mem_cons_of_mem _ hp, hin⟩

/-- two sets taken together: E: the days at which something begins or ends; kp: whether a day is kept -/
def walkL (E : List Int) (kp : Int → Bool) : List Sp := foldJ ((pairsL E).filter fun p => kp p.1)
theorem walkL_ok {E : List Int} {kp : Int → Bool} (hE : Up E) (h1 : ∀ p ∈ pairsL E, ∀ d, inS p d → kp d = kp p.1) (h2 : ∀ d, kp d = true → ∃ x ∈ E, ∃ y ∈ E, x ≤ d ∧ d < y) :
    Canon (walkL E kp) ∧ ∀ d, memL (walkL E kp) d ↔ kp d = true := by
  have hs : ((pairsL E).filter fun p => kp p.1).Pairwise (fun a b => a.1 ≤ b.1) := (pairsL_sorted hE).filter _
  obtain ⟨k1, k2, _⟩ := foldJ_ok hs
  refine ⟨k1, fun d => ?_⟩
  rw [walkL, k2]
  constructor
  · rintro ⟨p, hp, hd⟩
    obtain ⟨hp1, hp2⟩ := List.mem_filter.1 hp
    rw [h1 p hp1 d hd]; exact hp2
  · intro hd
    obtain ⟨x, hx, y, hy, hxd, hdy⟩ := h2 d hd
    obtain ⟨p, hp, hin⟩ := pairsL_find hx hy hxd hdy hE
    exact ⟨p, List.mem_filter.2 ⟨hp, by rw [← h1 p hp d hin]; exact hd⟩, hin⟩

/-- is a day one of some spans'? -/
def hasL (l : List Sp) (d : Int) : Bool := l.any fun s => decide (s.1 ≤ d) && decide (d < s.2)
theorem hasL_iff {l : List Sp} {d : Int} : hasL l d = true ↔ memL l d := by simp [hasL, memL, inS]
theorem hasL_eq {a b : List Sp} {d : Int} (h : memL a d ↔ memL b d) : hasL a d = hasL b d := by
  rw [Bool.eq_iff_iff, hasL_iff, hasL_iff]; exact h
/-- the days at which spans begin or end -/
def endsL (l : List Sp) : List Int := l.flatMap fun s => [s.1, s.2]
theorem endsL_mem {l : List Sp} {s : Sp} (h : s ∈ l) : s.1 ∈ endsL l ∧ s.2 ∈ endsL l :=
  ⟨List.mem_flatMap.2 ⟨s, h, by simp⟩, List.mem_flatMap.2 ⟨s, h, by simp⟩⟩
theorem hasL_const {E : List Int} {l : List Sp} (hE : Up E) (hl : ∀ s ∈ l, s.1 < s.2 → s.1 ∈ E ∧ s.2 ∈ E) {p : Sp} (hp : p ∈ pairsL E) {d : Int} (hd : inS p d) : hasL l d = hasL l p.1 := by
  obtain ⟨h1, h2⟩ := pairsL_gap hE hp
  rw [Bool.eq_iff_iff, hasL_iff, hasL_iff]
  refine Iff.intro ?_ ?_ <;> rintro ⟨s, hs, hin⟩ <;> refine ⟨s, hs, ?_⟩
  · obtain ⟨k1, k2⟩ := hl s hs (by have := hin.1; have := hin.2; omega)
    have g1 := h2 _ k1
    have g2 := h2 _ k2
    simp only [inS] at hin hd ⊢; omega
  · obtain ⟨k1, k2⟩ := hl s hs (by have := hin.1; have := hin.2; omega)
    have g1 := h2 _ k1
    have g2 := h2 _ k2
    simp only [inS] at hin hd ⊢; omega
/-- two sets together, by how a day of both is kept -/
theorem walkL_two {E : List Int} {a b : List Sp} {keep : Bool → Bool → Bool} (hE : Up E) (ha : ∀ s ∈ a, s.1 < s.2 → s.1 ∈ E ∧ s.2 ∈ E) (hb : ∀ s ∈ b, s.1 < s.2 → s.1 ∈ E ∧ s.2 ∈ E) (h0 : keep false false = false) :
    Canon (walkL E fun d => keep (hasL a d) (hasL b d)) ∧ ∀ d, memL (walkL E fun d => keep (hasL a d) (hasL b d)) d ↔ keep (hasL a d) (hasL b d) = true := by
  refine walkL_ok hE (fun p hp d hd => ?_) (fun d hd => ?_)
  · rw [hasL_const hE ha hp hd, hasL_const hE hb hp hd]
  · have : hasL a d = true ∨ hasL b d = true := by
      rcases hx : hasL a d with _ | _
      · rcases hy : hasL b d with _ | _
        · rw [hx, hy, h0] at hd; cases hd
        · exact .inr rfl
      · exact .inl rfl
    rcases this with q | q
    · obtain ⟨s, hs, hin⟩ := hasL_iff.1 q
      obtain ⟨k1, k2⟩ := ha s hs (by have := hin.1; have := hin.2; omega)
      exact ⟨_, k1, _, k2, hin.1, hin.2⟩
    · obtain ⟨s, hs, hin⟩ := hasL_iff.1 q
      obtain ⟨k1, k2⟩ := hb s hs (by have := hin.1; have := hin.2; omega)
      exact ⟨_, k1, _, k2, hin.1, hin.2⟩

end Wb
end Go.Proofs.Ytheofklbmknipaa
