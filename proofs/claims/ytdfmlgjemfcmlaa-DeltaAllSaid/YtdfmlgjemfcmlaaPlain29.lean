/- Plain facts for chapter 29: differences of slips. No program in sight. -/
import Derived.Test.YtdfmlgjemfcmlaaPlain27g
namespace Go.Proofs.Ytdfmlgjemfcmlaa
namespace Wb

/-- the zero slip -/
def noneB (y i : Int) (l : List Ln) : Bool := (y == 0) && (i == 0) && l.isEmpty
theorem none_iff {y i : Int} {l : List Ln} : noneB y i l = true ↔ y = 0 ∧ i = 0 ∧ l = [] := by simp [noneB, and_assoc]
def wrongE (y i : Int) (l : List Ln) : Int := if noneB y i l = true then 0 else check y i l
theorem wrong_ok {y i : Int} {l : List Ln} (h : wrongE y i l = 0) : Rise l ∧ NonZ l ∧ (∀ x ∈ l, lineErr x = 0) := by
  unfold wrongE at h
  split at h
  · rename_i hn
    obtain ⟨_, _, rfl⟩ := none_iff.1 hn
    exact ⟨List.Pairwise.nil, (fun x hx => by cases hx), (fun x hx => by cases hx)⟩
  · exact rise_of h
theorem wrong_some {y i : Int} {l : List Ln} (h : wrongE y i l = 0) (hn : noneB y i l = false) : check y i l = 0 := by
  rw [wrongE, if_neg (by rw [hn]; exact Bool.false_ne_true)] at h; exact h
theorem check_none {y i : Int} {l : List Ln} (h : check y i l = 0) : noneB y i l = false := by
  rw [Bool.eq_false_iff]
  intro hn
  obtain ⟨rfl, _, _⟩ := none_iff.1 hn
  have := (check_ok h).1
  omega

/-- the lines of a difference -/
structure IsDelta (a b r : List Ln) : Prop where
  rise : Rise r
  nonz : NonZ r
  val : ∀ p c, lval p c r = lval p c b - lval p c a
theorem IsDelta.uniq {a b r s : List Ln} (h : IsDelta a b r) (k : IsDelta a b s) : r = s := val_inj h.rise k.rise h.nonz k.nonz fun p c => by rw [h.val, k.val]
theorem lval_neg (p : Int) (c : List UInt8) : ∀ l : List Ln, lval p c (neg l) = -lval p c l
  | [] => rfl
  | x :: r => by
    have := lval_neg p c r
    simp only [neg, List.map_cons, lval] at this ⊢
    rw [this]; split <;> omega
theorem rise_neg {l : List Ln} (h : Rise l) : Rise (neg l) := by
  unfold Rise neg
  exact List.pairwise_map.2 (h.imp fun {a b} hab => by simpa [lnLt] using hab)
theorem IsDelta.turn {a b r : List Ln} (h : IsDelta a b r) : IsDelta b a (neg r) :=
  ⟨rise_neg h.rise, fun x hx => by
    obtain ⟨z, hz, rfl⟩ := List.mem_map.1 hx
    have := h.nonz z hz
    simp only; omega, fun p c => by rw [lval_neg, h.val]; omega⟩
theorem IsDelta.self {a r : List Ln} (h : IsDelta a a r) : r = [] := val_zero h.rise h.nonz fun p c => by rw [h.val]; omega
theorem IsDelta.from_nil {b r : List Ln} (h : IsDelta [] b r) (hb : Rise b) (nb : NonZ b) : r = b := val_inj h.rise hb h.nonz nb fun p c => by rw [h.val, lval]; omega
theorem IsDelta.to_nil {a r : List Ln} (h : IsDelta a [] r) (ha : Rise a) (na : NonZ a) : r = neg a :=
  val_inj h.rise (rise_neg ha) h.nonz (fun x hx => by
    obtain ⟨z, hz, rfl⟩ := List.mem_map.1 hx
    have := na z hz
    simp only; omega) fun p c => by rw [h.val, lval, lval_neg]; omega

/-- the difference of two slips: the error, the slip -/
inductive IsOf (y i : Int) (a : List Ln) (y' i' : Int) (b : List Ln) : Int → Int → Int → List Ln → Prop
  | bad1 : wrongE y i a ≠ 0 → IsOf y i a y' i' b (wrongE y i a) 0 0 []
  | bad2 : wrongE y i a = 0 → wrongE y' i' b ≠ 0 → IsOf y i a y' i' b (wrongE y' i' b) 0 0 []
  | state : wrongE y i a = 0 → wrongE y' i' b = 0 → noneB y i a = false → noneB y' i' b = false → (y ≠ y' ∨ i ≠ i') → IsOf y i a y' i' b 18 0 0 []
  | over (r : List Ln) : wrongE y i a = 0 → wrongE y' i' b = 0 → (noneB y i a = true ∨ noneB y' i' b = true ∨ (y = y' ∧ i = i')) → IsDelta a b r → (∃ x ∈ r, fits x.cents = false) → IsOf y i a y' i' b 9 0 0 []
  | many (r : List Ln) : wrongE y i a = 0 → wrongE y' i' b = 0 → (noneB y i a = true ∨ noneB y' i' b = true ∨ (y = y' ∧ i = i')) → IsDelta a b r → (∀ x ∈ r, fits x.cents = true) → 448 < r.length → IsOf y i a y' i' b 5 0 0 []
  | ok (r : List Ln) : wrongE y i a = 0 → wrongE y' i' b = 0 → (noneB y i a = true ∨ noneB y' i' b = true ∨ (y = y' ∧ i = i')) → IsDelta a b r → (∀ x ∈ r, fits x.cents = true) → r.length ≤ 448 →
      IsOf y i a y' i' b 0 (if noneB y' i' b = true then y else y') (if noneB y' i' b = true then i else i') r
theorem IsOf.uniq {y i y' i' : Int} {a b : List Ln} {e Y I f Z J : Int} {r s : List Ln} (h : IsOf y i a y' i' b e Y I r) (k : IsOf y i a y' i' b f Z J s) : e = f ∧ Y = Z ∧ I = J ∧ r = s := by
  have nofit : ∀ {r s : List Ln}, IsDelta a b r → IsDelta a b s → (∃ x ∈ r, fits x.cents = false) → (∀ x ∈ s, fits x.cents = true) → False := by
    intro r s h1 h2 ⟨x, hx, h3⟩ h4
    rw [h1.uniq h2] at hx
    rw [h4 x hx] at h3; cases h3
  cases h with
  | bad1 h1 => cases k <;> first | exact ⟨rfl, rfl, rfl, rfl⟩ | contradiction
  | bad2 h1 h2 => cases k <;> first | exact ⟨rfl, rfl, rfl, rfl⟩ | contradiction
  | state h1 h2 h3 h4 h5 =>
    cases k with
    | state => exact ⟨rfl, rfl, rfl, rfl⟩
    | bad1 k1 => contradiction
    | bad2 _ k2 => contradiction
    | over _ _ _ k3 | many _ _ _ k3 | ok _ _ _ k3 =>
      exfalso
      rcases k3 with q | q | q
      · rw [h3] at q; cases q
      · rw [h4] at q; cases q
      · omega
  | over r h1 h2 h3 h4 h5 =>
    cases k with
    | bad1 k1 => contradiction
    | bad2 _ k2 => contradiction
    | state _ _ k3 k4 k5 =>
      exfalso
      rcases h3 with q | q | q
      · rw [k3] at q; cases q
      · rw [k4] at q; cases q
      · omega
    | over => exact ⟨rfl, rfl, rfl, rfl⟩
    | many s _ _ _ k4 k5 => exact (nofit h4 k4 h5 k5).elim
    | ok s _ _ _ k4 k5 => exact (nofit h4 k4 h5 k5).elim
  | many r h1 h2 h3 h4 h5 h6 =>
    cases k with
    | bad1 k1 => contradiction
    | bad2 _ k2 => contradiction
    | state _ _ k3 k4 k5 =>
      exfalso
      rcases h3 with q | q | q
      · rw [k3] at q; cases q
      · rw [k4] at q; cases q
      · omega
    | over s _ _ _ k4 k5 => exact (nofit k4 h4 k5 h5).elim
    | many => exact ⟨rfl, rfl, rfl, rfl⟩
    | ok s _ _ _ k4 k5 k6 =>
      exfalso
      have := h4.uniq k4
      subst this; omega
  | ok r h1 h2 h3 h4 h5 h6 =>
    cases k with
    | bad1 k1 => contradiction
    | bad2 _ k2 => contradiction
    | state _ _ k3 k4 k5 =>
      exfalso
      rcases h3 with q | q | q
      · rw [k3] at q; cases q
      · rw [k4] at q; cases q
      · omega
    | over s _ _ _ k4 k5 => exact (nofit k4 h4 k5 h5).elim
    | many s _ _ _ k4 k5 k6 =>
      exfalso
      have := h4.uniq k4
      subst this; omega
    | ok s _ _ _ k4 => exact ⟨rfl, rfl, rfl, h4.uniq k4⟩

/-- a line's own key -/
theorem lval_head {x : Ln} {r : List Ln} (h : Rise (x :: r)) : lval x.part x.code (x :: r) = x.cents := by
  rw [lval, if_pos ⟨rfl, rfl⟩, val_behind (List.pairwise_cons.1 h).1]; omega
theorem lval_mem {l : List Ln} (h : Rise l) {x : Ln} (hx : x ∈ l) : lval x.part x.code l = x.cents := by
  induction l with
  | nil => cases hx
  | cons z r ih =>
    rcases List.mem_cons.1 hx with rfl | hx
    · exact lval_head h
    · obtain ⟨h1, h2⟩ := List.pairwise_cons.1 h
      have := lnLt_ne (h1 x hx)
      rw [lval, if_neg (fun ⟨a, b⟩ => this ⟨a.symm, b.symm⟩), ih h2 hx]; omega
theorem lval_none {l : List Ln} {p : Int} {c : List UInt8} (h : ∀ x ∈ l, ¬ (x.part = p ∧ x.code = c)) : lval p c l = 0 := by
  induction l with
  | nil => rfl
  | cons z r ih => rw [lval, if_neg (h z (by simp)), ih fun x hx => h x (by simp [hx])]; rfl
/-- where the amounts of both fit, they are merged -/
theorem mergeL_some : ∀ {a b : List Ln}, Rise a → Rise b → (∀ p c, fits (lval p c a + lval p c b) = true) → ∃ l, mergeL a b = some l := by
  intro a b
  induction a, b using mergeL.induct with
  | case1 b => intro _ _ _; exact ⟨b, by rw [mergeL]⟩
  | case2 a ha => intro _ _ _; exact ⟨a, by rw [mergeL]; exact ha⟩
  | case3 x a y b hxy ih =>
    intro ra rb h
    obtain ⟨h1, h2⟩ := List.pairwise_cons.1 ra
    obtain ⟨h3, h4⟩ := List.pairwise_cons.1 rb
    obtain ⟨l, hl⟩ := ih h2 rb fun p c => by
      have := h p c
      rw [lval] at this
      by_cases e : x.part = p ∧ x.code = c
      · obtain ⟨rfl, rfl⟩ := e
        rw [val_behind h1, val_behind (l := y :: b) (fun z hz => (List.mem_cons.1 hz).elim (fun e => e ▸ hxy) fun e => lnLt_trans hxy (h3 z e))]; rfl
      · rw [if_neg e, Int.zero_add] at this; exact this
    exact ⟨x :: l, by rw [mergeL, if_pos hxy, hl]; rfl⟩
  | case4 x a y b hxy hyx ih =>
    intro ra rb h
    obtain ⟨h1, h2⟩ := List.pairwise_cons.1 ra
    obtain ⟨h3, h4⟩ := List.pairwise_cons.1 rb
    obtain ⟨l, hl⟩ := ih ra h4 fun p c => by
      by_cases e : y.part = p ∧ y.code = c
      · obtain ⟨rfl, rfl⟩ := e
        rw [val_behind h3, val_behind (l := x :: a) (fun z hz => (List.mem_cons.1 hz).elim (fun e => e ▸ hyx) fun e => lnLt_trans hyx (h1 z e))]; rfl
      · have h5 : lval p c (y :: b) = lval p c b := by rw [lval, if_neg e, Int.zero_add]
        rw [← h5]; exact h p c
    exact ⟨y :: l, by rw [mergeL, if_neg hxy, if_pos hyx, hl]; rfl⟩
  | case5 x a y b hxy hyx hf =>
    intro ra rb h
    obtain ⟨hp, hc⟩ := lnLt_total (by simpa using hxy) (by simpa using hyx)
    have h1 := h x.part x.code
    rw [lval_head ra, show lval x.part x.code (y :: b) = y.cents by rw [hp, hc]; exact lval_head rb, hf] at h1
    cases h1
  | case6 x a y b hxy hyx hf hz ih =>
    intro ra rb h
    obtain ⟨h1, h2⟩ := List.pairwise_cons.1 ra
    obtain ⟨h3, h4⟩ := List.pairwise_cons.1 rb
    obtain ⟨hp, hc⟩ := lnLt_total (by simpa using hxy) (by simpa using hyx)
    obtain ⟨l, hl⟩ := ih h2 h4 fun p c => by
      have := h p c
      by_cases e : x.part = p ∧ x.code = c
      · obtain ⟨rfl, rfl⟩ := e
        rw [val_behind h1, show lval x.part x.code b = 0 by rw [hp, hc]; exact val_behind h3]; rfl
      · rw [lval, lval, if_neg e, if_neg (by rw [← hp, ← hc]; exact e), Int.zero_add, Int.zero_add] at this; exact this
    exact ⟨l, by rw [mergeL, if_neg hxy, if_neg hyx, if_neg hf, if_pos hz, hl]⟩
  | case7 x a y b hxy hyx hf hz ih =>
    intro ra rb h
    obtain ⟨h1, h2⟩ := List.pairwise_cons.1 ra
    obtain ⟨h3, h4⟩ := List.pairwise_cons.1 rb
    obtain ⟨hp, hc⟩ := lnLt_total (by simpa using hxy) (by simpa using hyx)
    obtain ⟨l, hl⟩ := ih h2 h4 fun p c => by
      have := h p c
      by_cases e : x.part = p ∧ x.code = c
      · obtain ⟨rfl, rfl⟩ := e
        rw [val_behind h1, show lval x.part x.code b = 0 by rw [hp, hc]; exact val_behind h3]; rfl
      · rw [lval, lval, if_neg e, if_neg (by rw [← hp, ← hc]; exact e), Int.zero_add, Int.zero_add] at this; exact this
    exact ⟨_ :: l, by rw [mergeL, if_neg hxy, if_neg hyx, if_neg hf, if_neg hz, hl]; rfl⟩

end Wb
end Go.Proofs.Ytdfmlgjemfcmlaa
