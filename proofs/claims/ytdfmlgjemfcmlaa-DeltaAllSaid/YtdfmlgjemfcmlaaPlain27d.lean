/- Plain facts for chapter 27: merging. -/
import Derived.Test.YtdfmlgjemfcmlaaPlain27c
namespace Go.Proofs.Ytdfmlgjemfcmlaa
namespace Wb

/-- the lines of both, or none: an amount that does not fit -/
def mergeL : List Ln → List Ln → Option (List Ln)
  | [], b => some b
  | a, [] => some a
  | x :: a, y :: b =>
    if lnLt x y = true then (mergeL a (y :: b)).map (x :: ·)
    else if lnLt y x = true then (mergeL (x :: a) b).map (y :: ·)
    else if fits (x.cents + y.cents) = false then none
    else if x.cents + y.cents = 0 then mergeL a b
    else (mergeL a b).map (⟨x.part, x.code, x.cents + y.cents⟩ :: ·)
termination_by a b => a.length + b.length

/-- the error, and the slip -/
def merge (y i : Int) (a : List Ln) (y' i' : Int) (b : List Ln) : Int × Int × Int × List Ln :=
  if check y i a ≠ 0 then (check y i a, 0, 0, [])
  else if check y' i' b ≠ 0 then (check y' i' b, 0, 0, [])
  else if y ≠ y' ∨ i ≠ i' then (18, 0, 0, [])
  else match mergeL a b with
    | none => (9, 0, 0, [])
    | some l => if 448 < l.length then (5, 0, 0, []) else (0, y, i, l)

/-- what a list has at a part and a code -/
def lval (p : Int) (c : List UInt8) : List Ln → Int
  | [] => 0
  | x :: r => (if x.part = p ∧ x.code = c then x.cents else 0) + lval p c r

def Rise (l : List Ln) : Prop := l.Pairwise (fun a b => lnLt a b = true)
def NonZ (l : List Ln) : Prop := ∀ x ∈ l, x.cents ≠ 0

theorem lnLt_ne {a b : Ln} (h : lnLt a b = true) : ¬ (b.part = a.part ∧ b.code = a.code) := by
  rintro ⟨h1, h2⟩
  simp [lnLt, h1, h2, blt_irrefl] at h
theorem lnLt_key {a b a' b' : Ln} (h1 : a.part = a'.part) (h2 : a.code = a'.code) (h3 : b.part = b'.part) (h4 : b.code = b'.code) : lnLt a b = lnLt a' b' := by
  simp [lnLt, h1, h2, h3, h4]
theorem val_behind {x : Ln} {l : List Ln} (h : ∀ z ∈ l, lnLt x z = true) : lval x.part x.code l = 0 := by
  induction l with
  | nil => rfl
  | cons z r ih =>
    have hz := lnLt_ne (h z (by simp))
    rw [lval, if_neg hz, ih fun q hq => h q (by simp [hq])]; rfl
theorem val_zero {l : List Ln} (hr : Rise l) (hn : NonZ l) (h : ∀ p c, lval p c l = 0) : l = [] := by
  cases l with
  | nil => rfl
  | cons x r =>
    have h1 := h x.part x.code
    obtain ⟨h2, _⟩ := List.pairwise_cons.1 hr
    rw [lval, if_pos ⟨rfl, rfl⟩, val_behind h2] at h1
    exact absurd (by omega) (hn x (by simp))
/-- rising lists without nothings are told by what they have -/
theorem val_inj : ∀ {a b : List Ln}, Rise a → Rise b → NonZ a → NonZ b → (∀ p c, lval p c a = lval p c b) → a = b := by
  intro a
  induction a with
  | nil => intro b _ hb _ hn h; exact (val_zero hb hn fun p c => (h p c).symm).symm
  | cons x r ih =>
    intro b ha hb hna hnb h
    cases b with
    | nil => exact val_zero ha hna h
    | cons y s =>
      obtain ⟨hx, hr⟩ := List.pairwise_cons.1 ha
      obtain ⟨hy, hs⟩ := List.pairwise_cons.1 hb
      have hxy : lnLt x y = false := by
        cases hl : lnLt x y with
        | false => rfl
        | true =>
          have h1 := h x.part x.code
          rw [lval, if_pos ⟨rfl, rfl⟩, val_behind hx, val_behind (x := x) (l := y :: s) (fun z hz => (List.mem_cons.1 hz).elim (fun e => e ▸ hl) (fun e => lnLt_trans hl (hy z e)))] at h1
          exact absurd (by omega) (hna x (by simp))
      have hyx : lnLt y x = false := by
        cases hl : lnLt y x with
        | false => rfl
        | true =>
          have h1 := h y.part y.code
          rw [val_behind (x := y) (l := x :: r) (fun z hz => (List.mem_cons.1 hz).elim (fun e => e ▸ hl) (fun e => lnLt_trans hl (hx z e))), lval, if_pos ⟨rfl, rfl⟩, val_behind hy] at h1
          exact absurd (by omega) (hnb y (by simp))
      obtain ⟨hp, hc⟩ := lnLt_total hxy hyx
      have hn : x.cents = y.cents := by
        have h1 := h x.part x.code
        rw [lval, if_pos ⟨rfl, rfl⟩, val_behind hx, lval, if_pos ⟨hp.symm, hc.symm⟩, hp, hc, val_behind hy] at h1
        omega
      have hxe : x = y := by cases x; cases y; simp_all
      subst hxe
      rw [ih hr hs (fun z hz => hna z (by simp [hz])) (fun z hz => hnb z (by simp [hz])) fun p c => by have := h p c; simp only [lval] at this; omega]

/-- what a merged list has -/
theorem mergeL_val : ∀ {a b l : List Ln}, mergeL a b = some l → ∀ p c, lval p c l = lval p c a + lval p c b := by
  intro a b
  induction a, b using mergeL.induct with
  | case1 b => intro l h p c; rw [mergeL] at h; cases h; simp [lval]
  | case2 a ha => intro l h p c; rw [mergeL] at h <;> first | (cases h; simp [lval]) | exact ha
  | case3 x a y b hxy ih =>
    intro l h p c
    rw [mergeL, if_pos hxy] at h
    obtain ⟨m, hm, rfl⟩ := Option.map_eq_some_iff.1 h
    have := ih hm p c; simp only [lval] at this ⊢; omega
  | case4 x a y b hxy hyx ih =>
    intro l h p c
    rw [mergeL, if_neg hxy, if_pos hyx] at h
    obtain ⟨m, hm, rfl⟩ := Option.map_eq_some_iff.1 h
    have := ih hm p c; simp only [lval] at this ⊢; omega
  | case5 x a y b hxy hyx hf =>
    intro l h; rw [mergeL, if_neg hxy, if_neg hyx, if_pos hf] at h; cases h
  | case6 x a y b hxy hyx hf hz ih =>
    intro l h p c
    rw [mergeL, if_neg hxy, if_neg hyx, if_neg hf, if_pos hz] at h
    obtain ⟨hp, hc⟩ := lnLt_total (by simpa using hxy) (by simpa using hyx)
    have := ih h p c
    simp only [lval, hp, hc]; split <;> omega
  | case7 x a y b hxy hyx hf hz ih =>
    intro l h p c
    rw [mergeL, if_neg hxy, if_neg hyx, if_neg hf, if_neg hz] at h
    obtain ⟨m, hm, rfl⟩ := Option.map_eq_some_iff.1 h
    obtain ⟨hp, hc⟩ := lnLt_total (by simpa using hxy) (by simpa using hyx)
    have := ih hm p c
    simp only [lval, hp, hc]; split <;> omega

/-- a merged list rises, has no nothings, and its keys are keys of one of both -/
theorem mergeL_keys : ∀ {a b l : List Ln}, mergeL a b = some l → ∀ x ∈ l, ∃ z, (z ∈ a ∨ z ∈ b) ∧ x.part = z.part ∧ x.code = z.code := by
  intro a b
  induction a, b using mergeL.induct with
  | case1 b => intro l h x hx; rw [mergeL] at h; cases h; exact ⟨x, .inr hx, rfl, rfl⟩
  | case2 a ha => intro l h x hx; rw [mergeL] at h <;> first | (cases h; exact ⟨x, .inl hx, rfl, rfl⟩) | exact ha
  | case3 x a y b hxy ih =>
    intro l h q hq
    rw [mergeL, if_pos hxy] at h
    obtain ⟨m, hm, rfl⟩ := Option.map_eq_some_iff.1 h
    rcases List.mem_cons.1 hq with rfl | hq
    · exact ⟨q, .inl (by simp), rfl, rfl⟩
    · obtain ⟨z, hz, e⟩ := ih hm q hq
      exact ⟨z, by rcases hz with hz | hz; exact .inl (by simp [hz]); exact .inr hz, e⟩
  | case4 x a y b hxy hyx ih =>
    intro l h q hq
    rw [mergeL, if_neg hxy, if_pos hyx] at h
    obtain ⟨m, hm, rfl⟩ := Option.map_eq_some_iff.1 h
    rcases List.mem_cons.1 hq with rfl | hq
    · exact ⟨q, .inr (by simp), rfl, rfl⟩
    · obtain ⟨z, hz, e⟩ := ih hm q hq
      exact ⟨z, by rcases hz with hz | hz; exact .inl hz; exact .inr (by simp [hz]), e⟩
  | case5 x a y b hxy hyx hf =>
    intro l h; rw [mergeL, if_neg hxy, if_neg hyx, if_pos hf] at h; cases h
  | case6 x a y b hxy hyx hf hz ih =>
    intro l h q hq
    rw [mergeL, if_neg hxy, if_neg hyx, if_neg hf, if_pos hz] at h
    obtain ⟨z, hz, e⟩ := ih h q hq
    exact ⟨z, by rcases hz with hz | hz; exact .inl (by simp [hz]); exact .inr (by simp [hz]), e⟩
  | case7 x a y b hxy hyx hf hz ih =>
    intro l h q hq
    rw [mergeL, if_neg hxy, if_neg hyx, if_neg hf, if_neg hz] at h
    obtain ⟨m, hm, rfl⟩ := Option.map_eq_some_iff.1 h
    rcases List.mem_cons.1 hq with rfl | hq
    · exact ⟨x, .inl (by simp), rfl, rfl⟩
    · obtain ⟨z, hz, e⟩ := ih hm q hq
      exact ⟨z, by rcases hz with hz | hz; exact .inl (by simp [hz]); exact .inr (by simp [hz]), e⟩

theorem rise_cons {x : Ln} {a b m : List Ln} (hm : mergeL a b = some m) (ha : ∀ z ∈ a, lnLt x z = true) (hb : ∀ z ∈ b, lnLt x z = true) (hr : Rise m) {x' : Ln} (h1 : x'.part = x.part) (h2 : x'.code = x.code) : Rise (x' :: m) := by
  refine List.Pairwise.cons (fun q hq => ?_) hr
  obtain ⟨z, hz, e1, e2⟩ := mergeL_keys hm q hq
  rw [lnLt_key h1 h2 e1 e2]
  rcases hz with hz | hz
  · exact ha z hz
  · exact hb z hz
theorem mergeL_rise : ∀ {a b l : List Ln}, mergeL a b = some l → Rise a → Rise b → NonZ a → NonZ b → Rise l ∧ NonZ l := by
  intro a b
  induction a, b using mergeL.induct with
  | case1 b => intro l h _ hb _ hn; rw [mergeL] at h; cases h; exact ⟨hb, hn⟩
  | case2 a ha => intro l h hr _ hn _; rw [mergeL] at h <;> first | (cases h; exact ⟨hr, hn⟩) | exact ha
  | case3 x a y b hxy ih =>
    intro l h ha hb hna hnb
    rw [mergeL, if_pos hxy] at h
    obtain ⟨m, hm, rfl⟩ := Option.map_eq_some_iff.1 h
    obtain ⟨h1, h2⟩ := List.pairwise_cons.1 ha
    obtain ⟨h3, _⟩ := List.pairwise_cons.1 hb
    obtain ⟨i1, i2⟩ := ih hm h2 hb (fun z hz => hna z (by simp [hz])) hnb
    exact ⟨rise_cons hm h1 (fun z hz => (List.mem_cons.1 hz).elim (fun e => e ▸ hxy) (fun e => lnLt_trans hxy (h3 z e))) i1 rfl rfl, fun z hz => (List.mem_cons.1 hz).elim (fun e => e ▸ hna x (by simp)) (fun e => i2 z e)⟩
  | case4 x a y b hxy hyx ih =>
    intro l h ha hb hna hnb
    rw [mergeL, if_neg hxy, if_pos hyx] at h
    obtain ⟨m, hm, rfl⟩ := Option.map_eq_some_iff.1 h
    obtain ⟨h1, h2⟩ := List.pairwise_cons.1 hb
    obtain ⟨h3, _⟩ := List.pairwise_cons.1 ha
    obtain ⟨i1, i2⟩ := ih hm ha h2 hna (fun z hz => hnb z (by simp [hz]))
    exact ⟨rise_cons hm (fun z hz => (List.mem_cons.1 hz).elim (fun e => e ▸ hyx) (fun e => lnLt_trans hyx (h3 z e))) h1 i1 rfl rfl, fun z hz => (List.mem_cons.1 hz).elim (fun e => e ▸ hnb y (by simp)) (fun e => i2 z e)⟩
  | case5 x a y b hxy hyx hf =>
    intro l h; rw [mergeL, if_neg hxy, if_neg hyx, if_pos hf] at h; cases h
  | case6 x a y b hxy hyx hf hz ih =>
    intro l h ha hb hna hnb
    rw [mergeL, if_neg hxy, if_neg hyx, if_neg hf, if_pos hz] at h
    exact ih h (List.pairwise_cons.1 ha).2 (List.pairwise_cons.1 hb).2 (fun z hz => hna z (by simp [hz])) (fun z hz => hnb z (by simp [hz]))
  | case7 x a y b hxy hyx hf hz ih =>
    intro l h ha hb hna hnb
    rw [mergeL, if_neg hxy, if_neg hyx, if_neg hf, if_neg hz] at h
    obtain ⟨m, hm, rfl⟩ := Option.map_eq_some_iff.1 h
    obtain ⟨h1, h2⟩ := List.pairwise_cons.1 ha
    obtain ⟨h3, h4⟩ := List.pairwise_cons.1 hb
    obtain ⟨i1, i2⟩ := ih hm h2 h4 (fun z hz => hna z (by simp [hz])) (fun z hz => hnb z (by simp [hz]))
    obtain ⟨hp, hc⟩ := lnLt_total (by simpa using hxy) (by simpa using hyx)
    exact ⟨rise_cons (x := x) hm h1 (fun z hz => by rw [lnLt_key hp hc (rfl : z.part = z.part) rfl]; exact h3 z hz) i1 rfl rfl, fun z hz' => (List.mem_cons.1 hz').elim (fun e => e ▸ hz) (fun e => i2 z e)⟩

end Wb
end Go.Proofs.Ytdfmlgjemfcmlaa
