/- Plain facts for chapter 27: what is merged is right, in either order the same, and which two first. -/
import Derived.Test.YtdfmlgjemfcmlaaPlain27e
namespace Go.Proofs.Ytdfmlgjemfcmlaa
namespace Wb

theorem mergeL_comm : ∀ a b : List Ln, mergeL a b = mergeL b a := by
  intro a b
  induction a, b using mergeL.induct with
  | case1 b => rw [mergeL_nil_right, mergeL]
  | case2 a ha => rw [mergeL_nil_right, mergeL]
  | case3 x a y b hxy ih => rw [mergeL, if_pos hxy, ih, step_y (.inr ⟨y, b, rfl, lnLt_asymm hxy, hxy⟩)]
  | case4 x a y b hxy hyx ih => rw [mergeL, if_neg hxy, if_pos hyx, ih, step_x (.inr ⟨x, a, rfl, hyx⟩)]
  | case5 x a y b hxy hyx hf =>
    rw [mergeL, if_neg hxy, if_neg hyx, if_pos hf, step_over (by simpa using hyx) (by simpa using hxy) (by rw [Int.add_comm]; exact hf)]
  | case6 x a y b hxy hyx hf hz ih =>
    rw [mergeL, if_neg hxy, if_neg hyx, if_neg hf, if_pos hz, ih, step_none (by simpa using hyx) (by simpa using hxy) (by rw [Int.add_comm]; simpa using hf) (by omega)]
  | case7 x a y b hxy hyx hf hz ih =>
    obtain ⟨hp, hc⟩ := lnLt_total (by simpa using hxy) (by simpa using hyx)
    rw [mergeL, if_neg hxy, if_neg hyx, if_neg hf, if_neg hz, ih, step_both (by simpa using hyx) (by simpa using hxy) (by rw [Int.add_comm]; simpa using hf) (by omega), hp, hc, Int.add_comm]

theorem chk_of : ∀ {l : List Ln} {p : Option Ln}, Rise l → (∀ x ∈ l, lineErr x = 0) → (∀ q, p = some q → ∀ x ∈ l, lnLt q x = true) → chk p l = 0 := by
  intro l
  induction l with
  | nil => intro p _ _ _; rfl
  | cons x r ih =>
    intro p hr hl hp
    obtain ⟨h1, h2⟩ := List.pairwise_cons.1 hr
    have hx := hl x (by simp)
    have hn := ih (p := some x) h2 (fun z hz => hl z (by simp [hz])) (fun q hq z hz => by cases hq; exact h1 z hz)
    cases p with
    | none => rw [chk_none hx]; exact hn
    | some q =>
      have hq := hp q rfl x (by simp)
      have hne := lnLt_ne hq
      rw [chk_some hx, if_neg (fun e => hne ⟨e.1.symm, e.2.symm⟩), if_neg (by rw [hq]; simp)]
      exact hn
theorem mergeL_fits : ∀ {a b l : List Ln}, mergeL a b = some l → (∀ x ∈ a, fits x.cents = true) → (∀ x ∈ b, fits x.cents = true) → ∀ x ∈ l, fits x.cents = true := by
  intro a b
  induction a, b using mergeL.induct with
  | case1 b => intro l h _ hb; rw [mergeL] at h; cases h; exact hb
  | case2 a ha => intro l h h1 _; rw [mergeL_nil_right] at h; cases h; exact h1
  | case3 x a y b hxy ih =>
    intro l h ha hb
    rw [mergeL, if_pos hxy] at h
    obtain ⟨m, hm, rfl⟩ := Option.map_eq_some_iff.1 h
    exact fun q hq => (List.mem_cons.1 hq).elim (fun e => e ▸ ha x (by simp)) (fun e => ih hm (fun z hz => ha z (by simp [hz])) hb q e)
  | case4 x a y b hxy hyx ih =>
    intro l h ha hb
    rw [mergeL, if_neg hxy, if_pos hyx] at h
    obtain ⟨m, hm, rfl⟩ := Option.map_eq_some_iff.1 h
    exact fun q hq => (List.mem_cons.1 hq).elim (fun e => e ▸ hb y (by simp)) (fun e => ih hm ha (fun z hz => hb z (by simp [hz])) q e)
  | case5 x a y b hxy hyx hf =>
    intro l h; rw [mergeL, if_neg hxy, if_neg hyx, if_pos hf] at h; cases h
  | case6 x a y b hxy hyx hf hz ih =>
    intro l h ha hb
    rw [mergeL, if_neg hxy, if_neg hyx, if_neg hf, if_pos hz] at h
    exact ih h (fun z hz => ha z (by simp [hz])) (fun z hz => hb z (by simp [hz]))
  | case7 x a y b hxy hyx hf hz ih =>
    intro l h ha hb
    rw [mergeL, if_neg hxy, if_neg hyx, if_neg hf, if_neg hz] at h
    obtain ⟨m, hm, rfl⟩ := Option.map_eq_some_iff.1 h
    exact fun q hq => (List.mem_cons.1 hq).elim (fun e => by rw [e]; simpa using hf) (fun e => ih hm (fun z hz => ha z (by simp [hz])) (fun z hz => hb z (by simp [hz])) q e)
theorem lineErr_iff {x : Ln} : lineErr x = 0 ↔ 0 ≤ x.part ∧ x.part ≤ 6 ∧ codeOk x.code = true ∧ x.cents ≠ 0 ∧ fits x.cents = true := by
  refine ⟨lineErr_ok, fun ⟨h1, h2, h3, h4, h5⟩ => ?_⟩
  rw [lineErr, if_neg (by omega), if_neg (by rw [h3]; simp), if_neg h4, if_neg (by rw [h5]; simp)]
theorem rise_of {y i : Int} {l : List Ln} (h : check y i l = 0) : Rise l ∧ NonZ l ∧ (∀ x ∈ l, lineErr x = 0) := by
  obtain ⟨_, _, _, _, _, hc, hl⟩ := check_ok h
  exact ⟨(chk_rise hc).1, fun x hx => (lineErr_ok (hl x hx)).2.2.2.1, hl⟩
/-- what is merged of right slips is right -/
theorem merge_right {y i : Int} {a b l : List Ln} (ha : check y i a = 0) (hb : check y i b = 0) (h : mergeL a b = some l) (hn : l.length ≤ 448) : check y i l = 0 := by
  obtain ⟨ra, na, la⟩ := rise_of ha
  obtain ⟨rb, nb, lb⟩ := rise_of hb
  obtain ⟨rl, nl⟩ := mergeL_rise h ra rb na nb
  obtain ⟨h1, h2, h3, h4, _⟩ := check_ok ha
  rw [check, if_neg (by omega), if_neg (by omega)]
  refine chk_of rl (fun x hx => lineErr_iff.2 ?_) (fun q hq => by cases hq)
  obtain ⟨z, hz, e1, e2⟩ := mergeL_keys h x hx
  have hzl : lineErr z = 0 := hz.elim (la z) (lb z)
  obtain ⟨p1, p2, p3, _, _⟩ := lineErr_ok hzl
  exact ⟨by omega, by omega, by rw [e2]; exact p3, nl x hx, mergeL_fits h (fun q hq => (lineErr_ok (la q hq)).2.2.2.2) (fun q hq => (lineErr_ok (lb q hq)).2.2.2.2) x hx⟩
/-- of three it is the same which two are merged first -/
theorem mergeL_assoc {a b c x y z w : List Ln} (ra : Rise a ∧ NonZ a) (rb : Rise b ∧ NonZ b) (rc : Rise c ∧ NonZ c) (h1 : mergeL a b = some x) (h2 : mergeL b c = some y) (h3 : mergeL x c = some z) (h4 : mergeL a y = some w) : z = w := by
  have rx := mergeL_rise h1 ra.1 rb.1 ra.2 rb.2
  have ry := mergeL_rise h2 rb.1 rc.1 rb.2 rc.2
  have rz := mergeL_rise h3 rx.1 rc.1 rx.2 rc.2
  have rw' := mergeL_rise h4 ra.1 ry.1 ra.2 ry.2
  refine val_inj rz.1 rw'.1 rz.2 rw'.2 fun p c' => ?_
  rw [mergeL_val h3, mergeL_val h1, mergeL_val h4, mergeL_val h2]; omega
/-- a list with what it lacks to nothing -/
def neg (l : List Ln) : List Ln := l.map fun x => ⟨x.part, x.code, -x.cents⟩
theorem mergeL_neg : ∀ l : List Ln, mergeL l (neg l) = some [] := by
  intro l
  induction l with
  | nil => rw [neg, List.map_nil, mergeL]
  | cons x r ih =>
    have hk : lnLt x ⟨x.part, x.code, -x.cents⟩ = false := by simp [lnLt, blt_irrefl]
    have hk' : lnLt ⟨x.part, x.code, -x.cents⟩ x = false := by simp [lnLt, blt_irrefl]
    rw [neg, List.map_cons, step_none hk hk' (by rw [show x.cents + -x.cents = 0 by omega]; rfl) (by simp only; omega)]
    exact ih
theorem check_neg {y i : Int} {l : List Ln} (h : check y i l = 0) : check y i (neg l) = 0 := by
  obtain ⟨h1, h2, h3, h4, h5, hc, hl⟩ := check_ok h
  obtain ⟨hr, _, _⟩ := rise_of h
  have hlen : (neg l).length = l.length := by simp [neg]
  rw [check, if_neg (by omega), if_neg (by omega)]
  refine chk_of ?_ (fun x hx => ?_) (fun q hq => by cases hq)
  · rw [Rise, neg, List.pairwise_map]
    exact hr.imp fun {p q} hpq => by simpa only [lnLt] using hpq
  · simp only [neg, List.mem_map] at hx
    obtain ⟨z, hz, rfl⟩ := hx
    obtain ⟨p1, p2, p3, p4, p5⟩ := lineErr_ok (hl z hz)
    have := (fits_iff _).1 p5
    exact lineErr_iff.2 ⟨p1, p2, p3, by simp only; omega, (fits_iff _).2 (by simp only; omega)⟩

end Wb
end Go.Proofs.Ytdfmlgjemfcmlaa
