/- Plain facts for chapter 29: how the reference makes a difference: line by line put into a list that rises. -/
import Derived.Test.YtdfmlgjemfcmlaaPlain29
namespace Go.Proofs.Ytdfmlgjemfcmlaa
namespace Wb

/-- a line into some that rise, once -/
def putL : List Ln → Ln → List Ln
  | [], x => [x]
  | z :: r, x => if lnLt z x = true then z :: putL r x else if z.part = x.part ∧ z.code = x.code then z :: r else x :: z :: r
theorem putL_same : ∀ {l : List Ln} {k : Nat} {x z : Ln}, (∀ t u, l[t]? = some u → t < k → lnLt u x = true) → l[k]? = some z → z.part = x.part → z.code = x.code → putL l x = l
  | [], k, x, z, _, h, _, _ => by simp at h
  | u :: r, 0, x, z, _, h, e1, e2 => by
    simp at h; subst h
    have hl : lnLt u x = false := by rw [lnLt_key e1 e2 (rfl : x.part = x.part) rfl]; exact lnLt_irrefl x
    rw [putL, if_neg (by rw [hl]; exact Bool.false_ne_true), if_pos ⟨e1, e2⟩]
  | u :: r, k + 1, x, z, ha, h, e1, e2 => by
    rw [putL, if_pos (ha 0 u rfl (by omega))]
    congr 1
    exact putL_same (fun t v hv ht => ha (t + 1) v hv (by omega)) h e1 e2
theorem putL_new : ∀ {l : List Ln} {k : Nat} {x : Ln}, k ≤ l.length → (∀ t u, l[t]? = some u → t < k → lnLt u x = true) → (∀ z, l[k]? = some z → lnLt z x = false ∧ ¬ (z.part = x.part ∧ z.code = x.code)) → putL l x = l.take k ++ x :: l.drop k
  | [], k, x, hk, _, _ => by simp [putL]
  | u :: r, 0, x, _, _, h => by
    obtain ⟨h1, h2⟩ := h u rfl
    rw [putL, if_neg (by rw [h1]; exact Bool.false_ne_true), if_neg h2]; rfl
  | u :: r, k + 1, x, hk, ha, h => by
    rw [putL, if_pos (ha 0 u rfl (by omega))]
    rw [putL_new (k := k) (by simpa using hk) (fun t v hv ht => ha (t + 1) v hv (by omega)) h]; rfl
theorem mem_put : ∀ {l : List Ln} {y x : Ln}, x ∈ putL l y → x = y ∨ x ∈ l
  | [], y, x, h => by simp [putL] at h; exact .inl h
  | z :: r, y, x, h => by
    rw [putL] at h
    split at h
    · rcases List.mem_cons.1 h with rfl | h
      · exact .inr (by simp)
      · rcases mem_put h with e | e
        · exact .inl e
        · exact .inr (by simp [e])
    · split at h
      · exact .inr h
      · rcases List.mem_cons.1 h with rfl | h
        · exact .inl rfl
        · exact .inr h
theorem put_mem : ∀ {l : List Ln} {y x : Ln}, x ∈ l → x ∈ putL l y
  | z :: r, y, x, h => by
    rw [putL]
    split
    · rcases List.mem_cons.1 h with rfl | h
      · simp
      · simp [put_mem h]
    · split
      · exact h
      · simp [List.mem_cons.1 h]
theorem put_has : ∀ (l : List Ln) (y : Ln), ∃ x ∈ putL l y, x.part = y.part ∧ x.code = y.code
  | [], y => ⟨y, by simp [putL], rfl, rfl⟩
  | z :: r, y => by
    rw [putL]
    split
    · obtain ⟨x, hx, e⟩ := put_has r y
      exact ⟨x, by simp [hx], e⟩
    · split
      · rename_i h; exact ⟨z, by simp, h⟩
      · exact ⟨y, by simp, rfl, rfl⟩
theorem rise_put : ∀ {l : List Ln} (y : Ln), Rise l → Rise (putL l y)
  | [], y, _ => by simp [putL, Rise]
  | z :: r, y, h => by
    obtain ⟨h1, h2⟩ := List.pairwise_cons.1 h
    rw [putL]
    split
    · rename_i hzy
      refine List.pairwise_cons.2 ⟨fun u hu => ?_, rise_put y h2⟩
      rcases mem_put hu with rfl | hu
      · exact hzy
      · exact h1 u hu
    · split
      · exact h
      · rename_i hzy hs
        have hyz : lnLt y z = true := by
          rcases hq : lnLt y z with _ | _
          · exact absurd (lnLt_total (by simpa using hzy) hq) hs
          · rfl
        refine List.pairwise_cons.2 ⟨fun u hu => ?_, h⟩
        rcases List.mem_cons.1 hu with rfl | hu
        · exact hyz
        · exact lnLt_trans hyz (h1 u hu)
/-- what is told of a line's key -/
def dv (a b : List Ln) (z : Ln) : Int := lval z.part z.code b - lval z.part z.code a
def dStep (a b r : List Ln) (z : Ln) : List Ln := if dv a b z = 0 then r else putL r ⟨z.part, z.code, dv a b z⟩
def deltaL (a b : List Ln) : List Ln := (a ++ b).foldl (dStep a b) []
structure SoD (a b p r : List Ln) : Prop where
  rise : Rise r
  ok : ∀ x ∈ r, x.cents = dv a b x ∧ x.cents ≠ 0
  all : ∀ z ∈ p, dv a b z ≠ 0 → ∃ x ∈ r, x.part = z.part ∧ x.code = z.code
theorem soD_nil (a b : List Ln) : SoD a b [] [] := ⟨List.Pairwise.nil, (fun x hx => by cases hx), (fun x hx => by cases hx)⟩
theorem soD_step {a b p r : List Ln} (h : SoD a b p r) (z : Ln) : SoD a b (p ++ [z]) (dStep a b r z) := by
  unfold dStep
  by_cases hz : dv a b z = 0
  · rw [if_pos hz]
    refine ⟨h.rise, h.ok, fun x hx hn => ?_⟩
    rcases List.mem_append.1 hx with q | q
    · exact h.all x q hn
    · simp at q; subst q; exact absurd hz hn
  · rw [if_neg hz]
    refine ⟨rise_put _ h.rise, fun x hx => ?_, fun x hx hn => ?_⟩
    · rcases mem_put hx with rfl | q
      · exact ⟨rfl, hz⟩
      · exact h.ok x q
    · rcases List.mem_append.1 hx with q | q
      · obtain ⟨u, hu, e⟩ := h.all x q hn
        exact ⟨u, put_mem hu, e⟩
      · simp at q; subst q; exact put_has _ _
theorem soD_fold {a b : List Ln} : ∀ (q p r : List Ln), SoD a b p r → SoD a b (p ++ q) (q.foldl (dStep a b) r)
  | [], p, r, h => by simpa using h
  | z :: q, p, r, h => by
    have := soD_fold q (p ++ [z]) _ (soD_step h z)
    simpa using this
theorem soD_end {a b p r : List Ln} (h : SoD a b p r) (hp : ∀ z, z ∈ a ∨ z ∈ b → z ∈ p) : IsDelta a b r := by
  refine ⟨h.rise, fun x hx => (h.ok x hx).2, fun p' c => ?_⟩
  by_cases hz : lval p' c b - lval p' c a = 0
  · rw [hz]
    refine lval_none fun x hx e => ?_
    obtain ⟨h1, h2⟩ := h.ok x hx
    rw [dv, e.1, e.2, hz] at h1
    exact h2 h1
  · have hk : ∃ z, (z ∈ a ∨ z ∈ b) ∧ z.part = p' ∧ z.code = c := by
      by_cases h1 : ∃ x ∈ b, x.part = p' ∧ x.code = c
      · obtain ⟨x, hx, e⟩ := h1; exact ⟨x, .inr hx, e⟩
      · by_cases h2 : ∃ x ∈ a, x.part = p' ∧ x.code = c
        · obtain ⟨x, hx, e⟩ := h2; exact ⟨x, .inl hx, e⟩
        · exfalso; apply hz
          rw [lval_none fun x hx e => h1 ⟨x, hx, e⟩, lval_none fun x hx e => h2 ⟨x, hx, e⟩]; rfl
    obtain ⟨z, hm, rfl, rfl⟩ := hk
    obtain ⟨x, hx, e1, e2⟩ := h.all z (hp z hm) hz
    have := lval_mem h.rise hx
    rw [e1, e2] at this
    rw [this, (h.ok x hx).1, dv, e1, e2]
theorem delta_is (a b : List Ln) : IsDelta a b (deltaL a b) :=
  soD_end (soD_fold (a ++ b) [] [] (soD_nil a b)) (fun z h => by simpa using h)
/-- a line of a difference is of a key that one of both has -/
theorem delta_key {a b r : List Ln} (h : IsDelta a b r) {x : Ln} (hx : x ∈ r) : x.cents = dv a b x ∧ ∃ z ∈ a ++ b, z.part = x.part ∧ z.code = x.code := by
  have h1 := lval_mem h.rise hx
  have h2 := h.val x.part x.code
  have h3 := h.nonz x hx
  refine ⟨by rw [dv, ← h2, h1], ?_⟩
  by_cases hb : ∃ z ∈ b, z.part = x.part ∧ z.code = x.code
  · obtain ⟨z, hz, e⟩ := hb; exact ⟨z, by simp [hz], e⟩
  · by_cases ha : ∃ z ∈ a, z.part = x.part ∧ z.code = x.code
    · obtain ⟨z, hz, e⟩ := ha; exact ⟨z, by simp [hz], e⟩
    · exfalso
      rw [h1, lval_none fun z hz e => hb ⟨z, hz, e⟩, lval_none fun z hz e => ha ⟨z, hz, e⟩] at h2
      exact h3 h2
theorem delta_fits {a b r : List Ln} (h : IsDelta a b r) (hf : ∀ z ∈ a ++ b, fits (dv a b z) = true) : ∀ x ∈ r, fits x.cents = true := fun x hx => by
  obtain ⟨h1, z, hz, e1, e2⟩ := delta_key h hx
  have := hf z hz
  rw [dv, e1, e2] at this
  rw [h1]; exact this
theorem delta_unfit {a b : List Ln} {z : Ln} (_ : z ∈ a ++ b) (hf : fits (dv a b z) = false) : ∃ x ∈ deltaL a b, fits x.cents = false := by
  have h := delta_is a b
  have hn : dv a b z ≠ 0 := by intro e; rw [e] at hf; revert hf; decide
  have hv := h.val z.part z.code
  by_cases hm : ∃ x ∈ deltaL a b, x.part = z.part ∧ x.code = z.code
  · obtain ⟨x, hx, e1, e2⟩ := hm
    have h1 := lval_mem h.rise hx
    rw [e1, e2, hv] at h1
    exact ⟨x, hx, by rw [← h1]; exact hf⟩
  · exfalso
    rw [lval_none fun x hx e => hm ⟨x, hx, e⟩] at hv
    exact hn hv.symm

end Wb
end Go.Proofs.Ytdfmlgjemfcmlaa
