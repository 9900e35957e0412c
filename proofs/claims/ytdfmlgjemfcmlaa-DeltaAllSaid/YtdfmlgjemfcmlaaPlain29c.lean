/- Plain facts for chapter 29: what the differences of slips come to, one against the other. -/
import Derived.Test.YtdfmlgjemfcmlaaPlain29b
namespace Go.Proofs.Ytdfmlgjemfcmlaa
namespace Wb

/-- the difference, as a function -/
def ofF (y i : Int) (a : List Ln) (y' i' : Int) (b : List Ln) : Int × Int × Int × List Ln :=
  if wrongE y i a ≠ 0 then (wrongE y i a, 0, 0, [])
  else if wrongE y' i' b ≠ 0 then (wrongE y' i' b, 0, 0, [])
  else if noneB y i a = false ∧ noneB y' i' b = false ∧ (y ≠ y' ∨ i ≠ i') then (18, 0, 0, [])
  else if (deltaL a b).any (fun x => !fits x.cents) = true then (9, 0, 0, [])
  else if 448 < (deltaL a b).length then (5, 0, 0, [])
  else (0, if noneB y' i' b = true then y else y', if noneB y' i' b = true then i else i', deltaL a b)
theorem ofF_is (y i : Int) (a : List Ln) (y' i' : Int) (b : List Ln) : IsOf y i a y' i' b (ofF y i a y' i' b).1 (ofF y i a y' i' b).2.1 (ofF y i a y' i' b).2.2.1 (ofF y i a y' i' b).2.2.2 := by
  unfold ofF
  split
  · rename_i h; exact .bad1 h
  · rename_i h1
    have h1 : wrongE y i a = 0 := by omega
    split
    · rename_i h; exact .bad2 h1 h
    · rename_i h2
      have h2 : wrongE y' i' b = 0 := by omega
      split
      · rename_i h; exact .state h1 h2 h.1 h.2.1 h.2.2
      · rename_i h3
        have h3 : noneB y i a = true ∨ noneB y' i' b = true ∨ (y = y' ∧ i = i') := by
          rcases hn : noneB y i a with _ | _
          · rcases hm : noneB y' i' b with _ | _
            · refine .inr (.inr ?_)
              have : ¬ (y ≠ y' ∨ i ≠ i') := fun q => h3 ⟨hn, hm, q⟩
              omega
            · exact .inr (.inl rfl)
          · exact .inl rfl
        split
        · rename_i h
          exact .over _ h1 h2 h3 (delta_is a b) (by simpa using h)
        · rename_i h4
          have h4 : ∀ x ∈ deltaL a b, fits x.cents = true := by simpa using h4
          split
          · rename_i h; exact .many _ h1 h2 h3 (delta_is a b) h4 h
          · rename_i h; exact .ok _ h1 h2 h3 (delta_is a b) h4 (Nat.le_of_not_lt h)
theorem of_eq {y i y' i' E Y I : Int} {a b r : List Ln} (h : IsOf y i a y' i' b E Y I r) : ofF y i a y' i' b = (E, Y, I, r) := by
  obtain ⟨h1, h2, h3, h4⟩ := (ofF_is y i a y' i' b).uniq h
  rcases hf : ofF y i a y' i' b with ⟨e, p, q, l⟩
  rw [hf] at h1 h2 h3 h4
  simp only at h1 h2 h3 h4
  rw [h1, h2, h3, h4]
theorem of_bad {y i y' i' E Y I : Int} {a b r : List Ln} (h : IsOf y i a y' i' b E Y I r) (he : E ≠ 0) : Y = 0 ∧ I = 0 ∧ r = [] := by
  cases h <;> first | exact ⟨rfl, rfl, rfl⟩ | exact absurd rfl he
structure OfOk (y i : Int) (a : List Ln) (y' i' : Int) (b : List Ln) (Y I : Int) (r : List Ln) : Prop where
  wa : wrongE y i a = 0
  wb : wrongE y' i' b = 0
  per : noneB y i a = true ∨ noneB y' i' b = true ∨ (y = y' ∧ i = i')
  del : IsDelta a b r
  fit : ∀ x ∈ r, fits x.cents = true
  few : r.length ≤ 448
  hy : Y = if noneB y' i' b = true then y else y'
  hi : I = if noneB y' i' b = true then i else i'
theorem of_ok {y i y' i' Y I : Int} {a b r : List Ln} (h : IsOf y i a y' i' b 0 Y I r) : OfOk y i a y' i' b Y I r := by
  generalize he : (0 : Int) = E at h
  cases h with
  | bad1 h1 => exact absurd he.symm h1
  | bad2 _ h1 => exact absurd he.symm h1
  | state => cases he
  | over => cases he
  | many => cases he
  | ok r h1 h2 h3 h4 h5 h6 => exact ⟨h1, h2, h3, h4, h5, h6, rfl, rfl⟩
theorem of_self {y i y' i' E Y I : Int} {a r : List Ln} {E' Y' I' : Int} {r' b : List Ln} (h0 : IsOf y i a y' i' b 0 Y I r) (h : IsOf y i a y i a E' Y' I' r') : E' = 0 ∧ r' = [] := by
  have k := of_ok h0
  have hd := delta_is a a
  have hn := hd.self
  rw [hn] at hd
  obtain ⟨e1, _, _, e2⟩ := h.uniq (.ok [] k.wa k.wa (.inr (.inr ⟨rfl, rfl⟩)) hd (fun x hx => by cases hx) (by simp))
  exact ⟨e1, e2⟩
theorem of_turn {y i y' i' Y I : Int} {a b r : List Ln} {E' Y' I' : Int} {r' : List Ln} (h0 : IsOf y i a y' i' b 0 Y I r) (h : IsOf y' i' b y i a E' Y' I' r') : E' = 0 ∧ r' = neg r := by
  have k := of_ok h0
  obtain ⟨e1, _, _, e2⟩ := h.uniq (.ok (neg r) k.wb k.wa (by rcases k.per with q | q | ⟨q1, q2⟩; exact .inr (.inl q); exact .inl q; exact .inr (.inr ⟨q1.symm, q2.symm⟩)) k.del.turn (fun x hx => by
    obtain ⟨z, hz, rfl⟩ := List.mem_map.1 hx
    have := (fits_iff _).1 (k.fit z hz)
    exact (fits_iff _).2 (by simp only; omega)) (by simpa [neg] using k.few))
  exact ⟨e1, e2⟩
/-- nothing was: the difference is what is now -/
theorem of_none {y i y' i' Y I : Int} {a b r : List Ln} (h0 : IsOf y i a y' i' b 0 Y I r) (hn : noneB y i a = true) (hb : noneB y' i' b = false) : Y = y' ∧ I = i' ∧ r = b := by
  have k := of_ok h0
  obtain ⟨_, _, rfl⟩ := none_iff.1 hn
  have hw := wrong_ok k.wb
  refine ⟨by rw [k.hy, hb]; rfl, by rw [k.hi, hb]; rfl, k.del.from_nil hw.1 hw.2.1⟩
theorem delta_right {a b r : List Ln} (h : IsDelta a b r) (ha : ∀ x ∈ a, lineErr x = 0) (hb : ∀ x ∈ b, lineErr x = 0) (hf : ∀ x ∈ r, fits x.cents = true) : ∀ x ∈ r, lineErr x = 0 := fun x hx => by
  obtain ⟨_, z, hz, e1, e2⟩ := delta_key h hx
  have hk : lineErr z = 0 := (List.mem_append.1 hz).elim (ha z) (hb z)
  obtain ⟨k1, k2, k3, _, _⟩ := lineErr_iff.1 hk
  exact lineErr_iff.2 ⟨by rw [← e1]; exact k1, by rw [← e1]; exact k2, by rw [← e2]; exact k3, h.nonz x hx, hf x hx⟩
theorem check_of {Y I : Int} {r : List Ln} (hy : 1900 ≤ Y ∧ Y ≤ 2199 ∧ 1 ≤ I ∧ I ≤ 400) (hr : Rise r) (hl : ∀ x ∈ r, lineErr x = 0) (hn : r.length ≤ 448) : check Y I r = 0 := by
  unfold check
  rw [if_neg (by omega), if_neg (by omega)]
  exact chk_of hr hl (fun q e => by cases e)
theorem ok_years {y i : Int} {l : List Ln} (h : check y i l = 0) : 1900 ≤ y ∧ y ≤ 2199 ∧ 1 ≤ i ∧ i ≤ 400 := by
  obtain ⟨h1, h2, h3, h4, _⟩ := check_ok h
  omega
/-- what was and its difference, merged, is what is now -/
theorem of_back {y i y' i' Y I : Int} {a b r : List Ln} (h0 : IsOf y i a y' i' b 0 Y I r) (ha : noneB y i a = false) (hb : noneB y' i' b = false) : Y = y' ∧ I = i' ∧ check Y I r = 0 ∧ mergeL a r = some b ∧ merge y i a Y I r = (0, y', i', b) := by
  have k := of_ok h0
  have hca := wrong_some k.wa ha
  have hcb := wrong_some k.wb hb
  have ra := wrong_ok k.wa
  have rb := wrong_ok k.wb
  obtain ⟨e1, e2⟩ : y = y' ∧ i = i' := by
    rcases k.per with q | q | q
    · rw [ha] at q; cases q
    · rw [hb] at q; cases q
    · exact q
  have hY : Y = y' := by rw [k.hy, hb]; rfl
  have hI : I = i' := by rw [k.hi, hb]; rfl
  have hcr : check Y I r = 0 := check_of (by rw [hY, hI]; exact ok_years hcb) k.del.rise (delta_right k.del ra.2.2 rb.2.2 k.fit) k.few
  have hfb : ∀ p c, fits (lval p c b) = true := fun p c => by
    by_cases hm : ∃ x ∈ b, x.part = p ∧ x.code = c
    · obtain ⟨x, hx, rfl, rfl⟩ := hm
      rw [lval_mem rb.1 hx]; exact (lineErr_iff.1 (rb.2.2 x hx)).2.2.2.2
    · rw [lval_none fun x hx e => hm ⟨x, hx, e⟩]; decide
  have hm : mergeL a r = some b := by
    obtain ⟨l, hl⟩ := mergeL_some ra.1 k.del.rise fun p c => by
      rw [k.del.val, show lval p c a + (lval p c b - lval p c a) = lval p c b by omega]; exact hfb p c
    obtain ⟨l1, l2⟩ := mergeL_rise hl ra.1 k.del.rise ra.2.1 k.del.nonz
    rw [hl, val_inj l1 rb.1 l2 rb.2.1 fun p c => by rw [mergeL_val hl, k.del.val]; omega]
  have hlb : b.length ≤ 448 := (check_ok hcb).2.2.2.2.1
  refine ⟨hY, hI, hcr, hm, ?_⟩
  unfold merge
  subst e1
  subst e2
  rw [if_neg (by rw [hca]; decide), if_neg (by rw [hcr]; decide), hY, hI, if_neg (by omega), hm]
  simp only
  rw [if_neg (by omega)]

end Wb
end Go.Proofs.Ytdfmlgjemfcmlaa
