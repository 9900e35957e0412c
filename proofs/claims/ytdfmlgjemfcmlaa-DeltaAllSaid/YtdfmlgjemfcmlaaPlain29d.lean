/- Plain facts for chapter 29: chains of differences, sums. -/
import Derived.Test.YtdfmlgjemfcmlaaPlain29c
namespace Go.Proofs.Ytdfmlgjemfcmlaa
namespace Wb

theorem none_false {y i : Int} {l : List Ln} (h : noneB y i l = false) : ¬ (y = 0 ∧ i = 0 ∧ l = []) := fun e => by rw [none_iff.2 e] at h; cases h
/-- the period of a difference that isn't the zero slip -/
theorem of_period {y i y' i' Y I : Int} {a b r : List Ln} (h0 : IsOf y i a y' i' b 0 Y I r) (hz : noneB Y I r = false) : 1900 ≤ Y ∧ Y ≤ 2199 ∧ 1 ≤ I ∧ I ≤ 400 ∧ (noneB y i a = false ∨ noneB y' i' b = false) ∧ (noneB y i a = false → Y = y ∧ I = i) ∧ (noneB y' i' b = false → Y = y' ∧ I = i') := by
  have k := of_ok h0
  rcases hb : noneB y' i' b with _ | _
  · have hY : Y = y' := by rw [k.hy, hb]; rfl
    have hI : I = i' := by rw [k.hi, hb]; rfl
    obtain ⟨h1, h2, h3, h4⟩ := ok_years (wrong_some k.wb hb)
    refine ⟨by omega, by omega, by omega, by omega, .inr rfl, fun ha => ?_, fun _ => ⟨hY, hI⟩⟩
    rcases k.per with q | q | q
    · rw [ha] at q; cases q
    · rw [hb] at q; cases q
    · omega
  · have hY : Y = y := by rw [k.hy, hb]; rfl
    have hI : I = i := by rw [k.hi, hb]; rfl
    rcases ha : noneB y i a with _ | _
    · obtain ⟨h1, h2, h3, h4⟩ := ok_years (wrong_some k.wa ha)
      exact ⟨by omega, by omega, by omega, by omega, .inl rfl, fun _ => ⟨hY, hI⟩, fun q => by cases q⟩
    · exfalso
      obtain ⟨rfl, rfl, rfl⟩ := none_iff.1 ha
      obtain ⟨_, _, rfl⟩ := none_iff.1 hb
      have := k.del.self
      subst this
      rw [hY, hI] at hz
      exact none_false hz ⟨rfl, rfl, rfl⟩
theorem fit_all {r : List Ln} (hr : Rise r) (hf : ∀ x ∈ r, fits x.cents = true) (p : Int) (c : List UInt8) : fits (lval p c r) = true := by
  by_cases hm : ∃ x ∈ r, x.part = p ∧ x.code = c
  · obtain ⟨x, hx, rfl, rfl⟩ := hm
    rw [lval_mem hr hx]; exact hf x hx
  · rw [lval_none fun x hx e => hm ⟨x, hx, e⟩]; decide
/-- the difference of the first and the third is both differences, merged -/
theorem of_chain {y i y' i' y'' i'' Y I Y' I' Y'' I'' : Int} {a b c r s t : List Ln} (h1 : IsOf y i a y' i' b 0 Y I r) (h2 : IsOf y' i' b y'' i'' c 0 Y' I' s) (h3 : IsOf y i a y'' i'' c 0 Y'' I'' t)
    (z1 : noneB Y I r = false) (z2 : noneB Y' I' s = false) (z3 : noneB Y'' I'' t = false) : merge Y I r Y' I' s = (0, Y'', I'', t) := by
  have k1 := of_ok h1
  have k2 := of_ok h2
  have k3 := of_ok h3
  obtain ⟨p1, p2, p3, p4, o1, f1, g1⟩ := of_period h1 z1
  obtain ⟨q1, q2, q3, q4, o2, f2, g2⟩ := of_period h2 z2
  obtain ⟨_, _, _, _, o3, f3, g3⟩ := of_period h3 z3
  have ra := wrong_ok k1.wa
  have rb := wrong_ok k1.wb
  have rc := wrong_ok k2.wb
  have hc1 : check Y I r = 0 := check_of ⟨p1, p2, p3, p4⟩ k1.del.rise (delta_right k1.del ra.2.2 rb.2.2 k1.fit) k1.few
  have hc2 : check Y' I' s = 0 := check_of ⟨q1, q2, q3, q4⟩ k2.del.rise (delta_right k2.del rb.2.2 rc.2.2 k2.fit) k2.few
  have hper : Y = Y' ∧ I = I' ∧ Y = Y'' ∧ I = I'' := by
    rcases hb : noneB y' i' b with _ | _
    · have e1 := g1 hb
      have e2 := f2 hb
      rcases o3 with h | h
      · have := f1 h; have := f3 h; omega
      · have := g2 h; have := g3 h; omega
    · have ha : noneB y i a = false := o1.elim id fun h => by rw [hb] at h; cases h
      have hc : noneB y'' i'' c = false := o2.elim (fun h => by rw [hb] at h; cases h) id
      have := f1 ha; have := g2 hc; have := f3 ha; have := g3 hc
      omega
  obtain ⟨rfl, rfl, rfl, rfl⟩ := hper
  have hm : mergeL r s = some t := by
    obtain ⟨l, hl⟩ := mergeL_some k1.del.rise k2.del.rise fun p d => by
      rw [k1.del.val, k2.del.val, show lval p d b - lval p d a + (lval p d c - lval p d b) = lval p d c - lval p d a by omega, ← k3.del.val]
      exact fit_all k3.del.rise k3.fit p d
    obtain ⟨l1, l2⟩ := mergeL_rise hl k1.del.rise k2.del.rise k1.del.nonz k2.del.nonz
    rw [hl, val_inj l1 k3.del.rise l2 k3.del.nonz fun p d => by rw [mergeL_val hl, k1.del.val, k2.del.val, k3.del.val]; omega]
  unfold merge
  have hfew := k3.few
  rw [if_neg (by rw [hc1]; decide), if_neg (by rw [hc2]; decide), if_neg (by omega), hm]
  simp only
  rw [if_neg (by omega)]

/-- a list of slips: their nets, added -/
structure Sl where
  y : Int
  i : Int
  v : Value
  l : List Ln
def netF : Int → List Sl → Int × Int
  | acc, [] => (acc, 0)
  | acc, s :: r => if noneB s.y s.i s.l = true then netF acc r
    else if (sums s.y s.i s.l).2.2.2.2 ≠ 0 then (0, (sums s.y s.i s.l).2.2.2.2)
    else if fits (acc + (sums s.y s.i s.l).2.2.1) = false then (0, 9) else netF (acc + (sums s.y s.i s.l).2.2.1) r

end Wb
end Go.Proofs.Ytdfmlgjemfcmlaa
