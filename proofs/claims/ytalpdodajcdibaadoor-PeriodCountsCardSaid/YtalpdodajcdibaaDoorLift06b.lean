/- Three days as an argument. -/
import Derived.Test.YtalpdodajcdibaaDoorLift06
namespace Go.Proofs.YtalpdodajcdibaaDoor
open Go.Joins Go.ChangeShapes Go.WideShapes Go.ChangeAt Go.RowKit Go.Deep

section
variable {H : Type} {enc : TypeId × Value → H} {W : World} {r : Reach} {b0 base : Nat} {spare : Nat → Bool} {held : Bool} {v : Value} {d : DataW H} {p : List MemPlace}
set_option maxRecDepth 100000 in
theorem open_days (hv : Value.okWide Tryd.prog W r b0 52 v) (h : DataW.Trod enc Tryd.prog W base spare held 52 v d p) : ∃ a b c : Int, v = .agg #[.int .i64 a, .int .i64 b, .int .i64 c] := by
  simp only [Value.okWide, Tryd.underlying52] at hv
  obtain ⟨cs, rfl, hsz, _⟩ := hv
  obtain ⟨c0, c1, c2, rfl⟩ := array3 (hsz.trans cells3d)
  obtain ⟨fuel, hf⟩ := h
  cases fuel with
  | zero => simp [DataW.trod] at hf
  | succ fuel =>
    simp only [DataW.trod, Tryd.underlying52, cells3d, cellsDay] at hf
    split at hf
    · obtain ⟨xs, hm, _⟩ := Option.map_eq_some_iff.1 hf
      have h3 : ∀ i, i < 3 → ∃ b, DataW.trod enc Tryd.prog W base spare held fuel 22 (([c0, c1, c2].drop i).take 1) = some b := fun i hi => by
        obtain ⟨b, _, hb⟩ := Lib.mapM_at hm i i (by simp [hi])
        exact ⟨b, by simpa [Value.cells] using hb⟩
      obtain ⟨x0, g0⟩ := h3 0 (by decide)
      obtain ⟨x1, g1⟩ := h3 1 (by decide)
      obtain ⟨x2, g2⟩ := h3 2 (by decide)
      obtain ⟨z0, rfl, _⟩ := int_of Tryd.underlying22 (u := c0) g0 (by simp)
      obtain ⟨z1, rfl, _⟩ := int_of Tryd.underlying22 (u := c1) g1 (by simp)
      obtain ⟨z2, rfl, _⟩ := int_of Tryd.underlying22 (u := c2) g2 (by simp)
      exact ⟨z0, z1, z2, rfl⟩
    · cases hf
end

end Go.Proofs.YtalpdodajcdibaaDoor
