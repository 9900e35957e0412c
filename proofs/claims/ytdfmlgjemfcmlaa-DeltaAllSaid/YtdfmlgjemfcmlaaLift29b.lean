/- What the law DeltaAll of chapter 29 wants besides: a list of slips is none, or has a place. -/
import Derived.Test.YtdfmlgjemfcmlaaLift29
import Derived.Test.YtdfmlgjemfcmlaaDLawAll
namespace Go.Proofs.Ytdfmlgjemfcmlaa
open Go.Joins Go.ChangeShapes Go.WideShapes Go.ChangeAt Go.RowKit Go.Deep

set_option maxRecDepth 100000 in
theorem open_nilor {H : Type} {enc : TypeId × Value → H} {W : World} {base : Nat} {spare : Nat → Bool} {held : Bool} {xa : Option Addr} {xl xc : Nat} {y : DataW H} {p : List MemPlace}
    (h : DataW.Trod enc Try.prog W base spare held 25 (.slice xa xl xc) y p) : NilOr (.slice xa xl xc) := by
  obtain ⟨fuel, h⟩ := h
  rcases open_slice_recs Try.underlying25 Try.underlying24 (by kernel_rfl) (by rw [cellsSlip]; rfl) h with ⟨hu, _⟩ | ⟨a, len, cap, D, rest, hu, _⟩
  · simp [Value.cells] at hu
    obtain ⟨rfl, rfl, rfl⟩ := hu
    exact .inl rfl
  · simp [Value.cells] at hu
    obtain ⟨rfl, rfl, rfl⟩ := hu
    exact .inr ⟨_, _, _, rfl⟩
end Go.Proofs.Ytdfmlgjemfcmlaa
