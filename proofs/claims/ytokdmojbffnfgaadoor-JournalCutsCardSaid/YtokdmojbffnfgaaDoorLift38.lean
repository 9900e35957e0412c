/- What the laws of chapter 38 want besides their walks: lists of texts as arguments, the tables. -/
import Derived.Test.YtokdmojbffnfgaaDoorCards
import Derived.Test.YtokdmojbffnfgaaDoorTie
import Derived.Test.YtokdmojbffnfgaaDoorLift
import Derived.Test.YtokdmojbffnfgaaDoorJrn11
import Derived.WalkKit
import Derived.Deep.DeepHandedRow
import Derived.Lib.LaidTab
import Derived.LaidSub
import Derived.SizedLaws
import Derived.MakeChecks
import Derived.SliceStrings
import Derived.ChangeSame
import Derived.Lib.SmallJoins
import Derived.FnData
namespace Go.Proofs.YtokdmojbffnfgaaDoor
open Go.Joins Go.ChangeShapes Go.WideShapes Go.ChangeAt Go.RowKit

section
variable {H : Type} {enc : TypeId × Value → H} {W : World} {r : Reach} {b0 base : Nat} {spare : Nat → Bool} {held : Bool} {v : Value} {d : DataW H} {p : List MemPlace}
set_option maxRecDepth 100000 in
theorem open_strs (hv : Value.okWide Tryd.prog W r b0 22 v) (h : DataW.Trod enc Tryd.prog W base spare held 22 v d p) :
    ∃ l, Strs1 W v l ∧ l.length ≤ 9223372036854775807 ∧ ∀ s ∈ l, s.length ≤ 9223372036854775807 := by
  obtain ⟨x, n, c, rfl⟩ := okWide_slice Tryd.underlying22 hv
  obtain ⟨fuel, hf⟩ := h
  rcases open_strings Tryd.underlying22 Tryd.underlying9 (by kernel_rfl) hf with ⟨hcs, _⟩ | ⟨a, len, cap, ss, hcs, _, hl, hm, hlen, _, hcell, hsz⟩
  · simp [Value.cells] at hcs
    obtain ⟨rfl, rfl, rfl⟩ := hcs
    exact ⟨[], .inl ⟨rfl, _, _, rfl⟩, by simp, by simp⟩
  · simp [Value.cells] at hcs
    obtain ⟨rfl, rfl, rfl⟩ := hcs
    have hn : n ≤ ss.length := by rw [hlen]; split <;> omega
    have hm2 : c ≤ 9223372036854775807 := hm
    refine ⟨(ss.take n).map (·.data.toList), ?_, by simp; omega, ?_⟩
    · by_cases h0 : n = 0
      · subst h0; exact .inl ⟨by simp, _, _, rfl⟩
      · obtain ⟨b, off, spot⟩ := a
        have hspot : spot = none := by simpa [Addr.add] using World.cell?_spot (hcell 0 (by omega))
        subst hspot
        have hl2 : ((ss.take n).map (·.data.toList)).length = n := by simp; omega
        refine .inr ⟨b, off, c, by rw [hl2], fun j s hj i u hu => ?_⟩
        have hj2 : j < n := by have := (List.getElem?_eq_some_iff.1 hj).1; omega
        match i, hu with
        | 0, hu =>
          simp [strc] at hu; subst hu
          rw [List.getElem?_map, List.getElem?_take_of_lt hj2] at hj
          obtain ⟨z, hz, rfl⟩ := Option.map_eq_some_iff.1 hj
          have h1 := hcell j (by omega)
          rw [Go.WideShapes.add_plain, List.getD_eq_getElem?_getD, hz, Option.getD_some] at h1
          rw [Nat.mul_one, Nat.add_zero, h1]; simp [Wb.S]
        | i + 1, hu => simp [strc] at hu
    · intro s hs
      obtain ⟨z, hz, rfl⟩ := List.mem_map.1 hs
      have := hsz z (List.mem_of_mem_take hz)
      unfold maxLen at this
      simpa using this
end

theorem bounds_u32 {n : Int} (h : (Lit.int .u32 n).wf = true) : 0 ≤ n ∧ n ≤ 4294967295 := by
  simp [Lit.wf, IntKind.min, IntKind.max, IntKind.signed, IntKind.bits] at h; omega
theorem bounds_u8 {n : Int} (h : (Lit.int .u8 n).wf = true) : 0 ≤ n ∧ n ≤ 255 := by
  simp [Lit.wf, IntKind.min, IntKind.max, IntKind.signed, IntKind.bits] at h; omega

/-! ### the tables -/
theorem g10T : (Tryd.prog.globals[1]?).map (·.type) = some 89 := by kernel_rfl
theorem cells20 : Tryd.prog.cellsOf 89 = 20 := by kernel_rfl
theorem cells1u : Tryd.prog.cellsOf 25 = 1 := by kernel_rfl
theorem tab10_of {W : World} {rest : List (String × DataW Unit)} (h : laidMet Tryd.prog (("internal/strconv.uint64pow10", Rows.laid_internal_strconv_uint64pow10) :: rest) W) : Tab10 W :=
  Lib.tabIs_of_head g10 g10T Tryd.underlying89 Tryd.underlying25 cells1u cells20 h
theorem tables_of {W : World} {l : List (String × DataW Unit)} (h : laidMet Tryd.prog l W) (h3 : (l.filter fun x => x.1 == "internal/strconv.uint64pow10") = [("internal/strconv.uint64pow10", Rows.laid_internal_strconv_uint64pow10)]) : Tab10 W := by
  have := laidMet.filter (fun x => x.1 == "internal/strconv.uint64pow10") h
  rw [h3] at this; exact tab10_of this

/-! ### a world for the witness: the settled one, the tables laid -/
def flatLits : DataW Unit → List Value
  | .agg parts => parts.flatMap fun
    | .lit (.int k z) => [.int k z]
    | .lit (.string b) => [.string ⟨b.toArray⟩]
    | .agg qs => qs.map fun
      | .lit (.int k z) => .int k z
      | _ => .bool false
    | _ => [.bool false]
  | _ => []
def layAt (g : Nat) (d : DataW Unit) (heap : Array Obj) : Array Obj := heap.modify g fun
  | .cells _ t frozen => .cells (flatLits d).toArray t frozen
  | o => o
noncomputable def laidWorld (os : Os) : World :=
  { World.holding Tryd.prog os ⟨#[], #[], []⟩ with heap := layAt 4 Rows.laid_math_bits_deBruijn32tab (layAt 5 Rows.laid_math_bits_deBruijn64tab (layAt 1 Rows.laid_internal_strconv_uint64pow10 (layAt 3 Rows.laid_unicode_utf8_acceptRanges (layAt 2 Rows.laid_unicode_utf8_first (World.holding Tryd.prog os ⟨#[], #[], []⟩).heap)))) }

end Go.Proofs.YtokdmojbffnfgaaDoor
