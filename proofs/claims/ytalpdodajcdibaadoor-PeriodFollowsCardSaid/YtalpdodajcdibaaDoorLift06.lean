/- What the laws of chapter 6 want besides their walks: calendars and periods as arguments, the tables. -/
import Derived.Test.YtalpdodajcdibaaDoorCards
import Derived.Test.YtalpdodajcdibaaDoorTie
import Derived.Test.YtalpdodajcdibaaDoorLift
import Derived.Test.YtalpdodajcdibaaDoorPLaw0
import Derived.WalkKit
import Derived.Deep.DeepHandedRow
import Derived.Lib.LaidTab
import Derived.LaidSub
import Derived.SizedLaws
import Derived.MakeChecks
import Derived.Deep.Slices
import Derived.Deep.Fields
import Derived.ChangeSame
import Derived.Lib.SmallJoins
import Derived.FnData
namespace Go.Proofs.YtalpdodajcdibaaDoor
open Go.Joins Go.ChangeShapes Go.WideShapes Go.ChangeAt Go.RowKit Go.Deep

theorem cellsCal : Tryd.prog.cellsOf 24 = 3 := by kernel_rfl
theorem cellsPer : Tryd.prog.cellsOf 28 = 6 := by kernel_rfl
theorem cellsSpn : Tryd.prog.cellsOf 26 = 2 := by kernel_rfl
theorem cellsInt : Tryd.prog.cellsOf 3 = 1 := by kernel_rfl
theorem cellsDay : Tryd.prog.cellsOf 22 = 1 := by kernel_rfl
theorem array6 {α : Type} {cs : Array α} (h : cs.size = 6) : ∃ c0 c1 c2 c3 c4 c5, cs = #[c0, c1, c2, c3, c4, c5] := by
  obtain ⟨l⟩ := cs
  match l, h with
  | [c0, c1, c2, c3, c4, c5], _ => exact ⟨c0, c1, c2, c3, c4, c5, rfl⟩

section
variable {H : Type} {enc : TypeId × Value → H} {W : World} {r : Reach} {b0 base : Nat} {spare : Nat → Bool} {held : Bool} {v : Value} {d : DataW H} {p : List MemPlace}

theorem int_of {n : Nat} {t : TypeId} {k : IntKind} {u : Value} {o : Option (DataW H × List MemPlace)} (ht : Tryd.prog.underlying t = some (.int k)) (h : DataW.trod enc Tryd.prog W base spare held n t [u] = o) (ho : o ≠ none) : ∃ z, u = .int k z ∧ (Lit.int k z).wf = true := by
  cases o with
  | none => exact absurd rfl ho
  | some y =>
    obtain ⟨z, e, _, hw⟩ := DataW.trod_int ht h
    simp at e; subst e
    exact ⟨z, rfl, hw⟩

set_option maxRecDepth 100000 in
theorem open_cal (hv : Value.okWide Tryd.prog W r b0 24 v) (h : DataW.Trod enc Tryd.prog W base spare held 24 v d p) : ∃ c : Wb.Cal, v = CalV c := by
  obtain ⟨v0, v1, v2, y0, y1, y2, n, rfl, rfl, rfl, h0, h1, h2⟩ := open_agg3 Tryd.underlying24 (by kernel_rfl) cellsCal hv h
  obtain ⟨z0, e0, _, _⟩ := DataW.trod_int Tryd.underlying3 h0
  obtain ⟨z1, e1, _, _⟩ := DataW.trod_int Tryd.underlying22 h1
  obtain ⟨z2, e2, _, _⟩ := DataW.trod_int Tryd.underlying3 h2
  simp at e0 e1 e2; subst e0 e1 e2
  exact ⟨⟨z0, z1, z2⟩, rfl⟩

set_option maxRecDepth 100000 in
theorem open_per (hv : Value.okWide Tryd.prog W r b0 28 v) (h : DataW.Trod enc Tryd.prog W base spare held 28 v d p) : ∃ c : Wb.Per, v = PerV c := by
  obtain ⟨cs, rfl, hsz⟩ := okWide_struct Tryd.underlying28 hv
  obtain ⟨c0, c1, c2, c3, c4, c5, rfl⟩ := array6 (hsz.trans cellsPer)
  obtain ⟨fuel, hf0⟩ := h
  obtain ⟨ys, n, _, _, _, hlen, hf⟩ := DataW.trod_struct Tryd.underlying28 hf0
  have hn : ∀ j, j < 5 → ys[j]? ≠ none := fun j hj e => by
    have h5 : ys.length = 5 := hlen
    rw [List.getElem?_eq_none_iff] at e; omega
  have h0 : DataW.trod enc Tryd.prog W base spare held n 3 [c0] = ys[0]? := by simpa [Value.cells, cellsInt, cellsDay, cellsSpn] using hf 0 _ rfl
  have h1 : DataW.trod enc Tryd.prog W base spare held n 3 [c1] = ys[1]? := by simpa [Value.cells, cellsInt, cellsDay, cellsSpn] using hf 1 _ rfl
  have h2 : DataW.trod enc Tryd.prog W base spare held n 3 [c2] = ys[2]? := by simpa [Value.cells, cellsInt, cellsDay, cellsSpn] using hf 2 _ rfl
  have h3 : DataW.trod enc Tryd.prog W base spare held n 26 [c3, c4] = ys[3]? := by simpa [Value.cells, cellsInt, cellsDay, cellsSpn] using hf 3 _ rfl
  have h4 : DataW.trod enc Tryd.prog W base spare held n 22 [c5] = ys[4]? := by simpa [Value.cells, cellsInt, cellsDay, cellsSpn] using hf 4 _ rfl
  obtain ⟨z0, rfl, _⟩ := int_of Tryd.underlying3 h0 (hn 0 (by decide))
  obtain ⟨z1, rfl, _⟩ := int_of Tryd.underlying3 h1 (hn 1 (by decide))
  obtain ⟨z2, rfl, _⟩ := int_of Tryd.underlying3 h2 (hn 2 (by decide))
  obtain ⟨z5, rfl, _⟩ := int_of Tryd.underlying22 h4 (hn 4 (by decide))
  obtain ⟨y3, hy3⟩ : ∃ y, ys[3]? = some y := by
    cases e : ys[3]? with
    | none => exact absurd e (hn 3 (by decide))
    | some y => exact ⟨y, rfl⟩
  obtain ⟨xs, m, _, _, _, hlen2, hg⟩ := DataW.trod_struct Tryd.underlying26 (h3.trans hy3)
  have hm : ∀ j, j < 2 → xs[j]? ≠ none := fun j hj e => by
    have h5 : xs.length = 2 := hlen2
    rw [List.getElem?_eq_none_iff] at e; omega
  have g0 : DataW.trod enc Tryd.prog W base spare held m 22 [c3] = xs[0]? := by simpa [cellsDay] using hg 0 _ rfl
  have g1 : DataW.trod enc Tryd.prog W base spare held m 22 [c4] = xs[1]? := by simpa [cellsDay] using hg 1 _ rfl
  obtain ⟨z3, rfl, _⟩ := int_of Tryd.underlying22 g0 (hm 0 (by decide))
  obtain ⟨z4, rfl, _⟩ := int_of Tryd.underlying22 g1 (hm 1 (by decide))
  exact ⟨⟨z0, z1, z2, z3, z4, z5⟩, rfl⟩
end

/-! ### the tables -/
theorem gLenC : Tryd.prog.globalNamed "wagebook/civil.lengths" = some 1 := by kernel_rfl
theorem gLenCT : (Tryd.prog.globals[1]?).map (·.type) = some 79 := by kernel_rfl
theorem cells12 : Tryd.prog.cellsOf 79 = 12 := by kernel_rfl
theorem lenC_of {W : World} {rest : List (String × DataW Unit)} (h : laidMet Tryd.prog (("wagebook/civil.lengths", Rows.laid_wagebook_civil_lengths) :: rest) W) : LenC W := by
  have ht : Lib.TabIs Tryd.prog W "wagebook/civil.lengths" .i64 monthsL := Lib.tabIs_of_head gLenC gLenCT Tryd.underlying79 Tryd.underlying3 cellsInt cells12 h
  intro j v hj
  have hl := (List.getElem?_eq_some_iff.1 hj).1
  have := Lib.TabIs.cell ht gLenC j hl
  rw [List.getD_eq_getElem?_getD, hj] at this
  simpa using this
theorem gLenP : Tryd.prog.globalNamed "wagebook/period.lengths" = some 0 := by kernel_rfl
theorem gLenPT : (Tryd.prog.globals[0]?).map (·.type) = some 52 := by kernel_rfl
theorem cells3d : Tryd.prog.cellsOf 52 = 3 := by kernel_rfl
theorem lenP_of {W : World} {rest : List (String × DataW Unit)} (h : laidMet Tryd.prog (("wagebook/period.lengths", Rows.laid_wagebook_period_lengths) :: rest) W) : LenP W := by
  have ht : Lib.TabIs Tryd.prog W "wagebook/period.lengths" .i64 [0, 14, 28] := Lib.tabIs_of_head gLenP gLenPT Tryd.underlying52 Tryd.underlying22 cellsDay cells3d h
  exact ⟨Lib.TabIs.cell ht gLenP 1 (by decide), Lib.TabIs.cell ht gLenP 2 (by decide)⟩
theorem g10T : (Tryd.prog.globals[2]?).map (·.type) = some 90 := by kernel_rfl
theorem cells20 : Tryd.prog.cellsOf 90 = 20 := by kernel_rfl
theorem cells1u : Tryd.prog.cellsOf 84 = 1 := by kernel_rfl
theorem tab10_of {W : World} {rest : List (String × DataW Unit)} (h : laidMet Tryd.prog (("internal/strconv.uint64pow10", Rows.laid_internal_strconv_uint64pow10) :: rest) W) : Tab10 W :=
  Lib.tabIs_of_head g10 g10T Tryd.underlying90 Tryd.underlying84 cells1u cells20 h
/-- from a list of tables that holds just these three among others -/
theorem tables_of {W : World} {l : List (String × DataW Unit)} (h : laidMet Tryd.prog l W) (h1 : (l.filter fun x => x.1 == "wagebook/civil.lengths") = [("wagebook/civil.lengths", Rows.laid_wagebook_civil_lengths)]) (h2 : (l.filter fun x => x.1 == "wagebook/period.lengths") = [("wagebook/period.lengths", Rows.laid_wagebook_period_lengths)])
    (h3 : (l.filter fun x => x.1 == "internal/strconv.uint64pow10") = [("internal/strconv.uint64pow10", Rows.laid_internal_strconv_uint64pow10)]) : LenC W ∧ LenP W ∧ Tab10 W := by
  refine ⟨?_, ?_, ?_⟩
  · have := laidMet.filter (fun x => x.1 == "wagebook/civil.lengths") h
    rw [h1] at this; exact lenC_of this
  · have := laidMet.filter (fun x => x.1 == "wagebook/period.lengths") h
    rw [h2] at this; exact lenP_of this
  · have := laidMet.filter (fun x => x.1 == "internal/strconv.uint64pow10") h
    rw [h3] at this; exact tab10_of this

/-! ### a world for the witness: the settled one, the tables laid -/
def flatLits : DataW Unit → List Value
  | .agg parts => parts.map fun
    | .lit (.int k z) => .int k z
    | .lit (.string b) => .string ⟨b.toArray⟩
    | _ => .bool false
  | _ => []
def layAt (g : Nat) (d : DataW Unit) (heap : Array Obj) : Array Obj := heap.modify g fun
  | .cells _ t frozen => .cells (flatLits d).toArray t frozen
  | o => o
noncomputable def laidWorld (os : Os) : World :=
  { World.holding Tryd.prog os ⟨#[], #[], []⟩ with heap := layAt 3 Rows.laid_math_bits_deBruijn32tab (layAt 4 Rows.laid_math_bits_deBruijn64tab (layAt 2 Rows.laid_internal_strconv_uint64pow10 (layAt 1 Rows.laid_wagebook_civil_lengths (layAt 0 Rows.laid_wagebook_period_lengths (World.holding Tryd.prog os ⟨#[], #[], []⟩).heap)))) }

end Go.Proofs.YtalpdodajcdibaaDoor
