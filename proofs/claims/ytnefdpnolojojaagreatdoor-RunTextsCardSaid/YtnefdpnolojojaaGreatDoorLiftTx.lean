/- LiftTx -/
import Derived.Test.YtnefdpnolojojaaGreatDoorCards
import Derived.Test.YtnefdpnolojojaaGreatDoorTie
import Derived.Test.YtnefdpnolojojaaGreatDoorMLi
import Derived.Test.YtnefdpnolojojaaGreatDoorMTx
import Derived.Lib.LaidTab
namespace Go.Proofs.YtnefdpnolojojaaGreatDoor
open Go.Joins Go.ChangeShapes Go.WideShapes Go.ChangeAt Go.RowKit Go.Deep
set_option maxRecDepth 100000 in
theorem acts_k {H : Type} {enc : TypeId × Value → H} {W : World} {base : Nat} {spare : Nat → Bool} {held : Bool} {fuel : Nat} {u : Value} {y : DataW H × List MemPlace}
  (h : DataW.trod enc Tryz.prog W base spare held fuel 39 [u] = some y) : ∀ L, ActsM W u L → ∀ a ∈ L, a.k ≤ 9223372036854775807 := by
 intro L hL a ha
 obtain ⟨i, hi⟩ := List.getElem?_of_mem ha
 obtain ⟨x, c, e⟩ := hL.tab.shape
 have hil : i < L.length := (List.getElem?_eq_some_iff.1 hi).1
 rcases open_slice_recs Tryz.underlying39 Tryz.underlying44 (by kernel_rfl) (by rw [cellsAct]; rfl) h with ⟨hu, _⟩ | ⟨ad, len, cap, D, rest, hu, hx, hlc, _, hall⟩
 ·simp at hu; subst hu
  injection e with e1 e2 e3
  omega
 ·simp at hu; subst hu
  injection e with e1 e2 e3
  obtain ⟨b, off, hb, hc⟩ := hL.tab.opened (by rintro rfl; simp at hi)
  injection hb with hb
  subst hb
  obtain ⟨ys, n, hD, hf⟩ := hall i (by omega)
  obtain ⟨v2, y2, hc2, hy2, ht2⟩ := hf 2 _ rfl
  obtain ⟨z2, e4, _, wf2⟩ := DataW.trod_int Tryz.underlying3 ht2
  simp at e4; subst e4
  have h1 := hc i a hi 2 _ rfl
  rw [Go.WideShapes.add_plain] at hc2
  rw [Nat.add_assoc] at h1
  have h2 : some (Value.int .i64 z2) = some (Value.int .i64 a.k) := hc2.symm.trans h1
  injection h2 with h2
  injection h2 with _ h2
  subst h2
  simp [Lit.wf, IntKind.min, IntKind.max, IntKind.signed, IntKind.bits] at wf2
  omega
theorem g10T : (Tryz.prog.globals[0]?).map (·.type) = some 183 := by kernel_rfl
theorem cells20 : Tryz.prog.cellsOf 183 = 20 := by kernel_rfl
theorem cells1u : Tryz.prog.cellsOf 92 = 1 := by kernel_rfl
theorem tab10_of {W : World} {rest : List (String × DataW Unit)} (h : laidMet Tryz.prog (("internal/strconv.uint64pow10", Rows.laid_internal_strconv_uint64pow10) :: rest) W) : Tab10 W :=
 Lib.tabIs_of_head g10 g10T Tryz.underlying183 Tryz.underlying92 cells1u cells20 h
theorem tables_of {W : World} {l : List (String × DataW Unit)} (h : laidMet Tryz.prog l W) (h3 : (l.filter fun x => x.1 == "internal/strconv.uint64pow10") = [("internal/strconv.uint64pow10", Rows.laid_internal_strconv_uint64pow10)]) : Tab10 W := by
 have := laidMet.filter (fun x => x.1 == "internal/strconv.uint64pow10") h
 rw [h3] at this; exact tab10_of this
def flatLits : DataW Unit → List Value
 | .agg parts => parts.map fun
  | .lit (.int k z) => .int k z
  | _ => .bool false
 | _ => []
def layAt (g : Nat) (d : DataW Unit) (heap : Array Obj) : Array Obj := heap.modify g fun
 | .cells _ t frozen => .cells (flatLits d).toArray t frozen
 | o => o
noncomputable def laidWorld (os : Os) : World :=
 { World.holding Tryz.prog os ⟨#[], #[], []⟩ with heap := layAt 2 Rows.laid_math_bits_deBruijn32tab (layAt 3 Rows.laid_math_bits_deBruijn64tab (layAt 0 Rows.laid_internal_strconv_uint64pow10 (World.holding Tryz.prog os ⟨#[], #[], []⟩).heap)) }
end Go.Proofs.YtnefdpnolojojaaGreatDoor
