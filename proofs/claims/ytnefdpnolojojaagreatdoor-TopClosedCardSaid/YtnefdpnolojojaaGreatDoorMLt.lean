/- MLt -/
import Derived.Test.YtnefdpnolojojaaGreatDoorMLi
import Derived.Test.YtnefdpnolojojaaGreatDoorMTp
import Derived.Test.YtnefdpnolojojaaGreatDoorCards
import Derived.Test.YtnefdpnolojojaaGreatDoorTie
import Derived.Test.YtnefdpnolojojaaGreatDoorMTx
import Derived.Lib.LaidTab
namespace Go.Proofs.YtnefdpnolojojaaGreatDoor
open Go.Joins Go.ChangeShapes Go.WideShapes Go.ChangeAt Go.RowKit Go.Deep
theorem cellsCl : Tryz.prog.cellsOf 76 = 6 := by kernel_rfl
theorem u8_bd {p : Int} (h : (Lit.int .u8 p).wf = true) : 0 ≤ p ∧ p < 256 := by
 have h : (Lit.int .u8 p).wf = true := h
 simp [Lit.wf, IntKind.min, IntKind.max, IntKind.signed, IntKind.bits] at h
 omega
theorem i32_bd {p : Int} (h : (Lit.int .i32 p).wf = true) : -2147483648 ≤ p ∧ p ≤ 2147483647 := by
 have h : (Lit.int .i32 p).wf = true := h
 simp [Lit.wf, IntKind.min, IntKind.max, IntKind.signed, IntKind.bits] at h
 omega
set_option maxRecDepth 100000 in
theorem open_cls {H : Type} {enc : TypeId × Value → H} {W : World} {base : Nat} {spare : Nat → Bool} {held : Bool} {fuel : Nat} {u : Value} {y : DataW H × List MemPlace}
  (h : DataW.trod enc Tryz.prog W base spare held fuel 22 [u] = some y) : ∃ L, ClsM W u L := by
 rcases open_slice_recs Tryz.underlying22 Tryz.underlying76 (by kernel_rfl) (by rw [cellsCl]; rfl) h with ⟨hu, _⟩ | ⟨a, len, cap, D, rest, hu, hx, hlc, _, hall⟩
 ·simp at hu; subst hu
  exact ⟨[], .inl ⟨rfl, _, _, rfl⟩, (fun x hx => by cases hx), fun x hx => by cases hx⟩
 ·simp at hu; subst hu
  have each : ∀ i, i < len → ∃ x : Wb.Cl, (∀ j u, (clc x)[j]? = some u → W.cell? (a.add (i * 6 + j)) = some u) ∧ (fun x : Wb.Cl => (x.per < 256 ∧ x.run < 256 ∧ x.prd < 256 ∧ x.part < 256 ∧ x.code < 256) ∧ -2147483648 ≤ x.cents ∧ x.cents ≤ 2147483647) x := by
   intro i hi
   obtain ⟨ys, n, hD, hf⟩ := hall i hi
   obtain ⟨v0, y0, hc0, hy0, ht0⟩ := hf 0 _ rfl
   obtain ⟨v1, y1, hc1, hy1, ht1⟩ := hf 1 _ rfl
   obtain ⟨v2, y2, hc2, hy2, ht2⟩ := hf 2 _ rfl
   obtain ⟨v3, y3, hc3, hy3, ht3⟩ := hf 3 _ rfl
   obtain ⟨v4, y4, hc4, hy4, ht4⟩ := hf 4 _ rfl
   obtain ⟨v5, y5, hc5, hy5, ht5⟩ := hf 5 _ rfl
   obtain ⟨z0, e0, _, wf0⟩ := DataW.trod_int Tryz.underlying5 ht0
   obtain ⟨z1, e1, _, wf1⟩ := DataW.trod_int Tryz.underlying5 ht1
   obtain ⟨z2, e2, _, wf2⟩ := DataW.trod_int Tryz.underlying5 ht2
   obtain ⟨z3, e3, _, wf3⟩ := DataW.trod_int Tryz.underlying5 ht3
   obtain ⟨z4, e4, _, wf4⟩ := DataW.trod_int Tryz.underlying5 ht4
   obtain ⟨z5, e5, _, wf5⟩ := DataW.trod_int Tryz.underlying21 ht5
   simp at e0 e1 e2 e3 e4 e5
   subst e0 e1 e2 e3 e4 e5
   have b0 := u8_bd wf0
   have b1 := u8_bd wf1
   have b2 := u8_bd wf2
   have b3 := u8_bd wf3
   have b4 := u8_bd wf4
   have b5 := i32_bd wf5
   obtain ⟨n0, rfl⟩ := Int.eq_ofNat_of_zero_le b0.1
   obtain ⟨n1, rfl⟩ := Int.eq_ofNat_of_zero_le b1.1
   obtain ⟨n2, rfl⟩ := Int.eq_ofNat_of_zero_le b2.1
   obtain ⟨n3, rfl⟩ := Int.eq_ofNat_of_zero_le b3.1
   obtain ⟨n4, rfl⟩ := Int.eq_ofNat_of_zero_le b4.1
   refine ⟨⟨n0, n1, n2, n3, n4, z5⟩, fun j u hj => ?_, ⟨⟨by simp only; omega, by simp only; omega, by simp only; omega, by simp only; omega, by simp only; omega⟩, b5⟩⟩
   match j, hj with
   | 0, hj => cases hj; exact hc0
   | 1, hj => cases hj; exact hc1
   | 2, hj => cases hj; exact hc2
   | 3, hj => cases hj; exact hc3
   | 4, hj => cases hj; exact hc4
   | 5, hj => cases hj; exact hc5
   | j + 6, hj => simp [clc] at hj
  obtain ⟨L, h1, h2, h3⟩ := tbl_of (fun x => ⟨_, rfl⟩) each
  exact ⟨L, h1, fun x hx => (h3 x hx).1, fun x hx => (h3 x hx).2⟩
end Go.Proofs.YtnefdpnolojojaaGreatDoor
namespace Go.Proofs.YtnefdpnolojojaaGreatDoor
open Go.Joins Go.ChangeShapes Go.WideShapes Go.ChangeAt Go.RowKit Go.Deep
theorem g10T : (Tryz.prog.globals[0]?).map (·.type) = some 183 := by kernel_rfl
theorem cells20 : Tryz.prog.cellsOf 183 = 20 := by kernel_rfl
theorem cells1u : Tryz.prog.cellsOf 92 = 1 := by kernel_rfl
theorem tab10_of {W : World} {rest : List (String × DataW Unit)} (h : laidMet Tryz.prog (("internal/strconv.uint64pow10", Rows.laid_internal_strconv_uint64pow10) :: rest) W) : Tab10 W :=
 Lib.tabIs_of_head g10 g10T Tryz.underlying183 Tryz.underlying92 cells1u cells20 h
theorem tables_of {W : World} {l : List (String × DataW Unit)} (h : laidMet Tryz.prog l W) (h3 : (l.filter fun x => x.1 == "internal/strconv.uint64pow10") = [("internal/strconv.uint64pow10", Rows.laid_internal_strconv_uint64pow10)]) : Tab10 W := by
 have := laidMet.filter (fun x => x.1 == "internal/strconv.uint64pow10") h
 rw [h3] at this; exact tab10_of this
def flatLits : DataW Unit → List Value
 | .agg parts => parts.map fun
  | .lit (.int k z) => .int k z
  | _ => .bool false
 | _ => []
def layAt (g : Nat) (d : DataW Unit) (heap : Array Obj) : Array Obj := heap.modify g fun
 | .cells _ t frozen => .cells (flatLits d).toArray t frozen
 | o => o
noncomputable def laidWorld (os : Os) : World :=
 { World.holding Tryz.prog os ⟨#[], #[], []⟩ with heap := layAt 2 Rows.laid_math_bits_deBruijn32tab (layAt 3 Rows.laid_math_bits_deBruijn64tab (layAt 0 Rows.laid_internal_strconv_uint64pow10 (World.holding Tryz.prog os ⟨#[], #[], []⟩).heap)) }
end Go.Proofs.YtnefdpnolojojaaGreatDoor
namespace Go.Proofs.YtnefdpnolojojaaGreatDoor
open Go.RowKit
theorem bounds_u8 {n : Int} (h : (Lit.int .u8 n).wf = true) : 0 ≤ n ∧ n ≤ 255 := by
 simp [Lit.wf, IntKind.min, IntKind.max, IntKind.signed, IntKind.bits] at h; omega
end Go.Proofs.YtnefdpnolojojaaGreatDoor
