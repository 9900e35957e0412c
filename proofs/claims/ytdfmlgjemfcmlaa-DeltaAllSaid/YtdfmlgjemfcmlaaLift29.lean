/- What the laws of chapter 29 want besides their walks: slips, and lists of slips, as arguments. -/
import Derived.Test.YtdfmlgjemfcmlaaLift
import Derived.Test.YtdfmlgjemfcmlaaRDel4
import Derived.WalkKit
import Derived.Deep.DeepHandedRow
import Derived.LaidSub
import Derived.SizedLaws
import Derived.MakeChecks
import Derived.Deep.Slices
import Derived.Deep.Fields
import Derived.ChangeSame
import Derived.Lib.SmallJoins
import Derived.FnData
namespace Go.Proofs.Ytdfmlgjemfcmlaa
open Go.Joins Go.ChangeShapes Go.WideShapes Go.ChangeAt Go.RowKit Go.Deep

theorem list_of {α : Type} {P : Nat → α → Prop} : ∀ {n : Nat}, (∀ i, i < n → ∃ x, P i x) → ∃ l : List α, l.length = n ∧ ∀ i x, l[i]? = some x → P i x := by
  intro n
  induction n with
  | zero => intro _; exact ⟨[], rfl, fun i x h => by simp at h⟩
  | succ n ih =>
    intro h
    obtain ⟨l, hl, hp⟩ := ih fun i hi => h i (by omega)
    obtain ⟨x, hx⟩ := h n (by omega)
    refine ⟨l ++ [x], by simp [hl], fun i y hy => ?_⟩
    by_cases hi : i < n
    · exact hp i y (by rwa [List.getElem?_append_left (by omega)] at hy)
    · have hin : i = n := by
        have := (List.getElem?_eq_some_iff.1 hy).1
        simp at this; omega
      subst hin
      rw [List.getElem?_append_right (by omega), hl] at hy
      simp at hy; subst hy; exact hx

section
variable {H : Type} {enc : TypeId × Value → H} {P : Program} {w : World} {base : Nat} {spare : Nat → Bool} {held : Bool}
/-- a slice of structs of one-cell fields, opened -/
theorem open_slice_recs {t e : TypeId} {fs : Array Field} {fuel : Nat} {cs : List Value} {x : DataW H × List MemPlace} (ht : P.underlying t = some (.slice e)) (he : P.underlying e = some (.struct fs))
    (hone : oneCellFields P fs = true) (hC : P.cellsOf e = fs.size) (h : DataW.trod enc P w base spare held fuel t cs = some x) :
    (cs = [.slice none 0 0] ∧ x = (.nil, [])) ∨
    ∃ (a : Addr) (len cap : Nat) (D : Nat → DataW H) (rest : List (DataW H)), cs = [.slice (some a) len cap] ∧ x.1 = .slice ((List.range len).map D) rest ∧ len ≤ cap ∧ cap ≤ maxLen ∧
      ∀ i, i < len → ∃ (ys : List (DataW H × List MemPlace)) (n : Nat), D i = .agg (ys.map (·.1)) ∧
        ∀ (j : Nat) (f : Field), fs[j]? = some f → ∃ (v : Value) (y : DataW H × List MemPlace), w.cell? (a.add (i * fs.size + j)) = some v ∧ ys[j]? = some y ∧ DataW.trod enc P w base spare held n f.type [v] = some y := by
  rcases open_slice ht h with h0 | ⟨a, len, cap, m, n, D, Pl, hcs, hb, hl, hm, hmm, hx, hi⟩
  · exact .inl h0
  · refine .inr ⟨a, len, cap, D, _, hcs, by rw [hx], hl, hm, fun i him => ?_⟩
    obtain ⟨cs', hc, ht'⟩ := hi i (by rw [hmm]; split <;> omega)
    rw [hC] at hc
    obtain ⟨ys, n', hn', hy, hlen, hyl, hf⟩ := DataW.trod_struct he ht'
    obtain ⟨_, hcl, hat⟩ := World.cells?_some hc
    simp only [Prod.mk.injEq] at hy
    refine ⟨ys, n', hy.1, fun j f hj => ?_⟩
    obtain ⟨ho, hk⟩ := hone_of hone j f hj
    have hjl : j < fs.size := (Array.getElem?_eq_some_iff.1 hj).1
    have hcell := hat j hjl
    have hv : cs'[j]? = some (cs'[j]'(by omega)) := List.getElem?_eq_getElem (by omega)
    have h1 := hf j f hj
    rw [ho, hk] at h1
    have hone' : (cs'.drop j).take 1 = [cs'[j]'(by omega)] := by
      rw [List.drop_eq_getElem_cons (by omega)]
      rfl
    rw [hone'] at h1
    have hys : ys[j]? = some (ys[j]'(by omega)) := List.getElem?_eq_getElem (by omega)
    refine ⟨_, _, ?_, hys, h1.trans hys⟩
    rw [← Go.Deep.add_add, hcell, hv]
end

theorem cells3 : Try.prog.cellsOf 44 = 3 := by kernel_rfl
theorem cellsSlip : Try.prog.cellsOf 24 = 3 := by kernel_rfl

set_option maxRecDepth 100000 in
theorem open_lines {H : Type} {enc : TypeId × Value → H} {W : World} {base : Nat} {spare : Nat → Bool} {held : Bool} {fuel : Nat} {u : Value} {y : DataW H × List MemPlace}
    (h : DataW.trod enc Try.prog W base spare held fuel 22 [u] = some y) :
    ∃ l, LnsS W u l ∧ BigL l := by
  rcases open_slice_recs Try.underlying22 Try.underlying44 (by kernel_rfl) (by rw [cells3]; rfl) h with ⟨hu, _⟩ | ⟨a, len, cap, D, rest, hu, hx, hlc, hcm, hall⟩
  · simp at hu; subst hu
    exact ⟨[], ⟨⟨.inl ⟨rfl, _, _, rfl⟩, Nat.le_refl _⟩, rfl, .inl ⟨rfl, rfl⟩⟩, by simp [BigL]⟩
  · simp at hu; subst hu
    unfold maxLen at hcm
    have each : ∀ i, i < len → ∃ x : Wb.Ln, (W.cell? (a.add (i * 3)) = some (.int .i64 x.part) ∧ W.cell? (a.add (i * 3 + 1)) = some (.string (Wb.S x.code)) ∧ W.cell? (a.add (i * 3 + 2)) = some (.int .i64 x.cents)) ∧ x.code.length ≤ 9223372036854775807 := by
      intro i hi
      obtain ⟨ys, n, hD, hf⟩ := hall i hi
      obtain ⟨v0, y0, hc0, hy0, ht0⟩ := hf 0 _ rfl
      obtain ⟨v1, y1, hc1, hy1, ht1⟩ := hf 1 _ rfl
      obtain ⟨v2, y2, hc2, hy2, ht2⟩ := hf 2 _ rfl
      obtain ⟨z0, e0, _, _⟩ := DataW.trod_int Try.underlying3 ht0
      obtain ⟨s1, e1, hs1, hsm⟩ := DataW.trod_string Try.underlying9 ht1
      obtain ⟨z2, e2, _, _⟩ := DataW.trod_int Try.underlying34 ht2
      simp at e0 e1 e2; subst e0 e1 e2
      obtain ⟨c, rfl⟩ := Wb.S_ex s1
      rw [Wb.S_size] at hsm
      exact ⟨⟨z0, c, z2⟩, ⟨hc0, hc1, hc2⟩, hsm⟩
    obtain ⟨l, hl, hp⟩ := list_of each
    refine ⟨l, ?_, by omega, fun x hx' => ?_⟩
    · by_cases h0 : l = []
      · subst h0
        simp at hl; subst hl
        exact ⟨⟨.inl ⟨rfl, _, _, rfl⟩, hlc⟩, rfl, .inr ⟨_, _, rfl, fun j u hj => by simp [lnvs] at hj⟩⟩
      · have hpos : 0 < l.length := List.length_pos_iff.2 h0
        obtain ⟨b, off, spot⟩ := a
        obtain ⟨x0, hx0⟩ := Wb.get_ex hpos
        have hspot : spot = none := by simpa [Addr.add] using World.cell?_spot (hp 0 x0 hx0).1.1
        subst hspot
        subst hl
        have hc : ∀ j x, l[j]? = some x → W.cell? ⟨b, off + j * 3, none⟩ = some (.int .i64 x.part) ∧ W.cell? ⟨b, off + j * 3 + 1, none⟩ = some (.string (Wb.S x.code)) ∧ W.cell? ⟨b, off + j * 3 + 2, none⟩ = some (.int .i64 x.cents) := fun j x hj => by
          obtain ⟨⟨h1, h2, h3⟩, _⟩ := hp j x hj
          rw [Go.WideShapes.add_plain] at h1 h2 h3
          exact ⟨h1, by rw [Nat.add_assoc]; exact h2, by rw [Nat.add_assoc]; exact h3⟩
        exact ⟨⟨.inr ⟨b, off, cap, rfl, hc⟩, hlc⟩, src_lines l cap rfl hc⟩
    · obtain ⟨i, hi⟩ := List.getElem?_of_mem hx'
      exact (hp i x hi).2

set_option maxRecDepth 100000 in
theorem open_slip {H : Type} {enc : TypeId × Value → H} {W : World} {r : Reach} {b0 base : Nat} {spare : Nat → Bool} {held : Bool} {v : Value} {d : DataW H} {p : List MemPlace}
    (hv : Value.okWide Try.prog W r b0 24 v) (h : DataW.Trod enc Try.prog W base spare held 24 v d p) :
    ∃ (y i : Int) (u : Value) (l : List Wb.Ln), v = .agg #[.int .i64 y, .int .i64 i, u] ∧ LnsS W u l ∧ BigL l := by
  obtain ⟨v0, v1, v2, y0, y1, y2, n, rfl, rfl, rfl, h0, h1, h2⟩ := open_agg3 Try.underlying24 (by kernel_rfl) cellsSlip hv h
  obtain ⟨z0, e0, _, _⟩ := DataW.trod_int Try.underlying3 h0
  obtain ⟨z1, e1, _, _⟩ := DataW.trod_int Try.underlying3 h1
  simp at e0 e1; subst e0 e1
  obtain ⟨l, hl, hs⟩ := open_lines h2
  exact ⟨z0, z1, v2, l, rfl, hl, hs⟩

set_option maxRecDepth 100000 in
theorem open_slips {H : Type} {enc : TypeId × Value → H} {W : World} {base : Nat} {spare : Nat → Bool} {held : Bool} {xa : Option Addr} {xl xc : Nat} {y : DataW H} {p : List MemPlace}
    (h : DataW.Trod enc Try.prog W base spare held 25 (.slice xa xl xc) y p) : ∃ L, SlsW W (.slice xa xl xc) L ∧ L.length ≤ 9223372036854775807 := by
  obtain ⟨fuel, h⟩ := h
  rcases open_slice_recs Try.underlying25 Try.underlying24 (by kernel_rfl) (by rw [cellsSlip]; rfl) h with ⟨hu, _⟩ | ⟨a, len, cap, D, rest, hu, hx, hlc, hcm, hall⟩
  · simp [Value.cells] at hu
    obtain ⟨rfl, rfl, rfl⟩ := hu
    exact ⟨[], ⟨.inl ⟨rfl, _, _, rfl⟩, fun s hs => by cases hs⟩, by simp⟩
  · simp [Value.cells] at hu
    obtain ⟨rfl, rfl, rfl⟩ := hu
    unfold maxLen at hcm
    have each : ∀ i, i < xl → ∃ x : Wb.Sl, (W.cell? (a.add (i * 3)) = some (.int .i64 x.y) ∧ W.cell? (a.add (i * 3 + 1)) = some (.int .i64 x.i) ∧ W.cell? (a.add (i * 3 + 2)) = some x.v) ∧ LnsS W x.v x.l ∧ BigL x.l := by
      intro i hi
      obtain ⟨ys, n, hD, hf⟩ := hall i hi
      obtain ⟨v0, y0, hc0, hy0, ht0⟩ := hf 0 _ rfl
      obtain ⟨v1, y1, hc1, hy1, ht1⟩ := hf 1 _ rfl
      obtain ⟨v2, y2, hc2, hy2, ht2⟩ := hf 2 _ rfl
      obtain ⟨z0, e0, _, _⟩ := DataW.trod_int Try.underlying3 ht0
      obtain ⟨z1, e1, _, _⟩ := DataW.trod_int Try.underlying3 ht1
      simp at e0 e1; subst e0 e1
      obtain ⟨l, hl, hb⟩ := open_lines ht2
      exact ⟨⟨z0, z1, v2, l⟩, ⟨hc0, hc1, hc2⟩, hl, hb⟩
    obtain ⟨L, hl, hp⟩ := list_of each
    refine ⟨L, ⟨?_, fun s hs => ?_⟩, by omega⟩
    · by_cases h0 : L = []
      · subst h0
        simp at hl; subst hl
        exact .inl ⟨rfl, _, _, rfl⟩
      · have hpos : 0 < L.length := List.length_pos_iff.2 h0
        obtain ⟨b, off, spot⟩ := a
        obtain ⟨x0, hx0⟩ := Wb.get_ex hpos
        have hspot : spot = none := by simpa [Addr.add] using World.cell?_spot (hp 0 x0 hx0).1.1
        subst hspot
        subst hl
        refine .inr ⟨b, off, _, rfl, fun j x hj i u hu => ?_⟩
        obtain ⟨⟨h1, h2, h3⟩, _⟩ := hp j x hj
        rw [Go.WideShapes.add_plain] at h1 h2 h3
        match i, hu with
        | 0, hu => simp [slc] at hu; subst hu; exact h1
        | 1, hu => simp [slc] at hu; subst hu; rw [Nat.add_assoc]; exact h2
        | 2, hu => simp [slc] at hu; subst hu; rw [Nat.add_assoc]; exact h3
        | i + 3, hu => simp [slc] at hu
    · obtain ⟨i, hi⟩ := List.getElem?_of_mem hs
      exact (hp i s hi).2

end Go.Proofs.Ytdfmlgjemfcmlaa
