/- What the laws of chapter 20 want besides their walks: periods, pieces, lists of pieces as arguments. -/
import Derived.Test.YtheofklbmknipaaLift
import Derived.Test.YtheofklbmknipaaPro3
import Derived.WalkKit
import Derived.Deep.DeepHandedRow
import Derived.LaidSub
import Derived.SizedLaws
import Derived.MakeChecks
import Derived.Deep.Slices
import Derived.Deep.Fields
import Derived.ChangeSame
import Derived.Lib.SmallJoins
import Derived.FnData
namespace Go.Proofs.Ytheofklbmknipaa
open Go.Joins Go.ChangeShapes Go.WideShapes Go.ChangeAt Go.RowKit Go.Deep

theorem list_of {α : Type} {P : Nat → α → Prop} : ∀ {n : Nat}, (∀ i, i < n → ∃ x, P i x) → ∃ l : List α, l.length = n ∧ ∀ i x, l[i]? = some x → P i x := by
  intro n
  induction n with
  | zero => intro _; exact ⟨[], rfl, fun i x h => by simp at h⟩
  | succ n ih =>
    intro h
    obtain ⟨l, hl, hp⟩ := ih fun i hi => h i (by omega)
    obtain ⟨x, hx⟩ := h n (by omega)
    refine ⟨l ++ [x], by simp [hl], fun i y hy => ?_⟩
    by_cases hi : i < n
    · exact hp i y (by rwa [List.getElem?_append_left (by omega)] at hy)
    · have hin : i = n := by
        have := (List.getElem?_eq_some_iff.1 hy).1
        simp at this; omega
      subst hin
      rw [List.getElem?_append_right (by omega), hl] at hy
      simp at hy; subst hy; exact hx

section
variable {H : Type} {enc : TypeId × Value → H} {P : Program} {w : World} {base : Nat} {spare : Nat → Bool} {held : Bool}
theorem fld {f : Field} {cs cs' : List Value} {xs : List (DataW H × List MemPlace)} {i n off k : Nat} (h : DataW.trod enc P w base spare held n f.type ((cs.drop f.offset).take (P.cellsOf f.type)) = xs[i]?) (hi : i < xs.length)
    (ho : f.offset = off) (hk : P.cellsOf f.type = k) (hc : (cs.drop off).take k = cs') : ∃ y, DataW.trod enc P w base spare held n f.type cs' = some y := by
  rw [ho, hk, hc] at h
  exact ⟨_, h.trans (List.getElem?_eq_getElem hi)⟩
end

section
variable {H : Type} {enc : TypeId × Value → H} {W : World} {base : Nat} {spare : Nat → Bool} {held : Bool}
set_option maxRecDepth 100000 in
theorem open_sp {fuel : Nat} {cs : List Value} {x : DataW H × List MemPlace} (h : DataW.trod enc Try.prog W base spare held fuel 24 cs = some x) : ∃ s : Wb.Sp, cs = [.int .i64 s.1, .int .i64 s.2] ∧ Bd s := by
  obtain ⟨xs, n, _, _, hl, hxl, hf⟩ := DataW.trod_struct Try.underlying24 h
  have hl2 : cs.length = 2 := hl.trans (by kernel_rfl)
  obtain ⟨c0, c1, rfl⟩ : ∃ c0 c1, cs = [c0, c1] := by
    match cs, hl2 with
    | [c0, c1], _ => exact ⟨c0, c1, rfl⟩
  obtain ⟨y0, h0⟩ := fld (k := 1) (hf 0 _ rfl) (by rw [hxl]; decide) rfl (by kernel_rfl) rfl
  obtain ⟨y1, h1⟩ := fld (k := 1) (hf 1 _ rfl) (by rw [hxl]; decide) rfl (by kernel_rfl) rfl
  obtain ⟨z0, e0, _, w0⟩ := DataW.trod_int Try.underlying22 h0
  obtain ⟨z1, e1, _, w1⟩ := DataW.trod_int Try.underlying22 h1
  simp at e0 e1; subst e0 e1
  exact ⟨(z0, z1), rfl, bounds_i64 w0, bounds_i64 w1⟩
/-- a piece's ranges -/
def BdP (z : Pc) : Prop := Bd z.d ∧ (-9223372036854775808 ≤ z.y ∧ z.y ≤ 9223372036854775807) ∧ (-9223372036854775808 ≤ z.part ∧ z.part ≤ 9223372036854775807)
set_option maxRecDepth 100000 in
theorem open_pc {fuel : Nat} {cs : List Value} {x : DataW H × List MemPlace} (h : DataW.trod enc Try.prog W base spare held fuel 50 cs = some x) : ∃ z : Pc, cs = pcc z ∧ BdP z := by
  obtain ⟨xs, n, _, _, hl, hxl, hf⟩ := DataW.trod_struct Try.underlying50 h
  have hl2 : cs.length = 4 := hl.trans (by kernel_rfl)
  obtain ⟨c0, c1, c2, c3, rfl⟩ : ∃ c0 c1 c2 c3, cs = [c0, c1, c2, c3] := by
    match cs, hl2 with
    | [c0, c1, c2, c3], _ => exact ⟨c0, c1, c2, c3, rfl⟩
  obtain ⟨y0, h0⟩ := fld (k := 2) (hf 0 _ rfl) (by rw [hxl]; decide) rfl (by kernel_rfl) rfl
  obtain ⟨y1, h1⟩ := fld (k := 1) (hf 1 _ rfl) (by rw [hxl]; decide) rfl (by kernel_rfl) rfl
  obtain ⟨y2, h2⟩ := fld (k := 1) (hf 2 _ rfl) (by rw [hxl]; decide) rfl (by kernel_rfl) rfl
  obtain ⟨s, e0, w0⟩ := open_sp h0
  obtain ⟨z1, e1, _, w1⟩ := DataW.trod_int Try.underlying27 h1
  obtain ⟨z2, e2, _, w2⟩ := DataW.trod_int Try.underlying40 h2
  simp at e0 e1 e2
  obtain ⟨rfl, rfl⟩ := e0
  subst e1 e2
  exact ⟨⟨s, z1, z2⟩, rfl, w0, bounds_i64 w1, bounds_i64 w2⟩
set_option maxRecDepth 100000 in
theorem open_per {r : Reach} {b0 : Nat} {v : Value} {d : DataW H} {p : List MemPlace} (hv : Value.okWide Try.prog W r b0 26 v) (h : DataW.Trod enc Try.prog W base spare held 26 v d p) :
    ∃ y ix o f t pay : Int, v = PeV y ix o (f, t) pay ∧ (-9223372036854775808 ≤ ix ∧ ix ≤ 9223372036854775807) ∧ Bd (f, t) := by
  obtain ⟨cs, rfl, hsz⟩ := okWide_struct Try.underlying26 hv
  obtain ⟨l⟩ := cs
  have hl : l.length = 6 := hsz.trans (by kernel_rfl)
  obtain ⟨fuel, hf0⟩ := h
  have hf1 : DataW.trod enc Try.prog W base spare held fuel 26 l = some (d, p) := by simpa [Value.cells] using hf0
  obtain ⟨c0, c1, c2, c3, c4, c5, rfl⟩ : ∃ c0 c1 c2 c3 c4 c5, l = [c0, c1, c2, c3, c4, c5] := by
    match l, hl with
    | [c0, c1, c2, c3, c4, c5], _ => exact ⟨c0, c1, c2, c3, c4, c5, rfl⟩
  obtain ⟨xs, n, _, _, _, hxl, hf⟩ := DataW.trod_struct Try.underlying26 hf1
  obtain ⟨y0, h0⟩ := fld (k := 1) (hf 0 _ rfl) (by rw [hxl]; decide) rfl (by kernel_rfl) rfl
  obtain ⟨y1, h1⟩ := fld (k := 1) (hf 1 _ rfl) (by rw [hxl]; decide) rfl (by kernel_rfl) rfl
  obtain ⟨y2, h2⟩ := fld (k := 1) (hf 2 _ rfl) (by rw [hxl]; decide) rfl (by kernel_rfl) rfl
  obtain ⟨y3, h3⟩ := fld (k := 2) (hf 3 _ rfl) (by rw [hxl]; decide) rfl (by kernel_rfl) rfl
  obtain ⟨y4, h4⟩ := fld (k := 1) (hf 4 _ rfl) (by rw [hxl]; decide) rfl (by kernel_rfl) rfl
  obtain ⟨z0, e0, _, _⟩ := DataW.trod_int Try.underlying3 h0
  obtain ⟨z1, e1, _, w1⟩ := DataW.trod_int Try.underlying3 h1
  obtain ⟨z2, e2, _, _⟩ := DataW.trod_int Try.underlying3 h2
  obtain ⟨s, e3, w3⟩ := open_sp h3
  obtain ⟨z4, e4, _, _⟩ := DataW.trod_int Try.underlying22 h4
  simp at e0 e1 e2 e3 e4
  obtain ⟨rfl, rfl⟩ := e3
  subst e0 e1 e2 e4
  exact ⟨z0, z1, z2, s.1, s.2, z4, rfl, bounds_i64 w1, w3⟩
set_option maxRecDepth 100000 in
theorem open_piece {r : Reach} {b0 : Nat} {v : Value} {d : DataW H} {p : List MemPlace} (hv : Value.okWide Try.prog W r b0 50 v) (h : DataW.Trod enc Try.prog W base spare held 50 v d p) :
    ∃ z : Pc, v = PcV z ∧ BdP z := by
  obtain ⟨cs, rfl, hsz⟩ := okWide_struct Try.underlying50 hv
  obtain ⟨l⟩ := cs
  obtain ⟨fuel, hf0⟩ := h
  have hf1 : DataW.trod enc Try.prog W base spare held fuel 50 l = some (d, p) := by simpa [Value.cells] using hf0
  obtain ⟨z, rfl, hz⟩ := open_pc hf1
  exact ⟨z, rfl, hz⟩
/-- pieces handed over: the rows, as a source too -/
def PcS (w : World) (v : Value) (l : List Pc) : Prop := Tbl 4 pcc w v l ∧ Wb.SrcRow w 4 v l.length (rowsOf pcc l) ∧ ∃ a c, v = .slice a l.length c ∧ l.length ≤ c
theorem PcS.ext {w w' : World} {v : Value} {l : List Pc} (h : PcS w v l) (k : Wb.Ext w w') : PcS w' v l := ⟨h.1.ext k, h.2.1.ext k, h.2.2⟩
set_option maxRecDepth 100000 in
theorem open_pcs {xa : Option Addr} {xl xc : Nat} {y : DataW H} {p : List MemPlace}
    (h : DataW.Trod enc Try.prog W base spare held 28 (.slice xa xl xc) y p) : ∃ L, PcS W (.slice xa xl xc) L ∧ (∀ z ∈ L, BdP z) ∧ L.length ≤ 9223372036854775807 := by
  obtain ⟨fuel, h⟩ := h
  rcases open_slice Try.underlying28 h with ⟨hu, _⟩ | ⟨a, len, cap, m, n, D, Pl, hu, hb, hl, hm, hmm, hx, hi⟩
  · simp [Value.cells] at hu
    obtain ⟨rfl, rfl, rfl⟩ := hu
    exact ⟨[], ⟨.inl ⟨rfl, _, _, rfl⟩, ⟨rfl, .inl ⟨rfl, rfl⟩⟩, none, 0, rfl, Nat.le_refl _⟩, (fun z hz => by cases hz), by simp⟩
  · simp [Value.cells] at hu
    obtain ⟨rfl, rfl, rfl⟩ := hu
    unfold maxLen at hm
    have hC : Try.prog.cellsOf 50 = 4 := by kernel_rfl
    have each : ∀ i, i < xl → ∃ z : Pc, (W.cell? (a.add (i * 4)) = some (.int .i64 z.d.1) ∧ W.cell? (a.add (i * 4 + 1)) = some (.int .i64 z.d.2) ∧ W.cell? (a.add (i * 4 + 2)) = some (.int .i64 z.y) ∧ W.cell? (a.add (i * 4 + 3)) = some (.int .i64 z.part)) ∧ BdP z := by
      intro i him
      obtain ⟨cs', hc, ht'⟩ := hi i (by rw [hmm]; split <;> omega)
      rw [hC] at hc
      obtain ⟨z, rfl, hz⟩ := open_pc ht'
      obtain ⟨_, hcl, hat⟩ := World.cells?_some hc
      refine ⟨z, ⟨?_, ?_, ?_, ?_⟩, hz⟩
      · have := hat 0 (by decide); rw [Go.Deep.add_add] at this; simpa [pcc] using this
      · have := hat 1 (by decide); rw [Go.Deep.add_add] at this; simpa [pcc] using this
      · have := hat 2 (by decide); rw [Go.Deep.add_add] at this; simpa [pcc] using this
      · have := hat 3 (by decide); rw [Go.Deep.add_add] at this; simpa [pcc] using this
    obtain ⟨l, hl2, hp⟩ := list_of each
    refine ⟨l, ?_, fun x hx' => ?_, by omega⟩
    · by_cases h0 : l = []
      · subst h0
        simp at hl2; subst hl2
        exact ⟨.inl ⟨rfl, _, _, rfl⟩, ⟨rfl, .inr ⟨_, _, rfl, fun j u hj => by simp [rowsOf] at hj⟩⟩, _, _, rfl, hl⟩
      · have hpos : 0 < l.length := List.length_pos_iff.2 h0
        obtain ⟨b, off, spot⟩ := a
        obtain ⟨x0, hx0⟩ := Wb.get_ex hpos
        have hspot : spot = none := by simpa [Addr.add] using World.cell?_spot (hp 0 x0 hx0).1.1
        subst hspot
        subst hl2
        have hcell : ∀ j x, l[j]? = some x → ∀ i u, (pcc x)[i]? = some u → W.cell? ⟨b, off + j * 4 + i, none⟩ = some u := fun j x hj i u hu => by
          obtain ⟨⟨h1, h2, h3, h4⟩, _⟩ := hp j x hj
          rw [Go.WideShapes.add_plain] at h1 h2 h3 h4
          match i, hu with
          | 0, hu => simp [pcc] at hu; subst hu; exact h1
          | 1, hu => simp [pcc] at hu; subst hu; rw [Nat.add_assoc]; exact h2
          | 2, hu => simp [pcc] at hu; subst hu; rw [Nat.add_assoc]; exact h3
          | 3, hu => simp [pcc] at hu; subst hu; rw [Nat.add_assoc]; exact h4
          | i + 4, hu => simp [pcc] at hu
        refine ⟨.inr ⟨b, off, _, rfl, hcell⟩, ⟨rowsOf_length pcc_len l, .inr ⟨_, _, rfl, fun j u hj => ?_⟩⟩, _, _, rfl, hl⟩
        have hjl : j < l.length * 4 := by
          have := (List.getElem?_eq_some_iff.1 hj).1
          rw [rowsOf_length pcc_len] at this; exact this
        obtain ⟨x, hx1⟩ := Wb.get_ex (l := l) (k := j / 4) (by omega)
        have h1 := rowsOf_get pcc_len hx1 (j % 4) (by omega)
        rw [show j / 4 * 4 + j % 4 = j by omega, hj] at h1
        have := hcell _ x hx1 (j % 4) u h1.symm
        rw [show off + j / 4 * 4 + j % 4 = off + j by omega] at this
        rw [Go.WideShapes.add_plain]
        exact this
    · obtain ⟨i, hi⟩ := List.getElem?_of_mem hx'
      exact (hp i x hi).2
end

end Go.Proofs.Ytheofklbmknipaa
