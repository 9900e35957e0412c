/- What the laws of chapter 05 want besides their walks: spans and days as arguments. -/
import Derived.Test.YtdckghdmopafpaaLift
import Derived.Test.YtdckghdmopafpaaRSpn8
import Derived.WalkKit
import Derived.Deep.DeepHandedRow
import Derived.Deep.Slices
import Derived.Deep.Fields
import Derived.ChangeSame
import Derived.Lib.SmallJoins
import Derived.FnData
namespace Go.Proofs.Ytdckghdmopafpaa
open Go.Joins Go.ChangeShapes Go.WideShapes Go.ChangeAt Go.RowKit Go.Deep

theorem list_of {α : Type} {P : Nat → α → Prop} : ∀ {n : Nat}, (∀ i, i < n → ∃ x, P i x) → ∃ l : List α, l.length = n ∧ ∀ i x, l[i]? = some x → P i x := by
  intro n
  induction n with
  | zero => intro _; exact ⟨[], rfl, fun i x h => by simp at h⟩
  | succ n ih =>
    intro h
    obtain ⟨l, hl, hp⟩ := ih fun i hi => h i (by omega)
    obtain ⟨x, hx⟩ := h n (by omega)
    refine ⟨l ++ [x], by simp [hl], fun i y hy => ?_⟩
    by_cases hi : i < n
    · exact hp i y (by rwa [List.getElem?_append_left (by omega)] at hy)
    · have hin : i = n := by
        have := (List.getElem?_eq_some_iff.1 hy).1
        simp at this; omega
      subst hin
      rw [List.getElem?_append_right (by omega), hl] at hy
      simp at hy; subst hy; exact hx

section
variable {H : Type} {enc : TypeId × Value → H} {P : Program} {w : World} {base : Nat} {spare : Nat → Bool} {held : Bool}
/-- a slice of structs of one-cell fields, opened -/
theorem open_slice_recs {t e : TypeId} {fs : Array Field} {fuel : Nat} {cs : List Value} {x : DataW H × List MemPlace} (ht : P.underlying t = some (.slice e)) (he : P.underlying e = some (.struct fs))
    (hone : oneCellFields P fs = true) (hC : P.cellsOf e = fs.size) (h : DataW.trod enc P w base spare held fuel t cs = some x) :
    (cs = [.slice none 0 0] ∧ x = (.nil, [])) ∨
    ∃ (a : Addr) (len cap : Nat) (D : Nat → DataW H) (rest : List (DataW H)), cs = [.slice (some a) len cap] ∧ x.1 = .slice ((List.range len).map D) rest ∧
      ∀ i, i < len → ∃ (ys : List (DataW H × List MemPlace)) (n : Nat), D i = .agg (ys.map (·.1)) ∧
        ∀ (j : Nat) (f : Field), fs[j]? = some f → ∃ (v : Value) (y : DataW H × List MemPlace), w.cell? (a.add (i * fs.size + j)) = some v ∧ ys[j]? = some y ∧ DataW.trod enc P w base spare held n f.type [v] = some y := by
  rcases open_slice ht h with h0 | ⟨a, len, cap, m, n, D, Pl, hcs, hb, hl, hm, hmm, hx, hi⟩
  · exact .inl h0
  · refine .inr ⟨a, len, cap, D, _, hcs, by rw [hx], fun i him => ?_⟩
    obtain ⟨cs', hc, ht'⟩ := hi i (by rw [hmm]; split <;> omega)
    rw [hC] at hc
    obtain ⟨ys, n', hn', hy, hlen, hyl, hf⟩ := DataW.trod_struct he ht'
    obtain ⟨_, hcl, hat⟩ := World.cells?_some hc
    simp only [Prod.mk.injEq] at hy
    refine ⟨ys, n', hy.1, fun j f hj => ?_⟩
    obtain ⟨ho, hk⟩ := hone_of hone j f hj
    have hjl : j < fs.size := (Array.getElem?_eq_some_iff.1 hj).1
    have hcell := hat j hjl
    have hv : cs'[j]? = some (cs'[j]'(by omega)) := List.getElem?_eq_getElem (by omega)
    have h1 := hf j f hj
    rw [ho, hk] at h1
    have hone' : (cs'.drop j).take 1 = [cs'[j]'(by omega)] := by
      rw [List.drop_eq_getElem_cons (by omega)]
      rfl
    rw [hone'] at h1
    have hys : ys[j]? = some (ys[j]'(by omega)) := List.getElem?_eq_getElem (by omega)
    refine ⟨_, _, ?_, hys, h1.trans hys⟩
    rw [← Go.Deep.add_add, hcell, hv]
end

theorem cells2 : Try.prog.cellsOf 24 = 2 := by kernel_rfl

theorem open_span {H : Type} {enc : TypeId × Value → H} {W : World} {r : Reach} {b0 base : Nat} {spare : Nat → Bool} {held : Bool} {v : Value} {d : DataW H} {p : List MemPlace}
    (hv : Value.okWide Try.prog W r b0 24 v) (h : DataW.Trod enc Try.prog W base spare held 24 v d p) : ∃ s : Wb.Sp, v = SpV s ∧ Bd s := by
  obtain ⟨v0, v1, y0, y1, n, rfl, rfl, rfl, h0, h1⟩ := open_agg2 Try.underlying24 (by kernel_rfl) cells2 hv h
  obtain ⟨z0, e0, _, w0⟩ := DataW.trod_int Try.underlying22 h0
  obtain ⟨z1, e1, _, w1⟩ := DataW.trod_int Try.underlying22 h1
  simp at e0 e1; subst e0 e1
  exact ⟨(z0, z1), rfl, bounds_i64 w0, bounds_i64 w1⟩

set_option maxRecDepth 100000 in
theorem open_spans {H : Type} {enc : TypeId × Value → H} {W : World} {base : Nat} {spare : Nat → Bool} {held : Bool} {xa : Option Addr} {xl xc : Nat} {y : DataW H} {p : List MemPlace}
    (h : DataW.Trod enc Try.prog W base spare held 27 (.slice xa xl xc) y p) : ∃ l, SpL W (.slice xa xl xc) l ∧ BdL l := by
  obtain ⟨fuel, h⟩ := h
  rcases open_slice_recs Try.underlying27 Try.underlying24 (by kernel_rfl) (by rw [cells2]; rfl) h with ⟨hu, _⟩ | ⟨a, len, cap, D, rest, hu, hx, hall⟩
  · simp [Value.cells] at hu
    obtain ⟨rfl, rfl, rfl⟩ := hu
    exact ⟨[], SpL.nil, fun s hs => by cases hs⟩
  · simp [Value.cells] at hu
    obtain ⟨rfl, rfl, rfl⟩ := hu
    have each : ∀ i, i < xl → ∃ x : Wb.Sp, (W.cell? (a.add (i * 2)) = some (.int .i64 x.1) ∧ W.cell? (a.add (i * 2 + 1)) = some (.int .i64 x.2)) ∧ Bd x := by
      intro i hi
      obtain ⟨ys, n, hD, hf⟩ := hall i hi
      obtain ⟨v0, y0, hc0, hy0, ht0⟩ := hf 0 _ rfl
      obtain ⟨v1, y1, hc1, hy1, ht1⟩ := hf 1 _ rfl
      obtain ⟨z0, e0, _, w0⟩ := DataW.trod_int Try.underlying22 ht0
      obtain ⟨z1, e1, _, w1⟩ := DataW.trod_int Try.underlying22 ht1
      simp at e0 e1; subst e0 e1
      exact ⟨(z0, z1), ⟨hc0, hc1⟩, bounds_i64 w0, bounds_i64 w1⟩
    obtain ⟨l, hl, hp⟩ := list_of each
    refine ⟨l, ?_, fun x hx' => ?_⟩
    · by_cases h0 : l = []
      · subst h0
        simp at hl; subst hl
        exact ⟨.inl ⟨rfl, _, _, rfl⟩, rfl, .inr ⟨_, _, rfl, fun j u hj => by simp [rowsOf] at hj⟩⟩
      · have hpos : 0 < l.length := List.length_pos_iff.2 h0
        obtain ⟨b, off, spot⟩ := a
        obtain ⟨x0, hx0⟩ := Wb.get_ex hpos
        have hspot : spot = none := by simpa [Addr.add] using World.cell?_spot (hp 0 x0 hx0).1.1
        subst hspot
        subst hl
        have hcell : ∀ j x, l[j]? = some x → ∀ i u, (spc x)[i]? = some u → W.cell? ⟨b, off + j * 2 + i, none⟩ = some u := fun j x hj i u hu => by
          obtain ⟨⟨h1, h2⟩, _⟩ := hp j x hj
          rw [Go.WideShapes.add_plain] at h1 h2
          match i, hu with
          | 0, hu => simp [spc] at hu; subst hu; exact h1
          | 1, hu => simp [spc] at hu; subst hu; rw [Nat.add_assoc]; exact h2
          | i + 2, hu => simp [spc] at hu
        refine ⟨.inr ⟨b, off, _, rfl, hcell⟩, rowsOf_length spc_len l, .inr ⟨_, _, rfl, fun j u hj => ?_⟩⟩
        have hjl : j < l.length * 2 := by
          have := (List.getElem?_eq_some_iff.1 hj).1
          rw [rowsOf_length spc_len] at this; exact this
        obtain ⟨x, hx1⟩ := Wb.get_ex (l := l) (k := j / 2) (by omega)
        have h1 := rowsOf_get spc_len hx1 (j % 2) (by omega)
        rw [show j / 2 * 2 + j % 2 = j by omega, hj] at h1
        have := hcell _ x hx1 (j % 2) u h1.symm
        rw [show off + j / 2 * 2 + j % 2 = off + j by omega] at this
        rw [Go.WideShapes.add_plain]
        exact this
    · obtain ⟨i, hi⟩ := List.getElem?_of_mem hx'
      exact (hp i x hi).2

/-- days as an argument: both readings -/
theorem days_of {W : World} {a : Addr} {n c : Nat} {l : List Int} (hl : n = l.length) (h : ∀ j y, l[j]? = some y → W.cell? (a.add j) = some (.int .i64 y)) : DayL W (.slice (some a) n c) l ∧ DayT W (.slice (some a) n c) l := by
  subst hl
  refine ⟨⟨by simp, .inr ⟨_, _, rfl, fun j u hj => ?_⟩⟩, ?_⟩
  · rw [List.getElem?_map] at hj
    obtain ⟨y, hy, rfl⟩ := Option.map_eq_some_iff.1 hj
    exact h j y hy
  · by_cases h0 : l = []
    · subst h0; exact .inl ⟨rfl, _, _, rfl⟩
    · obtain ⟨b, off, spot⟩ := a
      obtain ⟨x0, hx0⟩ := Wb.get_ex (List.length_pos_iff.2 h0)
      have hspot : spot = none := by simpa [Addr.add] using World.cell?_spot (h 0 x0 hx0)
      subst hspot
      refine .inr ⟨b, off, c, rfl, fun j x hj i u hu => ?_⟩
      match i, hu with
      | 0, hu =>
        simp [dayc] at hu; subst hu
        have := h j x hj
        rw [Go.WideShapes.add_plain] at this
        rw [Nat.mul_one]; exact this
      | i + 1, hu => simp [dayc] at hu

theorem open_days {H : Type} {enc : TypeId × Value → H} {W : World} {base : Nat} {xa : Option Addr} {xl xc : Nat} {y : DataW H} {p : List MemPlace}
    (h : DataW.Trod enc Try.prog W base (fun _ => true) true 25 (.slice xa xl xc) y p) : ∃ l, DayL W (.slice xa xl xc) l ∧ DayT W (.slice xa xl xc) l ∧ ∀ d ∈ l, -9223372036854775808 ≤ d ∧ d ≤ 9223372036854775807 := by
  obtain ⟨fuel, hf⟩ := h
  rcases open_ints Try.underlying25 Try.underlying22 (by kernel_rfl) hf with ⟨hcs, _⟩ | ⟨x, l, c, zs, hcs, _, hl, hm, hz, _, hcell, hwz⟩
  · simp [Value.cells] at hcs
    obtain ⟨rfl, rfl, rfl⟩ := hcs
    exact ⟨[], ⟨rfl, .inl ⟨rfl, rfl⟩⟩, .inl ⟨rfl, _, _, rfl⟩, by simp⟩
  · simp [Value.cells] at hcs
    obtain ⟨rfl, rfl, rfl⟩ := hcs
    have hz' : xl ≤ zs.length := by rw [hz]; split <;> omega
    have hlen : (zs.take xl).length = xl := by rw [List.length_take]; omega
    obtain ⟨h1, h2⟩ := days_of (W := W) (a := x) (n := xl) (c := xc) (l := zs.take xl) hlen.symm fun j y hj => by
      rw [List.getElem?_take] at hj
      split at hj
      · obtain ⟨h3, h4⟩ := List.getElem?_eq_some_iff.1 hj
        rw [hcell j h3]
        simp [List.getD, hj]
      · cases hj
    exact ⟨_, h1, h2, fun d hd => bounds_i64 (hwz d (List.mem_of_mem_take hd))⟩

end Go.Proofs.Ytdckghdmopafpaa
