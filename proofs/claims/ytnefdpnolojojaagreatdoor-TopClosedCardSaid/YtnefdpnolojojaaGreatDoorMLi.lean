/- MLi -/
import Derived.Test.YtnefdpnolojojaaGreatDoorMBa
import Derived.ProofKit
import Derived.OpenShut
import Derived.ShutString
import Derived.ChangeOld
import Derived.Below
import Derived.Test.YtnefdpnolojojaaGreatDoorRun17
import Derived.WalkKit
import Derived.Deep.DeepHandedRow
import Derived.LaidSub
import Derived.SizedLaws
import Derived.MakeChecks
import Derived.Deep.Slices
import Derived.Deep.Fields
import Derived.ChangeSame
import Derived.Lib.SmallJoins
import Derived.FnData
namespace Go.Proofs.YtnefdpnolojojaaGreatDoor
open Go.ChangeShapes Go.WideShapes Go.ChangeAt Go.RowKit
theorem own : ownKnob Tryz.prog.godebug = none := by kernel_rfl
theorem laidOut : laidOutB Tryz.prog = true := by kernel_rfl
end Go.Proofs.YtnefdpnolojojaaGreatDoor
namespace Go.Proofs.YtnefdpnolojojaaGreatDoor
open Go.Joins Go.ChangeShapes Go.WideShapes Go.ChangeAt Go.RowKit Go.Deep
theorem list_of {α : Type} {P : Nat → α → Prop} : ∀ {n : Nat}, (∀ i, i < n → ∃ x, P i x) → ∃ l : List α, l.length = n ∧ ∀ i x, l[i]? = some x → P i x := by
 intro n
 induction n with
 | zero => intro _; exact ⟨[], rfl, fun i x h => by simp at h⟩
 | succ n ih =>
  intro h
  obtain ⟨l, hl, hp⟩ := ih fun i hi => h i (by omega)
  obtain ⟨x, hx⟩ := h n (by omega)
  refine ⟨l ++ [x], by simp [hl], fun i y hy => ?_⟩
  by_cases hi : i < n
  ·exact hp i y (by rwa [List.getElem?_append_left (by omega)] at hy)
  ·have hin : i = n := by
    have := (List.getElem?_eq_some_iff.1 hy).1
    simp at this; omega
   subst hin
   rw [List.getElem?_append_right (by omega), hl] at hy
   simp at hy; subst hy; exact hx
section
variable {H : Type} {enc : TypeId × Value → H} {P : Program} {w : World} {base : Nat} {spare : Nat → Bool} {held : Bool}
theorem open_slice_recs {t e : TypeId} {fs : Array Field} {fuel : Nat} {cs : List Value} {x : DataW H × List MemPlace} (ht : P.underlying t = some (.slice e)) (he : P.underlying e = some (.struct fs))
  (hone : oneCellFields P fs = true) (hC : P.cellsOf e = fs.size) (h : DataW.trod enc P w base spare held fuel t cs = some x) :
  (cs = [.slice none 0 0] ∧ x = (.nil, [])) ∨
  ∃ (a : Addr) (len cap : Nat) (D : Nat → DataW H) (rest : List (DataW H)), cs = [.slice (some a) len cap] ∧ x.1 = .slice ((List.range len).map D) rest ∧ len ≤ cap ∧ cap ≤ maxLen ∧
   ∀ i, i < len → ∃ (ys : List (DataW H × List MemPlace)) (n : Nat), D i = .agg (ys.map (·.1)) ∧
    ∀ (j : Nat) (f : Field), fs[j]? = some f → ∃ (v : Value) (y : DataW H × List MemPlace), w.cell? (a.add (i * fs.size + j)) = some v ∧ ys[j]? = some y ∧ DataW.trod enc P w base spare held n f.type [v] = some y := by
 rcases open_slice ht h with h0 | ⟨a, len, cap, m, n, D, Pl, hcs, hb, hl, hm, hmm, hx, hi⟩
 ·exact .inl h0
 ·refine .inr ⟨a, len, cap, D, _, hcs, by rw [hx], hl, hm, fun i him => ?_⟩
  obtain ⟨cs', hc, ht'⟩ := hi i (by rw [hmm]; split <;> omega)
  rw [hC] at hc
  obtain ⟨ys, n', hn', hy, hlen, hyl, hf⟩ := DataW.trod_struct he ht'
  obtain ⟨_, hcl, hat⟩ := World.cells?_some hc
  simp only [Prod.mk.injEq] at hy
  refine ⟨ys, n', hy.1, fun j f hj => ?_⟩
  obtain ⟨ho, hk⟩ := hone_of hone j f hj
  have hjl : j < fs.size := (Array.getElem?_eq_some_iff.1 hj).1
  have hcell := hat j hjl
  have hv : cs'[j]? = some (cs'[j]'(by omega)) := List.getElem?_eq_getElem (by omega)
  have h1 := hf j f hj
  rw [ho, hk] at h1
  have hone' : (cs'.drop j).take 1 = [cs'[j]'(by omega)] := by
   rw [List.drop_eq_getElem_cons (by omega)]
   rfl
  rw [hone'] at h1
  have hys : ys[j]? = some (ys[j]'(by omega)) := List.getElem?_eq_getElem (by omega)
  refine ⟨_, _, ?_, hys, h1.trans hys⟩
  rw [← Go.Deep.add_add, hcell, hv]
end
theorem tbl_of {α : Type} {k : Nat} {f : α → List Value} {Q : α → Prop} {W : World} {a : Addr} {len cap : Nat} (hf : ∀ x, ∃ u, (f x)[0]? = some u)
  (each : ∀ i, i < len → ∃ x, (∀ j u, (f x)[j]? = some u → W.cell? (a.add (i * k + j)) = some u) ∧ Q x) : ∃ L, Tbl k f W (.slice (some a) len cap) L ∧ L.length = len ∧ ∀ x ∈ L, Q x := by
 obtain ⟨L, hl, hp⟩ := list_of each
 refine ⟨L, ?_, hl, fun x hx => ?_⟩
 ·by_cases h0 : L = []
  ·subst h0
   simp at hl; subst hl
   exact .inl ⟨rfl, _, _, rfl⟩
  ·have hpos : 0 < L.length := List.length_pos_iff.2 h0
   obtain ⟨b, off, spot⟩ := a
   obtain ⟨x0, hx0⟩ := Wb.get_ex hpos
   obtain ⟨u0, hu0⟩ := hf x0
   have hspot : spot = none := by simpa [Addr.add] using World.cell?_spot ((hp 0 x0 hx0).1 0 u0 hu0)
   subst hspot
   subst hl
   refine .inr ⟨b, off, _, rfl, fun j x hj i u hu => ?_⟩
   have h1 := (hp j x hj).1 i u hu
   rw [Go.WideShapes.add_plain] at h1
   rw [Nat.add_assoc]; exact h1
 ·obtain ⟨i, hi⟩ := List.getElem?_of_mem hx
  exact (hp i x hi).2
end Go.Proofs.YtnefdpnolojojaaGreatDoor
