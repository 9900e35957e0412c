/- MLi -/
import Derived.Test.YtnefdpnolojojaaGreatDoorMBa
import Derived.ProofKit
import Derived.OpenShut
import Derived.ShutString
import Derived.ChangeOld
import Derived.Below
import Derived.Test.YtnefdpnolojojaaGreatDoorRun17
import Derived.WalkKit
import Derived.Deep.DeepHandedRow
import Derived.LaidSub
import Derived.SizedLaws
import Derived.MakeChecks
import Derived.Deep.Slices
import Derived.Deep.Fields
import Derived.ChangeSame
import Derived.Lib.SmallJoins
import Derived.FnData
namespace Go.Proofs.YtnefdpnolojojaaGreatDoor
open Go.ChangeShapes Go.WideShapes Go.ChangeAt Go.RowKit
theorem own : ownKnob Tryz.prog.godebug = none := by kernel_rfl
theorem laidOut : laidOutB Tryz.prog = true := by kernel_rfl
end Go.Proofs.YtnefdpnolojojaaGreatDoor
namespace Go.Proofs.YtnefdpnolojojaaGreatDoor
open Go.Joins Go.ChangeShapes Go.WideShapes Go.ChangeAt Go.RowKit Go.Deep
theorem weights_mem_all {H : Type} {P : Program} {e : TypeId} : ∀ {ds : List (DataW H)} {d : DataW H}, d ∈ ds → ∀ n ∈ d.weights P e, n ∈ DataW.weightsAll P e ds
 | [], _, h, _, _ => by cases h
 | x :: r, d, h, n, hn => by
  simp only [DataW.weightsAll, List.mem_append]
  rcases List.mem_cons.1 h with rfl | h
  ·exact .inl hn
  ·exact .inr (weights_mem_all h n hn)
theorem list_of {α : Type} {P : Nat → α → Prop} : ∀ {n : Nat}, (∀ i, i < n → ∃ x, P i x) → ∃ l : List α, l.length = n ∧ ∀ i x, l[i]? = some x → P i x := by
 intro n
 induction n with
 | zero => intro _; exact ⟨[], rfl, fun i x h => by simp at h⟩
 | succ n ih =>
  intro h
  obtain ⟨l, hl, hp⟩ := ih fun i hi => h i (by omega)
  obtain ⟨x, hx⟩ := h n (by omega)
  refine ⟨l ++ [x], by simp [hl], fun i y hy => ?_⟩
  by_cases hi : i < n
  ·exact hp i y (by rwa [List.getElem?_append_left (by omega)] at hy)
  ·have hin : i = n := by
    have := (List.getElem?_eq_some_iff.1 hy).1
    simp at this; omega
   subst hin
   rw [List.getElem?_append_right (by omega), hl] at hy
   simp at hy; subst hy; exact hx
section
variable {H : Type} {enc : TypeId × Value → H} {P : Program} {w : World} {base : Nat} {spare : Nat → Bool} {held : Bool}
theorem open_slice_recs {t e : TypeId} {fs : Array Field} {fuel : Nat} {cs : List Value} {x : DataW H × List MemPlace} (ht : P.underlying t = some (.slice e)) (he : P.underlying e = some (.struct fs))
  (hone : oneCellFields P fs = true) (hC : P.cellsOf e = fs.size) (h : DataW.trod enc P w base spare held fuel t cs = some x) :
  (cs = [.slice none 0 0] ∧ x = (.nil, [])) ∨
  ∃ (a : Addr) (len cap : Nat) (D : Nat → DataW H) (rest : List (DataW H)), cs = [.slice (some a) len cap] ∧ x.1 = .slice ((List.range len).map D) rest ∧ len ≤ cap ∧ cap ≤ maxLen ∧
   ∀ i, i < len → ∃ (ys : List (DataW H × List MemPlace)) (n : Nat), D i = .agg (ys.map (·.1)) ∧
    ∀ (j : Nat) (f : Field), fs[j]? = some f → ∃ (v : Value) (y : DataW H × List MemPlace), w.cell? (a.add (i * fs.size + j)) = some v ∧ ys[j]? = some y ∧ DataW.trod enc P w base spare held n f.type [v] = some y := by
 rcases open_slice ht h with h0 | ⟨a, len, cap, m, n, D, Pl, hcs, hb, hl, hm, hmm, hx, hi⟩
 ·exact .inl h0
 ·refine .inr ⟨a, len, cap, D, _, hcs, by rw [hx], hl, hm, fun i him => ?_⟩
  obtain ⟨cs', hc, ht'⟩ := hi i (by rw [hmm]; split <;> omega)
  rw [hC] at hc
  obtain ⟨ys, n', hn', hy, hlen, hyl, hf⟩ := DataW.trod_struct he ht'
  obtain ⟨_, hcl, hat⟩ := World.cells?_some hc
  simp only [Prod.mk.injEq] at hy
  refine ⟨ys, n', hy.1, fun j f hj => ?_⟩
  obtain ⟨ho, hk⟩ := hone_of hone j f hj
  have hjl : j < fs.size := (Array.getElem?_eq_some_iff.1 hj).1
  have hcell := hat j hjl
  have hv : cs'[j]? = some (cs'[j]'(by omega)) := List.getElem?_eq_getElem (by omega)
  have h1 := hf j f hj
  rw [ho, hk] at h1
  have hone' : (cs'.drop j).take 1 = [cs'[j]'(by omega)] := by
   rw [List.drop_eq_getElem_cons (by omega)]
   rfl
  rw [hone'] at h1
  have hys : ys[j]? = some (ys[j]'(by omega)) := List.getElem?_eq_getElem (by omega)
  refine ⟨_, _, ?_, hys, h1.trans hys⟩
  rw [← Go.Deep.add_add, hcell, hv]
end
theorem cells3 : Tryz.prog.cellsOf 89 = 3 := by kernel_rfl
theorem cellsSlip : Tryz.prog.cellsOf 50 = 3 := by kernel_rfl
theorem cellsHand : Tryz.prog.cellsOf 94 = 2 := by kernel_rfl
theorem cellsAct : Tryz.prog.cellsOf 44 = 4 := by kernel_rfl
theorem bytesLine : Tryz.prog.bytesOf 89 = 32 := by kernel_rfl
theorem bytesSlip : Tryz.prog.bytesOf 50 = 40 := by kernel_rfl
theorem bytesHand : Tryz.prog.bytesOf 94 = 32 := by kernel_rfl
theorem bytesAct : Tryz.prog.bytesOf 44 = 48 := by kernel_rfl
theorem tbl_of {α : Type} {k : Nat} {f : α → List Value} {Q : α → Prop} {W : World} {a : Addr} {len cap : Nat} (hf : ∀ x, ∃ u, (f x)[0]? = some u)
  (each : ∀ i, i < len → ∃ x, (∀ j u, (f x)[j]? = some u → W.cell? (a.add (i * k + j)) = some u) ∧ Q x) : ∃ L, Tbl k f W (.slice (some a) len cap) L ∧ L.length = len ∧ ∀ x ∈ L, Q x := by
 obtain ⟨L, hl, hp⟩ := list_of each
 refine ⟨L, ?_, hl, fun x hx => ?_⟩
 ·by_cases h0 : L = []
  ·subst h0
   simp at hl; subst hl
   exact .inl ⟨rfl, _, _, rfl⟩
  ·have hpos : 0 < L.length := List.length_pos_iff.2 h0
   obtain ⟨b, off, spot⟩ := a
   obtain ⟨x0, hx0⟩ := Wb.get_ex hpos
   obtain ⟨u0, hu0⟩ := hf x0
   have hspot : spot = none := by simpa [Addr.add] using World.cell?_spot ((hp 0 x0 hx0).1 0 u0 hu0)
   subst hspot
   subst hl
   refine .inr ⟨b, off, _, rfl, fun j x hj i u hu => ?_⟩
   have h1 := (hp j x hj).1 i u hu
   rw [Go.WideShapes.add_plain] at h1
   rw [Nat.add_assoc]; exact h1
 ·obtain ⟨i, hi⟩ := List.getElem?_of_mem hx
  exact (hp i x hi).2
set_option maxRecDepth 100000 in
theorem open_lines {H : Type} {enc : TypeId × Value → H} {W : World} {base : Nat} {spare : Nat → Bool} {held : Bool} {fuel : Nat} {u : Value} {y : DataW H × List MemPlace}
  (h : DataW.trod enc Tryz.prog W base spare held fuel 48 [u] = some y) (hw : ∀ n ∈ y.1.weights Tryz.prog 48, n ≤ reachBytes) :
  ∃ l, LnsC W u l ∧ Sized l := by
 rcases open_slice_recs Tryz.underlying48 Tryz.underlying89 (by kernel_rfl) (by rw [cells3]; rfl) h with ⟨hu, _⟩ | ⟨a, len, cap, D, rest, hu, hx, hlc, _, hall⟩
 ·simp at hu; subst hu
  exact ⟨[], ⟨.inl ⟨rfl, _, _, rfl⟩, Nat.le_refl _⟩, by simp [Sized]⟩
 ·simp at hu; subst hu
  rw [hx] at hw
  simp only [DataW.weights, Tryz.underlying48, bytesLine] at hw
  have hw0 := hw _ (List.mem_cons_self ..)
  have hlen : len ≤ 4398046511104 := by simp [reachBytes] at hw0; omega
  have each : ∀ i, i < len → ∃ x : Wb.Ln, (W.cell? (a.add (i * 3)) = some (.int .i64 x.part) ∧ W.cell? (a.add (i * 3 + 1)) = some (.string (Wb.S x.code)) ∧ W.cell? (a.add (i * 3 + 2)) = some (.int .i64 x.cents)) ∧ x.code.length ≤ 140737488355328 := by
   intro i hi
   obtain ⟨ys, n, hD, hf⟩ := hall i hi
   obtain ⟨v0, y0, hc0, hy0, ht0⟩ := hf 0 _ rfl
   obtain ⟨v1, y1, hc1, hy1, ht1⟩ := hf 1 _ rfl
   obtain ⟨v2, y2, hc2, hy2, ht2⟩ := hf 2 _ rfl
   obtain ⟨z0, e0, _, _⟩ := DataW.trod_int Tryz.underlying3 ht0
   obtain ⟨s1, e1, hs1, _⟩ := DataW.trod_string Tryz.underlying9 ht1
   obtain ⟨z2, e2, _, _⟩ := DataW.trod_int Tryz.underlying52 ht2
   simp at e0 e1 e2; subst e0 e1 e2
   obtain ⟨c, rfl⟩ := Wb.S_ex s1
   refine ⟨⟨z0, c, z2⟩, ⟨hc0, hc1, hc2⟩, ?_⟩
   have hwi : ∀ n ∈ (D i).weights Tryz.prog 89, n ≤ reachBytes := fun n hn => hw n (List.mem_cons_of_mem _ (List.mem_append_left _ (weights_mem_all (List.mem_map.2 ⟨i, by simpa using hi, rfl⟩) n hn)))
   rw [hD] at hwi
   simp only [DataW.weights, Tryz.underlying89] at hwi
   have := hwi _ (DataW.weights_mem_each (j := 1) (t := 9) (d := y1.1) rfl (by rw [List.getElem?_map, hy1]; rfl) c.length (by rw [hs1]; simp [DataW.weights, Wb.S]))
   simp [reachBytes] at this
   simp only; omega
  obtain ⟨l, hl, hp⟩ := list_of each
  refine ⟨l, ⟨?_, hlc⟩, by omega, fun x hx' => ?_⟩
  ·by_cases h0 : l = []
   ·subst h0
    simp at hl; subst hl
    exact .inl ⟨rfl, _, _, rfl⟩
   ·have hpos : 0 < l.length := List.length_pos_iff.2 h0
    obtain ⟨b, off, spot⟩ := a
    obtain ⟨x0, hx0⟩ := Wb.get_ex hpos
    have hspot : spot = none := by simpa [Addr.add] using World.cell?_spot (hp 0 x0 hx0).1.1
    subst hspot
    subst hl
    refine .inr ⟨b, off, cap, rfl, fun j x hj => ?_⟩
    obtain ⟨⟨h1, h2, h3⟩, _⟩ := hp j x hj
    rw [Go.WideShapes.add_plain] at h1 h2 h3
    exact ⟨h1, by rw [Nat.add_assoc]; exact h2, by rw [Nat.add_assoc]; exact h3⟩
  ·obtain ⟨i, hi⟩ := List.getElem?_of_mem hx'
   have := (hp i x hi).2; omega
set_option maxRecDepth 100000 in
theorem open_slips31 {H : Type} {enc : TypeId × Value → H} {W : World} {base : Nat} {spare : Nat → Bool} {held : Bool} {fuel : Nat} {u : Value} {y : DataW H × List MemPlace}
  (h : DataW.trod enc Tryz.prog W base spare held fuel 51 [u] = some y) (hw : ∀ n ∈ y.1.weights Tryz.prog 51, n ≤ reachBytes) :
  ∃ L, Sls W u L ∧ L.length ≤ ZZ ∧ ∀ s ∈ L, s.l.length ≤ ZZ := by
 rcases open_slice_recs Tryz.underlying51 Tryz.underlying50 (by kernel_rfl) (by rw [cellsSlip]; rfl) h with ⟨hu, _⟩ | ⟨a, len, cap, D, rest, hu, hx, hlc, _, hall⟩
 ·simp at hu; subst hu
  exact ⟨[], ⟨.inl ⟨rfl, _, _, rfl⟩, fun s hs => by cases hs⟩, by simp, fun s hs => by cases hs⟩
 ·simp at hu; subst hu
  rw [hx] at hw
  simp only [DataW.weights, Tryz.underlying51, bytesSlip] at hw
  have hw0 := hw _ (List.mem_cons_self ..)
  have hlen : len ≤ 140737488355328 := by simp [reachBytes] at hw0; omega
  have each : ∀ i, i < len → ∃ x : Wb.Sl, (∀ j u, (slc x)[j]? = some u → W.cell? (a.add (i * 3 + j)) = some u) ∧ (fun x => (LnsC W x.v x.l ∧ Sized x.l) ∧ x.l.length ≤ ZZ) x := by
   intro i hi
   obtain ⟨ys, n, hD, hf⟩ := hall i hi
   have hwi : ∀ n ∈ (D i).weights Tryz.prog 50, n ≤ reachBytes := fun n hn => hw n (List.mem_cons_of_mem _ (List.mem_append_left _ (weights_mem_all (List.mem_map.2 ⟨i, by simpa using hi, rfl⟩) n hn)))
   rw [hD] at hwi
   simp only [DataW.weights, Tryz.underlying50] at hwi
   obtain ⟨v0, y0, hc0, hy0, ht0⟩ := hf 0 _ rfl
   obtain ⟨z0, e0, _, wf0⟩ := DataW.trod_int Tryz.underlying3 ht0
   simp at e0; subst e0
   obtain ⟨v1, y1, hc1, hy1, ht1⟩ := hf 1 _ rfl
   obtain ⟨z1, e1, _, wf1⟩ := DataW.trod_int Tryz.underlying3 ht1
   simp at e1; subst e1
   obtain ⟨v2, y2, hc2, hy2, ht2⟩ := hf 2 _ rfl
   have hwj : ∀ n ∈ y2.1.weights Tryz.prog 48, n ≤ reachBytes := fun n hn => hwi n (DataW.weights_mem_each (j := 2) (t := 48) (d := y2.1) rfl (by rw [List.getElem?_map, hy2]; rfl) n hn)
   obtain ⟨l, hl, hs⟩ := open_lines ht2 hwj
   refine ⟨⟨z0, z1, v2, l⟩, fun j u hj => ?_, ⟨hl, hs⟩, by have := hs.1; simp only; unfold ZZ; omega⟩
   match j, hj with
   | 0, hj => simp [slc] at hj; subst hj; exact hc0
   | 1, hj => simp [slc] at hj; subst hj; exact hc1
   | 2, hj => simp [slc] at hj; subst hj; exact hc2
   | j + 3, hj => simp [slc] at hj
  obtain ⟨L, hL, hl, hp⟩ := tbl_of (fun x => ⟨_, rfl⟩) each (cap := cap)
  exact ⟨L, ⟨hL, fun s hs => (hp s hs).1⟩, by unfold ZZ; omega, fun s hs => (hp s hs).2⟩
set_option maxRecDepth 100000 in
theorem open_hands31 {H : Type} {enc : TypeId × Value → H} {W : World} {base : Nat} {spare : Nat → Bool} {held : Bool} {fuel : Nat} {u : Value} {y : DataW H × List MemPlace}
  (h : DataW.trod enc Tryz.prog W base spare held fuel 42 [u] = some y) (hw : ∀ n ∈ y.1.weights Tryz.prog 42, n ≤ reachBytes) :
  ∃ L, HdsW W u L ∧ L.length ≤ ZZ ∧ ∀ h ∈ L, h.L.length ≤ ZZ ∧ ∀ s ∈ h.L, s.l.length ≤ ZZ := by
 rcases open_slice_recs Tryz.underlying42 Tryz.underlying94 (by kernel_rfl) (by rw [cellsHand]; rfl) h with ⟨hu, _⟩ | ⟨a, len, cap, D, rest, hu, hx, hlc, _, hall⟩
 ·simp at hu; subst hu
  exact ⟨[], ⟨.inl ⟨rfl, _, _, rfl⟩, fun s hs => by cases hs⟩, by simp, fun s hs => by cases hs⟩
 ·simp at hu; subst hu
  rw [hx] at hw
  simp only [DataW.weights, Tryz.underlying42, bytesHand] at hw
  have hw0 := hw _ (List.mem_cons_self ..)
  have hlen : len ≤ 140737488355328 := by simp [reachBytes] at hw0; omega
  have each : ∀ i, i < len → ∃ x : HdM, (∀ j u, (hdc x)[j]? = some u → W.cell? (a.add (i * 2 + j)) = some u) ∧ (fun x => (Sls W x.v x.L ∧ kU32.ok x.p) ∧ x.L.length ≤ ZZ ∧ ∀ s ∈ x.L, s.l.length ≤ ZZ) x := by
   intro i hi
   obtain ⟨ys, n, hD, hf⟩ := hall i hi
   have hwi : ∀ n ∈ (D i).weights Tryz.prog 94, n ≤ reachBytes := fun n hn => hw n (List.mem_cons_of_mem _ (List.mem_append_left _ (weights_mem_all (List.mem_map.2 ⟨i, by simpa using hi, rfl⟩) n hn)))
   rw [hD] at hwi
   simp only [DataW.weights, Tryz.underlying94] at hwi
   obtain ⟨v0, y0, hc0, hy0, ht0⟩ := hf 0 _ rfl
   obtain ⟨z0, e0, _, wf0⟩ := DataW.trod_int Tryz.underlying47 ht0
   simp at e0; subst e0
   obtain ⟨v1, y1, hc1, hy1, ht1⟩ := hf 1 _ rfl
   have hwj : ∀ n ∈ y1.1.weights Tryz.prog 51, n ≤ reachBytes := fun n hn => hwi n (DataW.weights_mem_each (j := 1) (t := 51) (d := y1.1) rfl (by rw [List.getElem?_map, hy1]; rfl) n hn)
   obtain ⟨l, hl, hs⟩ := open_slips31 ht1 hwj
   refine ⟨⟨z0, v1, l⟩, fun j u hj => ?_, ⟨hl, wf0⟩, hs⟩
   match j, hj with
   | 0, hj => simp [hdc] at hj; subst hj; exact hc0
   | 1, hj => simp [hdc] at hj; subst hj; exact hc1
   | j + 2, hj => simp [hdc] at hj
  obtain ⟨L, hL, hl, hp⟩ := tbl_of (fun x => ⟨_, rfl⟩) each (cap := cap)
  exact ⟨L, ⟨hL, fun s hs => (hp s hs).1⟩, by unfold ZZ; omega, fun s hs => (hp s hs).2⟩
set_option maxRecDepth 100000 in
theorem open_acts31 {H : Type} {enc : TypeId × Value → H} {W : World} {base : Nat} {spare : Nat → Bool} {held : Bool} {fuel : Nat} {u : Value} {y : DataW H × List MemPlace}
  (h : DataW.trod enc Tryz.prog W base spare held fuel 39 [u] = some y) (hw : ∀ n ∈ y.1.weights Tryz.prog 39, n ≤ reachBytes) :
  ∃ L, ActsM W u L ∧ FitA L := by
 rcases open_slice_recs Tryz.underlying39 Tryz.underlying44 (by kernel_rfl) (by rw [cellsAct]; rfl) h with ⟨hu, _⟩ | ⟨a, len, cap, D, rest, hu, hx, hlc, _, hall⟩
 ·simp at hu; subst hu
  exact ⟨[], ⟨.inl ⟨rfl, _, _, rfl⟩, fun s hs => by cases hs⟩, by simp, fun s hs => by cases hs⟩
 ·simp at hu; subst hu
  rw [hx] at hw
  simp only [DataW.weights, Tryz.underlying39, bytesAct] at hw
  have hw0 := hw _ (List.mem_cons_self ..)
  have hlen : len ≤ 140737488355328 := by simp [reachBytes] at hw0; omega
  have each : ∀ i, i < len → ∃ x : AcM, (∀ j u, (acc x)[j]? = some u → W.cell? (a.add (i * 4 + j)) = some u) ∧ (fun x => HdsW W x.v x.hs ∧ x.hs.length ≤ ZZ ∧ ∀ h ∈ x.hs, h.L.length ≤ ZZ ∧ ∀ s ∈ h.L, s.l.length ≤ ZZ) x := by
   intro i hi
   obtain ⟨ys, n, hD, hf⟩ := hall i hi
   have hwi : ∀ n ∈ (D i).weights Tryz.prog 44, n ≤ reachBytes := fun n hn => hw n (List.mem_cons_of_mem _ (List.mem_append_left _ (weights_mem_all (List.mem_map.2 ⟨i, by simpa using hi, rfl⟩) n hn)))
   rw [hD] at hwi
   simp only [DataW.weights, Tryz.underlying44] at hwi
   obtain ⟨v0, y0, hc0, hy0, ht0⟩ := hf 0 _ rfl
   obtain ⟨z0, e0, _, wf0⟩ := DataW.trod_int Tryz.underlying3 ht0
   simp at e0; subst e0
   obtain ⟨v1, y1, hc1, hy1, ht1⟩ := hf 1 _ rfl
   obtain ⟨z1, e1, _, wf1⟩ := DataW.trod_int Tryz.underlying3 ht1
   simp at e1; subst e1
   obtain ⟨v2, y2, hc2, hy2, ht2⟩ := hf 2 _ rfl
   obtain ⟨z2, e2, _, wf2⟩ := DataW.trod_int Tryz.underlying3 ht2
   simp at e2; subst e2
   obtain ⟨v3, y3, hc3, hy3, ht3⟩ := hf 3 _ rfl
   have hwj : ∀ n ∈ y3.1.weights Tryz.prog 42, n ≤ reachBytes := fun n hn => hwi n (DataW.weights_mem_each (j := 3) (t := 42) (d := y3.1) rfl (by rw [List.getElem?_map, hy3]; rfl) n hn)
   obtain ⟨l, hl, hs⟩ := open_hands31 ht3 hwj
   refine ⟨⟨z0, z1, z2, v3, l⟩, fun j u hj => ?_, hl, hs⟩
   match j, hj with
   | 0, hj => simp [acc] at hj; subst hj; exact hc0
   | 1, hj => simp [acc] at hj; subst hj; exact hc1
   | 2, hj => simp [acc] at hj; subst hj; exact hc2
   | 3, hj => simp [acc] at hj; subst hj; exact hc3
   | j + 4, hj => simp [acc] at hj
  obtain ⟨L, hL, hl, hp⟩ := tbl_of (fun x => ⟨_, rfl⟩) each (cap := cap)
  exact ⟨L, ⟨hL, fun s hs => (hp s hs).1⟩, by unfold ZZ; omega, fun s hs => (hp s hs).2⟩
theorem weights_arg {H : Type} {P : Program} {ts : List TypeId} {ds : List (DataW H)} (h : (DataW.weightsEach P ts ds).all (· ≤ reachBytes) = true) {j : Nat} {t : TypeId} {d : DataW H} (ht : ts[j]? = some t) (hd : ds[j]? = some d) : ∀ n ∈ d.weights P t, n ≤ reachBytes := fun n hn => by
 have := List.all_eq_true.1 h n (DataW.weights_mem_each ht hd n hn)
 simpa using this
end Go.Proofs.YtnefdpnolojojaaGreatDoor
