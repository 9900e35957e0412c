/- What the laws of chapter 27 want besides their walks: slips as arguments, the tables, the bound. -/
import Derived.Test.YtpiedhjjpmmomaaDoorCards
import Derived.Test.YtpiedhjjpmmomaaDoorTie
import Derived.Test.YtpiedhjjpmmomaaDoorLift
import Derived.Test.YtpiedhjjpmmomaaDoorSlip10
import Derived.WalkKit
import Derived.Deep.DeepHandedRow
import Derived.Lib.LaidTab
import Derived.LaidSub
import Derived.SizedLaws
import Derived.MakeChecks
import Derived.Deep.Slices
import Derived.Deep.Fields
import Derived.ChangeSame
import Derived.Lib.SmallJoins
import Derived.FnData
namespace Go.Proofs.YtpiedhjjpmmomaaDoor
open Go.Joins Go.ChangeShapes Go.WideShapes Go.ChangeAt Go.RowKit Go.Deep

/-! ### the weights -/
theorem weights_mem_all {H : Type} {P : Program} {e : TypeId} : ∀ {ds : List (DataW H)} {d : DataW H}, d ∈ ds → ∀ n ∈ d.weights P e, n ∈ DataW.weightsAll P e ds
  | [], _, h, _, _ => by cases h
  | x :: r, d, h, n, hn => by
    simp only [DataW.weightsAll, List.mem_append]
    rcases List.mem_cons.1 h with rfl | h
    · exact .inl hn
    · exact .inr (weights_mem_all h n hn)

theorem list_of {α : Type} {P : Nat → α → Prop} : ∀ {n : Nat}, (∀ i, i < n → ∃ x, P i x) → ∃ l : List α, l.length = n ∧ ∀ i x, l[i]? = some x → P i x := by
  intro n
  induction n with
  | zero => intro _; exact ⟨[], rfl, fun i x h => by simp at h⟩
  | succ n ih =>
    intro h
    obtain ⟨l, hl, hp⟩ := ih fun i hi => h i (by omega)
    obtain ⟨x, hx⟩ := h n (by omega)
    refine ⟨l ++ [x], by simp [hl], fun i y hy => ?_⟩
    by_cases hi : i < n
    · exact hp i y (by rwa [List.getElem?_append_left (by omega)] at hy)
    · have hin : i = n := by
        have := (List.getElem?_eq_some_iff.1 hy).1
        simp at this; omega
      subst hin
      rw [List.getElem?_append_right (by omega), hl] at hy
      simp at hy; subst hy; exact hx

section
variable {H : Type} {enc : TypeId × Value → H} {P : Program} {w : World} {base : Nat} {spare : Nat → Bool} {held : Bool}
/-- a slice of structs of one-cell fields, opened -/
theorem open_slice_recs {t e : TypeId} {fs : Array Field} {fuel : Nat} {cs : List Value} {x : DataW H × List MemPlace} (ht : P.underlying t = some (.slice e)) (he : P.underlying e = some (.struct fs))
    (hone : oneCellFields P fs = true) (hC : P.cellsOf e = fs.size) (h : DataW.trod enc P w base spare held fuel t cs = some x) :
    (cs = [.slice none 0 0] ∧ x = (.nil, [])) ∨
    ∃ (a : Addr) (len cap : Nat) (D : Nat → DataW H) (rest : List (DataW H)), cs = [.slice (some a) len cap] ∧ x.1 = .slice ((List.range len).map D) rest ∧
      ∀ i, i < len → ∃ (ys : List (DataW H × List MemPlace)) (n : Nat), D i = .agg (ys.map (·.1)) ∧
        ∀ (j : Nat) (f : Field), fs[j]? = some f → ∃ (v : Value) (y : DataW H × List MemPlace), w.cell? (a.add (i * fs.size + j)) = some v ∧ ys[j]? = some y ∧ DataW.trod enc P w base spare held n f.type [v] = some y := by
  rcases open_slice ht h with h0 | ⟨a, len, cap, m, n, D, Pl, hcs, hb, hl, hm, hmm, hx, hi⟩
  · exact .inl h0
  · refine .inr ⟨a, len, cap, D, _, hcs, by rw [hx], fun i him => ?_⟩
    obtain ⟨cs', hc, ht'⟩ := hi i (by rw [hmm]; split <;> omega)
    rw [hC] at hc
    obtain ⟨ys, n', hn', hy, hlen, hyl, hf⟩ := DataW.trod_struct he ht'
    obtain ⟨_, hcl, hat⟩ := World.cells?_some hc
    simp only [Prod.mk.injEq] at hy
    refine ⟨ys, n', hy.1, fun j f hj => ?_⟩
    obtain ⟨ho, hk⟩ := hone_of hone j f hj
    have hjl : j < fs.size := (Array.getElem?_eq_some_iff.1 hj).1
    have hcell := hat j hjl
    have hv : cs'[j]? = some (cs'[j]'(by omega)) := List.getElem?_eq_getElem (by omega)
    have h1 := hf j f hj
    rw [ho, hk] at h1
    have hone' : (cs'.drop j).take 1 = [cs'[j]'(by omega)] := by
      rw [List.drop_eq_getElem_cons (by omega)]
      rfl
    rw [hone'] at h1
    have hys : ys[j]? = some (ys[j]'(by omega)) := List.getElem?_eq_getElem (by omega)
    refine ⟨_, _, ?_, hys, h1.trans hys⟩
    rw [← Go.Deep.add_add, hcell, hv]
end

theorem cells3 : Tryd.prog.cellsOf 39 = 3 := by kernel_rfl
theorem cellsSlip : Tryd.prog.cellsOf 24 = 3 := by kernel_rfl

theorem bytesLine : Tryd.prog.bytesOf 39 = 32 := by kernel_rfl

set_option maxRecDepth 100000 in
theorem open_lines {H : Type} {enc : TypeId × Value → H} {W : World} {base : Nat} {spare : Nat → Bool} {held : Bool} {fuel : Nat} {u : Value} {y : DataW H × List MemPlace}
    (h : DataW.trod enc Tryd.prog W base spare held fuel 22 [u] = some y) (hw : ∀ n ∈ y.1.weights Tryd.prog 22, n ≤ reachBytes) :
    ∃ l, Lns W u l ∧ Sized l := by
  rcases open_slice_recs Tryd.underlying22 Tryd.underlying39 (by kernel_rfl) (by rw [cells3]; rfl) h with ⟨hu, _⟩ | ⟨a, len, cap, D, rest, hu, hx, hall⟩
  · simp at hu; subst hu
    exact ⟨[], .inl ⟨rfl, _, _, rfl⟩, by simp [Sized]⟩
  · simp at hu; subst hu
    rw [hx] at hw
    simp only [DataW.weights, Tryd.underlying22, bytesLine] at hw
    have hw0 := hw _ (List.mem_cons_self ..)
    have hlen : len ≤ 4398046511104 := by simp [reachBytes] at hw0; omega
    have each : ∀ i, i < len → ∃ x : Wb.Ln, (W.cell? (a.add (i * 3)) = some (.int .i64 x.part) ∧ W.cell? (a.add (i * 3 + 1)) = some (.string (Wb.S x.code)) ∧ W.cell? (a.add (i * 3 + 2)) = some (.int .i64 x.cents)) ∧ x.code.length ≤ 140737488355328 := by
      intro i hi
      obtain ⟨ys, n, hD, hf⟩ := hall i hi
      obtain ⟨v0, y0, hc0, hy0, ht0⟩ := hf 0 _ rfl
      obtain ⟨v1, y1, hc1, hy1, ht1⟩ := hf 1 _ rfl
      obtain ⟨v2, y2, hc2, hy2, ht2⟩ := hf 2 _ rfl
      obtain ⟨z0, e0, _, _⟩ := DataW.trod_int Tryd.underlying3 ht0
      obtain ⟨s1, e1, hs1, _⟩ := DataW.trod_string Tryd.underlying9 ht1
      obtain ⟨z2, e2, _, _⟩ := DataW.trod_int Tryd.underlying27 ht2
      simp at e0 e1 e2; subst e0 e1 e2
      obtain ⟨c, rfl⟩ := Wb.S_ex s1
      refine ⟨⟨z0, c, z2⟩, ⟨hc0, hc1, hc2⟩, ?_⟩
      have hwi : ∀ n ∈ (D i).weights Tryd.prog 39, n ≤ reachBytes := fun n hn => hw n (List.mem_cons_of_mem _ (List.mem_append_left _ (weights_mem_all (List.mem_map.2 ⟨i, by simpa using hi, rfl⟩) n hn)))
      rw [hD] at hwi
      simp only [DataW.weights, Tryd.underlying39] at hwi
      have := hwi _ (DataW.weights_mem_each (j := 1) (t := 9) (d := y1.1) rfl (by rw [List.getElem?_map, hy1]; rfl) c.length (by rw [hs1]; simp [DataW.weights, Wb.S]))
      simp [reachBytes] at this
      simp only; omega
    obtain ⟨l, hl, hp⟩ := list_of each
    refine ⟨l, ?_, by omega, fun x hx' => ?_⟩
    · by_cases h0 : l = []
      · subst h0
        simp at hl; subst hl
        exact .inl ⟨rfl, _, _, rfl⟩
      · have hpos : 0 < l.length := List.length_pos_iff.2 h0
        obtain ⟨b, off, spot⟩ := a
        obtain ⟨x0, hx0⟩ := Wb.get_ex hpos
        have hspot : spot = none := by simpa [Addr.add] using World.cell?_spot (hp 0 x0 hx0).1.1
        subst hspot
        subst hl
        refine .inr ⟨b, off, cap, rfl, fun j x hj => ?_⟩
        obtain ⟨⟨h1, h2, h3⟩, _⟩ := hp j x hj
        rw [Go.WideShapes.add_plain] at h1 h2 h3
        exact ⟨h1, by rw [Nat.add_assoc]; exact h2, by rw [Nat.add_assoc]; exact h3⟩
    · obtain ⟨i, hi⟩ := List.getElem?_of_mem hx'
      exact (hp i x hi).2

set_option maxRecDepth 100000 in
theorem open_slip {H : Type} {enc : TypeId × Value → H} {W : World} {r : Reach} {b0 base : Nat} {spare : Nat → Bool} {held : Bool} {v : Value} {d : DataW H} {p : List MemPlace}
    (hv : Value.okWide Tryd.prog W r b0 24 v) (h : DataW.Trod enc Tryd.prog W base spare held 24 v d p) (hw : ∀ n ∈ d.weights Tryd.prog 24, n ≤ reachBytes) :
    ∃ (y i : Int) (u : Value) (l : List Wb.Ln), v = .agg #[.int .i64 y, .int .i64 i, u] ∧ Lns W u l ∧ Sized l := by
  obtain ⟨v0, v1, v2, y0, y1, y2, n, rfl, rfl, rfl, h0, h1, h2⟩ := open_agg3 Tryd.underlying24 (by kernel_rfl) cellsSlip hv h
  obtain ⟨z0, e0, _, _⟩ := DataW.trod_int Tryd.underlying3 h0
  obtain ⟨z1, e1, _, _⟩ := DataW.trod_int Tryd.underlying3 h1
  simp at e0 e1; subst e0 e1
  simp only [DataW.weights, Tryd.underlying24] at hw
  obtain ⟨l, hl, hs⟩ := open_lines h2 fun n hn => hw n (DataW.weights_mem_each (j := 2) (d := y2.1) rfl rfl n hn)
  exact ⟨z0, z1, v2, l, rfl, hl, hs⟩

theorem weights_arg {H : Type} {P : Program} {ts : List TypeId} {ds : List (DataW H)} (h : (DataW.weightsEach P ts ds).all (· ≤ reachBytes) = true) {j : Nat} {t : TypeId} {d : DataW H} (ht : ts[j]? = some t) (hd : ds[j]? = some d) : ∀ n ∈ d.weights P t, n ≤ reachBytes := fun n hn => by
  have := List.all_eq_true.1 h n (DataW.weights_mem_each ht hd n hn)
  simpa using this

/-! ### the tables -/
section
variable {H : Type} {enc : TypeId × Value → H} {P : Program} {w : World} {base : Nat} {sp : Nat → Bool} {held : Bool} {fuel : Nat}
theorem cells_of_words {t e : TypeId} {n : Nat} {cs : List Value} {zs : List (List UInt8)} {p : List MemPlace}
    (ht : P.underlying t = some (.array n e)) (he : P.underlying e = some .string) (hce : P.cellsOf e = 1) (hct : P.cellsOf t = n)
    (h : DataW.trod enc P w base sp held fuel t cs = some (.agg (zs.map fun z => .lit (.string z)), p)) : cs = zs.map fun z => Value.string (Wb.S z) := by
  cases fuel with
  | zero => simp [DataW.trod] at h
  | succ fuel =>
    simp only [DataW.trod, ht, hce, hct, Nat.mul_one] at h
    split at h
    · rename_i hl
      obtain ⟨xs, hm, hx⟩ := Option.map_eq_some_iff.1 h
      have hxs : xs.map (·.1) = zs.map fun z => (DataW.lit (.string z) : DataW H) := by
        have := congrArg Prod.fst hx
        simpa using this
      have hxl : xs.length = n := by simpa using Lib.mapM_length hm
      have hzl : zs.length = n := by
        have := congrArg List.length hxs
        simp at this
        omega
      apply List.ext_getElem?
      intro i
      by_cases hi : i < n
      · obtain ⟨b, hb, hf⟩ := Lib.mapM_at hm i i (by simp [hi])
        obtain ⟨z, hc, rfl, _⟩ := DataW.trod_string he hf
        have h1 : cs[i]? = some (.string z) := by
          have := congrArg (·[0]?) hc
          simpa [List.getElem?_take, List.getElem?_drop] using this
        have h2 : (xs.map (·.1))[i]? = some (DataW.lit (.string z.data.toList) : DataW H) := by simp [hb]
        rw [hxs] at h2
        simp only [List.getElem?_map, Option.map_eq_some_iff, DataW.lit.injEq, Lit.string.injEq] at h2
        obtain ⟨z', hz', hzz⟩ := h2
        simp [h1, hz', Wb.S, hzz]
      · rw [List.getElem?_eq_none (by omega), List.getElem?_eq_none (by simp; omega)]
    · cases h
end
theorem gWords : Tryd.prog.globalNamed "wagebook/slip.words" = some 0 := by kernel_rfl
theorem gWordsT : (Tryd.prog.globals[0]?).map (·.type) = some 75 := by kernel_rfl
theorem cells7 : Tryd.prog.cellsOf 75 = 7 := by kernel_rfl
theorem cells1s : Tryd.prog.cellsOf 9 = 1 := by kernel_rfl
theorem words_of {W : World} {rest : List (String × DataW Unit)} (h : laidMet Tryd.prog (("wagebook/slip.words", Rows.laid_wagebook_slip_words) :: rest) W) : Words W := by
  obtain ⟨ps, ⟨g', t', cs, fuel, p, q, hg', ht', hvar, hd, _, _⟩, _⟩ := h
  obtain rfl := Option.some.inj (gWords.symm.trans hg')
  obtain rfl := Option.some.inj (gWordsT.symm.trans ht')
  have hcs := cells_of_words (zs := wordsL) Tryd.underlying75 Tryd.underlying9 cells1s cells7 hd
  intro j s hj
  have := World.var?_cell gWords hvar j
  rw [this, ← Array.getElem?_toList, hcs]
  simp [hj]
theorem g10T : (Tryd.prog.globals[4]?).map (·.type) = some 114 := by kernel_rfl
theorem cells20 : Tryd.prog.cellsOf 114 = 20 := by kernel_rfl
theorem cells1u : Tryd.prog.cellsOf 101 = 1 := by kernel_rfl
theorem tab10_of {W : World} {rest : List (String × DataW Unit)} (h : laidMet Tryd.prog (("internal/strconv.uint64pow10", Rows.laid_internal_strconv_uint64pow10) :: rest) W) : Tab10 W :=
  Lib.tabIs_of_head g10 g10T Tryd.underlying114 Tryd.underlying101 cells1u cells20 h
/-- from a list of tables that hold just these two among others -/
theorem tables_of {W : World} {l : List (String × DataW Unit)} (h : laidMet Tryd.prog l W) (h1 : (l.filter fun x => x.1 == "wagebook/slip.words") = [("wagebook/slip.words", Rows.laid_wagebook_slip_words)]) (h2 : (l.filter fun x => x.1 == "internal/strconv.uint64pow10") = [("internal/strconv.uint64pow10", Rows.laid_internal_strconv_uint64pow10)]) : Tab10 W ∧ Words W := by
  constructor
  · have := laidMet.filter (fun x => x.1 == "internal/strconv.uint64pow10") h
    rw [h2] at this; exact tab10_of this
  · have := laidMet.filter (fun x => x.1 == "wagebook/slip.words") h
    rw [h1] at this; exact words_of this

/-! ### a world for the witness: the settled one, the tables laid -/
def flatLits : DataW Unit → List Value
  | .agg parts => parts.map fun
    | .lit (.int k z) => .int k z
    | .lit (.string b) => .string ⟨b.toArray⟩
    | _ => .bool false
  | _ => []
def layAt (g : Nat) (d : DataW Unit) (heap : Array Obj) : Array Obj := heap.modify g fun
  | .cells _ t frozen => .cells (flatLits d).toArray t frozen
  | o => o
noncomputable def laidWorld (os : Os) : World :=
  { World.holding Tryd.prog os ⟨#[], #[], []⟩ with heap := layAt 5 Rows.laid_math_bits_deBruijn32tab (layAt 6 Rows.laid_math_bits_deBruijn64tab (layAt 4 Rows.laid_internal_strconv_uint64pow10 (layAt 0 Rows.laid_wagebook_slip_words (World.holding Tryd.prog os ⟨#[], #[], []⟩).heap))) }

end Go.Proofs.YtpiedhjjpmmomaaDoor
