/- One more argument of chapter 31's laws: an act; how long the acts may be. -/
import Derived.Test.YtnefdpnolojojaaGreatMLi
import Derived.Test.YtnefdpnolojojaaGreatMSt
namespace Go.Proofs.YtnefdpnolojojaaGreat
open Go.ChangeShapes Go.WideShapes Go.ChangeAt Go.RowKit
set_option maxRecDepth 8000

theorem fld2 {H : Type} {enc : TypeId × Value → H} {P : Program} {w : World} {base : Nat} {spare : Nat → Bool} {held : Bool} {f : Field} {cs cs' : List Value} {xs : List (DataW H × List MemPlace)} {i n off k : Nat} (h : DataW.trod enc P w base spare held n f.type ((cs.drop f.offset).take (P.cellsOf f.type)) = xs[i]?) (hi : i < xs.length)
    (ho : f.offset = off) (hk : P.cellsOf f.type = k) (hc : (cs.drop off).take k = cs') : ∃ y, xs[i]? = some y ∧ DataW.trod enc P w base spare held n f.type cs' = some y := by
  rw [ho, hk, hc] at h
  exact ⟨_, List.getElem?_eq_getElem hi, h.trans (List.getElem?_eq_getElem hi)⟩
theorem acts_more {H : Type} {enc : TypeId × Value → H} {W : World} {base : Nat} {spare : Nat → Bool} {held : Bool} {fuel : Nat} {u : Value} {y : DataW H × List MemPlace}
    (h : DataW.trod enc Tryz.prog W base spare held fuel 51 [u] = some y) (hw : ∀ n ∈ y.1.weights Tryz.prog 51, n ≤ reachBytes) :
    Laid u ∧ ∀ L, ActsM W u L → L.length * 48 ≤ 140737488351232 := by
  rcases open_slice_recs Tryz.underlying51 Tryz.underlying58 (by kernel_rfl) (by rw [cellsAct]; rfl) h with ⟨hu, _⟩ | ⟨a, len, cap, D, rest, hu, hx, hlc, _, hall⟩
  · simp at hu; subst hu
    refine ⟨.inl rfl, fun L hL => ?_⟩
    obtain ⟨a, c, hv⟩ := hL.tab.shape
    injection hv with h1 h2 h3
    omega
  · simp at hu; subst hu
    rw [hx] at hw
    simp only [DataW.weights, Tryz.underlying51, bytesAct] at hw
    have hw0 := hw _ (List.mem_cons_self ..)
    simp [reachBytes] at hw0
    refine ⟨.inr ⟨_, _, _, rfl⟩, fun L hL => ?_⟩
    obtain ⟨a, c, hv⟩ := hL.tab.shape
    injection hv with h1 h2 h3
    omega
theorem open_act31 {H : Type} {enc : TypeId × Value → H} {W : World} {base b0 : Nat} {spare : Nat → Bool} {held : Bool} {r : Reach} {v : Value} {d : DataW H} {p : List MemPlace} (hv : Value.okWide Tryz.prog W r b0 58 v) (h : DataW.Trod enc Tryz.prog W base spare held 58 v d p)
    (hw : ∀ n ∈ d.weights Tryz.prog 58, n ≤ reachBytes) :
    ∃ a : AcM, v = .agg #[.int .i64 a.y, .int .i64 a.i, .int .i64 a.k, a.v] ∧ HdsW W a.v a.hs ∧ a.hs.length ≤ ZZ ∧ ∀ h ∈ a.hs, h.L.length ≤ ZZ ∧ ∀ s ∈ h.L, s.l.length ≤ ZZ := by
  obtain ⟨cs, rfl, hsz⟩ := okWide_struct Tryz.underlying58 hv
  obtain ⟨l⟩ := cs
  have hl : l.length = 4 := hsz.trans (by kernel_rfl)
  obtain ⟨fuel, hf0⟩ := h
  have hf1 : DataW.trod enc Tryz.prog W base spare held fuel 58 l = some (d, p) := by simpa [Value.cells] using hf0
  obtain ⟨c0, c1, c2, c3, rfl⟩ : ∃ c0 c1 c2 c3, l = [c0, c1, c2, c3] := by
    match l, hl with
    | [c0, c1, c2, c3], _ => exact ⟨c0, c1, c2, c3, rfl⟩
  obtain ⟨ys, n, _, hy, hlen, hyl, hf⟩ := DataW.trod_struct Tryz.underlying58 hf1
  simp only [Prod.mk.injEq] at hy
  have hd := hy.1
  subst hd
  simp only [DataW.weights, Tryz.underlying58] at hw
  obtain ⟨y0, g0, h0⟩ := fld2 (k := 1) (hf 0 _ rfl) (by rw [hyl]; decide) rfl (by kernel_rfl) rfl
  obtain ⟨y1, g1, h1⟩ := fld2 (k := 1) (hf 1 _ rfl) (by rw [hyl]; decide) rfl (by kernel_rfl) rfl
  obtain ⟨y2, g2, h2⟩ := fld2 (k := 1) (hf 2 _ rfl) (by rw [hyl]; decide) rfl (by kernel_rfl) rfl
  obtain ⟨y3, g3, h3⟩ := fld2 (k := 1) (hf 3 _ rfl) (by rw [hyl]; decide) rfl (by kernel_rfl) rfl
  obtain ⟨z0, e0, _, _⟩ := DataW.trod_int Tryz.underlying3 h0
  obtain ⟨z1, e1, _, _⟩ := DataW.trod_int Tryz.underlying3 h1
  obtain ⟨z2, e2, _, _⟩ := DataW.trod_int Tryz.underlying3 h2
  simp at e0 e1 e2
  subst e0 e1 e2
  have hwj : ∀ n ∈ y3.1.weights Tryz.prog 56, n ≤ reachBytes := fun n hn => hw n (DataW.weights_mem_each (j := 3) (t := 56) (d := y3.1) rfl (by rw [List.getElem?_map, g3]; rfl) n hn)
  obtain ⟨hs, k1, k2, k3⟩ := open_hands31 h3 hwj
  exact ⟨⟨z0, z1, z2, c3, hs⟩, rfl, k1, k2, k3⟩
end Go.Proofs.YtnefdpnolojojaaGreat
