/- Rows of cells behind slices: appends whatever the source. -/
import Derived.Test.YtdfmlgjemfcmlaaBase
import Derived.Laws.AppendOwnNone
namespace Go.Proofs.Ytdfmlgjemfcmlaa
open Go.RowKit
namespace Wb

/-- what a slice yields to an append: m elements, the cells 'news' -/
def SrcRow (w : World) (size : Nat) (v : Value) (m : Nat) (news : List Value) : Prop :=
  news.length = m * size ∧ ((v = .slice none 0 0 ∧ m = 0) ∨ ∃ ad c, v = .slice (some ad) m c ∧ ∀ j u, news[j]? = some u → w.cell? (ad.add j) = some u)

theorem SrcRow.ext {w w' : World} {size m : Nat} {v : Value} {news : List Value} (h : SrcRow w size v m news) (k : Ext w w') : SrcRow w' size v m news := by
  refine ⟨h.1, ?_⟩
  rcases h.2 with h | ⟨ad, c, h1, h2⟩
  · exact .inl h
  · refine .inr ⟨ad, c, h1, fun j u hj => ?_⟩
    have hc := h2 j u hj
    have hlt : (ad.add j).block < w.heap.size := by
      rcases Nat.lt_or_ge (ad.add j).block w.heap.size with q | q
      · exact q
      · simp [World.cell?, Array.getElem?_eq_none q] at hc
    exact (Below.cell k hlt).trans hc

theorem grownBy_refl (w : World) (r : Option Nat) : w.grownBy w r := ⟨rfl, rfl, rfl, Nat.le_refl _, fun _ _ _ => rfl⟩

theorem wpList_append_row {P : Program} {w : World} {ops : Array Oper} {rest : List Oper} {o : Oper} {a : Act} {Q : Exit → Act → World → Prop} (hgd : o.guard = none) (s x : Operand) (t : TypeId)
    (ho : o.op = .call { callee := .builtin .append, args := #[s, x], argTypes := #[t, t] })
    (base : Nat) (e : TypeId) (i : TypeInfo) (z : Value) (size bytes : Nat) (ht : P.underlying t = some (.slice e)) (hi : P.info? e = some i) (hz : i.zero = some z)
    (hsize : i.size = size) (hby : i.bytes = bytes) (hzs : z.cells.size = size) (hsz : 0 < size)
    (v : Value) (n : Nat) (xs : List Value) (hs : a.eval s = v) (hown : w.ownsRow base e size v n xs)
    (xv : Value) (hx : a.eval x = xv) (m : Nat) (news : List Value) (hsrc : SrcRow w size xv m news) (h1 : ∀ u ∈ news, u.oneCell' = true)
    (h63 : n + m ≤ maxLen) (hbytes : (n + m) * bytes ≤ 140737488355328) (hbase : base ≤ w.heap.size)
    (h : ∀ v' w', w'.ownsRow base e size v' (n + m) (xs ++ news) → w.grownBy w' v.ownBlock → (v' = .slice none 0 0 ↔ v = .slice none 0 0 ∧ m = 0) → wpList P ops Q rest (a.put o.dst v') w') : wpList P ops Q (o :: rest) a w := by
  obtain ⟨hl, hsrc | ⟨ad, c, hv, hcells⟩⟩ := hsrc
  · obtain ⟨rfl, rfl⟩ := hsrc
    have hn : news = [] := by simpa using hl
    subst hn
    refine wpList_append_own_none hgd s x t ho base e i size ht hi v n xs hs hown hx ?_
    exact h v w (by simpa using hown) (grownBy_refl _ _) (by simp)
  · subst hv
    exact wpList_append_own w hgd s x t ho base e i z size bytes ht hi hz hsize hby hzs hsz v n xs hs hown ad m c news hx hl hcells h1 h63 hbytes hbase h

/-- an owned row that is not nil: where it lies, what its cells hold -/
theorem ownsRow_at {w : World} {base e size n : Nat} {v : Value} {xs : List Value} (h : w.ownsRow base e size v n xs) (hn : v ≠ .slice none 0 0) :
    ∃ g cap, v = .slice (some ⟨g, 0, none⟩) n cap ∧ base ≤ g ∧ g < w.heap.size ∧ n ≤ maxLen ∧ ∀ j u, xs[j]? = some u → w.cell? ⟨g, j, none⟩ = some u := by
  obtain ⟨_, h | ⟨g, cap, cur, hv, hb, hg, hc, hm, _, hx⟩⟩ := h
  · exact absurd h.1 hn
  · have hlt : g < w.heap.size := by
      rcases Nat.lt_or_ge g w.heap.size with q | q
      · exact q
      · simp [Array.getElem?_eq_none q] at hg
    refine ⟨g, cap, hv, hb, hlt, Nat.le_trans hc hm, fun j u hj => ?_⟩
    rw [← hx, List.getElem?_take] at hj
    split at hj
    · simp only [World.cell?, hg]; simpa using hj
    · cases hj
theorem Ext.grown {w w' w'' : World} {row : Option Nat} (h : Ext w w') (hg : w'.grownBy w'' row) (hr : ∀ k, row = some k → w.heap.size ≤ k) : Ext w w'' :=
  Below.grown h hg h.size hr

end Wb
end Go.Proofs.Ytdfmlgjemfcmlaa
