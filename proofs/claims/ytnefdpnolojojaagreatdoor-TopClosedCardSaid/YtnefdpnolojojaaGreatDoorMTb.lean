/- MTb -/
import Derived.Test.YtnefdpnolojojaaGreatDoorMBa
import Derived.Laws.AppendOwnNone
namespace Go.Proofs.YtnefdpnolojojaaGreatDoor
open Go.RowKit
namespace Wb
def SrcRow (w : World) (size : Nat) (v : Value) (m : Nat) (news : List Value) : Prop :=
 news.length = m * size ∧ ((v = .slice none 0 0 ∧ m = 0) ∨ ∃ ad c, v = .slice (some ad) m c ∧ ∀ j u, news[j]? = some u → w.cell? (ad.add j) = some u)
theorem SrcRow.ext {w w' : World} {size m : Nat} {v : Value} {news : List Value} (h : SrcRow w size v m news) (k : Ext w w') : SrcRow w' size v m news := by
 refine ⟨h.1, ?_⟩
 rcases h.2 with h | ⟨ad, c, h1, h2⟩
 ·exact .inl h
 ·refine .inr ⟨ad, c, h1, fun j u hj => ?_⟩
  have hc := h2 j u hj
  have hlt : (ad.add j).block < w.heap.size := by
   rcases Nat.lt_or_ge (ad.add j).block w.heap.size with q | q
   ·exact q
   ·simp [World.cell?, Array.getElem?_eq_none q] at hc
  exact (Below.cell k hlt).trans hc
theorem grownBy_refl (w : World) (r : Option Nat) : w.grownBy w r := ⟨rfl, rfl, rfl, Nat.le_refl _, fun _ _ _ => rfl⟩
theorem wpList_append_row {P : Program} {w : World} {ops : Array Oper} {rest : List Oper} {o : Oper} {a : Act} {Q : Exit → Act → World → Prop} (hgd : o.guard = none) (s x : Operand) (t : TypeId)
  (ho : o.op = .call { callee := .builtin .append, args := #[s, x], argTypes := #[t, t] })
  (base : Nat) (e : TypeId) (i : TypeInfo) (z : Value) (size bytes : Nat) (ht : P.underlying t = some (.slice e)) (hi : P.info? e = some i) (hz : i.zero = some z)
  (hsize : i.size = size) (hby : i.bytes = bytes) (hzs : z.cells.size = size) (hsz : 0 < size)
  (v : Value) (n : Nat) (xs : List Value) (hs : a.eval s = v) (hown : w.ownsRow base e size v n xs)
  (xv : Value) (hx : a.eval x = xv) (m : Nat) (news : List Value) (hsrc : SrcRow w size xv m news) (h1 : ∀ u ∈ news, u.oneCell' = true)
  (h63 : n + m ≤ maxLen) (hbytes : (n + m) * bytes ≤ 140737488355328) (hbase : base ≤ w.heap.size)
  (h : ∀ v' w', w'.ownsRow base e size v' (n + m) (xs ++ news) → w.grownBy w' v.ownBlock → (v' = .slice none 0 0 ↔ v = .slice none 0 0 ∧ m = 0) → wpList P ops Q rest (a.put o.dst v') w') : wpList P ops Q (o :: rest) a w := by
 obtain ⟨hl, hsrc | ⟨ad, c, hv, hcells⟩⟩ := hsrc
 ·obtain ⟨rfl, rfl⟩ := hsrc
  have hn : news = [] := by simpa using hl
  subst hn
  refine wpList_append_own_none hgd s x t ho base e i size ht hi v n xs hs hown hx ?_
  exact h v w (by simpa using hown) (grownBy_refl _ _) (by simp)
 ·subst hv
  exact wpList_append_own w hgd s x t ho base e i z size bytes ht hi hz hsize hby hzs hsz v n xs hs hown ad m c news hx hl hcells h1 h63 hbytes hbase h
theorem ownsRow_at {w : World} {base e size n : Nat} {v : Value} {xs : List Value} (h : w.ownsRow base e size v n xs) (hn : v ≠ .slice none 0 0) :
  ∃ g cap, v = .slice (some ⟨g, 0, none⟩) n cap ∧ base ≤ g ∧ g < w.heap.size ∧ n ≤ maxLen ∧ ∀ j u, xs[j]? = some u → w.cell? ⟨g, j, none⟩ = some u := by
 obtain ⟨_, h | ⟨g, cap, cur, hv, hb, hg, hc, hm, _, hx⟩⟩ := h
 ·exact absurd h.1 hn
 ·have hlt : g < w.heap.size := by
   rcases Nat.lt_or_ge g w.heap.size with q | q
   ·exact q
   ·simp [Array.getElem?_eq_none q] at hg
  refine ⟨g, cap, hv, hb, hlt, Nat.le_trans hc hm, fun j u hj => ?_⟩
  rw [← hx, List.getElem?_take] at hj
  split at hj
  ·simp only [World.cell?, hg]; simpa using hj
  ·cases hj
theorem Ext.grown {w w' w'' : World} {row : Option Nat} (h : Ext w w') (hg : w'.grownBy w'' row) (hr : ∀ k, row = some k → w.heap.size ≤ k) : Ext w w'' :=
 Below.grown h hg h.size hr
end Wb
end Go.Proofs.YtnefdpnolojojaaGreatDoor
namespace Go.Proofs.YtnefdpnolojojaaGreatDoor
open Go.RowKit
def rowsOf {α : Type} (f : α → List Value) (l : List α) : List Value := l.flatMap f
theorem rowsOf_app {α : Type} (f : α → List Value) (a b : List α) : rowsOf f (a ++ b) = rowsOf f a ++ rowsOf f b := by simp [rowsOf]
theorem rowsOf_one {α : Type} (f : α → List Value) (x : α) : rowsOf f [x] = f x := by simp [rowsOf]
theorem rowsOf_length {α : Type} {f : α → List Value} {k : Nat} (hf : ∀ x, (f x).length = k) (l : List α) : (rowsOf f l).length = l.length * k := by
 induction l with
 | nil => simp [rowsOf]
 | cons x r ih => simp only [rowsOf, List.flatMap_cons, List.length_append, List.length_cons] at ih ⊢; rw [ih, hf, Nat.succ_mul, Nat.add_comm]
theorem rowsOf_get {α : Type} {f : α → List Value} {k : Nat} (hf : ∀ x, (f x).length = k) : ∀ {l : List α} {j : Nat} {x : α}, l[j]? = some x → ∀ i, i < k → (rowsOf f l)[j * k + i]? = (f x)[i]?
 | [], _, _, h, _, _ => by simp at h
 | y :: r, 0, x, h, i, hi => by
  simp at h; subst h
  simp only [rowsOf, List.flatMap_cons, Nat.zero_mul, Nat.zero_add]
  rw [List.getElem?_append_left (by rw [hf]; exact hi)]
 | y :: r, j + 1, x, h, i, hi => by
  have := rowsOf_get hf (l := r) (j := j) (x := x) (by simpa using h) i hi
  simp only [rowsOf, List.flatMap_cons] at this ⊢
  rw [List.getElem?_append_right (by rw [hf, Nat.succ_mul]; omega), hf, show (j + 1) * k + i - k = j * k + i by rw [Nat.succ_mul]; omega]
  exact this
def Tbl {α : Type} (k : Nat) (f : α → List Value) (w : World) (v : Value) (l : List α) : Prop :=
 (l = [] ∧ ∃ a cap, v = .slice a 0 cap) ∨ ∃ b off cap, v = .slice (some ⟨b, off, none⟩) l.length cap ∧ ∀ j x, l[j]? = some x → ∀ i u, (f x)[i]? = some u → w.cell? ⟨b, off + j * k + i, none⟩ = some u
theorem Tbl.ext {α : Type} {k : Nat} {f : α → List Value} {w w' : World} {v : Value} {l : List α} (h : Tbl k f w v l) (e : Wb.Ext w w') : Tbl k f w' v l := by
 rcases h with h | ⟨b, off, cap, h1, h2⟩
 ·exact .inl h
 ·exact .inr ⟨b, off, cap, h1, fun j x hj i u hu => e.keep (h2 j x hj i u hu)⟩
theorem Tbl.shape {α : Type} {k : Nat} {f : α → List Value} {w : World} {v : Value} {l : List α} (h : Tbl k f w v l) : ∃ a cap, v = .slice a l.length cap := by
 rcases h with ⟨rfl, a, cap, rfl⟩ | ⟨b, off, cap, rfl, _⟩
 ·exact ⟨_, _, rfl⟩
 ·exact ⟨_, _, rfl⟩
theorem Tbl.opened {α : Type} {k : Nat} {f : α → List Value} {w : World} {a : Option Addr} {n cap : Nat} {l : List α} (h : Tbl k f w (.slice a n cap) l) (hne : l ≠ []) : ∃ b off, a = some ⟨b, off, none⟩ ∧ ∀ j x, l[j]? = some x → ∀ i u, (f x)[i]? = some u → w.cell? ⟨b, off + j * k + i, none⟩ = some u := by
 rcases h with ⟨h, _⟩ | ⟨b, off, cap, hv, hc⟩
 ·exact absurd h hne
 ·cases hv; exact ⟨b, off, rfl, hc⟩
theorem Tbl.nil {α : Type} {k : Nat} {f : α → List Value} {w : World} : Tbl k f w (.slice none 0 0) [] := .inl ⟨rfl, _, _, rfl⟩
theorem row_tbl {α : Type} {k : Nat} {f : α → List Value} (hf : ∀ x, (f x).length = k) (hk : 0 < k) {w : World} {base e n : Nat} {v : Value} {l : List α} (h : w.ownsRow base e k v n (rowsOf f l)) : Tbl k f w v l := by
 have hn : n = l.length := by
  have := h.1
  rw [rowsOf_length hf] at this
  exact Nat.eq_of_mul_eq_mul_right hk this.symm
 subst hn
 by_cases hv : v = .slice none 0 0
 ·obtain ⟨_, h2 | ⟨g, cap, cur, hv', _⟩⟩ := h
  ·exact .inl ⟨List.length_eq_zero_iff.1 h2.2, _, _, hv⟩
  ·rw [hv] at hv'; cases hv'
 ·obtain ⟨g, cap, rfl, _, _, _, hc⟩ := Wb.ownsRow_at h hv
  refine .inr ⟨g, 0, cap, rfl, fun j x hj i u hu => ?_⟩
  have hi : i < k := by rw [← hf x]; exact (List.getElem?_eq_some_iff.1 hu).1
  rw [Nat.zero_add]
  exact hc _ _ ((rowsOf_get hf hj i hi).trans hu)
theorem row_shape {w : World} {base e k n : Nat} {v : Value} {xs : List Value} (h : w.ownsRow base e k v n xs) : ∃ a c, v = .slice a n c := by
 obtain ⟨_, h2 | ⟨g, cap, cur, hv, _⟩⟩ := h
 ·obtain ⟨h3, rfl⟩ := h2
  exact ⟨_, _, h3⟩
 ·exact ⟨_, _, hv⟩
theorem src_lit (w : World) (n : Nat) (hn : n = w.heap.size) (xs : List Value) (T : TypeId) (c : Nat) : Wb.SrcRow (w.alloc (.cells xs.toArray T)) xs.length (.slice (some ⟨n, 0, none⟩) 1 c) 1 xs := by
 subst hn
 refine ⟨by simp, .inr ⟨_, _, rfl, fun j u hj => ?_⟩⟩
 by_cases h0 : j = 0
 ·subst h0; simp [go_sem, Addr.add, hj]
 ·simp [go_sem, Addr.add, hj, h0]
theorem Wb.wp_at {P : Program} {c : Code} {Q : Exit → Act → World → Prop} {a : Act} {w : World} (K : ∀ w', w' = w → Code.wp P c Q a w') : Code.wp P c Q a w := K w rfl
theorem tne {α : Type} {l : List α} {k : Nat} (h : k < l.length) : l ≠ [] := by rintro rfl; simp at h
theorem Wb.row_ext {w w' : World} {base e s n : Nat} {v : Value} {xs : List Value} (h : w.ownsRow base e s v n xs) (hw : Wb.Ext w w') : w'.ownsRow base e s v n xs := by
 have hl := h.lt
 obtain ⟨h1, h2 | ⟨g, cap, cur, hv, hb, hg, rest⟩⟩ := h
 ·exact ⟨h1, .inl h2⟩
 ·refine ⟨h1, .inr ⟨g, cap, cur, hv, hb, ?_, rest⟩⟩
  subst hv
  rw [hw.block g (hl g rfl).2]; exact hg
theorem Wb.row_set {w : World} {base e s n : Nat} {v : Value} {xs : List Value} (h : w.ownsRow base e s v n xs) {p : Addr} (hp : ∀ k, v.ownBlock = some k → k ≠ p.block) (u : Value) : (w.setCell p u).ownsRow base e s v n xs := by
 obtain ⟨h1, h2 | ⟨g, cap, cur, hv, hb, hg, rest⟩⟩ := h
 ·exact ⟨h1, .inl h2⟩
 ·refine ⟨h1, .inr ⟨g, cap, cur, hv, hb, ?_, rest⟩⟩
  rw [Below.heap_setCell _ _ _ _ (by subst hv; exact hp g rfl)]; exact hg
theorem Wb.ext_set {w w' : World} (h : Wb.Ext w w') {p : Addr} (hp : w.heap.size ≤ p.block) (u : Value) : Wb.Ext w (w'.setCell p u) := Below.setCell h hp u
theorem Wb.ext_grown {w w' w'' : World} {base e s n : Nat} {_v v' : Value} {xs : List Value} (h : Wb.Ext w w') (hr : w''.ownsRow base e s v' n xs) (hb : w.heap.size ≤ base) (hg : w'.grownBy w'' v'.ownBlock) : Wb.Ext w w'' :=
 Wb.Ext.grown h hg fun k hk => Nat.le_trans hb (hr.lt k hk).1
end Go.Proofs.YtnefdpnolojojaaGreatDoor
