/- Del3 -/
import Derived.Test.YtnefdpnolojojaaGreatDoorMDa
import Derived.Test.YtnefdpnolojojaaGreatDoorShelf
import Derived.Sort.OwnSortedInts
namespace Go.Proofs.YtnefdpnolojojaaGreatDoor
open Go.RowKit Go.Sort Go.Lib
set_option maxRecDepth 8000
attribute [local go_sem ↓] Go.wp_at_zero Go.wp_at_succ
abbrev PrV (p : Int × Int) : Value := .agg #[.int .i64 p.1, .int .i64 p.2]
def prc (p : Int × Int) : List Value := [.int .i64 p.1, .int .i64 p.2]
theorem prc_len (p : Int × Int) : (prc p).length = 2 := rfl
def lnc (x : Wb.Ln) : List Value := [.int .i64 x.part, .string (Wb.S x.code), .int .i64 x.cents]
theorem lnc_len (x : Wb.Ln) : (lnc x).length = 3 := rfl
def cmpP (a b : Int × Int) : Int := orI (cmpI a.1 b.1) (cmpI a.2 b.2)
def prLt (a b : Int × Int) : Bool := decide (a.1 < b.1) || ((a.1 == b.1) && decide (a.2 < b.2))
theorem prLt_iff (a b : Int × Int) : prLt a b = true ↔ a.1 < b.1 ∨ (a.1 = b.1 ∧ a.2 < b.2) := by simp [prLt]
theorem cmpP_val (a b : Int × Int) : cmpP a b = if prLt a b = true then -1 else if prLt b a = true then 1 else 0 := by
 unfold cmpP orI cmpI prLt
 by_cases h1 : a.1 < b.1
 ·simp [h1]
 ·by_cases h2 : b.1 < a.1
  ·have h3 : ¬ a.1 = b.1 := by omega
   have h4 : ¬ b.1 = a.1 := by omega
   simp [h1, h2, h3]
  ·have h3 : a.1 = b.1 := by omega
   simp only [h3, Int.lt_irrefl]
   by_cases h4 : a.2 < b.2
   ·simp [h4]
   ·by_cases h5 : b.2 < a.2 <;> simp [h4, h5]
theorem cmpP_lt (a b : Int × Int) : (cmpP a b < 0) ↔ prLt a b = true := by
 rw [cmpP_val]
 by_cases h1 : prLt a b = true
 ·simp [h1]
 ·by_cases h2 : prLt b a = true <;> simp [h1, h2]
instance : Inhabited Wb.Ln := ⟨⟨0, [], 0⟩⟩
theorem flat_of {α : Type} [Inhabited α] {k : Nat} (hk : 0 < k) (f : α → List Value) (hf : ∀ x, (f x).length = k) (l : List α) : flatK f k l.toArray = (rowsOf f l).toArray := by
 have hs : (flatK f k l.toArray).size = l.length * k := by simp
 refine ext_get! (by rw [hs]; simp [rowsOf_length hf]) fun t ht => ?_
 rw [hs] at ht
 rw [get_flatK _ _ _ t (by simpa using ht)]
 have h1 : t / k < l.length := Nat.div_lt_of_lt_mul (by rw [Nat.mul_comm]; exact ht)
 have hm : t % k < k := Nat.mod_lt _ hk
 have h2 := rowsOf_get hf (l := l) (j := t / k) (x := l[t / k]) (List.getElem?_eq_getElem h1) (t % k) hm
 rw [show t / k * k + t % k = t by rw [Nat.mul_comm]; exact Nat.div_add_mod t k] at h2
 have h3 : (l.toArray[t / k]!) = l[t / k] := by simp [h1]
 rw [h3]
 have h4 : t % k < (f l[t / k]).length := by rw [hf]; exact hm
 rw [getElem!_pos (f l[t / k]) (t % k) h4]
 rw [List.getElem?_eq_getElem h4] at h2
 obtain ⟨h5, h6⟩ := List.getElem?_eq_some_iff.1 h2
 rw [getElem!_pos (rowsOf f l).toArray t (by simpa using h5)]
 simpa using h6.symm
theorem heap_putId {w : World} {g n : Nat} {os : Array Obj} {cur : Array Value} {e : TypeId} {fr : Nat × Nat} (d : Array Value) (hb : w.heap[g]? = some (.cells cur e fr)) :
  (grow (putRow id (Sort.ahead w n) g 0 d) os).heap[g]? = some (.cells (putCells id 0 d cur) e fr) := by
 have hg : g < w.heap.size := (Array.getElem?_eq_some_iff.1 hb).1
 rw [heap_grow_old _ _ (by simpa using hg)]
 simp [putRow, mapBlock, Sort.ahead, Array.getElem?_modify, hb, onCells]
theorem grown_putId {w : World} {g n : Nat} {os : Array Obj} (d : Array Value) : w.grownBy (grow (putRow id (Sort.ahead w n) g 0 d) os) (some g) := by
 refine ⟨rfl, rfl, rfl, by simp, fun k hk hne => ?_⟩
 rw [heap_grow_old _ _ (by simpa using hk)]
 have : g ≠ k := fun e => hne (by rw [e])
 simp [putRow, mapBlock, Sort.ahead, Array.getElem?_modify, this]
theorem take_putId (cur : Array Value) (ts : List Value) (h : ts.length ≤ cur.size) : (putCells id 0 ts.toArray cur).toList.take ts.length = ts := by
 apply List.ext_getElem?
 intro j
 by_cases hj : j < ts.length
 ·rw [List.getElem?_take_of_lt hj, Array.getElem?_toList]
  simp [putCells, hj, show j < cur.size by omega]
 ·rw [List.getElem?_take_eq_none (by omega), List.getElem?_eq_none (by omega)]
theorem own_free {w : World} {base e s n m g c : Nat} {xs : List Value} (h : w.ownsRow base e s (.slice (some ⟨g, 0, none⟩) m c) n xs) (k : Nat) : w.frozen? ⟨g, k, none⟩ = false := by
 obtain ⟨_, h2 | ⟨g', cap, cur, hv, hb, hg, _⟩⟩ := h
 ·cases h2.1
 ·cases hv
  simp [World.frozen?, hg]
theorem own_none {w : World} {base e s : Nat} : w.ownsRow base e s (.slice none 0 0) 0 [] := ⟨by simp, .inl ⟨rfl, rfl⟩⟩
theorem lt_ln (x y : Wb.Ln) : ltOf cmpL x y = Wb.lnLt x y := by
 rw [Bool.eq_iff_iff]; unfold ltOf; rw [decide_eq_true_iff]; exact cmpL_lt x y
theorem lt_pr (x y : Int × Int) : ltOf cmpP x y = prLt x y := by
 rw [Bool.eq_iff_iff]; unfold ltOf; rw [decide_eq_true_iff]; exact cmpP_lt x y
theorem swo_ln : SWO (ltOf cmpL) where
 irrefl x := by rw [lt_ln]; exact Wb.lnLt_irrefl x
 trans x y z h1 h2 := by rw [lt_ln] at *; exact Wb.lnLt_trans h1 h2
 ntrans x y z h1 h2 := by
  rw [lt_ln] at *
  rw [Bool.eq_false_iff]
  intro h
  rcases hyx : Wb.lnLt y x with _ | _
  ·obtain ⟨e1, e2⟩ := Wb.lnLt_total h1 hyx
   rw [Wb.lnLt_key e1 e2 (rfl : z.part = z.part) rfl] at h
   rw [h2] at h; cases h
  ·have := Wb.lnLt_trans hyx h
   rw [h2] at this; cases this
theorem swo_pr : SWO (ltOf cmpP) where
 irrefl x := by rw [lt_pr, Bool.eq_false_iff]; intro h; have := (prLt_iff _ _).1 h; omega
 trans x y z h1 h2 := by rw [lt_pr] at *; rw [prLt_iff] at *; omega
 ntrans x y z h1 h2 := by
  rw [lt_pr] at *
  rw [Bool.eq_false_iff] at *
  intro h
  rw [ne_eq, prLt_iff] at h1 h2
  rw [prLt_iff] at h
  omega
theorem sortl_any (base : Nat) (v : Value) (l : List Wb.Ln) (w : World) (h : w.ownsRow base 89 3 v l.length (rowsOf lnc l)) (hl : l.length ≤ 1000000) :
  Calls Tryz.prog 100 #[v, .func (.func 101) #[] #[]] w fun e w' => e = .returned (.tuple #[]) ∧ ∃ l' : List Wb.Ln, l'.Perm l ∧ l'.Pairwise (fun a b => Wb.lnLt b a = false) ∧ w'.ownsRow base 89 3 v l.length (rowsOf lnc l') ∧ w.grownBy w' v.ownBlock := by
 by_cases hv : v = .slice none 0 0
 ·subst hv
  obtain ⟨_, ⟨_, h0⟩ | ⟨g, cap, cur, hv', _⟩⟩ := id h
  ·obtain rfl : l = [] := List.length_eq_zero_iff.1 h0
   refine (AnyF.slices_SortFunc_none Tryz.sortLine none 0 _ w).mono fun e w' hh => ?_
   obtain ⟨rfl, rfl⟩ := hh
   exact ⟨rfl, [], .refl _, .nil, own_none, Wb.grownBy_refl _ _⟩
  ·cases hv'
 ·have hlt := h.lt
  obtain ⟨hn, h2 | ⟨g, cap, cur, rfl, hb, hg, hc, hm, hs, hx⟩⟩ := id h
  ·exact absurd h2.1 hv
  have hgs := (hlt g rfl).2
  have hF := flat_of (by decide) lnc lnc_len l
  have hH : HoldsK lnc 3 w g 0 l.toArray := by
   intro j hj
   rw [hF] at hj ⊢
   have hj' : j < (rowsOf lnc l).length := by simpa using hj
   refine ⟨?_, own_free h _⟩
   obtain ⟨g', cap', hvv, _, _, _, hcell⟩ := Wb.ownsRow_at h hv
   cases hvv
   rw [Nat.zero_add, hcell j _ (List.getElem?_eq_getElem hj'), getElem!_pos (rowsOf lnc l).toArray j hj]
   rfl
  have eg : ∀ args w, (callFunc 101 args).run Tryz.prog w = .ok (.enter 101 args) w := enters_of Tryz.func101 (by kernel_rfl) rfl
  have hcl : CmpLays Tryz.prog 101 #[] lnc 3 cmpL g 0 l.toArray.size w := fun _ _ _ _ x y => linesc_any x y _
  have hcon := AnyQ.slices_SortFunc Tryz.sortLine 3 Tryz.isAgg89 Tryz.sizeOf89 lnc (fun _ => rfl) (fun x v hv => by simp [lnc] at hv; rcases hv with rfl | rfl | rfl <;> rfl) cmpL swo_ln 101 #[] g 0 cap l.toArray w eg hcl hH hgs (by simp; omega)
  rw [show l.toArray.size = l.length by simp] at hcon
  refine hcon.mono fun e w' hh => ?_
  obtain ⟨rfl, d', n, os, hp, hso, rfl⟩ := hh
  obtain ⟨p1, _, p3⟩ := hp
  have hd : d'.size = l.length := by simpa using p1
  have e1 : d'.extract 0 l.length = d' := by rw [← hd]; simp
  have e2 : l.toArray.extract 0 l.length = l.toArray := by simp
  rw [e1, e2] at p3
  have hdt : d' = d'.toList.toArray := by simp
  refine ⟨rfl, d'.toList, by simpa using p3, ?_, ?_, ?_⟩
  ·rw [List.pairwise_iff_getElem]
   intro i j hi hj hij
   have hi' : i < d'.size := by simpa using hi
   have hj' : j < d'.size := by simpa using hj
   have := hso i j (Nat.zero_le _) hij (by rw [← hd]; exact hj')
   rw [lt_ln, getElem!_pos d' i hi', getElem!_pos d' j hj'] at this
   simpa using this
  ·rw [sortWorldK, putRowK, hdt, flat_of (by decide) lnc lnc_len]
   have hrl : (rowsOf lnc d'.toList).length = l.length * 3 := by rw [rowsOf_length lnc_len]; simp [hd]
   refine ⟨hrl, .inr ⟨g, cap, _, rfl, hb, heap_putId _ hg, hc, hm, by simp [putCells, hs], ?_⟩⟩
   rw [← hrl]
   exact take_putId _ _ (by rw [hrl, hs]; omega)
  ·rw [sortWorldK, putRowK]
   exact grown_putId _
end Go.Proofs.YtnefdpnolojojaaGreatDoor
