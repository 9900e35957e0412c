/- slices.SortFunc at spans, as span.Of calls it. -/
import Derived.Test.YtheofklbmknipaaSpn4
import Derived.Test.YtheofklbmknipaaShelf
import Derived.Sort.OwnSortedInts
namespace Go.Proofs.Ytheofklbmknipaa
open Go.RowKit Go.Sort Go.Lib
set_option maxRecDepth 8000
attribute [local go_sem ↓] Go.wp_at_zero Go.wp_at_succ

instance : Inhabited Wb.Sp := ⟨(0, 0)⟩
theorem flat_spc (l : List Wb.Sp) : flatK spc 2 l.toArray = (rowsOf spc l).toArray := by
  have hs : (flatK spc 2 l.toArray).size = l.length * 2 := by simp
  refine ext_get! (by rw [hs]; simp [rowsOf_length spc_len]) fun t ht => ?_
  rw [hs] at ht
  rw [get_flatK _ _ _ t (by simpa using ht)]
  have h1 : t / 2 < l.length := by omega
  have h2 := rowsOf_get spc_len (l := l) (j := t / 2) (x := l[t / 2]) (List.getElem?_eq_getElem h1) (t % 2) (by omega)
  rw [show t / 2 * 2 + t % 2 = t by omega] at h2
  have h3 : (l.toArray[t / 2]!) = l[t / 2] := by simp [h1]
  rw [h3]
  have h4 : t % 2 < (spc l[t / 2]).length := by rw [spc_len]; omega
  rw [getElem!_pos (spc l[t / 2]) (t % 2) h4]
  rw [List.getElem?_eq_getElem h4] at h2
  obtain ⟨h5, h6⟩ := List.getElem?_eq_some_iff.1 h2
  rw [getElem!_pos (rowsOf spc l).toArray t (by simpa using h5)]
  simpa using h6.symm

theorem heap_putId {w : World} {g n : Nat} {os : Array Obj} {cur : Array Value} {e : TypeId} {fr : Nat × Nat} (d : Array Value) (hb : w.heap[g]? = some (.cells cur e fr)) :
    (grow (putRow id (Sort.ahead w n) g 0 d) os).heap[g]? = some (.cells (putCells id 0 d cur) e fr) := by
  have hg : g < w.heap.size := (Array.getElem?_eq_some_iff.1 hb).1
  rw [heap_grow_old _ _ (by simpa using hg)]
  simp [putRow, mapBlock, Sort.ahead, Array.getElem?_modify, hb, onCells]
theorem grown_putId {w : World} {g n : Nat} {os : Array Obj} (d : Array Value) : w.grownBy (grow (putRow id (Sort.ahead w n) g 0 d) os) (some g) := by
  refine ⟨rfl, rfl, rfl, by simp, fun k hk hne => ?_⟩
  rw [heap_grow_old _ _ (by simpa using hk)]
  have : g ≠ k := fun e => hne (by rw [e])
  simp [putRow, mapBlock, Sort.ahead, Array.getElem?_modify, this]
theorem take_putId (cur : Array Value) (ts : List Value) (h : ts.length ≤ cur.size) : (putCells id 0 ts.toArray cur).toList.take ts.length = ts := by
  apply List.ext_getElem?
  intro j
  by_cases hj : j < ts.length
  · rw [List.getElem?_take_of_lt hj, Array.getElem?_toList]
    simp [putCells, hj, show j < cur.size by omega]
  · rw [List.getElem?_take_eq_none (by omega), List.getElem?_eq_none (by omega)]

theorem lt_fst (x y : Wb.Sp) : ltOf (fun x y : Wb.Sp => cmpI x.1 y.1) x y = decide (x.1 < y.1) := by
  unfold ltOf cmpI
  by_cases h1 : x.1 < y.1
  · simp [h1]
  · by_cases h2 : y.1 < x.1 <;> simp [h1, h2]
theorem swo_fst : SWO (ltOf fun x y : Wb.Sp => cmpI x.1 y.1) where
  irrefl x := by rw [lt_fst]; simp
  trans x y z h1 h2 := by rw [lt_fst] at *; simp at *; omega
  ntrans x y z h1 h2 := by rw [lt_fst] at *; simp at *; omega

theorem sort_any (base : Nat) (v : Value) (l : List Wb.Sp) (w : World) (h : w.ownsRow base 24 2 v l.length (rowsOf spc l)) (hl : l.length ≤ 1000000) :
    Calls Try.prog 42 #[v, .func (.func 43) #[] #[]] w fun e w' => e = .returned (.tuple #[]) ∧ ∃ l' : List Wb.Sp, l'.Perm l ∧ l'.Pairwise (fun a b => a.1 ≤ b.1) ∧ w'.ownsRow base 24 2 v l.length (rowsOf spc l') ∧ w.grownBy w' v.ownBlock := by
  by_cases hv : v = .slice none 0 0
  · subst hv
    obtain ⟨_, ⟨_, h0⟩ | ⟨g, cap, cur, hv', _⟩⟩ := id h
    · obtain rfl : l = [] := List.length_eq_zero_iff.1 h0
      refine (AnyF.slices_SortFunc_none Try.sortSpan none 0 _ w).mono fun e w' hh => ?_
      obtain ⟨rfl, rfl⟩ := hh
      exact ⟨rfl, [], .refl _, .nil, own_none, Wb.grownBy_refl _ _⟩
    · cases hv'
  · have hlt := h.lt
    obtain ⟨hn, h2 | ⟨g, cap, cur, rfl, hb, hg, hc, hm, hs, hx⟩⟩ := id h
    · exact absurd h2.1 hv
    have hgs := (hlt g rfl).2
    have hF := flat_spc l
    have hH : HoldsK spc 2 w g 0 l.toArray := by
      intro j hj
      rw [hF] at hj ⊢
      have hj' : j < (rowsOf spc l).length := by simpa using hj
      refine ⟨?_, own_free h _⟩
      obtain ⟨g', cap', hvv, _, _, _, hcell⟩ := Wb.ownsRow_at h hv
      cases hvv
      rw [Nat.zero_add, hcell j _ (List.getElem?_eq_getElem hj'), getElem!_pos (rowsOf spc l).toArray j hj]
      rfl
    have eg : ∀ args w, (callFunc 43 args).run Try.prog w = .ok (.enter 43 args) w := enters_of Try.func43 (by kernel_rfl) rfl
    have hcl : CmpLays Try.prog 43 #[] spc 2 (fun x y => cmpI x.1 y.1) g 0 l.toArray.size w := fun _ _ _ _ x y => ofc_any x y _
    have hcon := AnyQ.slices_SortFunc Try.sortSpan 2 Try.isAgg24 Try.sizeOf24 spc (fun _ => rfl) (fun x v hv => by simp [spc] at hv; rcases hv with rfl | rfl <;> rfl) (fun x y => cmpI x.1 y.1) swo_fst 43 #[] g 0 cap l.toArray w eg hcl hH hgs (by simp; omega)
    rw [show l.toArray.size = l.length by simp] at hcon
    refine hcon.mono fun e w' hh => ?_
    obtain ⟨rfl, d', n, os, hp, hso, rfl⟩ := hh
    obtain ⟨p1, _, p3⟩ := hp
    have hd : d'.size = l.length := by simpa using p1
    have e1 : d'.extract 0 l.length = d' := by rw [← hd]; simp
    have e2 : l.toArray.extract 0 l.length = l.toArray := by simp
    rw [e1, e2] at p3
    have hdt : d' = d'.toList.toArray := by simp
    refine ⟨rfl, d'.toList, by simpa using p3, ?_, ?_, ?_⟩
    · rw [List.pairwise_iff_getElem]
      intro i j hi hj hij
      have hi' : i < d'.size := by simpa using hi
      have hj' : j < d'.size := by simpa using hj
      have := hso i j (Nat.zero_le _) hij (by rw [← hd]; exact hj')
      rw [lt_fst, getElem!_pos d' i hi', getElem!_pos d' j hj'] at this
      simp at this
      simpa using this
    · rw [sortWorldK, putRowK, hdt, flat_spc]
      have hrl : (rowsOf spc d'.toList).length = l.length * 2 := by rw [rowsOf_length spc_len]; simp [hd]
      refine ⟨hrl, .inr ⟨g, cap, _, rfl, hb, heap_putId _ hg, hc, hm, by simp [putCells, hs], ?_⟩⟩
      rw [← hrl]
      exact take_putId _ _ (by rw [hrl, hs]; omega)
    · rw [sortWorldK, putRowK]
      exact grown_putId _

end Go.Proofs.Ytheofklbmknipaa
