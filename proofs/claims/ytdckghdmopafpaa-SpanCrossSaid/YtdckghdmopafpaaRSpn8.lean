/- What the laws of chapter 05 share: sets of the same days are the same lists; pieces; literals. -/
import Derived.Test.YtdckghdmopafpaaRSpn7
namespace Go.Proofs.Ytdckghdmopafpaa
open Go.RowKit Go.Lib
set_option maxRecDepth 8000
attribute [local go_sem ↓] Go.wp_at_zero Go.wp_at_succ

theorem canon_eq {a b : List Wb.Sp} (ha : Wb.Canon a) (hb : Wb.Canon b) (h : ∀ d, Wb.hasL a d = Wb.hasL b d) : a = b :=
  Wb.canon_uniq ha hb fun d => by rw [← Wb.hasL_iff, ← Wb.hasL_iff, h]
theorem has_of {r l : List Wb.Sp} {n : Nat} (h : IsSet r (Wb.memL l) n) (d : Int) : Wb.hasL r d = Wb.hasL l d := Wb.hasL_eq (h.mem d)
theorem has_two {r : List Wb.Sp} {f : Int → Bool} {n : Nat} (h : IsSet r (fun d => f d = true) n) (d : Int) : Wb.hasL r d = f d := by
  rw [Bool.eq_iff_iff, Wb.hasL_iff]; exact h.mem d
theorem has_uni {r a b : List Wb.Sp} {n : Nat} (h : IsSet r (fun d => (fun p q : Bool => p || q) (Wb.hasL a d) (Wb.hasL b d) = true) n) (d : Int) : Wb.hasL r d = (Wb.hasL a d || Wb.hasL b d) := has_two h d
theorem has_met {r a b : List Wb.Sp} {n : Nat} (h : IsSet r (fun d => (fun p q : Bool => p && q) (Wb.hasL a d) (Wb.hasL b d) = true) n) (d : Int) : Wb.hasL r d = (Wb.hasL a d && Wb.hasL b d) := has_two h d
theorem has_min {r a b : List Wb.Sp} {n : Nat} (h : IsSet r (fun d => (fun p q : Bool => p && !q) (Wb.hasL a d) (Wb.hasL b d) = true) n) (d : Int) : Wb.hasL r d = (Wb.hasL a d && !Wb.hasL b d) := has_two h d
theorem has_tog {w w' : World} {v : Value} {r : List Wb.Sp} {f : Int → Bool} {n : Nat} (h : IsTog w w' (fun d => f d = true) n v r) (d : Int) : Wb.hasL r d = f d := by
  rw [Bool.eq_iff_iff, Wb.hasL_iff]; exact h.mem d
theorem has_rof {w w' : World} {v : Value} {r l : List Wb.Sp} {n : Nat} (h : IsTog w w' (Wb.memL l) n v r) (d : Int) : Wb.hasL r d = Wb.hasL l d := Wb.hasL_eq (h.mem d)
theorem same2_any (va vb : Value) (a b : List Wb.Sp) (w : World) (hab : b = a) (ha : Spans w va a) (hb : Spans w vb b) (hl : a.length ≤ 1000000) :
    Calls Try.prog 16 #[va, vb] w fun e w' => e = .returned (.bool true) ∧ Wb.Ext w w' := by
  subst hab
  exact same_any va vb b w ha hb hl
/-- what lies at a block's begin, as a slice -/
theorem spl_at {w : World} {g c : Nat} (l : List Wb.Sp) (h : ∀ j u, (rowsOf spc l)[j]? = some u → w.cell? ⟨g, j, none⟩ = some u) : SpL w (.slice (some ⟨g, 0, none⟩) l.length c) l := by
  refine ⟨.inr ⟨g, 0, c, rfl, fun j x hj i u hu => ?_⟩, rowsOf_length spc_len l, .inr ⟨_, _, rfl, fun j u hj => ?_⟩⟩
  · rw [Nat.zero_add]
    exact h _ _ ((rowsOf_get spc_len hj i (by rw [← spc_len x]; exact (List.getElem?_eq_some_iff.1 hu).1)).trans hu)
  · have := h j u hj
    by_cases h0 : j = 0
    · subst h0; simpa [Addr.add] using this
    · simpa [Addr.add, h0] using this
/-- the program's pieces are the document's -/
theorem pcs_uniq {w1 w1' w2 w2' : World} {v1 v2 : Value} {s : Wb.Sp} {c : List Int} {r1 r2 : List Wb.Sp} (h1 : IsPcs w1 w1' s c v1 r1) (h2 : IsPcs w2 w2' s c v2 r2) : r2 = r1 := by
  by_cases hs : s.2 ≤ s.1
  · rw [h1.none hs, h2.none hs]
  · obtain ⟨D, e1, u1, m1⟩ := h1.some (by omega)
    obtain ⟨F, e2, u2, m2⟩ := h2.some (by omega)
    rw [e1, e2, Wb.up_uniq u2 u1 fun x => by rw [m1, m2]]
theorem ppieces_any (s : Wb.Sp) (v : Value) (c : List Int) (w : World) (hv : DayL w v c) (hc : c.length ≤ 100000) :
    Calls Try.prog 12 #[SpV s, v] w fun e w' => ∃ v', e = .returned v' ∧ ∃ r, IsPcs w w' s c v' r := by
  refine (pieces_any s v c w hv hc).mono ?_
  rintro e w' ⟨v', r, rfl, hr, hsp, hx⟩
  refine ⟨v', rfl, r, ?_⟩
  rcases hr with ⟨h1, rfl⟩ | ⟨h1, l', hp, hs, rfl⟩
  · exact ⟨fun _ => rfl, fun h => absurd h1 (by omega), Nat.zero_le _, hsp, hx⟩
  · obtain ⟨G, e1, u1, m1⟩ := pieces_ok s l' hs h1
    refine ⟨fun h => absurd h1 (by omega), fun _ => ⟨s.1 :: G, e1, (List.pairwise_append.1 u1).1, fun x => ?_⟩, ?_, hsp, hx⟩
    · rw [List.mem_cons, m1, hp.mem_iff]
    · rw [piecesL, List.length_append]
      have := cut_len s l'
      have := hp.length_eq
      simp only [List.length_cons, List.length_nil]; omega
theorem dayl_at {w : World} {g c : Nat} (l : List Int) (h : ∀ j u, (days l)[j]? = some u → w.cell? ⟨g, j, none⟩ = some u) : DayL w (.slice (some ⟨g, 0, none⟩) l.length c) l := by
  refine ⟨by simp, .inr ⟨_, _, rfl, fun j u hj => ?_⟩⟩
  have := h j u hj
  by_cases h0 : j = 0
  · subst h0; simpa [Addr.add] using this
  · simpa [Addr.add, h0] using this
theorem cell_other {w : World} {p q : Addr} {x y : Value} (hq : w.cell? q = some x) (hp : w.cell? p = some y) (hne : x ≠ y) (u : Value) : (w.setCell p u).cell? q = some x := by
  rw [World.cell?_setCell_other]
  · exact hq
  · rintro rfl; rw [hq] at hp; exact hne (Option.some.inj hp)
/-- a store into a cell that holds a slice leaves spans as they were -/
theorem SpL.set {w : World} {v : Value} {l : List Wb.Sp} {p : Addr} {a : Option Addr} {n c : Nat} (h : SpL w v l) (hp : w.cell? p = some (.slice a n c)) (u : Value) : SpL (w.setCell p u) v l := by
  refine ⟨?_, h.2.1, ?_⟩
  · rcases h.1 with q | ⟨b, off, cap, h1, h2⟩
    · exact .inl q
    · refine .inr ⟨b, off, cap, h1, fun j x hj i u hu => cell_other (h2 j x hj i u hu) hp ?_ _⟩
      match i, hu with
      | 0, hu => simp [spc] at hu; subst hu; intro e; cases e
      | 1, hu => simp [spc] at hu; subst hu; intro e; cases e
      | i + 2, hu => simp [spc] at hu
  · rcases h.2.2 with q | ⟨ad, c, h1, h2⟩
    · exact .inl q
    · refine .inr ⟨ad, c, h1, fun j u hj => cell_other (h2 j u hj) hp ?_ _⟩
      obtain ⟨x, _, hx⟩ := List.mem_flatMap.1 (List.mem_of_getElem? hj)
      simp [spc] at hx
      rcases hx with rfl | rfl <;> intro e <;> cases e
theorem atK {K : Act → World → Prop} {a : Act} {w : World} (h : ∀ w', w' = w → K a w') : K a w := h w rfl
theorem Wb.calls_at {P : Program} {f : FuncId} {args : Array Value} {R : Ending → World → Prop} {w : World} (K : ∀ w', w' = w → Calls P f args w' R) : Calls P f args w R := K w rfl
theorem days_cnt {lo : Int} {n : Nat} (hn : n ≤ 4398046511104) (l : List Wb.Sp) (hc : Wb.Canon l) (hb : ∀ s ∈ l, lo ≤ s.1 ∧ s.2 ≤ lo + n) : daysL l = Wb.cnt (Wb.hasL l) lo n := by
  have key : daysL l = Wb.sumL l := by
    induction l using Wb.snocI with
    | h0 => rfl
    | h1 l s ih =>
      have hc1 : Wb.Canon l := ⟨fun x hx => hc.1 x (List.mem_append_left _ hx), (List.pairwise_append.1 hc.2).1⟩
      have hb1 : ∀ s ∈ l, lo ≤ s.1 ∧ s.2 ≤ lo + n := fun x hx => hb x (List.mem_append_left _ hx)
      have h1 := Wb.sum_cnt l hc1 hb1
      have h2 := Wb.cnt_le (Wb.hasL l) lo n
      have h3 := hb s (by simp)
      have h4 := hc.1 s (by simp)
      rw [daysL_snoc, Wb.sumL_snoc, ih hc1 hb1, lenS, if_neg (by omega)]
      omega
  rw [key, Wb.sum_cnt l hc hb]
theorem days_le {lo : Int} {n : Nat} (hn : n ≤ 4398046511104) (l : List Wb.Sp) (hc : Wb.Canon l) (hb : ∀ s ∈ l, lo ≤ s.1 ∧ s.2 ≤ lo + n) : daysL l ≤ n := by
  rw [days_cnt hn l hc hb]; exact (Wb.cnt_le _ _ _).2
theorem within_of {r a : List Wb.Sp} {n : Nat} {lo hi : Int} (h : IsSet r (Wb.memL a) n) (ha : ∀ s ∈ a, lo ≤ s.1 ∧ s.2 ≤ hi) : ∀ s ∈ r, lo ≤ s.1 ∧ s.2 ≤ hi :=
  Wb.canon_within h.canon h.mem fun _ hd => Wb.memL_within ha hd
theorem within_two {r a b : List Wb.Sp} {n : Nat} {lo hi : Int} {f : Bool → Bool → Bool} (h : IsSet r (fun d => f (Wb.hasL a d) (Wb.hasL b d) = true) n) (hf : f false false = false) (ha : ∀ s ∈ a, lo ≤ s.1 ∧ s.2 ≤ hi) (hb : ∀ s ∈ b, lo ≤ s.1 ∧ s.2 ≤ hi) : ∀ s ∈ r, lo ≤ s.1 ∧ s.2 ≤ hi :=
  Wb.canon_within h.canon h.mem fun d hd => by
    rcases hx : Wb.hasL a d with _ | _
    · rcases hy : Wb.hasL b d with _ | _
      · rw [hx, hy, hf] at hd; cases hd
      · exact Wb.memL_within hb (Wb.hasL_iff.1 hy)
    · exact Wb.memL_within ha (Wb.hasL_iff.1 hx)
/-- the days of two sets, added, are those of two others, where each day is as often in the ones as in the others -/
theorem days_add {lo : Int} {n : Nat} (hn : n ≤ 4398046511104) {p q r s : List Wb.Sp} (cp : Wb.Canon p) (cq : Wb.Canon q) (cr : Wb.Canon r) (cs : Wb.Canon s) (wp : ∀ x ∈ p, lo ≤ x.1 ∧ x.2 ≤ lo + n) (wq : ∀ x ∈ q, lo ≤ x.1 ∧ x.2 ≤ lo + n) (wr : ∀ x ∈ r, lo ≤ x.1 ∧ x.2 ≤ lo + n) (ws : ∀ x ∈ s, lo ≤ x.1 ∧ x.2 ≤ lo + n)
    (h : ∀ d, Wb.ind (Wb.hasL p d) + Wb.ind (Wb.hasL q d) = Wb.ind (Wb.hasL r d) + Wb.ind (Wb.hasL s d)) : daysL p + daysL q = daysL r + daysL s := by
  rw [days_cnt hn p cp wp, days_cnt hn q cq wq, days_cnt hn r cr wr, days_cnt hn s cs ws]
  exact Wb.cnt_add h lo n
/-- a drawn region's beginning, its marks written out -/
theorem region_start {P : Program} {Q : Exit → Act → World → Prop} {S : World → Prop} {id : Nat} {ops : Array Oper} {a : Act} {w : World} {n : Nat} {l : Array Bool} (hm : P.follows .mixedOrders = true) (hS : S w.drew) (hn : ops.size = n) (hl : Array.replicate n false = l)
    (h : S w.drew → wpAnyH P .any ops Q S n l a w.drew) : (Code.region id ops true).wp P Q a w := wp_region_held_drew hm hS fun hh => by
  subst hl; subst hn; exact h hh
/-- a take in few words -/
theorem tk (i d : Nat) (v : Value) {P : Program} {ops : Array Oper} {Q : Exit → Act → World → Prop} {md : Region.Mode} {S : World → Prop} {oi : Oper} {fuel : Nat} {listed : Array Bool} {a : Act} {w : World} (hi : ops[i]? = some oi) (hd : oi.dst = some d)
    (hs : (Region.noSelect ops && Region.free md ops listed i && (Region.ready md ops listed).contains i) = true)
    (hQ : ∀ c a w, Q (.panic c) (a.put (some d) v) w → Q (.panic c) a w) (hy : YieldsIf P ops S oi v a) (hS : S w)
    (h : wpAnyH P md ops Q S fuel (listed.setIfInBounds i true) (a.put (some d) v) w) : wpAnyH P md ops Q S (fuel + 1) listed a w := by
  simp only [Bool.and_eq_true] at hs
  exact take_d hi hd hs.1.1 hs.1.2 hs.2 hQ hy hS h
theorem sA {α : Type} (l : List α) (i : Nat) (v : α) : l.toArray.setIfInBounds i v = (l.set i v).toArray := List.setIfInBounds_toArray ..
theorem sB {α : Type} (a b : α) (l : List α) : (a :: l).set 0 b = b :: l := List.set_cons_zero
theorem sC {α : Type} (a b : α) (l : List α) (n : Nat) : (a :: l).set (n + 1) b = a :: l.set n b := List.set_cons_succ
theorem bd_lits {l : List Wb.Sp} (h : ∀ s ∈ l, (0 ≤ s.1 ∧ s.1 ≤ 9) ∧ 0 ≤ s.2 ∧ s.2 ≤ 9) : BdL l := fun s hs => by
  obtain ⟨⟨h1, h2⟩, h3, h4⟩ := h s hs
  exact ⟨⟨by omega, by omega⟩, by omega, by omega⟩
theorem awake_s {r : List Wb.Sp} {n : Nat} (h : IsSet r (Wb.memL [(1, 3), (3, 5), (9, 9), (7, 8)]) n) : r = [(1, 5), (7, 8)] :=
  Wb.canon_uniq h.canon ⟨by simp, by simp⟩ fun d => (h.mem d).trans (by simp [Wb.memL, Wb.inS]; omega)
theorem awake_t {r s t : List Wb.Sp} {n m k : Nat} (hs : IsSet s (Wb.memL [(1, 3), (3, 5), (9, 9), (7, 8)]) n) (ht : IsSet t (Wb.memL [(2, 4)]) m) (h : IsSet r (fun d => (fun p q : Bool => p && !q) (Wb.hasL s d) (Wb.hasL t d) = true) k) : r = [(1, 2), (4, 5), (7, 8)] :=
  canon_eq h.canon ⟨by simp, by simp⟩ fun d => by
    rw [has_min h, has_of hs, has_of ht]
    simp only [Wb.hasL, List.any_cons, List.any_nil, Bool.or_false]
    by_cases h1 : 1 ≤ d <;> by_cases h2 : 2 ≤ d <;> by_cases h3 : 3 ≤ d <;> by_cases h4 : 4 ≤ d <;> by_cases h5 : 5 ≤ d <;> by_cases h7 : 7 ≤ d <;> by_cases h8 : 8 ≤ d <;> by_cases h9 : 9 ≤ d <;> first | (exfalso; omega) | (simp [*, show (d < 2) ↔ ¬ 2 ≤ d by omega, show (d < 3) ↔ ¬ 3 ≤ d by omega, show (d < 4) ↔ ¬ 4 ≤ d by omega, show (d < 5) ↔ ¬ 5 ≤ d by omega, show (d < 8) ↔ ¬ 8 ≤ d by omega, show (d < 9) ↔ ¬ 9 ≤ d by omega])
theorem awake_p {w w' : World} {v : Value} {r : List Wb.Sp} (h : IsPcs w w' (1, 5) [3, 1, 9] v r) : r = [(1, 3), (3, 5)] := by
  obtain ⟨D, e1, u1, m1⟩ := h.some (by decide)
  rw [e1, Wb.up_uniq u1 (b := [1, 3]) (by simp [Wb.Up]) fun x => by rw [m1]; simp; omega]
  rfl

end Go.Proofs.Ytdckghdmopafpaa
