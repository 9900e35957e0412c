/- MPm -/
import Derived.Test.YtnefdpnolojojaaGreatDoorMPl
import Derived.Test.YtnefdpnolojojaaGreatDoorDel3
namespace Go.Proofs.YtnefdpnolojojaaGreatDoor
namespace Wb
def perS (s : Sl) : Int × Int := (s.y, s.i)
def ct (s : Sl) : Int × Int × List Ln := (s.y, s.i, s.l)
theorem pr_irrefl (p : Int × Int) : prLt p p = false := by
 rw [Bool.eq_false_iff]; intro h; rcases (prLt_iff _ _).1 h with q | q <;> omega
theorem pr_trans {a b c : Int × Int} (h : prLt a b = true) (k : prLt b c = true) : prLt a c = true := by
 rw [prLt_iff] at *; omega
theorem pr_total {a b : Int × Int} (h : prLt a b = false) (k : prLt b a = false) : a = b := by
 have h' : ¬ prLt a b = true := by rw [h]; decide
 have k' : ¬ prLt b a = true := by rw [k]; decide
 rw [prLt_iff] at h' k'
 obtain ⟨a1, a2⟩ := a
 obtain ⟨b1, b2⟩ := b
 simp only at h' k'
 have e1 : a1 = b1 := by omega
 have e2 : a2 = b2 := by omega
 rw [e1, e2]
theorem pr_ne {a b : Int × Int} (h : prLt a b = true) : a ≠ b := by
 rintro rfl; rw [pr_irrefl] at h; cases h
def prevP (L : List Sl) (k : Nat) : Option (Int × Int) := if k = 0 then none else (L[k - 1]?).map perS
theorem prevP_succ {L : List Sl} {k : Nat} {x : Sl} (h : L[k]? = some x) : prevP L (k + 1) = some (perS x) := by simp [prevP, h]
def RiseP (L : List Sl) : Prop := L.Pairwise fun a b => prLt (perS a) (perS b) = true
theorem check_small {y i : Int} {l : List Ln} (h : check y i l = 0) : l.length ≤ 448 := (check_ok h).2.2.2.2.1
def findS (L : List Sl) (p : Int × Int) : Option Sl := L.find? fun s => decide (perS s = p)
theorem find_mem {L : List Sl} {p : Int × Int} {s : Sl} (h : findS L p = some s) : s ∈ L ∧ perS s = p := ⟨List.mem_of_find?_eq_some h, by simpa using List.find?_some h⟩
theorem find_none {L : List Sl} {p : Int × Int} (h : findS L p = none) : ∀ s ∈ L, perS s ≠ p := fun s hs => by simpa using List.find?_eq_none.1 h s hs
theorem find_app {T : List Sl} {x : Sl} {p : Int × Int} (h : ∀ s ∈ T, perS s ≠ perS x) : findS (T ++ [x]) p = if perS x = p then some x else findS T p := by
 unfold findS
 rw [List.find?_append]
 by_cases hp : perS x = p
 ·rw [if_pos hp, List.find?_eq_none.2 (by intro s hs; simpa [← hp] using h s hs)]
  simp [hp]
 ·rw [if_neg hp]
  simp [hp]
theorem rise_app {L : List Sl} (h : RiseP L) {k : Nat} {x : Sl} (hx : L[k]? = some x) : ∀ s ∈ L.take k, perS s ≠ perS x := by
 intro s hs
 obtain ⟨j, hj⟩ := List.getElem?_of_mem hs
 rw [List.getElem?_take] at hj
 split at hj
 ·rename_i hjk
  obtain ⟨p1, p2⟩ := List.getElem?_eq_some_iff.1 hj
  obtain ⟨p3, p4⟩ := List.getElem?_eq_some_iff.1 hx
  have := List.pairwise_iff_getElem.1 h j k p1 p3 hjk
  rw [p2, p4] at this
  exact pr_ne this
 ·cases hj
def conO : Option Sl → Int × Int × List Ln
 | none => (0, 0, [])
 | some s => ct s
def hasP (L : List Sl) (p : Int × Int) : Prop := ∃ s ∈ L, perS s = p
theorem hasP_find {L : List Sl} {p : Int × Int} : hasP L p ↔ (findS L p).isSome = true := by
 constructor
 ·rintro ⟨s, hs, hp⟩
  rcases hf : findS L p with _ | t
  ·exact absurd hp (find_none hf s hs)
  ·rfl
 ·intro h
  obtain ⟨s, hs⟩ := Option.isSome_iff_exists.1 h
  obtain ⟨h1, h2⟩ := find_mem hs
  exact ⟨s, h1, h2⟩
def PerOf (A B : List Sl) (r : List (Int × Int)) : Prop := (r.Pairwise fun a b => prLt a b = true) ∧ ∀ p, p ∈ r ↔ hasP A p ∨ hasP B p
theorem rise_uniq : ∀ {r t : List (Int × Int)}, (r.Pairwise fun a b => prLt a b = true) → (t.Pairwise fun a b => prLt a b = true) → (∀ p, p ∈ r ↔ p ∈ t) → r = t
 | [], [], _, _, _ => rfl
 | [], y :: t, _, _, h => by have := (h y).2 (by simp); cases this
 | x :: r, [], _, _, h => by have := (h x).1 (by simp); cases this
 | x :: r, y :: t, h1, h2, h => by
  obtain ⟨a1, a2⟩ := List.pairwise_cons.1 h1
  obtain ⟨b1, b2⟩ := List.pairwise_cons.1 h2
  have hxy : x = y := by
   rcases List.mem_cons.1 ((h x).1 (by simp)) with q | q
   ·exact q
   rcases List.mem_cons.1 ((h y).2 (by simp)) with q2 | q2
   ·exact q2.symm
   have := pr_trans (b1 x q) (a1 y q2)
   rw [pr_irrefl] at this; cases this
  subst hxy
  rw [rise_uniq a2 b2 fun p => ?_]
  constructor
  ·intro hp
   rcases List.mem_cons.1 ((h p).1 (List.mem_cons_of_mem _ hp)) with q | q
   ·have := a1 p hp; rw [q, pr_irrefl] at this; cases this
   ·exact q
  ·intro hp
   rcases List.mem_cons.1 ((h p).2 (List.mem_cons_of_mem _ hp)) with q | q
   ·have := b1 p hp; rw [q, pr_irrefl] at this; cases this
   ·exact q
theorem PerOf.uniq {A B : List Sl} {r t : List (Int × Int)} (h : PerOf A B r) (k : PerOf A B t) : r = t := rise_uniq h.1 k.1 fun p => by rw [h.2, k.2]
def ofC (a b : Int × Int × List Ln) : Int × Int × Int × List Ln := ofF a.1 a.2.1 a.2.2 b.1 b.2.1 b.2.2
def updS (st : Int × Int → List Ln) (p : Int × Int) (l : List Ln) : Int × Int → List Ln := fun q => if q = p then l else st q
def linesO : Option Sl → List Ln
 | none => []
 | some s => s.l
def cpt : List (Int × Int) → List (Int × Int)
 | [] => []
 | [x] => [x]
 | x :: y :: r => if x = y then cpt (y :: r) else x :: cpt (y :: r)
end Wb
end Go.Proofs.YtnefdpnolojojaaGreatDoor
namespace Go.Proofs.YtnefdpnolojojaaGreatDoor
namespace Wb
def insP : List (Int × Int) → Int × Int → List (Int × Int)
 | [], p => [p]
 | x :: r, p => if prLt x p = true then x :: insP r p else if prLt p x = true then p :: x :: r else x :: r
theorem ins_mem : ∀ {l : List (Int × Int)} {p q : Int × Int}, q ∈ insP l p ↔ q = p ∨ q ∈ l
 | [], p, q => by simp [insP]
 | x :: r, p, q => by
  rw [insP]
  split
  ·rw [List.mem_cons, ins_mem, List.mem_cons]
   constructor
   ·rintro (h | h | h)
    ·exact .inr (.inl h)
    ·exact .inl h
    ·exact .inr (.inr h)
   ·rintro (h | h | h)
    ·exact .inr (.inl h)
    ·exact .inl h
    ·exact .inr (.inr h)
  ·split
   ·rw [List.mem_cons]
   ·rename_i h1 h2
    have e := pr_total (by simpa using h1) (by simpa using h2)
    subst e
    constructor
    ·exact .inr
    ·rintro (h | h)
     ·rw [h]; simp
     ·exact h
theorem ins_rise : ∀ {l : List (Int × Int)} {p : Int × Int}, (l.Pairwise fun a b => prLt a b = true) → (insP l p).Pairwise fun a b => prLt a b = true
 | [], p, _ => List.pairwise_singleton _ _
 | x :: r, p, h => by
  obtain ⟨h1, h2⟩ := List.pairwise_cons.1 h
  rw [insP]
  split
  ·rename_i hx
   refine List.pairwise_cons.2 ⟨fun z hz => ?_, ins_rise h2⟩
   rcases ins_mem.1 hz with rfl | hz
   ·exact hx
   ·exact h1 z hz
  ·split
   ·rename_i h3 h4
    refine List.pairwise_cons.2 ⟨fun z hz => ?_, h⟩
    rcases List.mem_cons.1 hz with rfl | hz
    ·exact h4
    ·exact pr_trans h4 (h1 z hz)
   ·exact h
theorem ins_len : ∀ (l : List (Int × Int)) (p : Int × Int), (insP l p).length ≤ l.length + 1
 | [], p => by simp [insP]
 | x :: r, p => by
  rw [insP]
  have := ins_len r p
  split
  ·simp; omega
  ·split <;> simp
def headsP (L : List Sl) : List (Int × Int) := L.foldl (fun r s => insP r (perS s)) []
theorem fold_ins : ∀ (L : List Sl) (r : List (Int × Int)), (r.Pairwise fun a b => prLt a b = true) → ((L.foldl (fun r s => insP r (perS s)) r).Pairwise fun a b => prLt a b = true) ∧ (∀ q, q ∈ L.foldl (fun r s => insP r (perS s)) r ↔ q ∈ r ∨ hasP L q) ∧ (L.foldl (fun r s => insP r (perS s)) r).length ≤ r.length + L.length
 | [], r, h => ⟨h, fun q => by simp [hasP], by simp⟩
 | x :: L, r, h => by
  obtain ⟨h1, h2, h3⟩ := fold_ins L (insP r (perS x)) (ins_rise h)
  refine ⟨h1, fun q => ?_, ?_⟩
  ·rw [List.foldl_cons, h2, ins_mem]
   constructor
   ·rintro ((h | h) | ⟨s, hs, hq⟩)
    ·exact .inr ⟨x, by simp, h.symm⟩
    ·exact .inl h
    ·exact .inr ⟨s, by simp [hs], hq⟩
   ·rintro (h | ⟨s, hs, hq⟩)
    ·exact .inl (.inr h)
    ·rcases List.mem_cons.1 hs with rfl | hs
     ·exact .inl (.inl hq.symm)
     ·exact .inr ⟨s, hs, hq⟩
  ·rw [List.foldl_cons]
   have := ins_len r (perS x)
   simp only [List.length_cons]; omega
theorem heads_of (A B : List Sl) : PerOf A B (headsP (A ++ B)) := by
 obtain ⟨h1, h2, _⟩ := fold_ins (A ++ B) [] List.Pairwise.nil
 refine ⟨h1, fun p => ?_⟩
 unfold headsP
 rw [h2]
 constructor
 ·rintro (h | ⟨s, hs, hp⟩)
  ·cases h
  ·rcases List.mem_append.1 hs with hs | hs
   ·exact .inl ⟨s, hs, hp⟩
   ·exact .inr ⟨s, hs, hp⟩
 ·rintro (⟨s, hs, hp⟩ | ⟨s, hs, hp⟩)
  ·exact .inr ⟨s, List.mem_append_left _ hs, hp⟩
  ·exact .inr ⟨s, List.mem_append_right _ hs, hp⟩
theorem heads_len (L : List Sl) : (headsP L).length ≤ L.length := by
 have := (fold_ins L [] List.Pairwise.nil).2.2
 simpa [headsP] using this
end Wb
end Go.Proofs.YtnefdpnolojojaaGreatDoor
namespace Go.Proofs.YtnefdpnolojojaaGreatDoor
namespace Wb
theorem of_wrong {y i y' i' Y I : Int} {a b r : List Ln} (h0 : IsOf y i a y' i' b 0 Y I r) : mergeL a r = some b := by
 have k := of_ok h0
 have ra := wrong_ok k.wa
 have rb := wrong_ok k.wb
 have hfb : ∀ p c, fits (lval p c b) = true := fun p c => by
  by_cases hm : ∃ x ∈ b, x.part = p ∧ x.code = c
  ·obtain ⟨x, hx, rfl, rfl⟩ := hm
   rw [lval_mem rb.1 hx]; exact (lineErr_iff.1 (rb.2.2 x hx)).2.2.2.2
  ·rw [lval_none fun x hx e => hm ⟨x, hx, e⟩]; decide
 obtain ⟨l, hl⟩ := mergeL_some ra.1 k.del.rise fun p c => by
  rw [k.del.val, show lval p c a + (lval p c b - lval p c a) = lval p c b by omega]; exact hfb p c
 obtain ⟨l1, l2⟩ := mergeL_rise hl ra.1 k.del.rise ra.2.1 k.del.nonz
 rw [hl, val_inj l1 rb.1 l2 rb.2.1 fun p c => by rw [mergeL_val hl, k.del.val]; omega]
def nl (l : List Ln) : Int := sumOf 0 0 l - sumOf 1 5 l
theorem nl_nil : nl [] = 0 := rfl
theorem nl_merge {a r b : List Ln} (h : mergeL a r = some b) : nl b = nl a + nl r := by
 have h1 := sumOf_merge (f := 0) (t := 0) h
 have h2 := sumOf_merge (f := 1) (t := 5) h
 unfold nl; omega
theorem net_ok : ∀ {L : List Sl} {acc z : Int}, netF acc L = (z, 0) → z = acc + (L.map fun s => nl s.l).sum
 | [], acc, z, h => by simp [netF] at h; simp [h]
 | s :: r, acc, z, h => by
  rw [netF] at h
  split at h
  ·rename_i hn
   obtain ⟨_, _, hl⟩ := none_iff.1 hn
   have := net_ok h
   rw [List.map_cons, List.sum_cons, hl, nl_nil, this]; omega
  ·split at h
   ·rename_i he
    simp only [Prod.mk.injEq] at h; exact absurd h.2 he
   ·rename_i he
    split at h
    ·simp at h
    ·have := net_ok h
     have hs : (sums s.y s.i s.l).2.2.1 = nl s.l := by
      rcases sums_cases s.y s.i s.l with ⟨e, h1, h2⟩ | h2
      ·rw [h2] at he; exact absurd h1 he
      ·unfold sums
       unfold sums at he
       split
       ·rename_i hc; rw [if_pos hc] at he; exact absurd hc he
       ·rename_i hc
        rw [if_neg hc] at he
        split
        ·rfl
        ·rename_i hf; rw [if_neg hf] at he; simp at he
     rw [List.map_cons, List.sum_cons, this, hs]; omega
theorem sum_add (f g : Int × Int → Int) : ∀ ps : List (Int × Int), (ps.map fun p => f p + g p).sum = (ps.map f).sum + (ps.map g).sum
 | [] => rfl
 | p :: r => by simp only [List.map_cons, List.sum_cons, sum_add f g r]; omega
theorem sum_zero (f : Int × Int → Int) : ∀ ps : List (Int × Int), (∀ p ∈ ps, f p = 0) → (ps.map f).sum = 0
 | [], _ => rfl
 | p :: r, h => by rw [List.map_cons, List.sum_cons, h p (by simp), sum_zero f r fun q hq => h q (by simp [hq])]; rfl
theorem sum_one {q : Int × Int} {v : Int} : ∀ {ps : List (Int × Int)}, (ps.Pairwise fun a b => prLt a b = true) → q ∈ ps → (ps.map fun p => if q = p then v else 0).sum = v
 | p :: r, hr, h => by
  obtain ⟨h1, h2⟩ := List.pairwise_cons.1 hr
  rw [List.map_cons, List.sum_cons]
  by_cases e : q = p
  ·subst e
   rw [if_pos rfl, sum_zero _ r fun z hz => if_neg fun e => pr_ne (h1 z hz) e]; omega
  ·rw [if_neg e, sum_one h2 (by rcases List.mem_cons.1 h with h | h; exact absurd h e; exact h)]; omega
theorem sum_find : ∀ {A : List Sl} {ps : List (Int × Int)}, RiseP A → (ps.Pairwise fun a b => prLt a b = true) → (∀ s ∈ A, perS s ∈ ps) → (ps.map fun p => nl (linesO (findS A p))).sum = (A.map fun s => nl s.l).sum
 | [], ps, _, _, _ => sum_zero _ ps fun p _ => rfl
 | s :: r, ps, hr, hp, hm => by
  obtain ⟨h1, h2⟩ := List.pairwise_cons.1 hr
  have ih := sum_find h2 hp fun z hz => hm z (by simp [hz])
  have e : ∀ p, nl (linesO (findS (s :: r) p)) = (if perS s = p then nl s.l else 0) + nl (linesO (findS r p)) := fun p => by
   by_cases hs : perS s = p
   ·have hn : findS r p = none := by
     rcases hf : findS r p with _ | t
     ·rfl
     ·obtain ⟨t1, t2⟩ := find_mem hf
      exact absurd (hs.trans t2.symm) (pr_ne (h1 t t1))
    rw [if_pos hs, hn]
    simp [findS, hs, linesO, nl_nil]
   ·rw [if_neg hs]
    simp [findS, hs]
  simp only [e]
  rw [sum_add, ih, sum_one hp (hm s (by simp)), List.map_cons, List.sum_cons]
theorem conO_lines (o : Option Sl) : (conO o).2.2 = linesO o := by cases o <;> rfl
end Wb
end Go.Proofs.YtnefdpnolojojaaGreatDoor
namespace Go.Proofs.YtnefdpnolojojaaGreatDoor
namespace Wb
abbrev Ct := Int × Int × List Ln
def slO (c : Ct) : Sl := ⟨c.1, c.2.1, .int .i64 0, c.2.2⟩
def lst (C : List Ct) : List Sl := C.map slO
def nrm (s : Sl) : Sl := slO (ct s)
theorem lst_ct (L : List Sl) : lst (L.map ct) = L.map nrm := by rw [lst, List.map_map]; rfl
theorem find_nrm : ∀ (L : List Sl) (p : Int × Int), findS (L.map nrm) p = (findS L p).map nrm
 | [], _ => rfl
 | s :: r, p => by
  have ih := find_nrm r p
  unfold findS at ih ⊢
  by_cases h : perS s = p
  ·have h' : perS (nrm s) = p := h
   simp [h, h']
  ·have h' : ¬ perS (nrm s) = p := h
   simp only [List.map_cons, List.find?_cons, h, h', decide_false]
   exact ih
theorem conO_nrm (o : Option Sl) : conO (o.map nrm) = conO o := by cases o <;> rfl
theorem net_nrm : ∀ (L : List Sl) (acc : Int), netF acc (L.map nrm) = netF acc L
 | [], _ => rfl
 | s :: r, acc => by
  have ih := net_nrm r
  rw [List.map_cons, netF, netF]
  simp only [ih]
  rfl
theorem hasP_nrm (L : List Sl) (p : Int × Int) : hasP (L.map nrm) p ↔ hasP L p := by
 constructor
 ·rintro ⟨s, hs, rfl⟩
  obtain ⟨t, ht, rfl⟩ := List.mem_map.1 hs
  exact ⟨t, ht, rfl⟩
 ·rintro ⟨s, hs, rfl⟩
  exact ⟨nrm s, List.mem_map_of_mem hs, rfl⟩
def nowO (p : Int × Int) : Option Sl → Ct
 | none => (p.1, p.2, [])
 | some s => ct s
theorem nowO_nrm (p : Int × Int) (o : Option Sl) : nowO p (o.map nrm) = nowO p o := by cases o <;> rfl
def persP (A B : List Sl) : List (Int × Int) := headsP (A ++ B)
theorem persP_of (A B : List Sl) : PerOf A B (persP A B) := heads_of A B
def backG (A B : List Sl) (q : Int × Int) : List Ct → List (Int × Int) → Int × List Ct
 | acc, [] => (0, acc)
 | acc, p :: r => if p = q then backG A B q acc r
  else if (ofC (conO (findS A p)) (nowO p (findS B p))).1 ≠ 0 then ((ofC (conO (findS A p)) (nowO p (findS B p))).1, [])
  else if (ofC (conO (findS A p)) (nowO p (findS B p))).2.2.2 = [] then backG A B q acc r
  else backG A B q (acc ++ [(ofC (conO (findS A p)) (nowO p (findS B p))).2]) r
theorem back_own {A B : List Sl} {q : Int × Int} {acc : List Ct} {r : List (Int × Int)} : backG A B q acc (q :: r) = backG A B q acc r := by rw [backG, if_pos rfl]
theorem back_bad {A B : List Sl} {q p : Int × Int} {acc : List Ct} {r : List (Int × Int)} {E : Int} {c : Ct} (hp : p ≠ q) (h : ofC (conO (findS A p)) (nowO p (findS B p)) = (E, c)) (he : E ≠ 0) : backG A B q acc (p :: r) = (E, []) := by
 rw [backG, if_neg hp, h, if_pos he]
theorem back_zero {A B : List Sl} {q p : Int × Int} {acc : List Ct} {r : List (Int × Int)} {c : Ct} (hp : p ≠ q) (h : ofC (conO (findS A p)) (nowO p (findS B p)) = (0, c)) (he : c.2.2 = []) : backG A B q acc (p :: r) = backG A B q acc r := by
 rw [backG, if_neg hp, h, if_neg (by simp), if_pos he]
theorem back_more {A B : List Sl} {q p : Int × Int} {acc : List Ct} {r : List (Int × Int)} {c : Ct} (hp : p ≠ q) (h : ofC (conO (findS A p)) (nowO p (findS B p)) = (0, c)) (he : c.2.2 ≠ []) : backG A B q acc (p :: r) = backG A B q (acc ++ [c]) r := by
 rw [backG, if_neg hp, h, if_neg (by simp), if_neg he]
theorem back_nrm (A B : List Sl) (q : Int × Int) : ∀ (ps : List (Int × Int)) (acc : List Ct), backG (A.map nrm) (B.map nrm) q acc ps = backG A B q acc ps
 | [], _ => rfl
 | p :: r, acc => by
  have ih := back_nrm A B q r
  rw [backG, backG, find_nrm, find_nrm, conO_nrm, nowO_nrm]
  simp only [ih]
def nowG (B : List Sl) (q : Int × Int) : Ct := nowO q (findS B q)
def dueG (now : Ct) (back : List Ct) : Int × Int :=
 if (sums now.1 now.2.1 now.2.2).2.2.2.2 ≠ 0 then (0, (sums now.1 now.2.1 now.2.2).2.2.2.2)
 else if (netF 0 (lst back)).2 ≠ 0 then (0, (netF 0 (lst back)).2)
 else if fits ((sums now.1 now.2.1 now.2.2).2.2.1 + (netF 0 (lst back)).1) = false then (0, 9)
 else ((sums now.1 now.2.1 now.2.2).2.2.1 + (netF 0 (lst back)).1, 0)
def rightC (c : Int) : Bool := decide (0 ≤ c) && decide (c ≤ 1125899906842624)
def settleG (owed due : Int) : Int × Int × Int :=
 if rightC owed = false then (owed, 0, 2)
 else if due < -1125899906842624 ∨ 1125899906842624 < due then (owed, 0, 9)
 else if 0 ≤ due - owed then (0, due - owed, 0)
 else if rightC (-(due - owed)) = false then (owed, 0, 9)
 else (-(due - owed), 0, 0)
structure Rw where
 p : Int
 now : Ct
 back : List Ct
 due : Int
 paid : Int
 owed : Int
def noRw : Rw := ⟨0, (0, 0, []), [], 0, 0, 0⟩
def rowG (p : Int) (q : Int × Int) (A B : List Sl) (owed : Int) : Rw × Int :=
 if (backG A B q [] (persP A B)).1 ≠ 0 then (noRw, (backG A B q [] (persP A B)).1)
 else if (dueG (nowG B q) (backG A B q [] (persP A B)).2).2 ≠ 0 then (noRw, (dueG (nowG B q) (backG A B q [] (persP A B)).2).2)
 else (⟨p, nowG B q, (backG A B q [] (persP A B)).2, (dueG (nowG B q) (backG A B q [] (persP A B)).2).1, (settleG owed (dueG (nowG B q) (backG A B q [] (persP A B)).2).1).2.1, (settleG owed (dueG (nowG B q) (backG A B q [] (persP A B)).2).1).1⟩,
  (settleG owed (dueG (nowG B q) (backG A B q [] (persP A B)).2).1).2.2)
theorem pers_nrm (A B : List Sl) : persP (A.map nrm) (B.map nrm) = persP A B :=
 PerOf.uniq (persP_of _ _) ⟨(persP_of A B).1, fun p => by rw [(persP_of A B).2, hasP_nrm, hasP_nrm]⟩
theorem row_nrm (p : Int) (q : Int × Int) (A B : List Sl) (owed : Int) : rowG p q (A.map nrm) (B.map nrm) owed = rowG p q A B owed := by
 unfold rowG nowG
 rw [pers_nrm, back_nrm, find_nrm, nowO_nrm]
structure Rn where
 n : Int
 y : Int
 i : Int
 k : Int
 rows : List Rw
def noRn : Rn := ⟨0, 0, 0, 0, []⟩
structure Bk where
 runs : List Rn
 paid : Int → List Ct
 owed : Int → Int
def noBk : Bk := ⟨[], fun _ => [], fun _ => 0⟩
def perN (y i : Int) : Int := y * 401 + i
def headE (runs : List Rn) (y i k : Int) : Int :=
 if y < 1900 ∨ 2199 < y ∨ i < 1 ∨ 400 < i ∨ k < 0 then 2
 else match runs.getLast? with
  | none => 0
  | some r => if perN y i ≤ perN r.y r.i ∨ k < r.k then 8 else 0
def handE (q : Int × Int) : Option (Int × Int) → List Sl → Int
 | _, [] => 0
 | p, s :: r => if check s.y s.i s.l ≠ 0 then check s.y s.i s.l
  else if (∃ a, p = some a ∧ prLt a (perS s) = false) ∨ prLt q (perS s) = true then 8 else handE q (some (perS s)) r
def handsE (q : Int × Int) (S : Int → List Ct) : List Int → Int
 | [] => 0
 | p :: r => if handE q none (lst (S p)) ≠ 0 then handE q none (lst (S p)) else handsE q S r
def fullC (C : List Ct) : List Ct := C.filter fun c => !c.2.2.isEmpty
def rowsG (q : Int × Int) (B : Bk) (S : Int → List Ct) : List Rw → List Int → Int × List Rw
 | acc, [] => (0, acc)
 | acc, p :: r => if S p = [] ∧ B.paid p = [] then rowsG q B S acc r
  else if (rowG p q (lst (B.paid p)) (lst (S p)) (B.owed p)).2 ≠ 0 then ((rowG p q (lst (B.paid p)) (lst (S p)) (B.owed p)).2, [])
  else rowsG q B S (acc ++ [(rowG p q (lst (B.paid p)) (lst (S p)) (B.owed p)).1]) r
def owedBy (rows : List Rw) (o : Int → Int) (p : Int) : Int := match rows.find? fun r => decide (r.p = p) with
 | none => o p
 | some r => r.owed
def doG (B : Bk) (y i k : Int) (S : Int → List Ct) (hs ps : List Int) : Bk × Rn × Int :=
 if headE B.runs y i k ≠ 0 then (B, noRn, headE B.runs y i k)
 else if handsE (y, i) S hs ≠ 0 then (B, noRn, handsE (y, i) S hs)
 else if (rowsG (y, i) B S [] ps).1 ≠ 0 then (B, noRn, (rowsG (y, i) B S [] ps).1)
 else (⟨B.runs ++ [⟨B.runs.length + 1, y, i, k, (rowsG (y, i) B S [] ps).2⟩], fun p => fullC (S p), owedBy (rowsG (y, i) B S [] ps).2 B.owed⟩,
  ⟨B.runs.length + 1, y, i, k, (rowsG (y, i) B S [] ps).2⟩, 0)
end Wb
end Go.Proofs.YtnefdpnolojojaaGreatDoor
namespace Go.Proofs.YtnefdpnolojojaaGreatDoor
namespace Wb
theorem sums_net {y i : Int} {l : List Ln} (h : (sums y i l).2.2.2.2 = 0) : (sums y i l).2.2.1 = nl l := by
 unfold sums at h ⊢
 split
 ·rename_i hc; rw [if_pos hc] at h; exact absurd h hc
 ·rename_i hc
  rw [if_neg hc] at h
  split
  ·rfl
  ·rename_i hf; rw [if_neg hf] at h; simp at h
theorem nowO_lines (p : Int × Int) (o : Option Sl) : (nowO p o).2.2 = linesO o := by cases o <;> rfl
theorem of_now {A B : List Sl} {p : Int × Int} (h : (ofC (conO (findS A p)) (nowO p (findS B p))).1 = 0) :
  nl (linesO (findS B p)) = nl (linesO (findS A p)) + nl (ofC (conO (findS A p)) (nowO p (findS B p))).2.2.2 := by
 have := ofF_is (conO (findS A p)).1 (conO (findS A p)).2.1 (conO (findS A p)).2.2 (nowO p (findS B p)).1 (nowO p (findS B p)).2.1 (nowO p (findS B p)).2.2
 have h' : (ofF (conO (findS A p)).1 (conO (findS A p)).2.1 (conO (findS A p)).2.2 (nowO p (findS B p)).1 (nowO p (findS B p)).2.1 (nowO p (findS B p)).2.2).1 = 0 := h
 rw [h', conO_lines, nowO_lines] at this
 have hm := nl_merge (of_wrong this)
 unfold ofC
 rw [conO_lines, nowO_lines]
 exact hm
def nlC (C : List Ct) : Int := (C.map fun c => nl c.2.2).sum
theorem nlC_app (a b : List Ct) : nlC (a ++ b) = nlC a + nlC b := by simp [nlC, List.sum_append]
theorem back_ok {A B : List Sl} {q : Int × Int} : ∀ {ps : List (Int × Int)} {acc R : List Ct}, backG A B q acc ps = (0, R) →
  nlC R = nlC acc + (ps.map fun p => if p = q then 0 else nl (linesO (findS B p)) - nl (linesO (findS A p))).sum
 | [], acc, R, h => by simp [backG] at h; simp [h]
 | p :: r, acc, R, h => by
  rw [List.map_cons, List.sum_cons]
  rw [backG] at h
  split at h
  ·rename_i hp
   rw [back_ok h, if_pos hp]; omega
  ·rename_i hp
   rw [if_neg hp]
   split at h
   ·rename_i he; simp only [Prod.mk.injEq] at h; exact absurd h.1 he
   ·rename_i he
    have ho := of_now (show (ofC (conO (findS A p)) (nowO p (findS B p))).1 = 0 by simpa using he)
    split at h
    ·rename_i hz
     rw [hz, nl_nil] at ho
     rw [back_ok h]; omega
    ·rw [back_ok h, nlC_app]
     have : nlC [(ofC (conO (findS A p)) (nowO p (findS B p))).2] = nl (ofC (conO (findS A p)) (nowO p (findS B p))).2.2.2 := by simp [nlC]
     rw [this]; omega
def nlS (L : List Sl) : Int := (L.map fun s => nl s.l).sum
theorem nlS_lst (C : List Ct) : nlS (lst C) = nlC C := by
 unfold nlS lst nlC
 rw [List.map_map]; rfl
theorem sum_sub (f g : Int × Int → Int) : ∀ ps : List (Int × Int), (ps.map fun p => f p - g p).sum = (ps.map f).sum - (ps.map g).sum
 | [] => by simp
 | p :: r => by rw [List.map_cons, List.sum_cons, sum_sub f g r, List.map_cons, List.sum_cons, List.map_cons, List.sum_cons]; omega
theorem sum_if {q : Int × Int} {f : Int × Int → Int} : ∀ {ps : List (Int × Int)}, (ps.Pairwise fun a b => prLt a b = true) → (q ∉ ps → f q = 0) →
  (ps.map fun p => if p = q then 0 else f p).sum = (ps.map f).sum - f q
 | [], _, h => by rw [h (by simp)]; simp
 | p :: r, hp, h => by
  obtain ⟨h1, h2⟩ := List.pairwise_cons.1 hp
  rw [List.map_cons, List.sum_cons, List.map_cons, List.sum_cons]
  by_cases e : p = q
  ·subst e
   rw [if_pos rfl]
   have hn : ∀ x ∈ r, ¬ x = p := fun x hx e => (pr_ne (h1 x hx)) e.symm
   have : (r.map fun x => if x = p then 0 else f x) = r.map f := List.map_congr_left fun x hx => if_neg (hn x hx)
   rw [this]; omega
  ·rw [if_neg e, sum_if h2 fun hq => h (fun hm => by rcases List.mem_cons.1 hm with rfl | hm; exact e rfl; exact hq hm)]; omega
theorem find_not {L : List Sl} {p : Int × Int} (h : ¬ hasP L p) : findS L p = none := by
 rw [hasP_find] at h
 rcases hf : findS L p with _ | s
 ·rfl
 ·rw [hf] at h; exact absurd rfl h
theorem row_due {p : Int} {q : Int × Int} {A B : List Sl} {owed : Int} {r : Rw} (ra : RiseP A) (rb : RiseP B) (hq : ¬ hasP A q) (h : rowG p q A B owed = (r, 0)) :
  r.p = p ∧ r.due = nlS B - nlS A ∧ (settleG owed r.due) = (r.owed, r.paid, 0) := by
 unfold rowG at h
 split at h
 ·rename_i he; simp only [Prod.mk.injEq] at h; exact absurd h.2 he
 ·rename_i he
  split at h
  ·rename_i hd; simp only [Prod.mk.injEq] at h; exact absurd h.2 hd
  ·rename_i hd
   simp only [Prod.mk.injEq] at h
   obtain ⟨rfl, hs⟩ := h
   refine ⟨rfl, ?_, by rw [← hs]⟩
   show (dueG (nowG B q) (backG A B q [] (persP A B)).2).1 = _
   have hb : backG A B q [] (persP A B) = (0, (backG A B q [] (persP A B)).2) := by
    rcases hx : backG A B q [] (persP A B) with ⟨e, R⟩
    rw [hx] at he; simp at he; rw [he]
   have hk := back_ok hb
   have e1 : (dueG (nowG B q) (backG A B q [] (persP A B)).2).1 = nl (nowG B q).2.2 + nlC (backG A B q [] (persP A B)).2 := by
    unfold dueG at hd ⊢
    split
    ·rename_i h1; rw [if_pos h1] at hd; exact absurd h1 hd
    ·rename_i h1
     rw [if_neg h1] at hd
     split
     ·rename_i h2; rw [if_pos h2] at hd; exact absurd h2 hd
     ·rename_i h2
      rw [if_neg h2] at hd
      split
      ·rename_i h3; rw [if_pos h3] at hd; simp at hd
      ·have hs := sums_net (show (sums (nowG B q).1 (nowG B q).2.1 (nowG B q).2.2).2.2.2.2 = 0 by simpa using h1)
       have hn : netF 0 (lst (backG A B q [] (persP A B)).2) = ((netF 0 (lst (backG A B q [] (persP A B)).2)).1, 0) := Prod.ext rfl (by simpa using h2)
       have := net_ok hn
       have h4 := nlS_lst (backG A B q [] (persP A B)).2
       unfold nlS at h4
       simp only []
       rw [hs, this, h4]; omega
   rw [e1, hk]
   have hp := persP_of A B
   have hf : q ∉ persP A B → nl (linesO (findS B q)) - nl (linesO (findS A q)) = 0 := fun hn => by
    rw [hp.2] at hn
    rw [find_not (fun h => hn (.inl h)), find_not (fun h => hn (.inr h))]; rfl
   have h5 := sum_if (q := q) (f := fun p => nl (linesO (findS B p)) - nl (linesO (findS A p))) hp.1 hf
   rw [h5, sum_sub (fun p => nl (linesO (findS B p))) (fun p => nl (linesO (findS A p))), sum_find ra hp.1 (fun s hs => (hp.2 _).2 (.inl ⟨s, hs, rfl⟩)), sum_find rb hp.1 (fun s hs => (hp.2 _).2 (.inr ⟨s, hs, rfl⟩)), find_not hq]
   have : nl (nowG B q).2.2 = nl (linesO (findS B q)) := by rw [nowG, nowO_lines]
   rw [this]
   have z1 : nlC [] = 0 := rfl
   have z2 : nl (linesO none) = 0 := rfl
   rw [z1, z2]
   unfold nlS
   omega
end Wb
end Go.Proofs.YtnefdpnolojojaaGreatDoor
namespace Go.Proofs.YtnefdpnolojojaaGreatDoor
namespace Wb
theorem settle_ok {owed due o p : Int} (h : settleG owed due = (o, p, 0)) : 0 ≤ owed ∧ owed ≤ 1125899906842624 ∧ 0 ≤ o ∧ o ≤ 1125899906842624 ∧ 0 ≤ p ∧ p ≤ 1125899906842624 ∧ p - o = due - owed := by
 unfold settleG rightC at h
 split at h
 ·simp at h
 ·rename_i h1
  simp at h1
  split at h
  ·simp at h
  ·rename_i h2
   split at h
   ·simp at h; omega
   ·rename_i h3
    split at h
    ·simp at h
    ·rename_i h4
     simp at h4 h; omega
theorem hand_ok {q : Int × Int} : ∀ {L : List Sl} {p : Option (Int × Int)}, handE q p L = 0 → (∀ s ∈ L, check s.y s.i s.l = 0 ∧ prLt q (perS s) = false) ∧ RiseP L ∧ ∀ a, p = some a → ∀ s ∈ L, prLt a (perS s) = true
 | [], p, _ => ⟨(fun s hs => by cases hs), List.Pairwise.nil, (fun a _ s hs => by cases hs)⟩
 | s :: r, p, h => by
  rw [handE] at h
  split at h
  ·rename_i hc; exact absurd h hc
  ·rename_i hc
   split at h
   ·simp at h
   ·rename_i ho
    obtain ⟨h1, h2, h3⟩ := hand_ok h
    have hq : prLt q (perS s) = false := by
     cases hx : prLt q (perS s)
     ·rfl
     ·exact absurd (.inr hx) ho
    refine ⟨fun z hz => ?_, List.pairwise_cons.2 ⟨h3 _ rfl, h2⟩, fun a ha z hz => ?_⟩
    ·rcases List.mem_cons.1 hz with rfl | hz
     ·exact ⟨by simpa using hc, hq⟩
     ·exact h1 z hz
    ·have hs : prLt a (perS s) = true := by
      cases hx : prLt a (perS s)
      ·exact absurd (.inl ⟨a, ha, hx⟩) ho
      ·rfl
     rcases List.mem_cons.1 hz with rfl | hz
     ·exact hs
     ·exact pr_trans hs (h3 _ rfl z hz)
theorem hands_ok {q : Int × Int} {S : Int → List Ct} : ∀ {hs : List Int}, handsE q S hs = 0 → ∀ p ∈ hs, handE q none (lst (S p)) = 0
 | [], _, p, hp => by cases hp
 | a :: r, h, p, hp => by
  rw [handsE] at h
  split at h
  ·rename_i he; exact absurd h he
  ·rename_i he
   rcases List.mem_cons.1 hp with rfl | hp
   ·simpa using he
   ·exact hands_ok h p hp
def actB (B : Bk) (S : Int → List Ct) (p : Int) : Bool := !((S p).isEmpty && (B.paid p).isEmpty)
theorem act_iff {B : Bk} {S : Int → List Ct} {p : Int} : actB B S p = true ↔ ¬ (S p = [] ∧ B.paid p = []) := by simp [actB]; exact ⟨fun h a b => h.elim (fun k => k a) (fun k => k b), fun h => (Classical.em (S p = [])).elim (fun a => .inr (h a)) .inl⟩
theorem act_not {B : Bk} {S : Int → List Ct} {p : Int} : actB B S p = false ↔ (S p = [] ∧ B.paid p = []) := by simp [actB]
def rowB (q : Int × Int) (B : Bk) (S : Int → List Ct) (p : Int) : Rw × Int := rowG p q (lst (B.paid p)) (lst (S p)) (B.owed p)
theorem rows_ok {q : Int × Int} {B : Bk} {S : Int → List Ct} : ∀ {ps : List Int} {acc R : List Rw}, rowsG q B S acc ps = (0, R) →
  R = acc ++ (ps.filter (actB B S)).map (fun p => (rowB q B S p).1) ∧ ∀ p ∈ ps, actB B S p = true → (rowB q B S p).2 = 0
 | [], acc, R, h => by simp [rowsG] at h; exact ⟨by simp [h], fun p hp => by cases hp⟩
 | p :: r, acc, R, h => by
  rw [rowsG] at h
  split at h
  ·rename_i ha
   obtain ⟨h1, h2⟩ := rows_ok h
   have hf : actB B S p = false := act_not.2 ha
   refine ⟨by rw [h1]; simp [hf], fun z hz hza => ?_⟩
   rcases List.mem_cons.1 hz with rfl | hz
   ·rw [hf] at hza; cases hza
   ·exact h2 z hz hza
  ·rename_i ha
   have ht : actB B S p = true := act_iff.2 ha
   split at h
   ·rename_i he; simp only [Prod.mk.injEq] at h; exact absurd h.1 he
   ·rename_i he
    obtain ⟨h1, h2⟩ := rows_ok h
    refine ⟨by rw [h1]; simp [ht, rowB], fun z hz hza => ?_⟩
    rcases List.mem_cons.1 hz with rfl | hz
    ·simpa [rowB] using he
    ·exact h2 z hz hza
structure DoOk (B : Bk) (y i k : Int) (S : Int → List Ct) (hs ps : List Int) (B' : Bk) (R : Rn) : Prop where
 head : headE B.runs y i k = 0
 hand : ∀ p ∈ hs, handE (y, i) none (lst (S p)) = 0
 rows : R.rows = (ps.filter (actB B S)).map fun p => (rowB (y, i) B S p).1
 ok : ∀ p ∈ ps, actB B S p = true → (rowB (y, i) B S p).2 = 0
 run : R.n = B.runs.length + 1 ∧ R.y = y ∧ R.i = i ∧ R.k = k
 runs : B'.runs = B.runs ++ [R]
 paid : B'.paid = fun p => fullC (S p)
 owed : B'.owed = owedBy R.rows B.owed
theorem do_ok {B : Bk} {y i k : Int} {S : Int → List Ct} {hs ps : List Int} {B' : Bk} {R : Rn} (h : doG B y i k S hs ps = (B', R, 0)) : DoOk B y i k S hs ps B' R := by
 unfold doG at h
 split at h
 ·rename_i he; simp only [Prod.mk.injEq] at h; exact absurd h.2.2 he
 ·rename_i h1
  split at h
  ·rename_i he; simp only [Prod.mk.injEq] at h; exact absurd h.2.2 he
  ·rename_i h2
   split at h
   ·rename_i he; simp only [Prod.mk.injEq] at h; exact absurd h.2.2 he
   ·rename_i h3
    simp only [Prod.mk.injEq] at h
    obtain ⟨rfl, rfl, -⟩ := h
    have h3 : (rowsG (y, i) B S [] ps).1 = 0 := by simpa using h3
    have hr : rowsG (y, i) B S [] ps = (0, (rowsG (y, i) B S [] ps).2) := by rw [← h3]
    obtain ⟨r1, r2⟩ := rows_ok hr
    exact ⟨by simpa using h1, hands_ok (by simpa using h2), by simpa using r1, r2, ⟨rfl, rfl, rfl, rfl⟩, rfl, rfl, rfl⟩
theorem do_bad {B : Bk} {y i k : Int} {S : Int → List Ct} {hs ps : List Int} {B' : Bk} {R : Rn} {E : Int} (h : doG B y i k S hs ps = (B', R, E)) (he : E ≠ 0) : B' = B ∧ R = noRn := by
 unfold doG at h
 split at h
 ·simp only [Prod.mk.injEq] at h; exact ⟨h.1.symm, h.2.1.symm⟩
 ·split at h
  ·simp only [Prod.mk.injEq] at h; exact ⟨h.1.symm, h.2.1.symm⟩
  ·split at h
   ·simp only [Prod.mk.injEq] at h; exact ⟨h.1.symm, h.2.1.symm⟩
   ·simp only [Prod.mk.injEq] at h; exact absurd h.2.2.symm he
structure BkOk (B : Bk) : Prop where
 right : ∀ p, ∀ s ∈ lst (B.paid p), check s.y s.i s.l = 0 ∧ s.l ≠ []
 rise : ∀ p, RiseP (lst (B.paid p))
 owed : ∀ p, 0 ≤ B.owed p ∧ B.owed p ≤ 1125899906842624
 last : ∀ p, ∀ s ∈ lst (B.paid p), ∃ r, B.runs.getLast? = some r ∧ prLt (r.y, r.i) (perS s) = false ∧ 1 ≤ r.i ∧ r.i ≤ 400
theorem bkOk_none : BkOk noBk := ⟨(fun p s hs => by cases hs), (fun p => List.Pairwise.nil), (fun p => by show 0 ≤ (0 : Int) ∧ (0 : Int) ≤ _; omega), (fun p s hs => by cases hs)⟩
theorem full_lst (C : List Ct) : lst (fullC C) = (lst C).filter fun s => !s.l.isEmpty := by
 unfold lst fullC
 rw [List.filter_map]; rfl
theorem head_ok {runs : List Rn} {y i k : Int} (h : headE runs y i k = 0) : 1900 ≤ y ∧ y ≤ 2199 ∧ 1 ≤ i ∧ i ≤ 400 ∧ 0 ≤ k ∧ ∀ r, runs.getLast? = some r → perN r.y r.i < perN y i ∧ r.k ≤ k := by
 unfold headE at h
 split at h
 ·cases h
 ·rename_i h1
  refine ⟨by omega, by omega, by omega, by omega, by omega, fun r hr => ?_⟩
  rw [hr] at h
  simp only [] at h
  split at h
  ·cases h
  ·rename_i h2; omega
theorem own_new {B : Bk} (hB : BkOk B) {y i k : Int} (h : headE B.runs y i k = 0) (p : Int) : ¬ hasP (lst (B.paid p)) (y, i) := by
 rintro ⟨s, hs, e⟩
 obtain ⟨r, h1, h2, h3, h4⟩ := hB.last p s hs
 obtain ⟨_, _, a3, a4, _, a6⟩ := head_ok h
 have := (a6 r h1).1
 rw [e] at h2
 unfold perN at this
 simp [prLt] at h2
 obtain ⟨h5, h6⟩ := h2
 rcases Int.lt_trichotomy r.y y with h | h | h
 ·omega
 ·subst h; simp at h6; omega
 ·omega
theorem owed_none {rows : List Rw} {o : Int → Int} {p : Int} (h : ∀ r ∈ rows, r.p ≠ p) : owedBy rows o p = o p := by
 unfold owedBy
 rw [List.find?_eq_none.2 fun r hr => by simpa using h r hr]
theorem owed_some {rows : List Rw} {o : Int → Int} {r : Rw} (hn : (rows.map Rw.p).Nodup) (h : r ∈ rows) : owedBy rows o r.p = r.owed := by
 unfold owedBy
 have : rows.find? (fun x => decide (x.p = r.p)) = some r := by
  induction rows with
  | nil => cases h
  | cons a t ih =>
   rw [List.map_cons, List.nodup_cons] at hn
   rcases List.mem_cons.1 h with rfl | h
   ·simp
   ·have : a.p ≠ r.p := fun e => hn.1 (e ▸ List.mem_map_of_mem h)
    rw [List.find?_cons, decide_eq_false this]
    exact ih hn.2 h
 rw [this]
structure Who (B : Bk) (S : Int → List Ct) (hs ps : List Int) : Prop where
 hand : ∀ p, S p ≠ [] → p ∈ hs
 all : ∀ p, S p ≠ [] ∨ B.paid p ≠ [] → p ∈ ps
 one : ps.Nodup
 rise : ps.Pairwise (· < ·)
theorem up_lt {l : List Int} (h1 : l.Nodup) (h2 : l.Pairwise (· ≤ ·)) : l.Pairwise (· < ·) := (List.Pairwise.and h1 h2).imp fun {a b} h => by
 have h3 : a ≠ b := h.1
 have h4 : a ≤ b := h.2
 omega
structure RowOk (q : Int × Int) (B : Bk) (S : Int → List Ct) (r : Rw) : Prop where
 due : r.due = nlC (S r.p) - nlC (B.paid r.p)
 paid : 0 ≤ r.paid ∧ r.paid ≤ 1125899906842624
 owed : 0 ≤ r.owed ∧ r.owed ≤ 1125899906842624
 sum : r.paid - r.owed = r.due - B.owed r.p
theorem rowB_p {q : Int × Int} {B : Bk} {S : Int → List Ct} {p : Int} (h : (rowB q B S p).2 = 0) (hb : BkOk B) {y i k : Int} (hq : q = (y, i)) (hh : headE B.runs y i k = 0) (hS : handE q none (lst (S p)) = 0) : (rowB q B S p).1.p = p ∧ RowOk q B S (rowB q B S p).1 := by
 obtain ⟨r, hr⟩ : ∃ r, rowB q B S p = (r, 0) := ⟨(rowB q B S p).1, Prod.ext rfl h⟩
 rw [hr]
 have hk : rowG p q (lst (B.paid p)) (lst (S p)) (B.owed p) = (r, 0) := hr
 obtain ⟨h1, h2, h3⟩ := row_due (hb.rise p) (hand_ok hS).2.1 (by rw [hq]; exact own_new hb hh p) hk
 obtain ⟨s1, s2, s3, s4, s5, s6, s7⟩ := settle_ok h3
 refine ⟨h1, ⟨?_, ⟨s5, s6⟩, ⟨s3, s4⟩, ?_⟩⟩
 ·show r.due = nlC (S r.p) - nlC (B.paid r.p)
  rw [h1, h2, nlS_lst, nlS_lst]
 ·show r.paid - r.owed = r.due - B.owed r.p
  rw [h1]; omega
theorem lst_nil {q : Int × Int} {C : List Ct} (h : C = []) : handE q none (lst C) = 0 := by rw [h]; rfl
structure Behind (B : Bk) (y i : Int) (S : Int → List Ct) (B' : Bk) (R : Rn) : Prop where
 ok : BkOk B'
 rows : ∀ r ∈ R.rows, RowOk (y, i) B S r ∧ B'.owed r.p = r.owed
 one : (R.rows.map Rw.p).Nodup
 who : ∀ p, (∃ r ∈ R.rows, r.p = p) ↔ ¬ (S p = [] ∧ B.paid p = [])
 other : ∀ p, S p = [] ∧ B.paid p = [] → B'.owed p = B.owed p
 paid : ∀ p, B'.paid p = fullC (S p)
 right : ∀ p, handE (y, i) none (lst (S p)) = 0
theorem nlC_full : ∀ C : List Ct, nlC (fullC C) = nlC C
 | [] => rfl
 | c :: r => by
  have ih := nlC_full r
  unfold nlC fullC at ih ⊢
  by_cases h : c.2.2 = []
  ·simp [h, nl_nil] at ih ⊢; omega
  ·simp [h] at ih ⊢; omega
theorem getLast_snoc {α : Type} (l : List α) (x : α) : (l ++ [x]).getLast? = some x := by simp
theorem behind_of {B : Bk} {y i k : Int} {S : Int → List Ct} {hs ps : List Int} {B' : Bk} {R : Rn} (hB : BkOk B) (hw : Who B S hs ps) (h : DoOk B y i k S hs ps B' R) : Behind B y i S B' R := by
 have hr : ∀ p, handE (y, i) none (lst (S p)) = 0 := fun p => by
  by_cases e : S p = []
  ·exact lst_nil e
  ·exact h.hand p (hw.hand p e)
 have hmem : ∀ r ∈ R.rows, ∃ p ∈ ps, actB B S p = true ∧ r = (rowB (y, i) B S p).1 := fun r hm => by
  rw [h.rows] at hm
  obtain ⟨p, hp, rfl⟩ := List.mem_map.1 hm
  obtain ⟨h1, h2⟩ := List.mem_filter.1 hp
  exact ⟨p, h1, h2, rfl⟩
 have hrow : ∀ p ∈ ps, actB B S p = true → (rowB (y, i) B S p).1.p = p ∧ RowOk (y, i) B S (rowB (y, i) B S p).1 := fun p hp ha => rowB_p (h.ok p hp ha) hB rfl h.head (hr p)
 have hone : (R.rows.map Rw.p).Nodup := by
  rw [h.rows, List.map_map]
  have : ((ps.filter (actB B S)).map ((Rw.p) ∘ fun p => (rowB (y, i) B S p).1)) = ps.filter (actB B S) := by
   conv => rhs; rw [← List.map_id (ps.filter (actB B S))]
   refine List.map_congr_left fun p hp => ?_
   obtain ⟨h1, h2⟩ := List.mem_filter.1 hp
   exact (hrow p h1 h2).1
  rw [this]
  exact List.Nodup.sublist List.filter_sublist hw.one
 have hwho : ∀ p, (∃ r ∈ R.rows, r.p = p) ↔ ¬ (S p = [] ∧ B.paid p = []) := fun p => by
  constructor
  ·rintro ⟨r, hm, rfl⟩
   obtain ⟨p, hp, ha, rfl⟩ := hmem r hm
   rw [(hrow p hp ha).1]
   exact act_iff.1 ha
  ·intro hn
   have hp : p ∈ ps := hw.all p (by
    by_cases e : S p = []
    ·exact .inr fun e2 => hn ⟨e, e2⟩
    ·exact .inl e)
   have ha : actB B S p = true := act_iff.2 hn
   exact ⟨(rowB (y, i) B S p).1, by rw [h.rows]; exact List.mem_map_of_mem (List.mem_filter.2 ⟨hp, ha⟩), (hrow p hp ha).1⟩
 have hother : ∀ p, S p = [] ∧ B.paid p = [] → B'.owed p = B.owed p := fun p hn => by
  rw [h.owed]
  exact owed_none fun r hm e => (hwho p).1 ⟨r, hm, e⟩ hn
 have hrows : ∀ r ∈ R.rows, RowOk (y, i) B S r ∧ B'.owed r.p = r.owed := fun r hm => by
  obtain ⟨p, hp, ha, rfl⟩ := hmem r hm
  exact ⟨(hrow p hp ha).2, by rw [h.owed]; exact owed_some hone hm⟩
 have hpaid : ∀ p, B'.paid p = fullC (S p) := fun p => by rw [h.paid]
 have hd := head_ok h.head
 refine ⟨⟨fun p s hs => ?_, fun p => ?_, fun p => ?_, fun p s hs => ?_⟩, hrows, hone, hwho, hother, hpaid, hr⟩
 ·rw [hpaid, full_lst] at hs
  obtain ⟨h1, h2⟩ := List.mem_filter.1 hs
  exact ⟨((hand_ok (hr p)).1 s h1).1, by simpa using h2⟩
 ·rw [hpaid, full_lst]
  exact List.Pairwise.filter _ (hand_ok (hr p)).2.1
 ·by_cases hn : S p = [] ∧ B.paid p = []
  ·rw [hother p hn]; exact hB.owed p
  ·obtain ⟨r, hm, rfl⟩ := (hwho p).2 hn
   rw [(hrows r hm).2]; exact (hrows r hm).1.owed
 ·rw [hpaid, full_lst] at hs
  obtain ⟨h1, _⟩ := List.mem_filter.1 hs
  refine ⟨R, by rw [h.runs, getLast_snoc], ?_, by rw [h.run.2.2.1]; exact hd.2.2.1, by rw [h.run.2.2.1]; exact hd.2.2.2.1⟩
  rw [h.run.2.1, h.run.2.2.1]
  exact ((hand_ok (hr p)).1 s h1).2
theorem sum_behind {B : Bk} {y i : Int} {S : Int → List Ct} {B' : Bk} {R : Rn} (h : Behind B y i S B' R) {sum sum' : Int → Int} (h0 : ∀ p, sum p - B.owed p = nlC (B.paid p))
  (hs : ∀ r ∈ R.rows, sum' r.p = sum r.p + r.paid) (ho : ∀ p, S p = [] ∧ B.paid p = [] → sum' p = sum p) (p : Int) : sum' p - B'.owed p = nlC (B'.paid p) := by
 rw [h.paid, nlC_full]
 by_cases hn : S p = [] ∧ B.paid p = []
 ·rw [ho p hn, h.other p hn, h0, hn.1, hn.2]
 ·obtain ⟨r, hm, rfl⟩ := (h.who p).2 hn
  obtain ⟨k1, k2⟩ := h.rows r hm
  have := h0 r.p
  rw [hs r hm, k2]
  have e1 := k1.due
  have e2 := k1.sum
  omega
end Wb
end Go.Proofs.YtnefdpnolojojaaGreatDoor
