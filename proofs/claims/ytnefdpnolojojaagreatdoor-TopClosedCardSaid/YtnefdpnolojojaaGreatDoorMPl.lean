/- MPl -/
import GoSem.Op.String
namespace Go.Proofs.YtnefdpnolojojaaGreatDoor
namespace Wb
def byteAt (l : List UInt8) (k : Nat) : UInt8 := (l[k]?).getD 0
theorem byteAt_eq {l : List UInt8} {k : Nat} (h : k < l.length) : byteAt l k = l[k] := by
 rw [byteAt, List.getElem?_eq_getElem h, Option.getD_some]
theorem drop_get {α : Type} {l : List α} {k : Nat} {b : α} (h : l[k]? = some b) : l.drop k = b :: l.drop (k + 1) := by
 obtain ⟨h1, h2⟩ := List.getElem?_eq_some_iff.1 h
 rw [List.drop_eq_getElem_cons h1, h2]
theorem get_ex {α : Type} {l : List α} {k : Nat} (h : k < l.length) : ∃ b, l[k]? = some b := ⟨l[k], List.getElem?_eq_getElem h⟩
theorem take_byte {l : List UInt8} {k : Nat} (h : k < l.length) : l.take (k + 1) = l.take k ++ [byteAt l k] := by
 rw [List.take_succ_eq_append_getElem h, byteAt_eq h]
theorem byteAt_mem {l : List UInt8} {k : Nat} (h : k < l.length) : byteAt l k ∈ l := by rw [byteAt_eq h]; exact List.getElem_mem h
end Wb
end Go.Proofs.YtnefdpnolojojaaGreatDoor
namespace Go.Proofs.YtnefdpnolojojaaGreatDoor
namespace Wb
def most : Int := 1125899906842624
def fits (c : Int) : Bool := decide (-1125899906842624 ≤ c) && decide (c ≤ 1125899906842624)
theorem fits_iff (c : Int) : fits c = true ↔ -1125899906842624 ≤ c ∧ c ≤ 1125899906842624 := by simp [fits]
def told (a b c : Int) : Int × Int := if fits a = true ∧ fits b = true then (if fits c = true then (c, 0) else (0, 9)) else (0, 2)
def sumTo (s : Int) : List Int → Int × Int
 | [] => (s, 0)
 | x :: r => if (told s x (s + x)).2 = 0 then sumTo (told s x (s + x)).1 r else (0, (told s x (s + x)).2)
def sum (l : List Int) : Int × Int := sumTo 0 l
def dig (n : Nat) : UInt8 := UInt8.ofNat (48 + n)
def digs (n : Nat) : List UInt8 := if _h : n < 10 then [dig n] else digs (n / 10) ++ [dig (n % 10)]
termination_by n
decreasing_by omega
theorem digs_lt {n : Nat} (h : n < 10) : digs n = [dig n] := by rw [digs]; simp [h]
theorem digs_ge {n : Nat} (h : 10 ≤ n) : digs n = digs (n / 10) ++ [dig (n % 10)] := by
 rw [digs]; have : ¬ n < 10 := by omega
 simp [this]
theorem digs_length (k : Nat) : ∀ n, n < 10 ^ (k + 1) → (digs n).length ≤ k + 1 := by
 induction k with
 | zero => intro n h; rw [digs_lt (by simpa using h)]; simp
 | succ k ih =>
  intro n h
  by_cases hn : n < 10
  ·rw [digs_lt hn]; simp
  ·rw [digs_ge (by omega)]
   have : n / 10 < 10 ^ (k + 1) := by rw [Nat.pow_succ] at h; omega
   have := ih (n / 10) this
   simp; omega
theorem digs_pos (n : Nat) : 0 < (digs n).length := by
 by_cases hn : n < 10
 ·rw [digs_lt hn]; simp
 ·rw [digs_ge (by omega)]; simp
def textN (n : Nat) : List UInt8 := digs (n / 100) ++ [46] ++ digs (n / 10 % 10) ++ digs (n % 10)
def textZ (c : Int) : List UInt8 := if c < 0 then 45 :: textN c.natAbs else textN c.natAbs
def text (c : Int) : List UInt8 := if fits c = true then textZ c else []
open Classical in
def val (l : List UInt8) : Nat := l.foldl (fun a b => 10 * a + (b.toNat - 48)) 0
def total : List Int → Int | [] => 0 | x :: r => x + total r
theorem total_app (a b : List Int) : total (a ++ b) = total a + total b := by
 induction a with
 | nil => simp [total]
 | cons x r ih => simp only [List.cons_append, total, ih]; omega
theorem sumTo_small : ∀ (l : List Int) (s : Int), (∀ x ∈ l, -1099511627776 ≤ x ∧ x ≤ 1099511627776) → -(1125899906842624 - 1099511627776 * l.length) ≤ s → s ≤ 1125899906842624 - 1099511627776 * l.length → sumTo s l = (s + total l, 0) := by
 intro l
 induction l with
 | nil => intro s _ _ _; simp [sumTo, total]
 | cons x r ih =>
  intro s hx h1 h2
  have hx0 := hx x (by simp)
  simp only [List.length_cons] at h1 h2
  have hs : fits s = true := by rw [fits_iff]; omega
  have hxf : fits x = true := by rw [fits_iff]; omega
  have hsx : fits (s + x) = true := by rw [fits_iff]; omega
  have e : told s x (s + x) = (s + x, 0) := by simp [told, hs, hxf, hsx]
  rw [sumTo, e]
  simp only [if_true]
  rw [ih (s + x) (fun y hy => hx y (by simp [hy])) (by omega) (by omega), total]
  congr 1; omega
theorem sum_small {l : List Int} (hx : ∀ x ∈ l, -1099511627776 ≤ x ∧ x ≤ 1099511627776) (hl : l.length ≤ 400) : sum l = (total l, 0) := by
 unfold sum; rw [sumTo_small l 0 hx (by omega) (by omega)]; simp
theorem total_bound : ∀ {l : List Int}, (∀ x ∈ l, -1099511627776 ≤ x ∧ x ≤ 1099511627776) → -(1099511627776 * l.length : Int) ≤ total l ∧ total l ≤ 1099511627776 * l.length := by
 intro l
 induction l with
 | nil => intro _; simp [total]
 | cons x r ih =>
  intro hx
  have := ih fun y hy => hx y (by simp [hy])
  have := hx x (by simp)
  simp only [total, List.length_cons]; omega
theorem chains {a b : List Int} (ha : a.length ≤ 100) (hb : b.length ≤ 100) (hx : ∀ x ∈ a ++ b, -1099511627776 ≤ x ∧ x ≤ 1099511627776) :
  sum a = (total a, 0) ∧ sum b = (total b, 0) ∧ sum (a ++ b) = (total a + total b, 0) ∧ told (total a) (total b) (total a + total b) = (total a + total b, 0) := by
 have hxa : ∀ x ∈ a, -1099511627776 ≤ x ∧ x ≤ 1099511627776 := fun x h => hx x (by simp [h])
 have hxb : ∀ x ∈ b, -1099511627776 ≤ x ∧ x ≤ 1099511627776 := fun x h => hx x (by simp [h])
 refine ⟨sum_small hxa (by omega), sum_small hxb (by omega), ?_, ?_⟩
 ·rw [sum_small hx (by simp; omega), total_app]
 ·have h1 := total_bound hxa
  have h2 := total_bound hxb
  have f1 : fits (total a) = true := by rw [fits_iff]; omega
  have f2 : fits (total b) = true := by rw [fits_iff]; omega
  have f3 : fits (total a + total b) = true := by rw [fits_iff]; omega
  simp [told, f1, f2, f3]
end Wb
end Go.Proofs.YtnefdpnolojojaaGreatDoor
namespace Go.Proofs.YtnefdpnolojojaaGreatDoor
namespace Wb
theorem blt_irrefl : ∀ a : List UInt8, Op.bytesLess a a = false
 | [] => rfl
 | x :: r => by simp [Op.bytesLess, blt_irrefl r]
theorem blt_asymm : ∀ a b : List UInt8, Op.bytesLess a b = true → Op.bytesLess b a = false
 | _, [], h => by simp [Op.bytesLess] at h
 | [], _ :: _, _ => rfl
 | x :: r, y :: s, h => by
  simp only [Op.bytesLess, Bool.or_eq_true, decide_eq_true_eq, Bool.and_eq_true, beq_iff_eq] at h
  simp only [Op.bytesLess, Bool.or_eq_false_iff, decide_eq_false_iff_not, Bool.and_eq_false_iff]
  rcases h with h | ⟨rfl, h⟩
  ·refine ⟨by rw [UInt8.lt_iff_toNat_lt] at *; omega, .inl ?_⟩
   have : ¬ y = x := by rintro rfl; rw [UInt8.lt_iff_toNat_lt] at h; omega
   simpa using this
  ·exact ⟨by rw [UInt8.lt_iff_toNat_lt]; omega, .inr (blt_asymm r s h)⟩
theorem blt_total : ∀ a b : List UInt8, Op.bytesLess a b = false → Op.bytesLess b a = false → a = b
 | [], [], _, _ => rfl
 | [], _ :: _, h, _ => by simp [Op.bytesLess] at h
 | _ :: _, [], _, h => by simp [Op.bytesLess] at h
 | x :: r, y :: s, h, k => by
  simp only [Op.bytesLess, Bool.or_eq_false_iff, decide_eq_false_iff_not, Bool.and_eq_false_iff] at h k
  have e : x = y := by
   have h1 := h.1; have k1 := k.1
   rw [UInt8.lt_iff_toNat_lt] at h1 k1
   exact UInt8.toNat_inj.1 (by omega)
  subst e
  rw [blt_total r s (by simpa using h.2) (by simpa using k.2)]
theorem blt_trans : ∀ a b c : List UInt8, Op.bytesLess a b = true → Op.bytesLess b c = true → Op.bytesLess a c = true
 | _, [], _, h, _ => by simp [Op.bytesLess] at h
 | _, _ :: _, [], _, h => by simp [Op.bytesLess] at h
 | [], _ :: _, _ :: _, _, _ => rfl
 | x :: r, y :: s, z :: t, h, k => by
  simp only [Op.bytesLess, Bool.or_eq_true, decide_eq_true_eq, Bool.and_eq_true, beq_iff_eq] at h k ⊢
  rcases h with h | ⟨rfl, h⟩
  ·rcases k with k | ⟨rfl, k⟩
   ·left; rw [UInt8.lt_iff_toNat_lt] at *; omega
   ·exact .inl h
  ·rcases k with k | ⟨rfl, k⟩
   ·exact .inl k
   ·exact .inr ⟨rfl, blt_trans r s t h k⟩
structure Ln where
 part : Int
 code : List UInt8
 cents : Int
def chOk (b : UInt8) : Bool := (decide (97 ≤ (b.toNat : Int)) && decide ((b.toNat : Int) ≤ 122)) || (decide (48 ≤ (b.toNat : Int)) && decide ((b.toNat : Int) ≤ 57)) || ((b.toNat : Int) == 46) || ((b.toNat : Int) == 95) || ((b.toNat : Int) == 45)
def codeOk (c : List UInt8) : Bool := !c.isEmpty && !(c == [45]) && decide (c.length ≤ 32) && c.all chOk
def lineErr (x : Ln) : Int := if x.part < 0 ∨ 7 ≤ x.part then 11 else if codeOk x.code = false then 12 else if x.cents = 0 then 22 else if fits x.cents = false then 9 else 0
def lnLt (a b : Ln) : Bool := decide (a.part < b.part) || ((a.part == b.part) && Op.bytesLess a.code b.code)
def chk (p : Option Ln) : List Ln → Int
 | [] => 0
 | x :: r => if lineErr x ≠ 0 then lineErr x else
  match p with
  | none => chk (some x) r
  | some q => if q.part = x.part ∧ q.code = x.code then 7 else if lnLt q x = false then 8 else chk (some x) r
def check (y i : Int) (l : List Ln) : Int := if y < 1900 ∨ 2199 < y ∨ i < 1 ∨ 400 < i then 2 else if 448 < l.length then 5 else chk none l
def ahead (l : List Ln) (k : Nat) : Option Ln := if k = 0 then none else l[k - 1]?
def sumOf (f t : Int) : List Ln → Int
 | [] => 0
 | x :: r => (if f ≤ x.part ∧ x.part ≤ t then x.cents else 0) + sumOf f t r
theorem lnLt_irrefl (a : Ln) : lnLt a a = false := by simp [lnLt, blt_irrefl]
theorem lnLt_total {a b : Ln} (h : lnLt a b = false) (k : lnLt b a = false) : a.part = b.part ∧ a.code = b.code := by
 simp only [lnLt, Bool.or_eq_false_iff, decide_eq_false_iff_not, Bool.and_eq_false_iff, beq_eq_false_iff_ne] at h k
 have e : a.part = b.part := by omega
 refine ⟨e, blt_total _ _ ?_ ?_⟩
 ·rcases h.2 with h | h
  ·exact absurd e h
  ·exact h
 ·rcases k.2 with k | k
  ·exact absurd e.symm k
  ·exact k
theorem lnLt_trans {a b c : Ln} (h : lnLt a b = true) (k : lnLt b c = true) : lnLt a c = true := by
 simp only [lnLt, Bool.or_eq_true, decide_eq_true_eq, Bool.and_eq_true, beq_iff_eq] at h k ⊢
 rcases h with h | ⟨h1, h2⟩ <;> rcases k with k | ⟨k1, k2⟩
 ·left; omega
 ·left; omega
 ·left; omega
 ·right; exact ⟨by omega, blt_trans _ _ _ h2 k2⟩
theorem codeOk_bad {c : List UInt8} {k : Nat} (hk : k < c.length) (h : chOk (byteAt c k) = false) : codeOk c = false := by
 unfold codeOk
 have : c.all chOk = false := by rw [List.all_eq_false]; exact ⟨_, byteAt_mem hk, by simp [h]⟩
 simp [this]
theorem bgt (a b : List UInt8) : (!Op.bytesLess b a && !(b == a)) = Op.bytesLess a b := by
 cases h : Op.bytesLess a b
 ·cases k : Op.bytesLess b a
  ·have := blt_total _ _ h k; subst this; simp
  ·simp
 ·have := blt_asymm _ _ h
  rw [this]
  have hne : ¬ b = a := by rintro rfl; rw [blt_irrefl] at h; cases h
  simpa using hne
theorem chk_none {x : Ln} (h : lineErr x = 0) (r : List Ln) : chk none (x :: r) = chk (some x) r := by simp [chk, h]
theorem chk_some {x : Ln} (h : lineErr x = 0) (q : Ln) (r : List Ln) : chk (some q) (x :: r) = if q.part = x.part ∧ q.code = x.code then 7 else if lnLt q x = false then 8 else chk (some x) r := by simp [chk, h]
theorem chk_err {x : Ln} (h : lineErr x ≠ 0) (p : Option Ln) (r : List Ln) : chk p (x :: r) = lineErr x := by cases p <;> simp [chk, h]
theorem ahead_zero (l : List Ln) : ahead l 0 = none := rfl
theorem ahead_succ {l : List Ln} {k : Nat} : ahead l (k + 1) = l[k]? := by simp [ahead]
theorem sumOf_app (f t : Int) (a b : List Ln) : sumOf f t (a ++ b) = sumOf f t a + sumOf f t b := by
 induction a with
 | nil => simp [sumOf]
 | cons x r ih => simp only [List.cons_append, sumOf, ih]; omega
theorem sumOf_snoc {f t : Int} {l : List Ln} {k : Nat} {x : Ln} (h : l[k]? = some x) : sumOf f t (l.take (k + 1)) = sumOf f t (l.take k) + (if f ≤ x.part ∧ x.part ≤ t then x.cents else 0) := by
 obtain ⟨h1, h2⟩ := List.getElem?_eq_some_iff.1 h
 rw [List.take_succ_eq_append_getElem h1, sumOf_app, h2]; simp [sumOf]
def Cfit (l : List Ln) : Prop := ∀ x ∈ l, -1125899906842624 ≤ x.cents ∧ x.cents ≤ 1125899906842624
theorem sumOf_bound {f t : Int} : ∀ {l : List Ln}, Cfit l → -(1125899906842624 * l.length : Int) ≤ sumOf f t l ∧ sumOf f t l ≤ 1125899906842624 * l.length := by
 intro l
 induction l with
 | nil => intro _; simp [sumOf]
 | cons x r ih =>
  intro h
  have h1 := ih fun y hy => h y (by simp [hy])
  have h2 := h x (by simp)
  simp only [sumOf, List.length_cons]
  split <;> omega
theorem sumOf_take_bound {f t : Int} {l : List Ln} (h : Cfit l) (hl : l.length ≤ 448) (k : Nat) : -504403158265495552 ≤ sumOf f t (l.take k) ∧ sumOf f t (l.take k) ≤ 504403158265495552 := by
 have := sumOf_bound (f := f) (t := t) (l := l.take k) fun x hx => h x (List.mem_of_mem_take hx)
 have hk : (l.take k).length ≤ 448 := by simp; omega
 omega
theorem lineErr_ok {x : Ln} (h : lineErr x = 0) : 0 ≤ x.part ∧ x.part ≤ 6 ∧ codeOk x.code = true ∧ x.cents ≠ 0 ∧ fits x.cents = true := by
 unfold lineErr at h
 split at h
 ·omega
 ·split at h
  ·omega
  ·split at h
   ·omega
   ·split at h
    ·omega
    ·rename_i h1 h2 h3 h4
     refine ⟨by omega, by omega, by simpa using h2, h3, by simpa using h4⟩
theorem chk_lines : ∀ {l : List Ln} {p : Option Ln}, chk p l = 0 → ∀ x ∈ l, lineErr x = 0 := by
 intro l
 induction l with
 | nil => intro _ _ x hx; cases hx
 | cons y r ih =>
  intro p h x hx
  by_cases hy : lineErr y = 0
  ·have hr : ∀ x ∈ r, lineErr x = 0 := by
    cases p with
    | none => rw [chk_none hy] at h; exact ih h
    | some q =>
     rw [chk_some hy] at h
     split at h
     ·omega
     ·split at h
      ·omega
      ·exact ih h
   rcases List.mem_cons.1 hx with rfl | hx
   ·exact hy
   ·exact hr x hx
  ·rw [chk_err hy] at h; exact absurd h hy
theorem check_ok {y i : Int} {l : List Ln} (h : check y i l = 0) : 1900 ≤ y ∧ y ≤ 2199 ∧ 1 ≤ i ∧ i ≤ 400 ∧ l.length ≤ 448 ∧ chk none l = 0 ∧ ∀ x ∈ l, lineErr x = 0 := by
 unfold check at h
 split at h
 ·omega
 ·split at h
  ·omega
  ·exact ⟨by omega, by omega, by omega, by omega, by omega, h, chk_lines h⟩
theorem check_fit {y i : Int} {l : List Ln} (h : check y i l = 0) : Cfit l := fun x hx => (fits_iff _).1 (lineErr_ok ((check_ok h).2.2.2.2.2.2 x hx)).2.2.2.2
def sums (y i : Int) (l : List Ln) : Int × Int × Int × Int × Int :=
 if check y i l ≠ 0 then (0, 0, 0, 0, check y i l) else
 if fits (sumOf 0 0 l) = true ∧ fits (sumOf 1 5 l) = true ∧ fits (sumOf 0 0 l - sumOf 1 5 l) = true ∧ fits (sumOf 6 6 l) = true then (sumOf 0 0 l, sumOf 1 5 l, sumOf 0 0 l - sumOf 1 5 l, sumOf 6 6 l, 0) else (0, 0, 0, 0, 9)
theorem sumOf_all_bound {f t : Int} {l : List Ln} (h : Cfit l) (hl : l.length ≤ 448) : -504403158265495552 ≤ sumOf f t l ∧ sumOf f t l ≤ 504403158265495552 := by
 have := sumOf_take_bound (f := f) (t := t) h hl l.length
 rwa [List.take_length] at this
theorem sums_ok {y i : Int} {l : List Ln} (h : check y i l = 0) {g a f : Int} (hg : sumOf 0 0 l = g) (ha : sumOf 1 5 l = a) (hf : sumOf 6 6 l = f) (h1 : fits g = true) (h2 : fits a = true) (h3 : fits (g - a) = true) (h4 : fits f = true) : sums y i l = (g, a, g - a, f, 0) := by
 subst hg ha hf; rw [sums, if_neg (by rw [h]; simp), if_pos ⟨h1, h2, h3, h4⟩]
theorem sums_over {y i : Int} {l : List Ln} (h : check y i l = 0) {g a f : Int} (hg : sumOf 0 0 l = g) (ha : sumOf 1 5 l = a) (hf : sumOf 6 6 l = f) (hn : ¬ (fits g = true ∧ fits a = true ∧ fits (g - a) = true ∧ fits f = true)) : sums y i l = (0, 0, 0, 0, 9) := by
 subst hg ha hf; rw [sums, if_neg (by rw [h]; simp), if_neg hn]
end Wb
end Go.Proofs.YtnefdpnolojojaaGreatDoor
namespace Go.Proofs.YtnefdpnolojojaaGreatDoor
namespace Wb
def sizeOf (l : List Ln) : Int := l.foldr (fun x n => 1 + (x.code.length : Int) + n) 0
def small (l : List Ln) : Bool := decide (sizeOf l ≤ 20000)
end Wb
end Go.Proofs.YtnefdpnolojojaaGreatDoor
namespace Go.Proofs.YtnefdpnolojojaaGreatDoor
namespace Wb
theorem chk_rise : ∀ {l : List Ln} {p : Option Ln}, chk p l = 0 → l.Pairwise (fun a b => lnLt a b = true) ∧ ∀ q, p = some q → ∀ x ∈ l, lnLt q x = true := by
 intro l
 induction l with
 | nil => intro p _; exact ⟨List.Pairwise.nil, fun q _ x hx => by cases hx⟩
 | cons y r ih =>
  intro p h
  have hy : lineErr y = 0 := chk_lines h y (by simp)
  have hr : chk (some y) r = 0 ∧ ∀ q, p = some q → lnLt q y = true := by
   cases p with
   | none => rw [chk_none hy] at h; exact ⟨h, fun q hq => by cases hq⟩
   | some q =>
    rw [chk_some hy] at h
    split at h
    ·omega
    ·split at h
     ·omega
     ·rename_i hl
      exact ⟨h, fun q' hq => by cases hq; simpa using hl⟩
  obtain ⟨h1, h2⟩ := ih hr.1
  refine ⟨List.Pairwise.cons (fun x hx => h2 y rfl x hx) h1, fun q hq x hx => ?_⟩
  rcases List.mem_cons.1 hx with rfl | hx
  ·exact hr.2 q hq
  ·exact lnLt_trans (hr.2 q hq) (h2 y rfl x hx)
def below (k : Int) (l : List Ln) : List Ln := l.filter fun x => decide (x.part < k)
end Wb
end Go.Proofs.YtnefdpnolojojaaGreatDoor
namespace Go.Proofs.YtnefdpnolojojaaGreatDoor
namespace Wb
def mergeL : List Ln → List Ln → Option (List Ln)
 | [], b => some b
 | a, [] => some a
 | x :: a, y :: b =>
  if lnLt x y = true then (mergeL a (y :: b)).map (x :: ·)
  else if lnLt y x = true then (mergeL (x :: a) b).map (y :: ·)
  else if fits (x.cents + y.cents) = false then none
  else if x.cents + y.cents = 0 then mergeL a b
  else (mergeL a b).map (⟨x.part, x.code, x.cents + y.cents⟩ :: ·)
termination_by a b => a.length + b.length
def merge (y i : Int) (a : List Ln) (y' i' : Int) (b : List Ln) : Int × Int × Int × List Ln :=
 if check y i a ≠ 0 then (check y i a, 0, 0, [])
 else if check y' i' b ≠ 0 then (check y' i' b, 0, 0, [])
 else if y ≠ y' ∨ i ≠ i' then (18, 0, 0, [])
 else match mergeL a b with
  | none => (9, 0, 0, [])
  | some l => if 448 < l.length then (5, 0, 0, []) else (0, y, i, l)
def lval (p : Int) (c : List UInt8) : List Ln → Int
 | [] => 0
 | x :: r => (if x.part = p ∧ x.code = c then x.cents else 0) + lval p c r
def Rise (l : List Ln) : Prop := l.Pairwise (fun a b => lnLt a b = true)
def NonZ (l : List Ln) : Prop := ∀ x ∈ l, x.cents ≠ 0
theorem lnLt_ne {a b : Ln} (h : lnLt a b = true) : ¬ (b.part = a.part ∧ b.code = a.code) := by
 rintro ⟨h1, h2⟩
 simp [lnLt, h1, h2, blt_irrefl] at h
theorem lnLt_key {a b a' b' : Ln} (h1 : a.part = a'.part) (h2 : a.code = a'.code) (h3 : b.part = b'.part) (h4 : b.code = b'.code) : lnLt a b = lnLt a' b' := by
 simp [lnLt, h1, h2, h3, h4]
theorem val_behind {x : Ln} {l : List Ln} (h : ∀ z ∈ l, lnLt x z = true) : lval x.part x.code l = 0 := by
 induction l with
 | nil => rfl
 | cons z r ih =>
  have hz := lnLt_ne (h z (by simp))
  rw [lval, if_neg hz, ih fun q hq => h q (by simp [hq])]; rfl
theorem val_zero {l : List Ln} (hr : Rise l) (hn : NonZ l) (h : ∀ p c, lval p c l = 0) : l = [] := by
 cases l with
 | nil => rfl
 | cons x r =>
  have h1 := h x.part x.code
  obtain ⟨h2, _⟩ := List.pairwise_cons.1 hr
  rw [lval, if_pos ⟨rfl, rfl⟩, val_behind h2] at h1
  exact absurd (by omega) (hn x (by simp))
theorem val_inj : ∀ {a b : List Ln}, Rise a → Rise b → NonZ a → NonZ b → (∀ p c, lval p c a = lval p c b) → a = b := by
 intro a
 induction a with
 | nil => intro b _ hb _ hn h; exact (val_zero hb hn fun p c => (h p c).symm).symm
 | cons x r ih =>
  intro b ha hb hna hnb h
  cases b with
  | nil => exact val_zero ha hna h
  | cons y s =>
   obtain ⟨hx, hr⟩ := List.pairwise_cons.1 ha
   obtain ⟨hy, hs⟩ := List.pairwise_cons.1 hb
   have hxy : lnLt x y = false := by
    cases hl : lnLt x y with
    | false => rfl
    | true =>
     have h1 := h x.part x.code
     rw [lval, if_pos ⟨rfl, rfl⟩, val_behind hx, val_behind (x := x) (l := y :: s) (fun z hz => (List.mem_cons.1 hz).elim (fun e => e ▸ hl) (fun e => lnLt_trans hl (hy z e)))] at h1
     exact absurd (by omega) (hna x (by simp))
   have hyx : lnLt y x = false := by
    cases hl : lnLt y x with
    | false => rfl
    | true =>
     have h1 := h y.part y.code
     rw [val_behind (x := y) (l := x :: r) (fun z hz => (List.mem_cons.1 hz).elim (fun e => e ▸ hl) (fun e => lnLt_trans hl (hx z e))), lval, if_pos ⟨rfl, rfl⟩, val_behind hy] at h1
     exact absurd (by omega) (hnb y (by simp))
   obtain ⟨hp, hc⟩ := lnLt_total hxy hyx
   have hn : x.cents = y.cents := by
    have h1 := h x.part x.code
    rw [lval, if_pos ⟨rfl, rfl⟩, val_behind hx, lval, if_pos ⟨hp.symm, hc.symm⟩, hp, hc, val_behind hy] at h1
    omega
   have hxe : x = y := by cases x; cases y; simp_all
   subst hxe
   rw [ih hr hs (fun z hz => hna z (by simp [hz])) (fun z hz => hnb z (by simp [hz])) fun p c => by have := h p c; simp only [lval] at this; omega]
theorem mergeL_val : ∀ {a b l : List Ln}, mergeL a b = some l → ∀ p c, lval p c l = lval p c a + lval p c b := by
 intro a b
 induction a, b using mergeL.induct with
 | case1 b => intro l h p c; rw [mergeL] at h; cases h; simp [lval]
 | case2 a ha => intro l h p c; rw [mergeL] at h <;> first | (cases h; simp [lval]) | exact ha
 | case3 x a y b hxy ih =>
  intro l h p c
  rw [mergeL, if_pos hxy] at h
  obtain ⟨m, hm, rfl⟩ := Option.map_eq_some_iff.1 h
  have := ih hm p c; simp only [lval] at this ⊢; omega
 | case4 x a y b hxy hyx ih =>
  intro l h p c
  rw [mergeL, if_neg hxy, if_pos hyx] at h
  obtain ⟨m, hm, rfl⟩ := Option.map_eq_some_iff.1 h
  have := ih hm p c; simp only [lval] at this ⊢; omega
 | case5 x a y b hxy hyx hf =>
  intro l h; rw [mergeL, if_neg hxy, if_neg hyx, if_pos hf] at h; cases h
 | case6 x a y b hxy hyx hf hz ih =>
  intro l h p c
  rw [mergeL, if_neg hxy, if_neg hyx, if_neg hf, if_pos hz] at h
  obtain ⟨hp, hc⟩ := lnLt_total (by simpa using hxy) (by simpa using hyx)
  have := ih h p c
  simp only [lval, hp, hc]; split <;> omega
 | case7 x a y b hxy hyx hf hz ih =>
  intro l h p c
  rw [mergeL, if_neg hxy, if_neg hyx, if_neg hf, if_neg hz] at h
  obtain ⟨m, hm, rfl⟩ := Option.map_eq_some_iff.1 h
  obtain ⟨hp, hc⟩ := lnLt_total (by simpa using hxy) (by simpa using hyx)
  have := ih hm p c
  simp only [lval, hp, hc]; split <;> omega
theorem mergeL_keys : ∀ {a b l : List Ln}, mergeL a b = some l → ∀ x ∈ l, ∃ z, (z ∈ a ∨ z ∈ b) ∧ x.part = z.part ∧ x.code = z.code := by
 intro a b
 induction a, b using mergeL.induct with
 | case1 b => intro l h x hx; rw [mergeL] at h; cases h; exact ⟨x, .inr hx, rfl, rfl⟩
 | case2 a ha => intro l h x hx; rw [mergeL] at h <;> first | (cases h; exact ⟨x, .inl hx, rfl, rfl⟩) | exact ha
 | case3 x a y b hxy ih =>
  intro l h q hq
  rw [mergeL, if_pos hxy] at h
  obtain ⟨m, hm, rfl⟩ := Option.map_eq_some_iff.1 h
  rcases List.mem_cons.1 hq with rfl | hq
  ·exact ⟨q, .inl (by simp), rfl, rfl⟩
  ·obtain ⟨z, hz, e⟩ := ih hm q hq
   exact ⟨z, by rcases hz with hz | hz; exact .inl (by simp [hz]); exact .inr hz, e⟩
 | case4 x a y b hxy hyx ih =>
  intro l h q hq
  rw [mergeL, if_neg hxy, if_pos hyx] at h
  obtain ⟨m, hm, rfl⟩ := Option.map_eq_some_iff.1 h
  rcases List.mem_cons.1 hq with rfl | hq
  ·exact ⟨q, .inr (by simp), rfl, rfl⟩
  ·obtain ⟨z, hz, e⟩ := ih hm q hq
   exact ⟨z, by rcases hz with hz | hz; exact .inl hz; exact .inr (by simp [hz]), e⟩
 | case5 x a y b hxy hyx hf =>
  intro l h; rw [mergeL, if_neg hxy, if_neg hyx, if_pos hf] at h; cases h
 | case6 x a y b hxy hyx hf hz ih =>
  intro l h q hq
  rw [mergeL, if_neg hxy, if_neg hyx, if_neg hf, if_pos hz] at h
  obtain ⟨z, hz, e⟩ := ih h q hq
  exact ⟨z, by rcases hz with hz | hz; exact .inl (by simp [hz]); exact .inr (by simp [hz]), e⟩
 | case7 x a y b hxy hyx hf hz ih =>
  intro l h q hq
  rw [mergeL, if_neg hxy, if_neg hyx, if_neg hf, if_neg hz] at h
  obtain ⟨m, hm, rfl⟩ := Option.map_eq_some_iff.1 h
  rcases List.mem_cons.1 hq with rfl | hq
  ·exact ⟨x, .inl (by simp), rfl, rfl⟩
  ·obtain ⟨z, hz, e⟩ := ih hm q hq
   exact ⟨z, by rcases hz with hz | hz; exact .inl (by simp [hz]); exact .inr (by simp [hz]), e⟩
theorem rise_cons {x : Ln} {a b m : List Ln} (hm : mergeL a b = some m) (ha : ∀ z ∈ a, lnLt x z = true) (hb : ∀ z ∈ b, lnLt x z = true) (hr : Rise m) {x' : Ln} (h1 : x'.part = x.part) (h2 : x'.code = x.code) : Rise (x' :: m) := by
 refine List.Pairwise.cons (fun q hq => ?_) hr
 obtain ⟨z, hz, e1, e2⟩ := mergeL_keys hm q hq
 rw [lnLt_key h1 h2 e1 e2]
 rcases hz with hz | hz
 ·exact ha z hz
 ·exact hb z hz
theorem mergeL_rise : ∀ {a b l : List Ln}, mergeL a b = some l → Rise a → Rise b → NonZ a → NonZ b → Rise l ∧ NonZ l := by
 intro a b
 induction a, b using mergeL.induct with
 | case1 b => intro l h _ hb _ hn; rw [mergeL] at h; cases h; exact ⟨hb, hn⟩
 | case2 a ha => intro l h hr _ hn _; rw [mergeL] at h <;> first | (cases h; exact ⟨hr, hn⟩) | exact ha
 | case3 x a y b hxy ih =>
  intro l h ha hb hna hnb
  rw [mergeL, if_pos hxy] at h
  obtain ⟨m, hm, rfl⟩ := Option.map_eq_some_iff.1 h
  obtain ⟨h1, h2⟩ := List.pairwise_cons.1 ha
  obtain ⟨h3, _⟩ := List.pairwise_cons.1 hb
  obtain ⟨i1, i2⟩ := ih hm h2 hb (fun z hz => hna z (by simp [hz])) hnb
  exact ⟨rise_cons hm h1 (fun z hz => (List.mem_cons.1 hz).elim (fun e => e ▸ hxy) (fun e => lnLt_trans hxy (h3 z e))) i1 rfl rfl, fun z hz => (List.mem_cons.1 hz).elim (fun e => e ▸ hna x (by simp)) (fun e => i2 z e)⟩
 | case4 x a y b hxy hyx ih =>
  intro l h ha hb hna hnb
  rw [mergeL, if_neg hxy, if_pos hyx] at h
  obtain ⟨m, hm, rfl⟩ := Option.map_eq_some_iff.1 h
  obtain ⟨h1, h2⟩ := List.pairwise_cons.1 hb
  obtain ⟨h3, _⟩ := List.pairwise_cons.1 ha
  obtain ⟨i1, i2⟩ := ih hm ha h2 hna (fun z hz => hnb z (by simp [hz]))
  exact ⟨rise_cons hm (fun z hz => (List.mem_cons.1 hz).elim (fun e => e ▸ hyx) (fun e => lnLt_trans hyx (h3 z e))) h1 i1 rfl rfl, fun z hz => (List.mem_cons.1 hz).elim (fun e => e ▸ hnb y (by simp)) (fun e => i2 z e)⟩
 | case5 x a y b hxy hyx hf =>
  intro l h; rw [mergeL, if_neg hxy, if_neg hyx, if_pos hf] at h; cases h
 | case6 x a y b hxy hyx hf hz ih =>
  intro l h ha hb hna hnb
  rw [mergeL, if_neg hxy, if_neg hyx, if_neg hf, if_pos hz] at h
  exact ih h (List.pairwise_cons.1 ha).2 (List.pairwise_cons.1 hb).2 (fun z hz => hna z (by simp [hz])) (fun z hz => hnb z (by simp [hz]))
 | case7 x a y b hxy hyx hf hz ih =>
  intro l h ha hb hna hnb
  rw [mergeL, if_neg hxy, if_neg hyx, if_neg hf, if_neg hz] at h
  obtain ⟨m, hm, rfl⟩ := Option.map_eq_some_iff.1 h
  obtain ⟨h1, h2⟩ := List.pairwise_cons.1 ha
  obtain ⟨h3, h4⟩ := List.pairwise_cons.1 hb
  obtain ⟨i1, i2⟩ := ih hm h2 h4 (fun z hz => hna z (by simp [hz])) (fun z hz => hnb z (by simp [hz]))
  obtain ⟨hp, hc⟩ := lnLt_total (by simpa using hxy) (by simpa using hyx)
  exact ⟨rise_cons (x := x) hm h1 (fun z hz => by rw [lnLt_key hp hc (rfl : z.part = z.part) rfl]; exact h3 z hz) i1 rfl rfl, fun z hz' => (List.mem_cons.1 hz').elim (fun e => e ▸ hz) (fun e => i2 z e)⟩
end Wb
end Go.Proofs.YtnefdpnolojojaaGreatDoor
namespace Go.Proofs.YtnefdpnolojojaaGreatDoor
namespace Wb
theorem mergeL_nil_right (a : List Ln) : mergeL a [] = some a := by cases a <;> rw [mergeL]; simp
theorem sumOf_merge {f t : Int} : ∀ {a b l : List Ln}, mergeL a b = some l → sumOf f t l = sumOf f t a + sumOf f t b := by
 intro a b
 induction a, b using mergeL.induct with
 | case1 b => intro l h; rw [mergeL] at h; cases h; simp [sumOf]
 | case2 a ha => intro l h; rw [mergeL] at h <;> first | (cases h; simp [sumOf]) | exact ha
 | case3 x a y b hxy ih =>
  intro l h
  rw [mergeL, if_pos hxy] at h
  obtain ⟨m, hm, rfl⟩ := Option.map_eq_some_iff.1 h
  have := ih hm; simp only [sumOf] at this ⊢; omega
 | case4 x a y b hxy hyx ih =>
  intro l h
  rw [mergeL, if_neg hxy, if_pos hyx] at h
  obtain ⟨m, hm, rfl⟩ := Option.map_eq_some_iff.1 h
  have := ih hm; simp only [sumOf] at this ⊢; omega
 | case5 x a y b hxy hyx hf =>
  intro l h; rw [mergeL, if_neg hxy, if_neg hyx, if_pos hf] at h; cases h
 | case6 x a y b hxy hyx hf hz ih =>
  intro l h
  rw [mergeL, if_neg hxy, if_neg hyx, if_neg hf, if_pos hz] at h
  obtain ⟨hp, hc⟩ := lnLt_total (by simpa using hxy) (by simpa using hyx)
  have := ih h
  simp only [sumOf, hp]; split <;> omega
 | case7 x a y b hxy hyx hf hz ih =>
  intro l h
  rw [mergeL, if_neg hxy, if_neg hyx, if_neg hf, if_neg hz] at h
  obtain ⟨m, hm, rfl⟩ := Option.map_eq_some_iff.1 h
  obtain ⟨hp, hc⟩ := lnLt_total (by simpa using hxy) (by simpa using hyx)
  have := ih hm
  simp only [sumOf, hp]; split <;> omega
end Wb
end Go.Proofs.YtnefdpnolojojaaGreatDoor
namespace Go.Proofs.YtnefdpnolojojaaGreatDoor
namespace Wb
theorem chk_of : ∀ {l : List Ln} {p : Option Ln}, Rise l → (∀ x ∈ l, lineErr x = 0) → (∀ q, p = some q → ∀ x ∈ l, lnLt q x = true) → chk p l = 0 := by
 intro l
 induction l with
 | nil => intro p _ _ _; rfl
 | cons x r ih =>
  intro p hr hl hp
  obtain ⟨h1, h2⟩ := List.pairwise_cons.1 hr
  have hx := hl x (by simp)
  have hn := ih (p := some x) h2 (fun z hz => hl z (by simp [hz])) (fun q hq z hz => by cases hq; exact h1 z hz)
  cases p with
  | none => rw [chk_none hx]; exact hn
  | some q =>
   have hq := hp q rfl x (by simp)
   have hne := lnLt_ne hq
   rw [chk_some hx, if_neg (fun e => hne ⟨e.1.symm, e.2.symm⟩), if_neg (by rw [hq]; simp)]
   exact hn
theorem lineErr_iff {x : Ln} : lineErr x = 0 ↔ 0 ≤ x.part ∧ x.part ≤ 6 ∧ codeOk x.code = true ∧ x.cents ≠ 0 ∧ fits x.cents = true := by
 refine ⟨lineErr_ok, fun ⟨h1, h2, h3, h4, h5⟩ => ?_⟩
 rw [lineErr, if_neg (by omega), if_neg (by rw [h3]; simp), if_neg h4, if_neg (by rw [h5]; simp)]
theorem rise_of {y i : Int} {l : List Ln} (h : check y i l = 0) : Rise l ∧ NonZ l ∧ (∀ x ∈ l, lineErr x = 0) := by
 obtain ⟨_, _, _, _, _, hc, hl⟩ := check_ok h
 exact ⟨(chk_rise hc).1, fun x hx => (lineErr_ok (hl x hx)).2.2.2.1, hl⟩
def neg (l : List Ln) : List Ln := l.map fun x => ⟨x.part, x.code, -x.cents⟩
end Wb
end Go.Proofs.YtnefdpnolojojaaGreatDoor
namespace Go.Proofs.YtnefdpnolojojaaGreatDoor
namespace Wb
theorem sums_cases (y i : Int) (l : List Ln) : (∃ e, e ≠ 0 ∧ sums y i l = (0, 0, 0, 0, e)) ∨ (check y i l = 0 ∧ fits (sumOf 0 0 l) = true ∧ fits (sumOf 1 5 l) = true ∧ fits (sumOf 0 0 l - sumOf 1 5 l) = true ∧ fits (sumOf 6 6 l) = true ∧ sums y i l = (sumOf 0 0 l, sumOf 1 5 l, sumOf 0 0 l - sumOf 1 5 l, sumOf 6 6 l, 0)) := by
 unfold sums
 by_cases h : check y i l ≠ 0
 ·rw [if_pos h]; exact .inl ⟨_, h, rfl⟩
 ·rw [if_neg h]
  split
  ·rename_i h2
   exact .inr ⟨by omega, h2.1, h2.2.1, h2.2.2.1, h2.2.2.2, rfl⟩
  ·exact .inl ⟨9, by decide, rfl⟩
theorem sums_law {y i : Int} {l : List Ln} {g h n f e : Int} (hs : sums y i l = (g, h, n, f, e)) :
  g = h + n ∧ (-1125899906842624 ≤ g ∧ g ≤ 1125899906842624) ∧ (-1125899906842624 ≤ h ∧ h ≤ 1125899906842624) ∧ (-1125899906842624 ≤ n ∧ n ≤ 1125899906842624) ∧ (-1125899906842624 ≤ f ∧ f ≤ 1125899906842624) := by
 rcases sums_cases y i l with ⟨e', _, h'⟩ | ⟨_, h1, h2, h3, h4, h'⟩
 ·rw [h'] at hs; cases hs; omega
 ·rw [h'] at hs; cases hs
  have := (fits_iff _).1 h1; have := (fits_iff _).1 h2; have := (fits_iff _).1 h3; have := (fits_iff _).1 h4
  omega
end Wb
end Go.Proofs.YtnefdpnolojojaaGreatDoor
namespace Go.Proofs.YtnefdpnolojojaaGreatDoor
namespace Wb
def noneB (y i : Int) (l : List Ln) : Bool := (y == 0) && (i == 0) && l.isEmpty
theorem none_iff {y i : Int} {l : List Ln} : noneB y i l = true ↔ y = 0 ∧ i = 0 ∧ l = [] := by simp [noneB, and_assoc]
def wrongE (y i : Int) (l : List Ln) : Int := if noneB y i l = true then 0 else check y i l
theorem wrong_ok {y i : Int} {l : List Ln} (h : wrongE y i l = 0) : Rise l ∧ NonZ l ∧ (∀ x ∈ l, lineErr x = 0) := by
 unfold wrongE at h
 split at h
 ·rename_i hn
  obtain ⟨_, _, rfl⟩ := none_iff.1 hn
  exact ⟨List.Pairwise.nil, (fun x hx => by cases hx), (fun x hx => by cases hx)⟩
 ·exact rise_of h
theorem wrong_some {y i : Int} {l : List Ln} (h : wrongE y i l = 0) (hn : noneB y i l = false) : check y i l = 0 := by
 rw [wrongE, if_neg (by rw [hn]; exact Bool.false_ne_true)] at h; exact h
structure IsDelta (a b r : List Ln) : Prop where
 rise : Rise r
 nonz : NonZ r
 val : ∀ p c, lval p c r = lval p c b - lval p c a
theorem IsDelta.uniq {a b r s : List Ln} (h : IsDelta a b r) (k : IsDelta a b s) : r = s := val_inj h.rise k.rise h.nonz k.nonz fun p c => by rw [h.val, k.val]
theorem lval_neg (p : Int) (c : List UInt8) : ∀ l : List Ln, lval p c (neg l) = -lval p c l
 | [] => rfl
 | x :: r => by
  have := lval_neg p c r
  simp only [neg, List.map_cons, lval] at this ⊢
  rw [this]; split <;> omega
theorem rise_neg {l : List Ln} (h : Rise l) : Rise (neg l) := by
 unfold Rise neg
 exact List.pairwise_map.2 (h.imp fun {a b} hab => by simpa [lnLt] using hab)
theorem IsDelta.turn {a b r : List Ln} (h : IsDelta a b r) : IsDelta b a (neg r) :=
 ⟨rise_neg h.rise, fun x hx => by
  obtain ⟨z, hz, rfl⟩ := List.mem_map.1 hx
  have := h.nonz z hz
  simp only; omega, fun p c => by rw [lval_neg, h.val]; omega⟩
inductive IsOf (y i : Int) (a : List Ln) (y' i' : Int) (b : List Ln) : Int → Int → Int → List Ln → Prop
 | bad1 : wrongE y i a ≠ 0 → IsOf y i a y' i' b (wrongE y i a) 0 0 []
 | bad2 : wrongE y i a = 0 → wrongE y' i' b ≠ 0 → IsOf y i a y' i' b (wrongE y' i' b) 0 0 []
 | state : wrongE y i a = 0 → wrongE y' i' b = 0 → noneB y i a = false → noneB y' i' b = false → (y ≠ y' ∨ i ≠ i') → IsOf y i a y' i' b 18 0 0 []
 | over (r : List Ln) : wrongE y i a = 0 → wrongE y' i' b = 0 → (noneB y i a = true ∨ noneB y' i' b = true ∨ (y = y' ∧ i = i')) → IsDelta a b r → (∃ x ∈ r, fits x.cents = false) → IsOf y i a y' i' b 9 0 0 []
 | many (r : List Ln) : wrongE y i a = 0 → wrongE y' i' b = 0 → (noneB y i a = true ∨ noneB y' i' b = true ∨ (y = y' ∧ i = i')) → IsDelta a b r → (∀ x ∈ r, fits x.cents = true) → 448 < r.length → IsOf y i a y' i' b 5 0 0 []
 | ok (r : List Ln) : wrongE y i a = 0 → wrongE y' i' b = 0 → (noneB y i a = true ∨ noneB y' i' b = true ∨ (y = y' ∧ i = i')) → IsDelta a b r → (∀ x ∈ r, fits x.cents = true) → r.length ≤ 448 →
   IsOf y i a y' i' b 0 (if noneB y' i' b = true then y else y') (if noneB y' i' b = true then i else i') r
theorem IsOf.uniq {y i y' i' : Int} {a b : List Ln} {e Y I f Z J : Int} {r s : List Ln} (h : IsOf y i a y' i' b e Y I r) (k : IsOf y i a y' i' b f Z J s) : e = f ∧ Y = Z ∧ I = J ∧ r = s := by
 have nofit : ∀ {r s : List Ln}, IsDelta a b r → IsDelta a b s → (∃ x ∈ r, fits x.cents = false) → (∀ x ∈ s, fits x.cents = true) → False := by
  intro r s h1 h2 ⟨x, hx, h3⟩ h4
  rw [h1.uniq h2] at hx
  rw [h4 x hx] at h3; cases h3
 cases h with
 | bad1 h1 => cases k <;> first | exact ⟨rfl, rfl, rfl, rfl⟩ | contradiction
 | bad2 h1 h2 => cases k <;> first | exact ⟨rfl, rfl, rfl, rfl⟩ | contradiction
 | state h1 h2 h3 h4 h5 =>
  cases k with
  | state => exact ⟨rfl, rfl, rfl, rfl⟩
  | bad1 k1 => contradiction
  | bad2 _ k2 => contradiction
  | over _ _ _ k3 | many _ _ _ k3 | ok _ _ _ k3 =>
   exfalso
   rcases k3 with q | q | q
   ·rw [h3] at q; cases q
   ·rw [h4] at q; cases q
   ·omega
 | over r h1 h2 h3 h4 h5 =>
  cases k with
  | bad1 k1 => contradiction
  | bad2 _ k2 => contradiction
  | state _ _ k3 k4 k5 =>
   exfalso
   rcases h3 with q | q | q
   ·rw [k3] at q; cases q
   ·rw [k4] at q; cases q
   ·omega
  | over => exact ⟨rfl, rfl, rfl, rfl⟩
  | many s _ _ _ k4 k5 => exact (nofit h4 k4 h5 k5).elim
  | ok s _ _ _ k4 k5 => exact (nofit h4 k4 h5 k5).elim
 | many r h1 h2 h3 h4 h5 h6 =>
  cases k with
  | bad1 k1 => contradiction
  | bad2 _ k2 => contradiction
  | state _ _ k3 k4 k5 =>
   exfalso
   rcases h3 with q | q | q
   ·rw [k3] at q; cases q
   ·rw [k4] at q; cases q
   ·omega
  | over s _ _ _ k4 k5 => exact (nofit k4 h4 k5 h5).elim
  | many => exact ⟨rfl, rfl, rfl, rfl⟩
  | ok s _ _ _ k4 k5 k6 =>
   exfalso
   have := h4.uniq k4
   subst this; omega
 | ok r h1 h2 h3 h4 h5 h6 =>
  cases k with
  | bad1 k1 => contradiction
  | bad2 _ k2 => contradiction
  | state _ _ k3 k4 k5 =>
   exfalso
   rcases h3 with q | q | q
   ·rw [k3] at q; cases q
   ·rw [k4] at q; cases q
   ·omega
  | over s _ _ _ k4 k5 => exact (nofit k4 h4 k5 h5).elim
  | many s _ _ _ k4 k5 k6 =>
   exfalso
   have := h4.uniq k4
   subst this; omega
  | ok s _ _ _ k4 => exact ⟨rfl, rfl, rfl, h4.uniq k4⟩
theorem lval_head {x : Ln} {r : List Ln} (h : Rise (x :: r)) : lval x.part x.code (x :: r) = x.cents := by
 rw [lval, if_pos ⟨rfl, rfl⟩, val_behind (List.pairwise_cons.1 h).1]; omega
theorem lval_mem {l : List Ln} (h : Rise l) {x : Ln} (hx : x ∈ l) : lval x.part x.code l = x.cents := by
 induction l with
 | nil => cases hx
 | cons z r ih =>
  rcases List.mem_cons.1 hx with rfl | hx
  ·exact lval_head h
  ·obtain ⟨h1, h2⟩ := List.pairwise_cons.1 h
   have := lnLt_ne (h1 x hx)
   rw [lval, if_neg (fun ⟨a, b⟩ => this ⟨a.symm, b.symm⟩), ih h2 hx]; omega
theorem lval_none {l : List Ln} {p : Int} {c : List UInt8} (h : ∀ x ∈ l, ¬ (x.part = p ∧ x.code = c)) : lval p c l = 0 := by
 induction l with
 | nil => rfl
 | cons z r ih => rw [lval, if_neg (h z (by simp)), ih fun x hx => h x (by simp [hx])]; rfl
theorem mergeL_some : ∀ {a b : List Ln}, Rise a → Rise b → (∀ p c, fits (lval p c a + lval p c b) = true) → ∃ l, mergeL a b = some l := by
 intro a b
 induction a, b using mergeL.induct with
 | case1 b => intro _ _ _; exact ⟨b, by rw [mergeL]⟩
 | case2 a ha => intro _ _ _; exact ⟨a, by rw [mergeL]; exact ha⟩
 | case3 x a y b hxy ih =>
  intro ra rb h
  obtain ⟨h1, h2⟩ := List.pairwise_cons.1 ra
  obtain ⟨h3, h4⟩ := List.pairwise_cons.1 rb
  obtain ⟨l, hl⟩ := ih h2 rb fun p c => by
   have := h p c
   rw [lval] at this
   by_cases e : x.part = p ∧ x.code = c
   ·obtain ⟨rfl, rfl⟩ := e
    rw [val_behind h1, val_behind (l := y :: b) (fun z hz => (List.mem_cons.1 hz).elim (fun e => e ▸ hxy) fun e => lnLt_trans hxy (h3 z e))]; rfl
   ·rw [if_neg e, Int.zero_add] at this; exact this
  exact ⟨x :: l, by rw [mergeL, if_pos hxy, hl]; rfl⟩
 | case4 x a y b hxy hyx ih =>
  intro ra rb h
  obtain ⟨h1, h2⟩ := List.pairwise_cons.1 ra
  obtain ⟨h3, h4⟩ := List.pairwise_cons.1 rb
  obtain ⟨l, hl⟩ := ih ra h4 fun p c => by
   by_cases e : y.part = p ∧ y.code = c
   ·obtain ⟨rfl, rfl⟩ := e
    rw [val_behind h3, val_behind (l := x :: a) (fun z hz => (List.mem_cons.1 hz).elim (fun e => e ▸ hyx) fun e => lnLt_trans hyx (h1 z e))]; rfl
   ·have h5 : lval p c (y :: b) = lval p c b := by rw [lval, if_neg e, Int.zero_add]
    rw [← h5]; exact h p c
  exact ⟨y :: l, by rw [mergeL, if_neg hxy, if_pos hyx, hl]; rfl⟩
 | case5 x a y b hxy hyx hf =>
  intro ra rb h
  obtain ⟨hp, hc⟩ := lnLt_total (by simpa using hxy) (by simpa using hyx)
  have h1 := h x.part x.code
  rw [lval_head ra, show lval x.part x.code (y :: b) = y.cents by rw [hp, hc]; exact lval_head rb, hf] at h1
  cases h1
 | case6 x a y b hxy hyx hf hz ih =>
  intro ra rb h
  obtain ⟨h1, h2⟩ := List.pairwise_cons.1 ra
  obtain ⟨h3, h4⟩ := List.pairwise_cons.1 rb
  obtain ⟨hp, hc⟩ := lnLt_total (by simpa using hxy) (by simpa using hyx)
  obtain ⟨l, hl⟩ := ih h2 h4 fun p c => by
   have := h p c
   by_cases e : x.part = p ∧ x.code = c
   ·obtain ⟨rfl, rfl⟩ := e
    rw [val_behind h1, show lval x.part x.code b = 0 by rw [hp, hc]; exact val_behind h3]; rfl
   ·rw [lval, lval, if_neg e, if_neg (by rw [← hp, ← hc]; exact e), Int.zero_add, Int.zero_add] at this; exact this
  exact ⟨l, by rw [mergeL, if_neg hxy, if_neg hyx, if_neg hf, if_pos hz, hl]⟩
 | case7 x a y b hxy hyx hf hz ih =>
  intro ra rb h
  obtain ⟨h1, h2⟩ := List.pairwise_cons.1 ra
  obtain ⟨h3, h4⟩ := List.pairwise_cons.1 rb
  obtain ⟨hp, hc⟩ := lnLt_total (by simpa using hxy) (by simpa using hyx)
  obtain ⟨l, hl⟩ := ih h2 h4 fun p c => by
   have := h p c
   by_cases e : x.part = p ∧ x.code = c
   ·obtain ⟨rfl, rfl⟩ := e
    rw [val_behind h1, show lval x.part x.code b = 0 by rw [hp, hc]; exact val_behind h3]; rfl
   ·rw [lval, lval, if_neg e, if_neg (by rw [← hp, ← hc]; exact e), Int.zero_add, Int.zero_add] at this; exact this
  exact ⟨_ :: l, by rw [mergeL, if_neg hxy, if_neg hyx, if_neg hf, if_neg hz, hl]; rfl⟩
end Wb
end Go.Proofs.YtnefdpnolojojaaGreatDoor
namespace Go.Proofs.YtnefdpnolojojaaGreatDoor
namespace Wb
def putL : List Ln → Ln → List Ln
 | [], x => [x]
 | z :: r, x => if lnLt z x = true then z :: putL r x else if z.part = x.part ∧ z.code = x.code then z :: r else x :: z :: r
theorem mem_put : ∀ {l : List Ln} {y x : Ln}, x ∈ putL l y → x = y ∨ x ∈ l
 | [], y, x, h => by simp [putL] at h; exact .inl h
 | z :: r, y, x, h => by
  rw [putL] at h
  split at h
  ·rcases List.mem_cons.1 h with rfl | h
   ·exact .inr (by simp)
   ·rcases mem_put h with e | e
    ·exact .inl e
    ·exact .inr (by simp [e])
  ·split at h
   ·exact .inr h
   ·rcases List.mem_cons.1 h with rfl | h
    ·exact .inl rfl
    ·exact .inr h
theorem put_mem : ∀ {l : List Ln} {y x : Ln}, x ∈ l → x ∈ putL l y
 | z :: r, y, x, h => by
  rw [putL]
  split
  ·rcases List.mem_cons.1 h with rfl | h
   ·simp
   ·simp [put_mem h]
  ·split
   ·exact h
   ·simp [List.mem_cons.1 h]
theorem put_has : ∀ (l : List Ln) (y : Ln), ∃ x ∈ putL l y, x.part = y.part ∧ x.code = y.code
 | [], y => ⟨y, by simp [putL], rfl, rfl⟩
 | z :: r, y => by
  rw [putL]
  split
  ·obtain ⟨x, hx, e⟩ := put_has r y
   exact ⟨x, by simp [hx], e⟩
  ·split
   ·rename_i h; exact ⟨z, by simp, h⟩
   ·exact ⟨y, by simp, rfl, rfl⟩
theorem rise_put : ∀ {l : List Ln} (y : Ln), Rise l → Rise (putL l y)
 | [], y, _ => by simp [putL, Rise]
 | z :: r, y, h => by
  obtain ⟨h1, h2⟩ := List.pairwise_cons.1 h
  rw [putL]
  split
  ·rename_i hzy
   refine List.pairwise_cons.2 ⟨fun u hu => ?_, rise_put y h2⟩
   rcases mem_put hu with rfl | hu
   ·exact hzy
   ·exact h1 u hu
  ·split
   ·exact h
   ·rename_i hzy hs
    have hyz : lnLt y z = true := by
     rcases hq : lnLt y z with _ | _
     ·exact absurd (lnLt_total (by simpa using hzy) hq) hs
     ·rfl
    refine List.pairwise_cons.2 ⟨fun u hu => ?_, h⟩
    rcases List.mem_cons.1 hu with rfl | hu
    ·exact hyz
    ·exact lnLt_trans hyz (h1 u hu)
def dv (a b : List Ln) (z : Ln) : Int := lval z.part z.code b - lval z.part z.code a
def dStep (a b r : List Ln) (z : Ln) : List Ln := if dv a b z = 0 then r else putL r ⟨z.part, z.code, dv a b z⟩
def deltaL (a b : List Ln) : List Ln := (a ++ b).foldl (dStep a b) []
structure SoD (a b p r : List Ln) : Prop where
 rise : Rise r
 ok : ∀ x ∈ r, x.cents = dv a b x ∧ x.cents ≠ 0
 all : ∀ z ∈ p, dv a b z ≠ 0 → ∃ x ∈ r, x.part = z.part ∧ x.code = z.code
theorem soD_nil (a b : List Ln) : SoD a b [] [] := ⟨List.Pairwise.nil, (fun x hx => by cases hx), (fun x hx => by cases hx)⟩
theorem soD_step {a b p r : List Ln} (h : SoD a b p r) (z : Ln) : SoD a b (p ++ [z]) (dStep a b r z) := by
 unfold dStep
 by_cases hz : dv a b z = 0
 ·rw [if_pos hz]
  refine ⟨h.rise, h.ok, fun x hx hn => ?_⟩
  rcases List.mem_append.1 hx with q | q
  ·exact h.all x q hn
  ·simp at q; subst q; exact absurd hz hn
 ·rw [if_neg hz]
  refine ⟨rise_put _ h.rise, fun x hx => ?_, fun x hx hn => ?_⟩
  ·rcases mem_put hx with rfl | q
   ·exact ⟨rfl, hz⟩
   ·exact h.ok x q
  ·rcases List.mem_append.1 hx with q | q
   ·obtain ⟨u, hu, e⟩ := h.all x q hn
    exact ⟨u, put_mem hu, e⟩
   ·simp at q; subst q; exact put_has _ _
theorem soD_fold {a b : List Ln} : ∀ (q p r : List Ln), SoD a b p r → SoD a b (p ++ q) (q.foldl (dStep a b) r)
 | [], p, r, h => by simpa using h
 | z :: q, p, r, h => by
  have := soD_fold q (p ++ [z]) _ (soD_step h z)
  simpa using this
theorem soD_end {a b p r : List Ln} (h : SoD a b p r) (hp : ∀ z, z ∈ a ∨ z ∈ b → z ∈ p) : IsDelta a b r := by
 refine ⟨h.rise, fun x hx => (h.ok x hx).2, fun p' c => ?_⟩
 by_cases hz : lval p' c b - lval p' c a = 0
 ·rw [hz]
  refine lval_none fun x hx e => ?_
  obtain ⟨h1, h2⟩ := h.ok x hx
  rw [dv, e.1, e.2, hz] at h1
  exact h2 h1
 ·have hk : ∃ z, (z ∈ a ∨ z ∈ b) ∧ z.part = p' ∧ z.code = c := by
   by_cases h1 : ∃ x ∈ b, x.part = p' ∧ x.code = c
   ·obtain ⟨x, hx, e⟩ := h1; exact ⟨x, .inr hx, e⟩
   ·by_cases h2 : ∃ x ∈ a, x.part = p' ∧ x.code = c
    ·obtain ⟨x, hx, e⟩ := h2; exact ⟨x, .inl hx, e⟩
    ·exfalso; apply hz
     rw [lval_none fun x hx e => h1 ⟨x, hx, e⟩, lval_none fun x hx e => h2 ⟨x, hx, e⟩]; rfl
  obtain ⟨z, hm, rfl, rfl⟩ := hk
  obtain ⟨x, hx, e1, e2⟩ := h.all z (hp z hm) hz
  have := lval_mem h.rise hx
  rw [e1, e2] at this
  rw [this, (h.ok x hx).1, dv, e1, e2]
theorem delta_is (a b : List Ln) : IsDelta a b (deltaL a b) :=
 soD_end (soD_fold (a ++ b) [] [] (soD_nil a b)) (fun z h => by simpa using h)
theorem delta_key {a b r : List Ln} (h : IsDelta a b r) {x : Ln} (hx : x ∈ r) : x.cents = dv a b x ∧ ∃ z ∈ a ++ b, z.part = x.part ∧ z.code = x.code := by
 have h1 := lval_mem h.rise hx
 have h2 := h.val x.part x.code
 have h3 := h.nonz x hx
 refine ⟨by rw [dv, ← h2, h1], ?_⟩
 by_cases hb : ∃ z ∈ b, z.part = x.part ∧ z.code = x.code
 ·obtain ⟨z, hz, e⟩ := hb; exact ⟨z, by simp [hz], e⟩
 ·by_cases ha : ∃ z ∈ a, z.part = x.part ∧ z.code = x.code
  ·obtain ⟨z, hz, e⟩ := ha; exact ⟨z, by simp [hz], e⟩
  ·exfalso
   rw [h1, lval_none fun z hz e => hb ⟨z, hz, e⟩, lval_none fun z hz e => ha ⟨z, hz, e⟩] at h2
   exact h3 h2
end Wb
end Go.Proofs.YtnefdpnolojojaaGreatDoor
namespace Go.Proofs.YtnefdpnolojojaaGreatDoor
namespace Wb
def ofF (y i : Int) (a : List Ln) (y' i' : Int) (b : List Ln) : Int × Int × Int × List Ln :=
 if wrongE y i a ≠ 0 then (wrongE y i a, 0, 0, [])
 else if wrongE y' i' b ≠ 0 then (wrongE y' i' b, 0, 0, [])
 else if noneB y i a = false ∧ noneB y' i' b = false ∧ (y ≠ y' ∨ i ≠ i') then (18, 0, 0, [])
 else if (deltaL a b).any (fun x => !fits x.cents) = true then (9, 0, 0, [])
 else if 448 < (deltaL a b).length then (5, 0, 0, [])
 else (0, if noneB y' i' b = true then y else y', if noneB y' i' b = true then i else i', deltaL a b)
theorem ofF_is (y i : Int) (a : List Ln) (y' i' : Int) (b : List Ln) : IsOf y i a y' i' b (ofF y i a y' i' b).1 (ofF y i a y' i' b).2.1 (ofF y i a y' i' b).2.2.1 (ofF y i a y' i' b).2.2.2 := by
 unfold ofF
 split
 ·rename_i h; exact .bad1 h
 ·rename_i h1
  have h1 : wrongE y i a = 0 := by omega
  split
  ·rename_i h; exact .bad2 h1 h
  ·rename_i h2
   have h2 : wrongE y' i' b = 0 := by omega
   split
   ·rename_i h; exact .state h1 h2 h.1 h.2.1 h.2.2
   ·rename_i h3
    have h3 : noneB y i a = true ∨ noneB y' i' b = true ∨ (y = y' ∧ i = i') := by
     rcases hn : noneB y i a with _ | _
     ·rcases hm : noneB y' i' b with _ | _
      ·refine .inr (.inr ?_)
       have : ¬ (y ≠ y' ∨ i ≠ i') := fun q => h3 ⟨hn, hm, q⟩
       omega
      ·exact .inr (.inl rfl)
     ·exact .inl rfl
    split
    ·rename_i h
     exact .over _ h1 h2 h3 (delta_is a b) (by simpa using h)
    ·rename_i h4
     have h4 : ∀ x ∈ deltaL a b, fits x.cents = true := by simpa using h4
     split
     ·rename_i h; exact .many _ h1 h2 h3 (delta_is a b) h4 h
     ·rename_i h; exact .ok _ h1 h2 h3 (delta_is a b) h4 (Nat.le_of_not_lt h)
theorem of_eq {y i y' i' E Y I : Int} {a b r : List Ln} (h : IsOf y i a y' i' b E Y I r) : ofF y i a y' i' b = (E, Y, I, r) := by
 obtain ⟨h1, h2, h3, h4⟩ := (ofF_is y i a y' i' b).uniq h
 rcases hf : ofF y i a y' i' b with ⟨e, p, q, l⟩
 rw [hf] at h1 h2 h3 h4
 simp only at h1 h2 h3 h4
 rw [h1, h2, h3, h4]
structure OfOk (y i : Int) (a : List Ln) (y' i' : Int) (b : List Ln) (Y I : Int) (r : List Ln) : Prop where
 wa : wrongE y i a = 0
 wb : wrongE y' i' b = 0
 per : noneB y i a = true ∨ noneB y' i' b = true ∨ (y = y' ∧ i = i')
 del : IsDelta a b r
 fit : ∀ x ∈ r, fits x.cents = true
 few : r.length ≤ 448
 hy : Y = if noneB y' i' b = true then y else y'
 hi : I = if noneB y' i' b = true then i else i'
theorem of_ok {y i y' i' Y I : Int} {a b r : List Ln} (h : IsOf y i a y' i' b 0 Y I r) : OfOk y i a y' i' b Y I r := by
 generalize he : (0 : Int) = E at h
 cases h with
 | bad1 h1 => exact absurd he.symm h1
 | bad2 _ h1 => exact absurd he.symm h1
 | state => cases he
 | over => cases he
 | many => cases he
 | ok r h1 h2 h3 h4 h5 h6 => exact ⟨h1, h2, h3, h4, h5, h6, rfl, rfl⟩
theorem delta_right {a b r : List Ln} (h : IsDelta a b r) (ha : ∀ x ∈ a, lineErr x = 0) (hb : ∀ x ∈ b, lineErr x = 0) (hf : ∀ x ∈ r, fits x.cents = true) : ∀ x ∈ r, lineErr x = 0 := fun x hx => by
 obtain ⟨_, z, hz, e1, e2⟩ := delta_key h hx
 have hk : lineErr z = 0 := (List.mem_append.1 hz).elim (ha z) (hb z)
 obtain ⟨k1, k2, k3, _, _⟩ := lineErr_iff.1 hk
 exact lineErr_iff.2 ⟨by rw [← e1]; exact k1, by rw [← e1]; exact k2, by rw [← e2]; exact k3, h.nonz x hx, hf x hx⟩
theorem check_of {Y I : Int} {r : List Ln} (hy : 1900 ≤ Y ∧ Y ≤ 2199 ∧ 1 ≤ I ∧ I ≤ 400) (hr : Rise r) (hl : ∀ x ∈ r, lineErr x = 0) (hn : r.length ≤ 448) : check Y I r = 0 := by
 unfold check
 rw [if_neg (by omega), if_neg (by omega)]
 exact chk_of hr hl (fun q e => by cases e)
theorem ok_years {y i : Int} {l : List Ln} (h : check y i l = 0) : 1900 ≤ y ∧ y ≤ 2199 ∧ 1 ≤ i ∧ i ≤ 400 := by
 obtain ⟨h1, h2, h3, h4, _⟩ := check_ok h
 omega
end Wb
end Go.Proofs.YtnefdpnolojojaaGreatDoor
namespace Go.Proofs.YtnefdpnolojojaaGreatDoor
namespace Wb
structure Sl where
 y : Int
 i : Int
 v : Value
 l : List Ln
def netF : Int → List Sl → Int × Int
 | acc, [] => (acc, 0)
 | acc, s :: r => if noneB s.y s.i s.l = true then netF acc r
  else if (sums s.y s.i s.l).2.2.2.2 ≠ 0 then (0, (sums s.y s.i s.l).2.2.2.2)
  else if fits (acc + (sums s.y s.i s.l).2.2.1) = false then (0, 9) else netF (acc + (sums s.y s.i s.l).2.2.1) r
end Wb
end Go.Proofs.YtnefdpnolojojaaGreatDoor
