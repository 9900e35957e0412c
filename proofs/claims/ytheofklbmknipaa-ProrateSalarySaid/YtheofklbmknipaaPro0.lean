/- Plain facts for chapter 20 on values: what the program's and the reference's functions yield; pieces. -/
import Derived.Test.YtheofklbmknipaaPlain20
import Derived.Test.YtheofklbmknipaaCents
import Derived.Test.YtheofklbmknipaaSpn1
import Derived.Deep.RegionHeld3
import Derived.Deep.DeepCutAuto
namespace Go.Proofs.Ytheofklbmknipaa
open Go.RowKit Go.Lib
set_option maxRecDepth 8000
attribute [local go_sem ↓] Go.wp_at_zero Go.wp_at_succ

def hourlyR (y k : Int) : Int × Int := if Wb.fits y = false then (0, 2) else if k = 0 then (0, 22) else if k < 0 ∨ 10080 < k then (0, 2) else Wb.partR y 60 (52 * k)
/-- a period, flat -/
abbrev PeV (y ix o : Int) (s : Wb.Sp) (pay : Int) : Value := .agg #[.int .i64 y, .int .i64 ix, .int .i64 o, .int .i64 s.1, .int .i64 s.2, .int .i64 pay]
/-- one less, in 64 bits -/
def less1 (ix : Int) : Int := if ix = -9223372036854775808 then 9223372036854775807 else ix - 1
def perR (ix o c : Int) : Int × Int := Wb.betw c (less1 ix) ix o
def lossR (s : Wb.Sp) (sal m lost paid : Int) : Int × Int :=
  if Wb.fits sal = false then (0, 2) else if m < 0 ∨ 1440 * min (lenS s) 366 < m then (0, 2) else if lost < 0 ∨ m < lost then (0, 2)
  else if paid < 0 ∨ 1000000 < paid then (0, 2) else if m = 0 then (0, 0) else Wb.partR sal (lost * (1000000 - paid)) (m * 1000000)
theorem region_start {P : Program} {Q : Exit → Act → World → Prop} {S : World → Prop} {id : Nat} {ops : Array Oper} {a : Act} {w : World} {n : Nat} {l : Array Bool} (hm : P.follows .mixedOrders = true) (hS : S w.drew) (hn : ops.size = n) (hl : Array.replicate n false = l)
    (h : S w.drew → wpAnyH P .any ops Q S n l a w.drew) : (Code.region id ops true).wp P Q a w := wp_region_held_drew hm hS fun hh => by
  subst hl; subst hn; exact h hh
theorem atK {K : Act → World → Prop} {a : Act} {w : World} (h : ∀ w', w' = w → K a w') : K a w := h w rfl

/-! ### plain: pieces -/
/-- a piece: its days, the year's amount, its part -/
structure Pc where
  d : Wb.Sp
  y : Int
  part : Int
abbrev PcV (x : Pc) : Value := .agg #[.int .i64 x.d.1, .int .i64 x.d.2, .int .i64 x.y, .int .i64 x.part]
def pcc (x : Pc) : List Value := [.int .i64 x.d.1, .int .i64 x.d.2, .int .i64 x.y, .int .i64 x.part]
theorem pcc_len (x : Pc) : (pcc x).length = 4 := rfl
/-- what a piece comes to -/
def pcR (ix o : Int) (s : Wb.Sp) (x : Pc) : Int × Int :=
  if (Wb.ofR x.y x.part).2 ≠ 0 then (0, (Wb.ofR x.y x.part).2)
  else if (perR ix o (Wb.ofR x.y x.part).1).2 ≠ 0 then (0, (perR ix o (Wb.ofR x.y x.part).1).2)
  else Wb.betw (perR ix o (Wb.ofR x.y x.part).1).1 (x.d.1 - s.1) (x.d.2 - s.1) (lenS s)
/-- are a piece's days the period's? -/
def inP (s d : Wb.Sp) : Bool := decide (d.1 < d.2) && decide (s.1 ≤ d.1) && decide (d.2 ≤ s.2) && decide (s.2 - s.1 ≤ 366)
theorem inP_iff {s d : Wb.Sp} : inP s d = true ↔ d.1 < d.2 ∧ s.1 ≤ d.1 ∧ d.2 ≤ s.2 ∧ s.2 - s.1 ≤ 366 := by simp [inP, and_assoc]
def meetB (a b : Wb.Sp) : Bool := decide (a.1 < b.2) && decide (b.1 < a.2)
theorem meetB_iff {a b : Wb.Sp} : meetB a b = true ↔ a.1 < b.2 ∧ b.1 < a.2 := by simp [meetB]
/-- what pieces come to, behind some: the sum, the error -/
def salR (ix o : Int) (s : Wb.Sp) : List Pc → Int → List Pc → Int × Int
  | _, sum, [] => (sum, 0)
  | ah, sum, x :: r => if inP s x.d = false then (0, 24) else if ah.any (fun z => meetB x.d z.d) = true then (0, 16)
    else if (pcR ix o s x).2 ≠ 0 then (0, (pcR ix o s x).2)
    else if (Wb.told sum (pcR ix o s x).1 (sum + (pcR ix o s x).1)).2 ≠ 0 then (0, (Wb.told sum (pcR ix o s x).1 (sum + (pcR ix o s x).1)).2)
    else salR ix o s (ah ++ [x]) (Wb.told sum (pcR ix o s x).1 (sum + (pcR ix o s x).1)).1 r
def salaryR (ix o : Int) (s : Wb.Sp) (l : List Pc) : Int × Int := if 64 < l.length then (0, 5) else salR ix o s [] 0 l
theorem sal_out {ix o : Int} {s : Wb.Sp} {ah r : List Pc} {sum : Int} {x : Pc} (h : inP s x.d = false) : salR ix o s ah sum (x :: r) = (0, 24) := by rw [salR, if_pos h]
theorem sal_cross {ix o : Int} {s : Wb.Sp} {ah r : List Pc} {sum : Int} {x : Pc} (h : inP s x.d = true) (h2 : ah.any (fun z => meetB x.d z.d) = true) : salR ix o s ah sum (x :: r) = (0, 16) := by
  rw [salR, if_neg (by rw [h]; decide), if_pos h2]
theorem sal_bad {ix o : Int} {s : Wb.Sp} {ah r : List Pc} {sum c e : Int} {x : Pc} (h : inP s x.d = true) (h2 : ah.any (fun z => meetB x.d z.d) = false) (h3 : pcR ix o s x = (c, e)) (h4 : e ≠ 0) : salR ix o s ah sum (x :: r) = (0, e) := by
  rw [salR, if_neg (by rw [h]; decide), if_neg (by rw [h2]; decide), h3, if_pos h4]
theorem sal_over {ix o : Int} {s : Wb.Sp} {ah r : List Pc} {sum c c2 e : Int} {x : Pc} (h : inP s x.d = true) (h2 : ah.any (fun z => meetB x.d z.d) = false) (h3 : pcR ix o s x = (c, 0)) (h4 : Wb.told sum c (sum + c) = (c2, e)) (h5 : e ≠ 0) : salR ix o s ah sum (x :: r) = (0, e) := by
  rw [salR, if_neg (by rw [h]; decide), if_neg (by rw [h2]; decide), h3, if_neg (by simp), h4, if_pos h5]
theorem sal_more {ix o : Int} {s : Wb.Sp} {ah r : List Pc} {sum c c2 : Int} {x : Pc} (h : inP s x.d = true) (h2 : ah.any (fun z => meetB x.d z.d) = false) (h3 : pcR ix o s x = (c, 0)) (h4 : Wb.told sum c (sum + c) = (c2, 0)) : salR ix o s ah sum (x :: r) = salR ix o s (ah ++ [x]) c2 r := by
  rw [salR, if_neg (by rw [h]; decide), if_neg (by rw [h2]; decide), h3, if_neg (by simp), h4, if_neg (by simp)]
theorem drop_at {α : Type} {l : List α} {k : Nat} {x : α} (h : l[k]? = some x) : l.drop k = x :: l.drop (k + 1) := by
  obtain ⟨h1, rfl⟩ := List.getElem?_eq_some_iff.1 h
  exact List.drop_eq_getElem_cons h1
theorem take_at {α : Type} {l : List α} {k : Nat} {x : α} (h : l[k]? = some x) : l.take (k + 1) = l.take k ++ [x] := by
  obtain ⟨h1, rfl⟩ := List.getElem?_eq_some_iff.1 h
  exact List.take_succ_eq_append_getElem h1


end Go.Proofs.Ytheofklbmknipaa
