/- MDa -/
import Derived.Test.YtnefdpnolojojaaGreatDoorMSl
import Derived.Test.YtnefdpnolojojaaGreatDoorMPl
import Derived.Test.YtnefdpnolojojaaGreatDoorMTb
import Derived.Sort.Grow
import Derived.Deep.DrawnRows
import Derived.Deep.Cut
import Derived.RegionTactic
namespace Go.Proofs.YtnefdpnolojojaaGreatDoor
open Go.RowKit Go.Sort
set_option maxRecDepth 8000
attribute [local go_sem ↓] Go.wp_at_zero Go.wp_at_succ
theorem take_d {P : Program} {ops : Array Oper} {Q : Exit → Act → World → Prop} {md : Region.Mode} {S : World → Prop} {i d : Nat} {oi : Oper} {v : Value} {fuel : Nat} {listed : Array Bool} {a : Act} {w : World} (hi : ops[i]? = some oi) (hd : oi.dst = some d)
  (hs : Region.noSelect ops = true) (hf : Region.free md ops listed i = true) (hr : (Region.ready md ops listed).contains i = true)
  (hQ : ∀ c a w, Q (.panic c) (a.put (some d) v) w → Q (.panic c) a w) (hy : YieldsIf P ops S oi v a) (hS : S w)
  (h : wpAnyH P md ops Q S fuel (listed.setIfInBounds i true) (a.put (some d) v) w) : wpAnyH P md ops Q S (fuel + 1) listed a w := by
 rw [← hd] at hQ h
 exact wpAnyH_take hi hs hf hr hQ hy hS h
theorem region_start {P : Program} {Q : Exit → Act → World → Prop} {S : World → Prop} {id : Nat} {ops : Array Oper} {a : Act} {w : World} {n : Nat} {l : Array Bool} (hm : P.follows .mixedOrders = true) (hS : S w.drew) (hn : ops.size = n) (hl : Array.replicate n false = l)
  (h : S w.drew → wpAnyH P .any ops Q S n l a w.drew) : (Code.region id ops true).wp P Q a w := wp_region_held_drew hm hS fun hh => by
 subst hl; subst hn; exact h hh
theorem atK {K : Act → World → Prop} {a : Act} {w : World} (h : ∀ w', w' = w → K a w') : K a w := h w rfl
abbrev SlV (y i : Int) (v : Value) : Value := .agg #[.int .i64 y, .int .i64 i, v]
theorem dnone_any (y i : Int) (v : Value) (l : List Wb.Ln) (w : World) (hl : Lns w v l) :
  Calls Tryz.prog 69 #[SlV y i v] w fun e w' => e = .returned (.bool (Wb.noneB y i l)) ∧ Wb.Ext w w' := by
 obtain ⟨a, c, rfl⟩ := hl.shape
 clear hl
 by_cases h1 : y = 0
 ·subst h1
  by_cases h2 : i = 0
  ·subst h2
   cases l with
   | nil =>
    go_enter Tryz.func69, Tryz.ntmps69
    go_wp2
    go_ret
    exact ⟨rfl, by (repeat' (first | (with_reducible assumption) | (with_reducible exact Wb.Ext.refl _) | (with_reducible refine Wb.Ext.drew ?_) | (with_reducible refine Wb.Ext.drewN ?_ _) | (with_reducible refine Wb.Ext.alloc ?_ _) | (with_reducible refine Wb.Ext.trans ?_ (by assumption))))⟩
   | cons x r =>
    have HN := Lib.hid (show Wb.noneB 0 0 (x :: r) = false from rfl)
    have d : (((x :: r).length : Int) == 0) = false := by simp; omega
    generalize (x :: r).length = n at d ⊢
    go_enter Tryz.func69, Tryz.ntmps69
    go_wp2
    go_ret
    exact ⟨Wb.ret_bool HN.out.symm, by (repeat' (first | (with_reducible assumption) | (with_reducible exact Wb.Ext.refl _) | (with_reducible refine Wb.Ext.drew ?_) | (with_reducible refine Wb.Ext.drewN ?_ _) | (with_reducible refine Wb.Ext.alloc ?_ _) | (with_reducible refine Wb.Ext.trans ?_ (by assumption))))⟩
  ·have d : (i == 0) = false := by simpa using h2
   have HN := Lib.hid (show Wb.noneB 0 i l = false by simp [Wb.noneB, h2])
   go_enter Tryz.func69, Tryz.ntmps69
   go_wp2
   go_ret
   exact ⟨Wb.ret_bool HN.out.symm, by (repeat' (first | (with_reducible assumption) | (with_reducible exact Wb.Ext.refl _) | (with_reducible refine Wb.Ext.drew ?_) | (with_reducible refine Wb.Ext.drewN ?_ _) | (with_reducible refine Wb.Ext.alloc ?_ _) | (with_reducible refine Wb.Ext.trans ?_ (by assumption))))⟩
 ·have d : (y == 0) = false := by simpa using h1
  have HN := Lib.hid (show Wb.noneB y i l = false by simp [Wb.noneB, h1])
  go_enter Tryz.func69, Tryz.ntmps69
  go_wp2
  go_ret
  exact ⟨Wb.ret_bool HN.out.symm, by (repeat' (first | (with_reducible assumption) | (with_reducible exact Wb.Ext.refl _) | (with_reducible refine Wb.Ext.drew ?_) | (with_reducible refine Wb.Ext.drewN ?_ _) | (with_reducible refine Wb.Ext.alloc ?_ _) | (with_reducible refine Wb.Ext.trans ?_ (by assumption))))⟩
theorem dwrong_any (y i : Int) (v : Value) (l : List Wb.Ln) (w : World) (hl : Lns w v l) (hs : Sized l) :
  Calls Tryz.prog 68 #[SlV y i v] w fun e w' => e = .returned (.int .i64 (Wb.wrongE y i l)) ∧ Wb.Ext w w' := by
 obtain ⟨a, c, rfl⟩ := hl.shape
 have HL := Lib.hid hl
 have HS := Lib.hid hs
 clear hl hs
 obtain ⟨b, hb⟩ : ∃ b, Wb.noneB y i l = b := ⟨_, rfl⟩
 have HB := Lib.hid hb
 have HW := Lib.hid (show Wb.wrongE y i l = if b = true then 0 else Wb.check y i l by rw [Wb.wrongE, hb])
 clear hb
 go_enter Tryz.func68, Tryz.ntmps68
 go_wp2_with fail
 go_fit (dnone_any y i _ l _ (HL.out.ext (by (repeat' (first | (with_reducible assumption) | (with_reducible exact Wb.Ext.refl _) | (with_reducible refine Wb.Ext.drew ?_) | (with_reducible refine Wb.Ext.drewN ?_ _) | (with_reducible refine Wb.Ext.alloc ?_ _) | (with_reducible refine Wb.Ext.trans ?_ (by assumption))))))); rintro e w1 ⟨rfl, hb1⟩
 rw [HB.out]
 have c0 : w1.cell? ⟨w.heap.size, 0, none⟩ = some (.int .i64 y) := hb1.keep (by simp [go_sem])
 have c1 : w1.cell? ⟨w.heap.size, 1, none⟩ = some (.int .i64 i) := hb1.keep (by simp [go_sem])
 have c2 : w1.cell? ⟨w.heap.size, 2, none⟩ = some (.slice a l.length c) := hb1.keep (by simp [go_sem])
 have hx1 : Wb.Ext w w1 := by (repeat' (first | (with_reducible assumption) | (with_reducible exact Wb.Ext.refl _) | (with_reducible refine Wb.Ext.drew ?_) | (with_reducible refine Wb.Ext.drewN ?_ _) | (with_reducible refine Wb.Ext.alloc ?_ _) | (with_reducible refine Wb.Ext.trans ?_ (by assumption))))
 cases b
 ·go_wp2_with fail
  go_fit (check_any y i _ l _ (HL.out.ext hx1) HS.out); rintro e w2 ⟨rfl, hb2⟩
  go_wp2
  go_ret
  exact ⟨Wb.ret_int (by rw [HW.out]; rfl), hx1.trans hb2⟩
 ·go_wp2
  go_ret
  exact ⟨Wb.ret_int (by rw [HW.out]; rfl), hx1⟩
def cmpI (a b : Int) : Int := if a < b then -1 else if b < a then 1 else 0
def cmpB (a b : List UInt8) : Int := if Op.bytesLess a b = true then -1 else if Op.bytesLess b a = true then 1 else 0
theorem isnani_any (a : Int) (w : World) : Calls Tryz.prog 120 #[.int .i64 a] w fun e w' => e = .returned (.bool false) ∧ w = w' := by
 go_enter Tryz.func120, Tryz.ntmps120
 go_wp2
 go_ret
 exact ⟨rfl, rfl⟩
theorem isnans_any (a : List UInt8) (w : World) : Calls Tryz.prog 122 #[.string (Wb.S a)] w fun e w' => e = .returned (.bool false) ∧ w = w' := by
 go_enter Tryz.func122, Tryz.ntmps122
 go_wp2
 go_ret
 exact ⟨rfl, rfl⟩
theorem cmpi_any (a b : Int) (w : World) : Calls Tryz.prog 99 #[.int .i64 a, .int .i64 b] w fun e w' => e = .returned (.int .i64 (cmpI a b)) ∧ w = w' := by
 by_cases h1 : a < b
 ·have H := Lib.hid (show cmpI a b = -1 from if_pos h1)
  go_enter Tryz.func99, Tryz.ntmps99
  go_wp2_with fail
  go_fit (isnani_any a _); rintro e w' ⟨rfl, rfl⟩
  go_wp2_with fail
  go_fit (isnani_any b _); rintro e w' ⟨rfl, rfl⟩
  go_wp2
  go_ret
  exact ⟨Wb.ret_int H.out.symm, rfl⟩
 ·have d1 : decide (a < b) = false := by simpa using h1
  by_cases h2 : b < a
  ·have H := Lib.hid (show cmpI a b = 1 by rw [cmpI, if_neg h1, if_pos h2])
   go_enter Tryz.func99, Tryz.ntmps99
   go_wp2_with fail
   go_fit (isnani_any a _); rintro e w' ⟨rfl, rfl⟩
   go_wp2_with fail
   go_fit (isnani_any b _); rintro e w' ⟨rfl, rfl⟩
   go_wp2
   go_ret
   exact ⟨Wb.ret_int H.out.symm, rfl⟩
  ·have d2 : decide (b < a) = false := by simpa using h2
   have H := Lib.hid (show cmpI a b = 0 by rw [cmpI, if_neg h1, if_neg h2])
   go_enter Tryz.func99, Tryz.ntmps99
   go_wp2_with fail
   go_fit (isnani_any a _); rintro e w' ⟨rfl, rfl⟩
   go_wp2_with fail
   go_fit (isnani_any b _); rintro e w' ⟨rfl, rfl⟩
   go_wp2
   go_ret
   exact ⟨Wb.ret_int H.out.symm, rfl⟩
theorem cmps_any (a b : List UInt8) (w : World) : Calls Tryz.prog 103 #[.string (Wb.S a), .string (Wb.S b)] w fun e w' => e = .returned (.int .i64 (cmpB a b)) ∧ w = w' := by
 obtain ⟨p, hp⟩ : ∃ p, Op.bytesLess a b = p := ⟨_, rfl⟩
 obtain ⟨q, hq⟩ : ∃ q, Op.bytesLess b a = q := ⟨_, rfl⟩
 have H := Lib.hid (show cmpB a b = if p = true then -1 else if q = true then 1 else 0 by rw [cmpB, hp, hq])
 cases p
 ·have hab : (a == b) = !q := by have := Wb.bgt b a; rw [hp, hq] at this; cases q <;> simpa using this
  clear hq
  cases q <;> (
   (try simp only [Bool.not_true, Bool.not_false] at hab)
   go_enter Tryz.func103, Tryz.ntmps103
   go_wp2_with fail
   go_fit (isnans_any a _); rintro e w' ⟨rfl, rfl⟩
   go_wp2_with fail
   go_fit (isnans_any b _); rintro e w' ⟨rfl, rfl⟩
   go_wp2
   go_ret
   exact ⟨Wb.ret_int (by rw [H.out]; first | rfl | simp), rfl⟩)
 ·go_enter Tryz.func103, Tryz.ntmps103
  go_wp2_with fail
  go_fit (isnans_any a _); rintro e w' ⟨rfl, rfl⟩
  go_wp2_with fail
  go_fit (isnans_any b _); rintro e w' ⟨rfl, rfl⟩
  go_wp2
  go_ret
  exact ⟨Wb.ret_int (by rw [H.out]; rfl), rfl⟩
def orI (x y : Int) : Int := if x = 0 then y else x
set_option maxHeartbeats 1000000 in
theorem or2_any (x y : Int) (g c : Nat) (w : World) (h0 : w.cell? ⟨g, 0, none⟩ = some (.int .i64 x)) (h1 : w.cell? ⟨g, 1, none⟩ = some (.int .i64 y)) :
  Calls Tryz.prog 102 #[.slice (some ⟨g, 0, none⟩) 2 c] w fun e w' => e = .returned (.int .i64 (orI x y)) ∧ w = w' := by
 have H := Lib.hid (show orI x y = if x = 0 then y else x from rfl)
 go_enter Tryz.func102, Tryz.ntmps102
 go_wp2_with fail
 go_loopw [8] (fun iv wr => ∃ k : Nat, k ≤ 2 ∧ iv = .int .i64 k ∧ Hid (0 < k → x = 0) ∧ Hid (1 < k → y = 0) ∧ w = wr) (fun iv _ => 2 - (intOf iv).toNat)
 case atStart => exact ⟨0, Nat.zero_le _, rfl, Lib.hid (fun h => absurd h (by omega)), Lib.hid (fun h => absurd h (by omega)), rfl⟩
 case round =>
  obtain ⟨k, hk, rfl, H0, H1, rfl⟩ := hrel
  have hc : k = 0 ∨ k = 1 ∨ k = 2 := by omega
  rcases hc with rfl | rfl | rfl
  ·by_cases hx : x = 0
   ·subst hx
    go_wp2
    go_roundw
    case rel => exact ⟨1, by omega, rfl, Lib.hid (fun _ => by first | rfl | trivial), Lib.hid (fun h => absurd h (by omega)), by first | rfl | trivial⟩
    case measure => first | (simp [intOf]; done) | (simp [intOf]; omega)
   ·have d : (x == 0) = false := by simpa using hx
    have d2 : (x != 0) = true := by simpa using hx
    go_wp2
    go_ret
    exact ⟨Wb.ret_int (by rw [H.out, if_neg hx]), rfl⟩
  ·have hx := H0.out (by omega)
   have HX := Lib.hid hx
   clear hx
   by_cases hy : y = 0
   ·subst hy
    go_wp2
    go_roundw
    case rel => exact ⟨2, by omega, rfl, Lib.hid (fun _ => by first | exact HX.out | trivial), Lib.hid (fun _ => by first | rfl | trivial), by first | rfl | trivial⟩
    case measure => first | (simp [intOf]; done) | (simp [intOf]; omega)
   ·have d : (y == 0) = false := by simpa using hy
    have d2 : (y != 0) = true := by simpa using hy
    go_wp2
    go_ret
    exact ⟨Wb.ret_int (by rw [H.out, if_pos HX.out]), rfl⟩
  ·have hx := Lib.hid (H0.out (by omega))
   have hy := Lib.hid (H1.out (by omega))
   go_wp2
   go_ret
   exact ⟨Wb.ret_int (by rw [H.out, if_pos hx.out, hy.out]), rfl⟩
end Go.Proofs.YtnefdpnolojojaaGreatDoor
namespace Go.Proofs.YtnefdpnolojojaaGreatDoor
open Go
section
variable {P : Program} {ops : Array Oper} {Q : Exit → Act → World → Prop} {md : Region.Mode} {S : World → Prop}
theorem tD (i : Nat) {d : Nat} {oi : Oper} {v : Value} {fuel : Nat} {listed : Array Bool} {a : Act} {w : World} {G : Prop} (h : G) (hi : ops[i]? = some oi := by rfl) (hd : oi.dst = some d := by rfl)
  (hs : Region.noSelect ops = true := by kernel_rfl) (hf : Region.free md ops listed i = true := by kernel_rfl) (hr : (Region.ready md ops listed).contains i = true := by kernel_rfl)
  (h0 : Region.wanted oi (yielded ops a.tmps) = true := by rfl)
  (hv : ∀ w, S w → (execOp a.eval oi).run P w = .ok (.value v) w := by (intro w hSw; (try dsimp only at hSw); go_simp; (try with_reducible rfl)))
  (hQ : ∀ c a w, Q (.panic c) (a.put (some d) v) w → Q (.panic c) a w := by exact fun _ _ _ h => h) (hS : S w := by assumption)
  (hG : wpAnyH P md ops Q S fuel (listed.setIfInBounds i true) (a.put (some d) v) w = G := by (try simp only [Act.put, List.setIfInBounds_toArray, List.set_cons_zero, List.set_cons_succ]); rfl) : wpAnyH P md ops Q S (fuel + 1) listed a w :=
 take_d hi hd hs hf hr hQ (.inl ⟨h0, hv⟩) hS (hG ▸ h)
end
end Go.Proofs.YtnefdpnolojojaaGreatDoor
namespace Go.Proofs.YtnefdpnolojojaaGreatDoor
open Go.RowKit Go.Sort
set_option maxRecDepth 8000
attribute [local go_sem ↓] Go.wp_at_zero Go.wp_at_succ
def cmpL (a b : Wb.Ln) : Int := orI (cmpI a.part b.part) (cmpB a.code b.code)
theorem cmpL_lt (a b : Wb.Ln) : (cmpL a b < 0) ↔ Wb.lnLt a b = true := by
 unfold cmpL orI cmpI cmpB Wb.lnLt
 by_cases h1 : a.part < b.part
 ·simp [h1]
 ·by_cases h2 : b.part < a.part
  ·have : ¬ a.part = b.part := by omega
   simp [h1, h2, this]
  ·have : a.part = b.part := by omega
   simp only [this, Int.lt_irrefl]
   by_cases h3 : Op.bytesLess a.code b.code = true
   ·simp [h3]
   ·by_cases h4 : Op.bytesLess b.code a.code = true <;> simp [h3, h4]
theorem grow3 (w : World) (A B C : Obj) : (((w.alloc A).alloc B).alloc C).drew = grow (w.drewN 1) #[A, B, C] := by
 rw [alloc_eq_grow, alloc_eq_grow, alloc_eq_grow, grow_grow, grow_grow]; rfl
set_option maxHeartbeats 2000000 in
theorem linesc_any (a b : Wb.Ln) (w : World) :
  Calls Tryz.prog 101 #[LnV a, LnV b] w fun e w' => e = .returned (.int .i64 (cmpL a b)) ∧ ∃ q os', w' = grow (w.drewN q) os' := by
 go_enter Tryz.func101, Tryz.ntmps101
 go_upto_region 1 with (fail)
 refine Wb.wp_at fun W0 hW0 => ?_
 have z0 : W0.cell? ⟨w.heap.size, 0, none⟩ = some (.int .i64 a.part) := by rw [hW0]; simp [go_sem]
 have z1 : W0.cell? ⟨w.heap.size, 1, none⟩ = some (.string (Wb.S a.code)) := by rw [hW0]; simp [go_sem]
 have y0 : W0.cell? ⟨w.heap.size + 1, 0, none⟩ = some (.int .i64 b.part) := by rw [hW0]; simp [go_sem]
 have y1 : W0.cell? ⟨w.heap.size + 1, 1, none⟩ = some (.string (Wb.S b.code)) := by rw [hW0]; simp [go_sem]
 have HW0 := Lib.hid hW0
 clear hW0
 refine region_start (S := (fun w' => w'.cell? ⟨w.heap.size, 0, none⟩ = some (.int .i64 a.part) ∧ w'.cell? ⟨w.heap.size, 1, none⟩ = some (.string (Wb.S a.code)) ∧ w'.cell? ⟨w.heap.size + 1, 0, none⟩ = some (.int .i64 b.part) ∧ w'.cell? ⟨w.heap.size + 1, 1, none⟩ = some (.string (Wb.S b.code)))) (n := 13) (l := #[false, false, false, false, false, false, false, false, false, false, false, false, false]) (by kernel_rfl) ⟨z0, z1, y0, y1⟩ (by kernel_rfl) (by kernel_rfl) (fun hHeld => ?_)
 refine tD 0 ?_
 refine tD 1 ?_
 refine tD 2 ?_
 refine tD 3 ?_
 refine tD 5 ?_
 refine tD 6 ?_
 refine tD 7 ?_
 refine tD 8 ?_
 refine wpAnyH_ready (rs := [4]) (by kernel_rfl) (by simp) ?_
 refine AllReadyH.cons (o := _) rfl (fun K hK => ?_) ?_
 ·go_simp
  go_at_call 99
  go_fit (cmpi_any a.part b.part _)
  rintro e w1 ⟨rfl, rfl⟩
  refine hK.out _ _ ⟨Wb.Ext.keep (w := W0) (by (repeat' (first | (with_reducible assumption) | (with_reducible exact Wb.Ext.refl _) | (with_reducible refine Wb.Ext.drew ?_) | (with_reducible refine Wb.Ext.drewN ?_ _) | (with_reducible refine Wb.Ext.alloc ?_ _) | (with_reducible refine Wb.Ext.trans ?_ (by assumption))))) z0, Wb.Ext.keep (w := W0) (by (repeat' (first | (with_reducible assumption) | (with_reducible exact Wb.Ext.refl _) | (with_reducible refine Wb.Ext.drew ?_) | (with_reducible refine Wb.Ext.drewN ?_ _) | (with_reducible refine Wb.Ext.alloc ?_ _) | (with_reducible refine Wb.Ext.trans ?_ (by assumption))))) z1, Wb.Ext.keep (w := W0) (by (repeat' (first | (with_reducible assumption) | (with_reducible exact Wb.Ext.refl _) | (with_reducible refine Wb.Ext.drew ?_) | (with_reducible refine Wb.Ext.drewN ?_ _) | (with_reducible refine Wb.Ext.alloc ?_ _) | (with_reducible refine Wb.Ext.trans ?_ (by assumption))))) y0, Wb.Ext.keep (w := W0) (by (repeat' (first | (with_reducible assumption) | (with_reducible exact Wb.Ext.refl _) | (with_reducible refine Wb.Ext.drew ?_) | (with_reducible refine Wb.Ext.drewN ?_ _) | (with_reducible refine Wb.Ext.alloc ?_ _) | (with_reducible refine Wb.Ext.trans ?_ (by assumption))))) y1⟩ (fun hHeld => ?_)
  clear hK K
  (try simp only [List.setIfInBounds_toArray, List.set_cons_zero, List.set_cons_succ])
  refine wpAnyH_ready (rs := [9]) (by kernel_rfl) (by simp) ?_
  refine AllReadyH.cons (o := _) rfl (fun K hK => ?_) ?_
  ·go_simp
   go_at_call 103
   go_fit (cmps_any a.code b.code _)
   rintro e w1 ⟨rfl, rfl⟩
   refine hK.out _ _ ⟨Wb.Ext.keep (w := W0) (by (repeat' (first | (with_reducible assumption) | (with_reducible exact Wb.Ext.refl _) | (with_reducible refine Wb.Ext.drew ?_) | (with_reducible refine Wb.Ext.drewN ?_ _) | (with_reducible refine Wb.Ext.alloc ?_ _) | (with_reducible refine Wb.Ext.trans ?_ (by assumption))))) z0, Wb.Ext.keep (w := W0) (by (repeat' (first | (with_reducible assumption) | (with_reducible exact Wb.Ext.refl _) | (with_reducible refine Wb.Ext.drew ?_) | (with_reducible refine Wb.Ext.drewN ?_ _) | (with_reducible refine Wb.Ext.alloc ?_ _) | (with_reducible refine Wb.Ext.trans ?_ (by assumption))))) z1, Wb.Ext.keep (w := W0) (by (repeat' (first | (with_reducible assumption) | (with_reducible exact Wb.Ext.refl _) | (with_reducible refine Wb.Ext.drew ?_) | (with_reducible refine Wb.Ext.drewN ?_ _) | (with_reducible refine Wb.Ext.alloc ?_ _) | (with_reducible refine Wb.Ext.trans ?_ (by assumption))))) y0, Wb.Ext.keep (w := W0) (by (repeat' (first | (with_reducible assumption) | (with_reducible exact Wb.Ext.refl _) | (with_reducible refine Wb.Ext.drew ?_) | (with_reducible refine Wb.Ext.drewN ?_ _) | (with_reducible refine Wb.Ext.alloc ?_ _) | (with_reducible refine Wb.Ext.trans ?_ (by assumption))))) y1⟩ (fun hHeld => ?_)
   clear hK K
   (try simp only [List.setIfInBounds_toArray, List.set_cons_zero, List.set_cons_succ])
   refine wpAnyH_ready (rs := [10]) (by kernel_rfl) (by simp) ?_
   refine AllReadyH.cons (o := _) rfl (fun K hK => ?_) ?_
   ·go_simp
    refine atK fun w2 hw2 => ?_
    have x0 : w2.cell? ⟨W0.heap.size, 0, none⟩ = some (.int .i64 (cmpI a.part b.part)) := by rw [hw2]; simp [go_sem]
    have x1 : w2.cell? ⟨W0.heap.size, 1, none⟩ = some (.int .i64 (cmpB a.code b.code)) := by rw [hw2]; simp [go_sem]
    have hx2 : Wb.Ext W0 w2 := by rw [hw2]; (repeat' (first | (with_reducible assumption) | (with_reducible exact Wb.Ext.refl _) | (with_reducible refine Wb.Ext.drew ?_) | (with_reducible refine Wb.Ext.drewN ?_ _) | (with_reducible refine Wb.Ext.alloc ?_ _) | (with_reducible refine Wb.Ext.trans ?_ (by assumption))))
    have HW2 := Lib.hid hw2
    clear hw2
    refine hK.out _ _ ⟨Wb.Ext.keep (w := W0) (by (repeat' (first | (with_reducible assumption) | (with_reducible exact Wb.Ext.refl _) | (with_reducible refine Wb.Ext.drew ?_) | (with_reducible refine Wb.Ext.drewN ?_ _) | (with_reducible refine Wb.Ext.alloc ?_ _) | (with_reducible refine Wb.Ext.trans ?_ (by assumption))))) z0, Wb.Ext.keep (w := W0) (by (repeat' (first | (with_reducible assumption) | (with_reducible exact Wb.Ext.refl _) | (with_reducible refine Wb.Ext.drew ?_) | (with_reducible refine Wb.Ext.drewN ?_ _) | (with_reducible refine Wb.Ext.alloc ?_ _) | (with_reducible refine Wb.Ext.trans ?_ (by assumption))))) z1, Wb.Ext.keep (w := W0) (by (repeat' (first | (with_reducible assumption) | (with_reducible exact Wb.Ext.refl _) | (with_reducible refine Wb.Ext.drew ?_) | (with_reducible refine Wb.Ext.drewN ?_ _) | (with_reducible refine Wb.Ext.alloc ?_ _) | (with_reducible refine Wb.Ext.trans ?_ (by assumption))))) y0, Wb.Ext.keep (w := W0) (by (repeat' (first | (with_reducible assumption) | (with_reducible exact Wb.Ext.refl _) | (with_reducible refine Wb.Ext.drew ?_) | (with_reducible refine Wb.Ext.drewN ?_ _) | (with_reducible refine Wb.Ext.alloc ?_ _) | (with_reducible refine Wb.Ext.trans ?_ (by assumption))))) y1⟩ (fun hHeld => ?_)
    clear hK K
    (try simp only [List.setIfInBounds_toArray, List.set_cons_zero, List.set_cons_succ])
    refine wpAnyH_ready (rs := [11]) (by kernel_rfl) (by simp) ?_
    refine AllReadyH.cons (o := _) rfl (fun K hK => ?_) ?_
    ·go_simp
     go_at_call 102
     go_fit (or2_any _ _ W0.heap.size 2 _ x0 x1)
     rintro e w1 ⟨rfl, rfl⟩
     refine hK.out _ _ ⟨Wb.Ext.keep (w := W0) (by (repeat' (first | (with_reducible assumption) | (with_reducible exact Wb.Ext.refl _) | (with_reducible refine Wb.Ext.drew ?_) | (with_reducible refine Wb.Ext.drewN ?_ _) | (with_reducible refine Wb.Ext.alloc ?_ _) | (with_reducible refine Wb.Ext.trans ?_ (by assumption))))) z0, Wb.Ext.keep (w := W0) (by (repeat' (first | (with_reducible assumption) | (with_reducible exact Wb.Ext.refl _) | (with_reducible refine Wb.Ext.drew ?_) | (with_reducible refine Wb.Ext.drewN ?_ _) | (with_reducible refine Wb.Ext.alloc ?_ _) | (with_reducible refine Wb.Ext.trans ?_ (by assumption))))) z1, Wb.Ext.keep (w := W0) (by (repeat' (first | (with_reducible assumption) | (with_reducible exact Wb.Ext.refl _) | (with_reducible refine Wb.Ext.drew ?_) | (with_reducible refine Wb.Ext.drewN ?_ _) | (with_reducible refine Wb.Ext.alloc ?_ _) | (with_reducible refine Wb.Ext.trans ?_ (by assumption))))) y0, Wb.Ext.keep (w := W0) (by (repeat' (first | (with_reducible assumption) | (with_reducible exact Wb.Ext.refl _) | (with_reducible refine Wb.Ext.drew ?_) | (with_reducible refine Wb.Ext.drewN ?_ _) | (with_reducible refine Wb.Ext.alloc ?_ _) | (with_reducible refine Wb.Ext.trans ?_ (by assumption))))) y1⟩ (fun hHeld => ?_)
     clear hK K
     (try simp only [List.setIfInBounds_toArray, List.set_cons_zero, List.set_cons_succ])
     refine tD 12 ?_
     refine wpAnyH_done (by kernel_rfl) ?_ _
     go_wp2
     go_ret
     exact ⟨rfl, 1, _, by rw [HW2.out, HW0.out]; exact grow3 _ _ _ _⟩
    exact AllReadyH.nil
   exact AllReadyH.nil
  exact AllReadyH.nil
 exact AllReadyH.nil
end Go.Proofs.YtnefdpnolojojaaGreatDoor
