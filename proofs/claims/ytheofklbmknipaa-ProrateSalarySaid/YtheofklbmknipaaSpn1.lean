/- The walks of package span: empty, Length, compare, Cross, Clone. -/
import Derived.Test.YtheofklbmknipaaBase
import Derived.Test.YtheofklbmknipaaTbl
import Derived.Test.YtheofklbmknipaaPlain05
import Derived.Laws.Bits64
import Derived.Deep.DeepFit
import Derived.Deep.RegionHeld3
import Derived.Deep.DrawnRows
import Derived.IntWalk
namespace Go.Proofs.Ytheofklbmknipaa
open Go.RowKit
set_option maxRecDepth 8000
attribute [local go_sem ↓] Go.wp_at_zero Go.wp_at_succ

def spc (s : Wb.Sp) : List Value := [.int .i64 s.1, .int .i64 s.2]
theorem spc_len (s : Wb.Sp) : (spc s).length = 2 := rfl
abbrev SpV (s : Wb.Sp) : Value := .agg #[.int .i64 s.1, .int .i64 s.2]
/-- what a 64-bit span holds -/
def Bd (s : Wb.Sp) : Prop := (-9223372036854775808 ≤ s.1 ∧ s.1 ≤ 9223372036854775807) ∧ (-9223372036854775808 ≤ s.2 ∧ s.2 ≤ 9223372036854775807)
def BdL (l : List Wb.Sp) : Prop := ∀ s ∈ l, Bd s
abbrev Spans (w : World) (v : Value) (l : List Wb.Sp) : Prop := Tbl 2 spc w v l

theorem empty_any (s : Wb.Sp) (w : World) :
    Calls Try.prog 48 #[SpV s] w fun e w' => e = .returned (.bool (decide (s.2 ≤ s.1))) ∧ Wb.Ext w w' := by
  obtain ⟨f, t⟩ := s
  go_enter Try.func48, Try.ntmps48
  go_wp2
  go_ret
  exact ⟨rfl, by (repeat' (first | (with_reducible assumption) | (with_reducible exact Wb.Ext.refl _) | (with_reducible refine Wb.Ext.drew ?_) | (with_reducible refine Wb.Ext.drewN ?_ _) | (with_reducible refine Wb.Ext.alloc ?_ _) | (with_reducible refine Wb.Ext.trans ?_ (by assumption))))⟩

def lenS (s : Wb.Sp) : Int := if s.2 ≤ s.1 then 0 else min (s.2 - s.1) 4611686018427387904
theorem lenS_ok (s : Wb.Sp) : 0 ≤ lenS s ∧ lenS s ≤ 4611686018427387904 := by unfold lenS; split <;> omega
set_option maxHeartbeats 1000000 in
theorem length_any (s : Wb.Sp) (hb : Bd s) (w : World) :
    Calls Try.prog 25 #[SpV s] w fun e w' => e = .returned (.int .i64 (lenS s)) ∧ Wb.Ext w w' := by
  obtain ⟨f, t⟩ := s
  obtain ⟨⟨b1, b2⟩, b3, b4⟩ := hb
  simp only at b1 b2 b3 b4
  by_cases he : t ≤ f
  · have H := Lib.hid (show lenS (f, t) = 0 from if_pos he)
    have d : decide (t ≤ f) = true := by simpa using he
    go_enter Try.func25, Try.ntmps25
    go_wp2_with fail
    go_fit (empty_any (f, t) _); rintro e w1 ⟨rfl, hb1⟩
    go_wp2
    go_ret
    exact ⟨Wb.ret_int H.out.symm, by (repeat' (first | (with_reducible assumption) | (with_reducible exact Wb.Ext.refl _) | (with_reducible refine Wb.Ext.drew ?_) | (with_reducible refine Wb.Ext.drewN ?_ _) | (with_reducible refine Wb.Ext.alloc ?_ _) | (with_reducible refine Wb.Ext.trans ?_ (by assumption))))⟩
  · have H := Lib.hid (show lenS (f, t) = min (t - f) 4611686018427387904 from if_neg he)
    have d : decide (t ≤ f) = false := by simpa using he
    have e1 : IntKind.u64.wrap (IntKind.u64.wrap t - IntKind.u64.wrap f) = t - f := by
      rw [IntKind.wrap_u64, IntKind.wrap_u64, IntKind.wrap_u64]; omega
    obtain ⟨m, hm⟩ : ∃ m, min (t - f) 4611686018427387904 = m := ⟨_, rfl⟩
    have e2 : IntKind.i64.wrap m = m := IntWalk.i64_in _ (by omega)
    have HM := Lib.hid hm
    have hmn : (if 4611686018427387904 < t - f then 4611686018427387904 else t - f) = m := by rw [← hm]; split <;> omega
    clear hm
    go_enter Try.func25, Try.ntmps25
    go_wp2_with fail
    go_fit (empty_any (f, t) _); rintro e w1 ⟨rfl, hb1⟩
    have q0 : w1.cell? ⟨w.heap.size, 0, none⟩ = some (.int .i64 f) := hb1.keep (by simp [go_sem])
    have q1 : w1.cell? ⟨w.heap.size, 1, none⟩ = some (.int .i64 t) := hb1.keep (by simp [go_sem])
    go_wp2
    go_ret
    exact ⟨Wb.ret_int (by rw [H.out, HM.out]), by (repeat' (first | (with_reducible assumption) | (with_reducible exact Wb.Ext.refl _) | (with_reducible refine Wb.Ext.drew ?_) | (with_reducible refine Wb.Ext.drewN ?_ _) | (with_reducible refine Wb.Ext.alloc ?_ _) | (with_reducible refine Wb.Ext.trans ?_ (by assumption))))⟩

def cmpI (a b : Int) : Int := if a < b then -1 else if b < a then 1 else 0
theorem isnan_any (a : Int) (w : World) : Calls Try.prog 66 #[.int .i64 a] w fun e w' => e = .returned (.bool false) ∧ w = w' := by
  go_enter Try.func66, Try.ntmps66
  go_wp2
  go_ret
  exact ⟨rfl, rfl⟩
theorem compare_any (a b : Int) (w : World) : Calls Try.prog 44 #[.int .i64 a, .int .i64 b] w fun e w' => e = .returned (.int .i64 (cmpI a b)) ∧ w = w' := by
  by_cases h1 : a < b
  · have H := Lib.hid (show cmpI a b = -1 from if_pos h1)
    go_enter Try.func44, Try.ntmps44
    go_wp2_with fail
    go_fit (isnan_any a _); rintro e w' ⟨rfl, rfl⟩
    go_wp2_with fail
    go_fit (isnan_any b _); rintro e w' ⟨rfl, rfl⟩
    go_wp2
    go_ret
    exact ⟨Wb.ret_int H.out.symm, rfl⟩
  · have d1 : decide (a < b) = false := by simpa using h1
    by_cases h2 : b < a
    · have H := Lib.hid (show cmpI a b = 1 by rw [cmpI, if_neg h1, if_pos h2])
      go_enter Try.func44, Try.ntmps44
      go_wp2_with fail
      go_fit (isnan_any a _); rintro e w' ⟨rfl, rfl⟩
      go_wp2_with fail
      go_fit (isnan_any b _); rintro e w' ⟨rfl, rfl⟩
      go_wp2
      go_ret
      exact ⟨Wb.ret_int H.out.symm, rfl⟩
    · have d2 : decide (b < a) = false := by simpa using h2
      have H := Lib.hid (show cmpI a b = 0 by rw [cmpI, if_neg h1, if_neg h2])
      go_enter Try.func44, Try.ntmps44
      go_wp2_with fail
      go_fit (isnan_any a _); rintro e w' ⟨rfl, rfl⟩
      go_wp2_with fail
      go_fit (isnan_any b _); rintro e w' ⟨rfl, rfl⟩
      go_wp2
      go_ret
      exact ⟨Wb.ret_int H.out.symm, rfl⟩
/-- Has's closure -/
theorem hasc_any (s : Wb.Sp) (d : Int) (w : World) :
    Calls Try.prog 88 #[SpV s, .int .i64 d] w fun e w' => e = .returned (.int .i64 (cmpI s.1 d)) ∧ Wb.Ext w w' := by
  obtain ⟨f, t⟩ := s
  go_enter Try.func88, Try.ntmps88
  go_wp2_with fail
  go_fit (compare_any f d _); rintro e w' ⟨rfl, rfl⟩
  go_wp2
  go_ret
  exact ⟨rfl, by (repeat' (first | (with_reducible assumption) | (with_reducible exact Wb.Ext.refl _) | (with_reducible refine Wb.Ext.drew ?_) | (with_reducible refine Wb.Ext.drewN ?_ _) | (with_reducible refine Wb.Ext.alloc ?_ _) | (with_reducible refine Wb.Ext.trans ?_ (by assumption))))⟩

def crossS (a b : Wb.Sp) : Wb.Sp := if min a.2 b.2 ≤ max a.1 b.1 then (0, 0) else (max a.1 b.1, min a.2 b.2)
set_option maxHeartbeats 1000000 in
theorem cross_any (a b : Wb.Sp) (w : World) :
    Calls Try.prog 26 #[SpV a, SpV b] w fun e w' => e = .returned (SpV (crossS a b)) ∧ Wb.Ext w w' := by
  obtain ⟨f, t⟩ := a
  obtain ⟨g, u⟩ := b
  obtain ⟨m, hm⟩ : ∃ m, max f g = m := ⟨_, rfl⟩
  obtain ⟨n, hn⟩ : ∃ n, min t u = n := ⟨_, rfl⟩
  have HC := Lib.hid (show crossS (f, t) (g, u) = if n ≤ m then (0, 0) else (m, n) by simp only [crossS, hm, hn])
  have hmx : (if f < g then g else f) = m := by rw [← hm]; split <;> omega
  have hmn : (if u < t then u else t) = n := by rw [← hn]; split <;> omega
  clear hm hn
  go_enter Try.func26, Try.ntmps26
  go_wp2_with fail
  go_fit (empty_any (m, n) _); rintro e w1 ⟨rfl, hb1⟩
  have q0 : w1.cell? ⟨w.heap.size + 1 + 1, 0, none⟩ = some (.int .i64 0) := hb1.keep (by simp [go_sem])
  have q1 : w1.cell? ⟨w.heap.size + 1 + 1, 1, none⟩ = some (.int .i64 0) := hb1.keep (by simp [go_sem])
  have qf : ∀ j, w1.frozen? ⟨w.heap.size + 1 + 1, j, none⟩ = false := fun j => (Below.frozen hb1 (by simp)).trans (by simp [go_sem])
  have r0 : w1.cell? ⟨w.heap.size + 1 + 1 + 1, 0, none⟩ = some (.int .i64 m) := hb1.keep (by simp [go_sem])
  have r1 : w1.cell? ⟨w.heap.size + 1 + 1 + 1, 1, none⟩ = some (.int .i64 n) := hb1.keep (by simp [go_sem])
  have he1 : Wb.Ext w w1 := by (repeat' (first | (with_reducible assumption) | (with_reducible exact Wb.Ext.refl _) | (with_reducible refine Wb.Ext.drew ?_) | (with_reducible refine Wb.Ext.drewN ?_ _) | (with_reducible refine Wb.Ext.alloc ?_ _) | (with_reducible refine Wb.ext_set ?_ (by first | assumption | (simp; done) | (simp; omega) | omega) _) | (with_reducible refine Wb.Ext.trans ?_ (by assumption))))
  clear hb1 hmx hmn
  by_cases h : n ≤ m
  · have d : decide (n ≤ m) = true := by simpa using h
    have H := Lib.hid (show crossS (f, t) (g, u) = (0, 0) by rw [HC.out, if_pos h])
    go_wp2
    refine bodyPost_ret (v := SpV (0, 0)) (by simp [results, Try.results26, go_sem, q0, q1]) rfl ⟨by rw [H.out], by (repeat' (first | (with_reducible assumption) | (with_reducible exact Wb.Ext.refl _) | (with_reducible refine Wb.Ext.drew ?_) | (with_reducible refine Wb.Ext.drewN ?_ _) | (with_reducible refine Wb.Ext.alloc ?_ _) | (with_reducible refine Wb.ext_set ?_ (by first | assumption | (simp; done) | (simp; omega) | omega) _) | (with_reducible refine Wb.Ext.trans ?_ (by assumption))))⟩
  · have d : decide (n ≤ m) = false := by simpa using h
    have H := Lib.hid (show crossS (f, t) (g, u) = (m, n) by rw [HC.out, if_neg h])
    go_wp2
    refine bodyPost_ret (v := SpV (m, n)) (by simp [results, Try.results26, go_sem, q0, q1]) rfl ⟨by rw [H.out], by (repeat' (first | (with_reducible assumption) | (with_reducible exact Wb.Ext.refl _) | (with_reducible refine Wb.Ext.drew ?_) | (with_reducible refine Wb.Ext.drewN ?_ _) | (with_reducible refine Wb.Ext.alloc ?_ _) | (with_reducible refine Wb.ext_set ?_ (by first | assumption | (simp; done) | (simp; omega) | omega) _) | (with_reducible refine Wb.Ext.trans ?_ (by assumption))))⟩

/-- a take, the slot by its number: so that the state can be laid out behind it -/
theorem take_d {P : Program} {ops : Array Oper} {Q : Exit → Act → World → Prop} {md : Region.Mode} {S : World → Prop} {i d : Nat} {oi : Oper} {v : Value} {fuel : Nat} {listed : Array Bool} {a : Act} {w : World} (hi : ops[i]? = some oi) (hd : oi.dst = some d)
    (hs : Region.noSelect ops = true) (hf : Region.free md ops listed i = true) (hr : (Region.ready md ops listed).contains i = true)
    (hQ : ∀ c a w, Q (.panic c) (a.put (some d) v) w → Q (.panic c) a w) (hy : YieldsIf P ops S oi v a) (hS : S w)
    (h : wpAnyH P md ops Q S fuel (listed.setIfInBounds i true) (a.put (some d) v) w) : wpAnyH P md ops Q S (fuel + 1) listed a w := by
  rw [← hd] at hQ h
  exact wpAnyH_take hi hs hf hr hQ hy hS h

end Go.Proofs.Ytheofklbmknipaa
