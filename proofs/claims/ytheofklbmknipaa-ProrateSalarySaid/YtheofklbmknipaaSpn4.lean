/- The walks of slices.BinarySearchFunc at spans, and of Set.Has. -/
import Derived.Test.YtheofklbmknipaaSpn3
import Derived.Deep.LoopGhost
namespace Go.Proofs.Ytheofklbmknipaa
open Go.RowKit
set_option maxRecDepth 8000
attribute [local go_sem ↓] Go.wp_at_zero Go.wp_at_succ

/-- where a day stands among spans that rise -/
def Stand (l : List Wb.Sp) (d : Int) (i : Nat) : Prop := i ≤ l.length ∧ (∀ t x, l[t]? = some x → t < i → x.1 < d) ∧ ∀ t x, l[t]? = some x → i ≤ t → d ≤ x.1
theorem canon_lt {l : List Wb.Sp} (h : Wb.Canon l) {a b : Nat} {x y : Wb.Sp} (hx : l[a]? = some x) (hy : l[b]? = some y) (hab : a < b) : x.2 < y.1 := by
  obtain ⟨ha, rfl⟩ := List.getElem?_eq_some_iff.1 hx
  obtain ⟨hb, rfl⟩ := List.getElem?_eq_some_iff.1 hy
  exact List.pairwise_iff_getElem.1 h.2 a b ha hb hab
theorem stand_has {l : List Wb.Sp} {d : Int} {i : Nat} (hc : Wb.Canon l) (h : Stand l d i) : Wb.hasL l d = true ↔ (∃ x, l[i]? = some x ∧ x.1 = d) ∨ (∃ x, 0 < i ∧ l[i - 1]? = some x ∧ d < x.2) := by
  obtain ⟨h1, h2, h3⟩ := h
  rw [Wb.hasL_iff]
  constructor
  · rintro ⟨s, hs, hin⟩
    obtain ⟨t, ht⟩ := List.getElem?_of_mem hs
    have k1 := hin.1
    have k2 := hin.2
    have k3 := hc.1 s hs
    rcases Nat.lt_trichotomy t i with q | rfl | q
    · right
      rcases Nat.lt_or_ge t (i - 1) with q2 | q2
      · obtain ⟨y, hy⟩ := Wb.get_ex (l := l) (k := i - 1) (by omega)
        have := canon_lt hc ht hy q2
        have := h2 _ _ hy (by omega)
        omega
      · obtain rfl : t = i - 1 := by omega
        exact ⟨s, by omega, ht, k2⟩
    · exact .inl ⟨s, ht, by have := h3 _ _ ht (Nat.le_refl _); omega⟩
    · obtain ⟨y, hy⟩ := Wb.get_ex (l := l) (k := i) (by have := (List.getElem?_eq_some_iff.1 ht).1; omega)
      have := canon_lt hc hy ht q
      have := h3 _ _ hy (Nat.le_refl _)
      have := hc.1 y (List.mem_of_getElem? hy)
      omega
  · rintro (⟨x, hx, he⟩ | ⟨x, hi, hx, hd⟩)
    · have := hc.1 x (List.mem_of_getElem? hx)
      exact ⟨x, List.mem_of_getElem? hx, by omega, by omega⟩
    · have := h2 _ _ hx (by omega)
      exact ⟨x, List.mem_of_getElem? hx, by omega, hd⟩

set_option maxHeartbeats 1000000 in
theorem bsf_any (v : Value) (l : List Wb.Sp) (d : Int) (w : World) (hv : Spans w v l) (hc : Wb.Canon l) (hl : l.length ≤ 1000000) :
    Calls Try.prog 87 #[v, .int .i64 d, .func (.func 88) #[] #[]] w fun e w' => ∃ (i : Nat) (f : Bool), e = .returned (.tuple #[.int .i64 i, .bool f]) ∧ Stand l d i ∧ (f = true ↔ ∃ x, l[i]? = some x ∧ x.1 = d) ∧ Wb.Ext w w' := by
  obtain ⟨va, vc, rfl⟩ := hv.shape
  have HV := Lib.hid hv
  have HC := Lib.hid hc
  clear hv hc
  go_enter Try.func87, Try.ntmps87
  go_wp2
  go_loopg [9, 10] l.length (fun kx s9 s10 wr => ∃ lo hi : Nat, s9 = .int .i64 lo ∧ s10 = .int .i64 hi ∧ lo ≤ hi ∧ hi ≤ l.length ∧ hi - lo ≤ kx ∧ Wb.Ext w wr ∧
    Hid ((∀ t x, l[t]? = some x → t < lo → x.1 < d) ∧ (∀ t x, l[t]? = some x → hi ≤ t → d ≤ x.1)))
  case atStart => exact ⟨0, l.length, rfl, rfl, Nat.zero_le _, Nat.le_refl _, by omega, by (repeat' (first | (with_reducible assumption) | (with_reducible exact Wb.Ext.refl _) | (with_reducible refine Wb.Ext.drew ?_) | (with_reducible refine Wb.Ext.drewN ?_ _) | (with_reducible refine Wb.Ext.alloc ?_ _) | (with_reducible refine Wb.Ext.trans ?_ (by assumption)))), Lib.hid ⟨fun t x _ ht => absurd ht (Nat.not_lt_zero _), fun t x hx ht => by have := (List.getElem?_eq_some_iff.1 hx).1; omega⟩⟩
  case round =>
    obtain ⟨lo, hi, rfl, rfl, hlh, hin, hg, hext, I⟩ := hrel
    by_cases hlt : lo < hi
    · obtain ⟨y, hy⟩ := Wb.get_ex (l := l) (k := (lo + hi) / 2) (by omega)
      obtain ⟨b, off, rfl, hcells⟩ := (HV.out.ext hext).opened (tne (show (lo + hi) / 2 < l.length by omega))
      have c0 := hcells _ y hy 0 _ rfl
      have c1 := hcells _ y hy 1 _ rfl
      have HY := Lib.hid hy
      clear hcells hy
      simp only [Nat.add_zero] at c0
      go_wp2_with fail
      go_fit (hasc_any y d _); rintro e w1 ⟨rfl, hb1⟩
      have HX : Hid (Wb.Ext wr w1) := Lib.hid (by (repeat' (first | (with_reducible assumption) | (with_reducible exact Wb.Ext.refl _) | (with_reducible refine Wb.Ext.drew ?_) | (with_reducible refine Wb.Ext.drewN ?_ _) | (with_reducible refine Wb.Ext.alloc ?_ _) | (with_reducible refine Wb.Ext.trans ?_ (by assumption)))))
      clear hb1
      by_cases hyd : y.1 < d
      · have H := Lib.hid (show cmpI y.1 d = -1 from if_pos hyd)
        rw [H.out]
        go_wp2
        go_roundg (hi - ((lo + hi) / 2 + 1))
        case measure => omega
        case rel =>
          refine ⟨(lo + hi) / 2 + 1, hi, by rw [show ((lo : Int) + (hi : Int)) / 2 + 1 = (((lo + hi) / 2 + 1 : Nat) : Int) by omega], rfl, by omega, hin, Nat.le_refl _, hext.trans HX.out, Lib.hid ⟨fun t x hx ht => ?_, I.out.2⟩⟩
          rcases Nat.lt_or_ge t ((lo + hi) / 2) with q | q
          · have := canon_lt HC.out hx HY.out q
            have := HC.out.1 x (List.mem_of_getElem? hx)
            omega
          · obtain rfl : t = (lo + hi) / 2 := by omega
            rw [HY.out] at hx; cases hx; exact hyd
      · have d0 : decide (cmpI y.1 d < 0) = false := by
          rw [cmpI, if_neg hyd]; split <;> rfl
        go_wp2
        go_roundg ((lo + hi) / 2 - lo)
        case measure => omega
        case rel =>
          refine ⟨lo, (lo + hi) / 2, rfl, by rw [show ((lo : Int) + (hi : Int)) / 2 = (((lo + hi) / 2 : Nat) : Int) by omega], by omega, by omega, Nat.le_refl _, hext.trans HX.out, Lib.hid ⟨I.out.1, fun t x hx ht => ?_⟩⟩
          rcases Nat.lt_or_ge ((lo + hi) / 2) t with q | q
          · have := canon_lt HC.out HY.out hx q
            have := HC.out.1 y (List.mem_of_getElem? HY.out)
            omega
          · obtain rfl : t = (lo + hi) / 2 := by omega
            rw [HY.out] at hx; cases hx; omega
    · obtain rfl : hi = lo := by omega
      have HST := Lib.hid (show Stand l d hi from ⟨hin, I.out.1, I.out.2⟩)
      by_cases hn : hi < l.length
      · obtain ⟨y, hy⟩ := Wb.get_ex hn
        obtain ⟨b, off, rfl, hcells⟩ := (HV.out.ext hext).opened (tne hn)
        have c0 := hcells _ y hy 0 _ rfl
        have c1 := hcells _ y hy 1 _ rfl
        have HY := Lib.hid hy
        clear hcells hy
        simp only [Nat.add_zero] at c0
        go_wp2_with fail
        go_fit (hasc_any y d _); rintro e w1 ⟨rfl, hb1⟩
        have HX : Hid (Wb.Ext wr w1) := Lib.hid (by (repeat' (first | (with_reducible assumption) | (with_reducible exact Wb.Ext.refl _) | (with_reducible refine Wb.Ext.drew ?_) | (with_reducible refine Wb.Ext.drewN ?_ _) | (with_reducible refine Wb.Ext.alloc ?_ _) | (with_reducible refine Wb.Ext.trans ?_ (by assumption)))))
        clear hb1
        go_wp2
        go_ret2
        refine ⟨hi, cmpI y.1 d == 0, rfl, HST.out, ?_, hext.trans HX.out⟩
        rw [HY.out]
        have k : (cmpI y.1 d == 0) = true ↔ y.1 = d := by
          rw [cmpI]; split
          · simp; omega
          · split
            · simp; omega
            · simp; omega
        rw [k]
        exact ⟨fun h => ⟨y, rfl, h⟩, fun ⟨x, h1, h2⟩ => by cases h1; exact h2⟩
      · go_wp2
        go_ret2
        refine ⟨hi, false, rfl, HST.out, ?_, hext⟩
        rw [List.getElem?_eq_none (by omega)]
        simp

set_option maxHeartbeats 1000000 in
theorem has05_any (v : Value) (l : List Wb.Sp) (d : Int) (w : World) (hv : Spans w v l) (hc : Wb.Canon l) (hl : l.length ≤ 1000000) :
    Calls Try.prog 69 #[SetV v, .int .i64 d] w fun e w' => e = .returned (.bool (Wb.hasL l d)) ∧ Wb.Ext w w' := by
  obtain ⟨va, vc, rfl⟩ := hv.shape
  have HV := Lib.hid hv
  have HC := Lib.hid hc
  clear hv hc
  go_enter Try.func69, Try.ntmps69
  go_wp2_with fail
  go_fit (bsf_any _ l d _ (HV.out.ext (by (repeat' (first | (with_reducible assumption) | (with_reducible exact Wb.Ext.refl _) | (with_reducible refine Wb.Ext.drew ?_) | (with_reducible refine Wb.Ext.drewN ?_ _) | (with_reducible refine Wb.Ext.alloc ?_ _) | (with_reducible refine Wb.Ext.trans ?_ (by assumption)))))) HC.out hl); rintro e w1 ⟨i, f, rfl, hst, hf, hb1⟩
  have hx : Wb.Ext w w1 := by (repeat' (first | (with_reducible assumption) | (with_reducible exact Wb.Ext.refl _) | (with_reducible refine Wb.Ext.drew ?_) | (with_reducible refine Wb.Ext.drewN ?_ _) | (with_reducible refine Wb.Ext.alloc ?_ _) | (with_reducible refine Wb.Ext.trans ?_ (by assumption))))
  have q0 : w1.cell? ⟨w.heap.size, 0, none⟩ = some (.slice va l.length vc) := hb1.keep (by simp [go_sem])
  clear hb1
  cases f
  · by_cases hi : 0 < i
    · obtain ⟨y, hy⟩ := Wb.get_ex (l := l) (k := i - 1) (by have := hst.1; omega)
      obtain ⟨b, off, rfl, hcells⟩ := (HV.out.ext hx).opened (tne (show i - 1 < l.length by have := hst.1; omega))
      have c1 := hcells _ y hy 1 _ rfl
      have H := Lib.hid (show decide (d < y.2) = Wb.hasL l d by
        rw [Bool.eq_iff_iff, stand_has HC.out hst, decide_eq_true_iff]
        constructor
        · intro h; exact .inr ⟨y, hi, hy, h⟩
        · rintro (h | ⟨x, _, hx, h⟩)
          · exact absurd (hf.2 h) (by simp)
          · rw [hy] at hx; cases hx; exact h)
      have hil := hst.1
      clear hcells hst hf hy
      obtain ⟨j, rfl⟩ : ∃ j, i = j + 1 := ⟨i - 1, by omega⟩
      rw [Nat.add_sub_cancel] at c1
      have e1 : ((j + 1 : Nat) : Int) - 1 = j := by omega
      have hj : (j : Int) < l.length := by omega
      go_wp2
      go_ret
      exact ⟨Wb.ret_bool H.out, by (repeat' (first | (with_reducible assumption) | (with_reducible exact Wb.Ext.refl _) | (with_reducible refine Wb.Ext.drew ?_) | (with_reducible refine Wb.Ext.drewN ?_ _) | (with_reducible refine Wb.Ext.alloc ?_ _) | (with_reducible refine Wb.Ext.trans ?_ (by assumption))))⟩
    · obtain rfl : i = 0 := by omega
      have H := Lib.hid (show false = Wb.hasL l d by
        symm
        rw [Bool.eq_false_iff]
        intro h
        rcases (stand_has HC.out hst).1 h with h | ⟨_, h, _⟩
        · exact absurd (hf.2 h) (by simp)
        · omega)
      clear hst hf
      go_wp2
      go_ret
      exact ⟨Wb.ret_bool H.out, by (repeat' (first | (with_reducible assumption) | (with_reducible exact Wb.Ext.refl _) | (with_reducible refine Wb.Ext.drew ?_) | (with_reducible refine Wb.Ext.drewN ?_ _) | (with_reducible refine Wb.Ext.alloc ?_ _) | (with_reducible refine Wb.Ext.trans ?_ (by assumption))))⟩
  · have H := Lib.hid (show true = Wb.hasL l d from ((stand_has HC.out hst).2 (.inl (hf.1 rfl))).symm)
    have hil := hst.1
    clear hst hf
    by_cases hi : 0 < i
    · obtain ⟨y, hy⟩ := Wb.get_ex (l := l) (k := i - 1) (by omega)
      obtain ⟨b, off, rfl, hcells⟩ := (HV.out.ext hx).opened (tne (show i - 1 < l.length by omega))
      have c1 := hcells _ y hy 1 _ rfl
      clear hcells hy
      obtain ⟨j, rfl⟩ : ∃ j, i = j + 1 := ⟨i - 1, by omega⟩
      rw [Nat.add_sub_cancel] at c1
      have hj : (j : Int) < l.length := by omega
      go_wp2
      go_ret
      exact ⟨Wb.ret_bool H.out, by (repeat' (first | (with_reducible assumption) | (with_reducible exact Wb.Ext.refl _) | (with_reducible refine Wb.Ext.drew ?_) | (with_reducible refine Wb.Ext.drewN ?_ _) | (with_reducible refine Wb.Ext.alloc ?_ _) | (with_reducible refine Wb.Ext.trans ?_ (by assumption))))⟩
    · obtain rfl : i = 0 := by omega
      go_wp2
      go_ret
      exact ⟨Wb.ret_bool H.out, by (repeat' (first | (with_reducible assumption) | (with_reducible exact Wb.Ext.refl _) | (with_reducible refine Wb.Ext.drew ?_) | (with_reducible refine Wb.Ext.drewN ?_ _) | (with_reducible refine Wb.Ext.alloc ?_ _) | (with_reducible refine Wb.Ext.trans ?_ (by assumption))))⟩

end Go.Proofs.Ytheofklbmknipaa
