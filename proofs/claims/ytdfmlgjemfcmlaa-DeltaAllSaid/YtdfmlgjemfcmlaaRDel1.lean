/- The reference of chapter 29: Zero, check, ahead, amount, ShortSlip, Short, Net. -/
import Derived.Test.YtdfmlgjemfcmlaaDel7
import Derived.Test.YtdfmlgjemfcmlaaPlain29c
namespace Go.Proofs.Ytdfmlgjemfcmlaa
open Go.RowKit
set_option maxRecDepth 8000
attribute [local go_sem ↓] Go.wp_at_zero Go.wp_at_succ

theorem rzero_any (y i : Int) (v : Value) (l : List Wb.Ln) (w : World) (hl : Lns w v l) :
    Calls Try.prog 19 #[SlV y i v] w fun e w' => e = .returned (.bool (Wb.noneB y i l)) ∧ Wb.Ext w w' := by
  obtain ⟨a, c, rfl⟩ := hl.shape
  clear hl
  by_cases h1 : y = 0
  · subst h1
    by_cases h2 : i = 0
    · subst h2
      cases l with
      | nil =>
        go_enter Try.func19, Try.ntmps19
        go_wp2
        go_ret
        exact ⟨rfl, by (repeat' (first | (with_reducible assumption) | (with_reducible exact Wb.Ext.refl _) | (with_reducible refine Wb.Ext.drew ?_) | (with_reducible refine Wb.Ext.drewN ?_ _) | (with_reducible refine Wb.Ext.alloc ?_ _) | (with_reducible refine Wb.Ext.trans ?_ (by assumption))))⟩
      | cons x r =>
        have HN := Lib.hid (show Wb.noneB 0 0 (x :: r) = false from rfl)
        have d : (((x :: r).length : Int) == 0) = false := by simp; omega
        generalize (x :: r).length = n at d ⊢
        go_enter Try.func19, Try.ntmps19
        go_wp2
        go_ret
        exact ⟨Wb.ret_bool HN.out.symm, by (repeat' (first | (with_reducible assumption) | (with_reducible exact Wb.Ext.refl _) | (with_reducible refine Wb.Ext.drew ?_) | (with_reducible refine Wb.Ext.drewN ?_ _) | (with_reducible refine Wb.Ext.alloc ?_ _) | (with_reducible refine Wb.Ext.trans ?_ (by assumption))))⟩
    · have d : (i == 0) = false := by simpa using h2
      have HN := Lib.hid (show Wb.noneB 0 i l = false by simp [Wb.noneB, h2])
      go_enter Try.func19, Try.ntmps19
      go_wp2
      go_ret
      exact ⟨Wb.ret_bool HN.out.symm, by (repeat' (first | (with_reducible assumption) | (with_reducible exact Wb.Ext.refl _) | (with_reducible refine Wb.Ext.drew ?_) | (with_reducible refine Wb.Ext.drewN ?_ _) | (with_reducible refine Wb.Ext.alloc ?_ _) | (with_reducible refine Wb.Ext.trans ?_ (by assumption))))⟩
  · have d : (y == 0) = false := by simpa using h1
    have HN := Lib.hid (show Wb.noneB y i l = false by simp [Wb.noneB, h1])
    go_enter Try.func19, Try.ntmps19
    go_wp2
    go_ret
    exact ⟨Wb.ret_bool HN.out.symm, by (repeat' (first | (with_reducible assumption) | (with_reducible exact Wb.Ext.refl _) | (with_reducible refine Wb.Ext.drew ?_) | (with_reducible refine Wb.Ext.drewN ?_ _) | (with_reducible refine Wb.Ext.alloc ?_ _) | (with_reducible refine Wb.Ext.trans ?_ (by assumption))))⟩
theorem rwrong_any (y i : Int) (v : Value) (l : List Wb.Ln) (w : World) (hl : Lns w v l) (hs : Sized l) :
    Calls Try.prog 36 #[SlV y i v] w fun e w' => e = .returned (.int .i64 (Wb.wrongE y i l)) ∧ Wb.Ext w w' := by
  obtain ⟨a, c, rfl⟩ := hl.shape
  have HL := Lib.hid hl
  have HS := Lib.hid hs
  clear hl hs
  obtain ⟨b, hb⟩ : ∃ b, Wb.noneB y i l = b := ⟨_, rfl⟩
  have HB := Lib.hid hb
  have HW := Lib.hid (show Wb.wrongE y i l = if b = true then 0 else Wb.check y i l by rw [Wb.wrongE, hb])
  clear hb
  go_enter Try.func36, Try.ntmps36
  go_wp2_with fail
  go_fit (rzero_any y i _ l _ (HL.out.ext (by (repeat' (first | (with_reducible assumption) | (with_reducible exact Wb.Ext.refl _) | (with_reducible refine Wb.Ext.drew ?_) | (with_reducible refine Wb.Ext.drewN ?_ _) | (with_reducible refine Wb.Ext.alloc ?_ _) | (with_reducible refine Wb.Ext.trans ?_ (by assumption))))))); rintro e w1 ⟨rfl, hb1⟩
  rw [HB.out]
  have c0 : w1.cell? ⟨w.heap.size, 0, none⟩ = some (.int .i64 y) := hb1.keep (by simp [go_sem])
  have c1 : w1.cell? ⟨w.heap.size, 1, none⟩ = some (.int .i64 i) := hb1.keep (by simp [go_sem])
  have c2 : w1.cell? ⟨w.heap.size, 2, none⟩ = some (.slice a l.length c) := hb1.keep (by simp [go_sem])
  have hx1 : Wb.Ext w w1 := by (repeat' (first | (with_reducible assumption) | (with_reducible exact Wb.Ext.refl _) | (with_reducible refine Wb.Ext.drew ?_) | (with_reducible refine Wb.Ext.drewN ?_ _) | (with_reducible refine Wb.Ext.alloc ?_ _) | (with_reducible refine Wb.Ext.trans ?_ (by assumption))))
  cases b
  · go_wp2_with fail
    go_fit (rcheck_any y i _ l _ (HL.out.ext hx1) HS.out); rintro e w2 ⟨rfl, hb2⟩
    go_wp2
    go_ret
    exact ⟨Wb.ret_int (by rw [HW.out]; rfl), hx1.trans hb2⟩
  · go_wp2
    go_ret
    exact ⟨Wb.ret_int (by rw [HW.out]; rfl), hx1⟩

theorem rahead_any (a b : Wb.Ln) (w : World) :
    Calls Try.prog 60 #[LnV a, LnV b] w fun e w' => e = .returned (.bool (Wb.lnLt a b)) ∧ Wb.Ext w w' := by
  obtain ⟨p, c, n⟩ := a
  obtain ⟨q, d, m⟩ := b
  by_cases h : p < q
  · have H := Lib.hid (show Wb.lnLt ⟨p, c, n⟩ ⟨q, d, m⟩ = true by simp [Wb.lnLt, h])
    go_enter Try.func60, Try.ntmps60
    go_wp2
    go_ret
    exact ⟨by rw [H.out]; rfl, by (repeat' (first | (with_reducible assumption) | (with_reducible exact Wb.Ext.refl _) | (with_reducible refine Wb.Ext.drew ?_) | (with_reducible refine Wb.Ext.drewN ?_ _) | (with_reducible refine Wb.Ext.alloc ?_ _) | (with_reducible refine Wb.Ext.trans ?_ (by assumption))))⟩
  · have h' : decide (p < q) = false := by simpa using h
    cases he : (p == q)
    · have H := Lib.hid (show Wb.lnLt ⟨p, c, n⟩ ⟨q, d, m⟩ = false by simp only [Wb.lnLt, h', he]; rfl)
      go_enter Try.func60, Try.ntmps60
      go_wp2
      go_ret
      exact ⟨by rw [H.out]; rfl, by (repeat' (first | (with_reducible assumption) | (with_reducible exact Wb.Ext.refl _) | (with_reducible refine Wb.Ext.drew ?_) | (with_reducible refine Wb.Ext.drewN ?_ _) | (with_reducible refine Wb.Ext.alloc ?_ _) | (with_reducible refine Wb.Ext.trans ?_ (by assumption))))⟩
    · have H := Lib.hid (show Wb.lnLt ⟨p, c, n⟩ ⟨q, d, m⟩ = Op.bytesLess c d by simp only [Wb.lnLt, h', he]; rfl)
      go_enter Try.func60, Try.ntmps60
      go_wp2
      go_ret
      exact ⟨by rw [H.out]; rfl, by (repeat' (first | (with_reducible assumption) | (with_reducible exact Wb.Ext.refl _) | (with_reducible refine Wb.Ext.drew ?_) | (with_reducible refine Wb.Ext.drewN ?_ _) | (with_reducible refine Wb.Ext.alloc ?_ _) | (with_reducible refine Wb.Ext.trans ?_ (by assumption))))⟩


theorem rfits02_any (c : Int) (w : World) :
    Calls Try.prog 38 #[.int .i64 c] w fun e w' => e = .returned (.bool (Wb.fits c)) ∧ w = w' := by
  by_cases h : -1125899906842624 ≤ c
  · go_enter Try.func38, Try.ntmps38
    go_wp2
    go_ret
    exact ⟨by simp [Wb.fits, h], rfl⟩
  · have h' : decide (-1125899906842624 ≤ c) = false := by simpa using h
    go_enter Try.func38, Try.ntmps38
    go_wp2
    go_ret
    exact ⟨by rw [Wb.fits, h']; rfl, rfl⟩

set_option maxHeartbeats 1000000 in
theorem amount_any (y i : Int) (v : Value) (l : List Wb.Ln) (p : Int) (c : List UInt8) (w : World) (hl : Lns w v l) (hr : Wb.Rise l) (hn : l.length ≤ 1000000) :
    Calls Try.prog 37 #[SlV y i v, .int .i64 p, .string (Wb.S c)] w fun e w' => e = .returned (.int .i64 (Wb.lval p c l)) ∧ Wb.Ext w w' := by
  obtain ⟨va, vc, rfl⟩ := hl.shape
  have HL := Lib.hid hl
  have HR := Lib.hid hr
  clear hl hr
  go_enter Try.func37, Try.ntmps37
  go_wp2_with fail
  have HX := Lib.hid (show Wb.Ext w (w.alloc (.cells #[.int .i64 y, .int .i64 i, .slice va l.length vc] 24)) from by (repeat' (first | (with_reducible assumption) | (with_reducible exact Wb.Ext.refl _) | (with_reducible refine Wb.Ext.drew ?_) | (with_reducible refine Wb.Ext.drewN ?_ _) | (with_reducible refine Wb.Ext.alloc ?_ _) | (with_reducible refine Wb.Ext.trans ?_ (by assumption)))))
  go_loop [7] (fun iv => ∃ k : Nat, k ≤ l.length ∧ iv = .int .i64 k ∧ Hid (∀ t x, l[t]? = some x → t < k → ¬ (x.part = p ∧ x.code = c))) (fun iv => l.length - (intOf iv).toNat)
  case atStart => exact ⟨0, Nat.zero_le _, rfl, Lib.hid (fun t x _ h => absurd h (Nat.not_lt_zero _))⟩
  case round =>
    obtain ⟨k, hk, rfl, HLO⟩ := hrel
    by_cases hlt : k < l.length
    · obtain ⟨x, hx⟩ := Wb.get_ex hlt
      obtain ⟨b, off, rfl, hcells⟩ := (HL.out.ext HX.out).opened (tne hlt)
      obtain ⟨c0, c1, c2⟩ := hcells _ x hx
      have hki : (k : Int) < l.length := by omega
      have HY := Lib.hid hx
      clear hcells hx
      by_cases h1 : x.part = p
      · have d1 : (x.part == p) = true := by simpa using h1
        by_cases h2 : x.code = c
        · have d2 : (x.code == c) = true := by simpa using h2
          have HV := Lib.hid (show Wb.lval p c l = x.cents by rw [← h1, ← h2]; exact Wb.lval_mem HR.out (List.mem_of_getElem? HY.out))
          clear h1 h2
          go_wp2
          go_ret
          exact ⟨Wb.ret_int HV.out.symm, HX.out⟩
        · have d2 : (x.code == c) = false := by simpa using h2
          have HLO2 : Hid (∀ t x, l[t]? = some x → t < k + 1 → ¬ (x.part = p ∧ x.code = c)) := Lib.hid (fun t z ht htk => by
            rcases Nat.lt_or_ge t k with q | q
            · exact HLO.out t z ht q
            · obtain rfl : t = k := by omega
              rw [HY.out] at ht; cases ht; exact fun e => h2 e.2)
          clear h1 h2
          go_wp2
          go_round
          case rel => exact ⟨k + 1, by omega, by go_num, HLO2⟩
          case measure => simp [intOf]; omega
      · have d1 : (x.part == p) = false := by simpa using h1
        have HLO2 : Hid (∀ t x, l[t]? = some x → t < k + 1 → ¬ (x.part = p ∧ x.code = c)) := Lib.hid (fun t z ht htk => by
          rcases Nat.lt_or_ge t k with q | q
          · exact HLO.out t z ht q
          · obtain rfl : t = k := by omega
            rw [HY.out] at ht; cases ht; exact fun e => h1 e.1)
        clear h1
        go_wp2
        go_round
        case rel => exact ⟨k + 1, by omega, by go_num, HLO2⟩
        case measure => simp [intOf]; omega
    · obtain rfl : k = l.length := by omega
      have HV := Lib.hid (show Wb.lval p c l = 0 from Wb.lval_none fun x hx e => by
        obtain ⟨t, ht⟩ := List.getElem?_of_mem hx
        exact HLO.out t x ht (List.getElem?_eq_some_iff.1 ht).1 e)
      go_wp2
      go_ret
      exact ⟨Wb.ret_int HV.out.symm, HX.out⟩

/-- a test that is true only where P is -/
def ShortPost (P : Prop) (w : World) (e : Ending) (w' : World) : Prop := ∃ s : Bool, e = .returned (.bool s) ∧ (s = true → P) ∧ Wb.Ext w w'
theorem ShortPost.mk {P : Prop} {w w' : World} {e : Ending} (s : Bool) (h1 : e = .returned (.bool s)) (h2 : s = true → P) (h3 : Wb.Ext w w') : ShortPost P w e w' := ⟨s, h1, h2, h3⟩
/-- is a slip short? -/
def shortB (l : List Wb.Ln) : Bool := decide (l.length ≤ 40) && l.all fun x => decide (x.code.length ≤ 60)
theorem short_iff {l : List Wb.Ln} : shortB l = true ↔ l.length ≤ 40 ∧ ∀ x ∈ l, x.code.length ≤ 60 := by simp [shortB]
set_option maxHeartbeats 1000000 in
/-- a slip that is found short has few lines -/
theorem rshort_any (y i : Int) (v : Value) (l : List Wb.Ln) (w : World) (hl : Lns w v l) (hs : Sized l) :
    Calls Try.prog 11 #[SlV y i v] w (ShortPost (l.length ≤ 40) w) := by
  obtain ⟨va, vc, rfl⟩ := hl.shape
  have HL := Lib.hid hl
  have HS := Lib.hid hs.2
  have hn := hs.1
  clear hl hs
  go_enter Try.func11, Try.ntmps11
  go_wp2_with fail
  have HX := Lib.hid (show Wb.Ext w (w.alloc (.cells #[.int .i64 y, .int .i64 i, .slice va l.length vc] 24)) from by (repeat' (first | (with_reducible assumption) | (with_reducible exact Wb.Ext.refl _) | (with_reducible refine Wb.Ext.drew ?_) | (with_reducible refine Wb.Ext.drewN ?_ _) | (with_reducible refine Wb.Ext.alloc ?_ _) | (with_reducible refine Wb.Ext.trans ?_ (by assumption)))))
  go_loop [3] (fun iv => ∃ k : Nat, k ≤ l.length ∧ k ≤ 40 ∧ iv = .int .i64 k) (fun iv => l.length - (intOf iv).toNat)
  case atStart => exact ⟨0, Nat.zero_le _, Nat.zero_le _, rfl⟩
  case round =>
    obtain ⟨k, hk, hk40, rfl⟩ := hrel
    by_cases hlt : k < l.length
    · have hki : (k : Int) < l.length := by omega
      by_cases h40 : k < 40
      · have d40 : decide ((k : Int) < 40) = true := by simp; omega
        obtain ⟨x, hx⟩ := Wb.get_ex hlt
        obtain ⟨b, off, rfl, hcells⟩ := (HL.out.ext HX.out).opened (tne hlt)
        obtain ⟨c0, c1, c2⟩ := hcells _ x hx
        have hxc := HS.out x (List.mem_of_getElem? hx)
        clear hcells hx
        by_cases h60 : 60 < x.code.length
        · have d60 : decide ((60 : Int) < (x.code.length : Int)) = true := by simp; omega
          go_wp2
          go_ret
          exact ShortPost.mk false rfl (fun h => by cases h) (HX.out)
        · have d60 : decide ((60 : Int) < (x.code.length : Int)) = false := by simp; omega
          go_wp2
          go_round
          case rel => exact ⟨k + 1, by omega, by omega, by go_num⟩
          case measure => simp [intOf]; omega
      · obtain rfl : k = 40 := by omega
        have d : decide ((l.length : Int) ≤ 40) = false := by simp; omega
        go_wp2
        go_ret
        exact ShortPost.mk false rfl (fun h => by cases h) (HX.out)
    · obtain rfl : k = l.length := by omega
      by_cases h40 : l.length < 40
      · have d40 : decide ((l.length : Int) < 40) = true := by simp; omega
        have d : decide ((l.length : Int) ≤ 40) = true := by simp; omega
        go_wp2
        go_ret
        exact ShortPost.mk true rfl (fun _ => by omega) (HX.out)
      · have d : decide ((l.length : Int) ≤ 40) = true := by simp; omega
        go_wp2
        go_ret
        exact ShortPost.mk true rfl (fun _ => by omega) (HX.out)
set_option maxHeartbeats 1000000 in
theorem rshorts_any (v : Value) (L : List Wb.Sl) (m : Nat) (w : World) (hL : Sls w v L) (hm : m ≤ 1000000) (_ : L.length ≤ 4398046511104) :
    Calls Try.prog 12 #[v, .int .i64 m] w (ShortPost (L.length ≤ m ∧ ∀ x ∈ L, x.l.length ≤ 40) w) := by
  obtain ⟨va, vc, rfl⟩ := hL.1.shape
  have HL := Lib.hid hL
  clear hL
  go_enter Try.func12, Try.ntmps12
  go_wp2_with fail
  go_loopw [5] (fun iv wr => ∃ k : Nat, k ≤ L.length ∧ k ≤ m + 1 ∧ iv = .int .i64 k ∧ Hid (∀ t x, L[t]? = some x → t < k → x.l.length ≤ 40) ∧ Wb.Ext w wr) (fun iv _ => L.length - (intOf iv).toNat)
  case atStart => exact ⟨0, Nat.zero_le _, Nat.zero_le _, rfl, Lib.hid (fun t x _ h => absurd h (Nat.not_lt_zero _)), .refl _⟩
  case round =>
    obtain ⟨k, hk, hkm, rfl, HLO, hext⟩ := hrel
    by_cases hlt : k < L.length
    · have hki : (k : Int) < L.length := by omega
      by_cases hm2 : k ≤ m
      · have dm : decide (k ≤ m) = true := by simpa using hm2
        obtain ⟨s, hs⟩ := Wb.get_ex hlt
        obtain ⟨b, off, rfl, c0, c1, c2⟩ := (HL.out.ext hext).cells hs
        have HS := Lib.hid ((HL.out.ext hext).2 s (List.mem_of_getElem? hs))
        have HY := Lib.hid hs
        clear hs
        go_wp2_with fail
        go_fit (rshort_any s.y s.i _ s.l _ HS.out.1.1 HS.out.2); rintro e w1 ⟨q, rfl, hq, hb1⟩
        have HQ := Lib.hid hq
        clear hq
        cases q
        · go_wp2
          go_ret
          exact ShortPost.mk false rfl (fun h => by cases h) (hext.trans hb1)
        · have HLO2 : Hid (∀ t x, L[t]? = some x → t < k + 1 → x.l.length ≤ 40) := Lib.hid (fun t z ht htk => by
            rcases Nat.lt_or_ge t k with q | q
            · exact HLO.out t z ht q
            · obtain rfl : t = k := by omega
              rw [HY.out] at ht; cases ht; exact HQ.out rfl)
          go_wp2
          go_roundw
          case rel => exact ⟨k + 1, by omega, by omega, by go_num, HLO2, hext.trans hb1⟩
          case measure => simp [intOf]; omega
      · have dm : decide (k ≤ m) = false := by simpa using hm2
        have d : decide (L.length ≤ m) = false := by simp; omega
        go_wp2
        go_ret
        exact ShortPost.mk false rfl (fun h => by cases h) (hext)
    · obtain rfl : k = L.length := by omega
      have HA := Lib.hid (show ∀ x ∈ L, x.l.length ≤ 40 from fun x hx => by
        obtain ⟨t, ht⟩ := List.getElem?_of_mem hx
        exact HLO.out t x ht (List.getElem?_eq_some_iff.1 ht).1)
      by_cases hm2 : L.length ≤ m
      · have dm : decide (L.length ≤ m) = true := by simpa using hm2
        go_wp2
        go_ret
        exact ShortPost.mk true rfl (fun _ => ⟨hm2, HA.out⟩) (hext)
      · have dm : decide (L.length ≤ m) = false := by simpa using hm2
        go_wp2
        go_ret
        exact ShortPost.mk false rfl (fun h => by cases h) (hext)

set_option maxHeartbeats 2000000 in
theorem rnet_any (v : Value) (L : List Wb.Sl) (w : World) (hL : Sls w v L) (hl : L.length ≤ 1000000) :
    Calls Try.prog 16 #[v] w fun e w' => e = Two (Wb.netF 0 L) ∧ Wb.Ext w w' := by
  obtain ⟨va, vc, rfl⟩ := hL.1.shape
  have HL := Lib.hid hL
  clear hL
  go_enter Try.func16, Try.ntmps16
  go_wp2_with fail
  go_loopw [5, 4] (fun iv sv wr => ∃ (k : Nat) (acc : Int), k ≤ L.length ∧ iv = .int .i64 k ∧ sv = .int .i64 acc ∧ Hid (Wb.fits acc = true ∧ Wb.netF 0 L = Wb.netF acc (L.drop k)) ∧ Wb.Ext w wr) (fun iv _ _ => L.length - (intOf iv).toNat)
  case atStart => exact ⟨0, 0, Nat.zero_le _, rfl, rfl, Lib.hid ⟨by decide, rfl⟩, .refl _⟩
  case round =>
    obtain ⟨k, acc, hk, rfl, rfl, HA, hext⟩ := hrel
    by_cases hlt : k < L.length
    · obtain ⟨s, hs⟩ := Wb.get_ex hlt
      obtain ⟨b, off, rfl, c0, c1, c2⟩ := (HL.out.ext hext).cells hs
      have hki : (k : Int) < L.length := by omega
      have HD := Lib.hid (drop_at hs)
      have HS := Lib.hid ((HL.out.ext hext).2 s (List.mem_of_getElem? hs))
      clear hs
      go_wp2_with fail
      go_fit (rzero_any s.y s.i _ s.l _ HS.out.1.1); rintro e w1 ⟨rfl, hb1⟩
      have c0 := hb1.keep c0
      have c1 := hb1.keep c1
      have c2 := hb1.keep c2
      obtain ⟨p, hp⟩ : ∃ p, Wb.noneB s.y s.i s.l = p := ⟨_, rfl⟩
      have HP := Lib.hid hp
      rw [hp]
      clear hp
      cases p
      · obtain ⟨⟨q1, q2, q3, q4, q5⟩, hq⟩ : ∃ q, Wb.sums s.y s.i s.l = q := ⟨_, rfl⟩
        have HQ := Lib.hid hq
        have HQF := Lib.hid (Wb.sums_law hq)
        clear hq
        go_wp2_with fail
        go_fit (rsums_any s.y s.i _ s.l _ (HS.out.1.1.ext hb1) HS.out.2); rintro e w2 ⟨rfl, hb2⟩
        rw [HQ.out]
        have hx2 : Wb.Ext w w2 := (hext.trans hb1).trans hb2
        clear hb2 hb1 c0 c1 c2
        by_cases he : q5 = 0
        · subst he
          obtain ⟨f, hf⟩ : ∃ f, Wb.fits (acc + q3) = f := ⟨_, rfl⟩
          have HF := Lib.hid hf
          clear hf
          obtain ⟨fa1, fa2⟩ := (Wb.fits_iff _).1 HA.out.1
          obtain ⟨_, _, _, ⟨fq1, fq2⟩, _⟩ := HQF.out
          go_wp2_with fail
          go_fit (rfits02_any (acc + q3) _); rintro e w3 ⟨rfl, rfl⟩
          rw [HF.out]
          cases f
          · have HN := Lib.hid (show Wb.netF 0 L = (0, 9) by rw [HA.out.2, HD.out, net_over HP.out HQ.out HF.out])
            go_wp2
            refine bodyPost_ret (v := .tuple #[.int .i64 0, .int .i64 9]) (by simp [results, Try.results16, go_sem]) rfl ⟨by rw [HN.out], hx2⟩
          · have HN := Lib.hid (show Wb.netF 0 L = Wb.netF (acc + q3) (L.drop (k + 1)) by rw [HA.out.2, HD.out, net_more HP.out HQ.out HF.out])
            go_wp2
            go_roundw
            case rel => exact ⟨k + 1, acc + q3, by omega, by go_num, rfl, Lib.hid ⟨HF.out, HN.out⟩, hx2⟩
            case measure => simp [intOf]; omega
        · have d : (q5 == 0) = false := by simpa using he
          have d2 : (q5 != 0) = true := by simpa using he
          have HN := Lib.hid (show Wb.netF 0 L = (0, q5) by rw [HA.out.2, HD.out, net_err HP.out HQ.out he])
          go_wp2
          refine bodyPost_ret (v := .tuple #[.int .i64 0, .int .i64 q5]) (by simp [results, Try.results16, go_sem]) rfl ⟨by rw [HN.out], hx2⟩
      · have HN := Lib.hid (show Wb.netF 0 L = Wb.netF acc (L.drop (k + 1)) by rw [HA.out.2, HD.out, net_none HP.out])
        go_wp2
        go_roundw
        case rel => exact ⟨k + 1, acc, by omega, by go_num, rfl, Lib.hid ⟨HA.out.1, HN.out⟩, hext.trans hb1⟩
        case measure => simp [intOf]; omega
    · obtain rfl : k = L.length := by omega
      have HN := Lib.hid (show Wb.netF 0 L = (acc, 0) by rw [HA.out.2, List.drop_length, Wb.netF])
      go_wp2
      refine bodyPost_ret (v := .tuple #[.int .i64 acc, .int .i64 0]) (by simp [results, Try.results16, go_sem]) rfl ⟨by rw [HN.out], hext⟩

end Go.Proofs.Ytdfmlgjemfcmlaa
