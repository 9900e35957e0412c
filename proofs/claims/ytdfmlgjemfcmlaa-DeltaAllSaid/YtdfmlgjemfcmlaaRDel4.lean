/- Slips as they are handed in: however great; those that are short. -/
import Derived.Test.YtdfmlgjemfcmlaaRDel3
namespace Go.Proofs.Ytdfmlgjemfcmlaa
open Go.RowKit
set_option maxRecDepth 8000
attribute [local go_sem ↓] Go.wp_at_zero Go.wp_at_succ

def BigL (l : List Wb.Ln) : Prop := l.length ≤ 9223372036854775807 ∧ ∀ x ∈ l, x.code.length ≤ 9223372036854775807
def Few (l : List Wb.Ln) : Prop := l.length ≤ 40 ∧ ∀ x ∈ l, x.code.length ≤ 60
theorem Few.sized {l : List Wb.Ln} (h : Few l) : Sized l := ⟨Nat.le_trans h.1 (by decide), fun x hx => Nat.le_trans (h.2 x hx) (by decide)⟩
/-- slips in memory, however great -/
def SlsW (w : World) (v : Value) (L : List Wb.Sl) : Prop := Tbl 3 slc w v L ∧ ∀ s ∈ L, LnsS w s.v s.l ∧ BigL s.l
theorem SlsW.ext {w w' : World} {v : Value} {L : List Wb.Sl} (h : SlsW w v L) (k : Wb.Ext w w') : SlsW w' v L := ⟨h.1.ext k, fun s hs => ⟨(h.2 s hs).1.ext k, (h.2 s hs).2⟩⟩
theorem SlsW.cells {w : World} {a : Option Addr} {n cap : Nat} {L : List Wb.Sl} (h : SlsW w (.slice a n cap) L) {k : Nat} {s : Wb.Sl} (hk : L[k]? = some s) : ∃ b off, a = some ⟨b, off, none⟩ ∧ w.cell? ⟨b, off + k * 3, none⟩ = some (.int .i64 s.y) ∧ w.cell? ⟨b, off + k * 3 + 1, none⟩ = some (.int .i64 s.i) ∧ w.cell? ⟨b, off + k * 3 + 2, none⟩ = some s.v := by
  obtain ⟨b, off, rfl, hc⟩ := h.1.opened (by rintro rfl; simp at hk)
  exact ⟨b, off, rfl, hc k s hk 0 _ rfl, hc k s hk 1 _ rfl, hc k s hk 2 _ rfl⟩
theorem SlsW.sls {w : World} {v : Value} {L : List Wb.Sl} (h : SlsW w v L) (k : ∀ s ∈ L, Few s.l) : Sls w v L := ⟨h.1, fun s hs => ⟨(h.2 s hs).1.1, (k s hs).sized⟩⟩

set_option maxHeartbeats 1000000 in
/-- a slip that is found short has few lines -/
theorem rshort2_any (y i : Int) (v : Value) (l : List Wb.Ln) (w : World) (hl : Lns w v l) (hs : BigL l) :
    Calls Try.prog 11 #[SlV y i v] w (ShortPost (Few l) w) := by
  obtain ⟨va, vc, rfl⟩ := hl.shape
  have HL := Lib.hid hl
  have HS := Lib.hid hs.2
  have hn := hs.1
  clear hl hs
  go_enter Try.func11, Try.ntmps11
  go_wp2_with fail
  have HX := Lib.hid (show Wb.Ext w (w.alloc (.cells #[.int .i64 y, .int .i64 i, .slice va l.length vc] 24)) from by (repeat' (first | (with_reducible assumption) | (with_reducible exact Wb.Ext.refl _) | (with_reducible refine Wb.Ext.drew ?_) | (with_reducible refine Wb.Ext.drewN ?_ _) | (with_reducible refine Wb.Ext.alloc ?_ _) | (with_reducible refine Wb.Ext.trans ?_ (by assumption)))))
  go_loop [3] (fun iv => ∃ k : Nat, k ≤ l.length ∧ k ≤ 40 ∧ iv = .int .i64 k ∧ Hid (∀ t x, l[t]? = some x → t < k → x.code.length ≤ 60)) (fun iv => l.length - (intOf iv).toNat)
  case atStart => exact ⟨0, Nat.zero_le _, Nat.zero_le _, rfl, Lib.hid (fun t x _ h => absurd h (Nat.not_lt_zero _))⟩
  case round =>
    obtain ⟨k, hk, hk40, rfl, HLO⟩ := hrel
    by_cases hlt : k < l.length
    · have hki : (k : Int) < l.length := by omega
      by_cases h40 : k < 40
      · have d40 : decide ((k : Int) < 40) = true := by simp; omega
        obtain ⟨x, hx⟩ := Wb.get_ex hlt
        obtain ⟨b, off, rfl, hcells⟩ := (HL.out.ext HX.out).opened (tne hlt)
        obtain ⟨c0, c1, c2⟩ := hcells _ x hx
        have hxc := HS.out x (List.mem_of_getElem? hx)
        have HY := Lib.hid hx
        clear hcells hx
        by_cases h60 : 60 < x.code.length
        · have d60 : decide ((60 : Int) < (x.code.length : Int)) = true := by simp; omega
          go_wp2
          go_ret
          exact ShortPost.mk false rfl (fun h => by cases h) (HX.out)
        · have d60 : decide ((60 : Int) < (x.code.length : Int)) = false := by simp; omega
          have HLO2 : Hid (∀ t x, l[t]? = some x → t < k + 1 → x.code.length ≤ 60) := Lib.hid (fun t z ht htk => by
            rcases Nat.lt_or_ge t k with q | q
            · exact HLO.out t z ht q
            · obtain rfl : t = k := by omega
              rw [HY.out] at ht; cases ht; omega)
          go_wp2
          go_round
          case rel => exact ⟨k + 1, by omega, by omega, by go_num, HLO2⟩
          case measure => simp [intOf]; omega
      · obtain rfl : k = 40 := by omega
        have d : decide ((l.length : Int) ≤ 40) = false := by simp; omega
        go_wp2
        go_ret
        exact ShortPost.mk false rfl (fun h => by cases h) (HX.out)
    · obtain rfl : k = l.length := by omega
      have HA := Lib.hid (show ∀ x ∈ l, x.code.length ≤ 60 from fun x hx => by
        obtain ⟨t, ht⟩ := List.getElem?_of_mem hx
        exact HLO.out t x ht (List.getElem?_eq_some_iff.1 ht).1)
      by_cases h40 : l.length < 40
      · have d40 : decide ((l.length : Int) < 40) = true := by simp; omega
        have d : decide ((l.length : Int) ≤ 40) = true := by simp; omega
        go_wp2
        go_ret
        exact ShortPost.mk true rfl (fun _ => ⟨by omega, HA.out⟩) (HX.out)
      · have d : decide ((l.length : Int) ≤ 40) = true := by simp; omega
        go_wp2
        go_ret
        exact ShortPost.mk true rfl (fun _ => ⟨by omega, HA.out⟩) (HX.out)
set_option maxHeartbeats 1000000 in
theorem rshorts2_any (v : Value) (L : List Wb.Sl) (m : Nat) (w : World) (hL : SlsW w v L) (hm : m ≤ 1000000) (_ : L.length ≤ 9223372036854775807) :
    Calls Try.prog 12 #[v, .int .i64 m] w (ShortPost (L.length ≤ m ∧ ∀ x ∈ L, Few x.l) w) := by
  obtain ⟨va, vc, rfl⟩ := hL.1.shape
  have HL := Lib.hid hL
  clear hL
  go_enter Try.func12, Try.ntmps12
  go_wp2_with fail
  go_loopw [5] (fun iv wr => ∃ k : Nat, k ≤ L.length ∧ k ≤ m + 1 ∧ iv = .int .i64 k ∧ Hid (∀ t x, L[t]? = some x → t < k → Few x.l) ∧ Wb.Ext w wr) (fun iv _ => L.length - (intOf iv).toNat)
  case atStart => exact ⟨0, Nat.zero_le _, Nat.zero_le _, rfl, Lib.hid (fun t x _ h => absurd h (Nat.not_lt_zero _)), .refl _⟩
  case round =>
    obtain ⟨k, hk, hkm, rfl, HLO, hext⟩ := hrel
    by_cases hlt : k < L.length
    · have hki : (k : Int) < L.length := by omega
      by_cases hm2 : k ≤ m
      · have dm : decide (k ≤ m) = true := by simpa using hm2
        obtain ⟨s, hs⟩ := Wb.get_ex hlt
        obtain ⟨b, off, rfl, c0, c1, c2⟩ := (HL.out.ext hext).cells hs
        have HS := Lib.hid ((HL.out.ext hext).2 s (List.mem_of_getElem? hs))
        have HY := Lib.hid hs
        clear hs
        go_wp2_with fail
        go_fit (rshort2_any s.y s.i _ s.l _ HS.out.1.1.1 HS.out.2); rintro e w1 ⟨q, rfl, hq, hb1⟩
        have HQ := Lib.hid hq
        clear hq
        cases q
        · go_wp2
          go_ret
          exact ShortPost.mk false rfl (fun h => by cases h) (hext.trans hb1)
        · have HLO2 : Hid (∀ t x, L[t]? = some x → t < k + 1 → Few x.l) := Lib.hid (fun t z ht htk => by
            rcases Nat.lt_or_ge t k with q | q
            · exact HLO.out t z ht q
            · obtain rfl : t = k := by omega
              rw [HY.out] at ht; cases ht; exact HQ.out rfl)
          go_wp2
          go_roundw
          case rel => exact ⟨k + 1, by omega, by omega, by go_num, HLO2, hext.trans hb1⟩
          case measure => simp [intOf]; omega
      · have dm : decide (k ≤ m) = false := by simpa using hm2
        have d : decide (L.length ≤ m) = false := by simp; omega
        go_wp2
        go_ret
        exact ShortPost.mk false rfl (fun h => by cases h) (hext)
    · obtain rfl : k = L.length := by omega
      have HA := Lib.hid (show ∀ x ∈ L, Few x.l from fun x hx => by
        obtain ⟨t, ht⟩ := List.getElem?_of_mem hx
        exact HLO.out t x ht (List.getElem?_eq_some_iff.1 ht).1)
      by_cases hm2 : L.length ≤ m
      · have dm : decide (L.length ≤ m) = true := by simpa using hm2
        go_wp2
        go_ret
        exact ShortPost.mk true rfl (fun _ => ⟨hm2, HA.out⟩) (hext)
      · have dm : decide (L.length ≤ m) = false := by simpa using hm2
        go_wp2
        go_ret
        exact ShortPost.mk false rfl (fun h => by cases h) (hext)


end Go.Proofs.Ytdfmlgjemfcmlaa
