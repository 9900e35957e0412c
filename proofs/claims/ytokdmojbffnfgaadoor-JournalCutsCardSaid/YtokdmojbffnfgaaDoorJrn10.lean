/- The reference's digits, Line, Text. -/
import Derived.Test.YtokdmojbffnfgaaDoorJrn9
namespace Go.Proofs.YtokdmojbffnfgaaDoor
open Go.RowKit
set_option maxRecDepth 4000

def D10 (n q : Nat) (l : List UInt8) : Prop := (l = [] ∧ q = n) ∨ (l ≠ [] ∧ (q = 0 → Wb.digs n = l) ∧ (0 < q → Wb.digs n = Wb.digs q ++ l))
theorem D10.step {n q : Nat} {l : List UInt8} (h : D10 n q l) (hc : 0 < q ∨ l = []) : D10 n (q / 10) (Wb.dig (q % 10) :: l) := by
  have h1 : Wb.digs n = Wb.digs q ++ l := by
    rcases h with ⟨h0, rfl⟩ | ⟨h0, h1, h2⟩
    · rw [h0, List.append_nil]
    · exact h2 (hc.resolve_right h0)
  refine .inr ⟨by simp, fun h => ?_, fun h => ?_⟩
  · rw [h1, Wb.digs_lt (n := q) (by omega), Nat.mod_eq_of_lt (by omega)]; rfl
  · rw [h1, Wb.digs_ge (n := q) (by omega), List.append_assoc]; rfl
theorem D10.done {n : Nat} {l : List UInt8} (h : D10 n 0 l) (hl : l ≠ []) : Wb.digs n = l := by
  rcases h with ⟨h0, _⟩ | ⟨_, h1, _⟩
  · exact absurd h0 hl
  · exact h1 rfl
theorem D10.len {n q : Nat} {l : List UInt8} (h : D10 n q l) : l.length ≤ (Wb.digs n).length := by
  rcases h with ⟨h0, _⟩ | ⟨_, h1, h2⟩
  · rw [h0]; simp
  · rcases Nat.eq_zero_or_pos q with k | k
    · rw [h1 k]; exact Nat.le_refl _
    · rw [h2 k]; simp

set_option maxHeartbeats 1000000 in
theorem rdig10 (n : Nat) (hn : n ≤ 1125899906842624) (w : World) :
    Calls Tryd.prog 45 #[.int .u64 (n : Int), .int .u64 10, .int .i64 1] w fun e w' => e = .returned (.string (Wb.S (Wb.digs n))) ∧ Wb.Ext w w' := by
  have hdl := Wb.digs_length 15 n (by omega)
  go_enter Tryd.func45, Tryd.ntmps45
  go_wp2_with fail
  go_loopw [0, 7] (fun nv sv wr => ∃ (q : Nat) (l : List UInt8), nv = .int .u64 (q : Int) ∧ sv = .string (Wb.S l) ∧ q ≤ n ∧ D10 n q l ∧ Wb.Ext w wr) (fun nv sv _ => 2 * (intOf nv).toNat + (1 - Wb.strOf sv))
  case atStart => exact ⟨n, [], rfl, rfl, Nat.le_refl _, .inl ⟨rfl, rfl⟩, by (repeat' (first | (with_reducible assumption) | (with_reducible exact Wb.Ext.refl _) | (with_reducible refine Wb.Ext.drew ?_) | (with_reducible refine Wb.Ext.drewN ?_ _) | (with_reducible refine Wb.Ext.alloc ?_ _) | (with_reducible refine Wb.Ext.trans ?_ (by assumption))))⟩
  case round =>
    obtain ⟨q, l, rfl, rfl, hq, hd, hext⟩ := hrel
    have hll := hd.len
    have HD := Lib.hid hd
    clear hd
    obtain ⟨r, hr⟩ : ∃ r, q % 10 = r := ⟨_, rfl⟩
    have hr10 : r < 10 := by omega
    have hri : (q : Int) % 10 = (r : Int) := by omega
    have HRN := Lib.hid hr
    have kc : ∀ (w : World) (b : Nat), w.cell? ⟨b, 0, none⟩ = some (.int .u8 ((r : Int) + 48)) → (convert 47 9 (.slice (some ⟨b, 0, none⟩) 1 1)).run Tryd.prog w = .ok (.string (Wb.S [Wb.dig r])) w := by
      intro w b hc
      have := conv1c w b ((r : Int) + 48) (by omega) hc
      rw [this, show ((r : Int) + 48).toNat = 48 + r by omega]; rfl
    have e1 : IntKind.u8.wrap (r : Int) = (r : Int) := by rw [IntKind.wrap_u8]; omega
    have e2 : decide ((r : Int) < 10) = true := by simp; omega
    have e3 : IntKind.u8.wrap ((r : Int) + 48) = (r : Int) + 48 := by rw [IntKind.wrap_u8]; omega
    clear hr
    by_cases h0 : 0 < q
    · have HN := Lib.hid (HD.out.step (.inl h0))
      have d0 : decide ((0 : Int) < (q : Int)) = true := by simp; omega
      have d0' : decide (0 < q) = true := by simp; omega
      go_wp2
      go_roundw
      case rel => exact ⟨q / 10, _, by go_num, rfl, by omega, by have := HN.out; rw [HRN.out] at this; exact this, by (repeat' (first | (with_reducible assumption) | (with_reducible exact Wb.Ext.refl _) | (with_reducible refine Wb.Ext.drew ?_) | (with_reducible refine Wb.Ext.drewN ?_ _) | (with_reducible refine Wb.Ext.alloc ?_ _) | (with_reducible refine Wb.Ext.trans ?_ (by assumption))))⟩
      case measure => simp [intOf, Wb.strOf, Wb.S_size]; omega
    · obtain rfl : q = 0 := by omega
      by_cases hl : l = []
      · subst hl
        obtain rfl : r = 0 := by have := HRN.out; omega
        have HN := Lib.hid (HD.out.step (.inr rfl))
        go_wp2
        go_roundw
        case rel => exact ⟨0, _, by go_num, rfl, by omega, by have := HN.out; exact this, by (repeat' (first | (with_reducible assumption) | (with_reducible exact Wb.Ext.refl _) | (with_reducible refine Wb.Ext.drew ?_) | (with_reducible refine Wb.Ext.drewN ?_ _) | (with_reducible refine Wb.Ext.alloc ?_ _) | (with_reducible refine Wb.Ext.trans ?_ (by assumption))))⟩
        case measure => simp [intOf, Wb.strOf, Wb.S_size]
      · have hpos : 0 < l.length := List.length_pos_iff.2 hl
        have HE := Lib.hid (HD.out.done hl)
        have d1 : decide ((l.length : Int) < 1) = false := by simp; omega
        have d1' : decide (l.length < 1) = false := by simp; omega
        clear hl
        go_wp2
        go_ret
        exact ⟨Wb.ret_str HE.out.symm, by (repeat' (first | (with_reducible assumption) | (with_reducible exact Wb.Ext.refl _) | (with_reducible refine Wb.Ext.drew ?_) | (with_reducible refine Wb.Ext.drewN ?_ _) | (with_reducible refine Wb.Ext.alloc ?_ _) | (with_reducible refine Wb.Ext.trans ?_ (by assumption))))⟩

def H16 (m q : Nat) (l : List UInt8) : Prop := l.length ≤ 16 ∧ q < 16 ^ (16 - l.length) ∧ Wb.hexN (16 - l.length) q ++ l = Wb.hex m
theorem H16.step {m q : Nat} {l : List UInt8} (h : H16 m q l) (hl : l.length < 16) : H16 m (q / 16) (Wb.hexd (q % 16) :: l) := by
  obtain ⟨_, h2, h3⟩ := h
  obtain ⟨j, hj⟩ : ∃ j, 16 - l.length = j + 1 := ⟨15 - l.length, by omega⟩
  have hj2 : 16 - (l.length + 1) = j := by omega
  rw [hj] at h2 h3
  refine ⟨by simp; omega, ?_, ?_⟩
  · rw [List.length_cons, hj2]; rw [Nat.pow_succ] at h2; omega
  · rw [List.length_cons, hj2, ← h3, Wb.hexN, List.append_assoc]; rfl
theorem H16.done {m q : Nat} {l : List UInt8} (h : H16 m q l) (hl : l.length = 16) : Wb.hex m = l ∧ q = 0 := by
  obtain ⟨_, h2, h3⟩ := h
  rw [hl] at h2 h3
  exact ⟨by rw [← h3]; rfl, by simpa using h2⟩

set_option maxHeartbeats 1000000 in
theorem rdig16 (m : Nat) (hm : m < Wb.MM) (w : World) :
    Calls Tryd.prog 45 #[.int .u64 (m : Int), .int .u64 16, .int .i64 16] w fun e w' => e = .returned (.string (Wb.S (Wb.hex m))) ∧ Wb.Ext w w' := by
  have hm2 : m < 18446744073709551616 := by rw [Wb.MM] at hm; exact hm
  have H0 := Lib.hid (show H16 m m [] from ⟨by simp, by simpa using hm2, by simp [Wb.hex]⟩)
  clear hm
  go_enter Tryd.func45, Tryd.ntmps45
  go_wp2_with fail
  go_loopw [0, 7] (fun nv sv wr => ∃ (q : Nat) (l : List UInt8), nv = .int .u64 (q : Int) ∧ sv = .string (Wb.S l) ∧ q ≤ m ∧ H16 m q l ∧ Wb.Ext w wr) (fun _ sv _ => 16 - Wb.strOf sv)
  case atStart => exact ⟨m, [], rfl, rfl, Nat.le_refl _, H0.out, by (repeat' (first | (with_reducible assumption) | (with_reducible exact Wb.Ext.refl _) | (with_reducible refine Wb.Ext.drew ?_) | (with_reducible refine Wb.Ext.drewN ?_ _) | (with_reducible refine Wb.Ext.alloc ?_ _) | (with_reducible refine Wb.Ext.trans ?_ (by assumption))))⟩
  case round =>
    obtain ⟨q, l, rfl, rfl, hq, hd, hext⟩ := hrel
    have hll := hd.1
    have HD := Lib.hid hd
    clear hd
    obtain ⟨r, hr⟩ : ∃ r, q % 16 = r := ⟨_, rfl⟩
    have hr16 : r < 16 := by omega
    have hri : (q : Int) % 16 = (r : Int) := by omega
    have HRN := Lib.hid hr
    have e1 : IntKind.u8.wrap (r : Int) = (r : Int) := by rw [IntKind.wrap_u8]; omega
    clear hr
    by_cases hl : l.length = 16
    · obtain ⟨h1, h2⟩ := HD.out.done hl
      subst h2
      have HE := Lib.hid h1
      have d1 : decide ((l.length : Int) < 16) = false := by simp; omega
      have d1' : decide (l.length < 16) = false := by simp; omega
      clear h1 hl
      go_wp2
      go_ret
      exact ⟨Wb.ret_str HE.out.symm, by (repeat' (first | (with_reducible assumption) | (with_reducible exact Wb.Ext.refl _) | (with_reducible refine Wb.Ext.drew ?_) | (with_reducible refine Wb.Ext.drewN ?_ _) | (with_reducible refine Wb.Ext.alloc ?_ _) | (with_reducible refine Wb.Ext.trans ?_ (by assumption))))⟩
    · have HN := Lib.hid (HD.out.step (by omega))
      have d1 : decide ((l.length : Int) < 16) = true := by simp; omega
      have d1' : decide (l.length < 16) = true := by simp; omega
      rw [HRN.out] at HN
      by_cases h10 : r < 10
      · have kc : ∀ (w : World) (b : Nat), w.cell? ⟨b, 0, none⟩ = some (.int .u8 ((r : Int) + 48)) → (convert 47 9 (.slice (some ⟨b, 0, none⟩) 1 1)).run Tryd.prog w = .ok (.string (Wb.S [Wb.hexd r])) w := by
          intro w b hc
          have := conv1c w b ((r : Int) + 48) (by omega) hc
          rw [this, show ((r : Int) + 48).toNat = 48 + r by omega, Wb.hexd, if_pos h10]
        have e2 : decide ((r : Int) < 10) = true := by simp; omega
        have e3 : IntKind.u8.wrap ((r : Int) + 48) = (r : Int) + 48 := by rw [IntKind.wrap_u8]; omega
        cases h0 : decide (0 < q)
        all_goals
          have h0i : decide ((0 : Int) < (q : Int)) = decide (0 < q) := by simp
          rw [h0] at h0i
          go_wp2
          go_roundw
          case rel => exact ⟨q / 16, _, by go_num, rfl, by omega, HN.out, by (repeat' (first | (with_reducible assumption) | (with_reducible exact Wb.Ext.refl _) | (with_reducible refine Wb.Ext.drew ?_) | (with_reducible refine Wb.Ext.drewN ?_ _) | (with_reducible refine Wb.Ext.alloc ?_ _) | (with_reducible refine Wb.Ext.trans ?_ (by assumption))))⟩
          case measure => simp [Wb.strOf, Wb.S_size]; omega
      · have kc : ∀ (w : World) (b : Nat), w.cell? ⟨b, 0, none⟩ = some (.int .u8 ((r : Int) - 10 + 97)) → (convert 47 9 (.slice (some ⟨b, 0, none⟩) 1 1)).run Tryd.prog w = .ok (.string (Wb.S [Wb.hexd r])) w := by
          intro w b hc
          have := conv1c w b ((r : Int) - 10 + 97) (by omega) hc
          rw [this, show ((r : Int) - 10 + 97).toNat = 87 + r by omega, Wb.hexd, if_neg h10]
        have e2 : decide ((r : Int) < 10) = false := by simp; omega
        have e2' : decide (r < 10) = false := by simp; omega
        have e3 : IntKind.u8.wrap ((r : Int) - 10) = (r : Int) - 10 := by rw [IntKind.wrap_u8]; omega
        have e4 : IntKind.u8.wrap ((r : Int) - 10 + 97) = (r : Int) - 10 + 97 := by rw [IntKind.wrap_u8]; omega
        cases h0 : decide (0 < q)
        all_goals
          have h0i : decide ((0 : Int) < (q : Int)) = decide (0 < q) := by simp
          rw [h0] at h0i
          go_wp2
          go_roundw
          case rel => exact ⟨q / 16, _, by go_num, rfl, by omega, HN.out, by (repeat' (first | (with_reducible assumption) | (with_reducible exact Wb.Ext.refl _) | (with_reducible refine Wb.Ext.drew ?_) | (with_reducible refine Wb.Ext.drewN ?_ _) | (with_reducible refine Wb.Ext.alloc ?_ _) | (with_reducible refine Wb.Ext.trans ?_ (by assumption))))⟩
          case measure => simp [Wb.strOf, Wb.S_size]; omega

end Go.Proofs.YtokdmojbffnfgaaDoor
