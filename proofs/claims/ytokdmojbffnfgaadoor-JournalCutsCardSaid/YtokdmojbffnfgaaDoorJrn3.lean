/- The walks of package journal: hex. -/
import Derived.Test.YtokdmojbffnfgaaDoorJrn2
namespace Go.Proofs.YtokdmojbffnfgaaDoor
open Go.RowKit
set_option maxRecDepth 4000

theorem hexN_get {k : Nat} : ∀ {n j : Nat}, j < k → (Wb.hexN k n)[j]? = some (Wb.hexd (n / 16 ^ (k - 1 - j) % 16)) := by
  induction k with
  | zero => intro n j h; omega
  | succ k ih =>
    intro n j h
    rw [Wb.hexN]
    by_cases hj : j < k
    · rw [List.getElem?_append_left (by rw [Wb.hexN_length]; exact hj), ih hj, Nat.div_div_eq_div_mul, show k + 1 - 1 - j = k - 1 - j + 1 by omega, Nat.pow_succ, Nat.mul_comm]
    · have : j = k := by omega
      subst this
      rw [List.getElem?_append_right (by rw [Wb.hexN_length]; omega), Wb.hexN_length]
      simp
theorem hexdig (r : Nat) (h : r < 16) (w : World) : (Instr.index 9 (.string ⟨#[48, 49, 50, 51, 52, 53, 54, 55, 56, 57, 97, 98, 99, 100, 101, 102]⟩) (.int .u64 (r : Int))).run Tryd.prog w = .ok (.int .u8 ((Wb.hexd r).toNat : Int)) w := by
  have e : r = 0 ∨ r = 1 ∨ r = 2 ∨ r = 3 ∨ r = 4 ∨ r = 5 ∨ r = 6 ∨ r = 7 ∨ r = 8 ∨ r = 9 ∨ r = 10 ∨ r = 11 ∨ r = 12 ∨ r = 13 ∨ r = 14 ∨ r = 15 := by omega
  rcases e with rfl | rfl | rfl | rfl | rfl | rfl | rfl | rfl | rfl | rfl | rfl | rfl | rfl | rfl | rfl | rfl <;> (show _ = _; kernel_rfl)

/-- sixteen bytes in a block: those from k on are of the list, the others 0 -/
def HexB (w : World) (b : Nat) (ds : List UInt8) (k : Nat) : Prop :=
  (∀ j, j < 16 → w.cell? ⟨b, j, none⟩ = some (.int .u8 (if k ≤ j then ((Wb.byteAt ds j).toNat : Int) else 0))) ∧ (∀ j, w.frozen? ⟨b, j, none⟩ = false) ∧ b < w.heap.size

theorem HexB.set {w : World} {b k : Nat} {ds : List UInt8} {u : UInt8} (h : HexB w b ds (k + 1)) (hk : k < 16) (hu : u = Wb.byteAt ds k) : HexB (w.setCell ⟨b, k, none⟩ (.int .u8 (u.toNat : Int))) b ds k := by
  obtain ⟨h1, h2, h3⟩ := h
  refine ⟨fun j hj => ?_, fun j => by simp [go_sem, h2], by simpa using h3⟩
  by_cases hjk : j = k
  · subst hjk
    rw [if_pos (Nat.le_refl _), ← hu]
    have hc := h1 j hj
    simp [go_sem, hc, h2, h3]
  · have hc := h1 j hj
    have hne : ¬ k = j := fun e => hjk e.symm
    have e : (w.setCell ⟨b, k, none⟩ (.int .u8 (u.toNat : Int))).cell? ⟨b, j, none⟩ = w.cell? ⟨b, j, none⟩ := by simp [go_sem, hne]
    rw [e, hc]
    by_cases hlt : k + 1 ≤ j
    · rw [if_pos hlt, if_pos (by omega)]
    · rw [if_neg hlt, if_neg (by omega)]
set_option maxHeartbeats 1000000 in
theorem hex_any (m : Nat) (hm : m < Wb.MM) (w : World) :
    Calls Tryd.prog 44 #[.int .u64 (m : Int)] w fun e w' => e = .returned (.string (Wb.S (Wb.hex m))) ∧ Wb.Ext w w' := by
  have hm2 : m < 18446744073709551616 := by rw [Wb.MM] at hm; exact hm
  obtain ⟨ds, hds⟩ : ∃ ds, Wb.hex m = ds := ⟨_, rfl⟩
  have hlen : ds.length = 16 := by rw [← hds]; exact Wb.hexN_length _ _
  have HDG : Hid (∀ j, j < 16 → Wb.byteAt ds j = Wb.hexd (m / 16 ^ (15 - j) % 16)) := by
    intro j hj
    rw [Wb.byteAt, ← hds, Wb.hex, hexN_get hj]; rfl
  have HDS := Lib.hid hds
  have HLEN := Lib.hid hlen
  have HM2 := Lib.hid hm2
  clear hds hlen hm2 hm
  go_enter Tryd.func44, Tryd.ntmps44
  go_wp2_with fail
  go_loopw [0, 4] (fun mv iv wr => ∃ (k z : Nat) (i : Int), k ≤ 16 ∧ i + 1 = k ∧ iv = .int .i64 i ∧ mv = .int .u64 (z : Int) ∧ z = m / 16 ^ (16 - k) ∧ HexB wr w.heap.size ds k ∧ Wb.Ext w wr) (fun _ iv _ => (20 + intOf iv).toNat)
  case atStart =>
    refine ⟨16, m, 15, by omega, by omega, rfl, rfl, by simp, ⟨fun j hj => ?_, fun j => by simp [go_sem], by simp⟩, by (repeat' (first | (with_reducible assumption) | (with_reducible exact Wb.Ext.refl _) | (with_reducible refine Wb.Ext.drew ?_) | (with_reducible refine Wb.Ext.drewN ?_ _) | (with_reducible refine Wb.Ext.alloc ?_ _) | (with_reducible refine Wb.Ext.trans ?_ (by assumption))))⟩
    rw [if_neg (by omega)]
    have e : j = 0 ∨ j = 1 ∨ j = 2 ∨ j = 3 ∨ j = 4 ∨ j = 5 ∨ j = 6 ∨ j = 7 ∨ j = 8 ∨ j = 9 ∨ j = 10 ∨ j = 11 ∨ j = 12 ∨ j = 13 ∨ j = 14 ∨ j = 15 := by omega
    rcases e with rfl | rfl | rfl | rfl | rfl | rfl | rfl | rfl | rfl | rfl | rfl | rfl | rfl | rfl | rfl | rfl <;> simp [go_sem]
  case round =>
    obtain ⟨k, z, i, hk, hik, rfl, rfl, hz, hhex, hext⟩ := hrel
    have HZ := Lib.hid hz
    have HH := Lib.hid hhex
    have hzl : z < 18446744073709551616 := by rw [hz]; exact Nat.lt_of_le_of_lt (Nat.div_le_self _ _) HM2.out
    clear hz hhex
    by_cases hk0 : k = 0
    · subst hk0
      obtain rfl : i = -1 := by omega
      have kc : (convert 47 9 (.slice (some ⟨w.heap.size, 0, none⟩) 16 16)).run Tryd.prog wr = .ok (.string (Wb.S ds)) wr := by
        have := run_convert_bytes_back (P := Tryd.prog) wr 47 9 5 ⟨w.heap.size, 0, none⟩ 16 ds Tryd.underlying47 Tryd.underlying5 Tryd.underlying9 (fun j hj => ?_)
        · rw [HLEN.out] at this; exact this
        · have h1 := HH.out.1 j (by rw [← HLEN.out]; exact hj)
          rw [if_pos (Nat.zero_le _), Wb.byteAt_eq hj] at h1
          by_cases h0 : j = 0
          · subst h0; simpa [Addr.add] using h1
          · simpa [Addr.add, h0] using h1
      go_wp2
      go_ret
      exact ⟨Wb.ret_str (by rw [HDS.out]), by (repeat' (first | (with_reducible assumption) | (with_reducible exact Wb.Ext.refl _) | (with_reducible refine Wb.Ext.drew ?_) | (with_reducible refine Wb.Ext.drewN ?_ _) | (with_reducible refine Wb.Ext.alloc ?_ _) | (with_reducible refine Wb.Ext.trans ?_ (by assumption))))⟩
    · obtain ⟨j, rfl⟩ : ∃ j, k = j + 1 := ⟨k - 1, by omega⟩
      obtain rfl : i = (j : Int) := by omega
      have hj16 : (j : Int) < 16 := by omega
      have hcell := HH.out.1 j (by omega)
      rw [if_neg (by omega)] at hcell
      have hfz := HH.out.2.1 j
      have hb := HH.out.2.2
      have hix : ∀ w, (Instr.index 9 (.string ⟨#[48, 49, 50, 51, 52, 53, 54, 55, 56, 57, 97, 98, 99, 100, 101, 102]⟩) (.int .u64 ((z : Int) % 16))).run Tryd.prog w = .ok (.int .u8 ((Wb.hexd (z % 16)).toNat : Int)) w := fun w => by
        have := hexdig (z % 16) (Nat.mod_lt _ (by decide)) w
        rw [show ((z % 16 : Nat) : Int) = (z : Int) % 16 by omega] at this
        exact this
      have HU := Lib.hid (show Wb.hexd (z % 16) = Wb.byteAt ds j by rw [HDG.out j (by omega), HZ.out, show 16 - (j + 1) = 15 - j by omega])
      go_wp2
      go_roundw
      case rel => exact ⟨j, z / 16, (j : Int) - 1, by omega, by omega, rfl, congrArg (Value.int .u64) (by omega), by rw [HZ.out, Nat.div_div_eq_div_mul, ← Nat.pow_succ]; congr 2; omega, HH.out.set (by omega) HU.out, by (repeat' (first | (with_reducible assumption) | (with_reducible exact Wb.Ext.refl _) | (with_reducible refine Wb.Ext.drew ?_) | (with_reducible refine Wb.Ext.drewN ?_ _) | (with_reducible refine Wb.Ext.alloc ?_ _) | (with_reducible refine Wb.ext_set ?_ (by first | assumption | (simp; done) | (simp; omega) | omega) _) | (with_reducible refine Wb.Ext.trans ?_ (by assumption))))⟩
      case measure => simp [intOf]; omega

end Go.Proofs.YtokdmojbffnfgaaDoor
