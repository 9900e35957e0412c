/- A text as bytes, a byte of it turned, and back. -/
import Derived.Test.YtokdmojbffnfgaaDoorJrn15
namespace Go.Proofs.YtokdmojbffnfgaaDoor
open Go.RowKit
set_option maxRecDepth 4000

theorem xor8 (a b : Nat) (ha : a < 256) (hb : b < 256) : bits .xor .u8 (a : Int) (b : Int) = ((a ^^^ b : Nat) : Int) := by
  have hx : a ^^^ b < 2 ^ 8 := Nat.xor_lt_two_pow (by omega) (by omega)
  have h1 : (BitVec.ofInt 8 (a : Int)).toNat = a := by
    rw [BitVec.ofInt_natCast, BitVec.toNat_ofNat]; exact Nat.mod_eq_of_lt (by omega)
  have h2 : (BitVec.ofInt 8 (b : Int)).toNat = b := by
    rw [BitVec.ofInt_natCast, BitVec.toNat_ofNat]; exact Nat.mod_eq_of_lt (by omega)
  show IntKind.u8.wrap ((BitVec.ofInt 8 (a : Int) ^^^ BitVec.ofInt 8 (b : Int)).toNat : Int) = _
  rw [BitVec.toNat_xor, h1, h2, IntKind.wrap_u8]
  omega
/-- a byte turned -/
def turnB (c : UInt8) (b : Nat) : UInt8 := UInt8.ofNat (c.toNat ^^^ b)
theorem turnB_val (c : UInt8) (b : Nat) (hb : b < 256) : bits .xor .u8 ((c.toNat : Nat) : Int) (b : Int) = ((turnB c b).toNat : Int) := by
  have hc := c.toNat_lt
  rw [xor8 _ _ (by omega) hb, turnB, UInt8.toNat_ofNat']
  have : c.toNat ^^^ b < 2 ^ 8 := Nat.xor_lt_two_pow (by omega) (by omega)
  rw [Nat.mod_eq_of_lt (by omega)]
theorem turnB_ne (c : UInt8) (b : Nat) (hb : b < 256) (h0 : b ≠ 0) : c ≠ turnB c b := by
  intro h
  have h1 := congrArg UInt8.toNat h
  have hc := c.toNat_lt
  rw [turnB, UInt8.toNat_ofNat'] at h1
  have h2 : c.toNat ^^^ b < 2 ^ 8 := Nat.xor_lt_two_pow (by omega) (by omega)
  rw [Nat.mod_eq_of_lt (by omega)] at h1
  have h3 : c.toNat ^^^ (c.toNat ^^^ b) = c.toNat ^^^ c.toNat := by rw [← h1]
  rw [← Nat.xor_assoc, Nat.xor_self, Nat.zero_xor] at h3
  exact h0 h3
theorem turnB_zero (c : UInt8) : turnB c 0 = c := by simp [turnB]

/-- '[]byte(s)': a new row that holds the bytes, none of them frozen -/
theorem conv_bytes2 (w : World) (c : List UInt8) :
    ∃ w1 cap, (convert 9 47 (.string (Wb.S c))).run Tryd.prog w = .ok (.slice (some ⟨w.heap.size, 0, none⟩) c.length cap) w1 ∧ Wb.Ext w w1 ∧ w.heap.size < w1.heap.size ∧ (∀ j, j < c.length → w1.cell? ⟨w.heap.size, j, none⟩ = some (.int .u8 ((Wb.byteAt c j).toNat : Int))) ∧ ∀ j, j < c.length → w1.frozen? ⟨w.heap.size, j, none⟩ = false := by
  have h := run_bytes_of_string (P := Tryd.prog) w 9 47 5 (Wb.S c) Tryd.underlying9 Tryd.underlying47 Tryd.underlying5
  rw [Wb.S_size] at h
  have hsz : c.length ≤ (bytesRow (Wb.S c) (grownCap w c.length 0 5)).size := by
    rcases Nat.lt_or_ge (bytesRow (Wb.S c) (grownCap w c.length 0 5)).size c.length with k | k
    · have := bytesRow_at (Wb.S c) (grownCap w c.length 0 5) (bytesRow (Wb.S c) (grownCap w c.length 0 5)).size (by simpa [Wb.S] using k)
      simp at this
    · exact k
  refine ⟨_, _, h, ((Wb.Ext.refl w).drew).alloc _, by simp, fun j hj => ?_, fun j hj => ?_⟩
  · have hj' : j < (Wb.S c).data.size := by simpa [Wb.S] using hj
    have h2 := World.cell?_alloc_mark w.drew (bytesRow (Wb.S c) (grownCap w c.length 0 5)) 5 ((bytesRow (Wb.S c) (grownCap w c.length 0 5)).size, (bytesRow (Wb.S c) (grownCap w c.length 0 5)).size + 1) j
    refine (show _ = _ from h2).trans ?_
    rw [bytesRow_at (Wb.S c) _ j hj', Wb.byteAt_eq hj]
    rfl
  · have h2 := World.frozen?_alloc_mark w.drew (bytesRow (Wb.S c) (grownCap w c.length 0 5)) 5 (bytesRow (Wb.S c) (grownCap w c.length 0 5)).size ((bytesRow (Wb.S c) (grownCap w c.length 0 5)).size + 1) j
    refine (show _ = _ from h2).trans ?_
    have : decide ((bytesRow (Wb.S c) (grownCap w c.length 0 5)).size ≤ j) = false := by simp; omega
    rw [this]; rfl
/-- 'string(b)' -/
theorem conv_back (w : World) (b cap : Nat) (c : List UInt8) (h : ∀ j, j < c.length → w.cell? ⟨b, j, none⟩ = some (.int .u8 ((Wb.byteAt c j).toNat : Int))) :
    (convert 47 9 (.slice (some ⟨b, 0, none⟩) c.length cap)).run Tryd.prog w = .ok (.string (Wb.S c)) w := by
  refine run_convert_bytes_back (P := Tryd.prog) w 47 9 5 ⟨b, 0, none⟩ cap c Tryd.underlying47 Tryd.underlying5 Tryd.underlying9 (fun j hj => ?_)
  have h1 := h j hj
  rw [Wb.byteAt_eq hj] at h1
  by_cases h0 : j = 0
  · subst h0; simpa [Addr.add] using h1
  · simpa [Addr.add, h0] using h1
theorem turned_at {u v : List UInt8} {c c' : UInt8} {j : Nat} (h : j ≠ u.length) : Wb.byteAt (u ++ c' :: v) j = Wb.byteAt (u ++ c :: v) j := by
  rcases Nat.lt_trichotomy j u.length with k | k | k
  · rw [Wb.byteAt_left k, Wb.byteAt_left k]
  · exact absurd k h
  · rw [Wb.byteAt_right (by omega), Wb.byteAt_right (by omega)]
    obtain ⟨i, hi⟩ : ∃ i, j - u.length = i + 1 := ⟨j - u.length - 1, by omega⟩
    rw [hi, Wb.byteAt_cons, Wb.byteAt_cons]
/-- behind the store of a turned byte -/
theorem bytes_set {w : World} {b i n : Nat} {u v : List UInt8} {c c' : UInt8} (hu : u.length = i) (hc : ∀ j, j < n → w.cell? ⟨b, j, none⟩ = some (.int .u8 ((Wb.byteAt (u ++ c :: v) j).toNat : Int))) (hin : i < n) (j : Nat) (hj : j < n) :
    (w.setCell ⟨b, i, none⟩ (.int .u8 (c'.toNat : Int))).cell? ⟨b, j, none⟩ = some (.int .u8 ((Wb.byteAt (u ++ c' :: v) j).toNat : Int)) := by
  subst hu
  have hb := Wb.cell_size (hc j hj)
  by_cases h : j = u.length
  · subst h
    have h1 := hc _ hin
    rw [Wb.byteAt_right (Nat.le_refl _), Nat.sub_self, Wb.byteAt_cons0]
    simp [go_sem, h1, hb]
  · rw [turned_at (c := c) h]
    have h1 := hc j hj
    have hne : ¬ u.length = j := fun e => h e.symm
    simp [go_sem, hne, h1]
theorem split_at {l : List UInt8} {i : Nat} (h : i < l.length) : ∃ u c v, l = u ++ c :: v ∧ u.length = i ∧ l.take i = u ∧ c = Wb.byteAt l i := by
  refine ⟨l.take i, l[i], l.drop (i + 1), ?_, by simp; omega, rfl, (Wb.byteAt_eq h).symm⟩
  rw [← List.drop_eq_getElem_cons h, List.take_append_drop]

theorem count_any (t : List UInt8) (w : World) :
    Calls Tryd.prog 23 #[.string (Wb.S t), .string (Wb.S [10])] w fun e w' => e = .returned (.int .i64 (t.count 10 : Nat)) ∧ w = w' := by
  have h := Tryd.strings_Count_one (Wb.S t) 10 w
  rw [show (⟨#[10]⟩ : ByteArray) = Wb.S [10] by simp [Wb.S]] at h
  refine h.mono ?_
  rintro e w' ⟨rfl, rfl⟩
  exact ⟨by rw [show (Wb.S t).data.toList = t by simp [Wb.S]]; rfl, rfl⟩

end Go.Proofs.YtokdmojbffnfgaaDoor
