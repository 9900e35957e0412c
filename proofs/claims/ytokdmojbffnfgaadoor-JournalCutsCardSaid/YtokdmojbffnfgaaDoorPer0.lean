/- Texts of whole numbers and of periods. -/
import Derived.Test.YtokdmojbffnfgaaDoorBase
import Derived.Test.YtokdmojbffnfgaaDoorPlain01
import Derived.Test.YtokdmojbffnfgaaDoorShelf
import Derived.Deep.QuietTactic
import Derived.BigQuiet
import Derived.Deep.RegionHeld3
import Derived.WalkSmall
import Derived.Deep.DeepFit
namespace Go.Proofs.YtokdmojbffnfgaaDoor
open Go.RowKit
set_option maxRecDepth 4000

theorem dec_digs (n : Nat) : Lib.decDigits n = Wb.digs n := by
  induction n using Nat.strongRecOn with
  | _ n ih =>
    by_cases h : n < 10
    · rw [Wb.digs_lt h, Lib.decDigits, dif_pos h]; rfl
    · rw [Wb.digs_ge (by omega), Lib.decDigits, dif_neg h, ih (n / 10) (by omega)]; rfl
/-- a whole number's text -/
def itoa (n : Int) : List UInt8 := if n < 0 then 45 :: Wb.digs n.natAbs else Wb.digs n.natAbs
theorem itoa_lib (n : Int) : Lib.itoa n = itoa n := by
  unfold Lib.itoa itoa
  split
  · rw [dec_digs]
  · rw [dec_digs, show n.toNat = n.natAbs by omega]
theorem itoa_len (n : Int) (h : -1125899906842624 ≤ n ∧ n ≤ 1125899906842624) : (itoa n).length ≤ 17 := by
  have := Wb.digs_length 15 n.natAbs (by omega)
  unfold itoa; split <;> simp <;> omega
/-- a period's text -/
def ptext (y i : Int) : List UInt8 := itoa y ++ 47 :: ((if 0 ≤ i ∧ i < 10 then [48] else []) ++ itoa i)

def Tab10 (w : World) : Prop := Lib.TabIs Tryd.prog w "internal/strconv.uint64pow10" .u64 Lib.pow10Tab
theorem g10 : Tryd.prog.globalNamed "internal/strconv.uint64pow10" = some 1 := by kernel_rfl
theorem Tab10.ext {w w' : World} (h : Tab10 w) (k : Wb.Ext w w') : Tab10 w' := by
  refine var?_below k g10 ?_ h
  have := Lib.TabIs.cell h g10 0 (by decide)
  exact Wb.cell_size this

theorem itoa_any (n : Int) (h : -1125899906842624 ≤ n ∧ n ≤ 1125899906842624) (w : World) (ht : Tab10 w) :
    Calls Tryd.prog 43 #[.int .i64 n] w fun e w' => e = .returned (.string (Wb.S (itoa n))) ∧ Wb.Ext w w' :=
  (Tryd.strconv_Itoa n (by omega) (by omega) w ht).mono fun e w' ⟨he, k, os, hw⟩ => ⟨by rw [he, itoa_lib]; rfl, by rw [hw]; exact ⟨rfl, rfl, rfl, by show w.heap.size ≤ (w.heap ++ os).size; simp, fun i hi => by show (w.heap ++ os)[i]? = w.heap[i]?; exact Array.getElem?_append_left hi⟩⟩

theorem conv1c (w : World) (b : Nat) (n : Int) (h : 0 ≤ n ∧ n ≤ 255) (hc : w.cell? ⟨b, 0, none⟩ = some (.int .u8 n)) :
    (convert 47 9 (.slice (some ⟨b, 0, none⟩) 1 1)).run Tryd.prog w = .ok (.string (Wb.S [UInt8.ofNat n.toNat])) w := by
  refine run_convert_bytes_back w 47 9 5 ⟨b, 0, none⟩ 1 [UInt8.ofNat n.toNat] Tryd.underlying47 Tryd.underlying5 Tryd.underlying9 (fun j hj => ?_)
  have hj0 : j = 0 := by simpa using hj
  subst hj0
  have e : ((n.toNat % 256 : Nat) : Int) = n := by omega
  simp only [List.getElem_cons_zero, UInt8.toNat_ofNat', e]
  simpa [Addr.add] using hc

end Go.Proofs.YtokdmojbffnfgaaDoor
