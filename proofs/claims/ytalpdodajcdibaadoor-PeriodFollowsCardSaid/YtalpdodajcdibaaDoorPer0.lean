/- Texts of whole numbers and of periods. -/
import Derived.Test.YtalpdodajcdibaaDoorBase
import Derived.Test.YtalpdodajcdibaaDoorPlain01
import Derived.Test.YtalpdodajcdibaaDoorShelf
import Derived.Deep.QuietTactic
import Derived.BigQuiet
import Derived.Deep.RegionHeld3
import Derived.WalkSmall
import Derived.Deep.DeepFit
namespace Go.Proofs.YtalpdodajcdibaaDoor
open Go.RowKit
set_option maxRecDepth 4000

theorem dec_digs (n : Nat) : Lib.decDigits n = Wb.digs n := by
  induction n using Nat.strongRecOn with
  | _ n ih =>
    by_cases h : n < 10
    · rw [Wb.digs_lt h, Lib.decDigits, dif_pos h]; rfl
    · rw [Wb.digs_ge (by omega), Lib.decDigits, dif_neg h, ih (n / 10) (by omega)]; rfl
/-- a whole number's text -/
def itoa (n : Int) : List UInt8 := if n < 0 then 45 :: Wb.digs n.natAbs else Wb.digs n.natAbs
theorem itoa_lib (n : Int) : Lib.itoa n = itoa n := by
  unfold Lib.itoa itoa
  split
  · rw [dec_digs]
  · rw [dec_digs, show n.toNat = n.natAbs by omega]
theorem itoa_len (n : Int) (h : -1125899906842624 ≤ n ∧ n ≤ 1125899906842624) : (itoa n).length ≤ 17 := by
  have := Wb.digs_length 15 n.natAbs (by omega)
  unfold itoa; split <;> simp <;> omega
/-- a period's text -/
def ptext (y i : Int) : List UInt8 := itoa y ++ 47 :: ((if 0 ≤ i ∧ i < 10 then [48] else []) ++ itoa i)

def Tab10 (w : World) : Prop := Lib.TabIs Tryd.prog w "internal/strconv.uint64pow10" .u64 Lib.pow10Tab
theorem g10 : Tryd.prog.globalNamed "internal/strconv.uint64pow10" = some 2 := by kernel_rfl
theorem Tab10.ext {w w' : World} (h : Tab10 w) (k : Wb.Ext w w') : Tab10 w' := by
  refine var?_below k g10 ?_ h
  have := Lib.TabIs.cell h g10 0 (by decide)
  exact Wb.cell_size this

theorem itoa_any (n : Int) (h : -1125899906842624 ≤ n ∧ n ≤ 1125899906842624) (w : World) (ht : Tab10 w) :
    Calls Tryd.prog 32 #[.int .i64 n] w fun e w' => e = .returned (.string (Wb.S (itoa n))) ∧ Wb.Ext w w' :=
  (Tryd.strconv_Itoa n (by omega) (by omega) w ht).mono fun e w' ⟨he, k, os, hw⟩ => ⟨by rw [he, itoa_lib]; rfl, by rw [hw]; exact ⟨rfl, rfl, rfl, by show w.heap.size ≤ (w.heap ++ os).size; simp, fun i hi => by show (w.heap ++ os)[i]? = w.heap[i]?; exact Array.getElem?_append_left hi⟩⟩

theorem conv1c (w : World) (b : Nat) (n : Int) (h : 0 ≤ n ∧ n ≤ 255) (hc : w.cell? ⟨b, 0, none⟩ = some (.int .u8 n)) :
    (convert 78 9 (.slice (some ⟨b, 0, none⟩) 1 1)).run Tryd.prog w = .ok (.string (Wb.S [UInt8.ofNat n.toNat])) w := by
  refine run_convert_bytes_back w 78 9 5 ⟨b, 0, none⟩ 1 [UInt8.ofNat n.toNat] Tryd.underlying78 Tryd.underlying5 Tryd.underlying9 (fun j hj => ?_)
  have hj0 : j = 0 := by simpa using hj
  subst hj0
  have e : ((n.toNat % 256 : Nat) : Int) = n := by omega
  simp only [List.getElem_cons_zero, UInt8.toNat_ofNat', e]
  simpa [Addr.add] using hc

set_option maxHeartbeats 400000 in
theorem rdigits_nat (n : Nat) : (n : Int) ≤ 1125899906842624 → ∀ w : World,
    Calls Tryd.prog 33 #[.int .i64 n] w fun e w' => e = .returned (.string (Wb.S (Wb.digs n))) ∧ Wb.Ext w w' := by
  induction n using Nat.strongRecOn with
  | _ n ih =>
    intro hn w
    have IH := Lib.hid ih; clear ih
    by_cases h10 : n < 10
    · have kc : ∀ (w : World) (b : Nat), w.cell? ⟨b, 0, none⟩ = some (.int .u8 (48 + (n : Int))) → (convert 78 9 (.slice (some ⟨b, 0, none⟩) 1 1)).run Tryd.prog w = .ok (.string (Wb.S [Wb.dig n])) w := by
        intro w b hc
        have := conv1c w b (48 + (n : Int)) (by omega) hc
        rw [this, show (48 + (n : Int)).toNat = 48 + n by omega]; rfl
      have H := Lib.hid (Wb.digs_lt h10)
      go_enter Tryd.func33, Tryd.ntmps33
      go_wp2
      go_ret
      exact ⟨Wb.ret_str (by rw [H.out]), (Wb.Ext.refl _).alloc _⟩
    · have kc : ∀ (w : World) (b : Nat), w.cell? ⟨b, 0, none⟩ = some (.int .u8 (48 + (n : Int) % 10)) → (convert 78 9 (.slice (some ⟨b, 0, none⟩) 1 1)).run Tryd.prog w = .ok (.string (Wb.S [Wb.dig (n % 10)])) w := by
        intro w b hc
        have := conv1c w b (48 + (n : Int) % 10) (by omega) hc
        rw [this, show (48 + (n : Int) % 10).toNat = 48 + n % 10 by omega]; rfl
      have H := Lib.hid (Wb.digs_ge (n := n) (by omega))
      have hl := Wb.digs_length 15 (n / 10) (by omega)
      have C : Hid (∀ w : World, Calls Tryd.prog 33 #[.int .i64 ((n : Int) / 10)] w fun e w' => e = .returned (.string (Wb.S (Wb.digs (n / 10)))) ∧ Wb.Ext w w') := fun w => by
        have := IH.out (n / 10) (by omega) (by omega) w
        rwa [show ((n / 10 : Nat) : Int) = (n : Int) / 10 by omega] at this
      go_enter Tryd.func33, Tryd.ntmps33
      have e1 : IntKind.i64.wrap ((n : Int) / 10) = (n : Int) / 10 := IntWalk.i64_in _ (by omega)
      have e2 : (n : Int).tmod 10 = (n : Int) % 10 := IntWalk.rem_in _ _ (by omega)
      have e3 : IntKind.i64.wrap (48 + (n : Int) % 10) = 48 + (n : Int) % 10 := IntWalk.i64_in _ (by omega)
      have e4 : IntKind.u8.wrap (48 + (n : Int) % 10) = 48 + (n : Int) % 10 := IntWalk.u8_in _ (by omega)
      have e5 : IntKind.i64.wrap ((n : Int) % 10) = (n : Int) % 10 := IntWalk.i64_in _ (by omega)
      go_wp2_with fail
      go_region_with (first | (go_at_call 33; go_fit (C.out _); rintro e w' ⟨rfl, hb⟩; obtain ⟨hc, hf⟩ := hb.cells))
      all_goals go_wp2
      all_goals go_ret
      all_goals exact ⟨Wb.ret_str (by rw [H.out]), by (repeat' (first | (with_reducible assumption) | (with_reducible exact Wb.Ext.refl _) | (with_reducible refine Wb.Ext.drew ?_) | (with_reducible refine Wb.Ext.drewN ?_ _) | (with_reducible refine Wb.Ext.alloc ?_ _) | (with_reducible refine Wb.Ext.trans ?_ (by assumption))))⟩

theorem rdigits_any (n : Int) (hn : -1125899906842624 ≤ n ∧ n ≤ 1125899906842624) (w : World) :
    Calls Tryd.prog 33 #[.int .i64 n] w fun e w' => e = .returned (.string (Wb.S (itoa n))) ∧ Wb.Ext w w' := by
  by_cases h0 : n < 0
  · obtain ⟨m, rfl⟩ : ∃ m : Nat, n = -m := ⟨n.natAbs, by omega⟩
    have H := Lib.hid (show itoa (-(m : Int)) = 45 :: Wb.digs m by rw [itoa, if_pos h0]; simp)
    have hl := Wb.digs_length 15 m (by omega)
    go_enter Tryd.func33, Tryd.ntmps33
    go_wp2_with (go_at_call 33; refine (rdigits_nat m (by omega) _).mono ?_; rintro e w' ⟨rfl, hb⟩)
    go_ret
    exact ⟨Wb.ret_str (by rw [H.out] <;> simp), by (repeat' (first | (with_reducible assumption) | (with_reducible exact Wb.Ext.refl _) | (with_reducible refine Wb.Ext.drew ?_) | (with_reducible refine Wb.Ext.drewN ?_ _) | (with_reducible refine Wb.Ext.alloc ?_ _) | (with_reducible refine Wb.Ext.trans ?_ (by assumption))))⟩
  · obtain ⟨m, rfl⟩ : ∃ m : Nat, n = m := ⟨n.natAbs, by omega⟩
    rw [show itoa (m : Int) = Wb.digs m by rw [itoa, if_neg h0]; simp]
    exact rdigits_nat m (by omega) w

theorem ptext_any (y i o f t p : Int) (hy : -1125899906842624 ≤ y ∧ y ≤ 1125899906842624) (hi : -1125899906842624 ≤ i ∧ i ≤ 1125899906842624) (w : World) (ht : Tab10 w) :
    Calls Tryd.prog 13 #[.agg #[.int .i64 y, .int .i64 i, .int .i64 o, .int .i64 f, .int .i64 t, .int .i64 p]] w fun e w' => e = .returned (.string (Wb.S (ptext y i))) ∧ Wb.Ext w w' := by
  have HT := Lib.hid ht; clear ht
  have hl := itoa_len y hy
  have hl2 := itoa_len i hi
  by_cases h0 : 0 ≤ i
  · by_cases h10 : i < 10
    · have H := Lib.hid (show ptext y i = itoa y ++ 47 :: 48 :: itoa i by rw [ptext, if_pos ⟨h0, h10⟩]; rfl)
      go_enter Tryd.func13, Tryd.ntmps13
      go_wp2_with fail
      refine (itoa_any i hi _ (HT.out.ext (by (repeat' (first | (with_reducible assumption) | (with_reducible exact Wb.Ext.refl _) | (with_reducible refine Wb.Ext.drew ?_) | (with_reducible refine Wb.Ext.drewN ?_ _) | (with_reducible refine Wb.Ext.alloc ?_ _) | (with_reducible refine Wb.Ext.trans ?_ (by assumption))))))).mono ?_; rintro e w1 ⟨rfl, hb1⟩
      obtain ⟨hc1, hf1⟩ := hb1.cells
      have hs1 := hb1.size
      go_wp2_with fail
      refine (itoa_any y hy _ (HT.out.ext (by (repeat' (first | (with_reducible assumption) | (with_reducible exact Wb.Ext.refl _) | (with_reducible refine Wb.Ext.drew ?_) | (with_reducible refine Wb.Ext.drewN ?_ _) | (with_reducible refine Wb.Ext.alloc ?_ _) | (with_reducible refine Wb.Ext.trans ?_ (by assumption))))))).mono ?_; rintro e w2 ⟨rfl, hb2⟩
      go_wp2
      go_ret
      exact ⟨Wb.ret_str (by rw [H.out] <;> simp), by (repeat' (first | (with_reducible assumption) | (with_reducible exact Wb.Ext.refl _) | (with_reducible refine Wb.Ext.drew ?_) | (with_reducible refine Wb.Ext.drewN ?_ _) | (with_reducible refine Wb.Ext.alloc ?_ _) | (with_reducible refine Wb.Ext.trans ?_ (by assumption))))⟩
    · have H := Lib.hid (show ptext y i = itoa y ++ 47 :: itoa i by rw [ptext, if_neg (by omega)]; rfl)
      have d10 : decide (i < 10) = false := by simpa using h10
      go_enter Tryd.func13, Tryd.ntmps13
      go_wp2_with fail
      refine (itoa_any i hi _ (HT.out.ext (by (repeat' (first | (with_reducible assumption) | (with_reducible exact Wb.Ext.refl _) | (with_reducible refine Wb.Ext.drew ?_) | (with_reducible refine Wb.Ext.drewN ?_ _) | (with_reducible refine Wb.Ext.alloc ?_ _) | (with_reducible refine Wb.Ext.trans ?_ (by assumption))))))).mono ?_; rintro e w1 ⟨rfl, hb1⟩
      obtain ⟨hc1, hf1⟩ := hb1.cells
      have hs1 := hb1.size
      go_wp2_with fail
      refine (itoa_any y hy _ (HT.out.ext (by (repeat' (first | (with_reducible assumption) | (with_reducible exact Wb.Ext.refl _) | (with_reducible refine Wb.Ext.drew ?_) | (with_reducible refine Wb.Ext.drewN ?_ _) | (with_reducible refine Wb.Ext.alloc ?_ _) | (with_reducible refine Wb.Ext.trans ?_ (by assumption))))))).mono ?_; rintro e w2 ⟨rfl, hb2⟩
      go_wp2
      go_ret
      exact ⟨Wb.ret_str (by rw [H.out] <;> simp), by (repeat' (first | (with_reducible assumption) | (with_reducible exact Wb.Ext.refl _) | (with_reducible refine Wb.Ext.drew ?_) | (with_reducible refine Wb.Ext.drewN ?_ _) | (with_reducible refine Wb.Ext.alloc ?_ _) | (with_reducible refine Wb.Ext.trans ?_ (by assumption))))⟩
  · have H := Lib.hid (show ptext y i = itoa y ++ 47 :: itoa i by rw [ptext, if_neg (by omega)]; rfl)
    have d0 : decide (0 ≤ i) = false := by simpa using h0
    go_enter Tryd.func13, Tryd.ntmps13
    go_wp2_with fail
    refine (itoa_any i hi _ (HT.out.ext (by (repeat' (first | (with_reducible assumption) | (with_reducible exact Wb.Ext.refl _) | (with_reducible refine Wb.Ext.drew ?_) | (with_reducible refine Wb.Ext.drewN ?_ _) | (with_reducible refine Wb.Ext.alloc ?_ _) | (with_reducible refine Wb.Ext.trans ?_ (by assumption))))))).mono ?_; rintro e w1 ⟨rfl, hb1⟩
    obtain ⟨hc1, hf1⟩ := hb1.cells
    have hs1 := hb1.size
    go_wp2_with fail
    refine (itoa_any y hy _ (HT.out.ext (by (repeat' (first | (with_reducible assumption) | (with_reducible exact Wb.Ext.refl _) | (with_reducible refine Wb.Ext.drew ?_) | (with_reducible refine Wb.Ext.drewN ?_ _) | (with_reducible refine Wb.Ext.alloc ?_ _) | (with_reducible refine Wb.Ext.trans ?_ (by assumption))))))).mono ?_; rintro e w2 ⟨rfl, hb2⟩
    go_wp2
    go_ret
    exact ⟨Wb.ret_str (by rw [H.out] <;> simp), by (repeat' (first | (with_reducible assumption) | (with_reducible exact Wb.Ext.refl _) | (with_reducible refine Wb.Ext.drew ?_) | (with_reducible refine Wb.Ext.drewN ?_ _) | (with_reducible refine Wb.Ext.alloc ?_ _) | (with_reducible refine Wb.Ext.trans ?_ (by assumption))))⟩

theorem rptext_any (y i o f t p : Int) (hy : -1125899906842624 ≤ y ∧ y ≤ 1125899906842624) (hi : -1125899906842624 ≤ i ∧ i ≤ 1125899906842624) (w : World) :
    Calls Tryd.prog 14 #[.agg #[.int .i64 y, .int .i64 i, .int .i64 o, .int .i64 f, .int .i64 t, .int .i64 p]] w fun e w' => e = .returned (.string (Wb.S (ptext y i))) ∧ Wb.Ext w w' := by
  have hl := itoa_len y hy
  have hl2 := itoa_len i hi
  by_cases h0 : 0 ≤ i
  · by_cases h10 : i ≤ 9
    · have H := Lib.hid (show ptext y i = itoa y ++ 47 :: 48 :: itoa i by rw [ptext, if_pos ⟨h0, by omega⟩]; rfl)
      go_enter Tryd.func14, Tryd.ntmps14
      go_wp2_with fail
      refine (rdigits_any y hy _).mono ?_; rintro e w1 ⟨rfl, hb1⟩
      obtain ⟨hc1, hf1⟩ := hb1.cells
      have hs1 := hb1.size
      go_wp2_with fail
      refine (rdigits_any i hi _).mono ?_; rintro e w2 ⟨rfl, hb2⟩
      go_wp2
      go_ret
      exact ⟨Wb.ret_str (by rw [H.out] <;> simp), by (repeat' (first | (with_reducible assumption) | (with_reducible exact Wb.Ext.refl _) | (with_reducible refine Wb.Ext.drew ?_) | (with_reducible refine Wb.Ext.drewN ?_ _) | (with_reducible refine Wb.Ext.alloc ?_ _) | (with_reducible refine Wb.Ext.trans ?_ (by assumption))))⟩
    · have H := Lib.hid (show ptext y i = itoa y ++ 47 :: itoa i by rw [ptext, if_neg (by omega)]; rfl)
      have d10 : decide (i ≤ 9) = false := by simpa using h10
      go_enter Tryd.func14, Tryd.ntmps14
      go_wp2_with fail
      refine (rdigits_any y hy _).mono ?_; rintro e w1 ⟨rfl, hb1⟩
      obtain ⟨hc1, hf1⟩ := hb1.cells
      have hs1 := hb1.size
      go_wp2_with fail
      refine (rdigits_any i hi _).mono ?_; rintro e w2 ⟨rfl, hb2⟩
      go_wp2
      go_ret
      exact ⟨Wb.ret_str (by rw [H.out] <;> simp), by (repeat' (first | (with_reducible assumption) | (with_reducible exact Wb.Ext.refl _) | (with_reducible refine Wb.Ext.drew ?_) | (with_reducible refine Wb.Ext.drewN ?_ _) | (with_reducible refine Wb.Ext.alloc ?_ _) | (with_reducible refine Wb.Ext.trans ?_ (by assumption))))⟩
  · have H := Lib.hid (show ptext y i = itoa y ++ 47 :: itoa i by rw [ptext, if_neg (by omega)]; rfl)
    have d0 : decide (0 ≤ i) = false := by simpa using h0
    go_enter Tryd.func14, Tryd.ntmps14
    go_wp2_with fail
    refine (rdigits_any y hy _).mono ?_; rintro e w1 ⟨rfl, hb1⟩
    obtain ⟨hc1, hf1⟩ := hb1.cells
    have hs1 := hb1.size
    go_wp2_with fail
    refine (rdigits_any i hi _).mono ?_; rintro e w2 ⟨rfl, hb2⟩
    go_wp2
    go_ret
    exact ⟨Wb.ret_str (by rw [H.out] <;> simp), by (repeat' (first | (with_reducible assumption) | (with_reducible exact Wb.Ext.refl _) | (with_reducible refine Wb.Ext.drew ?_) | (with_reducible refine Wb.Ext.drewN ?_ _) | (with_reducible refine Wb.Ext.alloc ?_ _) | (with_reducible refine Wb.Ext.trans ?_ (by assumption))))⟩

end Go.Proofs.YtalpdodajcdibaaDoor
