/- MTx -/
import Derived.Test.YtnefdpnolojojaaGreatDoorMBa
import Derived.Test.YtnefdpnolojojaaGreatDoorMPl
import Derived.Test.YtnefdpnolojojaaGreatDoorShelf
import Derived.Deep.QuietTactic
import Derived.BigQuiet
import Derived.Deep.RegionHeld3
import Derived.WalkSmall
import Derived.Deep.DeepFit
import Derived.Test.YtnefdpnolojojaaGreatDoorMTb
import Derived.Lib.Join
import Derived.Lib.ItoaWalk
import Derived.Lib.ItoaMem
import Derived.Lib.AppendIntMem
import Derived.Deep.RegionHeldLaw
import Derived.Test.YtnefdpnolojojaaGreatDoorMKm
namespace Go.Proofs.YtnefdpnolojojaaGreatDoor
open Go.RowKit
set_option maxRecDepth 4000
theorem textN_eq (n : Nat) : Wb.textN n = Wb.digs (n / 100) ++ 46 :: (Wb.digs (n % 100 / 10) ++ Wb.digs (n % 10)) := by
 unfold Wb.textN
 rw [show n / 10 % 10 = n % 100 / 10 by omega]; simp
theorem text_any (c : Int) (w : World) :
  Calls Tryz.prog 13 #[.int .i64 c] w fun e w' => e = .returned (.string (Wb.S (Wb.text c))) ∧ w = w' := by
 by_cases hf : Wb.fits c = true
 ·have hf' := (Wb.fits_iff c).1 hf
  by_cases h0 : c < 0
  ·obtain ⟨n, hn, hc⟩ : ∃ n : Nat, (n : Int) ≤ 1125899906842624 ∧ c = -n := ⟨c.natAbs, by omega, by omega⟩
   subst hc
   have hl := Wb.digs_length 13 (n / 100) (by omega)
   have hl1 := Wb.digs_length 0 (n % 100 / 10) (by omega)
   have hl2 := Wb.digs_length 0 (n % 10) (by omega)
   have H := Lib.hid (show Wb.text (-(n : Int)) = 45 :: Wb.textN n by rw [Wb.text, if_pos hf, Wb.textZ, if_pos h0]; simp)
   go_enter Tryz.func13, Tryz.ntmps13
   go_wp2_with (first | (go_at_call 38; refine (fits_any _ _).mono ?_; rintro e w' ⟨rfl, rfl⟩) | (go_at_call 39; refine (whole_any _ (by omega) (by omega) _).mono ?_; rintro e w' ⟨rfl, rfl⟩))
   go_ret
   exact ⟨Wb.ret_str (by rw [H.out, textN_eq]), rfl⟩
  ·obtain ⟨n, hn, hc⟩ : ∃ n : Nat, (n : Int) ≤ 1125899906842624 ∧ c = n := ⟨c.natAbs, by omega, by omega⟩
   subst hc
   have hl := Wb.digs_length 13 (n / 100) (by omega)
   have hl1 := Wb.digs_length 0 (n % 100 / 10) (by omega)
   have hl2 := Wb.digs_length 0 (n % 10) (by omega)
   have H := Lib.hid (show Wb.text (n : Int) = Wb.textN n by rw [Wb.text, if_pos hf, Wb.textZ, if_neg h0]; simp)
   go_enter Tryz.func13, Tryz.ntmps13
   go_wp2_with (first | (go_at_call 38; refine (fits_any _ _).mono ?_; rintro e w' ⟨rfl, rfl⟩) | (go_at_call 39; refine (whole_any _ (by omega) (by omega) _).mono ?_; rintro e w' ⟨rfl, rfl⟩))
   go_ret
   exact ⟨Wb.ret_str (by rw [H.out, textN_eq]), rfl⟩
 ·have H : Wb.text c = [] := by simp [Wb.text, hf]
  go_enter Tryz.func13, Tryz.ntmps13
  go_wp2_with (go_at_call 38; refine (fits_any _ _).mono ?_; rintro e w' ⟨rfl, rfl⟩)
  go_ret
  exact ⟨by rw [H]; rfl, rfl⟩
end Go.Proofs.YtnefdpnolojojaaGreatDoor
namespace Go.Proofs.YtnefdpnolojojaaGreatDoor
open Go.RowKit
set_option maxRecDepth 4000
theorem dec_digs (n : Nat) : Lib.decDigits n = Wb.digs n := by
 induction n using Nat.strongRecOn with
 | _ n ih =>
  by_cases h : n < 10
  ·rw [Wb.digs_lt h, Lib.decDigits, dif_pos h]; rfl
  ·rw [Wb.digs_ge (by omega), Lib.decDigits, dif_neg h, ih (n / 10) (by omega)]; rfl
def itoa (n : Int) : List UInt8 := if n < 0 then 45 :: Wb.digs n.natAbs else Wb.digs n.natAbs
theorem itoa_lib (n : Int) : Lib.itoa n = itoa n := by
 unfold Lib.itoa itoa
 split
 ·rw [dec_digs]
 ·rw [dec_digs, show n.toNat = n.natAbs by omega]
def Tab10 (w : World) : Prop := Lib.TabIs Tryz.prog w "internal/strconv.uint64pow10" .u64 Lib.pow10Tab
theorem g10 : Tryz.prog.globalNamed "internal/strconv.uint64pow10" = some 0 := by kernel_rfl
theorem Tab10.ext {w w' : World} (h : Tab10 w) (k : Wb.Ext w w') : Tab10 w' := by
 refine var?_below k g10 ?_ h
 have := Lib.TabIs.cell h g10 0 (by decide)
 exact Wb.cell_size this
end Go.Proofs.YtnefdpnolojojaaGreatDoor
namespace Go.Proofs.YtnefdpnolojojaaGreatDoor
namespace Wb
def itoaZ (n : Int) : List UInt8 := if n < 0 then 45 :: digs n.natAbs else digs n.natAbs
theorem itoaZ_nat (n : Nat) : itoaZ (n : Int) = digs n := by
 unfold itoaZ
 rw [if_neg (by omega)]
 rfl
theorem itoaZ_len (n : Int) (h : -9223372036854775807 ≤ n ∧ n ≤ 9223372036854775807) : (itoaZ n).length ≤ 20 := by
 have := digs_length 18 n.natAbs (by omega)
 unfold itoaZ; split <;> simp <;> omega
end Wb
end Go.Proofs.YtnefdpnolojojaaGreatDoor
namespace Go.Proofs.YtnefdpnolojojaaGreatDoor
open Go.RowKit
set_option maxRecDepth 4000
end Go.Proofs.YtnefdpnolojojaaGreatDoor
namespace Go.Proofs.YtnefdpnolojojaaGreatDoor
open Go.RowKit Go.Lib
set_option maxRecDepth 8000
theorem rowF_ext {w w' : World} {base s n : Nat} {e : TypeId} {v : Value} {xs : List Value} (h : w.ownsRowF base e s v n xs) (hw : Wb.Ext w w') : w'.ownsRowF base e s v n xs := by
 have hl := h.lt
 obtain ⟨h1, h2 | ⟨g, cap, cur, fz, hv, hb, hg, rest⟩⟩ := h
 ·exact ⟨h1, .inl h2⟩
 ·refine ⟨h1, .inr ⟨g, cap, cur, fz, hv, hb, ?_, rest⟩⟩
  subst hv
  rw [hw.block g (hl g rfl).2]; exact hg
def OutB (O : Nat) (bs : List UInt8) (w : World) : Prop := Lib.IsBuilderF 81 5 O O (Lib.byteCells bs) w
theorem OutB.ext {O : Nat} {bs : List UInt8} {w w' : World} (h : OutB O bs w) (k : Wb.Ext w w') : OutB O bs w' := by
 have aux : ∀ p, Lib.BuilderAtF 81 5 O O p (Lib.byteCells bs) w → Lib.BuilderAtF 81 5 O O p (Lib.byteCells bs) w' := by
  intro p h
  have hlt := h.lt
  obtain ⟨hB, v, hb, hown, hne⟩ := h
  exact ⟨hB, v, by rw [k.block O hlt]; exact hb, rowF_ext hown k, hne⟩
 exact h.imp (aux _) (aux _)
theorem OutB.lt {O : Nat} {bs : List UInt8} {w : World} (h : OutB O bs w) : O < w.heap.size := h.elim (fun x => x.lt) (fun x => x.lt)
structure TxK (O : Nat) (w w' : World) : Prop where
 below : Below O w w'
 others : Lib.OthersKept 5 (some O) w w'
theorem TxK.refl (O : Nat) (w : World) : TxK O w w := ⟨Below.refl _ _, Lib.OthersKept.refl _ _ _⟩
theorem TxK.trans {O : Nat} {a b c : World} (h : TxK O a b) (k : TxK O b c) : TxK O a c := ⟨Below.trans h.below k.below, h.others.trans k.others⟩
theorem TxK.ext {O : Nat} {w w' : World} (h : Wb.Ext w w') (hO : O ≤ w.heap.size) : TxK O w w' :=
 ⟨Below.mono h hO, fun k o hk _ _ => by
  have hlt : k < w.heap.size := by
   rcases Nat.lt_or_ge k w.heap.size with h' | h'
   ·exact h'
   ·rw [Array.getElem?_eq_none h'] at hk; simp at hk
  rw [h.block k hlt]; exact hk⟩
def WordsAt (w : World) (b o : Nat) (ws : List (List UInt8)) : Prop := ∀ (j : Nat) x, ws[j]? = some x → w.cell? ⟨b, o + j, none⟩ = some (.string (Wb.S x))
theorem S_data (x : List UInt8) : (Wb.S x).data.toList = x := by simp [Wb.S]
theorem strCells_SX (l : List UInt8) : Lib.strCells (Wb.S l) = Lib.byteCells l := rfl
set_option maxHeartbeats 1000000 in
theorem put_any (O bk o c : Nat) (bs : List UInt8) (ws : List (List UInt8)) (w : World) (hO : OutB O bs w) (hw : WordsAt w bk o ws) (hbk : bk < w.heap.size) (hcap : ws.length ≤ c) (hn : ws.length ≤ 100) (hlen : bs.length + (Lib.join ws [32]).length ≤ 100000000000000) :
  Calls Tryz.prog 29 #[.slice (some ⟨bk, o, none⟩) ws.length c, .pointer (some ⟨O, 0, none⟩)] w fun e w' => e = .returned (.tuple #[]) ∧ OutB O (bs ++ (Lib.join ws [32] ++ [10])) w' ∧ TxK O w w' := by
 have hbl := hO.lt
 have hxs : (ws.map Wb.S).map (fun x => x.data.toList) = ws := by
  rw [List.map_map]
  exact (List.map_congr_left (fun x _ => S_data x)).trans (List.map_id ws)
 have HJ := Lib.hid (show ∀ W, Wb.Ext w W → Calls Tryz.prog 31 #[.slice (some ⟨bk, o, none⟩) ws.length c, .string (Wb.S [32])] W fun e w' => e = .returned (.string (Wb.S (Lib.join ws [32]))) ∧ Wb.Ext W w' from fun W k => by
  have h := Tryz.strings_Join bk o c (ws.map Wb.S) (Wb.S [32]) W (fun j x hx => by
   rw [List.getElem?_map] at hx
   obtain ⟨y, hy, rfl⟩ := Option.map_eq_some_iff.1 hx
   exact k.keep (hw j y hy)) (Nat.lt_of_lt_of_le hbk k.size) (by rw [List.length_map]; omega) (by rw [List.length_map]; exact hcap) (by rw [hxs, S_data]; omega)
  rw [hxs, S_data, List.length_map] at h
  exact h)
 have HO := Lib.hid hO
 have HL := Lib.hid hlen
 have hjl : (Lib.join ws [32]).length ≤ 100000000000000 := by omega
 clear hO hw hxs hlen
 go_enter Tryz.func29, Tryz.ntmps29
 go_wp2_with fail
 refine (HJ.out _ (by (repeat' (first | (with_reducible assumption) | (with_reducible exact Wb.Ext.refl _) | (with_reducible refine Wb.Ext.drew ?_) | (with_reducible refine Wb.Ext.drewN ?_ _) | (with_reducible refine Wb.Ext.alloc ?_ _) | (with_reducible refine Wb.Ext.trans ?_ (by assumption)))))).mono ?_
 rintro e w2 ⟨rfl, hx2⟩
 have HX := Lib.hid (show Wb.Ext w w2 by (repeat' (first | (with_reducible assumption) | (with_reducible exact Wb.Ext.refl _) | (with_reducible refine Wb.Ext.drew ?_) | (with_reducible refine Wb.Ext.drewN ?_ _) | (with_reducible refine Wb.Ext.alloc ?_ _) | (with_reducible refine Wb.Ext.trans ?_ (by assumption)))))
 have hO2 := HO.out.ext HX.out
 have HO2 := Lib.hid hO2
 have hs2 := HX.out.size
 clear hO2 hx2
 have HLE := Lib.hid (show (Lib.byteCells bs).length + (Wb.S (Lib.join ws [32] ++ [10])).size ≤ 140737488355328 by
  have := HL.out
  rw [Lib.byteCells_length, Wb.S_size, List.length_append]
  simp; omega)
 go_wp2_with fail
 refine (Tryz.Builder_WriteString_k O O (Lib.byteCells bs) (Wb.S (Lib.join ws [32] ++ [10])) _ (HO2.out.ext (by (repeat' (first | (with_reducible assumption) | (with_reducible exact Wb.Ext.refl _) | (with_reducible refine Wb.Ext.drew ?_) | (with_reducible refine Wb.Ext.drewN ?_ _) | (with_reducible refine Wb.Ext.alloc ?_ _) | (with_reducible refine Wb.Ext.trans ?_ (by assumption)))))) HLE.out (by first | omega | (simp; omega))).mono ?_
 rintro e w3 ⟨rfl, h3, hb3, ho3⟩
 have HO3 := Lib.hid h3
 have HB3 := Lib.hid hb3
 have HK3 := Lib.hid ho3
 clear h3 hb3 ho3
 go_wp2
 go_end0
 refine ⟨rfl, .inr ?_, ?_⟩
 ·have := HO3.out
  rw [strCells_SX, ← Lib.byteCells_append] at this
  exact this
 ·exact (TxK.ext HX.out (by omega)).trans ⟨HB3.out, HK3.out⟩
end Go.Proofs.YtnefdpnolojojaaGreatDoor
namespace Go.Proofs.YtnefdpnolojojaaGreatDoor
open Go.RowKit Go.Sort Go.Lib
set_option maxRecDepth 100000
theorem fin_pos0 (w : World) (o : Obj) (dk : Array UInt8) (k : Nat) : ∃ os, (putRow (fun (b : UInt8) => Value.int .u8 (b.toNat : Int)) (w.alloc o) w.heap.size 0 dk).drewN k = grow (w.drewN k) os := by
 rw [alloc_eq_grow]
 obtain ⟨os', _, e⟩ := putRow_grow_new (fun (b : UInt8) => Value.int .u8 (b.toNat : Int)) w #[o] w.heap.size 0 dk (Nat.le_refl _)
 exact ⟨os', by rw [e]; rfl⟩
theorem ext_grow (w : World) (k : Nat) (os : Array Obj) : Wb.Ext w (grow (w.drewN k) os) :=
 ⟨rfl, rfl, rfl, by show w.heap.size ≤ (w.heap ++ os).size; simp, fun i hi => by show (w.heap ++ os)[i]? = w.heap[i]?; exact Array.getElem?_append_left hi⟩
set_option maxHeartbeats 12800000 in
theorem fmtU_any (u : Nat) (hu : u < 18446744073709551616) (w : World) (ht : Tab10 w) :
  Calls Tryz.prog 58 #[.int .u64 u, .int .i64 10] w fun e w' => e = .returned (.string (Wb.S (Wb.digs u))) ∧ Wb.Ext w w' := by
 by_cases hs : u < 100
 ·go_enter Tryz.func58, Tryz.ntmps58
  go_wp2_with (go_at_call 80; refine (Tryz.internal_strconv_small u hs _).mono ?_; rintro e w' ⟨rfl, rfl⟩)
  go_ret
  exact ⟨by rw [dec_digs]; rfl, .refl _⟩
 ·have hu1 : 1 ≤ u := by omega
  have hnd20 : Lib.nDigits u ≤ 20 := by have := Lib.numDigits_eq u hu1 hu; split at this <;> omega
  have hb3 : Lib.nDigits u ≤ 24 := by omega
  have hal : Tryz.prog.arrayLen 153 = 24 := by simp [Program.arrayLen, Tryz.underlying153]
  have hsl1 : ∀ W, (Instr.sliceAt 153 (.pointer (some ⟨w.heap.size, 0, none⟩)) none (some (.int .i64 (Lib.nDigits u : Int))) none).run Tryz.prog W = .ok (.slice (some ⟨w.heap.size, 0, none⟩) (Lib.nDigits u) 24) W := fun W => by
   rw [run_sliceAt_array_h W 153 ⟨w.heap.size, 0, none⟩ (by simp [Program.arrayLen, Program.elem, Tryz.underlying153]) .i64 (Lib.nDigits u : Int) (by omega) (by rw [hal]; omega)]
   go_simp
  have hH0 := Lib.holds_zero0 w 153 (Lib.nDigits u) (by omega)
  have hfmt := Tryz.internal_strconv_formatBase10 w.heap.size 0 24 u (Array.replicate (Lib.nDigits u) 0) (w.alloc (.cells Lib.zeros24 153)) hH0 (by rw [Array.size_replicate]; exact Lib.lt_pow_nDigits u) hu (by rw [Array.size_replicate]; omega)
  rw [Array.size_replicate] at hfmt
  have HH0 := Lib.hid hH0
  clear hH0 hal
  go_enter Tryz.func58, Tryz.ntmps58
  go_wp2_with (first
   | (go_at_call 81; refine (Tryz.internal_strconv_numDigits u hu1 hu _ (Lib.tabIs_alloc ht _)).mono ?_; rintro e w' ⟨rfl, rfl⟩))
  go_at_call 82
  refine hfmt.mono ?_
  rintro e w' ⟨rfl, k, v', dk, rfl, hF⟩
  have hcv : (convert 79 9 (.slice (some ⟨w.heap.size, 0, none⟩) (Lib.nDigits u) 24)).run Tryz.prog ((putRow (fun (b : UInt8) => Value.int .u8 (b.toNat : Int)) (w.alloc (.cells Lib.zeros24 153)) w.heap.size 0 dk).drewN k) = .ok (.string ⟨(Lib.decDigits u).toArray⟩) ((putRow (fun (b : UInt8) => Value.int .u8 (b.toNat : Int)) (w.alloc (.cells Lib.zeros24 153)) w.heap.size 0 dk).drewN k) := by
   have h := run_convert_bytes_back (P := Tryz.prog) ((putRow (fun (b : UInt8) => Value.int .u8 (b.toNat : Int)) (w.alloc (.cells Lib.zeros24 153)) w.heap.size 0 dk).drewN k) 79 9 5 ⟨w.heap.size, 0, none⟩ 24 (Lib.decDigits u) Tryz.underlying79 Tryz.underlying5 Tryz.underlying9 (fun j hj => by
    rw [Lib.row_is_numeral hF j hj, Lib.add_plain, World.cell?_drewN]
    exact cell?_putRow (fun (b : UInt8) => Value.int .u8 (b.toNat : Int)) _ w.heap.size 0 _ dk HH0.out (by rw [hF.size, Array.size_replicate]) j (by rw [hF.size]; rw [Lib.decDigits_length] at hj; exact hj))
   rw [Lib.decDigits_length] at h
   exact h
  go_wp2
  go_ret
  obtain ⟨os, eo⟩ := fin_pos0 w (.cells Lib.zeros24 153) dk k
  exact ⟨by rw [dec_digs]; rfl, by rw [eo]; exact ext_grow w k os⟩
theorem formatU_any (u : Nat) (hu : u < 18446744073709551616) (w : World) (ht : Tab10 w) :
  Calls Tryz.prog 34 #[.int .u64 u, .int .i64 10] w fun e w' => e = .returned (.string (Wb.S (Wb.digs u))) ∧ Wb.Ext w w' := by
 go_enter Tryz.func34, Tryz.ntmps34
 go_wp2_with (go_at_call 58; refine (fmtU_any u hu _ ht).mono ?_; rintro e w' ⟨rfl, hx⟩)
 go_ret
 exact ⟨rfl, hx⟩
end Go.Proofs.YtnefdpnolojojaaGreatDoor
namespace Go.Proofs.YtnefdpnolojojaaGreatDoor
open Go.RowKit Go.Sort Go.Lib
set_option maxRecDepth 8000
theorem itoaZ_any (n : Int) (h : -9223372036854775807 ≤ n ∧ n ≤ 9223372036854775807) (w : World) (ht : Tab10 w) :
  Calls Tryz.prog 32 #[.int .i64 n] w fun e w' => e = .returned (.string (Wb.S (Wb.itoaZ n))) ∧ Wb.Ext w w' :=
 (Tryz.strconv_Itoa n (by omega) (by omega) w ht).mono fun e w' ⟨he, k, os, hw⟩ => ⟨by rw [he, itoa_lib]; rfl, by rw [hw]; exact ext_grow w k os⟩
set_option maxHeartbeats 4000000 in
theorem linew_any (Nb : Nat) (p c : Int) (code : List UInt8) (w : World) (hn : w.cell? ⟨Nb, 0, none⟩ = some (.func (.func 32) #[] #[])) (ht : Tab10 w) (hp : -9223372036854775807 ≤ p ∧ p ≤ 9223372036854775807) :
  Calls Tryz.prog 33 #[.agg #[.int .i64 p, .string (Wb.S code), .int .i64 c], .pointer (some ⟨Nb, 0, none⟩)] w fun e w' => ∃ b, e = .returned (.slice (some ⟨b, 0, none⟩) 3 3) ∧ w.heap.size ≤ b ∧ b < w'.heap.size ∧ WordsAt w' b 0 [Wb.itoaZ p, code, Wb.text c] ∧ Wb.Ext w w' := by
 have HT := Lib.hid ht
 clear ht
 go_enter Tryz.func33, Tryz.ntmps33
 go_upto_region 1 with (fail)
 refine Wb.wp_at fun W1 hW1 => ?_
 obtain ⟨Z, hZ⟩ : ∃ Z, w.heap.size = Z := ⟨_, rfl⟩
 have HX1 : Hid (Wb.Ext w W1) := Lib.hid (by rw [hW1]; (repeat' (first | (with_reducible assumption) | (with_reducible exact Wb.Ext.refl _) | (with_reducible refine Wb.Ext.drew ?_) | (with_reducible refine Wb.Ext.drewN ?_ _) | (with_reducible refine Wb.Ext.alloc ?_ _) | (with_reducible refine Wb.Ext.trans ?_ (by assumption)))))
 have z0 : W1.cell? ⟨Z, 0, none⟩ = some (.int .i64 p) := by rw [hW1, ← hZ]; simp [go_sem]
 have z1 : W1.cell? ⟨Z, 1, none⟩ = some (.string (Wb.S code)) := by rw [hW1, ← hZ]; simp [go_sem]
 have z2 : W1.cell? ⟨Z, 2, none⟩ = some (.int .i64 c) := by rw [hW1, ← hZ]; simp [go_sem]
 have y0 : ∀ x, Wb.Ext W1 x → x.cell? ⟨Z, 0, none⟩ = some (.int .i64 p) := fun x e => e.keep z0
 have y1 : ∀ x, Wb.Ext W1 x → x.cell? ⟨Z, 1, none⟩ = some (.string (Wb.S code)) := fun x e => e.keep z1
 have y2 : ∀ x, Wb.Ext W1 x → x.cell? ⟨Z, 2, none⟩ = some (.int .i64 c) := fun x e => e.keep z2
 have y3 : ∀ x, Wb.Ext W1 x → x.cell? ⟨Nb, 0, none⟩ = some (.func (.func 32) #[] #[]) := fun x e => (HX1.out.trans e).keep hn
 have HI := Lib.hid (show ∀ x, Wb.Ext W1 x → Calls Tryz.prog 32 #[.int .i64 p] x fun e w' => e = .returned (.string (Wb.S (Wb.itoaZ p))) ∧ Wb.Ext x w' from fun x e => itoaZ_any p hp x (HT.out.ext (HX1.out.trans e)))
 have hsz := HX1.out.size
 rw [hZ] at hsz ⊢
 clear hW1 z0 z1 z2 hn
 go_region_held_law (fun x => Wb.Ext W1 x) ((repeat' (first | (with_reducible assumption) | (with_reducible exact Wb.Ext.refl _) | (with_reducible refine Wb.Ext.drew ?_) | (with_reducible refine Wb.Ext.drewN ?_ _) | (with_reducible refine Wb.Ext.alloc ?_ _) | (with_reducible refine Wb.Ext.trans ?_ (by assumption))))) (first
  | (go_at_call 32; refine (HI.out _ (by (repeat' (first | (with_reducible assumption) | (with_reducible exact Wb.Ext.refl _) | (with_reducible refine Wb.Ext.drew ?_) | (with_reducible refine Wb.Ext.drewN ?_ _) | (with_reducible refine Wb.Ext.alloc ?_ _) | (with_reducible refine Wb.Ext.trans ?_ (by assumption)))))).mono ?_; rintro e w2 ⟨rfl, hx2⟩)
  | (go_at_call 13; refine (text_any _ _).mono ?_; rintro e w2 ⟨rfl, rfl⟩))
 have hs2 := hx2.size
 have hs3 : W1.drew.heap.size = W1.heap.size := rfl
 have HE := Lib.hid (show Wb.Ext w (w2.alloc (.cells #[.string (Wb.S (Wb.itoaZ p)), .string (Wb.S code), .string (Wb.S (Wb.text c))] 9)) from HX1.out.trans (by (repeat' (first | (with_reducible assumption) | (with_reducible exact Wb.Ext.refl _) | (with_reducible refine Wb.Ext.drew ?_) | (with_reducible refine Wb.Ext.drewN ?_ _) | (with_reducible refine Wb.Ext.alloc ?_ _) | (with_reducible refine Wb.Ext.trans ?_ (by assumption))))))
 go_wp2
 go_ret
 refine ⟨w2.heap.size, rfl, by omega, by simp, fun j x hj => ?_, HE.out⟩
 rcases j with _ | _ | _ | j
 ·simp only [List.getElem?_cons_zero, Option.some.injEq] at hj
  subst hj
  simp [go_sem]
 ·simp only [List.getElem?_cons_succ, List.getElem?_cons_zero, Option.some.injEq] at hj
  subst hj
  simp [go_sem]
 ·simp only [List.getElem?_cons_succ, List.getElem?_cons_zero, Option.some.injEq] at hj
  subst hj
  simp [go_sem]
 ·simp at hj
end Go.Proofs.YtnefdpnolojojaaGreatDoor
namespace Go.Proofs.YtnefdpnolojojaaGreatDoor
open Go.RowKit Go.Sort Go.Lib
set_option maxRecDepth 8000
def findRegX (id : Nat) : Code → Option Code
 | .region i ops b => if i = id then some (.region i ops b) else none
 | .loop c => findRegX id c
 | .seq a b => match findRegX id a with
  | some c => some c
  | none => findRegX id b
 | .block _ c => findRegX id c
 | .scope c => findRegX id c
 | .cond _ a b => match findRegX id a with
  | some c => some c
  | none => findRegX id b
 | _ => none
def OnEndX (R : Act → World → Prop) (e : Exit) (a : Act) (w : World) : Prop := match e with
 | .normal => R a w
 | _ => False
theorem OnEndX.imp {R : Act → World → Prop} {Q : Exit → Act → World → Prop} (h : ∀ a w, R a w → Q .normal a w) : ∀ e a w, OnEndX R e a w → Q e a w := fun e a w k => by
 cases e <;> first | exact h _ _ k | exact (k : False).elim
theorem TxK.low {O : Nat} {w w' : World} (h : TxK O w w') {p : Addr} {v : Value} (hp : p.block < O) (hc : w.cell? p = some v) : w'.cell? p = some v := by
 have := h.below.block p.block hp
 unfold World.cell? at hc ⊢
 rw [this]; exact hc
theorem TxK.box {O b : Nat} {w w' : World} {cs : Array Value} {T : TypeId} (h : TxK O w w') (hb : w.heap[b]? = some (.cells cs T (0, 0))) (hT : T ≠ 5) (hO : b ≠ O) : w'.heap[b]? = some (.cells cs T (0, 0)) :=
 h.others b _ hb (by simpa using hO) (by intro c fz e; injection e with _ e2 _; exact hT e2)
theorem bxx_cell {b j : Nat} {w : World} {cs : Array Value} {T : TypeId} {v : Value} (hb : w.heap[b]? = some (.cells cs T (0, 0))) (hv : cs[j]? = some v) : w.cell? ⟨b, j, none⟩ = some v := by
 simp only [World.cell?, hb]; simpa using hv
theorem bxx_lt {b : Nat} {w : World} {o : Obj} (hb : w.heap[b]? = some o) : b < w.heap.size := by
 rcases Nat.lt_or_ge b w.heap.size with h | h
 ·exact h
 ·rw [Array.getElem?_eq_none h] at hb; cases hb
theorem bxx_ext {b : Nat} {w w' : World} {o : Obj} (hb : w.heap[b]? = some o) (h : Wb.Ext w w') : w'.heap[b]? = some o := by
 rw [h.block b (bxx_lt hb)]; exact hb
theorem txt_le (c : Int) : (Wb.text c).length ≤ 21 := by
 unfold Wb.text Wb.textZ Wb.textN
 split
 ·rename_i hf
  have hf' := (Wb.fits_iff c).1 hf
  have := Wb.digs_length 13 (c.natAbs / 100) (by omega)
  split <;> rw [Wb.digs_lt (n := c.natAbs / 10 % 10) (by omega), Wb.digs_lt (n := c.natAbs % 10) (by omega)] <;> simp <;> omega
 ·simp
theorem ext_sz {w w' : World} (h : Wb.Ext w w') : w.heap.size ≤ w'.heap.size := h.size
def wsv (ws : List (List UInt8)) : List Value := ws.map fun x => .string (Wb.S x)
theorem infoStrX : (Tryz.prog.info? 9).map (fun i => (i.zero, i.size, i.bytes)) = some (some (.string "".toUTF8), 1, 16) := by kernel_rfl
theorem own_lit {b n : Nat} {w : World} {xs : List Value} {T : TypeId} (hb : w.heap[b]? = some (.cells xs.toArray T (0, 0))) (hn : xs.length = n) (hm : n ≤ maxLen) : w.ownsRow b T 1 (.slice (some ⟨b, 0, none⟩) n n) n xs :=
 ⟨by omega, .inr ⟨b, n, xs.toArray, rfl, Nat.le_refl _, hb, Nat.le_refl _, hm, by simp [hn], by simp [← hn]⟩⟩
theorem words_src {w : World} {b n c : Nat} {ws : List (List UInt8)} (h : WordsAt w b 0 ws) (hn : ws.length = n) : Wb.SrcRow w 1 (.slice (some ⟨b, 0, none⟩) n c) n (wsv ws) := by
 refine ⟨by simp [wsv, hn], .inr ⟨_, _, rfl, fun j u hj => ?_⟩⟩
 unfold wsv at hj
 rw [List.getElem?_map] at hj
 obtain ⟨y, hy, rfl⟩ := Option.map_eq_some_iff.1 hj
 have hadd : (⟨b, 0, none⟩ : Addr).add j = ⟨b, 0 + j, none⟩ := by
  by_cases hi : j = 0
  ·subst hi; rfl
  ·simp [Addr.add, hi]
 rw [hadd]
 exact h j y hy
theorem wsv_one (ws : List (List UInt8)) : ∀ u ∈ wsv ws, u.oneCell' = true := by
 intro u hu
 obtain ⟨x, _, rfl⟩ := List.mem_map.1 hu
 rfl
theorem own_words {w : World} {base n : Nat} {v : Value} {T : TypeId} {ws : List (List UInt8)} (h : w.ownsRow base T 1 v n (wsv ws)) (hne : ws ≠ []) : ∃ g c, v = .slice (some ⟨g, 0, none⟩) ws.length c ∧ ws.length ≤ c ∧ base ≤ g ∧ g < w.heap.size ∧ WordsAt w g 0 ws := by
 have hn : n = ws.length := by have := h.1; unfold wsv at this; simp at this; omega
 subst hn
 obtain ⟨_, h | ⟨g, cap, cur, hv, hb, hg, hc, hm, _, hx⟩⟩ := h
 ·exact absurd (List.length_eq_zero_iff.1 h.2) hne
 ·refine ⟨g, cap, hv, hc, hb, bxx_lt hg, fun j x hj => ?_⟩
  have hj2 : (wsv ws)[j]? = some (.string (Wb.S x)) := by unfold wsv; rw [List.getElem?_map, hj]; rfl
  rw [← hx, List.getElem?_take] at hj2
  split at hj2
  ·rw [Nat.zero_add]; simp only [World.cell?, hg]; simpa using hj2
  ·cases hj2
theorem step_words {ops : Array Oper} {o : Oper} {a : Act} {w : World} {K : Act → World → Prop} {Q : Exit → Act → World → Prop} {E : Prop} (hgd : o.guard = none) (s x : Operand)
  (ho : o.op = .call { callee := .builtin .append, args := #[s, x], argTypes := #[28, 28] }) (b n bl m c : Nat) (hs : a.eval s = .slice (some ⟨b, 0, none⟩) n n) (hx : a.eval x = .slice (some ⟨bl, 0, none⟩) m c)
  (W1 W2 : List (List UInt8)) (hn : W1.length = n) (hm : W2.length = m) (hnm : n + m ≤ 100) (wO : World) (hb : w.heap[b]? = some (.cells (wsv W1).toArray 9 (0, 0))) (hw : WordsAt w bl 0 W2) (hbO : wO.heap.size ≤ b) (hE : Wb.Ext wO w)
  (h : ∀ v9 w9, w9.ownsRow b 9 1 v9 (n + m) (wsv (W1 ++ W2)) → Wb.Ext wO w9 → K (a.put o.dst v9) w9) :
  if Region.wanted o (yielded ops a.tmps) = true then Oper.wp Tryz.prog o a w K Q else E := by
 obtain ⟨i0, hi, hz0, hz1, hz2⟩ := info_parts infoStrX
 have hbl := bxx_lt hb
 refine Wb.step_append_row hgd s x _ ho b 9 i0 (.string "".toUTF8) 1 16 Tryz.underlying28 hi hz0 hz1 hz2 (by rfl) (by decide) _ n (wsv W1) hs (own_lit hb (by simp [wsv, hn]) (by unfold maxLen; omega)) _ hx m (wsv W2) (words_src hw hm) (wsv_one _) (by unfold maxLen; omega) (by omega) (by omega) ?_
 intro v9 w9 h1 h2 _
 exact h v9 w9 (by unfold wsv at h1 ⊢; rw [List.map_append]; exact h1) (Wb.Ext.grown hE h2 (fun k hk => by cases hk; exact hbO))
theorem put_row (O base n : Nat) (bs : List UInt8) (ws : List (List UInt8)) (v : Value) (T : TypeId) (w : World) (hO : OutB O bs w) (h : w.ownsRow base T 1 v n (wsv ws)) (hne : ws ≠ []) (hn : ws.length ≤ 100) (hlen : bs.length + (Lib.join ws [32]).length ≤ 100000000000000) :
  Calls Tryz.prog 29 #[v, .pointer (some ⟨O, 0, none⟩)] w fun e w' => e = .returned (.tuple #[]) ∧ OutB O (bs ++ (Lib.join ws [32] ++ [10])) w' ∧ TxK O w w' := by
 obtain ⟨g, c, rfl, hc, -, hg, hw⟩ := own_words h hne
 exact put_any O g 0 c bs ws w hO hw hg hc hn hlen
def TxS (O : Nat) (bs : List UInt8) (wO x : World) : Prop := Wb.Ext wO x ∨ (OutB O bs x ∧ TxK O wO x)
theorem TxS.box {O b j : Nat} {bs : List UInt8} {wO x : World} {cs : Array Value} {T : TypeId} {v : Value} (h : TxS O bs wO x) (hb : wO.heap[b]? = some (.cells cs T (0, 0))) (hT : T ≠ 5) (hO : b ≠ O) (hv : cs[j]? = some v) : x.cell? ⟨b, j, none⟩ = some v := by
 rcases h with h | h
 ·exact bxx_cell (bxx_ext hb h) hv
 ·exact bxx_cell (h.2.box hb hT hO) hv
end Go.Proofs.YtnefdpnolojojaaGreatDoor
