/- MTp -/
import Derived.Test.YtnefdpnolojojaaGreatDoorMPt
import Derived.Test.YtnefdpnolojojaaGreatDoorMRc
import Derived.Test.YtnefdpnolojojaaGreatDoorMDb
import Derived.Test.YtnefdpnolojojaaGreatDoorMRb
import Derived.Test.YtnefdpnolojojaaGreatDoorMMo
import Derived.Test.YtnefdpnolojojaaGreatDoorMRf
import Derived.Deep.RegionHeldLaw
namespace Go.Proofs.YtnefdpnolojojaaGreatDoor
open Go.RowKit Go.Sort Go.Lib Go.Maps
set_option maxRecDepth 8000
attribute [local go_sem ↓] Go.wp_at_zero Go.wp_at_succ
def clc (x : Wb.Cl) : List Value := [.int .u8 x.per, .int .u8 x.run, .int .u8 x.prd, .int .u8 x.part, .int .u8 x.code, .int .i32 x.cents]
theorem clc_len (x : Wb.Cl) : (clc x).length = 6 := rfl
structure ClsM (w : World) (v : Value) (L : List Wb.Cl) : Prop where
 tab : Tbl 6 clc w v L
 byte : ∀ x ∈ L, x.per < 256 ∧ x.run < 256 ∧ x.prd < 256 ∧ x.part < 256 ∧ x.code < 256
 small : Wb.SmX L
theorem ClsM.ext {w w' : World} {v : Value} {L : List Wb.Cl} (h : ClsM w v L) (k : Wb.Ext w w') : ClsM w' v L := ⟨h.tab.ext k, h.byte, h.small⟩
structure SumAt (W0 wr : World) (X : Nat) (l : List Wb.Cl) : Prop where
 cells : ∀ k, k < 28 → wr.cell? ⟨X, k, none⟩ = some (.int .i64 (Wb.sumC (k / 4) (k % 4) l))
 fr : ∀ j, wr.frozen? ⟨X, j, none⟩ = false
 kept : Kept (fun q => q ≠ X) W0 wr
theorem SumAt.ext {W0 wr w2 : World} {X : Nat} {l : List Wb.Cl} (h : SumAt W0 wr X l) (k : Wb.Ext wr w2) : SumAt W0 w2 X l :=
 ⟨fun i hi => k.keep (h.cells i hi), fun j => (k.cells.2 _ _ (Wb.cell_size (h.cells 0 (by omega)))).trans (h.fr j), h.kept.trans (.ext k)⟩
theorem SumAt.put {W0 wr : World} {X : Nat} {l : List Wb.Cl} (h : SumAt W0 wr X l) {x : Wb.Cl} {k : Nat} (hk : k = x.part % 7 * 4 + x.code % 4) {u : Int} (hu : u = Wb.sumC (x.part % 7) (x.code % 4) l + x.cents) : SumAt W0 (wr.setCell ⟨X, k, none⟩ (.int .i64 u)) X (l ++ [x]) := by
 have h28 : k < 28 := by omega
 have hd : k / 4 = x.part % 7 ∧ k % 4 = x.code % 4 := by omega
 refine ⟨fun i hi => ?_, fun j => ?_, h.kept.trans (Kept.setj .refl (fun e => e rfl))⟩
 ·rw [Wb.sumC_snoc]
  by_cases e : i = k
  ·subst e
   rw [World.cell?_setCell_same _ _ _ (h.cells _ hi), hd.1, hd.2, hu]
   simp [Wb.inBox]
  ·rw [World.cell?_setCell_other _ _ _ _ (by intro e9; injection e9 with _ e2 _; omega), h.cells i hi]
   have : Wb.inBox (i / 4) (i % 4) x = false := by
    unfold Wb.inBox
    refine decide_eq_false fun h9 => e ?_
    omega
   rw [this]; simp
 ·simp [go_sem, h.fr]
def cs28 (V : Nat → Nat → Int) : List Value := (List.range 28).map fun k => .int .i64 (V (k / 4) (k % 4))
theorem cs28_len (V : Nat → Nat → Int) : (cs28 V).length = 28 := by simp [cs28]
theorem cs28_get (V : Nat → Nat → Int) {j : Nat} (h : j < 28) : (cs28 V)[j]? = some (.int .i64 (V (j / 4) (j % 4))) := by
 unfold cs28
 rw [List.getElem?_map, List.getElem?_range h]; rfl
theorem convT (w : World) (n : Int) (h : 0 ≤ n ∧ n ≤ 255) :
  (convert 79 9 (.slice (some ⟨w.heap.size, 0, none⟩) 1 1)).run Tryz.prog (w.alloc (.cells #[.int .u8 n] 5)) = .ok (.string (Wb.S [UInt8.ofNat n.toNat])) (w.alloc (.cells #[.int .u8 n] 5)) := by
 refine run_convert_bytes_back (w.alloc (.cells #[.int .u8 n] 5)) 79 9 5 ⟨w.heap.size, 0, none⟩ 1 [UInt8.ofNat n.toNat] Tryz.underlying79 Tryz.underlying5 Tryz.underlying9 (fun j hj => ?_)
 have hj0 : j = 0 := by simpa using hj
 subst hj0
 have e : ((n.toNat % 256 : Nat) : Int) = n := by omega
 simp only [List.getElem_cons_zero, UInt8.toNat_ofNat', e]
 simp [Addr.add, go_sem]
structure LnAt (W8 wr : World) (Z n8 : Nat) (y i : Int) (ua : Option Addr) (un uc : Nat) (l : List Wb.Ln) : Prop where
 z0 : wr.cell? ⟨Z, 0, none⟩ = some (.int .i64 y)
 z1 : wr.cell? ⟨Z, 1, none⟩ = some (.int .i64 i)
 z2 : wr.cell? ⟨Z, 2, none⟩ = some (.slice ua un uc)
 zf : ∀ j, wr.frozen? ⟨Z, j, none⟩ = false
 own : wr.ownsRow n8 89 3 (.slice ua un uc) un (lnvs l)
 kept : Kept (fun q => q < n8 ∧ q ≠ Z) W8 wr
theorem LnAt.later {W8 wr w2 : World} {Z n8 : Nat} {y i : Int} {ua : Option Addr} {un uc : Nat} {l : List Wb.Ln} (h : LnAt W8 wr Z n8 y i ua un uc l) (k : Wb.Ext wr w2) : LnAt W8 w2 Z n8 y i ua un uc l :=
 ⟨k.keep h.z0, k.keep h.z1, k.keep h.z2, fun j => (k.cells.2 _ _ (Wb.cell_size h.z0)).trans (h.zf j), Wb.row_ext h.own k, h.kept.trans (.ext k)⟩
theorem lnvs_one (x : Wb.Ln) : lnvs [x] = lnv x := by simp [lnvs]
theorem LnAt.push {W8 wB wX w6 : World} {Z n8 : Nat} {y i : Int} {ua ua2 : Option Addr} {un uc un2 uc2 : Nat} {l l2 : List Wb.Ln} (h : LnAt W8 wB Z n8 y i ua un uc l) (e : Wb.Ext wB wX) (hg : wX.grownBy w6 (Value.slice ua un uc).ownBlock) (ho : w6.ownsRow n8 89 3 (.slice ua2 un2 uc2) un2 (lnvs l2)) (hZ : Z < n8) :
  LnAt W8 (w6.setCell ⟨Z, 2, none⟩ (.slice ua2 un2 uc2)) Z n8 y i ua2 un2 uc2 l2 := by
 have hl9 := h.own.lt
 have hl2 := ho.lt
 have k6 : Kept (fun q => q < n8) wB w6 := (Kept.ext e).trans (.grown hg (fun q e _ h => by have := (hl9 q e).1; omega))
 refine ⟨?_, ?_, ?_, fun j => ?_, Wb.row_set ho (fun k hk e => ?_) _, (h.kept.trans (k6.mono (fun q _ h => h.1))).trans (Kept.setj .refl (fun e => e.2 rfl))⟩
 ·rw [World.cell?_setCell_other _ _ _ _ (by intro e; injection e with _ e _; cases e)]; exact k6.cell hZ h.z0
 ·rw [World.cell?_setCell_other _ _ _ _ (by intro e; injection e with _ e _; cases e)]; exact k6.cell hZ h.z1
 ·exact World.cell?_setCell_same _ _ _ (k6.cell hZ h.z2)
 ·have := k6.frozen hZ (Wb.cell_size h.z0) (h.zf j)
  simp [go_sem, this]
 ·have := (hl2 k hk).1
  have e : k = Z := e
  omega
set_option maxHeartbeats 8000000 in
theorem slipof_any (y i : Int) (v : Value) (L : List Wb.Cl) (w : World) (h : ClsM w v L) (hl : L.length ≤ 60) :
  Calls Tryz.prog 28 #[.int .i64 y, .int .i64 i, v] w fun e w' => ∃ u, e = .returned (SlV y i u) ∧ LnsC w' u (Wb.slipL L) ∧ (∀ q, u.ownBlock = some q → w.heap.size ≤ q) ∧ Wb.Ext w w' := by
 obtain ⟨va, vc, rfl⟩ := h.tab.shape
 have HL := Lib.hid h
 have HIN := Lib.hid (info_parts infoLine)
 clear h
 go_enter Tryz.func28, Tryz.ntmps28
 go_upto_region 2 with (fail)
 refine Wb.wp_at fun W0 hW0 => ?_
 obtain ⟨A, hA⟩ : ∃ A, w.heap.size = A := ⟨_, rfl⟩
 obtain ⟨X, hX⟩ : ∃ X, A + 1 = X := ⟨_, rfl⟩
 have HX0 := Lib.hid (show Wb.Ext w W0 by rw [hW0]; (repeat' (first | (with_reducible assumption) | (with_reducible exact Wb.Ext.refl _) | (with_reducible refine Wb.Ext.drew ?_) | (with_reducible refine Wb.Ext.drewN ?_ _) | (with_reducible refine Wb.Ext.alloc ?_ _) | (with_reducible refine Wb.Ext.trans ?_ (by assumption)))))
 have HR : Hid (W0.cell? ⟨A, 0, none⟩ = some (.int .i64 0) ∧ W0.cell? ⟨A, 1, none⟩ = some (.int .i64 0) ∧ W0.cell? ⟨A, 2, none⟩ = some (.slice none 0 0) ∧ ∀ j, W0.frozen? ⟨A, j, none⟩ = false) := Lib.hid (by
  rw [hW0, ← hA]
  exact ⟨by simp [go_sem], by simp [go_sem], by simp [go_sem], fun j => by simp [go_sem]⟩)
 have HS0 : Hid (SumAt W0 W0 X []) := Lib.hid ⟨fun k hk => by
  rw [hW0, ← hX, ← hA]
  simp [go_sem]
  show (List.replicate 28 (Value.int .i64 0))[k]? = _
  rw [List.getElem?_replicate, if_pos hk]
  rfl, fun j => by rw [hW0, ← hX, ← hA]; simp [go_sem], .refl⟩
 have hAX : A < X := by omega
 have hwA : w.heap.size ≤ A := by omega
 simp only [hA, hX]
 clear hW0 hX hA
 go_wp2_with fail
 go_loopw [17] (fun iv wr => ∃ k : Nat, k ≤ L.length ∧ iv = .int .i64 k ∧ Hid (SumAt W0 wr X (L.take k))) (fun iv _ => L.length - (intOf iv).toNat)
 case atStart => exact ⟨0, Nat.zero_le _, rfl, HS0⟩
 case round =>
  clear HS0
  obtain ⟨k, hk, rfl, HS⟩ := hrel
  obtain ⟨wO, hwz⟩ : ∃ z, z = wr := ⟨_, rfl⟩
  subst hwz
  by_cases hlt : k < L.length
  case pos =>
   obtain ⟨x, hx⟩ := Wb.get_ex hlt
   have hmem := List.mem_of_getElem? hx
   have hby := HL.out.byte x hmem
   have hsm := HL.out.small x hmem
   obtain ⟨b, off, hb9, hc9⟩ := HL.out.tab.opened (by rintro rfl; simp at hx)
   obtain rfl : va = some ⟨b, off, none⟩ := hb9
   have hX0 := HX0.out
   have e0 := hX0.keep (hc9 k x hx 0 _ rfl)
   have hbl : b < w.heap.size := Wb.cell_size (hc9 k x hx 0 _ rfl)
   have hbX : b ≠ X := by omega
   have l0 := HS.out.kept.cell hbX (hX0.keep (hc9 k x hx 0 _ rfl))
   have l1 := HS.out.kept.cell hbX (hX0.keep (hc9 k x hx 1 _ rfl))
   have l2 := HS.out.kept.cell hbX (hX0.keep (hc9 k x hx 2 _ rfl))
   have l3 := HS.out.kept.cell hbX (hX0.keep (hc9 k x hx 3 _ rfl))
   have l4 := HS.out.kept.cell hbX (hX0.keep (hc9 k x hx 4 _ rfl))
   have l5 := HS.out.kept.cell hbX (hX0.keep (hc9 k x hx 5 _ rfl))
   rw [Nat.add_zero] at l0
   have hki : (k : Int) < L.length := by omega
   have d1 : decide ((k : Int) < (L.length : Int)) = true := by simp; omega
   have HTK := Lib.hid (take_snoc hx)
   clear hc9 hx hmem hlt e0 hX0
   go_upto_region 5 with (fail)
   refine Wb.wp_at fun W5 hW5 => ?_
   obtain ⟨Z, hZ⟩ : ∃ Z, wO.heap.size = Z := ⟨_, rfl⟩
   have z3 : W5.cell? ⟨Z, 3, none⟩ = some (.int .u8 x.part) := by rw [hW5, ← hZ]; simp [go_sem]
   have z4 : W5.cell? ⟨Z, 4, none⟩ = some (.int .u8 x.code) := by rw [hW5, ← hZ]; simp [go_sem]
   have z5 : W5.cell? ⟨Z, 5, none⟩ = some (.int .i32 x.cents) := by rw [hW5, ← hZ]; simp [go_sem]
   have HS5 := Lib.hid (HS.out.ext (show Wb.Ext wO W5 by rw [hW5]; (repeat' (first | (with_reducible assumption) | (with_reducible exact Wb.Ext.refl _) | (with_reducible refine Wb.Ext.drew ?_) | (with_reducible refine Wb.Ext.drewN ?_ _) | (with_reducible refine Wb.Ext.alloc ?_ _) | (with_reducible refine Wb.Ext.trans ?_ (by assumption))))))
   obtain ⟨P, hP⟩ : ∃ P, x.part % 7 = P := ⟨_, rfl⟩
   obtain ⟨C, hC⟩ : ∃ C, x.code % 4 = C := ⟨_, rfl⟩
   have hPi : (x.part : Int) % 7 = (P : Int) := by omega
   have hCi : (x.code : Int) % 4 = (C : Int) := by omega
   have hP7 : P < 7 := by omega
   have hC4 : C < 4 := by omega
   obtain ⟨t, ht⟩ : ∃ t, Wb.sumC P C (L.take k) = t := ⟨_, rfl⟩
   have m0 : W5.cell? ⟨X, P * 4 + C, none⟩ = some (.int .i64 t) := by
    have := HS5.out.cells (P * 4 + C) (by omega)
    rwa [show (P * 4 + C) / 4 = P by omega, show (P * 4 + C) % 4 = C by omega, ht] at this
   have mf := HS5.out.fr
   rw [hZ]
   clear hW5 hZ l0 l1 l2 l3 l4 l5
   have hsb := Wb.sumC_small P C (l := L.take k) (fun z hz => HL.out.small z (List.mem_of_mem_take hz))
   have hlk : (L.take k).length ≤ 60 := by rw [List.length_take]; omega
   have hwr : wrap64 (t + x.cents) = t + x.cents := IntWalk.wrap64_in _ (by omega)
   have hwc : wrap64 x.cents = x.cents := IntWalk.wrap64_in _ (by omega)
   have HN := Lib.hid (show Hid (SumAt W0 (W5.setCell ⟨X, P * 4 + C, none⟩ (.int .i64 (t + x.cents))).drew X (L.take (k + 1))) from Lib.hid (by
    rw [HTK.out]
    exact (HS5.out.put (x := x) (k := P * 4 + C) (by omega) (by rw [hP, hC, ht])).ext (.drew (.refl _))))
   clear hsb hlk hby hsm HS HS5
   go_region
   go_wp2
   go_roundw
   case rel => exact ⟨k + 1, by omega, by go_num, HN.out⟩
   case measure => first | (simp [intOf]; done) | (simp [intOf]; omega)
  case neg =>
   obtain rfl : k = L.length := by omega
   have d1 : decide ((L.length : Int) < (L.length : Int)) = false := by simp
   have n1 : ¬ (L.length : Int) < (L.length : Int) := by omega
   have HS' := Lib.hid (show SumAt W0 wO X L by have := HS.out; rwa [List.take_length] at this)
   clear hlt HS hk
   obtain ⟨V, hV⟩ : ∃ V : Nat → Nat → Int, V = fun p c => Wb.sumC p c L := ⟨_, rfl⟩
   have HC := Lib.hid (show ∀ k, k < 28 → wO.cell? ⟨X, k, none⟩ = some (.int .i64 (V (k / 4) (k % 4))) from fun k hk => by rw [hV]; exact HS'.out.cells k hk)
   have HV := Lib.hid hV
   clear hV
   have hRA : wO.rangeAt X 0 (cs28 V) := fun j u hu => by
    have hj : j < 28 := by rw [← cs28_len V]; exact (List.getElem?_eq_some_iff.1 hu).1
    rw [cs28_get V hj] at hu
    cases hu
    rw [Nat.zero_add]
    exact HC.out j hj
   have hXO : X < wO.heap.size := Wb.cell_size (HC.out 0 (by decide))
   have HKX := Lib.hid HS'.out.kept
   go_upto_region 8 with (fail)
   refine Wb.wp_at fun W8 hW8 => ?_
   obtain ⟨Z, hZ⟩ : ∃ Z, wO.heap.size = Z := ⟨_, rfl⟩
   have hx8 : Wb.Ext wO W8 := by rw [hW8]; (repeat' (first | (with_reducible assumption) | (with_reducible exact Wb.Ext.refl _) | (with_reducible refine Wb.Ext.drew ?_) | (with_reducible refine Wb.Ext.drewN ?_ _) | (with_reducible refine Wb.Ext.alloc ?_ _) | (with_reducible refine Wb.Ext.trans ?_ (by assumption))))
   have z0 : W8.cell? ⟨Z, 0, none⟩ = some (.int .i64 y) := by rw [hW8, ← hZ]; simp [go_sem]
   have z1 : W8.cell? ⟨Z, 1, none⟩ = some (.int .i64 i) := by rw [hW8, ← hZ]; simp [go_sem]
   have z2 : W8.cell? ⟨Z, 2, none⟩ = some (.slice none 0 0) := by rw [hW8, ← hZ]; simp [go_sem]
   have zf : ∀ j, W8.frozen? ⟨Z, j, none⟩ = false := fun j => by rw [hW8, ← hZ]; simp [go_sem]
   have hRA8 : W8.rangeAt X 0 (cs28 V) := fun j u hu => hx8.keep (hRA j u hu)
   have hZs : Z < W8.heap.size := Wb.cell_size z0
   have HX8 := Lib.hid hx8
   have hXZ : X < Z := by omega
   rw [hZ]
   clear hW8 hZ hx8 hRA
   have hu := Tryz.underlying121
   have hi28 : (Tryz.prog.info? 121).map (·.size) = some (cs28 V).length := by rw [cs28_len]; kernel_rfl
   go_wp2_with (go_loud (refine wpList_load_mid rfl 121 (.tmp 7) rfl X 0 rfl (cs28 V) _ hRA8 hu rfl hi28 ?_))
   obtain ⟨n8, hn8⟩ : ∃ n8, W8.heap.size = n8 := ⟨_, rfl⟩
   have HL0 : Hid (LnAt W8 W8 Z n8 y i none 0 0 []) := Lib.hid ⟨z0, z1, z2, zf, World.ownsRow_nil _ _ _ _, .refl⟩
   have HN8 := Lib.hid hn8
   have hcs : (cs28 V).toArray = (cs28 V).toArray := rfl
   clear z0 z1 z2 zf hRA8 hi28 hu hcs HC HS'
   have hX1 : ∀ (j : Nat) (w : World), j < 7 → (Instr.index 121 (.agg (cs28 V).toArray) (.int .i64 (j : Int))).run Tryz.prog w = .ok (.agg #[.int .i64 (V j 0), .int .i64 (V j 1), .int .i64 (V j 2), .int .i64 (V j 3)]) w := fun j w hj => by
    rcases (by omega : j = 0 ∨ j = 1 ∨ j = 2 ∨ j = 3 ∨ j = 4 ∨ j = 5 ∨ j = 6) with rfl | rfl | rfl | rfl | rfl | rfl | rfl <;> kernel_rfl
   have hX2 : ∀ (j m : Nat) (w : World), m < 4 → (Instr.index 120 (.agg #[.int .i64 (V j 0), .int .i64 (V j 1), .int .i64 (V j 2), .int .i64 (V j 3)]) (.int .i64 (m : Int))).run Tryz.prog w = .ok (.int .i64 (V j m)) w := fun j m w hm => by
    rcases (by omega : m = 0 ∨ m = 1 ∨ m = 2 ∨ m = 3) with rfl | rfl | rfl | rfl <;> kernel_rfl
   have HX1 := Lib.hid hX1
   have HX2 := Lib.hid hX2
   clear hX1 hX2
   go_loopw [41] (fun iv wr => ∃ (j : Nat) (ua : Option Addr) (uc : Nat), j ≤ 7 ∧ iv = .int .i64 j ∧ Hid (LnAt W8 wr Z n8 y i ua (Wb.linesTo V (j * 4)).length uc (Wb.linesTo V (j * 4)))) (fun iv _ => 7 - (intOf iv).toNat)
   case atStart => exact ⟨0, none, 0, by omega, rfl, HL0⟩
   case round =>
    clear HL0
    obtain ⟨j, ua, uc, hj, rfl, HA⟩ := hrel
    obtain ⟨wA, hwz⟩ : ∃ z, z = wr := ⟨_, rfl⟩
    subst hwz
    by_cases hlt : j < 7
    case neg =>
     obtain rfl : j = 7 := by omega
     have d2 : decide ((7 : Int) < 7) = false := by decide
     have z0 := HA.out.z0
     have z1 := HA.out.z1
     have z2 := HA.out.z2
     have hZ8 : Z < n8 := by have := HN8.out; omega
     have hA8 : A < n8 := by have := HN8.out; omega
     have hAXn : A ≠ X := by omega
     have hAZ : A < n8 ∧ A ≠ Z := ⟨hA8, by omega⟩
     have hAW0 : A < W0.heap.size := Wb.cell_size HR.out.1
     have a0 := HA.out.kept.cell hAZ (HX8.out.keep (HKX.out.cell hAXn HR.out.1))
     have a1 := HA.out.kept.cell hAZ (HX8.out.keep (HKX.out.cell hAXn HR.out.2.1))
     have a2 := HA.out.kept.cell hAZ (HX8.out.keep (HKX.out.cell hAXn HR.out.2.2.1))
     have af : ∀ j, wA.frozen? ⟨A, j, none⟩ = false := fun j => HA.out.kept.frozen hAZ (by omega) ((HX8.out.cells.2 _ _ (by have := HKX.out.size; omega)).trans (HKX.out.frozen hAXn hAW0 (HR.out.2.2.2 j)))
     have hln8 : ∀ q, (Value.slice ua (Wb.linesTo V (7 * 4)).length uc).ownBlock = some q → n8 ≤ q := fun q hq => (HA.out.own.lt q hq).1
     have HLN : Hid (LnsC wA (.slice ua (Wb.linesTo V (7 * 4)).length uc) (Wb.slipL L)) := Lib.hid (by
      have e : Wb.slipL L = Wb.linesTo V (7 * 4) := by unfold Wb.slipL; rw [HV.out]
      rw [e]
      exact lnsC_of_row HA.out.own)
     have hwX : w.heap.size ≤ X := by omega
     have hwZ : w.heap.size ≤ Z := by omega
     have HXA : Hid (Wb.Ext w wA) := Lib.hid (HA.out.kept.old ((HKX.out.old HX0.out (fun i hi => by omega)).trans HX8.out) (fun i hi => ⟨by omega, by omega⟩))
     have HEND := Lib.hid (show ∀ u0 u1 u2, LnsC (((wA.setCell ⟨A, 0, none⟩ u0).setCell ⟨A, 1, none⟩ u1).setCell ⟨A, 2, none⟩ u2) (.slice ua (Wb.linesTo V (7 * 4)).length uc) (Wb.slipL L) ∧ Wb.Ext w (((wA.setCell ⟨A, 0, none⟩ u0).setCell ⟨A, 1, none⟩ u1).setCell ⟨A, 2, none⟩ u2) from fun u0 u1 u2 => by
      have k : Kept (fun q => q ≠ A) wA (((wA.setCell ⟨A, 0, none⟩ u0).setCell ⟨A, 1, none⟩ u1).setCell ⟨A, 2, none⟩ u2) := by
       (repeat' (first | (with_reducible exact Kept.refl) | (with_reducible refine Kept.setj ?_ ?_) | (exact fun h => h rfl)))
      exact ⟨k.lns HLN.out (fun _ q hq => by have := hln8 q hq; omega), k.old HXA.out (fun i hi => by omega)⟩)
     have HL8 := Lib.hid hln8
     obtain ⟨ll, hll⟩ : ∃ ll, (Wb.linesTo V (7 * 4)).length = ll := ⟨_, rfl⟩
     rw [hll] at HEND z2 HL8
     clear HLN hln8 HA hlt hj hll HX1 HX2
     go_wp2
     exact bodyPost_ret (v := SlV y i (.slice ua ll uc)) (by simp [results, Tryz.results28, go_sem, SlV, a0, a1, a2]) rfl ⟨_, rfl, (HEND.out _ _ _).1, fun q hq => by have := HL8.out q hq; omega, (HEND.out _ _ _).2⟩
    have hix := fun w => HX1.out j w hlt
    have d2 : decide ((j : Int) < 7) = true := by simp; omega
    have hji : (j : Int) < 7 := by omega
    obtain ⟨n9, hn9⟩ : ∃ n9, j * 4 = n9 := ⟨_, rfl⟩
    go_upto_region 11 with (fail)
    refine Wb.wp_at fun W9 hW9 => ?_
    have hx9 : Wb.Ext wA W9 := by rw [hW9]; (repeat' (first | (with_reducible assumption) | (with_reducible exact Wb.Ext.refl _) | (with_reducible refine Wb.Ext.drew ?_) | (with_reducible refine Wb.Ext.drewN ?_ _) | (with_reducible refine Wb.Ext.alloc ?_ _) | (with_reducible refine Wb.Ext.trans ?_ (by assumption))))
    have HA9 := Lib.hid (HA.out.later hx9)
    obtain ⟨Y, hY⟩ : ∃ Y, wA.heap.size = Y := ⟨_, rfl⟩
    have y0 : W9.cell? ⟨Y, 0, none⟩ = some (.int .i64 (V j 0)) := by rw [hW9, ← hY]; simp [go_sem]
    have y1 : W9.cell? ⟨Y, 1, none⟩ = some (.int .i64 (V j 1)) := by rw [hW9, ← hY]; simp [go_sem]
    have y2 : W9.cell? ⟨Y, 2, none⟩ = some (.int .i64 (V j 2)) := by rw [hW9, ← hY]; simp [go_sem]
    have y3 : W9.cell? ⟨Y, 3, none⟩ = some (.int .i64 (V j 3)) := by rw [hW9, ← hY]; simp [go_sem]
    rw [hY]
    clear hW9 hY hx9 HA hix
    go_wp2_with fail
    go_loopw [46] (fun iv wr => ∃ (m : Nat) (ua : Option Addr) (uc : Nat), m ≤ 4 ∧ iv = .int .i64 m ∧ Hid (LnAt W8 wr Z n8 y i ua (Wb.linesTo V (j * 4 + m)).length uc (Wb.linesTo V (j * 4 + m)))) (fun iv _ => 4 - (intOf iv).toNat)
    case atStart => exact ⟨0, ua, uc, by omega, rfl, HA9⟩
    case round =>
     clear HA9 y0 y1 y2 y3
     obtain ⟨m, ua, uc, hm, rfl, HB⟩ := hrel
     obtain ⟨wB, hwz⟩ : ∃ z, z = wr := ⟨_, rfl⟩
     subst hwz
     by_cases hlm : m < 4
     case neg =>
      obtain rfl : m = 4 := by omega
      have HC9 : Hid (LnAt W8 wB Z n8 y i ua (Wb.linesTo V ((j + 1) * 4)).length uc (Wb.linesTo V ((j + 1) * 4))) := Lib.hid (by
       have := HB.out
       rwa [show j * 4 + 4 = (j + 1) * 4 by omega] at this)
      have d3 : decide ((4 : Int) < 4) = false := by decide
      clear hlm HB hm
      go_wp2
      go_roundw
      case rel => exact ⟨j + 1, ua, uc, by omega, by go_num, HC9⟩
      case measure => first | (simp [intOf]; done) | (simp [intOf]; omega)
     have hix := fun w => HX2.out j m w hlm
     have hdm : (j * 4 + m) / 4 = j ∧ (j * 4 + m) % 4 = m := by omega
     have hmi : (m : Int) < 4 := by omega
     have d3 : decide ((m : Int) < 4) = true := by simp; omega
     obtain ⟨c, hc⟩ : ∃ c, V j m = c := ⟨_, rfl⟩
     rw [hc] at hix
     by_cases hz : c = 0
     ·have HN : Hid (LnAt W8 wB Z n8 y i ua (Wb.linesTo V (j * 4 + (m + 1))).length uc (Wb.linesTo V (j * 4 + (m + 1)))) := Lib.hid (by
       have e : Wb.linesTo V (j * 4 + (m + 1)) = Wb.linesTo V (j * 4 + m) := by
        rw [← Nat.add_assoc, Wb.linesTo_succ]
        unfold Wb.lineAt
        rw [hdm.1, hdm.2, hc, if_pos hz]; simp
       rw [e]; exact HB.out)
      have e1 : ((c : Int) != 0) = false := by simp [hz]
      clear hc hz HB hdm
      go_wp2
      go_roundw
      case rel => exact ⟨m + 1, ua, uc, by omega, by go_num, HN⟩
      case measure => first | (simp [intOf]; done) | (simp [intOf]; omega)
     ·have e1 : ((c : Int) != 0) = true := by simpa using hz
      have HEQ := Lib.hid (show Wb.linesTo V (j * 4 + (m + 1)) = Wb.linesTo V (j * 4 + m) ++ [⟨(j : Int), [UInt8.ofNat (97 + m)], c⟩] by
       rw [← Nat.add_assoc, Wb.linesTo_succ]
       unfold Wb.lineAt
       rw [hdm.1, hdm.2, hc, if_neg hz])
      have z2 := HB.out.z2
      have zf := HB.out.zf
      clear hc hz hdm
      obtain ⟨bc, hbc⟩ : ∃ bc, UInt8.ofNat (97 + m) = bc := ⟨_, rfl⟩
      rw [hbc] at HEQ
      have kc : ∀ w : World, (convert 79 9 (.slice (some ⟨w.heap.size, 0, none⟩) 1 1)).run Tryz.prog (w.alloc (.cells #[.int .u8 (97 + (m : Int))] 5)) = .ok (.string (Wb.S [bc])) (w.alloc (.cells #[.int .u8 (97 + (m : Int))] 5)) := fun w => by
       rw [convT w (97 + (m : Int)) (by omega), show (97 + (m : Int)).toNat = 97 + m by omega, hbc]
      clear hbc
      have e3 : IntKind.u8.wrap (m : Int) = (m : Int) := by rw [IntKind.wrap_u8]; omega
      have e4 : IntKind.u8.wrap (97 + (m : Int)) = 97 + (m : Int) := by rw [IntKind.wrap_u8]; omega
      have hln := Wb.linesTo_len V (j * 4 + m)
      obtain ⟨ln, hln9⟩ : ∃ ln, Wb.linesTo V (j * 4 + m) = ln := ⟨_, rfl⟩
      rw [hln9] at HB HEQ z2 hln
      have hn8B : n8 ≤ wB.heap.size := by have := HB.out.kept.size; have := HN8.out; omega
      have hZ8 : Z < n8 := by have := HN8.out; omega
      clear hln9
      obtain ⟨hi, hz0, hz1, hz2⟩ := HIN.out.choose_spec
      go_upto_region 15 with (fail)
      go_wp2_with (at_builtin; go_loud (refine Wb.wpList_append_row rfl (.tmp 53) (.tmp 62) 48 rfl n8 89 _ (.agg #[.int .i64 0, .string "".toUTF8, .int .i64 0]) 3 32 Tryz.underlying48 hi hz0 hz1 hz2 rfl (by decide) _ _ _ rfl (Wb.row_ext HB.out.own (((Wb.Ext.refl _).alloc _).alloc _)) _ rfl 1 (lnv ⟨(j : Int), [bc], c⟩) ?c1 ?c2 ?c3 ?c4 ?c5 ?_))
      case c1 =>
       exact src_lit _ _ (by simp) (lnv ⟨(j : Int), [bc], c⟩) _ _
      case c2 => intro u hu; simp [lnv] at hu; rcases hu with rfl | rfl | rfl <;> rfl
      case c3 => unfold maxLen; omega
      case c4 => omega
      case c5 => simp; omega
      intro u2 w6 hown2 hg2 hnil2
      obtain ⟨ua2, uc2, rfl⟩ := row_shape hown2
      have HN : Hid (LnAt W8 (w6.setCell ⟨Z, 2, none⟩ (.slice ua2 (ln.length + 1) uc2)) Z n8 y i ua2 (Wb.linesTo V (j * 4 + (m + 1))).length uc2 (Wb.linesTo V (j * 4 + (m + 1)))) := Lib.hid (by
       have := HB.out.push (((Wb.Ext.refl _).alloc _).alloc _) hg2 (by rw [← lnvs_one, ← lnvs_app] at hown2; exact hown2) hZ8
       rw [HEQ.out, List.length_append]
       exact this)
      have HLEN := Lib.hid (show (Wb.linesTo V (j * 4 + (m + 1))).length = ln.length + 1 by rw [HEQ.out, List.length_append]; rfl)
      have hZw : Z < w6.heap.size := by have := hg2.size; simp at this; omega
      have zf6 : ∀ j, w6.frozen? ⟨Z, j, none⟩ = false := by
       have hl9 := HB.out.own.lt
       have k6 : Kept (fun q => q < n8) wB w6 := (Kept.ext (((Wb.Ext.refl _).alloc _).alloc _)).trans (.grown hg2 (fun q e _ h => by have := (hl9 q e).1; omega))
       exact fun j => k6.frozen hZ8 (Nat.lt_of_lt_of_le hZ8 hn8B) (zf j)
      have z26 : ∃ u, w6.cell? ⟨Z, 2, none⟩ = some u := by
       have hl9 := HB.out.own.lt
       have k6 : Kept (fun q => q < n8) wB w6 := (Kept.ext (((Wb.Ext.refl _).alloc _).alloc _)).trans (.grown hg2 (fun q e _ h => by have := (hl9 q e).1; omega))
       exact ⟨_, k6.cell hZ8 z2⟩
      obtain ⟨u6, z26⟩ := z26
      clear hi hz0 hz1 hz2 hg2 hown2 hnil2 zf z2 HB HEQ kc hix
      go_wp2
      go_roundw
      case rel => exact ⟨m + 1, ua2, uc2, by omega, by go_num, HN⟩
      case measure => first | (simp [intOf]; done) | (simp [intOf]; omega)
end Go.Proofs.YtnefdpnolojojaaGreatDoor
namespace Go.Proofs.YtnefdpnolojojaaGreatDoor
open Go.RowKit Go.Sort Go.Lib Go.Maps
set_option maxRecDepth 8000
attribute [local go_sem ↓] Go.wp_at_zero Go.wp_at_succ
end Go.Proofs.YtnefdpnolojojaaGreatDoor
namespace Go.Proofs.YtnefdpnolojojaaGreatDoor
open Go.RowKit Go.Sort Go.Lib Go.Maps
set_option maxRecDepth 8000
attribute [local go_sem ↓] Go.wp_at_zero Go.wp_at_succ
def clZ : Value := .agg #[.int .u8 0, .int .u8 0, .int .u8 0, .int .u8 0, .int .u8 0, .int .i32 0]
theorem infoCl : (Tryz.prog.info? 76).map (fun i => (i.zero, i.size, i.bytes)) = some (some clZ, 6, 12) := by kernel_rfl
theorem slip_sized {l : List Wb.Cl} : Sized (Wb.slipL l) := by
 refine ⟨Nat.le_trans (Wb.linesTo_len _ _) (by decide), fun x hx => ?_⟩
 obtain ⟨k, hk, rfl, -⟩ := Wb.linesTo_mem hx
 simp
structure HdAt (w wr : World) (M : Nat) (L : List Wb.Cl) (r p : Nat) : Prop where
 map : ∃ (n : Nat) (f : Int → Option Value), n ≤ p ∧ KMap kU32 wr M n (.slice none 0 0) f ∧ (∀ q, (f q).isSome = true → 1 ≤ q ∧ q ≤ p) ∧
  ∀ q : Int, (q ≤ p → ∃ R : List Wb.Sl, (∀ w2, Kept (fun b => w.heap.size ≤ b ∧ b ≠ M) wr w2 → SlsK w2 ((f q).getD (.slice none 0 0)) R) ∧ R.map Wb.ct = Wb.handX L r q ∧ (Wb.handX L r q ≠ [] → (f q).isSome = true))
 ext : Wb.Ext w wr
 lt : M < wr.heap.size ∧ w.heap.size ≤ M
theorem HdAt.kept {w wr w2 : World} {M : Nat} {L : List Wb.Cl} {r p : Nat} (h : HdAt w wr M L r p) (k : Wb.Ext wr w2) : HdAt w w2 M L r p := by
 obtain ⟨⟨n, f, h1, h2, h3, h4⟩, h5, h6⟩ := h
 exact ⟨⟨n, f, h1, h2.ext k, h3, fun q hq => by
  obtain ⟨R, k1, k2⟩ := h4 q hq
  exact ⟨R, fun w3 h => k1 w3 ((Kept.ext k).trans h), k2⟩⟩, h5.trans k, ⟨Nat.lt_of_lt_of_le h6.1 k.size, h6.2⟩⟩
theorem HdAt.skip {w wr : World} {M : Nat} {L : List Wb.Cl} {r p : Nat} (h : HdAt w wr M L r p) (hs : Wb.someX L p r r = false) : HdAt w wr M L r (p + 1) := by
 obtain ⟨⟨n, f, h1, h2, h3, h4⟩, h5, h6⟩ := h
 refine ⟨⟨n, f, by omega, h2, fun q hq => by have := h3 q hq; omega, fun q hq => ?_⟩, h5, h6⟩
 by_cases e : q ≤ p
 ·exact h4 q e
 ·have e : q = ((p + 1 : Nat) : Int) := by omega
  have hn : Wb.handX L r q = [] := by
   unfold Wb.handX
   rw [if_neg]
   rintro ⟨-, -, h⟩
   rw [show (q - 1).toNat = p by omega, hs] at h; cases h
  have hf : f q = none := by
   rcases hf : f q with _ | x
   ·rfl
   ·have := h3 q (by rw [hf]; rfl); omega
  rw [hn, hf]
  exact ⟨[], fun w2 _ => slsK_nil, rfl, fun h => absurd rfl h⟩
theorem HdAt.put {w wr w2 : World} {M : Nat} {L : List Wb.Cl} {r p n : Nat} {f : Int → Option Value} {v : Value} {R : List Wb.Sl} (h5 : Wb.Ext w wr) (h6 : M < wr.heap.size ∧ w.heap.size ≤ M) (h1 : n ≤ p) (h3 : ∀ q, (f q).isSome = true → 1 ≤ q ∧ q ≤ p)
  (h4 : ∀ q : Int, (q ≤ p → ∃ R : List Wb.Sl, (∀ w2, Kept (fun b => w.heap.size ≤ b ∧ b ≠ M) wr w2 → SlsK w2 ((f q).getD (.slice none 0 0)) R) ∧ R.map Wb.ct = Wb.handX L r q ∧ (Wb.handX L r q ≠ [] → (f q).isSome = true)))
  (hm : KMap kU32 w2 M (n + 1) (.slice none 0 0) (fun q => if ((p + 1 : Nat) : Int) = q then some v else f q)) (hg : wr.grownBy w2 (some M)) (hv : ∀ w3, Kept (fun b => w.heap.size ≤ b ∧ b ≠ M) wr w3 → SlsK w3 v R) (hR : R.map Wb.ct = Wb.slipsX L p r r) (hp : p < 3) (hs : Wb.someX L p r r = true) :
  HdAt w w2 M L r (p + 1) := by
 have hk : Kept (fun b => w.heap.size ≤ b ∧ b ≠ M) wr w2 := .grown hg (fun b e _ h => by cases e; exact h.2 rfl)
 refine ⟨⟨n + 1, _, by omega, hm, fun q hq => ?_, fun q hq => ?_⟩, Wb.Ext.grown h5 hg (fun b e => by cases e; exact h6.2), ⟨Nat.lt_of_lt_of_le h6.1 hg.size, h6.2⟩⟩
 ·by_cases e : ((p + 1 : Nat) : Int) = q
  ·omega
  ·simp only [if_neg e] at hq
   have := h3 q hq; omega
 ·by_cases e : ((p + 1 : Nat) : Int) = q
  ·subst e
   simp only [if_true]
   have hx : Wb.handX L r ((p + 1 : Nat) : Int) = Wb.slipsX L p r r := by
    unfold Wb.handX
    have e2 : (((p + 1 : Nat) : Int) - 1).toNat = p := by omega
    rw [e2, if_pos ⟨by omega, by omega, hs⟩]
   exact ⟨R, fun w3 h => hv w3 (hk.trans h), by rw [hx]; exact hR, fun _ => rfl⟩
  ·simp only [if_neg e]
   obtain ⟨R, k1, k2⟩ := h4 q (by omega)
   exact ⟨R, fun w3 h => k1 w3 (hk.trans h), k2⟩
structure SpAt (w wr : World) (M n0 : Nat) (v : Value) (L : List Wb.Cl) (p r i : Nat) (R : List Wb.Sl) : Prop where
 row : SlR n0 wr v R
 cts : R.map Wb.ct = Wb.slipsX L p r i
 far : ∀ s ∈ R, ∀ q, s.v.ownBlock = some q → w.heap.size ≤ q ∧ q ≠ M
theorem SpAt.ext {w wr w2 : World} {M n0 : Nat} {v : Value} {L : List Wb.Cl} {p r i : Nat} {R : List Wb.Sl} (h : SpAt w wr M n0 v L p r i R) (k : Wb.Ext wr w2) : SpAt w w2 M n0 v L p r i R := ⟨h.row.ext k, h.cts, h.far⟩
set_option maxHeartbeats 8000000 in
theorem handed_any (v : Value) (L : List Wb.Cl) (r : Nat) (w : World) (h : ClsM w v L) (hl : L.length ≤ 60) (hr : r ≤ 6) :
  Calls Tryz.prog 6 #[v, .int .i64 r] w fun e w' => ∃ M, e = .returned (.map (some M)) ∧ HdAt w w' M L r 3 := by
 obtain ⟨va, vc, rfl⟩ := h.tab.shape
 have HL := Lib.hid h
 have HIN := Lib.hid (info_parts infoCl)
 have HIS := Lib.hid (info_parts infoSlip)
 clear h
 have hmm := @run_makeMap Tryz.prog
 go_enter Tryz.func6, Tryz.ntmps6
 go_upto_region 2 with (fail)
 refine Wb.wp_at fun W0 hW0 => ?_
 obtain ⟨M, hM⟩ : ∃ M, w.heap.size = M := ⟨_, rfl⟩
 have HX0 := Lib.hid (show Wb.Ext w W0 by rw [hW0]; (repeat' (first | (with_reducible assumption) | (with_reducible exact Wb.Ext.refl _) | (with_reducible refine Wb.Ext.drew ?_) | (with_reducible refine Wb.Ext.drewN ?_ _) | (with_reducible refine Wb.Ext.alloc ?_ _) | (with_reducible refine Wb.Ext.trans ?_ (by assumption)))))
 have HM0 : Hid (HdAt w W0 M L r 0) := Lib.hid ⟨⟨0, fun _ => none, Nat.le_refl _, by rw [hW0]; exact kmap_made kU32 w (.slice none 0 0) M hM.symm, (fun q hq => by cases hq), fun q hq => by
  have e : Wb.handX L r q = [] := by unfold Wb.handX; rw [if_neg (by omega)]
  rw [e]
  exact ⟨[], fun w2 _ => slsK_nil, rfl, fun h => absurd rfl h⟩⟩, HX0.out, ⟨by rw [hW0, ← hM]; simp, by omega⟩⟩
 rw [hM]
 have hMw : w.heap.size ≤ M := by omega
 clear hW0 hM hmm
 go_wp2_with fail
 go_loopw [14] (fun pv wr => ∃ p : Nat, p ≤ 3 ∧ pv = .int .u32 p ∧ Hid (HdAt w wr M L r p)) (fun pv _ => 3 - (intOf pv).toNat)
 case atStart => exact ⟨0, by omega, rfl, HM0⟩
 case round =>
  clear HM0
  obtain ⟨p, hp, rfl, HP⟩ := hrel
  obtain ⟨wP, hwz⟩ : ∃ z, z = wr := ⟨_, rfl⟩
  subst hwz
  by_cases hlp : p < 3
  case neg =>
   obtain rfl : p = 3 := by omega
   have d1 : decide ((3 : Int) < 3) = false := by decide
   clear hlp hp
   go_wp2
   exact bodyPost_ret (v := .map (some M)) (by simp [results, Tryz.results6, go_sem]) rfl ⟨M, rfl, HP.out⟩
  have hpi : (p : Int) < 3 := by omega
  have d1 : decide ((p : Int) < 3) = true := by simp; omega
  obtain ⟨n0, hn0⟩ : ∃ n0, wP.heap.size = n0 := ⟨_, rfl⟩
  have HN0 := Lib.hid hn0
  have hMn : M < n0 := by have := HP.out.lt; omega
  clear hn0 hp
  have hrow0 : Hid (SpAt w wP M n0 (.slice none 0 0) L p r 0 []) := Lib.hid ⟨SlR.nil, rfl, fun s hs => by cases hs⟩
  go_upto_region 8 with (fail)
  go_wp2_with fail
  go_loopw [9, 7, 8] (fun iv sv bv wr => ∃ (t : Nat) (oa : Option Addr) (oc : Nat) (R : List Wb.Sl) (g : Bool), 1 ≤ t ∧ t ≤ r + 1 ∧ iv = .int .i64 t ∧ sv = .slice oa R.length oc ∧ bv = .bool g ∧ R.length + 1 = t ∧ Hid (g = Wb.someX L p r (t - 1)) ∧ Hid (SpAt w wr M n0 (.slice oa R.length oc) L p r (t - 1) R) ∧ Hid (Wb.Ext wP wr)) (fun iv _ _ _ => r + 1 - (intOf iv).toNat)
  case atStart => exact ⟨1, none, 0, [], false, by omega, by omega, rfl, rfl, rfl, rfl, Lib.hid rfl, hrow0, Lib.hid (.refl _)⟩
  case round =>
   clear hrow0
   obtain ⟨t, oa, oc, R, g, ht1, ht2, rfl, rfl, rfl, hRl, HG, HR, HX⟩ := hrel
   obtain ⟨wO, hwz⟩ : ∃ z, z = wr := ⟨_, rfl⟩
   subst hwz
   have HRL := Lib.hid hRl
   have hRb : R.length ≤ 10 := by omega
   clear hRl
   by_cases hlt : t ≤ r
   case neg =>
    have htr : t - 1 = r := by omega
    rw [htr] at HG HR
    have HPO := Lib.hid (HP.out.kept HX.out)
    have d2 : decide ((t : Int) ≤ (r : Int)) = false := by simp; omega
    have d2n : ¬ (t : Int) ≤ (r : Int) := by omega
    clear hlt htr ht1 ht2 HX HRL
    cases g
    case false =>
     have HN := Lib.hid (HPO.out.skip HG.out.symm)
     have hw3 : IntKind.u32.wrap ((p : Int) + 1) = (p : Int) + 1 := by rw [IntKind.wrap_u32]; omega
     go_wp2
     go_roundw
     case rel => exact ⟨p + 1, by omega, by go_num, HN⟩
     case measure => first | (simp [intOf]; done) | (simp [intOf]; omega)
    case true =>
     obtain ⟨⟨n, f, h1, h2, h3, h4⟩, h5, h6⟩ := HPO.out
     have hpo : kU32.ok ((p + 1 : Nat) : Int) := u32_ok (by omega)
     obtain ⟨w2, hrun, hm2, hg2⟩ := h2.update Tryz.underlying24 (by unfold maxLen; omega) hpo (.slice oa R.length oc)
     have hw3 : IntKind.u32.wrap ((p : Int) + 1) = (p : Int) + 1 := by rw [IntKind.wrap_u32]; omega
     replace hrun : (Instr.mapUpdate 24 (.map (some M)) (.int .u32 ((p : Int) + 1)) (.slice oa R.length oc)).run Tryz.prog wO = .ok () w2 := hrun
     have hrl := HR.out.row.1.lt
     have HN := Lib.hid (HdAt.put (R := R) h5 h6 h1 h3 h4 hm2 hg2 (fun w3 k => ⟨k.sls HR.out.row.sls (fun q hq => by have := (hrl q hq).1; have := HPO.out.lt; omega) (fun s hs _ q hq => HR.out.far s hs q hq), by omega, fun s hs => by
      have hc : Wb.ct s ∈ Wb.slipsX L p r r := by rw [← HR.out.cts]; exact List.mem_map_of_mem hs
      obtain ⟨i, -, -, e⟩ := Wb.slipsX_mem hc
      have e2 : s.l = Wb.slipL (Wb.rowsX L p r i) := congrArg (fun c => c.2.2) e
      rw [e2]
      exact Nat.le_trans (Wb.linesTo_len _ _) (by decide)⟩) HR.out.cts hlp HG.out.symm)
     clear h1 h2 h3 h4 h5 h6 hm2 hg2 hrl hpo HPO
     go_wp2
     go_roundw
     case rel => exact ⟨p + 1, by omega, by go_num, HN⟩
     case measure => first | (simp [intOf]; done) | (simp [intOf]; omega)
   have d2 : decide ((t : Int) ≤ (r : Int)) = true := by simp; omega
   have d2n : (t : Int) ≤ (r : Int) := by omega
   obtain ⟨n1, hn1⟩ : ∃ n1, wO.heap.size = n1 := ⟨_, rfl⟩
   have HN1 := Lib.hid hn1
   clear hn1
   go_upto_region 12 with (fail)
   go_loopw [24, 10] (fun kv qv wr => ∃ (k : Nat) (qa : Option Addr) (qc : Nat) (Q : List Wb.Cl), k ≤ L.length ∧ kv = .int .i64 k ∧ qv = .slice qa Q.length qc ∧ Hid (Q = Wb.rowsX (L.take k) p r t) ∧ Hid (wr.ownsRow n1 76 6 (.slice qa Q.length qc) Q.length (rowsOf clc Q)) ∧ Hid (Wb.Ext wO wr)) (fun kv _ _ => L.length - (intOf kv).toNat)
   case atStart => exact ⟨0, none, 0, [], Nat.zero_le _, rfl, rfl, Lib.hid rfl, Lib.hid own_none, Lib.hid (.refl _)⟩
   case round =>
    obtain ⟨k, qa, qc, Q, hk, rfl, rfl, HQ, HO, HXQ⟩ := hrel
    obtain ⟨wB, hwz⟩ : ∃ z, z = wr := ⟨_, rfl⟩
    subst hwz
    by_cases hlk : k < L.length
    case neg =>
     obtain rfl : k = L.length := by omega
     have HQF := Lib.hid (show Q = Wb.rowsX L p r t by have := HQ.out; rwa [List.take_length] at this)
     have d4 : decide ((L.length : Int) < (L.length : Int)) = false := by simp
     have n4 : ¬ (L.length : Int) < (L.length : Int) := by omega
     have HCM : Hid (ClsM wB (.slice qa Q.length qc) Q) := Lib.hid ⟨row_tbl clc_len (by decide) HO.out, fun x hx => HL.out.byte x (by rw [HQF.out] at hx; exact (List.mem_filter.1 hx).1), by rw [HQF.out]; exact Wb.rowsX_small HL.out.small _ _ _⟩
     have hQl : Q.length ≤ 60 := by rw [HQF.out]; exact Nat.le_trans (Wb.rowsX_len _ _ _ _) hl
     obtain ⟨g', hg'⟩ : ∃ g', (g || decide (0 < Q.length)) = g' := ⟨_, rfl⟩
     have HG' := Lib.hid (show g' = Wb.someX L p r t by
      obtain ⟨j, rfl⟩ : ∃ j, t = j + 1 := ⟨t - 1, by omega⟩
      rw [Wb.someX_succ, ← hg', HQF.out]
      have := HG.out
      rw [show j + 1 - 1 = j by omega] at this
      rw [← this])
     have HGG := Lib.hid hg'
     clear hlk hk hg' HQ HO
     go_upto_region 17 with (fail)
     go_cut [8] (fun bv wx => bv = .bool g' ∧ wB = wx)
     case first =>
      cases g
      case true =>
       have e := HGG.out
       simp at e
       subst e
       go_wp2_with fail
       go_meet
       exact ⟨rfl, rfl⟩
      case false =>
       have e := HGG.out
       simp only [Bool.false_or] at e
       by_cases h0 : 0 < Q.length
       ·have e1 : decide ((0 : Int) < (Q.length : Int)) = true := decide_eq_true (by omega)
        have e1n : decide (0 < Q.length) = true := decide_eq_true h0
        rw [e1n] at e
        subst e
        clear h0
        go_wp2_with fail
        go_meet
        exact ⟨rfl, rfl⟩
       ·have e1 : decide ((0 : Int) < (Q.length : Int)) = false := decide_eq_false (by omega)
        have e1n : decide (0 < Q.length) = false := decide_eq_false h0
        have e1m : ¬ (0 : Int) < (Q.length : Int) := by omega
        rw [e1n] at e
        subst e
        clear h0
        go_wp2_with fail
        go_meet
        exact ⟨rfl, rfl⟩
     case rest =>
     obtain ⟨rfl, rfl⟩ := hcut
     go_wp2_with fail
     go_fit (slipof_any 2026 t _ Q _ HCM.out hQl); rintro e w5 ⟨u, rfl, hu1, hu2, hx5⟩
     obtain ⟨sa, sn, sc, hsv⟩ : ∃ a n c, u = .slice a n c := by
      obtain ⟨a, c, e⟩ := hu1.1.shape
      exact ⟨a, _, c, e⟩
     subst hsv
     have HU := Lib.hid hu1
     have HU2 := Lib.hid hu2
     have HX5 := Lib.hid (HXQ.out.trans hx5)
     have hs5 := hx5.size
     have hsO := HXQ.out.size
     have HR5 := Lib.hid (HR.out.ext HX5.out)
     clear hu1 hu2 hx5 d4 n4
     obtain ⟨hi, hz0, hz1, hz2⟩ := HIS.out.choose_spec
     go_wp2_with (at_builtin; go_loud (refine wpList_append_row2 rfl (.tmp 63) (.tmp 67) 51 rfl n0 50 _ slZ 3 40 Tryz.underlying51 hi hz0 hz1 hz2 rfl (by decide) _ _ _ rfl (HR5.out.row.ext (Wb.Ext.alloc (.refl _) _)).1 _ rfl 1 (slc (⟨2026, t, .slice sa sn sc, Wb.slipL Q⟩ : Wb.Sl)) ?c1 ?c2 ?c3 ?c4 ?c5 ?_))
     case c1 => exact src_lit _ _ (by first | rfl | simp) (slc (⟨2026, t, .slice sa sn sc, Wb.slipL Q⟩ : Wb.Sl)) _ _
     case c2 => intro u hu; simp [slc] at hu; rcases hu with rfl | rfl | rfl <;> rfl
     case c3 => unfold maxLen; omega
     case c4 => omega
     case c5 => have := HX.out.size; have := HN0.out; first | omega | (simp; omega)
     intro u2 w6 hown2 hg2 hblk
     have hrb : ∀ q9, (Value.slice oa R.length oc).ownBlock = some q9 → n0 ≤ q9 ∧ q9 < wO.heap.size := fun q9 hq9 => HR.out.row.1.lt q9 hq9
     have HX6 := Lib.hid (show Wb.Ext wP w6 from Wb.Ext.grown (Wb.Ext.alloc (HX.out.trans HX5.out) _) hg2 (fun q9 hq9 => by have := (hrb q9 hq9).1; have := HN0.out; omega))
     have HR6 := Lib.hid (SlR.append (s := ⟨2026, t, .slice sa sn sc, Wb.slipL Q⟩) (HR5.out.row.ext (Wb.Ext.alloc (.refl _) _)) hown2 hg2 (by have := hblk; simp at this ⊢; exact this) (HU.out.ext (Wb.Ext.alloc (.refl _) _)) slip_sized (fun _ q hq e => by have h1 := HU2.out q hq; have h2 := (hrb q e).2; omega))
     obtain ⟨ua, uc, rfl⟩ := row_shape hown2
     have HSP : Hid (SpAt w w6 M n0 (.slice ua (R ++ [(⟨2026, t, .slice sa sn sc, Wb.slipL Q⟩ : Wb.Sl)]).length uc) L p r t (R ++ [⟨2026, t, .slice sa sn sc, Wb.slipL Q⟩])) := Lib.hid ⟨by rw [List.length_append]; exact HR6.out, by
      obtain ⟨j, rfl⟩ : ∃ j, t = j + 1 := ⟨t - 1, by omega⟩
      have h9 := HR.out.cts
      rw [show j + 1 - 1 = j by omega] at h9
      rw [Wb.slipsX_succ, List.map_append, h9, HQF.out]; rfl, fun s hs q hq => by
      rcases List.mem_append.1 hs with hs | hs
      ·exact HR.out.far s hs q hq
      ·obtain rfl := List.mem_singleton.1 hs
       have h1 := HU2.out q hq
       have h2 := HX.out.size
       have h3 := HP.out.ext.size
       have h4 := HN0.out
       exact ⟨by omega, by omega⟩⟩
     have hle : R.length + 1 = (R ++ [(⟨2026, t, .slice sa sn sc, Wb.slipL Q⟩ : Wb.Sl)]).length := by simp
     have HGN := Lib.hid (show g' = Wb.someX L p r (t + 1 - 1) by rw [Nat.add_sub_cancel]; exact HG'.out)
     have HRLN : R.length + 1 = t := HRL.out
     clear hi hz0 hz1 hz2 hg2 hown2 hblk hrb HRL
     go_wp2
     go_roundw
     case rel => exact ⟨t + 1, ua, uc, R ++ [⟨2026, t, .slice sa sn sc, Wb.slipL Q⟩], g', by omega, by omega, by go_num, by rw [← hle], rfl, by rw [← hle, HRLN], HGN, by rw [Nat.add_sub_cancel]; exact HSP, HX6⟩
     case measure => first | (simp [intOf]; done) | (simp [intOf]; omega)
    obtain ⟨x, hx⟩ := Wb.get_ex hlk
    have hmem := List.mem_of_getElem? hx
    have hby := HL.out.byte x hmem
    have hxw : Wb.Ext w wB := HP.out.ext.trans (HX.out.trans HXQ.out)
    obtain ⟨b, off, hb9, hc9⟩ := HL.out.tab.opened (by rintro rfl; simp at hx)
    obtain rfl : va = some ⟨b, off, none⟩ := hb9
    have l0 := hxw.keep (hc9 k x hx 0 _ rfl)
    have l1 := hxw.keep (hc9 k x hx 1 _ rfl)
    have l2 := hxw.keep (hc9 k x hx 2 _ rfl)
    have l3 := hxw.keep (hc9 k x hx 3 _ rfl)
    have l4 := hxw.keep (hc9 k x hx 4 _ rfl)
    have l5 := hxw.keep (hc9 k x hx 5 _ rfl)
    rw [Nat.add_zero] at l0
    have hki : (k : Int) < L.length := by omega
    have d3 : decide ((k : Int) < (L.length : Int)) = true := by simp; omega
    have HTK := Lib.hid (show Wb.rowsX (L.take (k + 1)) p r t = Wb.rowsX (L.take k) p r t ++ (if Wb.mine p r t x = true then [x] else []) by
     unfold Wb.rowsX
     rw [take_snoc hx, List.filter_append]
     by_cases e : Wb.mine p r t x = true <;> simp [e])
    clear hc9 hx hmem hlk hxw
    go_upto_region 14 with (fail)
    refine Wb.wp_at fun W4 hW4 => ?_
    obtain ⟨Y, hY⟩ : ∃ Y, wB.heap.size = Y := ⟨_, rfl⟩
    have y0 : W4.cell? ⟨Y, 0, none⟩ = some (.int .u8 x.per) := by rw [hW4, ← hY]; simp [go_sem]
    have y1 : W4.cell? ⟨Y, 1, none⟩ = some (.int .u8 x.run) := by rw [hW4, ← hY]; simp [go_sem]
    have y2 : W4.cell? ⟨Y, 2, none⟩ = some (.int .u8 x.prd) := by rw [hW4, ← hY]; simp [go_sem]
    have y3 : W4.cell? ⟨Y, 3, none⟩ = some (.int .u8 x.part) := by rw [hW4, ← hY]; simp [go_sem]
    have y4 : W4.cell? ⟨Y, 4, none⟩ = some (.int .u8 x.code) := by rw [hW4, ← hY]; simp [go_sem]
    have y5 : W4.cell? ⟨Y, 5, none⟩ = some (.int .i32 x.cents) := by rw [hW4, ← hY]; simp [go_sem]
    have hx4 : Wb.Ext wB W4 := by rw [hW4]; (repeat' (first | (with_reducible assumption) | (with_reducible exact Wb.Ext.refl _) | (with_reducible refine Wb.Ext.drew ?_) | (with_reducible refine Wb.Ext.drewN ?_ _) | (with_reducible refine Wb.Ext.alloc ?_ _) | (with_reducible refine Wb.Ext.trans ?_ (by assumption))))
    have HO4 := Lib.hid (Wb.row_ext HO.out hx4)
    have HX4 := Lib.hid (HXQ.out.trans hx4)
    rw [hY]
    clear hW4 hY hx4 l0 l1 l2 l3 l4 l5 HO HXQ
    obtain ⟨A3, hA3⟩ : ∃ A3, x.per % 3 = A3 := ⟨_, rfl⟩
    obtain ⟨B6, hB6⟩ : ∃ B6, x.prd % 6 = B6 := ⟨_, rfl⟩
    obtain ⟨C6, hC6⟩ : ∃ C6, x.run % 6 = C6 := ⟨_, rfl⟩
    have iA : (x.per : Int) % 3 = (A3 : Int) := by omega
    have iB : (x.prd : Int) % 6 = (B6 : Int) := by omega
    have iC : (x.run : Int) % 6 = (C6 : Int) := by omega
    have wA : IntKind.u32.wrap (A3 : Int) = (A3 : Int) := by rw [IntKind.wrap_u32]; omega
    have hB9 : B6 < 6 := by omega
    have hC9 : C6 < 6 := by omega
    have HM := Lib.hid (show Wb.mine p r t x = decide (A3 = p ∧ B6 + 1 = t ∧ C6 + 1 ≤ r) by unfold Wb.mine; rw [hA3, hB6, hC6])
    clear hA3 hB6 hC6
    have HSK := Lib.hid (show ¬ (A3 = p ∧ B6 + 1 = t ∧ C6 + 1 ≤ r) → Hid (Q = Wb.rowsX (L.take (k + 1)) p r t) from fun h => Lib.hid (by
     rw [HTK.out, HM.out, if_neg (by simpa using h)]
     rw [HQ.out]; simp))
    have e8 : A3 < 3 := by omega
    by_cases hA : A3 = p
    case neg =>
     have HN := HSK.out (fun h => hA h.1)
     have e1 : ((A3 : Int) == (p : Int)) = false := beq_eq_false_iff_ne.2 (by omega)
     have e1n : (A3 == p) = false := by simpa using hA
     clear hA
     go_wp2
     go_roundw
     case rel => exact ⟨k + 1, qa, qc, Q, by omega, by go_num, rfl, HN, HO4, HX4⟩
     case measure => first | (simp [intOf]; done) | (simp [intOf]; omega)
    have e1 : ((A3 : Int) == (p : Int)) = true := beq_iff_eq.2 (by omega)
    have e1n : (A3 == p) = true := by simpa using hA
    by_cases hB : B6 + 1 = t
    case neg =>
     have HN := HSK.out (fun h => hB h.2.1)
     have hBi : ¬ ((B6 : Int) + 1 = (t : Int)) := by omega
     have e2 : (((B6 : Int) + 1) == (t : Int)) = false := beq_eq_false_iff_ne.2 hBi
     clear hA hB
     go_wp2
     go_roundw
     case rel => exact ⟨k + 1, qa, qc, Q, by omega, by go_num, rfl, HN, HO4, HX4⟩
     case measure => first | (simp [intOf]; done) | (simp [intOf]; omega)
    have hBi : (B6 : Int) + 1 = (t : Int) := by omega
    have e2 : (((B6 : Int) + 1) == (t : Int)) = true := beq_iff_eq.2 hBi
    by_cases hC : C6 + 1 ≤ r
    case neg =>
     have HN := HSK.out (fun h => hC h.2.2)
     have hCi : ¬ ((C6 : Int) + 1 ≤ (r : Int)) := by omega
     have e3 : decide ((C6 : Int) + 1 ≤ (r : Int)) = false := decide_eq_false hCi
     clear hA hB hC hBi
     go_wp2
     go_roundw
     case rel => exact ⟨k + 1, qa, qc, Q, by omega, by go_num, rfl, HN, HO4, HX4⟩
     case measure => first | (simp [intOf]; done) | (simp [intOf]; omega)
    have hCi : (C6 : Int) + 1 ≤ (r : Int) := by omega
    have e3 : decide ((C6 : Int) + 1 ≤ (r : Int)) = true := decide_eq_true hCi
    have HQN := Lib.hid (show Q ++ [x] = Wb.rowsX (L.take (k + 1)) p r t by rw [HTK.out, HM.out, if_pos (by simpa using ⟨hA, hB, hC⟩), HQ.out])
    have hQl : Q.length ≤ 60 := by rw [HQ.out]; exact Nat.le_trans (Wb.rowsX_len _ _ _ _) (by rw [List.length_take]; omega)
    clear hA hB hC hBi HSK
    obtain ⟨hi, hz0, hz1, hz2⟩ := HIN.out.choose_spec
    go_upto_region 15 with (fail)
    go_wp2_with (at_builtin; go_loud (refine Wb.wpList_append_row rfl (.tmp 52) (.tmp 54) 22 rfl n1 76 _ clZ 6 12 Tryz.underlying22 hi hz0 hz1 hz2 rfl (by decide) _ _ _ rfl (Wb.row_ext HO4.out ((Wb.Ext.refl _).alloc _)) _ rfl 1 (clc x) ?c1 ?c2 ?c3 ?c4 ?c5 ?_))
    case c1 => exact src_lit _ _ (by simp) (clc x) _ _
    case c2 => intro u hu; simp [clc] at hu; rcases hu with rfl | rfl | rfl | rfl | rfl | rfl <;> rfl
    case c3 => unfold maxLen; omega
    case c4 => omega
    case c5 => have := HX4.out.size; have := HN1.out; simp; omega
    intro u2 w6 hown2 hg2 hnil2
    obtain ⟨ua2, uc2, rfl⟩ := row_shape hown2
    have HN : Hid (w6.ownsRow n1 76 6 (.slice ua2 (Q ++ [x]).length uc2) (Q ++ [x]).length (rowsOf clc (Q ++ [x]))) := Lib.hid (by
     rw [rowsOf_app, rowsOf_one, List.length_append]; exact hown2)
    have hl9 := HO4.out.lt
    have HX6 := Lib.hid (show Wb.Ext wO w6 from (HX4.out.trans ((Wb.Ext.refl _).alloc _)).grown hg2 (fun q e => by have := (hl9 q e).1; have := HN1.out; omega))
    have hle : Q.length + 1 = (Q ++ [x]).length := by simp
    clear hi hz0 hz1 hz2 hg2 hown2 hnil2 hl9 y0 y1 y2 y3 y4 y5
    go_wp2
    go_roundw
    case rel => exact ⟨k + 1, ua2, uc2, Q ++ [x], by omega, by go_num, by rw [← hle], HQN, HN, HX6⟩
    case measure => first | (simp [intOf]; done) | (simp [intOf]; omega)
end Go.Proofs.YtnefdpnolojojaaGreatDoor
namespace Go.Proofs.YtnefdpnolojojaaGreatDoor
open Go.RowKit Go.Sort Go.Lib Go.Maps
set_option maxRecDepth 8000
attribute [local go_sem ↓] Go.wp_at_zero Go.wp_at_succ
theorem keys_three {f : Int → Option Value} (h : ∀ q, (f q).isSome = true → 1 ≤ q ∧ q ≤ 3) : ∃ hs, KeysAre kU32 f hs ∧ hs.Pairwise (· ≤ ·) ∧ hs.length ≤ 3 := by
 refine ⟨[1, 2, 3].filter fun q => (f q).isSome, ⟨List.Nodup.sublist List.filter_sublist (by decide), fun p => ?_⟩, List.Pairwise.sublist List.filter_sublist (by decide), Nat.le_trans (List.length_filter_le _ _) (by decide)⟩
 rw [List.mem_filter]
 constructor
 ·rintro ⟨h1, h2⟩
  have := h p h2
  exact ⟨u32_ok (by omega), h2⟩
 ·rintro ⟨-, h2⟩
  have := h p h2
  have : p = 1 ∨ p = 2 ∨ p = 3 := by omega
  exact ⟨by rcases this with rfl | rfl | rfl <;> simp, h2⟩
theorem hd_smap {w wr : World} {M : Nat} {L : List Wb.Cl} {r : Nat} {P : Nat → Prop} (h : HdAt w wr M L r 3) (hP : ∀ q, P q → q < w.heap.size) : ∃ (n : Nat) (f : Int → Option Value), n ≤ 3 ∧ (∀ q, (f q).isSome = true → 1 ≤ q ∧ q ≤ 3) ∧ SMapF (fun q => ¬ P q) wr (some M) n f (Wb.handX L r) := by
 obtain ⟨⟨n, f, h1, h2, h3, h4⟩, h5, h6⟩ := h
 have hK : ∀ w2, Kept (fun q => ¬ P q) wr w2 → Kept (fun b => w.heap.size ≤ b ∧ b ≠ M) wr w2 := fun w2 k => k.mono fun i _ hi hp => by have := hP i hp; omega
 have hnone : ∀ q : Int, 3 < q → Wb.handX L r q = [] := fun q hq => by unfold Wb.handX; rw [if_neg (by omega)]
 refine ⟨n, f, h1, h3, fun w2 k => (h2.keptF k (fun hp => by have := hP M hp; omega)).opt, fun p => ?_, fun p hp => ?_⟩
 ·by_cases hp : p ≤ 3
  ·obtain ⟨R, k1, k2, -⟩ := h4 p hp
   exact ⟨R, fun w2 k => k1 w2 (hK w2 k), k2⟩
  ·have hf : f p = none := by
    rcases hf : f p with _ | x
    ·rfl
    ·have := h3 p (by rw [hf]; rfl); omega
   rw [hf, hnone p (by omega)]
   exact ⟨[], fun w2 _ => slsK_nil, rfl⟩
 ·by_cases hp3 : p ≤ 3
  ·obtain ⟨R, k1, k2, k3⟩ := h4 p hp3
   have := h3 p (k3 hp)
   exact ⟨u32_ok (by omega), k3 hp⟩
  ·exact absurd (hnone p (by omega)) hp
theorem top_runT {l : List Wb.Cl} (h : Wb.SmX l) (hl : l.length ≤ 60) {j t : Nat} (hj : j < 6) {B B' : Wb.Bk} {sum : Int → Int} (hI : Wb.TopI l j B sum) (hjt : j + 1 = t) {hs ps : List Int} {r : RnM} {E : Int} (hw : Wb.Who B (Wb.handX l t) hs ps) (hd : Wb.doG B 2026 (t : Int) (t : Int) (Wb.handX l t) hs ps = (B', r.c, E)) :
  E = 0 ∧ r.n = t ∧ r.i = t ∧ Wb.TopI l t B' (Wb.addR sum (r.rows.map RwM.c)) ∧ Wb.Behind B 2026 (t : Int) (Wb.handX l t) B' r.c := by
 subst hjt
 obtain ⟨h1, h2, h3, h4, h5⟩ := Wb.top_run h hl hj hI hw hd
 have h2 : r.n = (j : Int) + 1 := h2
 have h3 : r.i = (j : Int) + 1 := h3
 exact ⟨h1, by omega, by omega, h4, h5⟩
structure TopK (wA : World) (M b : Nat) (wr : World) (sum : Int → Int) (rows : List Wb.Rw) (k : Nat) : Prop where
 map : ∃ f, KMap kU32 wr M (b + k) (.int .i64 0) f ∧ ∀ p, kU32.ok p → (f p).getD (.int .i64 0) = .int .i64 (Wb.addR sum (rows.take k) p)
 kept : Kept (fun q => q ≠ M) wA wr
theorem TopK.ext {wA wr w2 : World} {M b k : Nat} {sum : Int → Int} {rows : List Wb.Rw} (h : TopK wA M b wr sum rows k) (e : Wb.Ext wr w2) : TopK wA M b w2 sum rows k :=
 ⟨by obtain ⟨f, h1, h2⟩ := h.map; exact ⟨f, h1.ext e, h2⟩, h.kept.trans (.ext e)⟩
end Go.Proofs.YtnefdpnolojojaaGreatDoor
