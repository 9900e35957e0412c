/- TopRuns: slipOf: the slip of some amounts. -/
import Derived.Test.YtnefdpnolojojaaGreatPlainT2
import Derived.Test.YtnefdpnolojojaaGreatMRc
namespace Go.Proofs.YtnefdpnolojojaaGreat
open Go.RowKit Go.Sort Go.Lib Go.Maps
set_option maxRecDepth 8000
attribute [local go_sem ↓] Go.wp_at_zero Go.wp_at_succ

def clc (x : Wb.Cl) : List Value := [.int .u8 x.per, .int .u8 x.run, .int .u8 x.prd, .int .u8 x.part, .int .u8 x.code, .int .i32 x.cents]
theorem clc_len (x : Wb.Cl) : (clc x).length = 6 := rfl
/-- amounts in memory -/
structure ClsM (w : World) (v : Value) (L : List Wb.Cl) : Prop where
  tab : Tbl 6 clc w v L
  byte : ∀ x ∈ L, x.per < 256 ∧ x.run < 256 ∧ x.prd < 256 ∧ x.part < 256 ∧ x.code < 256
  small : Wb.SmX L
theorem ClsM.ext {w w' : World} {v : Value} {L : List Wb.Cl} (h : ClsM w v L) (k : Wb.Ext w w') : ClsM w' v L := ⟨h.tab.ext k, h.byte, h.small⟩
/-- the sums' boxes, behind some amounts -/
structure SumAt (W0 wr : World) (X : Nat) (l : List Wb.Cl) : Prop where
  cells : ∀ k, k < 28 → wr.cell? ⟨X, k, none⟩ = some (.int .i64 (Wb.sumC (k / 4) (k % 4) l))
  fr : ∀ j, wr.frozen? ⟨X, j, none⟩ = false
  kept : Kept (fun q => q ≠ X) W0 wr
theorem SumAt.ext {W0 wr w2 : World} {X : Nat} {l : List Wb.Cl} (h : SumAt W0 wr X l) (k : Wb.Ext wr w2) : SumAt W0 w2 X l :=
  ⟨fun i hi => k.keep (h.cells i hi), fun j => (k.cells.2 _ _ (Wb.cell_size (h.cells 0 (by omega)))).trans (h.fr j), h.kept.trans (.ext k)⟩
theorem SumAt.put {W0 wr : World} {X : Nat} {l : List Wb.Cl} (h : SumAt W0 wr X l) {x : Wb.Cl} {k : Nat} (hk : k = x.part % 7 * 4 + x.code % 4) {u : Int} (hu : u = Wb.sumC (x.part % 7) (x.code % 4) l + x.cents) : SumAt W0 (wr.setCell ⟨X, k, none⟩ (.int .i64 u)) X (l ++ [x]) := by
  have h28 : k < 28 := by omega
  have hd : k / 4 = x.part % 7 ∧ k % 4 = x.code % 4 := by omega
  refine ⟨fun i hi => ?_, fun j => ?_, h.kept.trans (Kept.setj .refl (fun e => e rfl))⟩
  · rw [Wb.sumC_snoc]
    by_cases e : i = k
    · subst e
      rw [World.cell?_setCell_same _ _ _ (h.cells _ hi), hd.1, hd.2, hu]
      simp [Wb.inBox]
    · rw [World.cell?_setCell_other _ _ _ _ (by intro e9; injection e9 with _ e2 _; omega), h.cells i hi]
      have : Wb.inBox (i / 4) (i % 4) x = false := by
        unfold Wb.inBox
        refine decide_eq_false fun h9 => e ?_
        omega
      rw [this]; simp
  · simp [go_sem, h.fr]
/-- the boxes' cells -/
def cs28 (V : Nat → Nat → Int) : List Value := (List.range 28).map fun k => .int .i64 (V (k / 4) (k % 4))
theorem cs28_len (V : Nat → Nat → Int) : (cs28 V).length = 28 := by simp [cs28]
theorem cs28_get (V : Nat → Nat → Int) {j : Nat} (h : j < 28) : (cs28 V)[j]? = some (.int .i64 (V (j / 4) (j % 4))) := by
  unfold cs28
  rw [List.getElem?_map, List.getElem?_range h]; rfl
theorem convT (w : World) (n : Int) (h : 0 ≤ n ∧ n ≤ 255) :
    (convert 118 9 (.slice (some ⟨w.heap.size, 0, none⟩) 1 1)).run Tryz.prog (w.alloc (.cells #[.int .u8 n] 5)) = .ok (.string (Wb.S [UInt8.ofNat n.toNat])) (w.alloc (.cells #[.int .u8 n] 5)) := by
  refine run_convert_bytes_back (w.alloc (.cells #[.int .u8 n] 5)) 118 9 5 ⟨w.heap.size, 0, none⟩ 1 [UInt8.ofNat n.toNat] Tryz.underlying118 Tryz.underlying5 Tryz.underlying9 (fun j hj => ?_)
  have hj0 : j = 0 := by simpa using hj
  subst hj0
  have e : ((n.toNat % 256 : Nat) : Int) = n := by omega
  simp only [List.getElem_cons_zero, UInt8.toNat_ofNat', e]
  simp [Addr.add, go_sem]
/-- the lines, as they are put one behind the other -/
structure LnAt (W8 wr : World) (Z n8 : Nat) (y i : Int) (ua : Option Addr) (un uc : Nat) (l : List Wb.Ln) : Prop where
  z0 : wr.cell? ⟨Z, 0, none⟩ = some (.int .i64 y)
  z1 : wr.cell? ⟨Z, 1, none⟩ = some (.int .i64 i)
  z2 : wr.cell? ⟨Z, 2, none⟩ = some (.slice ua un uc)
  zf : ∀ j, wr.frozen? ⟨Z, j, none⟩ = false
  own : wr.ownsRow n8 120 3 (.slice ua un uc) un (lnvs l)
  kept : Kept (fun q => q < n8 ∧ q ≠ Z) W8 wr
theorem LnAt.later {W8 wr w2 : World} {Z n8 : Nat} {y i : Int} {ua : Option Addr} {un uc : Nat} {l : List Wb.Ln} (h : LnAt W8 wr Z n8 y i ua un uc l) (k : Wb.Ext wr w2) : LnAt W8 w2 Z n8 y i ua un uc l :=
  ⟨k.keep h.z0, k.keep h.z1, k.keep h.z2, fun j => (k.cells.2 _ _ (Wb.cell_size h.z0)).trans (h.zf j), Wb.row_ext h.own k, h.kept.trans (.ext k)⟩
theorem lnvs_one (x : Wb.Ln) : lnvs [x] = lnv x := by simp [lnvs]
theorem LnAt.push {W8 wB wX w6 : World} {Z n8 : Nat} {y i : Int} {ua ua2 : Option Addr} {un uc un2 uc2 : Nat} {l l2 : List Wb.Ln} (h : LnAt W8 wB Z n8 y i ua un uc l) (e : Wb.Ext wB wX) (hg : wX.grownBy w6 (Value.slice ua un uc).ownBlock) (ho : w6.ownsRow n8 120 3 (.slice ua2 un2 uc2) un2 (lnvs l2)) (hZ : Z < n8) :
    LnAt W8 (w6.setCell ⟨Z, 2, none⟩ (.slice ua2 un2 uc2)) Z n8 y i ua2 un2 uc2 l2 := by
  have hl9 := h.own.lt
  have hl2 := ho.lt
  have k6 : Kept (fun q => q < n8) wB w6 := (Kept.ext e).trans (.grown hg (fun q e _ h => by have := (hl9 q e).1; omega))
  refine ⟨?_, ?_, ?_, fun j => ?_, Wb.row_set ho (fun k hk e => ?_) _, (h.kept.trans (k6.mono (fun q _ h => h.1))).trans (Kept.setj .refl (fun e => e.2 rfl))⟩
  · rw [World.cell?_setCell_other _ _ _ _ (by intro e; injection e with _ e _; cases e)]; exact k6.cell hZ h.z0
  · rw [World.cell?_setCell_other _ _ _ _ (by intro e; injection e with _ e _; cases e)]; exact k6.cell hZ h.z1
  · exact World.cell?_setCell_same _ _ _ (k6.cell hZ h.z2)
  · have := k6.frozen hZ (Wb.cell_size h.z0) (h.zf j)
    simp [go_sem, this]
  · have := (hl2 k hk).1
    have e : k = Z := e
    omega
set_option maxHeartbeats 8000000 in
theorem slipof_any (y i : Int) (v : Value) (L : List Wb.Cl) (w : World) (h : ClsM w v L) (hl : L.length ≤ 60) :
    Calls Tryz.prog 32 #[.int .i64 y, .int .i64 i, v] w fun e w' => ∃ u, e = .returned (SlV y i u) ∧ LnsC w' u (Wb.slipL L) ∧ (∀ q, u.ownBlock = some q → w.heap.size ≤ q) ∧ Wb.Ext w w' := by
  obtain ⟨va, vc, rfl⟩ := h.tab.shape
  have HL := Lib.hid h
  have HIN := Lib.hid (info_parts infoLine)
  clear h
  go_enter Tryz.func32, Tryz.ntmps32
  go_upto_region 2 with (fail)
  refine Wb.wp_at fun W0 hW0 => ?_
  obtain ⟨A, hA⟩ : ∃ A, w.heap.size = A := ⟨_, rfl⟩
  obtain ⟨X, hX⟩ : ∃ X, A + 1 = X := ⟨_, rfl⟩
  have HX0 := Lib.hid (show Wb.Ext w W0 by rw [hW0]; (repeat' (first | (with_reducible assumption) | (with_reducible exact Wb.Ext.refl _) | (with_reducible refine Wb.Ext.drew ?_) | (with_reducible refine Wb.Ext.drewN ?_ _) | (with_reducible refine Wb.Ext.alloc ?_ _) | (with_reducible refine Wb.Ext.trans ?_ (by assumption)))))
  have HR : Hid (W0.cell? ⟨A, 0, none⟩ = some (.int .i64 0) ∧ W0.cell? ⟨A, 1, none⟩ = some (.int .i64 0) ∧ W0.cell? ⟨A, 2, none⟩ = some (.slice none 0 0) ∧ ∀ j, W0.frozen? ⟨A, j, none⟩ = false) := Lib.hid (by
    rw [hW0, ← hA]
    exact ⟨by simp [go_sem], by simp [go_sem], by simp [go_sem], fun j => by simp [go_sem]⟩)
  have HS0 : Hid (SumAt W0 W0 X []) := Lib.hid ⟨fun k hk => by
    rw [hW0, ← hX, ← hA]
    simp [go_sem]
    show (List.replicate 28 (Value.int .i64 0))[k]? = _
    rw [List.getElem?_replicate, if_pos hk]
    rfl, fun j => by rw [hW0, ← hX, ← hA]; simp [go_sem], .refl⟩
  have hAX : A < X := by omega
  have hwA : w.heap.size ≤ A := by omega
  simp only [hA, hX]
  clear hW0 hX hA
  go_wp2_with fail
  go_loopw [17] (fun iv wr => ∃ k : Nat, k ≤ L.length ∧ iv = .int .i64 k ∧ Hid (SumAt W0 wr X (L.take k))) (fun iv _ => L.length - (intOf iv).toNat)
  case atStart => exact ⟨0, Nat.zero_le _, rfl, HS0⟩
  case round =>
    clear HS0
    obtain ⟨k, hk, rfl, HS⟩ := hrel
    obtain ⟨wO, hwz⟩ : ∃ z, z = wr := ⟨_, rfl⟩
    subst hwz
    by_cases hlt : k < L.length
    case pos =>
      obtain ⟨x, hx⟩ := Wb.get_ex hlt
      have hmem := List.mem_of_getElem? hx
      have hby := HL.out.byte x hmem
      have hsm := HL.out.small x hmem
      obtain ⟨b, off, hb9, hc9⟩ := HL.out.tab.opened (by rintro rfl; simp at hx)
      obtain rfl : va = some ⟨b, off, none⟩ := hb9
      have hX0 := HX0.out
      have e0 := hX0.keep (hc9 k x hx 0 _ rfl)
      have hbl : b < w.heap.size := Wb.cell_size (hc9 k x hx 0 _ rfl)
      have hbX : b ≠ X := by omega
      have l0 := HS.out.kept.cell hbX (hX0.keep (hc9 k x hx 0 _ rfl))
      have l1 := HS.out.kept.cell hbX (hX0.keep (hc9 k x hx 1 _ rfl))
      have l2 := HS.out.kept.cell hbX (hX0.keep (hc9 k x hx 2 _ rfl))
      have l3 := HS.out.kept.cell hbX (hX0.keep (hc9 k x hx 3 _ rfl))
      have l4 := HS.out.kept.cell hbX (hX0.keep (hc9 k x hx 4 _ rfl))
      have l5 := HS.out.kept.cell hbX (hX0.keep (hc9 k x hx 5 _ rfl))
      rw [Nat.add_zero] at l0
      have hki : (k : Int) < L.length := by omega
      have d1 : decide ((k : Int) < (L.length : Int)) = true := by simp; omega
      have HTK := Lib.hid (take_snoc hx)
      clear hc9 hx hmem hlt e0 hX0
      go_upto_region 5 with (fail)
      refine Wb.wp_at fun W5 hW5 => ?_
      obtain ⟨Z, hZ⟩ : ∃ Z, wO.heap.size = Z := ⟨_, rfl⟩
      have z3 : W5.cell? ⟨Z, 3, none⟩ = some (.int .u8 x.part) := by rw [hW5, ← hZ]; simp [go_sem]
      have z4 : W5.cell? ⟨Z, 4, none⟩ = some (.int .u8 x.code) := by rw [hW5, ← hZ]; simp [go_sem]
      have z5 : W5.cell? ⟨Z, 5, none⟩ = some (.int .i32 x.cents) := by rw [hW5, ← hZ]; simp [go_sem]
      have HS5 := Lib.hid (HS.out.ext (show Wb.Ext wO W5 by rw [hW5]; (repeat' (first | (with_reducible assumption) | (with_reducible exact Wb.Ext.refl _) | (with_reducible refine Wb.Ext.drew ?_) | (with_reducible refine Wb.Ext.drewN ?_ _) | (with_reducible refine Wb.Ext.alloc ?_ _) | (with_reducible refine Wb.Ext.trans ?_ (by assumption))))))
      obtain ⟨P, hP⟩ : ∃ P, x.part % 7 = P := ⟨_, rfl⟩
      obtain ⟨C, hC⟩ : ∃ C, x.code % 4 = C := ⟨_, rfl⟩
      have hPi : (x.part : Int) % 7 = (P : Int) := by omega
      have hCi : (x.code : Int) % 4 = (C : Int) := by omega
      have hP7 : P < 7 := by omega
      have hC4 : C < 4 := by omega
      obtain ⟨t, ht⟩ : ∃ t, Wb.sumC P C (L.take k) = t := ⟨_, rfl⟩
      have m0 : W5.cell? ⟨X, P * 4 + C, none⟩ = some (.int .i64 t) := by
        have := HS5.out.cells (P * 4 + C) (by omega)
        rwa [show (P * 4 + C) / 4 = P by omega, show (P * 4 + C) % 4 = C by omega, ht] at this
      have mf := HS5.out.fr
      rw [hZ]
      clear hW5 hZ l0 l1 l2 l3 l4 l5
      have hsb := Wb.sumC_small P C (l := L.take k) (fun z hz => HL.out.small z (List.mem_of_mem_take hz))
      have hlk : (L.take k).length ≤ 60 := by rw [List.length_take]; omega
      have hwr : wrap64 (t + x.cents) = t + x.cents := IntWalk.wrap64_in _ (by omega)
      have hwc : wrap64 x.cents = x.cents := IntWalk.wrap64_in _ (by omega)
      have HN := Lib.hid (show Hid (SumAt W0 (W5.setCell ⟨X, P * 4 + C, none⟩ (.int .i64 (t + x.cents))).drew X (L.take (k + 1))) from Lib.hid (by
        rw [HTK.out]
        exact (HS5.out.put (x := x) (k := P * 4 + C) (by omega) (by rw [hP, hC, ht])).ext (.drew (.refl _))))
      clear hsb hlk hby hsm HS HS5
      go_region
      go_wp2
      go_roundw
      case rel => exact ⟨k + 1, by omega, by go_num, HN.out⟩
      case measure => first | (simp [intOf]; done) | (simp [intOf]; omega)
    case neg =>
      obtain rfl : k = L.length := by omega
      have d1 : decide ((L.length : Int) < (L.length : Int)) = false := by simp
      have n1 : ¬ (L.length : Int) < (L.length : Int) := by omega
      have HS' := Lib.hid (show SumAt W0 wO X L by have := HS.out; rwa [List.take_length] at this)
      clear hlt HS hk
      obtain ⟨V, hV⟩ : ∃ V : Nat → Nat → Int, V = fun p c => Wb.sumC p c L := ⟨_, rfl⟩
      have HC := Lib.hid (show ∀ k, k < 28 → wO.cell? ⟨X, k, none⟩ = some (.int .i64 (V (k / 4) (k % 4))) from fun k hk => by rw [hV]; exact HS'.out.cells k hk)
      have HV := Lib.hid hV
      clear hV
      have hRA : wO.rangeAt X 0 (cs28 V) := fun j u hu => by
        have hj : j < 28 := by rw [← cs28_len V]; exact (List.getElem?_eq_some_iff.1 hu).1
        rw [cs28_get V hj] at hu
        cases hu
        rw [Nat.zero_add]
        exact HC.out j hj
      have hXO : X < wO.heap.size := Wb.cell_size (HC.out 0 (by decide))
      have HKX := Lib.hid HS'.out.kept
      go_upto_region 8 with (fail)
      refine Wb.wp_at fun W8 hW8 => ?_
      obtain ⟨Z, hZ⟩ : ∃ Z, wO.heap.size = Z := ⟨_, rfl⟩
      have hx8 : Wb.Ext wO W8 := by rw [hW8]; (repeat' (first | (with_reducible assumption) | (with_reducible exact Wb.Ext.refl _) | (with_reducible refine Wb.Ext.drew ?_) | (with_reducible refine Wb.Ext.drewN ?_ _) | (with_reducible refine Wb.Ext.alloc ?_ _) | (with_reducible refine Wb.Ext.trans ?_ (by assumption))))
      have z0 : W8.cell? ⟨Z, 0, none⟩ = some (.int .i64 y) := by rw [hW8, ← hZ]; simp [go_sem]
      have z1 : W8.cell? ⟨Z, 1, none⟩ = some (.int .i64 i) := by rw [hW8, ← hZ]; simp [go_sem]
      have z2 : W8.cell? ⟨Z, 2, none⟩ = some (.slice none 0 0) := by rw [hW8, ← hZ]; simp [go_sem]
      have zf : ∀ j, W8.frozen? ⟨Z, j, none⟩ = false := fun j => by rw [hW8, ← hZ]; simp [go_sem]
      have hRA8 : W8.rangeAt X 0 (cs28 V) := fun j u hu => hx8.keep (hRA j u hu)
      have hZs : Z < W8.heap.size := Wb.cell_size z0
      have HX8 := Lib.hid hx8
      have hXZ : X < Z := by omega
      rw [hZ]
      clear hW8 hZ hx8 hRA
      have hu := Tryz.underlying117
      have hi28 : (Tryz.prog.info? 117).map (·.size) = some (cs28 V).length := by rw [cs28_len]; kernel_rfl
      go_wp2_with (go_loud (refine wpList_load_mid rfl 117 (.tmp 7) rfl X 0 rfl (cs28 V) _ hRA8 hu rfl hi28 ?_))
      obtain ⟨n8, hn8⟩ : ∃ n8, W8.heap.size = n8 := ⟨_, rfl⟩
      have HL0 : Hid (LnAt W8 W8 Z n8 y i none 0 0 []) := Lib.hid ⟨z0, z1, z2, zf, World.ownsRow_nil _ _ _ _, .refl⟩
      have HN8 := Lib.hid hn8
      have hcs : (cs28 V).toArray = (cs28 V).toArray := rfl
      clear z0 z1 z2 zf hRA8 hi28 hu hcs HC HS'
      have hX1 : ∀ (j : Nat) (w : World), j < 7 → (Instr.index 117 (.agg (cs28 V).toArray) (.int .i64 (j : Int))).run Tryz.prog w = .ok (.agg #[.int .i64 (V j 0), .int .i64 (V j 1), .int .i64 (V j 2), .int .i64 (V j 3)]) w := fun j w hj => by
        rcases (by omega : j = 0 ∨ j = 1 ∨ j = 2 ∨ j = 3 ∨ j = 4 ∨ j = 5 ∨ j = 6) with rfl | rfl | rfl | rfl | rfl | rfl | rfl <;> kernel_rfl
      have hX2 : ∀ (j m : Nat) (w : World), m < 4 → (Instr.index 116 (.agg #[.int .i64 (V j 0), .int .i64 (V j 1), .int .i64 (V j 2), .int .i64 (V j 3)]) (.int .i64 (m : Int))).run Tryz.prog w = .ok (.int .i64 (V j m)) w := fun j m w hm => by
        rcases (by omega : m = 0 ∨ m = 1 ∨ m = 2 ∨ m = 3) with rfl | rfl | rfl | rfl <;> kernel_rfl
      have HX1 := Lib.hid hX1
      have HX2 := Lib.hid hX2
      clear hX1 hX2
      go_loopw [41] (fun iv wr => ∃ (j : Nat) (ua : Option Addr) (uc : Nat), j ≤ 7 ∧ iv = .int .i64 j ∧ Hid (LnAt W8 wr Z n8 y i ua (Wb.linesTo V (j * 4)).length uc (Wb.linesTo V (j * 4)))) (fun iv _ => 7 - (intOf iv).toNat)
      case atStart => exact ⟨0, none, 0, by omega, rfl, HL0⟩
      case round =>
        clear HL0
        obtain ⟨j, ua, uc, hj, rfl, HA⟩ := hrel
        obtain ⟨wA, hwz⟩ : ∃ z, z = wr := ⟨_, rfl⟩
        subst hwz
        by_cases hlt : j < 7
        case neg =>
          obtain rfl : j = 7 := by omega
          have d2 : decide ((7 : Int) < 7) = false := by decide
          have z0 := HA.out.z0
          have z1 := HA.out.z1
          have z2 := HA.out.z2
          have hZ8 : Z < n8 := by have := HN8.out; omega
          have hA8 : A < n8 := by have := HN8.out; omega
          have hAXn : A ≠ X := by omega
          have hAZ : A < n8 ∧ A ≠ Z := ⟨hA8, by omega⟩
          have hAW0 : A < W0.heap.size := Wb.cell_size HR.out.1
          have a0 := HA.out.kept.cell hAZ (HX8.out.keep (HKX.out.cell hAXn HR.out.1))
          have a1 := HA.out.kept.cell hAZ (HX8.out.keep (HKX.out.cell hAXn HR.out.2.1))
          have a2 := HA.out.kept.cell hAZ (HX8.out.keep (HKX.out.cell hAXn HR.out.2.2.1))
          have af : ∀ j, wA.frozen? ⟨A, j, none⟩ = false := fun j => HA.out.kept.frozen hAZ (by omega) ((HX8.out.cells.2 _ _ (by have := HKX.out.size; omega)).trans (HKX.out.frozen hAXn hAW0 (HR.out.2.2.2 j)))
          have hln8 : ∀ q, (Value.slice ua (Wb.linesTo V (7 * 4)).length uc).ownBlock = some q → n8 ≤ q := fun q hq => (HA.out.own.lt q hq).1
          have HLN : Hid (LnsC wA (.slice ua (Wb.linesTo V (7 * 4)).length uc) (Wb.slipL L)) := Lib.hid (by
            have e : Wb.slipL L = Wb.linesTo V (7 * 4) := by unfold Wb.slipL; rw [HV.out]
            rw [e]
            exact lnsC_of_row HA.out.own)
          have hwX : w.heap.size ≤ X := by omega
          have hwZ : w.heap.size ≤ Z := by omega
          have HXA : Hid (Wb.Ext w wA) := Lib.hid (HA.out.kept.old ((HKX.out.old HX0.out (fun i hi => by omega)).trans HX8.out) (fun i hi => ⟨by omega, by omega⟩))
          have HEND := Lib.hid (show ∀ u0 u1 u2, LnsC (((wA.setCell ⟨A, 0, none⟩ u0).setCell ⟨A, 1, none⟩ u1).setCell ⟨A, 2, none⟩ u2) (.slice ua (Wb.linesTo V (7 * 4)).length uc) (Wb.slipL L) ∧ Wb.Ext w (((wA.setCell ⟨A, 0, none⟩ u0).setCell ⟨A, 1, none⟩ u1).setCell ⟨A, 2, none⟩ u2) from fun u0 u1 u2 => by
            have k : Kept (fun q => q ≠ A) wA (((wA.setCell ⟨A, 0, none⟩ u0).setCell ⟨A, 1, none⟩ u1).setCell ⟨A, 2, none⟩ u2) := by
              (repeat' (first | (with_reducible exact Kept.refl) | (with_reducible refine Kept.setj ?_ ?_) | (exact fun h => h rfl)))
            exact ⟨k.lns HLN.out (fun _ q hq => by have := hln8 q hq; omega), k.old HXA.out (fun i hi => by omega)⟩)
          have HL8 := Lib.hid hln8
          obtain ⟨ll, hll⟩ : ∃ ll, (Wb.linesTo V (7 * 4)).length = ll := ⟨_, rfl⟩
          rw [hll] at HEND z2 HL8
          clear HLN hln8 HA hlt hj hll HX1 HX2
          go_wp2
          exact bodyPost_ret (v := SlV y i (.slice ua ll uc)) (by simp [results, Tryz.results32, go_sem, SlV, a0, a1, a2]) rfl ⟨_, rfl, (HEND.out _ _ _).1, fun q hq => by have := HL8.out q hq; omega, (HEND.out _ _ _).2⟩
        have hix := fun w => HX1.out j w hlt
        have d2 : decide ((j : Int) < 7) = true := by simp; omega
        have hji : (j : Int) < 7 := by omega
        obtain ⟨n9, hn9⟩ : ∃ n9, j * 4 = n9 := ⟨_, rfl⟩
        go_upto_region 11 with (fail)
        refine Wb.wp_at fun W9 hW9 => ?_
        have hx9 : Wb.Ext wA W9 := by rw [hW9]; (repeat' (first | (with_reducible assumption) | (with_reducible exact Wb.Ext.refl _) | (with_reducible refine Wb.Ext.drew ?_) | (with_reducible refine Wb.Ext.drewN ?_ _) | (with_reducible refine Wb.Ext.alloc ?_ _) | (with_reducible refine Wb.Ext.trans ?_ (by assumption))))
        have HA9 := Lib.hid (HA.out.later hx9)
        obtain ⟨Y, hY⟩ : ∃ Y, wA.heap.size = Y := ⟨_, rfl⟩
        have y0 : W9.cell? ⟨Y, 0, none⟩ = some (.int .i64 (V j 0)) := by rw [hW9, ← hY]; simp [go_sem]
        have y1 : W9.cell? ⟨Y, 1, none⟩ = some (.int .i64 (V j 1)) := by rw [hW9, ← hY]; simp [go_sem]
        have y2 : W9.cell? ⟨Y, 2, none⟩ = some (.int .i64 (V j 2)) := by rw [hW9, ← hY]; simp [go_sem]
        have y3 : W9.cell? ⟨Y, 3, none⟩ = some (.int .i64 (V j 3)) := by rw [hW9, ← hY]; simp [go_sem]
        rw [hY]
        clear hW9 hY hx9 HA hix
        go_wp2_with fail
        go_loopw [46] (fun iv wr => ∃ (m : Nat) (ua : Option Addr) (uc : Nat), m ≤ 4 ∧ iv = .int .i64 m ∧ Hid (LnAt W8 wr Z n8 y i ua (Wb.linesTo V (j * 4 + m)).length uc (Wb.linesTo V (j * 4 + m)))) (fun iv _ => 4 - (intOf iv).toNat)
        case atStart => exact ⟨0, ua, uc, by omega, rfl, HA9⟩
        case round =>
          clear HA9 y0 y1 y2 y3
          obtain ⟨m, ua, uc, hm, rfl, HB⟩ := hrel
          obtain ⟨wB, hwz⟩ : ∃ z, z = wr := ⟨_, rfl⟩
          subst hwz
          by_cases hlm : m < 4
          case neg =>
            obtain rfl : m = 4 := by omega
            have HC9 : Hid (LnAt W8 wB Z n8 y i ua (Wb.linesTo V ((j + 1) * 4)).length uc (Wb.linesTo V ((j + 1) * 4))) := Lib.hid (by
              have := HB.out
              rwa [show j * 4 + 4 = (j + 1) * 4 by omega] at this)
            have d3 : decide ((4 : Int) < 4) = false := by decide
            clear hlm HB hm
            go_wp2
            go_roundw
            case rel => exact ⟨j + 1, ua, uc, by omega, by go_num, HC9⟩
            case measure => first | (simp [intOf]; done) | (simp [intOf]; omega)
          have hix := fun w => HX2.out j m w hlm
          have hdm : (j * 4 + m) / 4 = j ∧ (j * 4 + m) % 4 = m := by omega
          have hmi : (m : Int) < 4 := by omega
          have d3 : decide ((m : Int) < 4) = true := by simp; omega
          obtain ⟨c, hc⟩ : ∃ c, V j m = c := ⟨_, rfl⟩
          rw [hc] at hix
          by_cases hz : c = 0
          · have HN : Hid (LnAt W8 wB Z n8 y i ua (Wb.linesTo V (j * 4 + (m + 1))).length uc (Wb.linesTo V (j * 4 + (m + 1)))) := Lib.hid (by
              have e : Wb.linesTo V (j * 4 + (m + 1)) = Wb.linesTo V (j * 4 + m) := by
                rw [← Nat.add_assoc, Wb.linesTo_succ]
                unfold Wb.lineAt
                rw [hdm.1, hdm.2, hc, if_pos hz]; simp
              rw [e]; exact HB.out)
            have e1 : ((c : Int) != 0) = false := by simp [hz]
            clear hc hz HB hdm
            go_wp2
            go_roundw
            case rel => exact ⟨m + 1, ua, uc, by omega, by go_num, HN⟩
            case measure => first | (simp [intOf]; done) | (simp [intOf]; omega)
          · have e1 : ((c : Int) != 0) = true := by simpa using hz
            have HEQ := Lib.hid (show Wb.linesTo V (j * 4 + (m + 1)) = Wb.linesTo V (j * 4 + m) ++ [⟨(j : Int), [UInt8.ofNat (97 + m)], c⟩] by
              rw [← Nat.add_assoc, Wb.linesTo_succ]
              unfold Wb.lineAt
              rw [hdm.1, hdm.2, hc, if_neg hz])
            have z2 := HB.out.z2
            have zf := HB.out.zf
            clear hc hz hdm
            obtain ⟨bc, hbc⟩ : ∃ bc, UInt8.ofNat (97 + m) = bc := ⟨_, rfl⟩
            rw [hbc] at HEQ
            have kc : ∀ w : World, (convert 118 9 (.slice (some ⟨w.heap.size, 0, none⟩) 1 1)).run Tryz.prog (w.alloc (.cells #[.int .u8 (97 + (m : Int))] 5)) = .ok (.string (Wb.S [bc])) (w.alloc (.cells #[.int .u8 (97 + (m : Int))] 5)) := fun w => by
              rw [convT w (97 + (m : Int)) (by omega), show (97 + (m : Int)).toNat = 97 + m by omega, hbc]
            clear hbc
            have e3 : IntKind.u8.wrap (m : Int) = (m : Int) := by rw [IntKind.wrap_u8]; omega
            have e4 : IntKind.u8.wrap (97 + (m : Int)) = 97 + (m : Int) := by rw [IntKind.wrap_u8]; omega
            have hln := Wb.linesTo_len V (j * 4 + m)
            obtain ⟨ln, hln9⟩ : ∃ ln, Wb.linesTo V (j * 4 + m) = ln := ⟨_, rfl⟩
            rw [hln9] at HB HEQ z2 hln
            have hn8B : n8 ≤ wB.heap.size := by have := HB.out.kept.size; have := HN8.out; omega
            have hZ8 : Z < n8 := by have := HN8.out; omega
            clear hln9
            obtain ⟨hi, hz0, hz1, hz2⟩ := HIN.out.choose_spec
            go_upto_region 15 with (fail)
            go_wp2_with (at_builtin; go_loud (refine Wb.wpList_append_row rfl (.tmp 53) (.tmp 62) 36 rfl n8 120 _ (.agg #[.int .i64 0, .string "".toUTF8, .int .i64 0]) 3 32 Tryz.underlying36 hi hz0 hz1 hz2 rfl (by decide) _ _ _ rfl (Wb.row_ext HB.out.own (((Wb.Ext.refl _).alloc _).alloc _)) _ rfl 1 (lnv ⟨(j : Int), [bc], c⟩) ?c1 ?c2 ?c3 ?c4 ?c5 ?_))
            case c1 =>
              exact src_lit _ _ (by simp) (lnv ⟨(j : Int), [bc], c⟩) _ _
            case c2 => intro u hu; simp [lnv] at hu; rcases hu with rfl | rfl | rfl <;> rfl
            case c3 => unfold maxLen; omega
            case c4 => omega
            case c5 => simp; omega
            intro u2 w6 hown2 hg2 hnil2
            obtain ⟨ua2, uc2, rfl⟩ := row_shape hown2
            have HN : Hid (LnAt W8 (w6.setCell ⟨Z, 2, none⟩ (.slice ua2 (ln.length + 1) uc2)) Z n8 y i ua2 (Wb.linesTo V (j * 4 + (m + 1))).length uc2 (Wb.linesTo V (j * 4 + (m + 1)))) := Lib.hid (by
              have := HB.out.push (((Wb.Ext.refl _).alloc _).alloc _) hg2 (by rw [← lnvs_one, ← lnvs_app] at hown2; exact hown2) hZ8
              rw [HEQ.out, List.length_append]
              exact this)
            have HLEN := Lib.hid (show (Wb.linesTo V (j * 4 + (m + 1))).length = ln.length + 1 by rw [HEQ.out, List.length_append]; rfl)
            have hZw : Z < w6.heap.size := by have := hg2.size; simp at this; omega
            have zf6 : ∀ j, w6.frozen? ⟨Z, j, none⟩ = false := by
              have hl9 := HB.out.own.lt
              have k6 : Kept (fun q => q < n8) wB w6 := (Kept.ext (((Wb.Ext.refl _).alloc _).alloc _)).trans (.grown hg2 (fun q e _ h => by have := (hl9 q e).1; omega))
              exact fun j => k6.frozen hZ8 (Nat.lt_of_lt_of_le hZ8 hn8B) (zf j)
            have z26 : ∃ u, w6.cell? ⟨Z, 2, none⟩ = some u := by
              have hl9 := HB.out.own.lt
              have k6 : Kept (fun q => q < n8) wB w6 := (Kept.ext (((Wb.Ext.refl _).alloc _).alloc _)).trans (.grown hg2 (fun q e _ h => by have := (hl9 q e).1; omega))
              exact ⟨_, k6.cell hZ8 z2⟩
            obtain ⟨u6, z26⟩ := z26
            clear hi hz0 hz1 hz2 hg2 hown2 hnil2 zf z2 HB HEQ kc hix
            go_wp2
            go_roundw
            case rel => exact ⟨m + 1, ua2, uc2, by omega, by go_num, HN⟩
            case measure => first | (simp [intOf]; done) | (simp [intOf]; omega)
end Go.Proofs.YtnefdpnolojojaaGreat
