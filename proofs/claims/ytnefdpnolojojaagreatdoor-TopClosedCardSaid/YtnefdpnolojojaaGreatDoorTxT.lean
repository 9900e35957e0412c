/- TxT -/
import Derived.Test.YtnefdpnolojojaaGreatDoorMTr
import Derived.Test.YtnefdpnolojojaaGreatDoorMPx
import Derived.Test.YtnefdpnolojojaaGreatDoorMRb
import Derived.Laws.EntriesVeiled
namespace Go.Proofs.YtnefdpnolojojaaGreatDoor
open Go.RowKit Go.Sort Go.Lib Go.Maps
set_option maxRecDepth 8000
attribute [local go_sem ↓] Go.wp_at_zero Go.wp_at_succ
theorem TxK.old {O : Nat} {w W1 x : World} (h1 : Wb.Ext w W1) (hO : w.heap.size ≤ O) (k : TxK O W1 x) : Wb.Ext w x := Below.trans h1 (Below.mono k.below hO)
theorem run_words (r : Wb.Rn) : [] ++ (Lib.join [[114, 117, 110], Wb.itoaZ r.n, Wb.itoaZ r.y, Wb.itoaZ r.i, Wb.itoaZ r.k] [32] ++ [10]) = Wb.runH r := by simp [Lib.join, List.intercalate, Wb.runH]
theorem person_words (r : Wb.Rw) (p : Nat) (hp : r.p = p) : Lib.join [[112, 101, 114, 115, 111, 110], Wb.digs p, Wb.text r.due, Wb.text r.paid, Wb.text r.owed] [32] ++ [10] = Wb.personT r := by
 unfold Wb.personT
 rw [hp, Wb.itoaZ_nat]
 simp [Lib.join, List.intercalate]
theorem now_words (x : Wb.Ln) : Lib.join [[110, 111, 119], Wb.itoaZ x.part, x.code, Wb.text x.cents] [32] ++ [10] = Wb.headN ++ 32 :: (Wb.lineW x ++ [10]) := by simp [Lib.join, List.intercalate, Wb.headN, Wb.lineW]
theorem back_words (y i : Int) (x : Wb.Ln) : Lib.join [[98, 97, 99, 107], Wb.itoaZ y, Wb.itoaZ i, Wb.itoaZ x.part, x.code, Wb.text x.cents] [32] ++ [10] = Wb.headB y i ++ 32 :: (Wb.lineW x ++ [10]) := by simp [Lib.join, List.intercalate, Wb.headB, Wb.lineW]
theorem rowsT_take {R : List Wb.Rw} (h : ∀ r ∈ R, Wb.RwOk r) (k : Nat) : (Wb.rowsT (R.take k)).length ≤ k * 200000000 := by
 have h1 := Wb.rowsT_le (R := R.take k) (fun r hr => h r (List.mem_of_mem_take hr))
 have h2 := List.length_take_le k R
 exact Nat.le_trans h1 (Nat.mul_le_mul_right _ h2)
theorem linesT_take {hd : List UInt8} (hh : hd.length ≤ 60) {L : List Wb.Ln} (h : ∀ x ∈ L, Wb.LnOk x) (hl : L.length ≤ 1000) (k : Nat) : (Wb.linesT hd (L.take k)).length ≤ 150000 := by
 have h1 := Wb.linesT_le hh (L := L.take k) (fun r hr => h r (List.mem_of_mem_take hr))
 have h2 := List.length_take_le' k L
 omega
theorem backT_take {B : List Wb.Ct} (h : ∀ c ∈ B, Wb.CtOk c) (hl : B.length ≤ 1000) (k : Nat) : (Wb.backT (B.take k)).length ≤ 150000000 := by
 have h1 := Wb.backT_le (B := B.take k) (fun r hr => h r (List.mem_of_mem_take hr))
 have h2 := List.length_take_le' k B
 omega
set_option maxHeartbeats 100000000 in
theorem text31_any (r : RnM) (w : World) (hr : RowsM w r.rv r.rows) (hok : Wb.RnOk r.c) (ht : Tab10 w) :
  Calls Tryz.prog 7 #[.agg #[.int .i64 r.n, .int .i64 r.y, .int .i64 r.i, .int .i64 r.k, r.rv]] w fun e w' => e = .returned (.string (Wb.S (Wb.runT r.c))) ∧ Wb.Ext w w' := by
 obtain ⟨n, y, i, k, rv, rows⟩ := r
 obtain ⟨ra, rc, rfl⟩ : ∃ ra rc, rv = .slice ra rows.length rc := hr.tab.shape
 obtain ⟨TXT, hTXT⟩ : ∃ TXT, Wb.runT (RnM.c ⟨n, y, i, k, .slice ra rows.length rc, rows⟩) = TXT := ⟨_, rfl⟩
 rw [hTXT]
 have HTX := Lib.hid hTXT
 have HT := Lib.hid ht
 have HR := Lib.hid (show RowsM w (.slice ra rows.length rc) rows from hr)
 have HOK := Lib.hid hok
 have hmany : rows.length ≤ 100000 := hr.many
 clear ht hr hok hTXT
 go_enter Tryz.func7, Tryz.ntmps7
 go_upto_region 4 with (fail)
 refine Wb.wp_at fun W1 hW1 => ?_
 obtain ⟨Z, hZ⟩ : ∃ Z, w.heap.size = Z := ⟨_, rfl⟩
 obtain ⟨O, hO⟩ : ∃ O, Z + 1 = O := ⟨_, rfl⟩
 obtain ⟨Nb, hN⟩ : ∃ Nb, O + 1 = Nb := ⟨_, rfl⟩
 have HX1 : Hid (Wb.Ext w W1) := Lib.hid (by rw [hW1]; (repeat' (first | (with_reducible assumption) | (with_reducible exact Wb.Ext.refl _) | (with_reducible refine Wb.Ext.drew ?_) | (with_reducible refine Wb.Ext.drewN ?_ _) | (with_reducible refine Wb.Ext.alloc ?_ _) | (with_reducible refine Wb.ext_set ?_ (by first | assumption | (simp; done) | (simp; omega) | omega) _) | (with_reducible refine Wb.Ext.trans ?_ (by assumption)))))
 have HO : Hid (OutB O [] W1) := Lib.hid (by
  have h0 := Lib.IsBuilderF.of (Lib.fresh_isBuilder 81 5 (w.alloc (.cells #[.int .i64 n, .int .i64 y, .int .i64 i, .int .i64 k, .slice ra rows.length rc] 31)))
  have h1 : OutB O [] ((w.alloc (.cells #[.int .i64 n, .int .i64 y, .int .i64 i, .int .i64 k, .slice ra rows.length rc] 31)).alloc (.cells #[.pointer none, .slice none 0 0] 81)) := by
   have e : (w.alloc (.cells #[.int .i64 n, .int .i64 y, .int .i64 i, .int .i64 k, .slice ra rows.length rc] 31)).heap.size = O := by simp; omega
   rw [e] at h0
   exact h0
  rw [hW1]
  exact h1.ext (by (repeat' (first | (with_reducible assumption) | (with_reducible exact Wb.Ext.refl _) | (with_reducible refine Wb.Ext.drew ?_) | (with_reducible refine Wb.Ext.drewN ?_ _) | (with_reducible refine Wb.Ext.alloc ?_ _) | (with_reducible refine Wb.ext_set ?_ (by first | assumption | (simp; done) | (simp; omega) | omega) _) | (with_reducible refine Wb.Ext.trans ?_ (by assumption))))))
 have hbz : W1.heap[Z]? = some (.cells #[.int .i64 n, .int .i64 y, .int .i64 i, .int .i64 k, .slice ra rows.length rc] 31 (0, 0)) := by
  have h1 : (w.alloc (.cells #[.int .i64 n, .int .i64 y, .int .i64 i, .int .i64 k, .slice ra rows.length rc] 31)).heap[Z]? = some (.cells #[.int .i64 n, .int .i64 y, .int .i64 i, .int .i64 k, .slice ra rows.length rc] 31 (0, 0)) := by
   rw [← hZ]; exact Array.getElem?_push_size
  rw [hW1]
  exact bxx_ext h1 (by (repeat' (first | (with_reducible assumption) | (with_reducible exact Wb.Ext.refl _) | (with_reducible refine Wb.Ext.drew ?_) | (with_reducible refine Wb.Ext.drewN ?_ _) | (with_reducible refine Wb.Ext.alloc ?_ _) | (with_reducible refine Wb.ext_set ?_ (by first | assumption | (simp; done) | (simp; omega) | omega) _) | (with_reducible refine Wb.Ext.trans ?_ (by assumption)))))
 have hbn : W1.heap[Nb]? = some (.cells #[.func (.func 32) #[] #[]] 46 (0, 0)) := by
  have e : Nb = ((w.alloc (.cells #[.int .i64 n, .int .i64 y, .int .i64 i, .int .i64 k, .slice ra rows.length rc] 31)).alloc (.cells #[.pointer none, .slice none 0 0] 81)).heap.size := by simp; omega
  rw [hW1, e]
  exact Array.getElem?_push_size
 simp only [hZ, hO, hN]
 clear hW1
 have n12 : Nb ≠ O := by omega
 have n13 : Z ≠ O := by omega
 refine Code.wp_mono (OnEndX.imp ?_) (tx4 _ _ _ _ _ _ _ _ _ _ _ _ _ _ _ _ _ _ _ _ _ _ _ _ _ _ _ _ _ _ _ _ _ _ _ _ _ _ _ _ _ _ _ _ _ _ _ _ _ _ _ _ _ _ _ _ _ _ _ _ _ _ _ _ _ _ _ _ _ _ _ _ _ _ _ _ _ _ _ _ _ _ _ _ _ _ _ _ _ _ _ _ _ _ _ _ _ _ _ _ _ _ _ _ _ _ W1 O Nb Z n y i k _ _ _ [] HO.out (HT.out.ext HX1.out) hbz (by decide) n13 hbn (by decide) n12 rfl rfl rfl rfl HOK.out.n HOK.out.y HOK.out.i HOK.out.k (by simp))
 rintro a' W2 ⟨zt16, zt17, zt18, zt19, zt20, zt21, zt22, zt23, zt24, zt25, zt26, zt27, zt28, zt29, zt30, zt31, zt32, zt33, zt34, rfl, ho2, hk2⟩
 rw [run_words ⟨n, y, i, k, []⟩] at ho2
 have HO2 := Lib.hid ho2
 have HK2 := Lib.hid hk2
 have hzs : w.heap.size ≤ O := by omega
 have q4 : W2.cell? ⟨Z, 4, none⟩ = some (.slice ra rows.length rc) := bxx_cell (hk2.box hbz (by decide) n13) rfl
 have HN2 := Lib.hid (hk2.box hbn (by decide) n12)
 have HXW := Lib.hid (TxK.old HX1.out hzs hk2)
 have HRW := Lib.hid HOK.out.rows
 have hrh : (Wb.runH ⟨n, y, i, k, []⟩).length ≤ 200 := by
  have h1 := Wb.itoaZ_len n HOK.out.n
  have h2 := Wb.itoaZ_len y HOK.out.y
  have h3 := Wb.itoaZ_len i HOK.out.i
  have h4 := Wb.itoaZ_len k HOK.out.k
  unfold Wb.runH; simp; omega
 have HOUT := Lib.hid (show Wb.runH ⟨n, y, i, k, []⟩ ++ Wb.rowsT (rows.map RwM.c) = TXT from (show _ = Wb.runT (RnM.c ⟨n, y, i, k, .slice ra rows.length rc, rows⟩) from rfl).trans HTX.out)
 clear HTX
 obtain ⟨PH, hPH⟩ : ∃ PH, Wb.runH ⟨n, y, i, k, []⟩ = PH := ⟨_, rfl⟩
 rw [hPH] at HO2 HOUT hrh
 clear hPH ho2 hk2 hbz hbn HO hZ hN
 (try dsimp only)
 go_wp2_with fail
 go_loopw [39] (fun iv wr => ∃ k9 : Nat, k9 ≤ rows.length ∧ iv = .int .i64 k9 ∧ Hid (OutB O (PH ++ Wb.rowsT ((rows.map RwM.c).take k9)) wr) ∧ Hid (TxK O W2 wr)) (fun iv _ => rows.length - (intOf iv).toNat)
 case atStart => exact ⟨0, Nat.zero_le _, rfl, Lib.hid (by simpa [Wb.rowsT] using HO2.out), Lib.hid (TxK.refl _ _)⟩
 case round =>
  clear HO2 q4
  obtain ⟨k9, hk9, rfl, HO3, HK3⟩ := hrel
  obtain ⟨wA, hwz⟩ : ∃ z, z = wr := ⟨_, rfl⟩
  subst hwz
  have HXA := Lib.hid (TxK.old HXW.out hzs HK3.out)
  by_cases hlt : k9 < rows.length
  case neg =>
   obtain rfl : k9 = rows.length := by omega
   have d1 : decide ((rows.length : Int) < (rows.length : Int)) = false := by simp
   have n1 : ¬ (rows.length : Int) < (rows.length : Int) := by omega
   have hOo := HO3.out
   rw [List.take_of_length_le (by simp), HOUT.out] at hOo
   have HO4 := Lib.hid hOo
   clear hOo hlt hk9
   have HSTR := Lib.hid (Tryz.Builder_String_any_k O O TXT wA HO4.out (Nat.le_of_lt HO4.out.lt))
   go_wp2_with fail
   go_fit (HSTR.out); rintro e wz ⟨rfl, -, hbz, -⟩
   have HXZ := Lib.hid (show Wb.Ext w wz from Below.trans HXA.out (Below.mono hbz hzs))
   clear hbz
   go_wp2
   go_ret
   exact ⟨rfl, HXZ.out⟩
  obtain ⟨r, hrk⟩ := Wb.get_ex hlt
  have hmem := List.mem_of_getElem? hrk
  have HRI := Lib.hid (HR.out.each r hmem)
  have HRO := Lib.hid (HRW.out r.c (List.mem_map_of_mem hmem))
  have HCK := Lib.hid (show (rows.map RwM.c)[k9]? = some r.c by rw [List.getElem?_map, hrk]; rfl)
  obtain ⟨rb, roff, hrb, hrc⟩ := HR.out.tab.opened (by rintro rfl; simp at hrk)
  obtain rfl : ra = some ⟨rb, roff, none⟩ := hrb
  obtain ⟨na, nn, nc, ba, bn, bc, hnv, hbv⟩ := HR.out.one r hmem
  obtain ⟨na', nc', hnv'⟩ := HRI.out.now.1.shape
  obtain ⟨ba', bc', hbv'⟩ := HRI.out.back.1.shape
  rw [hnv] at hnv'
  rw [hbv] at hbv'
  injection hnv' with e1 e2 e3
  subst e1 e2 e3
  injection hbv' with e1 e2 e3
  subst e1 e2 e3
  have HNL := Lib.hid (show Lns w (.slice na r.now.l.length nc) r.now.l from hnv ▸ HRI.out.now.1)
  have HBL := Lib.hid (show Sls w (.slice ba r.back.length bc) r.back from hbv ▸ HRI.out.back)
  have p0 := HXA.out.keep (hrc k9 r hrk 0 _ rfl)
  have p1 := HXA.out.keep (hrc k9 r hrk 1 _ rfl)
  have p2 := HXA.out.keep (hrc k9 r hrk 2 _ rfl)
  have p3 := HXA.out.keep (hrc k9 r hrk 3 (.slice na r.now.l.length nc) (by rw [← hnv]; rfl))
  have p4 := HXA.out.keep (hrc k9 r hrk 4 (.slice ba r.back.length bc) (by rw [← hbv]; rfl))
  have p5 := HXA.out.keep (hrc k9 r hrk 5 _ rfl)
  have p6 := HXA.out.keep (hrc k9 r hrk 6 _ rfl)
  have p7 := HXA.out.keep (hrc k9 r hrk 7 _ rfl)
  rw [Nat.add_zero] at p0
  obtain ⟨pn, hpn⟩ : ∃ pn : Nat, r.p = pn := ⟨r.p.toNat, by have := HRO.out.p; have e : r.c.p = r.p := rfl; omega⟩
  have hpn2 : pn < 4294967296 := by have := HRO.out.p; have e : r.c.p = r.p := rfl; omega
  rw [hpn] at p0
  have hki : (k9 : Int) < (rows.length : Int) := by omega
  have d1 : decide ((k9 : Int) < (rows.length : Int)) = true := decide_eq_true hki
  clear hmem hrk hrc hnv hbv hlt
  go_upto_region 9 with (fail)
  refine Wb.wp_at fun wB hwB => ?_
  obtain ⟨X, hX⟩ : ∃ X, wA.heap.size = X := ⟨_, rfl⟩
  have hXO : X ≠ O := by have := HO3.out.lt; omega
  have hbx : wB.heap[X]? = some (.cells #[.int .u32 pn, .int .i64 r.now.y, .int .i64 r.now.i, .slice na r.now.l.length nc, .slice ba r.back.length bc, .int .i64 r.due, .int .i64 r.paid, .int .i64 r.owed] 54 (0, 0)) := by
   rw [hwB, ← hX]; exact Array.getElem?_push_size
  have HXB := Lib.hid (show Wb.Ext wA wB by rw [hwB]; (repeat' (first | (with_reducible assumption) | (with_reducible exact Wb.Ext.refl _) | (with_reducible refine Wb.Ext.drew ?_) | (with_reducible refine Wb.Ext.drewN ?_ _) | (with_reducible refine Wb.Ext.alloc ?_ _) | (with_reducible refine Wb.ext_set ?_ (by first | assumption | (simp; done) | (simp; omega) | omega) _) | (with_reducible refine Wb.Ext.trans ?_ (by assumption)))))
  simp only [hX]
  clear hwB hX p0 p1 p2 p3 p4 p5 p6 p7
  refine Code.wp_mono (OnEndX.imp ?_) (tx9 _ _ _ _ _ _ _ _ _ _ _ _ _ _ _ _ _ _ _ _ _ _ _ _ _ _ _ _ _ _ _ _ _ _ _ _ _ _ _ _ _ _ _ _ _ _ _ _ _ _ _ _ _ _ _ _ _ _ _ _ _ _ _ _ _ _ _ _ _ _ _ _ _ _ _ _ _ _ _ _ _ _ _ _ _ _ _ _ _ _ _ _ _ _ _ _ _ _ _ _ _ _ _ _ _ _ _ wB O X pn r.due r.paid r.owed _ _ _ (HO3.out.ext HXB.out) (HT.out.ext (HXA.out.trans HXB.out)) hbx (by decide) hXO rfl rfl rfl rfl hpn2 (by
   have := rowsT_take HRW.out k9
   rw [List.length_append]
   have : k9 * 200000000 ≤ 100000 * 200000000 := Nat.mul_le_mul_right _ (by omega)
   simp only [RnM.c] at *
   omega))
  rintro a' wC ⟨zt43, zt44, zt45, zt46, zt47, zt48, zt49, zt50, zt51, zt52, zt53, zt54, zt55, zt56, zt57, zt58, rfl, ho9, hk9b⟩
  rw [show Lib.join [[112, 101, 114, 115, 111, 110], Wb.digs pn, Wb.text r.due, Wb.text r.paid, Wb.text r.owed] [32] ++ [10] = Wb.personT r.c from person_words r.c pn hpn] at ho9
  have HKC := Lib.hid ((HK3.out.trans (TxK.ext HXB.out (Nat.le_of_lt HO3.out.lt))).trans hk9b)
  have HBX := Lib.hid (hk9b.box hbx (by decide) hXO)
  obtain ⟨P1, hP1⟩ : ∃ P1, PH ++ Wb.rowsT ((rows.map RwM.c).take k9) ++ Wb.personT r.c = P1 := ⟨_, rfl⟩
  have hl1 : P1.length ≤ 30000000000000 := by
   have h1 := rowsT_take HRW.out k9
   have h2 : k9 * 200000000 ≤ 100000 * 200000000 := Nat.mul_le_mul_right _ (by omega)
   have h3 := Wb.text_le r.due
   have h4 := Wb.text_le r.paid
   have h5 := Wb.text_le r.owed
   have h6 := Wb.itoaZ_len r.p (by omega)
   rw [← hP1, List.length_append, List.length_append]
   unfold Wb.personT
   simp only [RnM.c, RwM.c, List.length_append, List.length_cons, List.length_nil] at *
   omega
  rw [hP1] at ho9
  have HP1 := Lib.hid hP1
  have HOC := Lib.hid ho9
  have r3 : wC.cell? ⟨X, 3, none⟩ = some (.slice na r.now.l.length nc) := bxx_cell HBX.out rfl
  have HNN := Lib.hid HRO.out.now
  have HNB := Lib.hid HRO.out.back
  have hfew : r.back.length ≤ 1000 := by have := HRO.out.few; simpa [RwM.c] using this
  have hnl : r.now.l.length ≤ 1000 := HRO.out.now.few
  clear ho9 hk9b hbx hP1 HXB
  (try dsimp only)
  go_wp2_with fail
  go_loopw [63] (fun iv wr => ∃ j : Nat, j ≤ r.now.l.length ∧ iv = .int .i64 j ∧ Hid (OutB O (P1 ++ Wb.linesT Wb.headN (r.now.l.take j)) wr) ∧ Hid (TxK O wC wr)) (fun iv _ => r.now.l.length - (intOf iv).toNat)
  case atStart => exact ⟨0, Nat.zero_le _, rfl, Lib.hid (by simpa [Wb.linesT] using HOC.out), Lib.hid (TxK.refl _ _)⟩
  case round =>
   clear HOC r3
   obtain ⟨j, hj, rfl, HO5, HK5⟩ := hrel
   obtain ⟨wD, hwz⟩ : ∃ z, z = wr := ⟨_, rfl⟩
   subst hwz
   have HXD := Lib.hid (TxK.old HXW.out hzs (HKC.out.trans HK5.out))
   by_cases hlt : j < r.now.l.length
   case pos =>
    obtain ⟨x, hx⟩ := Wb.get_ex hlt
    obtain ⟨lb, lo, hlb, hlc⟩ := HNL.out.opened (by rintro h; rw [h] at hx; simp at hx)
    obtain rfl : na = some ⟨lb, lo, none⟩ := hlb
    have l0 := HXD.out.keep (hlc j x hx).1
    have l1 := HXD.out.keep (hlc j x hx).2.1
    have l2 := HXD.out.keep (hlc j x hx).2.2
    have hxo := HNN.out.ln x (List.mem_of_getElem? hx)
    have HXX := Lib.hid hx
    have hji : (j : Int) < (r.now.l.length : Int) := by omega
    have d2 : decide ((j : Int) < (r.now.l.length : Int)) = true := decide_eq_true hji
    clear hx hlc hlt
    go_upto_region 13 with (fail)
    refine Wb.wp_at fun wE hwE => ?_
    obtain ⟨Y, hY⟩ : ∃ Y, wD.heap.size = Y := ⟨_, rfl⟩
    have hYO : Y ≠ O := by have := HO5.out.lt; omega
    have hby : wE.heap[Y]? = some (.cells #[.int .i64 x.part, .string (Wb.S x.code), .int .i64 x.cents] 89 (0, 0)) := by
     rw [hwE, ← hY]; exact Array.getElem?_push_size
    have HXE := Lib.hid (show Wb.Ext wD wE by rw [hwE]; (repeat' (first | (with_reducible assumption) | (with_reducible exact Wb.Ext.refl _) | (with_reducible refine Wb.Ext.drew ?_) | (with_reducible refine Wb.Ext.drewN ?_ _) | (with_reducible refine Wb.Ext.alloc ?_ _) | (with_reducible refine Wb.ext_set ?_ (by first | assumption | (simp; done) | (simp; omega) | omega) _) | (with_reducible refine Wb.Ext.trans ?_ (by assumption)))))
    simp only [hY]
    clear hwE hY l0 l1 l2
    have HNE := Lib.hid (bxx_ext (((HKC.out.trans HK5.out)).box HN2.out (by decide) n12) HXE.out)
    refine Code.wp_mono (OnEndX.imp ?_) (tx13 _ _ _ _ _ _ _ _ _ _ _ _ _ _ _ _ _ _ _ _ _ _ _ _ _ _ _ _ _ _ _ _ _ _ _ _ _ _ _ _ _ _ _ _ _ _ _ _ _ _ _ _ _ _ _ _ _ _ _ _ _ _ _ _ _ _ _ _ _ _ _ _ _ _ _ _ _ _ _ _ _ _ _ _ _ _ _ _ _ _ _ _ _ _ _ _ _ _ _ _ _ _ _ _ _ _ wE O Nb Y x.part x.cents x.code _ _ _ _ (HO5.out.ext HXE.out) (HT.out.ext (HXD.out.trans HXE.out)) hby (by decide) hYO HNE.out (by decide) n12 rfl rfl rfl hxo.1 (Nat.le_trans hxo.2 (by decide)) (by
     have h1 := linesT_take (hd := Wb.headN) (by decide) HNN.out.ln HNN.out.few j
     rw [List.length_append]
     have e : r.c.now.2.2 = r.now.l := rfl
     rw [e] at h1
     omega))
    rintro a' wF ⟨zt67, zt68, zt69, zt70, zt71, zt72, zt73, rfl, ho6, hk6⟩
    rw [now_words x, List.append_assoc, ← Wb.linesT_snoc HXX.out] at ho6
    have HO7 := Lib.hid ho6
    have HK7 := Lib.hid ((HK5.out.trans (TxK.ext HXE.out (Nat.le_of_lt HO5.out.lt))).trans hk6)
    clear ho6 hk6 hby
    (try dsimp only)
    go_wp2
    refine ⟨?_, ?_⟩
    (repeat apply Exists.intro)
    refine ⟨?_, rfl⟩
    exact ⟨j + 1, by omega, by go_num, HO7, HK7⟩
    first | (simp [intOf]; done) | (simp [intOf]; omega)
   case neg =>
    obtain rfl : j = r.now.l.length := by omega
    have d2 : decide ((r.now.l.length : Int) < (r.now.l.length : Int)) = false := by simp
    have n2 : ¬ (r.now.l.length : Int) < (r.now.l.length : Int) := by omega
    have HKD := Lib.hid (HKC.out.trans HK5.out)
    have HBX2 := Lib.hid (HK5.out.box HBX.out (by decide) hXO)
    have r4 : wD.cell? ⟨X, 4, none⟩ = some (.slice ba r.back.length bc) := bxx_cell HBX2.out rfl
    have hOo := HO5.out
    rw [List.take_of_length_le (Nat.le_refl _)] at hOo
    obtain ⟨P2, hP2⟩ : ∃ P2, P1 ++ Wb.linesT Wb.headN r.now.l = P2 := ⟨_, rfl⟩
    have hl2 : P2.length ≤ 30000001000000 := by
     have h1 := linesT_take (hd := Wb.headN) (by decide) HNN.out.ln HNN.out.few r.now.l.length
     have e : r.c.now.2.2 = r.now.l := rfl
     rw [e, List.take_of_length_le (Nat.le_refl _)] at h1
     rw [← hP2, List.length_append]
     omega
    rw [hP2] at hOo
    have HP2 := Lib.hid hP2
    have HO8 := Lib.hid hOo
    clear hOo hP2 hlt hj HO5 HXD
    go_wp2_with fail
    go_loopw [78] (fun iv wr => ∃ j : Nat, j ≤ r.back.length ∧ iv = .int .i64 j ∧ Hid (OutB O (P2 ++ Wb.backT ((r.back.map Wb.ct).take j)) wr) ∧ Hid (TxK O wD wr)) (fun iv _ => r.back.length - (intOf iv).toNat)
    case atStart => exact ⟨0, Nat.zero_le _, rfl, Lib.hid (by simpa [Wb.backT] using HO8.out), Lib.hid (TxK.refl _ _)⟩
    case round =>
     clear HO8 r4 d2 n2
     obtain ⟨j, hj, rfl, HO9, HK9⟩ := hrel
     obtain ⟨wG, hwz⟩ : ∃ z, z = wr := ⟨_, rfl⟩
     subst hwz
     have HXG := Lib.hid (TxK.old HXW.out hzs (HKD.out.trans HK9.out))
     by_cases hlt : j < r.back.length
     case neg =>
      obtain rfl : j = r.back.length := by omega
      have d3 : decide ((r.back.length : Int) < (r.back.length : Int)) = false := by simp
      have n3 : ¬ (r.back.length : Int) < (r.back.length : Int) := by omega
      have HKE := Lib.hid (HKD.out.trans HK9.out)
      have hOo := HO9.out
      rw [List.take_of_length_le (by simp), ← HP2.out, ← HP1.out] at hOo
      have HOE := Lib.hid (show OutB O (PH ++ Wb.rowsT ((rows.map RwM.c).take (k9 + 1))) wG by
       rw [Wb.rowsT_snoc HCK.out]
       simpa [Wb.rowT, RwM.c, List.append_assoc, Wb.ct] using hOo)
      clear hOo hlt hj
      go_wp2
      go_roundw
      case rel => exact ⟨k9 + 1, by omega, by go_num, HOE, HKE⟩
      case measure => first | (simp [intOf]; done) | (simp [intOf]; omega)
     obtain ⟨s, hs⟩ := Wb.get_ex hlt
     obtain ⟨sb, so, hsb, z0, z1, z2⟩ := (HBL.out.ext HXG.out).cells hs
     obtain rfl : ba = some ⟨sb, so, none⟩ := hsb
     have hsm := List.mem_of_getElem? hs
     have HSL := Lib.hid ((HBL.out.2 s hsm).1.1)
     obtain ⟨ya, yc, hsv⟩ := HSL.out.shape
     rw [hsv] at z2
     have HSL2 := Lib.hid (show Lns w (.slice ya s.l.length yc) s.l by have := HSL.out; rwa [hsv] at this)
     have HSO := Lib.hid (HNB.out (Wb.ct s) (List.mem_map_of_mem hsm))
     have HSK := Lib.hid (show (r.back.map Wb.ct)[j]? = some (Wb.ct s) by rw [List.getElem?_map, hs]; rfl)
     have hji : (j : Int) < (r.back.length : Int) := by omega
     have d3 : decide ((j : Int) < (r.back.length : Int)) = true := decide_eq_true hji
     clear hs hsm hsv hlt HSL
     go_upto_region 18 with (fail)
     refine Wb.wp_at fun wH hwH => ?_
     obtain ⟨D, hD⟩ : ∃ D, wG.heap.size = D := ⟨_, rfl⟩
     have hDO : D ≠ O := by have := HO9.out.lt; omega
     have hbd : wH.heap[D]? = some (.cells #[.int .i64 s.y, .int .i64 s.i, .slice ya s.l.length yc] 50 (0, 0)) := by
      rw [hwH, ← hD]; exact Array.getElem?_push_size
     have HXH := Lib.hid (show Wb.Ext wG wH by rw [hwH]; (repeat' (first | (with_reducible assumption) | (with_reducible exact Wb.Ext.refl _) | (with_reducible refine Wb.Ext.drew ?_) | (with_reducible refine Wb.Ext.drewN ?_ _) | (with_reducible refine Wb.Ext.alloc ?_ _) | (with_reducible refine Wb.ext_set ?_ (by first | assumption | (simp; done) | (simp; omega) | omega) _) | (with_reducible refine Wb.Ext.trans ?_ (by assumption)))))
     simp only [hD]
     clear hwH hD z0 z1 z2
     have y2 : wH.cell? ⟨D, 2, none⟩ = some (.slice ya s.l.length yc) := bxx_cell hbd rfl
     have HKH := Lib.hid ((HKD.out.trans HK9.out).trans (TxK.ext HXH.out (Nat.le_of_lt HO9.out.lt)))
     have HK9H := Lib.hid (HK9.out.trans (TxK.ext HXH.out (Nat.le_of_lt HO9.out.lt)))
     have HOH := Lib.hid (HO9.out.ext HXH.out)
     obtain ⟨P3, hP3⟩ : ∃ P3, P2 ++ Wb.backT ((r.back.map Wb.ct).take j) = P3 := ⟨_, rfl⟩
     have hl3 : P3.length ≤ 30000301000000 := by
      have h1 := backT_take (B := r.back.map Wb.ct) HNB.out (by simpa using hfew) j
      rw [← hP3, List.length_append]
      omega
     rw [hP3] at HOH
     have HP3 := Lib.hid hP3
     have HBD := Lib.hid hbd
     have hsy : s.y = (Wb.ct s).1 := rfl
     have hsi : s.i = (Wb.ct s).2.1 := rfl
     have by1 := HSO.out.y
     have bi1 := HSO.out.i
     have hsl : s.l.length ≤ 1000 := HSO.out.few
     rw [← hsy] at by1
     rw [← hsi] at bi1
     clear hP3 hbd HO9 HK9 hsy hsi
     go_wp2_with fail
     go_loopw [85] (fun iv wr => ∃ m : Nat, m ≤ s.l.length ∧ iv = .int .i64 m ∧ Hid (OutB O (P3 ++ Wb.linesT (Wb.headB s.y s.i) (s.l.take m)) wr) ∧ Hid (TxK O wH wr)) (fun iv _ => s.l.length - (intOf iv).toNat)
     case atStart => exact ⟨0, Nat.zero_le _, rfl, Lib.hid (by simpa [Wb.linesT] using HOH.out), Lib.hid (TxK.refl _ _)⟩
     case round =>
      clear HOH y2 d3
      obtain ⟨m, hm, rfl, HO10, HK10⟩ := hrel
      obtain ⟨wI, hwz⟩ : ∃ z, z = wr := ⟨_, rfl⟩
      subst hwz
      by_cases hlt : m < s.l.length
      case neg =>
       obtain rfl : m = s.l.length := by omega
       have d4 : decide ((s.l.length : Int) < (s.l.length : Int)) = false := by simp
       have n4 : ¬ (s.l.length : Int) < (s.l.length : Int) := by omega
       have HKE := Lib.hid (HK9H.out.trans HK10.out)
       have hOo := HO10.out
       rw [List.take_of_length_le (Nat.le_refl _), ← HP3.out, List.append_assoc, show Wb.backT ((r.back.map Wb.ct).take j) ++ Wb.linesT (Wb.headB s.y s.i) s.l = Wb.backT ((r.back.map Wb.ct).take (j + 1)) from (Wb.backT_snoc HSK.out).symm] at hOo
       have HOE := Lib.hid hOo
       clear hOo hlt hm by1 bi1
       go_wp2
       go_roundw
       case rel => exact ⟨j + 1, by omega, by go_num, HOE, HKE⟩
       case measure => first | (simp [intOf]; done) | (simp [intOf]; omega)
      obtain ⟨x, hx⟩ := Wb.get_ex hlt
      obtain ⟨lb, lo, hlb, hlc⟩ := HSL2.out.opened (by rintro h; rw [h] at hx; simp at hx)
      obtain rfl : ya = some ⟨lb, lo, none⟩ := hlb
      have HXI := Lib.hid (TxK.old HXW.out hzs (HKH.out.trans HK10.out))
      have l0 := HXI.out.keep (hlc m x hx).1
      have l1 := HXI.out.keep (hlc m x hx).2.1
      have l2 := HXI.out.keep (hlc m x hx).2.2
      have hxo := HSO.out.ln x (List.mem_of_getElem? hx)
      have HXX := Lib.hid hx
      have hmi : (m : Int) < (s.l.length : Int) := by omega
      have d4 : decide ((m : Int) < (s.l.length : Int)) = true := decide_eq_true hmi
      clear hx hlc hlt
      go_upto_region 21 with (fail)
      refine Wb.wp_at fun wJ hwJ => ?_
      obtain ⟨Y, hY⟩ : ∃ Y, wI.heap.size = Y := ⟨_, rfl⟩
      have hYO : Y ≠ O := by have := HO10.out.lt; omega
      have hby : wJ.heap[Y]? = some (.cells #[.int .i64 x.part, .string (Wb.S x.code), .int .i64 x.cents] 89 (0, 0)) := by
       rw [hwJ, ← hY]; exact Array.getElem?_push_size
      have HXJ := Lib.hid (show Wb.Ext wI wJ by rw [hwJ]; (repeat' (first | (with_reducible assumption) | (with_reducible exact Wb.Ext.refl _) | (with_reducible refine Wb.Ext.drew ?_) | (with_reducible refine Wb.Ext.drewN ?_ _) | (with_reducible refine Wb.Ext.alloc ?_ _) | (with_reducible refine Wb.ext_set ?_ (by first | assumption | (simp; done) | (simp; omega) | omega) _) | (with_reducible refine Wb.Ext.trans ?_ (by assumption)))))
      simp only [hY]
      clear hwJ hY l0 l1 l2
      have HNJ := Lib.hid (bxx_ext ((HKH.out.trans HK10.out).box HN2.out (by decide) n12) HXJ.out)
      have HDJ := Lib.hid (bxx_ext (HK10.out.box HBD.out (by decide) hDO) HXJ.out)
      refine Code.wp_mono (OnEndX.imp ?_) (tx21 _ _ _ _ _ _ _ _ _ _ _ _ _ _ _ _ _ _ _ _ _ _ _ _ _ _ _ _ _ _ _ _ _ _ _ _ _ _ _ _ _ _ _ _ _ _ _ _ _ _ _ _ _ _ _ _ _ _ _ _ _ _ _ _ _ _ _ _ _ _ _ _ _ _ _ _ _ _ _ _ _ _ _ _ _ _ _ _ _ _ _ _ _ _ _ _ _ _ _ _ _ _ _ _ wJ O Nb Y x.part x.cents x.code _ _ _ D s.y s.i _ _ HDJ.out (by decide) hDO rfl rfl by1 bi1 _ (HO10.out.ext HXJ.out) (HT.out.ext (HXI.out.trans HXJ.out)) hby (by decide) hYO HNJ.out (by decide) n12 rfl rfl rfl hxo.1 (Nat.le_trans hxo.2 (by decide)) (by
       have h1 := linesT_take (hd := Wb.headB s.y s.i) (Wb.headB_le HSO.out) HSO.out.ln HSO.out.few m
       rw [List.length_append]
       have e : (Wb.ct s).2.2 = s.l := rfl
       rw [e] at h1
       omega))
      rintro a' wK ⟨zt89, zt90, zt91, zt92, zt93, zt94, zt95, zt96, zt97, zt98, zt99, zt100, zt101, zt102, zt103, rfl, ho6, hk6⟩
      rw [back_words s.y s.i x, List.append_assoc, ← Wb.linesT_snoc HXX.out] at ho6
      have HO7 := Lib.hid ho6
      have HK7 := Lib.hid ((HK10.out.trans (TxK.ext HXJ.out (Nat.le_of_lt HO10.out.lt))).trans hk6)
      clear ho6 hk6 hby
      (try dsimp only)
      go_wp2
      refine ⟨?_, ?_⟩
      (repeat apply Exists.intro)
      refine ⟨?_, rfl⟩
      exact ⟨m + 1, by omega, by go_num, HO7, HK7⟩
      first | (simp [intOf]; done) | (simp [intOf]; omega)
end Go.Proofs.YtnefdpnolojojaaGreatDoor
